/- layout.First: all words as they are at first. Condition: the configuration may be. -/
import Derived.Test.YtmiaghbakdapbaaFirst5p
import Derived.Test.YtmiaghbakdapbaaWords2
import Derived.Test.YtmiaghbakdapbaaCls
import Derived.StillTailTactics
set_option linter.unusedVariables false
set_option linter.unusedSimpArgs false
namespace Go.Proofs.Ytmiaghbakdapbaa
open Go.ChangeShapes Go.WideShapes Go.ChangeAt Go.RowKit

theorem el_u64m : ElemOf Try.prog 34 39 (.int .u64 0) 1 8 := elemOf Try.underlying34 (by kernel_rfl)

theorem own_at0 {w : World} {e : TypeId} {size g m c n : Nat} {xs : List Value} (h : Own w e size (.slice (some ⟨g, 0, none⟩) m c) n xs) (hne : 0 < n) :
    (∀ (j : Nat) u, xs[j]? = some u → w.cell? ⟨g, j, none⟩ = some u) ∧ ∀ o, w.frozen? ⟨g, o, none⟩ = false := by
  obtain ⟨g', off, e, -, -, -, hc, hf⟩ := own_atV h hne
  cases e
  exact ⟨fun j u hj => by have := hc j u hj; rwa [Nat.zero_add] at this, hf⟩
theorem get_last {α : Type} (l : List α) (x : α) : (l ++ [x])[l.length]? = some x := by simp
theorem set_last {α : Type} (l : List α) (x y : α) : (l ++ [x]).set l.length y = l ++ [y] := by simp
theorem get_app {α : Type} {l : List α} {i : Nat} {x : α} (h : l[i]? = some x) (m : List α) : (l ++ m)[i]? = some x := by
  rw [List.getElem?_append_left (List.getElem?_eq_some_iff.1 h).1]; exact h
theorem ownN_rep (n0 : Nat) (e : TypeId) (k : IntKind) (v : Value) (n : Nat) : ownC n0 e 1 v n (List.replicate n (.int k 0)) = ownN n0 e k v (List.replicate n 0) := by
  unfold ownN; simp
/-- A number is stored in a slice of the call's own that stands last. -/
theorem Has.setN {w0 w : World} {cs : List (Chunk w0.heap.size)} {e : TypeId} {k : IntKind} {g m c : Nat} {xs : List Int} (H : Has w0 w (cs ++ [ownN _ e k (.slice (some ⟨g, 0, none⟩) m c) xs])) (j : Nat) (u : Int) (hj : j < xs.length) :
    Has w0 (w.setCell ⟨g, j, none⟩ (.int k u)) (cs ++ [ownN _ e k (.slice (some ⟨g, 0, none⟩) m c) (xs.set j u)]) := by
  have h1 := Has.ownSet0 H cs.length (get_last cs _) j (.int k u) (by omega)
  rw [set_last] at h1
  unfold ownN
  rw [List.length_set, List.map_set]
  exact h1
/-- What is known of a slice of numbers that stands last. -/
theorem Has.lastN {w0 w : World} {cs : List (Chunk w0.heap.size)} {e : TypeId} {k : IntKind} {g m c : Nat} {xs : List Int} (H : Has w0 w (cs ++ [ownN _ e k (.slice (some ⟨g, 0, none⟩) m c) xs])) (h0 : 0 < xs.length) :
    (∀ (j : Nat), j < xs.length → w.cell? ⟨g, j, none⟩ = some (.int k (xs.getD j 0))) ∧ ∀ o, w.frozen? ⟨g, o, none⟩ = false := by
  obtain ⟨h1, h2⟩ := own_at0 (H.get cs.length (get_last cs _)) h0
  refine ⟨fun j hj => h1 j _ ?_, h2⟩
  rw [List.getElem?_map, List.getD_eq_getElem?_getD, List.getElem?_eq_getElem hj]
  rfl

theorem Has.lastAt {w0 w : World} {cs : List (Chunk w0.heap.size)} {e : TypeId} {k : IntKind} {g m c : Nat} {xs : List Int} (H : Has w0 w (cs ++ [ownN _ e k (.slice (some ⟨g, 0, none⟩) m c) xs])) (j : Nat) (hj : j < xs.length) :
    ∃ x, w.cell? ⟨g, j, none⟩ = some (.int k x) := ⟨_, (H.lastN (by omega)).1 j hj⟩

theorem MClassN_c {mb : Nat} {c : Cfg} {w : World} (h : MapAt w mb c) (v : Int) (hv : v ≤ 9223372036854775807) :
    Calls Try.prog 38 #[.pointer (some ⟨mb, 0, none⟩), .int .i64 v] w fun e w' => e = .returned (.int .i64 (c.clsAt v)) ∧ Below w.heap.size w w' := by
  obtain ⟨hok, av, rv, hb, ha, hr⟩ := h
  obtain ⟨m0, m1, m2, m3, m4, m5, m6, m7, m8, m9, m10, m11, m12, m13, m14, m15, m16, m17, m18, m19, m20, m21, m22, fm⟩ := row23 hb
  go_enter Try.func38, Try.ntmps38
  go_wp2_with fail
  refine (Class_c c.c0 c.c1 c.c2 c.c3 c.c4 v hv _).mono ?_
  rintro e w1 ⟨rfl, b1⟩
  go_wp2_with fail
  go_ret
  exact ⟨rfl, b1⟩

theorem cell_drewN1 (w : World) (n : Nat) (a : Addr) : (w.drewN n).cell? a = w.cell? a := rfl
theorem cell_drew1 (w : World) (a : Addr) : w.drew.cell? a = w.cell? a := rfl

theorem set_cell1 {w : World} {mb o p : Nat} {u : Value} (v : Value) (h : w.cell? ⟨mb, o, none⟩ = some u) (hne : p ≠ o) : (w.setCell ⟨mb, p, none⟩ v).cell? ⟨mb, o, none⟩ = some u := by
  exact (World.cell?_setCell_other _ _ _ _ (fun q => hne (congrArg Addr.off q))).trans h

theorem at_nat (x : Int) (h : 0 ≤ x) : ∃ n : Nat, x = (n : Int) ∧ x.toNat = n := ⟨x.toNat, by omega, rfl⟩

set_option maxRecDepth 100000 in
set_option maxHeartbeats 4000000 in
theorem First_h {w0 w : World} {cs : List (Chunk w0.heap.size)} (H : Has w0 w cs) (i : Nat) {mb : Nat} {av rv : Value} {c : Cfg} (hi : cs[i]? = some (mapC _ mb av rv c)) (h : CfgOk c) :
    Calls Try.prog 13 #[.pointer (some ⟨mb, 0, none⟩)] w fun e w' => ∃ g n, e = .returned (.slice (some ⟨g, 0, none⟩) n n) ∧ Has w0 w' (cs ++ [ownN _ 39 .u64 (.slice (some ⟨g, 0, none⟩) n n) c.first]) := by
  have hi' := fun ds => get_app hi ds
  have hbd := cfg_bd h
  have hnd := hbd.nd
  have hmn := hbd.mn
  have hal := hbd.al
  have hlk : ∀ p : Int, 1 ≤ p → p ≤ c.mn → 0 ≤ c.packAt p 1 ∧ c.packAt p 1 < c.all := fun p h1 h2 => by
    have := rSum_bd c.rooms (rooms_bd c)
    have e7 : c.all = c.n0P + rSum c.rooms := rfl
    have e6 : c.n0P = c.pkP + c.mn * 6 := rfl
    have := hbd.pk; have := hbd.dqP; have := h.mu
    unfold Cfg.packAt; rw [if_pos ⟨h1, h2⟩]; omega
  have hno : ∀ v : Int, 1 ≤ v → v ≤ c.nd → 12 ≤ c.nodeAt v 0 ∧ c.nodeAt v 0 + 4 < c.all := fun v h1 h2 => by
    have := nodeAt_bd h v ⟨h1, h2⟩
    have := nodeAt_hi v ⟨h1, h2⟩
    have := roomAt_pos v ⟨h1, h2⟩
    have e6 : c.n0P = c.pkP + c.mn * 6 := rfl
    have := hbd.pk; have := hbd.dqP; have := h.mu
    omega
  have hhd : ∀ k : Int, 0 ≤ k → k ≤ 4 → 0 ≤ c.headAt k ∧ c.headAt k < c.all := fun k h1 h2 => by
    have := hno 1 (by omega) (by omega)
    have := nodeAt_bd h 1 (by omega)
    have e6 : c.n0P = c.pkP + c.mn * 6 := rfl
    have := hbd.pk; have := hbd.dqP; have := h.mu; have := hbd.hd
    unfold Cfg.headAt; rw [if_pos ⟨h1, by omega⟩]; omega
  have FA := Lib.hid (And.intro hlk (And.intro hno hhd))
  have hN5 : 5 < c.all := by have := hno 1 (by omega) (by omega); omega
  clear hlk hno hhd hbd
  obtain ⟨N, hN, hN'⟩ := at_nat c.all (by omega)
  have HN := Lib.hid (And.intro hN hN')
  have hN1 : 5 < N ∧ N ≤ 9000 := by omega
  clear hN hN' hN5 hal
  obtain ⟨hm, -, -⟩ := H.get i hi
  have m8 := blk_at hm 8 (u := .int .i64 c.all) rfl
  go_enter Try.func13, Try.ntmps13
  have HE : Hid (Value.int .i64 c.all = Value.int .i64 N) := Lib.hid (congrArg (Value.int .i64) HN.out.1)
  go_wp2_with (at_make; refine wpl_mk H rfl (.tmp 14) (.tmp 14) rfl el_u64m rfl (by decide) N HE.out HE.out (by omega) ?_; intro w1 G1)
  rw [ownN_rep] at G1
  clear hm m8
  generalize w.heap.size = g at G1 ⊢
  obtain ⟨-, fr⟩ := G1.lastN (by simp; omega)
  obtain ⟨x5, c5⟩ := G1.lastAt 5 (by simp; omega)
  go_wp2_with fail
  refine (Pair_c 0 1 (by decide) (by decide) (by decide) (by decide) _).mono ?_
  rintro e w2 ⟨rfl, d2, rfl⟩
  have e1 : (0 : Int) * 4294967296 + 1 = 1 := rfl
  rw [e1]
  clear e1
  have eb : (List.replicate N 0).set 5 1 = c.base := by unfold Cfg.base; rw [HN.out.2]
  have G2 := (G1.setN 5 1 (by simp; omega)).drewN d2
  rw [eb] at G2
  clear eb G1
  have hln : ∀ n, (lnkF c c.base n).length = N := fun n => by rw [lnkF_len, base_len]; exact HN.out.2
  have hcl : c.comm.length = N := by rw [comm_len]; exact HN.out.2
  have hnl : ∀ k, (nxtF c c.comm k).length = N := fun k => by rw [nxtF_len]; exact hcl
  have LL := Lib.hid (And.intro hln (And.intro hcl hnl))
  clear hln hcl hnl
  have h5N : (5 : Int) < (N : Int) := by omega
  go_wp2_with fail
  go_loopw [4] (fun pv wr => ∃ n : Nat, pv = .int .i64 ((n : Int) + 1) ∧ (n : Int) + 1 ≤ c.mn ∧ Has w0 wr (cs ++ [ownN _ 39 .u64 (.slice (some ⟨g, 0, none⟩) N N) (lnkF c c.base n)])) (fun pv _ => 1200 - (intOf pv).toNat)
  case atStart => exact ⟨0, by simp, by omega, G2⟩
  case round =>
    obtain ⟨n, rfl, hn, G⟩ := hrel
    clear G2 fr c5
    obtain ⟨hm, -, -⟩ := G.get i (hi' _)
    have m6 := blk_at hm 6 (u := .int .i64 c.mn) rfl
    have m5 := blk_at hm 5 (u := .int .i64 c.nd) rfl
    obtain ⟨-, fr⟩ := G.lastN (by rw [LL.out.1]; omega)
    have M := G.mAt i (hi' _) h
    clear hm
    by_cases hlt : (n : Int) + 1 < c.mn
    · have hk := FA.out.1 ((n : Int) + 1) (by omega) (by omega)
      obtain ⟨pk, hpk, hpk'⟩ := at_nat _ hk.1
      have hpN : (pk : Int) < (N : Int) := by rw [← hpk, ← HN.out.1]; exact hk.2
      have PK := Lib.hid (And.intro hpk hpk')
      clear hpk hpk' hk
      obtain ⟨xk, ck⟩ := G.lastAt pk (by rw [LL.out.1]; omega)
      go_wp2_with fail
      refine (Link_q M _).mono ?_
      rw [PK.out.1]
      rintro e w3 ⟨rfl, d3, rfl⟩
      go_wp2_with fail
      go_roundw
      case rel =>
        have hG := (G.setN pk ((n : Int) + 1 + 1) (by rw [LL.out.1]; omega)).drewN d3
        refine ⟨n + 1, by go_num, by omega, ?_⟩
        have e : lnkF c c.base (n + 1) = (lnkF c c.base n).set pk ((n : Int) + 1 + 1) := by
          simp only [lnkF]
          have e2 : ((n + 1 : Nat) : Int) = (n : Int) + 1 := by omega
          rw [e2, PK.out.2]
          congr 1
          try omega
        rw [e]
        exact hG
      case measure => simp [intOf]; omega
    · have hnm : n = (c.mn - 1).toNat := by omega
      have EN : lnkF c c.base n = c.links := by rw [hnm]; rfl
      rw [EN] at G
      have hll : Hid (c.links.length = N) := Lib.hid (by rw [← EN]; exact LL.out.1 n)
      clear hnm EN
      have h0 := FA.out.2.1 c.nd (by omega) (by omega)
      obtain ⟨q0, hq0, hq0'⟩ := at_nat (c.nodeAt c.nd 0) (by omega)
      have e1 := nodeAt_j c.nd 1 (show 1 ≤ c.nd ∧ c.nd ≤ c.nd by omega)
      have hq1 : c.nodeAt c.nd 1 = ((q0 + 1 : Nat) : Int) := by rw [e1, hq0]; omega
      have hqN : (q0 : Int) + 4 < (N : Int) := by rw [← hq0, ← HN.out.1]; exact h0.2
      have hq1N : ((q0 + 1 : Nat) : Int) < (N : Int) := by omega
      have hq0N : (q0 : Int) < (N : Int) := by omega
      have Q0 := Lib.hid (And.intro hq0 hq0')
      have Q1 := Lib.hid (And.intro hq1 (show (c.nodeAt c.nd 1).toNat = q0 + 1 by omega))
      have hrb := roomAt_pos c.nd (show 1 ≤ c.nd ∧ c.nd ≤ c.nd by omega)
      clear hq0 hq0' hq1 e1 h0
      go_wp2_with fail
      refine (Common_q M).mono ?_
      rintro e w3 ⟨rfl, d3, rfl⟩
      go_wp2_with fail
      refine (State_q (M.drewN _) _).mono ?_
      rw [Q1.out.1]
      rintro e w4 ⟨rfl, d4, rfl⟩
      go_wp2_with fail
      refine (Header_q (M.drewN _) _).mono ?_
      rw [Q0.out.1]
      rintro e w5 ⟨rfl, d5, rfl⟩
      go_wp2_with fail
      refine (Room_q (M.drewN _) _).mono ?_
      rintro e w6 ⟨rfl, d6, rfl⟩
      obtain ⟨x1, cx1⟩ := G.lastAt (q0 + 1) (by rw [hll.out]; omega)
      obtain ⟨x0, cx0⟩ := G.lastAt q0 (by rw [hll.out]; omega)
      have G3 := ((G.drewN (d3 + d4 + d5 + d6)).setN (q0 + 1) 1 (by rw [hll.out]; omega))
      have G4 := G3.setN q0 (c.roomAt c.nd) (by rw [List.length_set, hll.out]; omega)
      have ec : (c.links.set (q0 + 1) 1).set q0 (c.roomAt c.nd) = c.comm := by unfold Cfg.comm; rw [Q1.out.2, Q0.out.2]
      rw [ec] at G4
      clear G3 ec M m6 m5
      go_wp2_with fail
      have HL := LL.out.2
      have hlen : Hid (∀ k, (nxtF c c.comm k).length = N) := Lib.hid HL.2
      clear HL
      go_loopw [6, 7] (fun vv u wr => ∃ (v k : Nat), (v : Int) + k + 1 ≤ c.nd ∧ c.nd ≤ (v : Int) + k + 1 ∧ vv = .int .i64 v ∧ Has w0 wr (cs ++ [ownN _ 39 .u64 (.slice (some ⟨g, 0, none⟩) N N) (nxtF c c.comm k)])) (fun vv _ _ => (intOf vv).toNat)
      case atStart => exact ⟨(c.nd - 1).toNat, 0, by omega, by omega, by congr 1; omega, G4⟩
      case round =>
        obtain ⟨v, k, hv1, hv2, rfl, G⟩ := hrel
        clear G4 cx1 cx0 fr
        obtain ⟨-, fr⟩ := G.lastN (by rw [hlen.out]; omega)
        have M := G.mAt i (hi' _) h
        by_cases hlt : (1 : Int) ≤ (v : Int)
        · have hcb := clsAt_bd (c := c) v (by omega)
          have hh := FA.out.2.2 (c.clsAt v) hcb.1 hcb.2
          obtain ⟨hd, hhd, hhd'⟩ := at_nat _ hh.1
          have hhN : (hd : Int) < (N : Int) := by rw [← hhd, ← HN.out.1]; exact hh.2
          have hn0 := FA.out.2.1 v (by omega) (by omega)
          have e3 := nodeAt_j (c := c) v 3 (by omega)
          obtain ⟨nx, hnx, hnx'⟩ := at_nat (c.nodeAt v 3) (by omega)
          have hnN : (nx : Int) < (N : Int) := by have := HN.out.1; omega
          have hne : hd ≠ nx := by
            intro e
            have : c.headAt (c.clsAt v) < c.n0P := by
              have hb := cfg_bd h
              have e6 : c.n0P = c.pkP + c.mn * 6 := rfl
              have := hb.pk; have := hb.dqP; have := hb.hd
              unfold Cfg.headAt; rw [if_pos ⟨hcb.1, by omega⟩]; omega
            have := nodeAt_bd h (v : Int) (by omega)
            omega
          have HD := Lib.hid (And.intro hhd hhd')
          have NX := Lib.hid (And.intro hnx hnx')
          clear hhd hhd' hnx hnx' hh hn0 e3 hcb
          go_wp2_with fail
          refine (MClassN_c M v (by omega)).mono ?_
          rintro e w7 ⟨rfl, b7⟩
          have G5 := G.up b7
          have M5 := G5.mAt i (hi' _) h
          obtain ⟨-, fr5⟩ := G5.lastN (by rw [hlen.out]; omega)
          have ch := (G5.lastN (by rw [hlen.out]; omega)).1 hd (by rw [hlen.out]; omega)
          obtain ⟨xn, cn⟩ := G5.lastAt nx (by rw [hlen.out]; omega)
          generalize hX : (nxtF c c.comm k).getD hd 0 = X at ch
          have HX := Lib.hid hX
          clear hX
          go_wp2_with fail
          refine (Head_q M5 _).mono ?_
          rw [HD.out.1]
          rintro e w8 ⟨rfl, d8, rfl⟩
          go_wp2_with fail
          go_region_held3 (fun w' => w'.cell? ⟨g, hd, none⟩ = some (.int .u64 X)) (first | (simp only [cell_drewN1, cell_drew1]; with_reducible assumption) | (exact set_cell1 _ (by simp only [cell_drewN1, cell_drew1]; with_reducible assumption) hne.symm)) (first | (go_at_call 43; refine (Next_q ((M5.drewN _).drewN 1) _).mono ?_; rw [NX.out.1]; rintro e w9 ⟨rfl, d9, rfl⟩))
          have G6 := (G5.drewN (d8 + 1 + d9)).setN nx X (by rw [hlen.out]; omega)
          go_wp2_with fail
          refine (Pair_c 0 (v : Int) (by decide) (by decide) (by omega) (by omega) _).mono ?_
          rintro e w10 ⟨rfl, d10, rfl⟩
          have e1 : (0 : Int) * 4294967296 + (v : Int) = (v : Int) := by omega
          rw [e1]
          clear e1
          have G7 := (G6.drewN d10).setN hd v (by rw [List.length_set, hlen.out]; omega)
          go_wp2_with fail
          go_roundw
          case rel =>
            have ev : c.nd - ((k + 1 : Nat) : Int) = (v : Int) := by omega
            have e : nxtF c c.comm (k + 1) = ((nxtF c c.comm k).set nx X).set hd v := by
              simp only [nxtF]
              rw [ev, HD.out.2, NX.out.2, HX.out]
            exact ⟨v - 1, k + 1, by omega, by omega, by congr 1; omega, by rw [e]; exact G7⟩
          case measure => simp [intOf]; omega
        · have ek : k = (c.nd - 1).toNat := by omega
          have e : nxtF c c.comm k = c.first := by rw [ek]; rfl
          have EK := Lib.hid e
          clear e ek
          go_wp2_with fail
          go_ret
          exact ⟨g, N, rfl, by rw [← EK.out]; exact G⟩

end Go.Proofs.Ytmiaghbakdapbaa

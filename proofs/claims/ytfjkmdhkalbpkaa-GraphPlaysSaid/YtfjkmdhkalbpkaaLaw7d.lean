/- The walk of GraphOwn. No condition. -/
import Derived.Test.YtfjkmdhkalbpkaaLaw7b
import Derived.Deep.RegionHeld3
set_option linter.unusedVariables false
set_option linter.unusedSimpArgs false
namespace Go.Proofs.Ytfjkmdhkalbpkaa
open Go.ChangeShapes Go.WideShapes Go.ChangeAt Go.RowKit

theorem gb_pop {G : PG} {M : Int} {n c : Nat} (h : GB G M n c) (m : Int) : GB (G.pop m).1 M n c := by
  have h1 := gb_act h 3 m 0 0 0
  have e : (G.act 3 m 0 0 0).1 = (G.pop m).1 := rfl
  rw [e] at h1
  refine ⟨h1.ok, h1.most, h1.len, ?_⟩
  have : (G.pop m).1.nodes = G.nodes := by
    unfold PG.pop
    split
    · rfl
    · split <;> rfl
  rw [this]; exact h.nodes

theorem roots_rts {G : PG} {l : List Int} (h : l ∈ G.roots) : ∃ k : Nat, k < G.roots.length ∧ G.rts k = l := by
  obtain ⟨k, hk⟩ := List.mem_iff_getElem?.1 h
  exact ⟨k, (List.getElem?_eq_some_iff.1 hk).1, by unfold PG.rts PG.L; rw [iget_nat, hk]; rfl⟩

theorem set_cell7 {w : World} {a : Addr} {n : Nat} : (w.drewN n).cell? a = w.cell? a := rfl
theorem cell_drew7 (w : World) (a : Addr) : w.drew.cell? a = w.cell? a := rfl

theorem own_cell7 {w : World} {g off n c : Nat} {ps : List (Value × List Int)} {j : Nat} {p : Value × List Int} (h : Own w 30 1 (.slice (some ⟨g, off, none⟩) n c) ps.length (ps.map (·.1))) (hp : ps[j]? = some p) : w.cell? ⟨g, off + j, none⟩ = some p.1 := by
  have hj := (List.getElem?_eq_some_iff.1 hp).1
  obtain ⟨g', off', hh, -, -, -, hc, -⟩ := own_atV (n := ps.length) h (by omega)
  cases hh
  exact hc j p.1 (by rw [List.getElem?_map, hp]; rfl)

theorem idx_last {α β : Type} (c1 c2 x : α) (ps : List β) (f : β → α) : (([c1, c2] ++ ps.map f) ++ [x])[2 + ps.length]? = some x := by
  have e : ([c1, c2] ++ ps.map f).length = 2 + ps.length := by simp; omega
  rw [List.getElem?_append_right (by omega), e, Nat.sub_self]; rfl
theorem idx_mid {α β : Type} (c1 c2 x : α) (ps : List β) (f : β → α) {j : Nat} {p : β} (h : ps[j]? = some p) : (([c1, c2] ++ ps.map f) ++ [x])[2 + j]? = some (f p) := by
  have hj := (List.getElem?_eq_some_iff.1 h).1
  have e : ([c1, c2] ++ ps.map f).length = 2 + ps.length := by simp; omega
  rw [List.getElem?_append_left (by omega), show 2 + j = ([c1, c2] : List α).length + j from rfl, app_idx, List.getElem?_map, h]; rfl

theorem own_same7 {w0 w : World} {c1 c2 : Chunk w0.heap.size} {ps : List (Value × List Int)} {j : Nat} {pv v : Value} {l l' : List Int} (H : Has w0 w (([c1, c2] ++ ps.map (ownP _)) ++ [ownN _ 3 .i64 v l'])) (hp : ps[j]? = some (pv, l)) (hl : l'.length < 1000000) (he : l' = l) :
    Calls Try.prog 21 #[v, pv] w fun e w' => e = .returned (.bool true) ∧ ∃ n, w' = w.drewN n := by
  have hj := (List.getElem?_eq_some_iff.1 hp).1
  have h := Same_h H (2 + ps.length) (2 + j) (idx_last _ _ _ _ _) (v' := pv) (l' := l) (idx_mid _ _ _ _ _ hp) hl
  rw [he] at h
  rw [show (l == l) = true by simp] at h
  exact h

set_option maxRecDepth 100000 in
set_option maxHeartbeats 8000000 in
theorem own_ok (va : Value) (na : Nat) (w : World) (ha : IsRows actK w va na) :
    Calls Try.prog 7 #[va] w fun e w' => e = .returned (.bool true) ∧ Below w.heap.size w w' := by
  have RA := Lib.hid ha
  obtain ⟨aa, ac, rfl⟩ := rows_val ha
  clear ha
  by_cases h1 : (60 : Int) < (na : Int)
  · go_enter Try.func7, Try.ntmps7
    go_wp2_with fail
    refine (awake7 _).mono ?_
    rintro e w1 ⟨rfl, q1⟩
    go_wp2_with fail
    go_ret
    exact ⟨rfl, q1⟩
  go_enter Try.func7, Try.ntmps7
  go_wp2_with fail
  refine (awake7 _).mono ?_
  rintro e w1 ⟨rfl, q1⟩
  have G1 := (Has.nil w).up q1
  go_wp2_with fail
  refine (New_h G1 3 6 3 (by decide)).mono ?_
  rintro e w2 ⟨gb, S0, rfl, G2⟩
  have B2 := Lib.hid (newG_gb 3 6 3)
  clear G1 q1
  go_wp2_with fail
  go_loopw [5, 6, 7, 8] (fun iv _ _ _ wr => ∃ (k : Nat) (S : GS) (G : PG), k ≤ na ∧ iv = .int .i64 k ∧ Hid (GB G 6 3 (k + 1)) ∧ Has w wr [grC _ gb S G]) (fun iv _ _ _ _ => na - (intOf iv).toNat)
  case atStart => exact ⟨0, S0, _, by omega, rfl, B2, G2⟩
  case round =>
  obtain ⟨k, S, G, hk, rfl, B, H⟩ := hrel
  clear G2
  by_cases hlt : k < na
  · have hlt' : (k : Int) < (na : Int) := by omega
    have sm := B.out.small (by decide) (by decide) (by omega)
    have SM := Lib.hid sm
    have H0 : Has w wr ([grC _ gb S G, ownC _ 30 1 (.slice none 0 0) ([] : List (Value × List Int)).length (([] : List (Value × List Int)).map (·.1))] ++ ([] : List (Value × List Int)).map (ownP _)) := H.ownNil _ 1
    clear sm H
    go_wp2_with fail
    go_loopw [6, 7] (fun sv jv wr => ∃ (j : Nat) (ps : List (Value × List Int)), j ≤ 3 ∧ jv = .int .i64 j ∧ Hid (ps.map (·.2) = (List.range j).map fun (q : Nat) => G.rts q) ∧ Has w wr ([grC _ gb S G, ownC _ 30 1 sv ps.length (ps.map (·.1))] ++ ps.map (ownP _))) (fun _ jv _ => 3 - (intOf jv).toNat)
    case atStart => exact ⟨0, [], by omega, rfl, Lib.hid rfl, H0⟩
    case round =>
    obtain ⟨j, ps, hj, rfl, E, H⟩ := hrel
    clear H0
    have hpl : ps.length = j := by have := congrArg List.length E.out; simpa using this
    have HPL := Lib.hid hpl
    obtain ⟨sa, sc, rfl⟩ := own_is (H.get 1 rfl)
    by_cases hj3 : j < 3
    · have hj3' : (j : Int) < 3 := by omega
      have hpl2 : ps.length + 1 < 1000000000000 := by omega
      clear hpl
      go_wp2_with fail
      refine (Roots_h H 0 rfl B.out.ok SM.out.1 SM.out.2.1 j).mono ?_
      rintro e w4 ⟨v4, rfl, H4'⟩
      obtain ⟨xa, xc, hx⟩ := own_is (H4'.get (2 + ps.length) (idx_last _ _ _ _ _))
      have H4 : Has w w4 ([grC _ gb S G, ownC _ 30 1 (.slice sa ps.length sc) ps.length (ps.map (·.1))] ++ (ps.map (ownP _) ++ [ownP _ (v4, G.rts j)])) := by rw [← List.append_assoc]; exact H4'
      subst hx
      clear H H4'
      go_wp2_with (at_builtin; refine wpl_app H4 1 rfl (.tmp 28) (.tmp 32) rfl el_s7 rfl (by decide) (by decide) rfl rfl [.slice xa (G.rts j).length xc] rfl rfl (by simp [Value.oneCell']) hpl2 ?_; intro v5 w5 H5)
      obtain ⟨pq, hpq⟩ : ∃ pq : Value × List Int, pq = (.slice xa (G.rts j).length xc, G.rts j) := ⟨_, rfl⟩
      have H6 : Has w w5 ([grC _ gb S G, ownC _ 30 1 v5 (ps ++ [pq]).length ((ps ++ [pq]).map (fun q : Value × List Int => q.1))] ++ (ps ++ [pq]).map (ownP _)) := by
        rw [List.length_append, List.map_append, List.map_append, hpq]; exact H5
      have E2 : Hid ((ps ++ [pq]).map (fun q : Value × List Int => q.2) = (List.range (j + 1)).map fun (q : Nat) => G.rts q) := Lib.hid (by rw [List.map_append, E.out, List.range_succ, List.map_append, hpq]; rfl)
      clear hpq
      go_roundw
      case rel => exact ⟨j + 1, _, by omega, by go_num, E2, H6⟩
      case measure => simp [intOf]; omega
    · have hje : j = 3 := by omega
      subst hje
      obtain ⟨pb, poff, pcap, d, m, a, s, b, hv, hd, hc⟩ := act_at RA.out k hlt
      cases hv
      obtain ⟨p0, p1, p2, p3, p4⟩ := hc _ _ H
      have C := Lib.hid (play_h H 0 rfl B.out.ok SM.out.1 SM.out.2.1 d m a s b hd)
      have HC := Lib.hid (fun (wq : World) (cq : List (Chunk w.heap.size)) (Hq : Has w wq cq) => (hc wq cq Hq).2.1)
      have B' := Lib.hid (gb_act B.out d m a s b)
      have OWN := Lib.hid (fun (q : Nat) (hq : (q : Int) ≠ m) => PG.act_own (g := G) (d := d) (a := a) (i := s) (b := b) hq)
      clear hc hpl hj3
      go_wp2_with fail
      refine C.out.mono ?_
      rintro e w4 ⟨rfl, S', H4'⟩
      have H4 : Has w w4 ([grC _ gb S' (G.act d m a s b).1, ownC _ 30 1 (.slice sa ps.length sc) ps.length (ps.map (·.1))] ++ ps.map (ownP _)) := H4'
      clear H4' C H p0 p1 p2 p3 p4
      generalize (G.act d m a s b).1 = G' at H4 B' OWN
      have sm' := B'.out.small (by decide) (by decide) (by omega)
      have SM' := Lib.hid sm'
      clear sm'
      go_wp2_with fail
      go_loopw [8] (fun jv wr => ∃ (j : Nat), j ≤ 3 ∧ jv = .int .i64 j ∧ Has w wr ([grC _ gb S' G', ownC _ 30 1 (.slice sa ps.length sc) ps.length (ps.map (·.1))] ++ ps.map (ownP _))) (fun jv _ => 3 - (intOf jv).toNat)
      case atStart => exact ⟨0, by omega, rfl, H4⟩
      case round =>
      obtain ⟨j, hj, rfl, H⟩ := hrel
      clear H4
      by_cases hj3 : j < 3
      · have hj3' : (j : Int) < 3 := by omega
        have p1 := HC.out _ _ H
        by_cases hjm : (j : Int) = m
        · have hjmb : ((j : Int) != m) = false := by simpa using hjm
          clear hjm
          go_wp2_with fail
          go_quiet (fail)
          go_wp2_with fail
          go_roundw
          case rel => exact ⟨j + 1, by omega, by go_num, H.drewN _⟩
          case measure => simp [intOf]; omega
        · have hjmb : ((j : Int) != m) = true := by simpa using hjm
          have O := Lib.hid (OWN.out j hjm)
          clear hjm
          have hjp : j < ps.length := by rw [HPL.out]; exact hj3
          have hjp' : (j : Int) < (ps.length : Int) := by omega
          obtain ⟨⟨pv, pl⟩, hp⟩ : ∃ p, ps[j]? = some p := ⟨_, List.getElem?_eq_getElem hjp⟩
          have hpl' : pl = G.rts j := by
            have h2 := congrArg (fun l => l[j]?) E.out
            simp only [List.getElem?_map, hp, List.getElem?_range hj3, Option.map_some] at h2
            exact Option.some.inj h2
          subst hpl'
          obtain ⟨wg, woff, hh, -, -, -, wcell, -⟩ := own_atV (n := ps.length) (H.get 1 rfl) (by omega)
          cases hh
          have wc := wcell j pv (by rw [List.getElem?_map, hp]; rfl)
          have HP := Lib.hid hp
          clear wcell hp
          have HD := H.drewN 1
          go_wp2_with fail
          go_region_held3 (fun w' => w'.cell? ⟨pb, poff + k * 5 + 1, none⟩ = some (.int .i64 m) ∧ w'.cell? ⟨wg, woff + j, none⟩ = some pv) (refine ⟨?_, ?_⟩ <;> (first | (with_reducible assumption) | (simp only [set_cell7, cell_drew7]; with_reducible assumption))) (first | (go_at_call 23; refine (Roots_h (H.drewN _) 0 rfl B'.out.ok SM'.out.1 SM'.out.2.1 j).mono ?_; rintro e v4 ⟨x4, rfl, K4⟩; have q1 := HC.out _ _ K4; have q2 : v4.cell? ⟨wg, woff + j, none⟩ = some pv := (own_cell7 (K4.get 1 rfl) HP.out)) | (go_at_call 21; refine (own_same7 K4 HP.out (rts_len6 B'.out.ok (by rw [B'.out.most]; decide) SM'.out.1 _) O.out).mono ?_; rintro e v5 ⟨rfl, d5, rfl⟩; have K5 := K4.drewN d5))
          go_wp2_with fail
          go_roundw
          case rel => exact ⟨j + 1, by omega, by go_num, K5.front7⟩
          case measure => simp [intOf]; omega
      · have hj3' : ¬ (j : Int) < 3 := by omega
        go_wp2_with fail
        go_roundw
        case rel => exact ⟨k + 1, S', G', by omega, by go_num, B', H.pick [0] (by decide) (by simp)⟩
        case measure => simp [intOf]; omega
  · have hge : ¬ (k : Int) < (na : Int) := by omega
    have B0 : Hid (GB G 6 3 100) := Lib.hid (B.out.le (by omega))
    clear B
    go_wp2_with fail
    go_loopw [9, 10] (fun mv _ wr => ∃ (m : Nat) (S : GS) (G : PG), m ≤ 3 ∧ mv = .int .i64 m ∧ Hid (GB G 6 3 100 ∧ ∀ q : Nat, q < m → G.rts q = []) ∧ Has w wr [grC _ gb S G]) (fun mv _ _ => 3 - (intOf mv).toNat)
    case atStart => exact ⟨0, S, G, by omega, rfl, Lib.hid ⟨B0.out, fun q hq => by omega⟩, H⟩
    case round =>
    obtain ⟨m, S, G, hm, rfl, B, H⟩ := hrel
    clear B0
    by_cases hm3 : m < 3
    · have hm3' : (m : Int) < 3 := by omega
      have hl6 : (G.rts m).length ≤ 6 := by
        have h1 := rts_len B.out.1.ok (by rw [B.out.1.most]; decide) m
        rw [B.out.1.most] at h1; omega
      have L6 : Hid (GB G 6 3 100 ∧ (∀ q : Nat, q < m → G.rts q = []) ∧ (G.rts m).length ≤ 6 - 0) := Lib.hid ⟨B.out.1, B.out.2, hl6⟩
      clear B hl6
      go_wp2_with fail
      go_loopw [10] (fun kv wr => ∃ (k : Nat) (S : GS) (G : PG), k ≤ 6 ∧ kv = .int .i64 k ∧ Hid (GB G 6 3 100 ∧ (∀ q : Nat, q < m → G.rts q = []) ∧ (G.rts m).length ≤ 6 - k) ∧ Has w wr [grC _ gb S G]) (fun kv _ => 6 - (intOf kv).toNat)
      case atStart => exact ⟨0, S, G, by omega, rfl, L6, H⟩
      case round =>
      obtain ⟨k', S', G', hk', rfl, L, H'⟩ := hrel
      clear L6 H
      have sm := L.out.1.small (by decide) (by decide) (by decide)
      have PL := Lib.hid (PG.pop_len G' m)
      have PH := Lib.hid (Pop_h H' 0 rfl L.out.1.ok sm.1 sm.2.1 m)
      have BP := Lib.hid (gb_pop L.out.1 m)
      clear sm
      by_cases hk6 : k' < 6
      · have hk6' : (k' : Int) < 6 := by omega
        go_wp2_with fail
        refine PH.out.mono ?_
        rintro e w4 ⟨rfl, S4, H4⟩
        go_wp2_with fail
        go_roundw
        case rel => exact ⟨k' + 1, S4, _, by omega, by go_num, Lib.hid ⟨BP.out, fun q hq => by rw [PL.out.2.1 q (by omega)]; exact L.out.2.1 q hq, by have := PL.out.1; have := L.out.2.2; omega⟩, H4⟩
        case measure => simp [intOf]; omega
      · have hk6' : ¬ (k' : Int) < 6 := by omega
        have hz : (G'.rts m).length = 0 := by have := L.out.2.2; omega
        have e2 : (G'.pop m).2 = false := by rw [PL.out.2.2, hz]; rfl
        have PH' := Lib.hid (show Calls Try.prog 25 #[.pointer (some ⟨gb, 0, none⟩), .int .i64 m] wr fun e w' => GrR w [grC _ gb S' G'] 0 gb (G'.pop m).1 (.bool false) e w' by rw [← e2]; exact PH.out)
        have HZ := Lib.hid hz
        clear PH hz e2
        go_wp2_with fail
        refine PH'.out.mono ?_
        rintro e w4 ⟨rfl, S4, H4⟩
        go_wp2_with fail
        go_roundw
        case rel => exact ⟨m + 1, S4, _, by omega, by go_num, Lib.hid ⟨BP.out, fun q hq => by
          by_cases e : q = m
          · subst e
            have h1 := PL.out.1
            rw [HZ.out] at h1
            exact List.length_eq_zero_iff.1 h1
          · rw [PL.out.2.1 q e]; exact L.out.2.1 q (by omega)⟩, H4⟩
        case measure => simp [intOf]; omega
    · have hm3' : ¬ (m : Int) < 3 := by omega
      have sm := B.out.1.small (by decide) (by decide) (by decide)
      have RH := Reach_h H 0 rfl B.out.1.ok sm.2.2.1 sm.2.1 sm.2.2.2
      rw [reach_none (fun l hl => by
        obtain ⟨q, hq, e⟩ := roots_rts hl
        rw [← e]
        exact B.out.2 q (by have := B.out.1.len; omega))] at RH
      have HRH := Lib.hid RH
      clear RH sm
      go_wp2_with fail
      refine HRH.out.mono ?_
      rintro e w4 ⟨v4, rfl, H4⟩
      obtain ⟨xa, xc, rfl⟩ := own_is (H4.get 1 rfl)
      go_wp2_with fail
      go_ret
      exact ⟨rfl, H4.below⟩

theorem walk_GraphOwn (aa : Option Addr) (al ac na : Nat) (w : World) (ha : IsRows actK w (.slice aa al ac) na) :
    Calls Try.prog 7 #[.slice aa al ac] w fun e w' => e = .returned (.bool true) ∧ Below w.heap.size w w' := own_ok _ na w ha

end Go.Proofs.Ytfjkmdhkalbpkaa

/- The document's graph: which nodes can be come to. Condition: fewer than a thousand lists. -/
import Derived.Test.YtfjkmdhkalbpkaaRg7l
set_option linter.unusedVariables false
set_option linter.unusedSimpArgs false
namespace Go.Proofs.Ytfjkmdhkalbpkaa
open Go.ChangeShapes Go.WideShapes Go.ChangeAt Go.RowKit

def ReachedR (w0 : World) (cs : List (Chunk w0.heap.size)) (G : PG) (e : Ending) (w' : World) : Prop := ∃ b is, e = .returned (.slice (some ⟨b, 0, none⟩) G.nodes.length G.nodes.length) ∧ PG.Passes G is G.nodes.length ∧ Has w0 w' (cs ++ [blC _ b G.nodes.length is])

theorem Has.second {w0 w : World} {cs : List (Chunk w0.heap.size)} {a c : Chunk w0.heap.size} (H : Has w0 w (cs ++ [a, c])) : Has w0 w (cs ++ [c]) := by
  have h := H.perm (List.Perm.append_left cs (List.perm_append_comm (l₁ := [a]) (l₂ := [c])))
  have h' : Has w0 w ((cs ++ [c]) ++ [a]) := by rw [List.append_assoc]; exact h
  exact h'.front7

/-- The roots of the first m mutators are marked. -/
structure Ro (G : PG) (is : List Bool) (m : Nat) : Prop where
  inv : PG.RInv G is
  rt : ∀ (m' : Nat) l, m' < m → G.roots[m']? = some l → ∀ v ∈ l, 0 < v → PG.on is v

theorem ro_root {G : PG} {is : List Bool} {m a q : Nat} {l : List Int} (ok : G.Ok) (I : Ro G is m) (hl : G.roots[m]? = some l) (hv : l[a]? = some ((q : Int) + 1)) (J : ∀ v ∈ l.take a, 0 < v → PG.on is v) (hq : q < G.nodes.length) : Ro G (is.set q true) m ∧ ∀ v ∈ l.take (a + 1), 0 < v → PG.on (is.set q true) v := by
  have e : (((q : Int) + 1) - 1).toNat = q := by omega
  have k : ∀ u, PG.on is u → PG.on (is.set q true) u := fun u h => by have := PG.on_keep (v := (q : Int) + 1) h; rwa [e] at this
  have s : PG.on (is.set q true) ((q : Int) + 1) := by
    have := PG.on_set (is := is) (v := (q : Int) + 1) (by rw [I.inv.len]; omega) (by omega)
    rwa [e] at this
  refine ⟨⟨?_, fun m' l' h h' v hv h0 => k v (I.rt m' l' h h' v hv h0)⟩, fun v hvm h0 => ?_⟩
  · have := PG.rinv_set I.inv (v := (q : Int) + 1) (by omega) (.root (List.mem_of_getElem? hl) (List.mem_of_getElem? hv) (by omega))
    rwa [e] at this
  · rcases (take_mem_succ hv v).1 hvm with rfl | h
    · exact s
    · exact k v (J v h h0)

set_option maxRecDepth 100000 in
set_option maxHeartbeats 4000000 in
theorem Reached_r {w0 w : World} {cs : List (Chunk w0.heap.size)} (H : Has w0 w cs) (i : Nat) {X : RS} {G : PG} (hi : cs[i]? = some (rgC _ X G)) (ok : G.Ok) (hM : G.most < 1000000) (hR : G.roots.length < 1000) (hN : G.nodes.length < 1000) :
    Calls Try.prog 38 #[X.v G.most] w fun e w' => ReachedR w0 cs G e w' := by
  have A : RgAt w X G := H.get i hi
  have hrl := rg_rlen A
  have hnl := rg_nlen A
  obtain ⟨ra, rc, hrv⟩ := ll_val A.r
  obtain ⟨na, nc, hnv⟩ := ll_val A.n
  have HI := Lib.hid hi
  clear A hi
  obtain ⟨rv, rs, nv, ns⟩ := X
  dsimp only at hrv hnv hrl hnl
  subst hrv hnv
  unfold RS.v ReachedR
  rw [hnl]
  obtain ⟨N, hNN⟩ : ∃ N, N = ns.length := ⟨_, rfl⟩
  have HNN : Hid (N = G.nodes.length) := Lib.hid (by omega)
  have HRL : Hid (rs.length = G.roots.length) := Lib.hid (by omega)
  rw [← hNN]
  have hN9 : N < 1000 := by omega
  have hmk := fun w : World => run_make_row' (P := Try.prog) 49 4 (.bool false) 1 Try.underlying49 (by kernel_rfl) rfl .i64 .i64 N (by omega) (by omega) w
  have K := H.blkNew #[.slice ra rs.length rc, .slice na N nc, .int .i64 G.most] 36
  have K2 := K.blNew N (by omega)
  rw [List.append_assoc] at K2
  have HNS : Hid (N = ns.length) := Lib.hid hNN
  clear hNN hnl hrl K
  go_enter Try.func38, Try.ntmps38
  go_wp2_with fail
  obtain ⟨B, hB⟩ : ∃ B, B = w.heap.size := ⟨_, rfl⟩
  have K3 : Has w0 ((w.alloc (.cells #[.slice ra rs.length rc, .slice na N nc, .int .i64 G.most] 36)).alloc (.cells (madeCells #[Value.bool false] N) 4)) (cs ++ [rgT B _ (.slice ra rs.length rc) (.slice na N nc) G.most, blC _ (B + 1) N (List.replicate N false)]) := by
    rw [show (w.alloc (.cells #[.slice ra rs.length rc, .slice na N nc, .int .i64 G.most] 36)).heap.size = w.heap.size + 1 by simp, ← hB] at K2
    exact K2
  obtain ⟨W, HW, eW⟩ := K3.name
  rw [← eW.out, ← hB]
  clear eW K3 K2 hB hmk
  have hR9 : (rs.length : Int) < 1000 := by have := HRL.out; omega
  go_loopw [4, 5] (fun mv _ wr => ∃ (m : Nat) (is : List Bool), m ≤ rs.length ∧ mv = .int .i64 m ∧ Hid (Ro G is m) ∧ Has w0 wr (cs ++ [rgT B _ (.slice ra rs.length rc) (.slice na N nc) G.most, blC _ (B + 1) N is])) (fun mv _ _ => rs.length - (intOf mv).toNat)
  case atStart => exact ⟨0, _, by omega, rfl, Lib.hid ⟨⟨by rw [List.length_replicate]; exact HNN.out, fun v h1 hv => by unfold PG.on at hv; rw [List.getElem?_replicate] at hv; split at hv <;> simp at hv⟩, fun m' l h => by omega⟩, HW⟩
  case round =>
  obtain ⟨m, is, hm, rfl, I, G1⟩ := hrel
  clear HW
  obtain ⟨x0, x1, x2, fx⟩ := row3 (G1.get _ (app_idx _ _ 0))
  by_cases hlt : m < rs.length
  · have A1 : RgAt wr _ G := G1.get i (app_old HI.out)
    obtain ⟨l, hl⟩ : ∃ l, G.roots[m]? = some l := ⟨_, List.getElem?_eq_getElem (by have := HRL.out; omega)⟩
    have hl' := hl
    rw [rg_roots A1] at hl'
    obtain ⟨gb, off, c, la, lc, hv, hps, hkl, hcell, hrd⟩ := ll_at A1.r hl'
    dsimp only at hv
    simp only [Value.slice.injEq] at hv
    obtain ⟨rfl, -, rfl⟩ := hv
    have hmi : (m : Int) < (rs.length : Int) := by omega
    have HL := Lib.hid hl
    have HPS := Lib.hid hps
    have hl9 : l.length < 1000000 := by have := ok.rl l (List.mem_of_getElem? hl); omega
    have LLH : Hid (∀ (wq : World) (cq : List (Chunk w0.heap.size)), Has w0 wq (cs ++ cq) → LL wq (.slice (some ⟨gb, off, none⟩) rs.length rc) rs) := Lib.hid (fun wq cq Hq => (Hq.get i (app_old HI.out) : RgAt wq _ G).r)
    clear A1 hl hl' hps hkl hrd
    go_wp2_with fail
    go_loopw [5] (fun av wr => ∃ (a : Nat) (is : List Bool), a ≤ l.length ∧ av = .int .i64 a ∧ Hid (Ro G is m ∧ ∀ v ∈ l.take a, 0 < v → PG.on is v) ∧ Has w0 wr (cs ++ [rgT B _ (.slice (some ⟨gb, off, none⟩) rs.length rc) (.slice na N nc) G.most, blC _ (B + 1) N is])) (fun av _ => l.length - (intOf av).toNat)
    case atStart => exact ⟨0, is, by omega, rfl, Lib.hid ⟨I.out, fun v hv => by simp at hv⟩, G1⟩
    case round =>
    obtain ⟨a, is', ha, rfl, I', G2⟩ := hrel
    clear G1 x0 x1 x2 fx hcell
    obtain ⟨x0, x1, x2, fx⟩ := row3 (G2.get _ (app_idx _ _ 0))
    have hcell := ll_cell (LLH.out _ _ G2) HPS.out
    have hrd := ((LLH.out _ _ G2).2 m _ HPS.out).1
    dsimp only at hcell hrd
    by_cases hal : a < l.length
    · have hai : (a : Int) < (l.length : Int) := by omega
      have hab : (a : Int) < 1000000 := by omega
      obtain ⟨v, hv⟩ : ∃ v, l[a]? = some v := ⟨_, List.getElem?_eq_getElem hal⟩
      have hvb := ok.rv l (List.mem_of_getElem? HL.out) v (List.mem_of_getElem? hv)
      rcases hrd with ⟨_, h0⟩ | ⟨g2, off2, c2, hv2, hc2⟩
      · rw [h0] at hal; simp at hal
      simp only [Value.slice.injEq] at hv2
      obtain ⟨rfl, -, rfl⟩ := hv2
      have hcv := hc2 a v hv
      clear hc2
      by_cases hv0 : 0 < v
      · obtain ⟨q, rfl⟩ : ∃ q : Nat, v = (q : Int) + 1 := ⟨(v - 1).toNat, by omega⟩
        have hqN : q < N := by have := HNN.out; omega
        have hqi : (q : Int) < (N : Int) := by omega
        have hqb : (q : Int) < 1000 := by omega
        obtain ⟨bx, hbx⟩ : ∃ bx, is'[q]? = some bx := ⟨_, List.getElem?_eq_getElem (by rw [I'.out.1.inv.len, ← HNN.out]; exact hqN)⟩
        obtain ⟨cq, fq⟩ := bl_cell (G2.get _ (app_idx _ _ 1)) hbx
        have HV := Lib.hid hv
        clear hv hvb hv0 hbx hl9
        go_wp2_with fail
        have G3 := G2.blS (cs.length + 1) (app_idx _ _ 1) q hqN
        rw [set_app] at G3
        go_roundw
        case rel => exact ⟨a + 1, is'.set q true, by omega, by go_num, Lib.hid (ro_root ok I'.out.1 HL.out HV.out I'.out.2 (by rw [← HNN.out]; exact hqN)), G3⟩
        case measure => simp [intOf]; omega
      · have hvf : decide (0 < v) = false := by simpa using hv0
        have HV := Lib.hid hv
        clear hv hvb hl9
        go_wp2_with fail
        go_roundw
        case rel => exact ⟨a + 1, is', by omega, by go_num, Lib.hid ⟨I'.out.1, fun u hu h0 => by
          rcases (take_mem_succ HV.out u).1 hu with rfl | h
          · exact absurd h0 hv0
          · exact I'.out.2 u h h0⟩, G2⟩
        case measure => simp [intOf]; omega
    · have hge : ¬ (a : Int) < (l.length : Int) := by omega
      have hmb : (m : Int) < 1000 := by omega
      have HAL : Hid (a = l.length) := Lib.hid (by omega)
      clear hrd hal hl9
      go_wp2_with fail
      go_roundw
      case rel => exact ⟨m + 1, is', by omega, by go_num, Lib.hid ⟨I'.out.1.inv, fun m' l' h h' v hv h0 => by
        by_cases e : m' = m
        · subst e
          rw [HL.out] at h'
          cases h'
          exact I'.out.2 v (by rw [HAL.out, List.take_length]; exact hv) h0
        · exact I'.out.1.rt m' l' (by omega) h' v hv h0⟩, G2⟩
      case measure => simp [intOf]; omega
  · have hge : ¬ (m : Int) < (rs.length : Int) := by omega
    have P0 : Hid (PG.Passes G is 0) := Lib.hid ⟨I.out.inv, fun l hl v hv h0 => by
      obtain ⟨m', hm'⟩ := List.mem_iff_getElem?.1 hl
      have h1 := (List.getElem?_eq_some_iff.1 hm').1
      have h2 := HRL.out
      exact I.out.rt m' l (by omega) hm' v hv h0, .inr (Nat.zero_le _)⟩
    clear I hlt
    go_wp2_with fail
    go_loopw [6, 7, 8] (fun nv _ _ wr => ∃ (n : Nat) (is : List Bool), n ≤ N ∧ nv = .int .i64 n ∧ Hid (PG.Passes G is n) ∧ Has w0 wr (cs ++ [rgT B _ (.slice ra rs.length rc) (.slice na N nc) G.most, blC _ (B + 1) N is])) (fun nv _ _ _ => N - (intOf nv).toNat)
    case atStart => exact ⟨0, is, by omega, rfl, P0, G1⟩
    case round =>
    obtain ⟨n, is0, hn, rfl, P, G3⟩ := hrel
    clear G1 P0 x0 x1 x2 fx
    obtain ⟨x0, x1, x2, fx⟩ := row3 (G3.get _ (app_idx _ _ 0))
    by_cases hnl : n < N
    · have hni : (n : Int) < (N : Int) := by omega
      go_wp2_with fail
      go_loopw [7, 8] (fun vv _ wr => ∃ (v : Nat) (is : List Bool), v ≤ N ∧ vv = .int .i64 v ∧ Hid (PG.Pass G is0 is v) ∧ Has w0 wr (cs ++ [rgT B _ (.slice ra rs.length rc) (.slice na N nc) G.most, blC _ (B + 1) N is])) (fun vv _ _ => N - (intOf vv).toNat)
      case atStart => exact ⟨0, is0, by omega, rfl, Lib.hid (PG.pass_start P.out.inv), G3⟩
      case round =>
      obtain ⟨v, is1, hv, rfl, I1, G4⟩ := hrel
      clear G3 x0 x1 x2 fx
      obtain ⟨x0, x1, x2, fx⟩ := row3 (G4.get _ (app_idx _ _ 0))
      by_cases hvl : v < N
      · have hvi : (v : Int) < (N : Int) := by omega
        have A1 : RgAt wr _ G := G4.get i (app_old HI.out)
        obtain ⟨l, hl⟩ : ∃ l, G.nodes[v]? = some l := ⟨_, List.getElem?_eq_getElem (by have := HNN.out; omega)⟩
        have hl64 : l.length ≤ 64 := ok.nl l (List.mem_of_getElem? hl)
        have hl' := hl
        rw [rg_nodes A1] at hl'
        obtain ⟨gb, off, c, la, lc, hv2, hps, hkl, hcell, hrd⟩ := ll_at A1.n hl'
        dsimp only at hv2
        simp only [Value.slice.injEq] at hv2
        obtain ⟨rfl, -, rfl⟩ := hv2
        have HSL : Hid (G.slots ((v : Int) + 1) = l) := Lib.hid (by
          unfold PG.slots
          rw [show (v : Int) + 1 - 1 = (v : Int) by omega, iget_nat, hl]
          rfl)
        have HNV : Hid (∀ s ∈ l, 0 ≤ s ∧ s ≤ N) := Lib.hid (fun s hs => by have := ok.nv l (List.mem_of_getElem? hl) s hs; have := HNN.out; omega)
        have HPS := Lib.hid hps
        have LLH : Hid (∀ (wq : World) (cq : List (Chunk w0.heap.size)), Has w0 wq (cs ++ cq) → LL wq (.slice (some ⟨gb, off, none⟩) N nc) ns) := Lib.hid (fun wq cq Hq => by
          have h : LL wq (.slice (some ⟨gb, off, none⟩) ns.length nc) ns := (Hq.get i (app_old HI.out) : RgAt wq _ G).n
          rw [← HNS.out] at h
          exact h)
        clear A1 hl hl' hps hkl hrd
        go_wp2_with fail
        go_loopw [8] (fun kv wr => ∃ (k : Nat) (is : List Bool), k ≤ l.length ∧ kv = .int .i64 k ∧ Hid (PG.Pass G is0 is v ∧ ∀ s ∈ l.take k, 0 < s → PG.on is s) ∧ Has w0 wr (cs ++ [rgT B _ (.slice ra rs.length rc) (.slice (some ⟨gb, off, none⟩) N nc) G.most, blC _ (B + 1) N is])) (fun kv _ => l.length - (intOf kv).toNat)
        case atStart => exact ⟨0, is1, by omega, rfl, Lib.hid ⟨I1.out, fun s hs => by simp at hs⟩, G4⟩
        case round =>
        obtain ⟨k, is', hk, rfl, I', G5⟩ := hrel
        clear G4 x0 x1 x2 fx hcell
        obtain ⟨x0, x1, x2, fx⟩ := row3 (G5.get _ (app_idx _ _ 0))
        have hcell := ll_cell (LLH.out _ _ G5) HPS.out
        have hrd := ((LLH.out _ _ G5).2 v _ HPS.out).1
        dsimp only at hcell hrd
        obtain ⟨bx, hbx⟩ : ∃ bx, is'[v]? = some bx := ⟨_, List.getElem?_eq_getElem (by rw [I'.out.1.inv.len, ← HNN.out]; exact hvl)⟩
        obtain ⟨cv, fv⟩ := bl_cell (G5.get _ (app_idx _ _ 1)) hbx
        have hvb : (v : Int) < 1000 := by omega
        have HBX := Lib.hid hbx
        clear hbx
        by_cases hkl : k < l.length
        · have hki : (k : Int) < (l.length : Int) := by omega
          cases bx with
          | true =>
            obtain ⟨s, hs⟩ : ∃ s, l[k]? = some s := ⟨_, List.getElem?_eq_getElem hkl⟩
            have hsb := HNV.out s (List.mem_of_getElem? hs)
            have hsm : Hid (s ∈ G.slots ((v : Int) + 1)) := Lib.hid (by rw [HSL.out]; exact List.mem_of_getElem? hs)
            rcases hrd with ⟨_, h0⟩ | ⟨g2, off2, c2, hv3, hc2⟩
            · rw [h0] at hkl; simp at hkl
            simp only [Value.slice.injEq] at hv3
            obtain ⟨rfl, -, rfl⟩ := hv3
            have hcv := hc2 k s hs
            have HS := Lib.hid hs
            clear hc2 hs
            have hkb : (k : Int) < 64 := by omega
            by_cases hs0 : 0 < s
            · obtain ⟨q, rfl⟩ : ∃ q : Nat, s = (q : Int) + 1 := ⟨(s - 1).toNat, by omega⟩
              have hqN : q < N := by omega
              have hqi : (q : Int) < (N : Int) := by omega
              have hqb : (q : Int) < 1000 := by omega
              obtain ⟨by_, hby⟩ : ∃ bx, is'[q]? = some bx := ⟨_, List.getElem?_eq_getElem (by rw [I'.out.1.inv.len, ← HNN.out]; exact hqN)⟩
              obtain ⟨cq, fq⟩ := bl_cell (G5.get _ (app_idx _ _ 1)) hby
              clear hby hsb hs0 hl64
              go_wp2_with fail
              have G6 := G5.blS (cs.length + 1) (app_idx _ _ 1) q hqN
              rw [set_app] at G6
              go_roundw
              case rel =>
                have e : (((q : Int) + 1) - 1).toNat = q := by omega
                have P1 := PG.pass_slot I'.out.1 HBX.out hsm.out (by omega)
                rw [e] at P1
                refine ⟨k + 1, is'.set q true, by omega, by go_num, Lib.hid ⟨P1, fun u hu h0 => ?_⟩, G6⟩
                rcases (take_mem_succ HS.out u).1 hu with rfl | h
                · have := PG.on_set (is := is') (v := (q : Int) + 1) (by rw [I'.out.1.inv.len, ← HNN.out]; omega) (by omega)
                  rwa [e] at this
                · have := PG.on_keep (v := (q : Int) + 1) (I'.out.2 u h h0)
                  rwa [e] at this
              case measure => simp [intOf]; omega
            · have hvf : decide (0 < s) = false := by simpa using hs0
              clear hsb hl64
              go_wp2_with fail
              go_roundw
              case rel => exact ⟨k + 1, is', by omega, by go_num, Lib.hid ⟨I'.out.1, fun u hu h0 => by
                rcases (take_mem_succ HS.out u).1 hu with rfl | h
                · exact absurd h0 hs0
                · exact I'.out.2 u h h0⟩, G5⟩
              case measure => simp [intOf]; omega
          | false =>
            clear hrd hl64
            go_wp2_with fail
            go_roundw
            case rel => exact ⟨v + 1, is', by omega, by go_num, Lib.hid (PG.pass_node I'.out.1 fun h => by rw [HBX.out] at h; cases h), G5⟩
            case measure => simp [intOf]; omega
        · have hge : ¬ (k : Int) < (l.length : Int) := by omega
          have HKL : Hid (k = l.length) := Lib.hid (by omega)
          clear hrd hkl hl64
          go_wp2_with fail
          go_roundw
          case rel => exact ⟨v + 1, is', by omega, by go_num, Lib.hid (PG.pass_node I'.out.1 fun _ s hs h0 => by
            rw [HSL.out] at hs
            exact I'.out.2 s (by rw [HKL.out, List.take_length]; exact hs) h0), G5⟩
          case measure => simp [intOf]; omega
      · have hge : ¬ (v : Int) < (N : Int) := by omega
        have hvN : v = N := by omega
        have hnb : (n : Int) < 1000 := by omega
        have I2 : Hid (PG.Pass G is0 is1 G.nodes.length) := Lib.hid (by rw [← HNN.out, ← hvN]; exact I1.out)
        clear hvl hvN
        go_wp2_with fail
        go_roundw
        case rel => exact ⟨n + 1, is1, by omega, by go_num, Lib.hid (PG.passes_step P.out I2.out), G4⟩
        case measure => simp [intOf]; omega
    · have hge : ¬ (n : Int) < (N : Int) := by omega
      obtain rfl : n = N := by omega
      clear hnl
      go_wp2_with fail
      go_ret
      exact ⟨B + 1, rfl, is0, P.out, Has.second G3⟩

end Go.Proofs.Ytfjkmdhkalbpkaa

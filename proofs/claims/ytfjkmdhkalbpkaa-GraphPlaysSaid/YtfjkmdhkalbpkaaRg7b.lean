/- The document's graph: a root, a slot, a list with another one at a place, a root more. Condition: fewer than a million in each list. -/
import Derived.Test.YtfjkmdhkalbpkaaRg7
set_option linter.unusedVariables false
set_option linter.unusedSimpArgs false
namespace Go.Proofs.Ytfjkmdhkalbpkaa
open Go.ChangeShapes Go.WideShapes Go.ChangeAt Go.RowKit

def rootI (G : PG) (m a : Int) : Int := (G.root m a).getD (-1)

set_option maxRecDepth 100000 in
set_option maxHeartbeats 1000000 in
theorem Root_r {w0 w : World} {cs : List (Chunk w0.heap.size)} (H : Has w0 w cs) (i : Nat) {X : RS} {G : PG} (hi : cs[i]? = some (rgC _ X G)) (m a : Int) : Calls Try.prog 36 #[X.v G.most, .int .i64 m, .int .i64 a] w fun e w' => e = .returned (.int .i64 (rootI G m a)) ∧ Below w.heap.size w w' := by
  have A : RgAt w X G := H.get i hi
  have hl := rg_rlen A
  obtain ⟨ra, rc, hrv⟩ := ll_val A.r
  unfold rootI
  cases hb : G.isB m with
  | false =>
    have e : G.root m a = none := by unfold PG.root; rw [isB_none hb]; rfl
    rw [e]
    unfold PG.isB at hb
    rw [hl] at hb
    unfold RS.v
    rw [hrv]
    by_cases h0 : m < 0
    · clear A hb hl hrv hi e H
      go_enter Try.func36, Try.ntmps36
      go_wp2_with fail
      go_ret
      exact ⟨rfl, rbelow _⟩
    · have h1 : (X.rs.length : Int) ≤ m := by simp at hb; exact hb (by omega)
      have h0b : decide (m < 0) = false := by simpa using h0
      clear A hb hl hrv hi e H h0
      go_enter Try.func36, Try.ntmps36
      go_wp2_with fail
      go_ret
      exact ⟨rfl, rbelow _⟩
  | true =>
    obtain ⟨k, l, rfl, hk, hL⟩ := isB_some hb
    have e : G.root k a = iget l a := by unfold PG.root; rw [hL]; rfl
    rw [e]
    rw [rg_roots A] at hk
    obtain ⟨b, off, c, la, lc, hv, -, hkl, hcell, hrd⟩ := ll_at A.r hk
    have hbl : b < w.heap.size := (H.lt i _ hi b (by simp [rgC, llB, hv, Value.ownBlock])).1
    unfold RS.v
    rw [hv]
    have hk0 : decide ((k : Int) < 0) = false := by simp
    have hk1 : decide ((X.rs.length : Int) ≤ (k : Int)) = false := by simp; omega
    have hkl' : (k : Int) < (X.rs.length : Int) := by omega
    by_cases a0 : a < 0
    · rw [iget_out (.inl a0)]
      clear A hb hl hrv hi e H hk hL hv hrd
      go_enter Try.func36, Try.ntmps36
      go_wp2_with fail
      go_ret
      exact ⟨rfl, rbelow _⟩
    · by_cases a1 : (l.length : Int) ≤ a
      · rw [iget_out (.inr a1)]
        have a0b : decide (a < 0) = false := by simpa using a0
        clear A hb hl hrv hi e H hk hL hv hrd a0
        go_enter Try.func36, Try.ntmps36
        go_wp2_with fail
        go_ret
        exact ⟨rfl, rbelow _⟩
      · obtain ⟨j, x, rfl, hj, hx⟩ := iget_in (l := l) (a := a) (by omega) (by omega)
        rw [hx]
        have hj0 : decide ((j : Int) < 0) = false := by simp
        have hj1 : decide ((l.length : Int) ≤ (j : Int)) = false := by simp; omega
        have hj2 : (j : Int) < (l.length : Int) := by omega
        rcases hrd with ⟨_, h0⟩ | ⟨g, off2, c2, hv2, hc2⟩
        · rw [h0] at hj; simp at hj
        · simp only [Value.slice.injEq] at hv2
          obtain ⟨rfl, -, rfl⟩ := hv2
          have hcx := hc2 j x hj
          have hgl : g < w.heap.size := by
            rcases Nat.lt_or_ge g w.heap.size with q | q
            · exact q
            · simp [World.cell?, Array.getElem?_eq_none q] at hcx
          clear A hb hl hrv hi e H hk hL hv hc2 a0 a1 hj hx
          go_enter Try.func36, Try.ntmps36
          go_wp2_with fail
          go_ret
          exact ⟨rfl, rbelow _⟩

/-- The node of a slot, as the document has it. -/
theorem has_some {G : PG} (ok : G.Ok) {m a i : Int} : (0 < rootI G m a) ↔ ∃ v, G.root m a = some v ∧ 0 < v := by
  unfold rootI
  cases e : G.root m a with
  | none => simp
  | some v => simp

set_option maxRecDepth 100000 in
set_option maxHeartbeats 1000000 in
theorem Has_r {w0 w : World} {cs : List (Chunk w0.heap.size)} (H : Has w0 w cs) (i : Nat) {X : RS} {G : PG} (hi : cs[i]? = some (rgC _ X G)) (ok : G.Ok) (hN : G.nodes.length < 1000) (m a s : Int) : Calls Try.prog 35 #[X.v G.most, .int .i64 m, .int .i64 a, .int .i64 s] w fun e w' => e = .returned (.bool (G.slot m a s).isSome) ∧ Below w.heap.size w w' := by
  have A : RgAt w X G := H.get i hi
  obtain ⟨na, nc, hnv⟩ := ll_val A.n
  obtain ⟨ra, rc, hrv⟩ := ll_val A.r
  have K := H.blkNew #[X.rv, X.nv, .int .i64 G.most] 36
  have C := Root_r K i (app_old hi) m a
  unfold RS.v at C ⊢
  cases hr : G.root m a with
  | none =>
    have e : G.slot m a s = none := by unfold PG.slot; rw [hr]
    rw [e]
    have ei : rootI G m a = -1 := by unfold rootI; rw [hr]; rfl
    rw [ei] at C
    have HC := Lib.hid C
    have KB := Lib.hid K.below
    clear A hi e H hr C ei K hnv hrv
    go_enter Try.func35, Try.ntmps35
    go_wp2_with fail
    refine HC.out.mono ?_
    rintro e w' ⟨rfl, q⟩
    go_wp2_with fail
    go_ret
    exact ⟨rfl, (((Has.nil w).alloc _).up q).below⟩
  | some v =>
    have vb := PG.root_bd ok hr
    have ei : rootI G m a = v := by unfold rootI; rw [hr]; rfl
    rw [ei] at C
    have HC := Lib.hid C
    by_cases h0 : v = 0
    · subst h0
      have e : G.slot m a s = none := by unfold PG.slot; rw [hr]; rfl
      rw [e]
      clear A hi e H hr C ei K hnv hrv
      go_enter Try.func35, Try.ntmps35
      go_wp2_with fail
      refine HC.out.mono ?_
      rintro e w' ⟨rfl, q⟩
      go_wp2_with fail
      go_ret
      exact ⟨rfl, (((Has.nil w).alloc _).up q).below⟩
    · obtain ⟨q, rfl⟩ : ∃ q : Nat, v = (q : Int) + 1 := ⟨(v - 1).toNat, by omega⟩
      have hq : q < G.nodes.length := by omega
      have hs : G.slots ((q : Int) + 1) = G.nodes[q] := by
        unfold PG.slots
        rw [show (q : Int) + 1 - 1 = (q : Int) by omega, iget_nat, List.getElem?_eq_getElem hq]
        rfl
      generalize hlq : G.nodes[q] = l at hs
      have hlq' : G.nodes[q]? = some l := by rw [← hlq]; exact List.getElem?_eq_getElem hq
      rw [rg_nodes A] at hlq'
      obtain ⟨b, off, c, la, lc, hv, -, hkl, hcell, -⟩ := ll_at A.n hlq'
      have hbl : b < w.heap.size := (H.lt i _ hi b (by simp [rgC, llB, hv, Value.ownBlock])).1
      have hqb : (q : Int) < 1000 := by omega
      have hql : (q : Int) < (X.ns.length : Int) := by omega
      have e1 : G.slot m a s = (iget l s).map fun y => ((q : Int) + 1, y) := by
        unfold PG.slot; rw [hr]; dsimp only; rw [if_neg (by omega), hs]
      have e2 : (G.slot m a s).isSome = (decide (0 ≤ s) && decide (s < (l.length : Int))) := by
        rw [e1]
        by_cases s0 : 0 ≤ s
        · by_cases s1 : s < (l.length : Int)
          · obtain ⟨_, y, -, -, hy⟩ := iget_in s0 s1
            rw [hy]; simp [s0, s1]
          · rw [iget_out (.inr (by omega))]; simp [s1]
        · rw [iget_out (.inl (by omega))]; simp [s0]
      have HCL := Lib.hid (fun (w' : World) (h : Below (w.alloc (.cells #[X.rv, X.nv, .int .i64 G.most] 36)).heap.size (w.alloc (.cells #[X.rv, X.nv, .int .i64 G.most] 36)) w') => show w'.cell? ⟨b, off + q, none⟩ = some (.slice la l.length lc) from (((rbelow (w := w) _).trans (h.mono (by simp))).cell (p := ⟨b, off + q, none⟩) hbl).trans hcell)
      rw [e2]
      rw [hv] at HC HCL ⊢
      by_cases s0 : 0 ≤ s
      · by_cases s1 : s < (l.length : Int)
        · rw [show (decide (0 ≤ s) && decide (s < (l.length : Int))) = true by simp [s0, s1]]
          clear A hi e1 e2 H hr C ei K hnv hrv hs hlq hlq' hv h0 hcell vb hkl
          go_enter Try.func35, Try.ntmps35
          go_wp2_with fail
          refine HC.out.mono ?_
          rintro e w' ⟨rfl, q1⟩
          have cc := HCL.out _ q1
          have B := Lib.hid (((Has.nil w).alloc _).up q1).below
          obtain ⟨p0, p1, p2, pf⟩ := row3 ((((Has.nil w).blkNew _ _).up q1).get 0 rfl)
          clear q1
          go_wp2_with fail
          go_ret
          exact ⟨rfl, B.out⟩
        · rw [show (decide (0 ≤ s) && decide (s < (l.length : Int))) = false by simp [s1]]
          have s1b : decide (s < (l.length : Int)) = false := by simpa using s1
          clear A hi e1 e2 H hr C ei K hnv hrv hs hlq hlq' hv h0 hcell vb hkl s1
          go_enter Try.func35, Try.ntmps35
          go_wp2_with fail
          refine HC.out.mono ?_
          rintro e w' ⟨rfl, q1⟩
          have cc := HCL.out _ q1
          have B := Lib.hid (((Has.nil w).alloc _).up q1).below
          obtain ⟨p0, p1, p2, pf⟩ := row3 ((((Has.nil w).blkNew _ _).up q1).get 0 rfl)
          clear q1
          go_wp2_with fail
          go_ret
          exact ⟨rfl, B.out⟩
      · rw [show (decide (0 ≤ s) && decide (s < (l.length : Int))) = false by simp [s0]]
        have s0b : decide (0 ≤ s) = false := by simpa using s0
        clear A hi e1 e2 H hr C ei K hnv hrv hs hlq hlq' hv h0 hcell vb hkl s0
        go_enter Try.func35, Try.ntmps35
        go_wp2_with fail
        refine HC.out.mono ?_
        rintro e w' ⟨rfl, q1⟩
        have B := Lib.hid (((Has.nil w).alloc _).up q1).below
        clear q1
        go_wp2_with fail
        go_ret
        exact ⟨rfl, B.out⟩

end Go.Proofs.Ytfjkmdhkalbpkaa

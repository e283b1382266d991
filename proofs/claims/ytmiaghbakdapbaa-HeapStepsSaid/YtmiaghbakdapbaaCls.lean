/- Lists of classes: their lengths, words, and the class of a number. No condition. -/
import Derived.Test.YtmiaghbakdapbaaAll2
set_option linter.unusedVariables false
namespace Go.Proofs.Ytmiaghbakdapbaa
open Go.ChangeShapes Go.WideShapes Go.ChangeAt Go.RowKit

/-- How many words cells of such classes have. -/
def wSum : List Int → Int
  | [] => 0
  | k :: ks => sWords k + wSum ks

theorem wSum_append : ∀ (a b : List Int), wSum (a ++ b) = wSum a + wSum b
  | [], b => by simp [wSum]
  | x :: a, b => by simp only [List.cons_append, wSum, wSum_append a b]; omega
theorem wSum_rep (k : Int) : ∀ n : Nat, wSum (List.replicate n k) = n * sWords k
  | 0 => by simp [wSum]
  | n + 1 => by
    rw [List.replicate_succ, wSum, wSum_rep k n, Int.natCast_succ, Int.add_mul]; omega

theorem cPre5 (c0 c1 c2 c3 c4 : Int) : cPre [c0, c1, c2, c3, c4] 5 = List.replicate (sBound c0).toNat 0 ++ (List.replicate (sBound c1).toNat 1 ++ (List.replicate (sBound c2).toNat 2 ++ (List.replicate (sBound c3).toNat 3 ++ List.replicate (sBound c4).toNat 4))) := by
  simp [cPre, cN]

theorem cells_total (c0 c1 c2 c3 c4 : Int) : wSum (cPre [c0, c1, c2, c3, c4] 5) = sTotal c0 c1 c2 c3 c4 := by
  have h0 := sBound_lo c0; have h1 := sBound_lo c1; have h2 := sBound_lo c2; have h3 := sBound_lo c3; have h4 := sBound_lo c4
  rw [cPre5]
  simp only [wSum_append, wSum_rep, sWords_0, sWords_1, sWords_2, sWords_3, sWords_4, sTotal]
  rw [Int.toNat_of_nonneg h0, Int.toNat_of_nonneg h1, Int.toNat_of_nonneg h2, Int.toNat_of_nonneg h3, Int.toNat_of_nonneg h4]
  omega

theorem cells_len (c0 c1 c2 c3 c4 : Int) : ((cPre [c0, c1, c2, c3, c4] 5).length : Int) = sNodes c0 c1 c2 c3 c4 := by
  have h0 := sBound_lo c0; have h1 := sBound_lo c1; have h2 := sBound_lo c2; have h3 := sBound_lo c3; have h4 := sBound_lo c4
  rw [cPre5]
  simp only [List.length_append, List.length_replicate, sNodes]
  omega

theorem getD_rep (n : Nat) (x : Int) (r : List Int) (j : Nat) : (List.replicate n x ++ r)[j]? = if j < n then some x else r[j - n]? := by
  split
  · rename_i h; rw [List.getElem?_append_left (by simpa using h)]; simp [h]
  · rename_i h; rw [List.getElem?_append_right (by simpa using h)]; simp

theorem cells_class (c0 c1 c2 c3 c4 : Int) (v : Int) (h1 : 1 ≤ v) (h2 : v ≤ sNodes c0 c1 c2 c3 c4) : (cPre [c0, c1, c2, c3, c4] 5)[(v - 1).toNat]? = some (sClass c0 c1 c2 c3 c4 v) := by
  have g0 := sBound_lo c0; have g1 := sBound_lo c1; have g2 := sBound_lo c2; have g3 := sBound_lo c3; have g4 := sBound_lo c4
  rw [cPre5]
  simp only [getD_rep, sNodes] at *
  have hr : ∀ j : Nat, (List.replicate (sBound c4).toNat (4 : Int))[j]? = if j < (sBound c4).toNat then some 4 else none := fun j => by
    split <;> rename_i h <;> simp [h]
  rw [hr]
  unfold sClass
  repeat' split
  all_goals first | rfl | omega

theorem cells_class_no (c0 c1 c2 c3 c4 : Int) (v : Int) (h : v < 1 ∨ sNodes c0 c1 c2 c3 c4 < v) : sClass c0 c1 c2 c3 c4 v = -1 := by
  have g0 := sBound_lo c0; have g1 := sBound_lo c1; have g2 := sBound_lo c2; have g3 := sBound_lo c3; have g4 := sBound_lo c4
  unfold sNodes at h
  unfold sClass
  repeat' split
  all_goals first | rfl | omega

theorem wSum_bd (c : List Int) (h : ∀ k ∈ c, 0 ≤ sWords k ∧ sWords k ≤ 17) : 0 ≤ wSum c ∧ wSum c ≤ 17 * c.length := by
  induction c with
  | nil => simp [wSum]
  | cons x c ih =>
    have := h x (by simp)
    have := ih fun k hk => h k (by simp [hk])
    simp only [wSum, List.length_cons]; omega

theorem sWords_bd (k : Int) : 0 ≤ sWords k ∧ sWords k ≤ 17 := by unfold sWords; repeat' split <;> omega

theorem wSum_take (l : List Int) (i : Nat) (x : Int) (h : l[i]? = some x) : wSum (l.take (i + 1)) = wSum (l.take i) + sWords x := by
  obtain ⟨hi, rfl⟩ := List.getElem?_eq_some_iff.1 h
  rw [List.take_succ_eq_append_getElem hi, wSum_append]
  simp [wSum]

end Go.Proofs.Ytmiaghbakdapbaa

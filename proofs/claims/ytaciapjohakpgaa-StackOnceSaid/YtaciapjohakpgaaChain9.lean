/- Stacks in memory, as lists: what a push and a pop alone make of them. Conditions: places are things' numbers, the head's place is 0. -/
import Derived.Test.YtaciapjohakpgaaRun9
set_option linter.unusedVariables false
namespace Go.Proofs.Ytaciapjohakpgaa
open Go.ChangeShapes Go.WideShapes Go.ChangeAt Go.RowKit

/-- From place p on the things xs are linked, and no more. -/
def Chain (M : List Int) : Int → List Int → Prop
  | p, [] => mld M p % 4294967296 = 0
  | p, x :: xs => mld M p % 4294967296 = x ∧ Chain M x xs

/-- Things: their numbers. -/
def Items (xs : List Int) : Prop := ∀ x ∈ xs, 1 ≤ x ∧ x ≤ 8

theorem chain_congr {M M' : List Int} : ∀ (xs : List Int) (p p' : Int), Chain M p xs → mld M' p' % 4294967296 = mld M p % 4294967296 → (∀ x ∈ xs, mld M' x % 4294967296 = mld M x % 4294967296) → Chain M' p' xs
  | [], p, p', h, h1, _ => by rw [Chain, h1]; exact h
  | x :: xs, p, p', h, h1, h2 => ⟨by rw [h1]; exact h.1, chain_congr xs x x h.2 (h2 x (by simp)) fun y hy => h2 y (by simp [hy])⟩

theorem lkrow (n : Nat) (x : Int) (h : 1 ≤ x ∧ x ≤ n) : lkAt (rowL n) x = x := by
  unfold lkAt
  rw [rowL_len, if_pos h]
  have hj : x.toNat - 1 < n := by omega
  simp only [rowL, List.getD]
  rw [List.getElem?_map, List.getElem?_range hj]
  simp
  omega

theorem walk_chain (M : List Int) (hM : M.length = 10) : ∀ (xs : List Int) (n : Nat) (p : Int), Chain M p xs → Items xs → 0 ≤ p ∧ p < 10 → xs.length ≤ n → walkF (rowL 9) M n p = xs
  | [], n, p, h, _, _, _ => walkF_stop _ _ _ _ (by rintro ⟨_, _, _, q⟩; exact q h)
  | x :: xs, 0, p, _, _, _, hn => by simp at hn
  | x :: xs, n + 1, p, h, hi, hp, hn => by
    have hx := hi x (by simp)
    rw [walkF_go _ _ _ _ ⟨hp.1, by rw [hM]; exact hp.2, by rw [h.1]; omega⟩, h.1, lkrow 9 x ⟨hx.1, by omega⟩]
    rw [walk_chain M hM xs n x h.2 (fun y hy => hi y (by simp [hy])) ⟨by omega, by omega⟩ (by simp at hn; omega)]

theorem chain_push (M : List Int) (hM : M.length = 10) (R : List Int) (x : Int) (h : Chain M 0 R) (hi : Items R) (hx : 1 ≤ x ∧ x ≤ 8) (hn : x ∉ R) :
    Chain (mput (mput M x (mld M 0 % 4294967296)) 0 (wTurn (mld M 0) x)) 0 (x :: R) := by
  have hr : (0 : Int) ≤ 0 ∧ (0 : Int) < (mput M x (mld M 0 % 4294967296)).length := by rw [mput_length, hM]; omega
  refine ⟨by rw [mld_mput_same hr, wTurn_low _ _ (by omega) (by omega)], ?_⟩
  refine chain_congr R 0 x h ?_ fun y hy => ?_
  · rw [mld_mput_ne _ _ _ _ (by omega), mld_mput_same (by rw [hM]; omega)]
    omega
  · have := hi y hy
    rw [mld_mput_ne _ _ _ _ (by omega), mld_mput_ne _ _ _ _ (by rintro rfl; exact hn hy)]

theorem chain_pop (M : List Int) (hM : M.length = 10) (R : List Int) (x : Int) (h : Chain M 0 (x :: R)) (hi : Items (x :: R)) :
    Chain (mput M 0 (wTurn (mld M 0) (mld M x % 4294967296))) 0 R := by
  have hr : (0 : Int) ≤ 0 ∧ (0 : Int) < M.length := by rw [hM]; omega
  refine chain_congr R x 0 h.2 ?_ fun y hy => ?_
  · rw [mld_mput_same hr, wTurn_low _ _ (by omega) (by omega)]
  · have := hi y (by simp [hy])
    rw [mld_mput_ne _ _ _ _ (by omega)]

theorem chain_top {M R : List Int} (h : Chain M 0 R) : mld M 0 % 4294967296 = R.headD 0 := by
  cases R with
  | nil => exact h
  | cons x xs => exact h.1

theorem nodup_le : ∀ (R S : List Int), R.Nodup → R ⊆ S → R.length ≤ S.length
  | [], _, _, _ => Nat.zero_le _
  | x :: R, S, hd, hs => by
    have hx : x ∈ S := hs (by simp)
    have h1 : R ⊆ S.erase x := fun y hy => (List.mem_erase_of_ne (fun e => by subst e; exact (List.nodup_cons.1 hd).1 hy)).2 (hs (by simp [hy]))
    have h2 := nodup_le R (S.erase x) (List.nodup_cons.1 hd).2 h1
    have h3 := List.length_erase_of_mem hx
    have h4 : 0 < S.length := List.length_pos_of_mem hx
    simp
    omega

/-- Eight things at most. -/
theorem items_len {R : List Int} (hi : Items R) (hd : R.Nodup) : R.length ≤ 8 := by
  have hs : R ⊆ [1, 2, 3, 4, 5, 6, 7, 8] := by
    intro x hx
    have := hi x hx
    have : x = 1 ∨ x = 2 ∨ x = 3 ∨ x = 4 ∨ x = 5 ∨ x = 6 ∨ x = 7 ∨ x = 8 := by omega
    simpa using this
  exact nodup_le R _ hd hs

end Go.Proofs.Ytaciapjohakpgaa

/- Where links stand (dustmanlaw09.links): a function that reads a list. Conditions: the list's slice can be read. -/
import Derived.Test.YtaciapjohakpgaaRef6
set_option linter.unusedVariables false
namespace Go.Proofs.Ytaciapjohakpgaa
open Go.ChangeShapes Go.WideShapes Go.ChangeAt Go.RowKit

/-- The place of a thing's link. -/
def lkAt (ls : List Int) (i : Int) : Int := if 1 ≤ i ∧ i ≤ ls.length then ls.getD (i.toNat - 1) 0 else -1

/-- The captured box of links, in no block on the list. -/
def LinksAt (w : World) (A : List Nat) (lb : Nat) (ls : List Int) : Prop :=
  lb < w.heap.size ∧ lb ∉ A ∧ ∃ v, w.heap[lb]? = some (.cells #[v] 23 (0, 0)) ∧ Sl w A .i64 v ls

theorem links_upd {w w' : World} {A A' : List Nat} {lb : Nat} {ls : List Int} {S : List Nat} (h : LinksAt w A lb ls) (u : Upd S w w') (hS : ∀ x ∈ S, x ∈ A ∨ w.heap.size ≤ x) (hA : ∀ x ∈ A', x ∈ A ∨ w.heap.size ≤ x) : LinksAt w' A' lb ls := by
  obtain ⟨h1, h2, v, h3, h4⟩ := h
  refine ⟨Nat.lt_of_lt_of_le h1 u.size, fun hm => ?_, v, u.blk h3 fun hm => ?_, sl_upd h4 u hS hA⟩
  · rcases hA _ hm with q | q
    · exact h2 q
    · omega
  · rcases hS _ hm with q | q
    · exact h2 q
    · omega

theorem Links_c {A : List Nat} (v : Value) (ls : List Int) (w : World) (hA : ∀ x ∈ A, x < w.heap.size) (h : Sl w A .i64 v ls) :
    Calls Try.prog 11 #[v] w fun e w' => e = .returned (.func (.func 31) #[] #[.pointer (some ⟨w.heap.size, 0, none⟩)]) ∧ LinksAt w' A w.heap.size ls ∧ Below w.heap.size w w' := by
  have hsl := Lib.hid h
  obtain ⟨a, cap, rfl, hc, hx⟩ := h
  clear hx
  go_enter Try.func11, Try.ntmps11
  go_wp2
  go_ret
  exact ⟨rfl, ⟨by simp, fun hm => absurd (hA _ hm) (by omega), _, blk_new w (.cells #[.slice a ls.length cap] 23) 0, sl_below hsl.out (below_box w _ 0)⟩, below_box w _ 0⟩

theorem Link_c {A : List Nat} (lb : Nat) (ls : List Int) (i : Int) (w : World) (h : LinksAt w A lb ls) (hl : ls.length < 1000000000000) (h0 : 0 ≤ i) :
    Calls Try.prog 31 #[.int .i64 i, .pointer (some ⟨lb, 0, none⟩)] w fun e w' => e = .returned (.int .i64 (lkAt ls i)) ∧ w' = w := by
  obtain ⟨h1, h2, v, h3, a, cap, rfl, hc, hx⟩ := h
  obtain ⟨c0, fz⟩ := row1 h3
  clear h3
  by_cases hi : 1 ≤ i ∧ i ≤ ls.length
  · have hne : ls ≠ [] := by rintro rfl; simp at hi; omega
    obtain ⟨b, off, rfl, hb, hn, hcell⟩ := hx.resolve_left hne
    have hj : i.toNat - 1 < ls.length := by omega
    have hc1 := hcell (i.toNat - 1) hj
    have e1 : lkAt ls i = ls[i.toNat - 1] := by unfold lkAt; rw [if_pos hi]; simp only [List.getD, List.getElem?_eq_getElem hj, Option.getD_some]
    obtain ⟨q0, q1⟩ := hi
    have hg0 : decide (i < 1) = false := by simp; omega
    have hg1 : decide ((ls.length : Int) < i) = false := by simp; omega
    have hg2 : wrap64 (i - 1) = i - 1 := wrap64_id _ (by omega) (by omega)
    have hg3 : 0 ≤ i - 1 := by omega
    have hg4 : i - 1 < (ls.length : Int) := by omega
    have E := Lib.hid e1
    clear hcell hx hne e1
    go_enter Try.func31, Try.ntmps31
    go_wp2
    go_ret
    exact ⟨ret_int E.out.symm, rfl⟩
  · have e1 : lkAt ls i = -1 := by unfold lkAt; rw [if_neg hi]
    have E := Lib.hid e1
    clear e1 hx
    by_cases hlt : i < 1
    · go_enter Try.func31, Try.ntmps31
      go_wp2
      go_ret
      exact ⟨ret_int E.out.symm, rfl⟩
    · have hg0 : decide (i < 1) = false := by simp; omega
      have hg1 : (ls.length : Int) < i := by omega
      go_enter Try.func31, Try.ntmps31
      go_wp2
      go_ret
      exact ⟨ret_int E.out.symm, rfl⟩

end Go.Proofs.Ytaciapjohakpgaa

/- cells.New, Store.All, and a Store that is none. Condition: fewer than 10^12 words. -/
import Derived.Test.YtmiaghbakdapbaaCells
import Derived.Test.YtmiaghbakdapbaaSl
set_option linter.unusedVariables false
namespace Go.Proofs.Ytmiaghbakdapbaa
open Go.ChangeShapes Go.WideShapes Go.ChangeAt Go.RowKit

theorem el_u64 : ElemOf Try.prog 34 39 (.int .u64 0) 1 8 := elemOf Try.underlying34 (by kernel_rfl)

theorem Clone_c {A : List Nat} (v : Value) (l : List Int) (w : World) (h : Sl w A .u64 v l) (hl : l.length < 1000000000000) :
    Calls Try.prog 55 #[v] w fun e w' => ∃ v', e = .returned v' ∧ SlNew w' w.heap.size 39 .u64 v' l ∧ Below w.heap.size w w' := by
  have hsl := Lib.hid h
  obtain ⟨a, cap, rfl, hc, hx⟩ := h
  have hn := fun (w : World) (a : Option Addr) (n c : Nat) => Lib.run_eql_slice_nil (P := Try.prog) w 34 39 a n c 0 0 Try.underlying34
  cases a with
  | none =>
    have : l = [] := hx.resolve_right (by rintro ⟨b, off, h, _⟩; cases h)
    subst this
    clear hx hsl
    go_enter Try.func55, Try.ntmps55
    go_wp2
    go_ret
    exact ⟨_, rfl, ⟨none, 0, rfl, by simp, .inl rfl⟩, Below.refl _ _⟩
  | some ad =>
    clear hx
    go_enter Try.func55, Try.ntmps55
    go_wp2_with (at_builtin; refine wpl_append_all rfl (.tmp 5) (.tmp 6) rfl el_u64 (by decide) w.heap.size (.slice (some ⟨w.heap.size, 0, none⟩) 0 0) [] l rfl (World.ownsRow_lit w #[] 0 (Nat.le_refl _) (by decide) rfl) _ rfl (sl_below hsl.out (below_box w _ 0)) ⟨_, _, _, rfl⟩ (by simpa using hl) (by simp) ?_; intro v' w1 hown hgrow)
    go_ret
    exact ⟨_, rfl, slNew_of_own hown, (below_box w (.cells #[] 39) 0).trans (below_grown_own (Below.refl _ _) (World.ownsRow_lit (size := 1) w #[] 0 (Nat.le_refl _) (by decide) rfl) hgrow (by simp))⟩

theorem New_c {A : List Nat} (v : Value) (l : List Int) (w : World) (h : Sl w A .u64 v l) (hl : l.length < 1000000000000) :
    Calls Try.prog 12 #[v] w fun e w' => ∃ sb g, e = .returned (.pointer (some ⟨sb, 0, none⟩)) ∧ w.heap.size ≤ sb ∧ w.heap.size ≤ g ∧ sb < w'.heap.size ∧ g < w'.heap.size ∧ StoreAt w' sb g l 0 ∧ Below w.heap.size w w' := by
  go_enter Try.func12, Try.ntmps12
  go_wp2_with fail
  refine (Clone_c v l _ h hl).mono ?_
  rintro e w1 ⟨v', rfl, ⟨a, cap, rfl, hc, hx⟩, hb⟩
  go_wp2_with fail
  go_ret
  have hs := hb.size
  rcases hx with rfl | ⟨g, rfl, hg, hi⟩
  · exact ⟨w1.heap.size, w1.heap.size, rfl, hs, hs, by simp, by simp, ⟨a, cap, blk_new w1 _ 0, .inl rfl⟩, hb.alloc hs _⟩
  · have hlt : g < w1.heap.size := by obtain ⟨cur, hc, _⟩ := hi; exact blk_lt hc
    exact ⟨w1.heap.size, g, rfl, hs, hg, by simp, by simp; omega, ⟨_, cap, blk_new w1 _ 0, .inr ⟨by omega, rfl, hasI_upd (S := []) hi ((Upd.refl _ _).alloc _) (by simp)⟩⟩, hb.alloc hs _⟩

/-- A Store's words, as its field's slice reads. -/
theorem store_sl {w w1 : World} {sb g : Nat} {l : List Int} {n : Int} (h : StoreAt w sb g l n) (hb : Below w.heap.size w w1) : ∀ a cap, w.heap[sb]? = some (.cells #[.slice a l.length cap, .int .i64 n] 95 (0, 0)) → l = [] ∨ ∃ ad : Addr, a = some ad ∧ ∀ j (hj : j < l.length), w1.cell? (ad.add j) = some (.int .u64 l[j]) := by
  intro a cap hc
  obtain ⟨a', cap', hB, hl⟩ := h
  rw [hB] at hc
  simp only [Option.some.injEq, Obj.cells.injEq, Array.mk.injEq, List.cons.injEq, Value.slice.injEq] at hc
  obtain ⟨⟨⟨rfl, _, rfl⟩, _⟩, _⟩ := hc
  refine hl.imp id fun ⟨_, ha, hi⟩ => ⟨_, ha, fun j hj => ?_⟩
  rw [Go.WideShapes.add_plain, Nat.zero_add]
  have hi1 := hasI_upd (S := []) hi (Upd.of_below hb) (by simp)
  exact hasI_cell hi1 j hj

theorem All_c (sb g : Nat) (l : List Int) (n : Int) (w : World) (h : StoreAt w sb g l n) (hl : l.length < 1000000000000) :
    Calls Try.prog 25 #[.pointer (some ⟨sb, 0, none⟩)] w fun e w' => ∃ v, e = .returned v ∧ SlNew w' w.heap.size 39 .u64 v l ∧ Below w.heap.size w w' := by
  have hst := Lib.hid h
  obtain ⟨a, cap, hb, hl'⟩ := h
  have hB := Lib.hid hb
  obtain ⟨c0, c1, fz⟩ := row2 hb
  clear hb hl'
  go_enter Try.func25, Try.ntmps25
  go_wp2_with (first
    | (refine wpl_make rfl (.tmp 10) (.tmp 10) rfl el_u64 (by decide) l.length rfl rfl hl ?_; intro w1 hown hhas hbel; have B1 := (hbel.block sb (blk_lt hB.out)).trans hB.out; obtain ⟨d0, d1, fz1⟩ := row2 B1; clear c0 c1 fz B1 hown; have hx := Lib.hid hhas; clear hhas)
    | (refine wpl_copy rfl (.tmp 12) (.tmp 16) rfl el_u64 w.heap.size w.heap.size (List.replicate l.length 0) l (.slice (some ⟨w.heap.size, 0, none⟩) l.length l.length) rfl (.slice a l.length cap) rfl (by simp) (by simp) ⟨_, rfl⟩ hx.out (store_sl hst.out hbel _ _ hB.out) hbel (Nat.le_refl _) ?_; intro w2 hx2 hbel2; clear d0 d1 fz1))
  go_ret
  have e2 := hx2.out
  exact ⟨_, rfl, ⟨_, _, rfl, Nat.le_refl _, .inr ⟨_, rfl, Nat.le_refl _, e2⟩⟩, hbel2⟩

theorem Load_nil (at_ : Int) (w : World) : Calls Try.prog 18 #[.pointer none, .int .i64 at_] w fun e w' => e = .returned (.int .u64 0) ∧ w' = w := by
  go_enter Try.func18, Try.ntmps18
  go_wp2_with (go_at_call 60; refine (word_nil _ _).mono ?_; rintro e w' ⟨rfl, rfl⟩)
  go_ret
  exact ⟨rfl, rfl⟩

theorem Put_nil (at_ x : Int) (w : World) : Calls Try.prog 20 #[.pointer none, .int .i64 at_, .int .u64 x] w fun e w' => e = .returned (.tuple #[]) ∧ w' = w := by
  go_enter Try.func20, Try.ntmps20
  go_wp2_with (go_at_call 60; refine (word_nil _ _).mono ?_; rintro e w' ⟨rfl, rfl⟩)
  go_end0
  exact ⟨rfl, rfl⟩

theorem Swap_nil (at_ old x : Int) (w : World) : Calls Try.prog 95 #[.pointer none, .int .i64 at_, .int .u64 old, .int .u64 x] w fun e w' => e = .returned (.bool false) ∧ w' = w := by
  go_enter Try.func95, Try.ntmps95
  go_wp2_with (go_at_call 60; refine (word_nil _ _).mono ?_; rintro e w' ⟨rfl, rfl⟩)
  go_ret
  exact ⟨rfl, rfl⟩

theorem Add_nil (at_ x : Int) (w : World) : Calls Try.prog 106 #[.pointer none, .int .i64 at_, .int .u64 x] w fun e w' => e = .returned (.int .u64 0) ∧ w' = w := by
  go_enter Try.func106, Try.ntmps106
  go_wp2_with (go_at_call 60; refine (word_nil _ _).mono ?_; rintro e w' ⟨rfl, rfl⟩)
  go_ret
  exact ⟨rfl, rfl⟩

theorem Count_nil (w : World) : Calls Try.prog 28 #[.pointer none] w fun e w' => e = .returned (.int .i64 0) ∧ w' = w := by
  go_enter Try.func28, Try.ntmps28
  go_wp2
  go_ret
  exact ⟨rfl, rfl⟩

theorem All_nil (w : World) : Calls Try.prog 25 #[.pointer none] w fun e w' => e = .returned (.slice none 0 0) ∧ w' = w := by
  go_enter Try.func25, Try.ntmps25
  go_wp2
  go_ret
  exact ⟨rfl, rfl⟩

end Go.Proofs.Ytmiaghbakdapbaa

/- The functions of package cells: memory that all share is a list of words and a count of accesses. Condition: the Store's two blocks are there. -/
import Derived.Test.YtmiaghbakdapbaaHeap
import Derived.Laws.EntriesVeiled
set_option linter.unusedVariables false
namespace Go.Proofs.Ytmiaghbakdapbaa
open Go.ChangeShapes Go.WideShapes Go.ChangeAt Go.RowKit

/-- A Store in block sb, its words l in block g, n accesses counted. -/
def StoreAt (w : World) (sb g : Nat) (l : List Int) (n : Int) : Prop :=
  ∃ a cap, w.heap[sb]? = some (.cells #[.slice a l.length cap, .int .i64 n] 95 (0, 0)) ∧ (l = [] ∨ g ≠ sb ∧ a = some ⟨g, 0, none⟩ ∧ HasI w g 39 .u64 l)

theorem store_upd {w w' : World} {sb g : Nat} {l : List Int} {n : Int} {S : List Nat} (h : StoreAt w sb g l n) (u : Upd S w w') (h1 : sb ∉ S) (h2 : g ∉ S) : StoreAt w' sb g l n := by
  obtain ⟨a, cap, hb, hl⟩ := h
  exact ⟨a, cap, u.blk hb h1, hl.imp id fun ⟨q0, q1, q2⟩ => ⟨q0, q1, hasI_upd q2 u h2⟩⟩

theorem store_drewN {w : World} {sb g : Nat} {l : List Int} {n : Int} (h : StoreAt w sb g l n) (m : Nat) : StoreAt (w.drewN m) sb g l n := h

theorem store_lt {w : World} {sb g : Nat} {l : List Int} {n : Int} (h : StoreAt w sb g l n) : sb < w.heap.size ∧ (l ≠ [] → g < w.heap.size) := by
  obtain ⟨a, cap, hb, hl⟩ := h
  refine ⟨blk_lt hb, fun q => ?_⟩
  obtain ⟨_, _, cur, hc, _⟩ := hl.resolve_left q
  exact blk_lt hc

def inR (l : List Int) (at_ : Int) : Prop := 0 ≤ at_ ∧ at_ < l.length

theorem store_count {w : World} {sb g : Nat} {l : List Int} {n : Int} (h : StoreAt w sb g l n) (m : Int) : StoreAt (w.setCell ⟨sb, 1, none⟩ (.int .i64 m)) sb g l m := by
  obtain ⟨a, cap, hb, hl⟩ := h
  exact ⟨a, cap, set_same hb 1 _, hl.imp id fun ⟨q0, q1, q2⟩ => ⟨q0, q1, hasI_other q2 (by exact q0) _⟩⟩

theorem store_put {w : World} {sb g : Nat} {l : List Int} {n : Int} (h : StoreAt w sb g l n) (hne : l ≠ []) (j : Nat) (x : Int) : StoreAt (w.setCell ⟨g, j, none⟩ (.int .u64 x)) sb g (l.set j x) n := by
  obtain ⟨a, cap, hb, hl⟩ := h
  obtain ⟨q0, q1, q2⟩ := hl.resolve_left hne
  exact ⟨a, cap, by rw [List.length_set]; exact set_other hb (by exact fun e => q0 e.symm) _, .inr ⟨q0, q1, hasI_set q2 j x⟩⟩

theorem store_upd0 (w : World) (sb g : Nat) (v : Value) : Upd [sb, g] w (w.setCell ⟨sb, 1, none⟩ v) := (Upd.refl _ _).setCell (by simp) _

theorem word_in (sb g : Nat) (l : List Int) (n at_ : Int) (w : World) (h : StoreAt w sb g l n) (h0 : 0 ≤ at_) (h1 : at_ < l.length) :
    Calls Try.prog 60 #[.pointer (some ⟨sb, 0, none⟩), .int .i64 at_] w fun e w' => e = .returned (.pointer (some ⟨g, at_.toNat, none⟩)) ∧ w' = w.setCell ⟨sb, 1, none⟩ (.int .i64 (wrap64 (n + 1))) := by
  obtain ⟨a, cap, hb, hl'⟩ := h
  obtain ⟨hne, rfl, hg⟩ := hl'.resolve_left (by rintro rfl; simp at h1; omega)
  obtain ⟨c0, c1, fz⟩ := row2 hb
  have hg0 : decide (at_ < 0) = false := by simp; omega
  have hg1 : decide ((l.length : Int) ≤ at_) = false := by simp; omega
  clear hb hl' hg
  go_enter Try.func60, Try.ntmps60
  go_wp2
  go_ret
  exact ⟨rfl, rfl⟩

theorem word_out (sb g : Nat) (l : List Int) (n at_ : Int) (w : World) (h : StoreAt w sb g l n) (h0 : ¬ (0 ≤ at_ ∧ at_ < l.length)) :
    Calls Try.prog 60 #[.pointer (some ⟨sb, 0, none⟩), .int .i64 at_] w fun e w' => e = .returned (.pointer none) ∧ w' = w.setCell ⟨sb, 1, none⟩ (.int .i64 (wrap64 (n + 1))) := by
  obtain ⟨a, cap, hb, hl'⟩ := h
  obtain ⟨c0, c1, fz⟩ := row2 hb
  clear hb hl'
  by_cases hn : at_ < 0
  · go_enter Try.func60, Try.ntmps60
    go_wp2
    go_ret
    exact ⟨rfl, rfl⟩
  · have hg0 : decide (at_ < 0) = false := by simp; omega
    have hg1 : (l.length : Int) ≤ at_ := by omega
    go_enter Try.func60, Try.ntmps60
    go_wp2
    go_ret
    exact ⟨rfl, rfl⟩

theorem word_nil (at_ : Int) (w : World) :
    Calls Try.prog 60 #[.pointer none, .int .i64 at_] w fun e w' => e = .returned (.pointer none) ∧ w' = w := by
  go_enter Try.func60, Try.ntmps60
  go_wp2
  go_ret
  exact ⟨rfl, rfl⟩

/-- A word of memory; 0 where there is none. -/
def mld (l : List Int) (at_ : Int) : Int := if 0 ≤ at_ ∧ at_ < l.length then l.getD at_.toNat 0 else 0
def mput (l : List Int) (at_ x : Int) : List Int := if 0 ≤ at_ ∧ at_ < l.length then l.set at_.toNat x else l
def mswapped (l : List Int) (at_ old : Int) : Bool := decide (0 ≤ at_ ∧ at_ < l.length) && (mld l at_ == old)
def mswap (l : List Int) (at_ old x : Int) : List Int := if mswapped l at_ old then mput l at_ x else l
def madd (l : List Int) (at_ x : Int) : List Int := mput l at_ (IntKind.u64.wrap (mld l at_ + x))

theorem ne_of_in {l : List Int} {at_ : Int} (h : 0 ≤ at_ ∧ at_ < l.length) : l ≠ [] := by rintro rfl; simp at h; omega
theorem mld_in {l : List Int} {at_ : Int} (h : 0 ≤ at_ ∧ at_ < l.length) : mld l at_ = l.getD at_.toNat 0 := by unfold mld; rw [if_pos h]
theorem mld_out {l : List Int} {at_ : Int} (h : ¬ (0 ≤ at_ ∧ at_ < l.length)) : mld l at_ = 0 := by unfold mld; rw [if_neg h]
theorem mput_in {l : List Int} {at_ : Int} (h : 0 ≤ at_ ∧ at_ < l.length) (x : Int) : mput l at_ x = l.set at_.toNat x := by unfold mput; rw [if_pos h]
theorem mput_out {l : List Int} {at_ : Int} (h : ¬ (0 ≤ at_ ∧ at_ < l.length)) (x : Int) : mput l at_ x = l := by unfold mput; rw [if_neg h]
theorem mput_length (l : List Int) (at_ x : Int) : (mput l at_ x).length = l.length := by unfold mput; split <;> simp

theorem mld_mput_ne (l : List Int) (i j v : Int) (h : i ≠ j) : mld (mput l i v) j = mld l j := by
  unfold mld
  rw [mput_length]
  by_cases hj : 0 ≤ j ∧ j < l.length
  · rw [if_pos hj, if_pos hj]
    unfold mput
    split
    · rename_i hi
      simp only [List.getD_eq_getElem?_getD]
      rw [List.getElem?_set_ne (by omega)]
    · rfl
  · rw [if_neg hj, if_neg hj]

theorem mld_mput_same {l : List Int} {i : Int} (h : 0 ≤ i ∧ i < l.length) (v : Int) : mld (mput l i v) i = v := by
  rw [mld_in (by rw [mput_length]; exact h), mput_in h]
  have hj : i.toNat < l.length := by omega
  simp [List.getD, hj]

theorem mswap_yes' {l : List Int} {i : Int} (h : 0 ≤ i ∧ i < l.length) (x : Int) : mswapped l i (mld l i) = true ∧ mswap l i (mld l i) x = mput l i x := by
  have h1 : mswapped l i (mld l i) = true := by unfold mswapped; simp [h]
  exact ⟨h1, by unfold mswap; rw [h1, if_pos rfl]⟩

theorem store_cell {w : World} {sb g : Nat} {l : List Int} {n : Int} (h : StoreAt w sb g l n) {at_ : Int} (h0 : 0 ≤ at_ ∧ at_ < l.length) : w.cell? ⟨g, at_.toNat, none⟩ = some (.int .u64 (mld l at_)) ∧ w.frozen? ⟨g, at_.toNat, none⟩ = false := by
  obtain ⟨a, cap, hb, hl'⟩ := h
  obtain ⟨_, _, hg⟩ := hl'.resolve_left (by rintro rfl; simp at h0; omega)
  have hj : at_.toNat < l.length := by omega
  exact ⟨by rw [hasI_cell hg _ hj, mld_in h0]; simp [List.getD, hj], hasI_frozen hg _⟩

theorem Load_c (sb g : Nat) (l : List Int) (n at_ : Int) (w : World) (h : StoreAt w sb g l n) :
    Calls Try.prog 18 #[.pointer (some ⟨sb, 0, none⟩), .int .i64 at_] w fun e w' => e = .returned (.int .u64 (mld l at_)) ∧ StoreAt w' sb g l (wrap64 (n + 1)) ∧ Upd [sb, g] w w' := by
  by_cases h0 : 0 ≤ at_ ∧ at_ < l.length
  · have hs := store_count h (wrap64 (n + 1))
    obtain ⟨hc, _⟩ := store_cell hs h0
    go_enter Try.func18, Try.ntmps18
    go_wp2_with (go_at_call 60; refine (word_in _ _ _ _ _ _ h h0.1 h0.2).mono ?_; rintro e w' ⟨rfl, rfl⟩)
    go_ret
    exact ⟨rfl, hs, store_upd0 _ _ _ _⟩
  · have hs := store_count h (wrap64 (n + 1))
    have e1 := Lib.hid (mld_out h0)
    go_enter Try.func18, Try.ntmps18
    go_wp2_with (go_at_call 60; refine (word_out _ _ _ _ _ _ h h0).mono ?_; rintro e w' ⟨rfl, rfl⟩)
    go_ret
    exact ⟨ret_int e1.out.symm, hs, store_upd0 _ _ _ _⟩

theorem Put_c (sb g : Nat) (l : List Int) (n at_ x : Int) (w : World) (h : StoreAt w sb g l n) :
    Calls Try.prog 20 #[.pointer (some ⟨sb, 0, none⟩), .int .i64 at_, .int .u64 x] w fun e w' => e = .returned (.tuple #[]) ∧ StoreAt w' sb g (mput l at_ x) (wrap64 (n + 1)) ∧ Upd [sb, g] w w' := by
  by_cases h0 : 0 ≤ at_ ∧ at_ < l.length
  · have hs := store_count h (wrap64 (n + 1))
    obtain ⟨hc, hf⟩ := store_cell hs h0
    have e1 := Lib.hid (mput_in h0 x)
    go_enter Try.func20, Try.ntmps20
    go_wp2_with (go_at_call 60; refine (word_in _ _ _ _ _ _ h h0.1 h0.2).mono ?_; rintro e w' ⟨rfl, rfl⟩)
    go_end0
    exact ⟨rfl, by rw [e1.out]; exact store_put hs (ne_of_in h0) _ _, (store_upd0 _ _ _ _).setCell (by simp) _⟩
  · have hs := store_count h (wrap64 (n + 1))
    have e1 := Lib.hid (mput_out h0 x)
    go_enter Try.func20, Try.ntmps20
    go_wp2_with (go_at_call 60; refine (word_out _ _ _ _ _ _ h h0).mono ?_; rintro e w' ⟨rfl, rfl⟩)
    go_end0
    exact ⟨rfl, by rw [e1.out]; exact hs, store_upd0 _ _ _ _⟩

theorem mswap_yes {l : List Int} {at_ old : Int} (h : 0 ≤ at_ ∧ at_ < l.length) (he : mld l at_ = old) (x : Int) : mswapped l at_ old = true ∧ mswap l at_ old x = l.set at_.toNat x := by
  have h1 : mswapped l at_ old = true := by unfold mswapped; simp [h, he]
  exact ⟨h1, by unfold mswap; rw [h1, if_pos rfl, mput_in h]⟩
theorem mswap_no {l : List Int} {at_ old : Int} (h : 0 ≤ at_ ∧ at_ < l.length) (he : ¬ mld l at_ = old) (x : Int) : mswapped l at_ old = false ∧ mswap l at_ old x = l := by
  have h1 : mswapped l at_ old = false := by unfold mswapped; simp [h, he]
  exact ⟨h1, by unfold mswap; rw [h1]; rfl⟩
theorem mswap_out {l : List Int} {at_ old : Int} (h : ¬ (0 ≤ at_ ∧ at_ < l.length)) (x : Int) : mswapped l at_ old = false ∧ mswap l at_ old x = l := by
  have h1 : mswapped l at_ old = false := by unfold mswapped; rw [decide_eq_false h]; rfl
  exact ⟨h1, by unfold mswap; rw [h1]; rfl⟩

theorem ret_bool {a b : Bool} (h : a = b) : Ending.returned (.bool a) = .returned (.bool b) := by rw [h]

theorem Swap_c (sb g : Nat) (l : List Int) (n at_ old x : Int) (w : World) (h : StoreAt w sb g l n) :
    Calls Try.prog 95 #[.pointer (some ⟨sb, 0, none⟩), .int .i64 at_, .int .u64 old, .int .u64 x] w fun e w' => e = .returned (.bool (mswapped l at_ old)) ∧ StoreAt w' sb g (mswap l at_ old x) (wrap64 (n + 1)) ∧ Upd [sb, g] w w' := by
  have hs := store_count h (wrap64 (n + 1))
  by_cases h0 : 0 ≤ at_ ∧ at_ < l.length
  · obtain ⟨hc, hf⟩ := store_cell hs h0
    by_cases he : mld l at_ = old
    · have e1 := Lib.hid (mswap_yes h0 he x)
      rw [he] at hc
      clear he
      go_enter Try.func95, Try.ntmps95
      go_wp2_with (go_at_call 60; refine (word_in _ _ _ _ _ _ h h0.1 h0.2).mono ?_; rintro e w' ⟨rfl, rfl⟩)
      go_ret
      exact ⟨ret_bool e1.out.1.symm, by rw [e1.out.2]; exact store_put hs (ne_of_in h0) _ _, (store_upd0 _ _ _ _).setCell (by simp) _⟩
    · have e1 := Lib.hid (mswap_no h0 he x)
      have hb : (mld l at_ != old) = true := by simpa using he
      go_enter Try.func95, Try.ntmps95
      go_wp2_with (go_at_call 60; refine (word_in _ _ _ _ _ _ h h0.1 h0.2).mono ?_; rintro e w' ⟨rfl, rfl⟩)
      go_ret
      exact ⟨ret_bool e1.out.1.symm, by rw [e1.out.2]; exact hs, store_upd0 _ _ _ _⟩
  · have e1 := Lib.hid (mswap_out (old := old) h0 x)
    go_enter Try.func95, Try.ntmps95
    go_wp2_with (go_at_call 60; refine (word_out _ _ _ _ _ _ h h0).mono ?_; rintro e w' ⟨rfl, rfl⟩)
    go_ret
    exact ⟨ret_bool e1.out.1.symm, by rw [e1.out.2]; exact hs, store_upd0 _ _ _ _⟩

theorem Add_c (sb g : Nat) (l : List Int) (n at_ x : Int) (w : World) (h : StoreAt w sb g l n) :
    Calls Try.prog 106 #[.pointer (some ⟨sb, 0, none⟩), .int .i64 at_, .int .u64 x] w fun e w' => e = .returned (.int .u64 (mld l at_)) ∧ StoreAt w' sb g (madd l at_ x) (wrap64 (n + 1)) ∧ Upd [sb, g] w w' := by
  have hs := store_count h (wrap64 (n + 1))
  by_cases h0 : 0 ≤ at_ ∧ at_ < l.length
  · obtain ⟨hc, hf⟩ := store_cell hs h0
    have e1 := Lib.hid (mput_in h0 (IntKind.u64.wrap (mld l at_ + x)))
    go_enter Try.func106, Try.ntmps106
    go_wp2_with (go_at_call 60; refine (word_in _ _ _ _ _ _ h h0.1 h0.2).mono ?_; rintro e w' ⟨rfl, rfl⟩)
    go_ret
    exact ⟨rfl, by unfold madd; rw [e1.out]; exact store_put hs (ne_of_in h0) _ _, (store_upd0 _ _ _ _).setCell (by simp) _⟩
  · have e1 := Lib.hid (mld_out h0)
    have e2 := Lib.hid (mput_out h0 (IntKind.u64.wrap (mld l at_ + x)))
    go_enter Try.func106, Try.ntmps106
    go_wp2_with (go_at_call 60; refine (word_out _ _ _ _ _ _ h h0).mono ?_; rintro e w' ⟨rfl, rfl⟩)
    go_ret
    exact ⟨ret_int e1.out.symm, by unfold madd; rw [e2.out]; exact hs, store_upd0 _ _ _ _⟩

theorem Count_c (sb g : Nat) (l : List Int) (n : Int) (w : World) (h : StoreAt w sb g l n) :
    Calls Try.prog 28 #[.pointer (some ⟨sb, 0, none⟩)] w fun e w' => e = .returned (.int .i64 n) ∧ w' = w := by
  obtain ⟨a, cap, hb, hl'⟩ := h
  obtain ⟨c0, c1, fz⟩ := row2 hb
  clear hb hl'
  go_enter Try.func28, Try.ntmps28
  go_wp2
  go_ret
  exact ⟨rfl, rfl⟩

end Go.Proofs.Ytmiaghbakdapbaa

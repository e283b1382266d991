/- Laws of the graph, in plain Lean: two mutators together; what was written is read. -/
import Derived.Test.YtfjkmdhkalbpkaaAw7
set_option linter.unusedVariables false
set_option linter.unusedSimpArgs false
namespace Go.Proofs.Ytfjkmdhkalbpkaa
namespace PG

theorem modify_comm {α : Type} (l : List α) (i j : Nat) (f g : α → α) (h : i ≠ j) : (l.modify i f).modify j g = (l.modify j g).modify i f := by
  refine List.ext_getElem? fun k => ?_
  rw [get_mod, get_mod, get_mod, get_mod]
  by_cases h1 : j = k
  · rw [if_pos h1, if_neg (by omega), if_neg (by omega), if_pos h1]
  · rw [if_neg h1, if_neg h1]

theorem L_drop {g : PG} {x y : Nat} (h : x ≠ y) : (g.drop x).L y = g.L y := by
  unfold L drop
  rw [iget_nat, iget_nat]
  dsimp only
  rw [get_mod, if_neg (by simpa using h)]
theorem L_push {g : PG} {x y : Nat} (v : Int) (h : y ≠ x) : (g.push y v).L x = g.L x := by
  unfold L push
  rw [iget_nat, iget_nat]
  dsimp only
  rw [get_mod, if_neg (by simpa using h)]
theorem root_drop {g : PG} {x y : Nat} (a : Int) (h : x ≠ y) : (g.drop x).root y a = g.root y a := by unfold root; rw [L_drop h]
theorem room_drop {g : PG} {x y : Nat} (h : x ≠ y) : (g.drop x).room y = g.room y := by unfold room; rw [L_drop h]; rfl

/-- A pop of one and a dup of the other may come in either order. -/
theorem together (g : PG) (x y : Nat) (a : Int) (h : x ≠ y) :
    ((g.pop x).1.dup y a).1 = ((g.dup y a).1.pop x).1 ∧ (g.pop x).2 = ((g.dup y a).1.pop x).2 ∧ ((g.pop x).1.dup y a).2 = (g.dup y a).2 := by
  cases hx : g.L x with
  | none =>
    have hp : g.pop x = (g, false) := by unfold pop; rw [hx]
    rw [hp]
    have hL : (g.dup y a).1.L x = none := by
      unfold dup
      cases hr : g.root y a with
      | none => exact hx
      | some v =>
        dsimp only
        split
        · rw [L_push _ (Ne.symm h)]; exact hx
        · exact hx
    have hp2 : (g.dup y a).1.pop x = ((g.dup y a).1, false) := by unfold pop; rw [hL]
    rw [hp2]
    exact ⟨rfl, rfl, rfl⟩
  | some l =>
    by_cases h0 : l = []
    · subst h0
      have hp : g.pop x = (g, false) := by unfold pop; rw [hx]; rfl
      rw [hp]
      have hL : (g.dup y a).1.L x = some [] := by
        unfold dup
        cases hr : g.root y a with
        | none => exact hx
        | some v =>
          dsimp only
          split
          · rw [L_push _ (Ne.symm h)]; exact hx
          · exact hx
      have hp2 : (g.dup y a).1.pop x = ((g.dup y a).1, false) := by unfold pop; rw [hL]; rfl
      rw [hp2]
      exact ⟨rfl, rfl, rfl⟩
    · have hp : g.pop x = (g.drop x, true) := by unfold pop; rw [hx]; simp [h0]
      rw [hp]
      dsimp only
      have hL : (g.dup y a).1.L x = some l := by
        unfold dup
        cases hr : g.root y a with
        | none => exact hx
        | some v =>
          dsimp only
          split
          · rw [L_push _ (Ne.symm h)]; exact hx
          · exact hx
      have hp2 : (g.dup y a).1.pop x = ((g.dup y a).1.drop x, true) := by unfold pop; rw [hL]; simp [h0]
      rw [hp2]
      refine ⟨?_, rfl, ?_⟩
      · unfold dup
        rw [root_drop a h, room_drop h]
        cases hr : g.root y a with
        | none => rfl
        | some v =>
          dsimp only
          split
          · unfold push drop
            dsimp only
            rw [modify_comm _ _ _ _ _ (by simpa using h)]
          · rfl
      · unfold dup
        rw [root_drop a h, room_drop h]
        cases hr : g.root y a with
        | none => rfl
        | some v =>
          dsimp only
          split <;> rfl

/-! What was written is read. -/

theorem rts_get {g : PG} {m : Int} {a : Int} : g.root m a = iget (g.rts m) a := by
  unfold root rts
  cases g.L m with
  | none => simp [iget]
  | some l => rfl

/-- What may not be written isn't. -/
theorem write_no1 {g : PG} {m a i b : Int} (h : iget (g.rts m) a = none ∨ iget (g.rts m) b = none) : g.write m a i b = (g, false) := by
  unfold write slot
  rw [rts_get, rts_get]
  rcases h with h | h
  · rw [h]
  · rw [h]
    cases iget (g.rts m) a with
    | none => rfl
    | some v =>
      dsimp only
      split
      · rfl
      · cases iget (g.slots v) i <;> rfl
theorem write_no2 {g : PG} {m a i b : Int} (h : iget (g.rts m) a = some 0) : g.write m a i b = (g, false) := by
  unfold write slot
  rw [rts_get, h]
  rfl
theorem write_no3 {g : PG} {m a i b v : Int} (h : iget (g.rts m) a = some v) (hv : v ≠ 0) (hi : iget (g.slots v) i = none) : g.write m a i b = (g, false) := by
  unfold write slot
  rw [rts_get, h]
  dsimp only
  rw [if_neg hv, hi]
  rfl
theorem write_yes {g : PG} {m a i b v x y : Int} (h : iget (g.rts m) a = some v) (hv : v ≠ 0) (hi : iget (g.slots v) i = some y) (hb : iget (g.rts m) b = some x) : g.write m a i b = (g.put v i x, true) := by
  unfold write slot
  rw [rts_get, rts_get, h]
  dsimp only
  rw [if_neg hv, hi, hb]
  rfl
theorem put_slots {g : PG} {v i x : Int} (hv : 1 ≤ v) : (g.put v i x).slots v = (g.slots v).set i.toNat x := by
  unfold slots put
  obtain ⟨k, rfl⟩ : ∃ k : Nat, v = (k : Int) + 1 := ⟨(v - 1).toNat, by omega⟩
  rw [show (k : Int) + 1 - 1 = (k : Int) by omega, iget_nat, iget_nat]
  dsimp only
  rw [Int.toNat_natCast, get_mod, if_pos rfl]
  cases g.nodes[k]? with
  | none => simp
  | some l => rfl
theorem read_put {g : PG} {m a i v x y : Int} (h : iget (g.rts m) a = some v) (hv : 1 ≤ v) (hi : iget (g.slots v) i = some y) (hr : g.room m = true) : (g.put v i x).read m a i = ((g.put v i x).push m x, x, true) := by
  have hs : iget ((g.put v i x).slots v) i = some x := by
    rw [put_slots hv]
    obtain ⟨k, rfl, hk⟩ := iget_some hi
    rw [iget_nat, Int.toNat_natCast, List.getElem?_set_self (List.getElem?_eq_some_iff.1 hk).1]
  unfold read slot
  rw [rts_get]
  have e : (g.put v i x).rts m = g.rts m := rfl
  rw [e, h]
  dsimp only
  rw [if_neg (by omega), hs]
  have e2 : (g.put v i x).room m = g.room m := rfl
  simp only [Option.map_some]
  rw [e2, hr]
  rfl
/-- Behind a pop there is room. -/
theorem room_pop {g : PG} (ok : g.Ok) {m : Nat} (h : g.rts m ≠ []) : (g.pop m).1.room m = true ∧ (g.pop m).1.rts m = (g.rts m).dropLast := by
  cases hx : g.L m with
  | none => unfold rts at h; rw [hx] at h; exact absurd rfl h
  | some l =>
    have hl : g.rts m = l := by unfold rts; rw [hx]; rfl
    rw [hl] at h ⊢
    have hp : g.pop m = (g.drop m, true) := by unfold pop; rw [hx]; simp [h]
    rw [hp]
    have hd : (g.drop m).L m = some l.dropLast := by
      unfold L at hx ⊢
      unfold drop
      rw [iget_nat] at hx ⊢
      dsimp only
      rw [Int.toNat_natCast, get_mod, if_pos rfl, hx]
      rfl
    refine ⟨?_, ?_⟩
    · unfold room
      rw [hd]
      have h1 := ok.rl l (L_mem hx)
      have h2 := List.length_pos_iff.2 h
      show decide ((l.dropLast.length : Int) < g.most) = true
      rw [List.length_dropLast]
      simp; omega
    · unfold rts; rw [hd]; rfl

/-! One mutator's roots are its own. -/
theorem act_own {g : PG} {d m a i b : Int} {k : Nat} (h : (k : Int) ≠ m) : (g.act d m a i b).1.rts k = g.rts k := by
  have hL : (g.act d m a i b).1.L k = g.L k := by
    rcases act_others (g := g) (d := d) (a := a) (i := i) (b := b) h with q | q
    · unfold L; rw [iget_nat, iget_nat]; exact q
    · have hn : g.L m = none := by simpa using q
      have e : (g.act d m a i b).2.2 = false := by
        have hr : g.room m = false := by unfold room; rw [hn]
        have ht : ∀ a, g.root m a = none := fun a => by unfold root; rw [hn]; rfl
        have hs : ∀ a i, g.slot m a i = none := fun a i => by unfold slot; rw [ht]
        unfold act alloc read write pop dup
        rw [hr, hn, hs, ht, ht]
        split
        · simp
        · split
          · rfl
          · split
            · rfl
            · split <;> rfl
      rw [act_no e]
  unfold rts
  rw [hL]

theorem pop_len (g : PG) (m : Nat) : ((g.pop m).1.rts m).length = (g.rts m).length - 1 ∧ (∀ k : Nat, k ≠ m → (g.pop m).1.rts k = g.rts k) ∧ (g.pop m).2 = decide (0 < (g.rts m).length) := by
  cases hx : g.L m with
  | none =>
    have hp : g.pop m = (g, false) := by unfold pop; rw [hx]
    have hl : g.rts m = [] := by unfold rts; rw [hx]; rfl
    rw [hp, hl]
    exact ⟨rfl, fun _ _ => rfl, rfl⟩
  | some l =>
    have hl : g.rts m = l := by unfold rts; rw [hx]; rfl
    by_cases h0 : l = []
    · subst h0
      have hp : g.pop m = (g, false) := by unfold pop; rw [hx]; rfl
      rw [hp, hl]
      exact ⟨rfl, fun _ _ => rfl, rfl⟩
    · have hp : g.pop m = (g.drop m, true) := by unfold pop; rw [hx]; simp [h0]
      rw [hp]
      refine ⟨?_, fun k hk => ?_, ?_⟩
      · unfold rts L drop
        rw [iget_nat]
        dsimp only
        rw [Int.toNat_natCast, get_mod, if_pos rfl]
        unfold L at hx
        rw [iget_nat] at hx
        rw [iget_nat, hx]
        simp
      · unfold rts; rw [L_drop (Ne.symm hk)]
      · rw [hl]
        have := List.length_pos_iff.2 h0
        simp; omega

end PG
end Go.Proofs.Ytfjkmdhkalbpkaa

/- The program's graph in memory: a slot's place; what is made of the parts. No condition. -/
import Derived.Test.YtfjkmdhkalbpkaaGr7
import Derived.Deep.RegionHeld3
set_option linter.unusedVariables false
set_option linter.unusedSimpArgs false
namespace Go.Proofs.Ytfjkmdhkalbpkaa
open Go.ChangeShapes Go.WideShapes Go.ChangeAt Go.RowKit

/-- A slot's cell. -/
def SlotAt (w : World) (S : GS) (v i y : Int) (ad : Addr) : Prop := ∃ (q j : Nat) (l : List Int) (g off : Nat) (c : Nat), v = (q : Int) + 1 ∧ i = (j : Int) ∧ S.nl[q]? = some (.slice (some ⟨g, off, none⟩) l.length c, l) ∧ l[j]? = some y ∧ ad = ⟨g, off + j, none⟩ ∧ w.cell? ad = some (.int .i64 y) ∧ w.frozen? ad = false

def SlotR (w : World) (S : GS) (v i y : Int) (e : Ending) (w' : World) : Prop := ∃ ad, e = .returned (.pointer (some ad)) ∧ SlotAt w S v i y ad ∧ w' = w
theorem slot_yes {w : World} {S : GS} (A : GrAt w S) (ok : S.g.Ok) (hN : S.nl.length < 1000000) (m a i v y : Int) (hb : S.g.slot m a i = some (v, y)) : Calls Try.prog 41 #[.pointer (some ⟨S.gb, 0, none⟩), .int .i64 m, .int .i64 a, .int .i64 i] w fun e w' => SlotR w S v i y e w' := by
  obtain ⟨c0, c1, c2, fz⟩ := row3 A.g0
  unfold GS.rv at c1
  obtain ⟨hr, h0, hy⟩ := PG.slot_some hb
  have HR := Lib.hid (root_yes A m a v hr)
  have vb := PG.root_bd ok hr
  have h0b : (v == 0) = false := by simpa using h0
  obtain ⟨q, rfl⟩ : ∃ q : Nat, v = (q : Int) + 1 := ⟨(v - 1).toNat, by omega⟩
  have hq : q < S.g.nodes.length := by omega
  have hs : S.g.slots ((q : Int) + 1) = S.g.nodes[q] := by
    unfold PG.slots
    rw [show (q : Int) + 1 - 1 = (q : Int) by omega, iget_nat, List.getElem?_eq_getElem hq]
    rfl
  rw [hs] at hy
  generalize hlq : S.g.nodes[q] = l at hy
  have hlq' : S.g.nodes[q]? = some l := by rw [← hlq]; exact List.getElem?_eq_getElem hq
  obtain ⟨j, rfl, hj⟩ := iget_some hy
  obtain ⟨na, nc', nb, noff, nc, h1, h2, h3, h4⟩ := A.node hlq'
  obtain ⟨g, off, rfl, h5, h6⟩ := h4 j y hj
  have hql : (q : Int) < (S.nl.length : Int) := by have := (List.getElem?_eq_some_iff.1 h1).1; omega
  have hjl : (j : Int) < (l.length : Int) := by have := (List.getElem?_eq_some_iff.1 hj).1; omega
  have hj0 : decide ((j : Int) < 0) = false := by simp
  have hqb : (q : Int) < 1000000 := by omega
  rw [h2] at c2
  have SA : Hid (SlotAt w S ((q : Int) + 1) j y ⟨g, off + j, none⟩) := Lib.hid ⟨q, j, l, g, off, nc', rfl, rfl, h1, hj, rfl, h5, h6 _⟩
  clear hr hb A ok hs hlq hlq' h1 h2 h0 h4 h5 h6 hy hj
  go_enter Try.func41, Try.ntmps41
  go_wp2_with fail
  refine HR.out.mono ?_
  rintro e w' ⟨rfl, hw⟩
  obtain rfl := hw.symm
  clear hw hq vb hqb
  go_wp2_with fail
  go_ret
  exact ⟨_, rfl, SA.out, rfl⟩

section
variable {n0 : Nat} (cs : List (Chunk n0)) (S : GS)
theorem gl_b : (cs ++ gList n0 S)[cs.length]? = some (blkC n0 S.gb #[.int .i64 S.most, S.rv, S.nv] 60) := by
  rw [List.getElem?_append_right (Nat.le_refl _), Nat.sub_self]; rfl
theorem gl_r : (cs ++ gList n0 S)[cs.length + 1]? = some (ownC n0 30 1 S.rv S.rl.length (S.rl.map (·.1))) := by
  rw [List.getElem?_append_right (by omega), show cs.length + 1 - cs.length = 1 by omega]; rfl
theorem gl_n : (cs ++ gList n0 S)[cs.length + 2]? = some (ownC n0 30 1 S.nv S.nl.length (S.nl.map (·.1))) := by
  rw [List.getElem?_append_right (by omega), show cs.length + 2 - cs.length = 2 by omega]; rfl
theorem gl_ri {k : Nat} {p : Value × List Int} (h : S.rl[k]? = some p) : (cs ++ gList n0 S)[cs.length + (3 + k)]? = some (ownP n0 p) := by
  have hk := (List.getElem?_eq_some_iff.1 h).1
  rw [List.getElem?_append_right (by omega), show cs.length + (3 + k) - cs.length = 3 + k by omega]
  unfold gList
  rw [List.getElem?_append_left (by simp; omega), List.getElem?_append_right (by simp)]
  rw [List.getElem?_map]
  show ((S.rl[3 + k - 3]?).map _) = _
  rw [show 3 + k - 3 = k by omega, h]; rfl
theorem gl_ni {k : Nat} {p : Value × List Int} (h : S.nl[k]? = some p) : (cs ++ gList n0 S)[cs.length + (3 + S.rl.length + k)]? = some (ownP n0 p) := by
  have hk := (List.getElem?_eq_some_iff.1 h).1
  rw [List.getElem?_append_right (by omega), show cs.length + (3 + S.rl.length + k) - cs.length = 3 + S.rl.length + k by omega]
  unfold gList
  rw [List.getElem?_append_right (by simp; omega), List.getElem?_map]
  have e : ∀ A : List (Chunk n0), A.length = 3 + S.rl.length → 3 + S.rl.length + k - A.length = k := fun A h => by omega
  rw [e _ (by simp; omega), h]; rfl

theorem set_app {α : Type} (a b : List α) (k : Nat) (x : α) : (a ++ b).set (a.length + k) x = a ++ b.set k x := by
  rw [List.set_append_right _ _ (by omega), show a.length + k - a.length = k by omega]
theorem set_map {α β : Type} (f : α → β) (l : List α) (k : Nat) (x : α) : (l.map f).set k (f x) = (l.set k x).map f := by
  rw [List.map_set]
theorem gl_push (k : Nat) (p : Value × List Int) (hk : k < S.rl.length) : ((cs ++ gList n0 S).set (cs.length + (3 + k)) (ownP n0 p)).set (cs.length + 1) (ownC n0 30 1 S.rv S.rl.length ((S.rl.map (·.1)).set k p.1)) = cs ++ gList n0 { S with rl := S.rl.set k p } := by
  rw [set_app, set_app]
  congr 1
  unfold gList GS.rv
  rw [List.set_append_left _ _ (by simp; omega), show 3 + k = ([blkC n0 S.gb #[Value.int .i64 S.most, .slice (some ⟨S.rb, 0, none⟩) S.rl.length S.rl.length, S.nv] 60, ownC n0 30 1 (.slice (some ⟨S.rb, 0, none⟩) S.rl.length S.rl.length) S.rl.length (S.rl.map (·.1)), ownC n0 30 1 S.nv S.nl.length (S.nl.map (·.1))] : List (Chunk n0)).length + k from rfl, set_app, set_map (ownP n0)]
  rw [List.length_set, List.map_set (f := fun q : Value × List Int => q.1)]
  rfl
theorem gl_put (k : Nat) (v : Value) (l l' : List Int) (h : S.nl[k]? = some (v, l)) : (cs ++ gList n0 S).set (cs.length + (3 + S.rl.length + k)) (ownP n0 (v, l')) = cs ++ gList n0 { S with nl := S.nl.set k (v, l') } := by
  have hk := (List.getElem?_eq_some_iff.1 h).1
  rw [set_app]
  congr 1
  unfold gList
  have e : (S.nl.set k (v, l')).map (·.1) = S.nl.map (·.1) := by
    rw [← set_map (fun q : Value × List Int => q.1)]
    refine List.ext_getElem? fun j => ?_
    by_cases q : k = j
    · subst q
      rw [List.getElem?_set_self (by simpa using hk), List.getElem?_map, h]; rfl
    · rw [List.getElem?_set_ne q]
  dsimp only
  rw [e, List.length_set]
  rw [List.set_append_right _ _ (by simp; omega)]
  congr 1
  rw [← set_map (ownP n0)]
  congr 1
  simp; omega
theorem gl_more (nv : Value) (p : Value × List Int) : (((cs ++ gList n0 S) ++ [ownP n0 p]).set (cs.length + 2) (ownC n0 30 1 nv (S.nl.length + 1) (S.nl.map (·.1) ++ [p.1]))).set (cs.length + 0) (blkC n0 S.gb #[.int .i64 S.most, S.rv, nv] 60) = cs ++ gList n0 { S with nv := nv, nl := S.nl ++ [p] } := by
  rw [List.append_assoc, set_app, set_app]
  congr 1
  unfold gList GS.rv
  rw [List.length_append, List.map_append, List.map_append]
  simp only [List.cons_append, List.nil_append, List.append_assoc, List.set_cons_zero, List.set_cons_succ]
  rfl
end

end Go.Proofs.Ytfjkmdhkalbpkaa

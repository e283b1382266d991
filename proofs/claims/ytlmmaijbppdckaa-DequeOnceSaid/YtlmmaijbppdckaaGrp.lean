/- Many parts of memory as one part: put together, and taken apart again. No condition. -/
import Derived.Test.YtlmmaijbppdckaaOwn
set_option linter.unusedVariables false
set_option linter.unusedSimpArgs false
namespace Go.Proofs.Ytlmmaijbppdckaa
open Go.ChangeShapes Go.WideShapes Go.ChangeAt Go.RowKit

/-- Parts that stand apart from one another, and may be written, as one part; and what is known beside. -/
def groupC (n0 : Nat) (P : Prop) (ds : List (Chunk n0)) : Chunk n0 :=
  ⟨ds.flatMap (·.blocks), false, fun w => P ∧ (∀ d ∈ ds, d.ro = false ∧ d.holds w) ∧ (∀ (i j : Nat) c d, ds[i]? = some c → ds[j]? = some d → i ≠ j → ∀ k ∈ c.blocks, k ∉ d.blocks),
   fun w w' h ⟨p, a, b⟩ => ⟨p, fun d hd => ⟨(a d hd).1, d.stable w w' (fun k hk => h k (hk.imp id fun q => List.mem_flatMap.2 ⟨d, hd, q⟩)) (a d hd).2⟩, b⟩⟩

theorem Has.open {w0 w : World} {cs ds : List (Chunk w0.heap.size)} {P : Prop} (H : Has w0 w cs) {i : Nat} (hi : cs[i]? = some (groupC _ P ds)) : P ∧ Has w0 w (cs.set i (noC _) ++ ds) := by
  have hil : i < cs.length := (List.getElem?_eq_some_iff.1 hi).1
  obtain ⟨hP, ha, hb⟩ := H.get i hi
  refine ⟨hP, ?_⟩
  have at' : ∀ (j : Nat) d, (cs.set i (noC _) ++ ds)[j]? = some d → (j ≠ i ∧ cs[j]? = some d) ∨ (j = i ∧ d = noC _) ∨ (cs.length ≤ j ∧ ds[j - cs.length]? = some d) := fun j d hd => by
    rcases Nat.lt_or_ge j cs.length with q | q
    · rw [List.getElem?_append_left (by simpa using q)] at hd
      by_cases e : j = i
      · subst e
        rw [List.getElem?_set_self hil] at hd
        exact .inr (.inl ⟨rfl, (Option.some.inj hd).symm⟩)
      · rw [List.getElem?_set_ne (Ne.symm e)] at hd
        exact .inl ⟨e, hd⟩
    · rw [List.getElem?_append_right (by simpa using q)] at hd
      exact .inr (.inr ⟨q, by simpa using hd⟩)
  have mem : ∀ (j : Nat) d, ds[j]? = some d → ∀ k ∈ d.blocks, k ∈ (groupC w0.heap.size P ds).blocks := fun j d hd k hk => List.mem_flatMap.2 ⟨d, List.mem_of_getElem? hd, hk⟩
  refine ⟨H.below, fun j d hd => ?_, fun j d hd k hk => ?_, fun j m d e hd he hne hr k hk hm => ?_⟩
  · rcases at' j d hd with ⟨_, q⟩ | ⟨_, rfl⟩ | ⟨_, q⟩
    · exact H.holds j d q
    · trivial
    · exact (ha d (List.mem_of_getElem? q)).2
  · rcases at' j d hd with ⟨_, q⟩ | ⟨_, rfl⟩ | ⟨_, q⟩
    · exact H.lt j d q k hk
    · simp [noC] at hk
    · have := H.lt i _ hi k (mem _ d q k hk)
      exact ⟨this.1, fun _ => this.2 rfl⟩
  · rcases at' j d hd with ⟨n1, q⟩ | ⟨_, rfl⟩ | ⟨n1, q⟩
    · rcases at' m e he with ⟨n2, p⟩ | ⟨_, rfl⟩ | ⟨n2, p⟩
      · exact H.apart j m d e q p hne hr k hk hm
      · simp [noC] at hm
      · exact H.apart j i d _ q hi n1 (.inr rfl) k hk (mem _ e p k hm)
    · simp [noC] at hk
    · rcases at' m e he with ⟨n2, p⟩ | ⟨_, rfl⟩ | ⟨n2, p⟩
      · exact H.apart i m _ e hi p (Ne.symm n2) (.inl rfl) k (mem _ d q k hk) hm
      · simp [noC] at hm
      · exact hb _ _ d e q p (by omega) k hk hm

theorem Has.close {w0 w : World} {cs ds : List (Chunk w0.heap.size)} {P : Prop} (H : Has w0 w (cs ++ ds)) {i : Nat} (hi : cs[i]? = some (noC _)) (hro : ∀ d ∈ ds, d.ro = false) (hP : P) : Has w0 w (cs.set i (groupC _ P ds)) := by
  have hil : i < cs.length := (List.getElem?_eq_some_iff.1 hi).1
  have inr : ∀ (j : Nat) d, ds[j]? = some d → (cs ++ ds)[cs.length + j]? = some d := fun j d hd => by
    rw [List.getElem?_append_right (by omega)]; simpa using hd
  have inl : ∀ (j : Nat) d, cs[j]? = some d → (cs ++ ds)[j]? = some d := fun j d hd => by
    rw [List.getElem?_append_left (List.getElem?_eq_some_iff.1 hd).1]; exact hd
  have at' : ∀ (j : Nat) d, (cs.set i (groupC _ P ds))[j]? = some d → (j ≠ i ∧ cs[j]? = some d) ∨ (j = i ∧ d = groupC _ P ds) := fun j d hd => by
    by_cases e : j = i
    · subst e
      rw [List.getElem?_set_self hil] at hd
      exact .inr ⟨rfl, (Option.some.inj hd).symm⟩
    · rw [List.getElem?_set_ne (Ne.symm e)] at hd
      exact .inl ⟨e, hd⟩
  have mem : ∀ k ∈ (groupC w0.heap.size P ds).blocks, ∃ (j : Nat) (d : Chunk w0.heap.size), ds[j]? = some d ∧ k ∈ d.blocks := fun k hk => by
    obtain ⟨d, hd, hk⟩ := List.mem_flatMap.1 hk
    obtain ⟨j, hj⟩ := List.mem_iff_getElem?.1 hd
    exact ⟨j, d, hj, hk⟩
  refine ⟨H.below, fun j d hd => ?_, fun j d hd k hk => ?_, fun j m d e hd he hne hr k hk hm => ?_⟩
  · rcases at' j d hd with ⟨_, q⟩ | ⟨_, rfl⟩
    · exact H.holds j d (inl j d q)
    · refine ⟨hP, fun d hd => ?_, fun a b c d hc hd hne k hk => ?_⟩
      · obtain ⟨j, hj⟩ := List.mem_iff_getElem?.1 hd
        exact ⟨hro d hd, H.holds _ d (inr j d hj)⟩
      · exact H.apart _ _ c d (inr a c hc) (inr b d hd) (by omega) (.inl (hro c (List.mem_of_getElem? hc))) k hk
  · rcases at' j d hd with ⟨_, q⟩ | ⟨_, rfl⟩
    · exact H.lt j d (inl j d q) k hk
    · obtain ⟨a, d, hd, hk⟩ := mem k hk
      have := H.lt _ d (inr a d hd) k hk
      exact ⟨this.1, fun _ => this.2 (hro d (List.mem_of_getElem? hd))⟩
  · rcases at' j d hd with ⟨n1, q⟩ | ⟨n1, rfl⟩
    · rcases at' m e he with ⟨n2, p⟩ | ⟨n2, rfl⟩
      · exact H.apart j m d e (inl j d q) (inl m e p) hne hr k hk hm
      · obtain ⟨a, f, hf, hkf⟩ := mem k hm
        have hj := (List.getElem?_eq_some_iff.1 q).1
        exact H.apart j _ d f (inl j d q) (inr a f hf) (by omega) (.inr (hro f (List.mem_of_getElem? hf))) k hk hkf
    · rcases at' m e he with ⟨n2, p⟩ | ⟨n2, rfl⟩
      · obtain ⟨a, f, hf, hkf⟩ := mem k hk
        have hj := (List.getElem?_eq_some_iff.1 p).1
        exact H.apart _ m f e (inr a f hf) (inl m e p) (by omega) (.inl (hro f (List.mem_of_getElem? hf))) k hkf hm
      · omega

/-- New parts, made apart from all that is there, as one part more. -/
theorem Has.closeNew {w0 w : World} {cs ds : List (Chunk w0.heap.size)} {P : Prop} (H : Has w0 w (cs ++ ds)) (hro : ∀ d ∈ ds, d.ro = false) (hP : P) : Has w0 w (cs ++ [groupC _ P ds]) := by
  have H1 : Has w0 w (cs ++ [noC _] ++ ds) := by
    have H2 : Has w0 w ((cs ++ ds) ++ [noC _]) := H.addRo _ rfl (by simp [noC]) trivial
    have at' : ∀ (j : Nat) d, (cs ++ [noC w0.heap.size] ++ ds)[j]? = some d → (d = noC _) ∨ ∃ j', (cs ++ ds)[j']? = some d ∧ (j' = j ∧ j < cs.length ∨ j' + 1 = j ∧ cs.length < j) := fun j d hd => by
      rcases Nat.lt_or_ge j cs.length with q | q
      · refine .inr ⟨j, ?_, .inl ⟨rfl, q⟩⟩
        rw [List.append_assoc, List.getElem?_append_left q] at hd
        rw [List.getElem?_append_left q]; exact hd
      · by_cases e : j = cs.length
        · subst e
          rw [List.append_assoc, List.getElem?_append_right (Nat.le_refl _)] at hd
          simp at hd
          exact .inl hd.symm
        · refine .inr ⟨j - 1, ?_, .inr ⟨by omega, by omega⟩⟩
          rw [List.getElem?_append_right (by simp; omega)] at hd
          rw [List.getElem?_append_right (by omega)]
          simpa [show j - (cs.length + 1) = j - 1 - cs.length by omega] using hd
    refine ⟨H.below, fun j d hd => ?_, fun j d hd k hk => ?_, fun j m d e hd he hne hr k hk hm => ?_⟩
    · rcases at' j d hd with rfl | ⟨j', q, _⟩
      · trivial
      · exact H.holds j' d q
    · rcases at' j d hd with rfl | ⟨j', q, _⟩
      · simp [noC] at hk
      · exact H.lt j' d q k hk
    · rcases at' j d hd with rfl | ⟨j', q, r⟩
      · simp [noC] at hk
      · rcases at' m e he with rfl | ⟨m', p, s⟩
        · simp [noC] at hm
        · exact H.apart j' m' d e q p (by omega) hr k hk hm
  have := H1.close (i := cs.length) (P := P) (by simp) hro hP
  simpa using this

/-- The parts in another order. -/
theorem Has.perm {w0 w : World} {cs ds : List (Chunk w0.heap.size)} (H : Has w0 w cs) (p : cs.Perm ds) : Has w0 w ds := by
  have mem : ∀ (i : Nat) c, ds[i]? = some c → ∃ j : Nat, cs[j]? = some c := fun i c h => List.mem_iff_getElem?.1 (p.symm.subset (List.mem_of_getElem? h))
  have pw : cs.Pairwise fun c d => (c.ro = false ∨ d.ro = false) → ∀ k ∈ c.blocks, k ∉ d.blocks := by
    rw [List.pairwise_iff_getElem]
    intro i j hi hj hij
    exact H.apart i j _ _ (List.getElem?_eq_getElem hi) (List.getElem?_eq_getElem hj) (by omega)
  have pw2 := (p.pairwise_iff (fun {x y} h hr k hk hm => h hr.symm k hm hk)).1 pw
  rw [List.pairwise_iff_getElem] at pw2
  refine ⟨H.below, fun i c hi => ?_, fun i c hi => ?_, fun i j c d hi hj hne hr k hk hm => ?_⟩
  · obtain ⟨j, hj⟩ := mem i c hi; exact H.holds j c hj
  · obtain ⟨j, hj⟩ := mem i c hi; exact H.lt j c hj
  · obtain ⟨h1, e1⟩ := List.getElem?_eq_some_iff.1 hi
    obtain ⟨h2, e2⟩ := List.getElem?_eq_some_iff.1 hj
    subst e1 e2
    rcases Nat.lt_or_gt_of_ne hne with q | q
    · exact pw2 i j h1 h2 q hr k hk hm
    · exact pw2 j i h2 h1 q hr.symm k hm hk

end Go.Proofs.Ytlmmaijbppdckaa

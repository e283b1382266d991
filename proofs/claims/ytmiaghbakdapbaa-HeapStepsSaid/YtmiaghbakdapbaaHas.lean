/- Memory as parts that stand apart from one another: what holds of each, and what a call makes of them. No condition. -/
import Derived.Test.YtmiaghbakdapbaaSl
import Derived.Lib.Hide
set_option linter.unusedVariables false
namespace Go.Proofs.Ytmiaghbakdapbaa
open Go.ChangeShapes Go.WideShapes Go.ChangeAt Go.RowKit

/-- A part of memory: the blocks in which it stands, whether it is only read, and what holds of it. -/
structure Chunk (n0 : Nat) where
  blocks : List Nat
  ro : Bool
  holds : World → Prop
  stable : ∀ w w' : World, (∀ k, k < n0 ∨ k ∈ blocks → w'.heap[k]? = w.heap[k]?) → holds w → holds w'

/-- Nothing that was there ahead is changed; all parts are there, each apart from the others. -/
structure Has (w0 w : World) (cs : List (Chunk w0.heap.size)) : Prop where
  below : Below w0.heap.size w0 w
  holds : ∀ (i : Nat) c, cs[i]? = some c → c.holds w
  lt : ∀ (i : Nat) c, cs[i]? = some c → ∀ k ∈ c.blocks, k < w.heap.size ∧ (c.ro = false → w0.heap.size ≤ k)
  apart : ∀ (i j : Nat) c d, cs[i]? = some c → cs[j]? = some d → i ≠ j → (c.ro = false ∨ d.ro = false) → ∀ k ∈ c.blocks, k ∉ d.blocks

theorem Has.nil (w : World) : Has w w [] := ⟨Below.refl _ _, by simp, by simp, by simp⟩

theorem Has.heap {w0 w w' : World} {cs : List (Chunk w0.heap.size)} (H : Has w0 w cs) (h : w'.heap = w.heap) (ho : w'.os = w.os) (ht : w'.tape = w.tape) (hp : w'.output = w.output) : Has w0 w' cs :=
  ⟨⟨ho.trans H.below.os, ht.trans H.below.tape, hp.trans H.below.output, by rw [h]; exact H.below.size, fun k hk => by rw [h]; exact H.below.block k hk⟩,
   fun i c hi => c.stable w w' (fun k _ => by rw [h]) (H.holds i c hi), fun i c hi k hk => by rw [h]; exact H.lt i c hi k hk, H.apart⟩

theorem Has.drewN {w0 w : World} {cs : List (Chunk w0.heap.size)} (H : Has w0 w cs) (n : Nat) : Has w0 (w.drewN n) cs := H.heap rfl rfl rfl rfl
theorem Has.drew {w0 w : World} {cs : List (Chunk w0.heap.size)} (H : Has w0 w cs) : Has w0 w.drew cs := H.heap rfl rfl rfl rfl
theorem Has.undrewN {w0 w : World} {n : Nat} {cs : List (Chunk w0.heap.size)} (H : Has w0 (w.drewN n) cs) : Has w0 w cs := H.heap rfl rfl rfl rfl

theorem Has.up {w0 w w' : World} {cs : List (Chunk w0.heap.size)} (H : Has w0 w cs) (b : Below w.heap.size w w') : Has w0 w' cs :=
  ⟨H.below.trans (b.mono H.below.size), fun i c hi => c.stable w w' (fun k hk => b.block k (by
      rcases hk with q | q
      · exact Nat.lt_of_lt_of_le q H.below.size
      · exact (H.lt i c hi k q).1)) (H.holds i c hi),
   fun i c hi k hk => ⟨Nat.lt_of_lt_of_le (H.lt i c hi k hk).1 b.size, (H.lt i c hi k hk).2⟩, H.apart⟩

theorem Has.alloc {w0 w : World} {cs : List (Chunk w0.heap.size)} (H : Has w0 w cs) (o : Obj) : Has w0 (w.alloc o) cs := H.up ((Below.refl _ _).alloc (Nat.le_refl _) _)

theorem Has.size {w0 w : World} {cs : List (Chunk w0.heap.size)} (H : Has w0 w cs) : w0.heap.size ≤ w.heap.size := H.below.size

/-- One part is changed. -/
theorem Has.set {w0 w w' : World} {cs : List (Chunk w0.heap.size)} {S : List Nat} (H : Has w0 w cs) {i : Nat} {c : Chunk w0.heap.size} (c' : Chunk w0.heap.size) (hi : cs[i]? = some c) (hro : c.ro = false) (u : Upd S w w') (hS : ∀ k ∈ S, k ∈ c.blocks ∨ w.heap.size ≤ k)
    (hb : ∀ k ∈ c'.blocks, (k ∈ c.blocks ∨ w.heap.size ≤ k) ∧ k < w'.heap.size) (h' : c'.holds w') : Has w0 w' (cs.set i c') := by
  have hil : i < cs.length := (List.getElem?_eq_some_iff.1 hi).1
  have other : ∀ (j : Nat) d, j ≠ i → (cs.set i c')[j]? = some d → cs[j]? = some d := fun j d hj hd => by rwa [List.getElem?_set_ne (Ne.symm hj)] at hd
  have same : ∀ d, (cs.set i c')[i]? = some d → d = c' := fun d hd => by
    rw [List.getElem?_set_self hil] at hd; exact (Option.some.inj hd).symm
  have keep : ∀ (j : Nat) d, j ≠ i → cs[j]? = some d → ∀ k, k < w0.heap.size ∨ k ∈ d.blocks → w'.heap[k]? = w.heap[k]? := fun j d hj hd k hk => by
    have hkl : k < w.heap.size := by
      rcases hk with q | q
      · exact Nat.lt_of_lt_of_le q H.below.size
      · exact (H.lt j d hd k q).1
    refine u.block k hkl fun hm => ?_
    rcases hS k hm with q | q
    · rcases hk with p | p
      · have := (H.lt i c hi k q).2 hro; omega
      · exact H.apart i j c d hi hd (Ne.symm hj) (.inl hro) k q p
    · omega
  refine ⟨?_, fun j d hd => ?_, fun j d hd k hk => ?_, fun j m d e hd he hne hr k hk hm => ?_⟩
  · refine H.below.trans ⟨u.os, u.tape, u.output, u.size, fun k hk => u.block k (Nat.lt_of_lt_of_le hk H.below.size) fun hm => ?_⟩
    rcases hS k hm with q | q
    · have := (H.lt i c hi k q).2 hro; omega
    · have := H.below.size; omega
  · by_cases hj : j = i
    · subst hj; rw [same d hd]; exact h'
    · have hd' := other j d hj hd
      exact d.stable w w' (keep j d hj hd') (H.holds j d hd')
  · by_cases hj : j = i
    · subst hj
      have := same d hd; subst this
      obtain ⟨h1, h2⟩ := hb k hk
      refine ⟨h2, fun _ => ?_⟩
      rcases h1 with q | q
      · exact (H.lt j c hi k q).2 hro
      · exact Nat.le_trans H.below.size q
    · have hd' := other j d hj hd
      exact ⟨Nat.lt_of_lt_of_le (H.lt j d hd' k hk).1 u.size, (H.lt j d hd' k hk).2⟩
  · by_cases hj : j = i
    · subst hj
      have := same d hd; subst this
      have he' := other m e (Ne.symm hne) he
      rcases (hb k hk).1 with q | q
      · exact H.apart j m c e hi he' hne (.inl hro) k q hm
      · have := (H.lt m e he' k hm).1; omega
    · have hd' := other j d hj hd
      by_cases hmi : m = i
      · subst hmi
        have := same e he; subst this
        rcases (hb k hm).1 with q | q
        · exact H.apart j m d c hd' hi hne (.inr hro) k hk q
        · have := (H.lt j d hd' k hk).1; omega
      · exact H.apart j m d e hd' (other m e hmi he) hne hr k hk hm

/-- A part whose blocks stay what they were holds otherwise. -/
theorem Has.re {w0 w : World} {cs : List (Chunk w0.heap.size)} (H : Has w0 w cs) {i : Nat} {c : Chunk w0.heap.size} (c' : Chunk w0.heap.size) (hi : cs[i]? = some c) (hb : ∀ k ∈ c'.blocks, k ∈ c.blocks) (hro : c'.ro = false → c.ro = false) (h' : c'.holds w) : Has w0 w (cs.set i c') := by
  have hil : i < cs.length := (List.getElem?_eq_some_iff.1 hi).1
  have at' : ∀ (j : Nat) d, (cs.set i c')[j]? = some d → ∃ d0, cs[j]? = some d0 ∧ (∀ k ∈ d.blocks, k ∈ d0.blocks) ∧ (d.ro = false → d0.ro = false) ∧ d.holds w := fun j d hd => by
    by_cases hj : j = i
    · subst hj
      rw [List.getElem?_set_self hil] at hd
      have := (Option.some.inj hd).symm; subst this
      exact ⟨c, hi, hb, hro, h'⟩
    · rw [List.getElem?_set_ne (Ne.symm hj)] at hd
      exact ⟨d, hd, fun _ h => h, id, H.holds j d hd⟩
  refine ⟨H.below, fun j d hd => (at' j d hd).elim fun _ q => q.2.2.2, fun j d hd k hk => ?_, fun j m d e hd he hne hr k hk hm => ?_⟩
  · obtain ⟨d0, h0, h1, h2, _⟩ := at' j d hd
    exact ⟨(H.lt j d0 h0 k (h1 k hk)).1, fun q => (H.lt j d0 h0 k (h1 k hk)).2 (h2 q)⟩
  · obtain ⟨d0, h0, h1, h2, _⟩ := at' j d hd
    obtain ⟨e0, g0, g1, g2, _⟩ := at' m e he
    exact H.apart j m d0 e0 h0 g0 hne (hr.imp h2 g2) k (h1 k hk) (g1 k hm)

/-- Two parts are changed, in the blocks that they have. -/
theorem Has.set2 {w0 w w' : World} {cs : List (Chunk w0.heap.size)} {S : List Nat} (H : Has w0 w cs) {i j : Nat} {c d : Chunk w0.heap.size} (c' d' : Chunk w0.heap.size) (hi : cs[i]? = some c) (hj : cs[j]? = some d) (hij : i ≠ j) (hc : c.ro = false) (hd : d.ro = false)
    (u : Upd S w w') (hS : ∀ k ∈ S, k ∈ c.blocks ∨ k ∈ d.blocks ∨ w.heap.size ≤ k) (hb : ∀ k ∈ c'.blocks, k ∈ c.blocks) (hb2 : ∀ k ∈ d'.blocks, k ∈ d.blocks) (h' : c'.holds w') (h2' : d'.holds w') : Has w0 w' ((cs.set i c').set j d') := by
  have hil : i < cs.length := (List.getElem?_eq_some_iff.1 hi).1
  have hjl : j < cs.length := (List.getElem?_eq_some_iff.1 hj).1
  have at' : ∀ (m : Nat) e, ((cs.set i c').set j d')[m]? = some e → ∃ e0, cs[m]? = some e0 ∧ (∀ k ∈ e.blocks, k ∈ e0.blocks) ∧ (e.ro = e0.ro ∨ e0.ro = false) ∧ e.holds w' := fun m e he => by
    by_cases hm : m = j
    · subst hm
      rw [List.getElem?_set_self (by simpa using hjl)] at he
      have := (Option.some.inj he).symm; subst this
      exact ⟨d, hj, hb2, .inr hd, h2'⟩
    · rw [List.getElem?_set_ne (Ne.symm hm)] at he
      by_cases hmi : m = i
      · subst hmi
        rw [List.getElem?_set_self hil] at he
        have := (Option.some.inj he).symm; subst this
        exact ⟨c, hi, hb, .inr hc, h'⟩
      · rw [List.getElem?_set_ne (Ne.symm hmi)] at he
        refine ⟨e, he, fun _ h => h, .inl rfl, e.stable w w' (fun k hk => ?_) (H.holds m e he)⟩
        have hkl : k < w.heap.size := by
          rcases hk with q | q
          · exact Nat.lt_of_lt_of_le q H.below.size
          · exact (H.lt m e he k q).1
        refine u.block k hkl fun hmm => ?_
        rcases hS k hmm with q | q | q
        · rcases hk with p | p
          · have := (H.lt i c hi k q).2 hc; omega
          · exact H.apart i m c e hi he (Ne.symm hmi) (.inl hc) k q p
        · rcases hk with p | p
          · have := (H.lt j d hj k q).2 hd; omega
          · exact H.apart j m d e hj he (Ne.symm hm) (.inl hd) k q p
        · omega
  refine ⟨?_, fun m e he => (at' m e he).elim fun _ q => q.2.2.2, fun m e he k hk => ?_, fun m n e f he hf hne hr k hk hm => ?_⟩
  · refine H.below.trans ⟨u.os, u.tape, u.output, u.size, fun k hk => u.block k (Nat.lt_of_lt_of_le hk H.below.size) fun hm => ?_⟩
    rcases hS k hm with q | q | q
    · have := (H.lt i c hi k q).2 hc; omega
    · have := (H.lt j d hj k q).2 hd; omega
    · have := H.below.size; omega
  · obtain ⟨e0, h0, h1, h2, _⟩ := at' m e he
    refine ⟨Nat.lt_of_lt_of_le (H.lt m e0 h0 k (h1 k hk)).1 u.size, fun q => (H.lt m e0 h0 k (h1 k hk)).2 ?_⟩
    rcases h2 with r | r
    · exact r ▸ q
    · exact r
  · obtain ⟨e0, h0, h1, h2, _⟩ := at' m e he
    obtain ⟨f0, g0, g1, g2, _⟩ := at' n f hf
    refine H.apart m n e0 f0 h0 g0 hne ?_ k (h1 k hk) (g1 k hm)
    rcases hr with r | r
    · rcases h2 with s | s
      · exact .inl (s ▸ r)
      · exact .inl s
    · rcases g2 with s | s
      · exact .inr (s ▸ r)
      · exact .inr s

/-- One part more, in new blocks. -/
theorem Has.add {w0 w w' : World} {cs : List (Chunk w0.heap.size)} (H : Has w0 w cs) (c : Chunk w0.heap.size) (b : Below w.heap.size w w') (hb : ∀ k ∈ c.blocks, w.heap.size ≤ k ∧ k < w'.heap.size) (h : c.holds w') : Has w0 w' (cs ++ [c]) := by
  have H' := H.up b
  have at' : ∀ (j : Nat) d, (cs ++ [c])[j]? = some d → (cs[j]? = some d ∧ j < cs.length) ∨ (j = cs.length ∧ d = c) := fun j d hd => by
    rcases Nat.lt_or_ge j cs.length with q | q
    · exact .inl ⟨by rwa [List.getElem?_append_left q] at hd, q⟩
    · rw [List.getElem?_append_right q] at hd
      obtain ⟨r, _⟩ := List.getElem?_eq_some_iff.1 hd
      have : j = cs.length := by simp at r; omega
      subst this
      simp at hd
      exact .inr ⟨rfl, hd.symm⟩
  have hs := H.below.size
  refine ⟨H'.below, fun j d hd => ?_, fun j d hd k hk => ?_, fun j m d e hd he hne hr k hk hm => ?_⟩
  · rcases at' j d hd with q | q
    · exact H'.holds j d q.1
    · rw [q.2]; exact h
  · rcases at' j d hd with q | q
    · exact H'.lt j d q.1 k hk
    · rw [q.2] at hk; exact ⟨(hb k hk).2, fun _ => Nat.le_trans hs (hb k hk).1⟩
  · rcases at' j d hd with q | q <;> rcases at' m e he with p | p
    · exact H'.apart j m d e q.1 p.1 hne hr k hk hm
    · rw [p.2] at hm
      have := (H.lt j d q.1 k hk).1
      have := (hb k hm).1
      omega
    · rw [q.2] at hk
      have := (H.lt m e p.1 k hm).1
      have := (hb k hk).1
      omega
    · omega

/-- One part more, of what was there ahead, that is only read. -/
theorem Has.addRo {w0 w : World} {cs : List (Chunk w0.heap.size)} (H : Has w0 w cs) (c : Chunk w0.heap.size) (hro : c.ro = true) (hb : ∀ k ∈ c.blocks, k < w0.heap.size) (h : c.holds w0) : Has w0 w (cs ++ [c]) := by
  have at' : ∀ (j : Nat) d, (cs ++ [c])[j]? = some d → (cs[j]? = some d ∧ j < cs.length) ∨ (j = cs.length ∧ d = c) := fun j d hd => by
    rcases Nat.lt_or_ge j cs.length with q | q
    · exact .inl ⟨by rwa [List.getElem?_append_left q] at hd, q⟩
    · rw [List.getElem?_append_right q] at hd
      obtain ⟨r, _⟩ := List.getElem?_eq_some_iff.1 hd
      have : j = cs.length := by simp at r; omega
      subst this
      simp at hd
      exact .inr ⟨rfl, hd.symm⟩
  have hs := H.below.size
  refine ⟨H.below, fun j d hd => ?_, fun j d hd k hk => ?_, fun j m d e hd he hne hr k hk hm => ?_⟩
  · rcases at' j d hd with q | q
    · exact H.holds j d q.1
    · rw [q.2]; exact c.stable w0 w (fun k hk => H.below.block k (hk.elim id (hb k))) h
  · rcases at' j d hd with q | q
    · exact H.lt j d q.1 k hk
    · rw [q.2] at hk ⊢; exact ⟨Nat.lt_of_lt_of_le (hb k hk) hs, fun r => by rw [hro] at r; cases r⟩
  · rcases at' j d hd with q | q <;> rcases at' m e he with p | p
    · exact H.apart j m d e q.1 p.1 hne hr k hk hm
    · rw [p.2] at hm hr
      rcases hr with r | r
      · have := (H.lt j d q.1 k hk).2 r
        have := hb k hm
        omega
      · rw [hro] at r; cases r
    · rw [q.2] at hk hr
      rcases hr with r | r
      · rw [hro] at r; cases r
      · have := (H.lt m e p.1 k hm).2 r
        have := hb k hk
        omega
    · omega

/-- Some of the parts, in whatever order. -/
theorem Has.pick {w0 w : World} {cs : List (Chunk w0.heap.size)} (H : Has w0 w cs) (is : List Nat) (hnd : is.Nodup) (hl : ∀ i ∈ is, i < cs.length) : Has w0 w (is.filterMap (cs[·]?)) := by
  have at' : ∀ (is : List Nat), is.Nodup → (∀ i ∈ is, i < cs.length) → ∀ (j : Nat) d, (is.filterMap (cs[·]?))[j]? = some d → ∃ i, is[j]? = some i ∧ cs[i]? = some d := by
    intro is
    induction is with
    | nil => intro _ _ j d h; simp at h
    | cons a is ih =>
      intro hnd hl j d h
      have ha : a < cs.length := hl a (by simp)
      have e : cs[a]? = some cs[a] := List.getElem?_eq_getElem ha
      rw [List.filterMap_cons, e] at h
      cases j with
      | zero => exact ⟨a, by simp, by rw [e]; simpa using h⟩
      | succ j =>
        obtain ⟨i, h1, h2⟩ := ih (List.nodup_cons.1 hnd).2 (fun i hi => hl i (by simp [hi])) j d (by simpa using h)
        exact ⟨i, by simpa using h1, h2⟩
  refine ⟨H.below, fun j d hd => ?_, fun j d hd => ?_, fun j m d e hd he hne => ?_⟩
  · obtain ⟨i, _, h⟩ := at' is hnd hl j d hd; exact H.holds i d h
  · obtain ⟨i, _, h⟩ := at' is hnd hl j d hd; exact H.lt i d h
  · obtain ⟨i, hi, h⟩ := at' is hnd hl j d hd
    obtain ⟨i', hi', h'⟩ := at' is hnd hl m e he
    refine H.apart i i' d e h h' fun q => hne ?_
    subst q
    obtain ⟨h1, h2⟩ := List.getElem?_eq_some_iff.1 hi
    obtain ⟨h3, h4⟩ := List.getElem?_eq_some_iff.1 hi'
    exact (List.getElem_inj hnd).1 (h2.trans h4.symm)

theorem Has.name {w0 w : World} {cs : List (Chunk w0.heap.size)} (H : Has w0 w cs) : ∃ W, Has w0 W cs ∧ Hid (W = w) := ⟨w, H, Lib.hid rfl⟩

theorem Has.get {w0 w : World} {cs : List (Chunk w0.heap.size)} (H : Has w0 w cs) (i : Nat) {c : Chunk w0.heap.size} (hi : cs[i]? = some c) : c.holds w := H.holds i c hi

/-- All blocks that may be written. -/
def owned {n0 : Nat} (cs : List (Chunk n0)) : List Nat := (cs.filter fun c => !c.ro).flatMap (·.blocks)

theorem mem_owned {n0 : Nat} {cs : List (Chunk n0)} {k : Nat} (h : k ∈ owned cs) : ∃ (i : Nat) (c : Chunk n0), cs[i]? = some c ∧ c.ro = false ∧ k ∈ c.blocks := by
  unfold owned at h
  obtain ⟨c, hc, hk⟩ := List.mem_flatMap.1 h
  obtain ⟨h1, h2⟩ := List.mem_filter.1 hc
  obtain ⟨i, hi⟩ := List.mem_iff_getElem?.1 h1
  exact ⟨i, c, hi, by simpa using h2, hk⟩

theorem Has.owned_lt {w0 w : World} {cs : List (Chunk w0.heap.size)} (H : Has w0 w cs) : ∀ x ∈ owned cs, x < w.heap.size := by
  intro x hx
  obtain ⟨i, c, hi, _, hk⟩ := mem_owned hx
  exact (H.lt i c hi x hk).1

/-- A part that is only read gives way to another one, that avoids what may be written. -/
theorem Has.setRo {w0 w w' : World} {cs : List (Chunk w0.heap.size)} (H : Has w0 w cs) {i : Nat} {c : Chunk w0.heap.size} (c' : Chunk w0.heap.size) (hi : cs[i]? = some c) (hc : c.ro = true) (hro : c'.ro = true) (b : Below w.heap.size w w') (hb : ∀ k ∈ c'.blocks, k ∉ owned cs ∧ k < w'.heap.size) (h' : c'.holds w') : Has w0 w' (cs.set i c') := by
  have hil : i < cs.length := (List.getElem?_eq_some_iff.1 hi).1
  have H' := H.up b
  have at' : ∀ (j : Nat) d, (cs.set i c')[j]? = some d → (j ≠ i ∧ cs[j]? = some d) ∨ (j = i ∧ d = c') := fun j d hd => by
    by_cases hj : j = i
    · subst hj
      rw [List.getElem?_set_self hil] at hd
      exact .inr ⟨rfl, (Option.some.inj hd).symm⟩
    · rw [List.getElem?_set_ne (Ne.symm hj)] at hd
      exact .inl ⟨hj, hd⟩
  have ow : ∀ (j : Nat) (d : Chunk w0.heap.size) (k : Nat), cs[j]? = some d → d.ro = false → k ∈ d.blocks → k ∈ owned cs := fun j d k hj hr hk => by
    unfold owned
    exact List.mem_flatMap.2 ⟨d, List.mem_filter.2 ⟨List.mem_of_getElem? hj, by simp [hr]⟩, hk⟩
  refine ⟨H'.below, fun j d hd => ?_, fun j d hd k hk => ?_, fun j m d e hd he hne hr k hk hm => ?_⟩
  · rcases at' j d hd with q | q
    · exact H'.holds j d q.2
    · rw [q.2]; exact h'
  · rcases at' j d hd with q | q
    · exact H'.lt j d q.2 k hk
    · rw [q.2] at hk ⊢; exact ⟨(hb k hk).2, fun r => by rw [hro] at r; cases r⟩
  · rcases at' j d hd with q | q <;> rcases at' m e he with p | p
    · exact H'.apart j m d e q.2 p.2 hne hr k hk hm
    · rw [p.2] at hm hr
      rcases hr with r | r
      · exact (hb k hm).1 (ow j d k q.2 r hk)
      · rw [hro] at r; cases r
    · rw [q.2] at hk hr
      rcases hr with r | r
      · rw [hro] at r; cases r
      · exact (hb k hk).1 (ow m e k p.2 r hm)
    · exact absurd (q.1.trans p.1.symm) hne

/-- A part that says nothing. -/
def noC (n0 : Nat) : Chunk n0 := ⟨[], true, fun _ => True, fun _ _ _ _ => trivial⟩

/-- One part more that is only read, in blocks that avoid what may be written. -/
theorem Has.addRoAt {w0 w w' : World} {cs : List (Chunk w0.heap.size)} (H : Has w0 w cs) (c : Chunk w0.heap.size) (hro : c.ro = true) (b : Below w.heap.size w w') (hb : ∀ k ∈ c.blocks, k ∉ owned cs ∧ k < w'.heap.size) (h : c.holds w') : Has w0 w' (cs ++ [c]) := by
  have H1 : Has w0 w (cs ++ [noC _]) := H.addRo _ rfl (by simp [noC]) trivial
  have e : cs ++ [c] = (cs ++ [noC _]).set cs.length c := by simp
  rw [e]
  have ho : owned (cs ++ [noC _]) = owned cs := by simp [owned, noC]
  exact H1.setRo c (c := noC _) (by simp) rfl hro b (fun k hk => by rw [ho]; exact hb k hk) h

/-- A block that is known whole. -/
def blkC (n0 b : Nat) (cs : Array Value) (T : TypeId) : Chunk n0 := ⟨[b], false, fun w => w.heap[b]? = some (.cells cs T (0, 0)), fun w w' h hh => (h b (.inr (by simp))).trans hh⟩

/-- A slice of numbers that is only read. -/
def slC (n0 : Nat) (k : IntKind) (v : Value) (xs : List Int) : Chunk n0 :=
  ⟨if xs = [] then [] else v.ownBlock.toList, true, fun w => Sl w [] k v xs, fun w w' h ⟨a, cap, hv, hc, hx⟩ => ⟨a, cap, hv, hc, by
    by_cases hne : xs = []
    · exact .inl hne
    · obtain ⟨b, off, ha, hb, hn, hcell⟩ := hx.resolve_left hne
      have e : w'.heap[b]? = w.heap[b]? := h b (.inr (by rw [if_neg hne, hv, ha]; simp [Value.ownBlock]))
      refine .inr ⟨b, off, ha, ?_, by simp, fun j hj => ?_⟩
      · rcases Nat.lt_or_ge b w'.heap.size with q | q
        · exact q
        · rw [Array.getElem?_eq_none q, Array.getElem?_eq_getElem hb] at e
          cases e
      · rw [World.cell?_of_block (w := w) (a := ⟨b, off + j, none⟩) e]
        exact hcell j hj⟩⟩

theorem slC_blocks {n0 : Nat} {k : IntKind} {v : Value} {xs : List Int} {w : World} {A : List Nat} (h : Sl w A k v xs) : ∀ b ∈ (slC n0 k v xs).blocks, b ∉ A ∧ b < w.heap.size := by
  intro b hb
  obtain ⟨a, cap, hv, hc, hx⟩ := h
  simp only [slC] at hb
  by_cases hne : xs = []
  · rw [if_pos hne] at hb; simp at hb
  · rw [if_neg hne, hv] at hb
    obtain ⟨b', off, rfl, h1, h2, _⟩ := hx.resolve_left hne
    simp [Value.ownBlock] at hb
    subst hb
    exact ⟨h2, h1⟩

theorem sl_weak {w : World} {A A' : List Nat} {k : IntKind} {v : Value} {xs : List Int} (h : Sl w A k v xs) (hA : ∀ x ∈ A', x ∈ A) : Sl w A' k v xs := by
  obtain ⟨a, cap, hv, hc, hx⟩ := h
  exact ⟨a, cap, hv, hc, hx.imp id fun ⟨b, off, ha, hb, hn, hcell⟩ => ⟨b, off, ha, hb, fun q => hn (hA _ q), hcell⟩⟩

/-- A slice that is only read, as one that avoids what may be written. -/
theorem Has.sl {w0 w : World} {cs : List (Chunk w0.heap.size)} (H : Has w0 w cs) (i : Nat) {k : IntKind} {v : Value} {xs : List Int} (hi : cs[i]? = some (slC _ k v xs)) : Sl w (owned cs) k v xs := by
  obtain ⟨a, cap, hv, hc, hx⟩ := H.get i hi
  by_cases hne : xs = []
  · exact ⟨a, cap, hv, hc, .inl hne⟩
  · obtain ⟨b, off, ha, hb, hn, hcell⟩ := hx.resolve_left hne
    refine ⟨a, cap, hv, hc, .inr ⟨b, off, ha, hb, fun hm => ?_, hcell⟩⟩
    obtain ⟨j, d, hj, hro, hk⟩ := mem_owned hm
    have hbl : b ∈ (slC w0.heap.size k v xs).blocks := by simp [slC, hne, hv, ha, Value.ownBlock]
    refine H.apart i j _ d hi hj ?_ (.inr hro) b hbl hk
    rintro rfl
    rw [hi] at hj
    cases hj
    simp [slC] at hro

/-- What came in is only read. -/
theorem Has.addSl {w0 w : World} {cs : List (Chunk w0.heap.size)} (H : Has w0 w cs) {k : IntKind} {v : Value} {xs : List Int} (h : Sl w0 [] k v xs) : Has w0 w (cs ++ [slC _ k v xs]) :=
  H.addRo _ rfl (fun b hb => (slC_blocks h b hb).2) h

theorem Has.addSlNew {w0 w w' : World} {cs : List (Chunk w0.heap.size)} (H : Has w0 w cs) {k : IntKind} {v : Value} {xs : List Int} (b : Below w.heap.size w w') (h : Sl w' (owned cs) k v xs) : Has w0 w' (cs ++ [slC _ k v xs]) :=
  H.addRoAt _ rfl b (slC_blocks h) (sl_weak h (by simp))

theorem Has.setSl {w0 w w' : World} {cs : List (Chunk w0.heap.size)} (H : Has w0 w cs) (i : Nat) {k k' : IntKind} {v v' : Value} {xs xs' : List Int} (hi : cs[i]? = some (slC _ k v xs)) (b : Below w.heap.size w w') (h : Sl w' (owned cs) k' v' xs') : Has w0 w' (cs.set i (slC _ k' v' xs')) :=
  H.setRo _ hi rfl rfl b (slC_blocks h) (sl_weak h (by simp))

theorem Has.blkSet {w0 w : World} {cs : List (Chunk w0.heap.size)} (H : Has w0 w cs) (i : Nat) {b : Nat} {xs : Array Value} {T : TypeId} (hi : cs[i]? = some (blkC _ b xs T)) (o : Nat) (u : Value) : Has w0 (w.setCell ⟨b, o, none⟩ u) (cs.set i (blkC _ b (xs.setIfInBounds o u) T)) :=
  H.set _ hi rfl ((Upd.refl [b] w).setCell (by simp) u) (by simp [blkC]) (fun k hk => by
    have := (H.lt i _ hi k hk).1
    exact ⟨.inl hk, by simpa [World.setCell] using this⟩) (set_same (H.get i hi) o u)

theorem Has.blkNew {w0 w : World} {cs : List (Chunk w0.heap.size)} (H : Has w0 w cs) (xs : Array Value) (T : TypeId) : Has w0 (w.alloc (.cells xs T)) (cs ++ [blkC _ w.heap.size xs T]) :=
  H.add _ ((Below.refl _ _).alloc (Nat.le_refl _) _) (by simp [blkC]) (blk_new w _ 0)

theorem Has.blkTo {w0 w w' : World} {cs : List (Chunk w0.heap.size)} (H : Has w0 w cs) (i : Nat) {b : Nat} {xs ys : Array Value} {T : TypeId} (hi : cs[i]? = some (blkC _ b xs T)) (u : Upd [b] w w') (h : w'.heap[b]? = some (.cells ys T (0, 0))) : Has w0 w' (cs.set i (blkC _ b ys T)) :=
  H.set _ hi rfl u (by simp [blkC]) (fun k hk => ⟨.inl hk, Nat.lt_of_lt_of_le (H.lt i _ hi k hk).1 u.size⟩) h

theorem Has.set8 {w0 w : World} {cs : List (Chunk w0.heap.size)} (H : Has w0 w cs) (i : Nat) {b : Nat} {v0 v1 v2 v3 v4 v5 v6 v7 : Value} {T : TypeId} (hi : cs[i]? = some (blkC _ b #[v0, v1, v2, v3, v4, v5, v6, v7] T)) (u0 u1 u2 u3 u4 u5 u6 u7 : Value) :
    Has w0 ((((((((w.setCell ⟨b, 0, none⟩ u0).setCell ⟨b, 1, none⟩ u1).setCell ⟨b, 2, none⟩ u2).setCell ⟨b, 3, none⟩ u3).setCell ⟨b, 4, none⟩ u4).setCell ⟨b, 5, none⟩ u5).setCell ⟨b, 6, none⟩ u6).setCell ⟨b, 7, none⟩ u7) (cs.set i (blkC _ b #[u0, u1, u2, u3, u4, u5, u6, u7] T)) := by
  have a0 : w.heap[b]? = some (.cells #[v0, v1, v2, v3, v4, v5, v6, v7] T (0, 0)) := H.get i hi
  have e0 : Upd [b] w w := Upd.refl _ _
  have a1 : (w.setCell ⟨b, 0, none⟩ u0).heap[b]? = some (.cells #[u0, v1, v2, v3, v4, v5, v6, v7] T (0, 0)) := set_same a0 0 u0
  have e1 : Upd [b] w (w.setCell ⟨b, 0, none⟩ u0) := e0.setCell (p := ⟨b, 0, none⟩) (by simp) u0
  have a2 : ((w.setCell ⟨b, 0, none⟩ u0).setCell ⟨b, 1, none⟩ u1).heap[b]? = some (.cells #[u0, u1, v2, v3, v4, v5, v6, v7] T (0, 0)) := set_same a1 1 u1
  have e2 : Upd [b] w ((w.setCell ⟨b, 0, none⟩ u0).setCell ⟨b, 1, none⟩ u1) := e1.setCell (p := ⟨b, 1, none⟩) (by simp) u1
  have a3 : (((w.setCell ⟨b, 0, none⟩ u0).setCell ⟨b, 1, none⟩ u1).setCell ⟨b, 2, none⟩ u2).heap[b]? = some (.cells #[u0, u1, u2, v3, v4, v5, v6, v7] T (0, 0)) := set_same a2 2 u2
  have e3 : Upd [b] w (((w.setCell ⟨b, 0, none⟩ u0).setCell ⟨b, 1, none⟩ u1).setCell ⟨b, 2, none⟩ u2) := e2.setCell (p := ⟨b, 2, none⟩) (by simp) u2
  have a4 : ((((w.setCell ⟨b, 0, none⟩ u0).setCell ⟨b, 1, none⟩ u1).setCell ⟨b, 2, none⟩ u2).setCell ⟨b, 3, none⟩ u3).heap[b]? = some (.cells #[u0, u1, u2, u3, v4, v5, v6, v7] T (0, 0)) := set_same a3 3 u3
  have e4 : Upd [b] w ((((w.setCell ⟨b, 0, none⟩ u0).setCell ⟨b, 1, none⟩ u1).setCell ⟨b, 2, none⟩ u2).setCell ⟨b, 3, none⟩ u3) := e3.setCell (p := ⟨b, 3, none⟩) (by simp) u3
  have a5 : (((((w.setCell ⟨b, 0, none⟩ u0).setCell ⟨b, 1, none⟩ u1).setCell ⟨b, 2, none⟩ u2).setCell ⟨b, 3, none⟩ u3).setCell ⟨b, 4, none⟩ u4).heap[b]? = some (.cells #[u0, u1, u2, u3, u4, v5, v6, v7] T (0, 0)) := set_same a4 4 u4
  have e5 : Upd [b] w (((((w.setCell ⟨b, 0, none⟩ u0).setCell ⟨b, 1, none⟩ u1).setCell ⟨b, 2, none⟩ u2).setCell ⟨b, 3, none⟩ u3).setCell ⟨b, 4, none⟩ u4) := e4.setCell (p := ⟨b, 4, none⟩) (by simp) u4
  have a6 : ((((((w.setCell ⟨b, 0, none⟩ u0).setCell ⟨b, 1, none⟩ u1).setCell ⟨b, 2, none⟩ u2).setCell ⟨b, 3, none⟩ u3).setCell ⟨b, 4, none⟩ u4).setCell ⟨b, 5, none⟩ u5).heap[b]? = some (.cells #[u0, u1, u2, u3, u4, u5, v6, v7] T (0, 0)) := set_same a5 5 u5
  have e6 : Upd [b] w ((((((w.setCell ⟨b, 0, none⟩ u0).setCell ⟨b, 1, none⟩ u1).setCell ⟨b, 2, none⟩ u2).setCell ⟨b, 3, none⟩ u3).setCell ⟨b, 4, none⟩ u4).setCell ⟨b, 5, none⟩ u5) := e5.setCell (p := ⟨b, 5, none⟩) (by simp) u5
  have a7 : (((((((w.setCell ⟨b, 0, none⟩ u0).setCell ⟨b, 1, none⟩ u1).setCell ⟨b, 2, none⟩ u2).setCell ⟨b, 3, none⟩ u3).setCell ⟨b, 4, none⟩ u4).setCell ⟨b, 5, none⟩ u5).setCell ⟨b, 6, none⟩ u6).heap[b]? = some (.cells #[u0, u1, u2, u3, u4, u5, u6, v7] T (0, 0)) := set_same a6 6 u6
  have e7 : Upd [b] w (((((((w.setCell ⟨b, 0, none⟩ u0).setCell ⟨b, 1, none⟩ u1).setCell ⟨b, 2, none⟩ u2).setCell ⟨b, 3, none⟩ u3).setCell ⟨b, 4, none⟩ u4).setCell ⟨b, 5, none⟩ u5).setCell ⟨b, 6, none⟩ u6) := e6.setCell (p := ⟨b, 6, none⟩) (by simp) u6
  have a8 : ((((((((w.setCell ⟨b, 0, none⟩ u0).setCell ⟨b, 1, none⟩ u1).setCell ⟨b, 2, none⟩ u2).setCell ⟨b, 3, none⟩ u3).setCell ⟨b, 4, none⟩ u4).setCell ⟨b, 5, none⟩ u5).setCell ⟨b, 6, none⟩ u6).setCell ⟨b, 7, none⟩ u7).heap[b]? = some (.cells #[u0, u1, u2, u3, u4, u5, u6, u7] T (0, 0)) := set_same a7 7 u7
  have e8 : Upd [b] w ((((((((w.setCell ⟨b, 0, none⟩ u0).setCell ⟨b, 1, none⟩ u1).setCell ⟨b, 2, none⟩ u2).setCell ⟨b, 3, none⟩ u3).setCell ⟨b, 4, none⟩ u4).setCell ⟨b, 5, none⟩ u5).setCell ⟨b, 6, none⟩ u6).setCell ⟨b, 7, none⟩ u7) := e7.setCell (p := ⟨b, 7, none⟩) (by simp) u7
  exact H.blkTo i hi e8 a8

end Go.Proofs.Ytmiaghbakdapbaa

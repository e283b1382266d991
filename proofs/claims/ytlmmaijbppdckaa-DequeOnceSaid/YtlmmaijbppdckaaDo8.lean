/- DequeOnce: what holds between rounds, and the parts of memory. No condition. -/
import Derived.Test.YtlmmaijbppdckaaDo8q
import Derived.Test.YtlmmaijbppdckaaAw8
import Derived.Test.YtlmmaijbppdckaaGrp
set_option linter.unusedVariables false
set_option linter.unusedSimpArgs false
namespace Go.Proofs.Ytlmmaijbppdckaa
open Go.ChangeShapes Go.WideShapes Go.ChangeAt Go.RowKit

theorem Has.front9 {w0 w : World} {cs ds : List (Chunk w0.heap.size)} (H : Has w0 w (cs ++ ds)) : Has w0 w cs :=
  ⟨H.below, fun i c hi => H.holds i c (by rw [List.getElem?_append_left (List.getElem?_eq_some_iff.1 hi).1]; exact hi), fun i c hi => H.lt i c (by rw [List.getElem?_append_left (List.getElem?_eq_some_iff.1 hi).1]; exact hi),
   fun i j c d hi hj => H.apart i j c d (by rw [List.getElem?_append_left (List.getElem?_eq_some_iff.1 hi).1]; exact hi) (by rw [List.getElem?_append_left (List.getElem?_eq_some_iff.1 hj).1]; exact hj)⟩
theorem set_split9 {α : Type} {l : List α} {i : Nat} {d : α} (h : l[i]? = some d) (c : α) : ∃ A B, l = A ++ d :: B ∧ l.set i c = A ++ c :: B ∧ A.length = i := by
  induction l generalizing i with
  | nil => simp at h
  | cons x l ih =>
    cases i with
    | zero => simp at h; subst h; exact ⟨[], l, rfl, rfl, rfl⟩
    | succ i =>
      obtain ⟨A, B, h1, h2, h3⟩ := ih (i := i) (by simpa using h)
      exact ⟨x :: A, B, by rw [h1]; rfl, by rw [List.set_cons_succ, h2]; rfl, by simp [h3]⟩
theorem Has.moveIn {w0 w : World} {cs : List (Chunk w0.heap.size)} {c d : Chunk w0.heap.size} (H : Has w0 w (cs ++ [c])) (i : Nat) (hi : cs[i]? = some d) : Has w0 w (cs.set i c) := by
  obtain ⟨A, B, h1, h2, -⟩ := set_split9 hi c
  rw [h2]
  rw [h1] at H
  have p : (A ++ d :: B ++ [c]).Perm (A ++ c :: B ++ [d]) := by
    simp only [List.append_assoc, List.cons_append]
    refine List.Perm.append_left A ?_
    refine (List.Perm.cons d List.perm_append_comm).trans ?_
    refine (List.Perm.swap c d B).trans ?_
    exact List.Perm.cons c (List.perm_append_comm (l₁ := [d]))
  exact (H.perm p).front9
theorem Has.forget {w0 w : World} {cs : List (Chunk w0.heap.size)} (H : Has w0 w cs) (i : Nat) {c : Chunk w0.heap.size} (hi : cs[i]? = some c) : Has w0 w (cs.set i (noC _)) :=
  H.re (noC _) hi (by simp [noC]) (fun q => by simp [noC] at q) trivial

/-- A slice of the call's own whose block begins with it. -/
abbrev rwC (n0 : Nat) (e : TypeId) (b N : Nat) (vs : List Value) : Chunk n0 := ownC n0 e 1 (.slice (some ⟨b, 0, none⟩) N N) N vs
theorem rw_cell {w : World} {e : TypeId} {b N : Nat} {vs : List Value} (h : Own w e 1 (.slice (some ⟨b, 0, none⟩) N N) N vs) {u : Nat} {x : Value} (hx : vs[u]? = some x) : w.cell? ⟨b, u, none⟩ = some x ∧ w.frozen? ⟨b, u, none⟩ = false := by
  have hl : vs.length = N := by have := h.1; simpa using this
  have hN : 0 < N := by have := (List.getElem?_eq_some_iff.1 hx).1; omega
  obtain ⟨g, off, hh, -, -, -, hc, hf⟩ := own_atV (n := N) h hN
  cases hh
  have := hc u x hx
  rw [Nat.zero_add] at this
  exact ⟨this, hf u⟩

/-- Machines that are there, and such as aren't. -/
def oc8 (n0 n : Nat) : Option (Nat × Dq) → Chunk n0
  | none => noC n0
  | some (b, m) => dqC n0 b (en n) m
def optr8 : Option (Nat × Dq) → Value
  | none => .pointer none
  | some (b, _) => .pointer (some ⟨b, 0, none⟩)
def odq : Option (Nat × Dq) → Option Dq := Option.map (·.2)

def base8 (n0 : Nat) (pv : Value) (pks : List Int) (sb sg : Nat) (l : List Int) (c : Int) (eb n tb pb hb N : Nat) (ta : List Int) (pu : List Bool) (oo : Option (Nat × Dq)) (os : List (Option (Nat × Dq))) : List (Chunk n0) :=
  slC n0 .u8 pv pks :: storeC n0 sb sg l c :: blkC n0 eb #[.int .i64 0, .int .i64 1, .int .i64 2, .int .i64 n] 25 :: rwC n0 3 tb N (ta.map (Value.int .i64)) :: rwC n0 4 pb N (pu.map Value.bool) :: rwC n0 32 hb 2 (os.map optr8) :: oc8 n0 n oo :: os.map (oc8 n0 n)

theorem set_opt8 {α : Type} {l : List α} {k j : Nat} {x y : α} (h : (l.set k x)[j]? = some y) : (j = k ∧ y = x) ∨ (j ≠ k ∧ l[j]? = some y) := by
  by_cases e : k = j
  · subst e
    have hl : k < l.length := by
      have := (List.getElem?_eq_some_iff.1 h).1
      simpa using this
    rw [List.getElem?_set_self hl] at h
    exact .inl ⟨rfl, (Option.some.inj h).symm⟩
  · rw [List.getElem?_set_ne e] at h
    exact .inr ⟨fun q => e q.symm, h⟩
theorem set_opt_same8 {α : Type} {l : List α} {k : Nat} {x : α} (h : l[k]? = some x) : l.set k x = l := by
  apply List.ext_getElem?
  intro j
  by_cases e : k = j
  · subst e; rw [List.getElem?_set_self (List.getElem?_eq_some_iff.1 h).1, h]
  · rw [List.getElem?_set_ne e]

section
variable {w0 w : World} {pv : Value} {pks l l' ta : List Int} {sb sg eb n tb pb hb N j : Nat} {c c' : Int} {pu : List Bool} {oo : Option (Nat × Dq)} {os : List (Option (Nat × Dq))} {o : Option (Nat × Dq)}

theorem b8_th {n0 : Nat} (ho : os[j]? = some o) : (base8 n0 pv pks sb sg l c eb n tb pb hb N ta pu oo os)[j + 7]? = some (oc8 n0 n o) := by
  show (os.map (oc8 n0 n))[j]? = some (oc8 n0 n o)
  rw [List.getElem?_map, ho]; rfl

/-- The owner begins. -/
theorem b8_own {ob : Nat} {m : Dq} (H : Has w0 w (base8 w0.heap.size pv pks sb sg l c eb n tb pb hb N ta pu oo os ++ [dqC _ ob (en n) m])) : Has w0 w (base8 w0.heap.size pv pks sb sg l c eb n tb pb hb N ta pu (some (ob, m)) os) :=
  H.moveIn 6 (d := oc8 _ n oo) rfl
theorem b8_ownStep {ob : Nat} {m' : Dq} (H : Has w0 w (((base8 w0.heap.size pv pks sb sg l c eb n tb pb hb N ta pu oo os).set 1 (storeC _ sb sg l' c')).set 6 (dqC _ ob (en n) m'))) : Has w0 w (base8 w0.heap.size pv pks sb sg l' c' eb n tb pb hb N ta pu (some (ob, m')) os) := H
theorem b8_ownOff (H : Has w0 w (base8 w0.heap.size pv pks sb sg l c eb n tb pb hb N ta pu oo os)) : Has w0 w (base8 w0.heap.size pv pks sb sg l c eb n tb pb hb N ta pu none os) :=
  H.forget 6 (c := oc8 _ n oo) rfl

theorem b8_thStep {b : Nat} {m m' : Dq} (ho : os[j]? = some (some (b, m))) (H : Has w0 w (((base8 w0.heap.size pv pks sb sg l c eb n tb pb hb N ta pu oo os).set 1 (storeC _ sb sg l' c')).set (j + 7) (dqC _ b (en n) m'))) :
    Has w0 w (base8 w0.heap.size pv pks sb sg l' c' eb n tb pb hb N ta pu oo (os.set j (some (b, m')))) := by
  have e : ((base8 w0.heap.size pv pks sb sg l c eb n tb pb hb N ta pu oo os).set 1 (storeC _ sb sg l' c')).set (j + 7) (dqC _ b (en n) m') = base8 w0.heap.size pv pks sb sg l' c' eb n tb pb hb N ta pu oo (os.set j (some (b, m'))) := by
    show slC _ .u8 pv pks :: storeC _ sb sg l' c' :: blkC _ eb #[.int .i64 0, .int .i64 1, .int .i64 2, .int .i64 n] 25 :: rwC _ 3 tb N (ta.map (Value.int .i64)) :: rwC _ 4 pb N (pu.map Value.bool) :: rwC _ 32 hb 2 (os.map optr8) :: oc8 _ n oo :: (os.map (oc8 _ n)).set j (dqC _ b (en n) m') = _
    unfold base8
    rw [List.map_set, List.map_set, set_opt_same8 (l := os.map optr8) (k := j) (x := optr8 (some (b, m'))) (by rw [List.getElem?_map, ho]; rfl)]
    rfl
  rw [e] at H
  exact H

/-- A thief is gone. -/
theorem b8_thOff (ho : os[j]? = some o) (H : Has w0 w ((base8 w0.heap.size pv pks sb sg l c eb n tb pb hb N ta pu oo os).set 5 (rwC _ 32 hb 2 ((os.map optr8).set j (.pointer none))))) :
    Has w0 w (base8 w0.heap.size pv pks sb sg l c eb n tb pb hb N ta pu oo (os.set j none)) := by
  have G := H.forget (j + 7) (c := oc8 _ n o) (by
    show (os.map (oc8 w0.heap.size n))[j]? = some (oc8 w0.heap.size n o)
    rw [List.getElem?_map, ho]; rfl)
  have e : ((base8 w0.heap.size pv pks sb sg l c eb n tb pb hb N ta pu oo os).set 5 (rwC _ 32 hb 2 ((os.map optr8).set j (.pointer none)))).set (j + 7) (noC _) = base8 w0.heap.size pv pks sb sg l c eb n tb pb hb N ta pu oo (os.set j none) := by
    show slC _ .u8 pv pks :: storeC _ sb sg l c :: blkC _ eb #[.int .i64 0, .int .i64 1, .int .i64 2, .int .i64 n] 25 :: rwC _ 3 tb N (ta.map (Value.int .i64)) :: rwC _ 4 pb N (pu.map Value.bool) :: rwC _ 32 hb 2 ((os.map optr8).set j (.pointer none)) :: oc8 _ n oo :: (os.map (oc8 _ n)).set j (noC _) = _
    unfold base8
    rw [List.map_set, List.map_set]
    rfl
  rw [e] at G
  exact G

/-- A thief begins. -/
theorem b8_thIn {b : Nat} {m : Dq} (ho : os[j]? = some o) (H : Has w0 w ((base8 w0.heap.size pv pks sb sg l c eb n tb pb hb N ta pu oo os).set 5 (rwC _ 32 hb 2 ((os.map optr8).set j (.pointer (some ⟨b, 0, none⟩)))) ++ [dqC _ b (en n) m])) :
    Has w0 w (base8 w0.heap.size pv pks sb sg l c eb n tb pb hb N ta pu oo (os.set j (some (b, m)))) := by
  have G := H.moveIn (j + 7) (d := oc8 _ n o) (by
    show (os.map (oc8 w0.heap.size n))[j]? = some (oc8 w0.heap.size n o)
    rw [List.getElem?_map, ho]; rfl)
  have e : ((base8 w0.heap.size pv pks sb sg l c eb n tb pb hb N ta pu oo os).set 5 (rwC _ 32 hb 2 ((os.map optr8).set j (.pointer (some ⟨b, 0, none⟩))))).set (j + 7) (dqC _ b (en n) m) = base8 w0.heap.size pv pks sb sg l c eb n tb pb hb N ta pu oo (os.set j (some (b, m))) := by
    show slC _ .u8 pv pks :: storeC _ sb sg l c :: blkC _ eb #[.int .i64 0, .int .i64 1, .int .i64 2, .int .i64 n] 25 :: rwC _ 3 tb N (ta.map (Value.int .i64)) :: rwC _ 4 pb N (pu.map Value.bool) :: rwC _ 32 hb 2 ((os.map optr8).set j (.pointer (some ⟨b, 0, none⟩))) :: oc8 _ n oo :: (os.map (oc8 _ n)).set j (dqC _ b (en n) m) = _
    unfold base8
    rw [List.map_set, List.map_set]
    rfl
  rw [e] at G
  exact G

theorem b8_ta (y : Nat) (x : Int) (H : Has w0 w ((base8 w0.heap.size pv pks sb sg l c eb n tb pb hb N ta pu oo os).set 3 (rwC _ 3 tb N ((ta.map (Value.int .i64)).set y (.int .i64 x))))) : Has w0 w (base8 w0.heap.size pv pks sb sg l c eb n tb pb hb N (ta.set y x) pu oo os) := by
  have e : (ta.map (Value.int .i64)).set y (.int .i64 x) = (ta.set y x).map (Value.int .i64) := by rw [List.map_set]
  rw [e] at H
  exact H
theorem b8_pu (y : Nat) (x : Bool) (H : Has w0 w ((base8 w0.heap.size pv pks sb sg l c eb n tb pb hb N ta pu oo os).set 4 (rwC _ 4 pb N ((pu.map Value.bool).set y (.bool x))))) : Has w0 w (base8 w0.heap.size pv pks sb sg l c eb n tb pb hb N ta (pu.set y x) oo os) := by
  have e : (pu.map Value.bool).set y (.bool x) = (pu.set y x).map Value.bool := by rw [List.map_set]
  rw [e] at H
  exact H
end

/-- What holds ahead of round t, of which P are picked. -/
structure DJ (n an P t : Nat) (bs : List Bool) (l : List Int) (T : Nat) (q h hd : List Int) (β : Int) (wd w nx : Nat) (last : Int) (oo : Option (Nat × Dq)) (os : List (Option (Nat × Dq))) (pu : List Bool) (ta : List Int) : Prop where
  D : DM n l T q h β wd
  O : OwnS n l T q h hd β wd w (odq oo)
  ok : ∀ b m, oo = some (b, m) → DqOk m
  th : ∀ (j : Nat) b m, os[j]? = some (some (b, m)) → TOk T q m
  A : Acc (an + 2) q hd wd last pu ta
  an6 : an ≤ 60
  nx1 : wd ≤ nx
  nx2 : nx ≤ an
  busy : oo ≠ none → nx < an ∧ bs[nx]? = some (decide (wd < w))
  l2 : os.length = 2
  r0 : ∀ b m, oo = some (b, m) → dqRank m + ((t + 2) / 3 - (P + 2) / 3) ≤ 6
  r1 : ∀ (j : Nat) b m, os[j]? = some (some (b, m)) → dqRank m + ((t + 1 - j) / 3 - (P + 1 - j) / 3) ≤ 4

theorem dj_w {n an P t : Nat} {bs : List Bool} {l : List Int} {T : Nat} {q h hd : List Int} {β : Int} {wd w nx : Nat} {last : Int} {oo : Option (Nat × Dq)} {os : List (Option (Nat × Dq))} {pu : List Bool} {ta : List Int} (J : DJ n an P t bs l T q h hd β wd w nx last oo os pu ta) : w ≤ wd + 1 ∧ w < an + 2 ∧ wd ≤ w ∧ (oo = none → wd = w) ∧ w ≤ 61 := by
  have h1 := J.nx1
  have h2 := J.nx2
  have h6 := J.an6
  have hb := J.busy
  have hO := J.O
  cases oo with
  | none =>
    cases hO with
    | idle a b c d => exact ⟨by omega, by omega, by omega, fun _ => d, by omega⟩
  | some bm =>
    have hb' := hb (by simp)
    obtain ⟨bb, m⟩ := bm
    have hO' : OwnS n l T q h hd β wd w (some m) := hO
    have : wd = w ∨ wd + 1 = w := by cases hO' <;> omega
    exact ⟨by omega, by omega, by omega, (fun e => by cases e), by omega⟩

theorem rank_own {n : Nat} {l : List Int} {T : Nat} {q h hd : List Int} {β : Int} {wd w : Nat} {m : Dq} : dqRank m ≤ 6 := by
  obtain ⟨st, b, t, x, o, won⟩ := m
  unfold dqRank
  dsimp only
  split <;> omega
theorem rank_th {T : Nat} {q : List Int} {m : Dq} (h : TOk T q m) : dqRank m ≤ 4 := by
  have := h.st
  unfold dqRank
  rcases this with e | e | e | e <;> rw [e] <;> decide

theorem r0_next {P t k : Nat} {r : Nat} (h : r + ((t + 2) / 3 - (P + 2) / 3) ≤ 6) (h6 : r ≤ 6) (hk : t < P ∨ k = t % 3) (hne : k ≠ 0) : r + ((t + 1 + 2) / 3 - (P + 2) / 3) ≤ 6 := by omega
theorem r0_step {P t r r' : Nat} (h : r + ((t + 2) / 3 - (P + 2) / 3) ≤ 6) (h6 : r' ≤ r - 1) (h1 : 1 ≤ r) : r' + ((t + 1 + 2) / 3 - (P + 2) / 3) ≤ 6 := by omega
theorem r1_next {P t k j : Nat} {r : Nat} (hj : j < 2) (h : r + ((t + 1 - j) / 3 - (P + 1 - j) / 3) ≤ 4) (h6 : r ≤ 4) (hk : t < P ∨ k = t % 3) (hne : k ≠ j + 1) : r + ((t + 1 + 1 - j) / 3 - (P + 1 - j) / 3) ≤ 4 := by
  have h0 : j = 0 ∨ j = 1 := by omega
  rcases h0 with rfl | rfl <;> omega
theorem r1_step {P t j r r' : Nat} (hj : j < 2) (h : r + ((t + 1 - j) / 3 - (P + 1 - j) / 3) ≤ 4) (h6 : r' ≤ r - 1) (h1 : 1 ≤ r) : r' + ((t + 1 + 1 - j) / 3 - (P + 1 - j) / 3) ≤ 4 := by
  have h0 : j = 0 ∨ j = 1 := by omega
  rcases h0 with rfl | rfl <;> omega

theorem rank_pos {m : Dq} (h : m.st ≠ 0) : 1 ≤ dqRank m := by
  obtain ⟨st, b, t, x, o, won⟩ := m
  unfold dqRank
  dsimp only at h ⊢
  split <;> first | omega | (exact absurd rfl h)

section
variable {n an P t : Nat} {bs : List Bool} {l : List Int} {T : Nat} {q h hd : List Int} {β : Int} {wd w nx : Nat} {last : Int} {oo : Option (Nat × Dq)} {os : List (Option (Nat × Dq))} {pu : List Bool} {ta : List Int}

/-- A round in which nothing is done. -/
theorem dj_wait (J : DJ n an P t bs l T q h hd β wd w nx last none os pu ta) (hk : t < P ∨ 0 = t % 3) : DJ n an P (t + 1) bs l T q h hd β wd w nx last none os pu ta :=
  ⟨J.D, J.O, J.ok, J.th, J.A, J.an6, J.nx1, J.nx2, J.busy, J.l2, (fun b m e => by cases e), fun j b m hm => r1_next (k := 0) (by have := (List.getElem?_eq_some_iff.1 hm).1; have := J.l2; omega) (J.r1 j b m hm) (rank_th (J.th j b m hm)) hk (by omega)⟩

/-- The owner begins a push. -/
theorem dj_push (J : DJ n an P t bs l T q h hd β wd w nx last none os pu ta) (hnx : nx < an) (hb : bs[nx]? = some true) (htP : t < P) (ob : Nat) : DJ n an P t bs l T q h hd β wd (w + 1) nx last (some (ob, dqPush ((w : Int) + 1))) os pu ta := by
  have hW := dj_w J
  have hd0 := hW.2.2.2.1 rfl
  cases J.O with
  | idle a b c d =>
    refine ⟨J.D, .p1 _ rfl (by show (w : Int) + 1 = ((w + 1 : Nat) : Int); omega) a b c (by omega), fun bb m e => ?_, J.th, J.A, J.an6, J.nx1, J.nx2, fun _ => ⟨hnx, by rw [hb, show decide (wd < w + 1) = true by simp; omega]⟩, J.l2, fun bb m e => ?_, J.r1⟩
    · cases e
      exact ⟨Nat.le_of_ble_eq_true rfl, (by show (0 : Int) ≤ 0 ∧ (0 : Int) < 18446744073709551616; omega), (by show (0 : Int) ≤ 0 ∧ (0 : Int) < 18446744073709551616; omega), by show (0 : Int) ≤ (w : Int) + 1 ∧ (w : Int) + 1 < 18446744073709551616; omega⟩
    · cases e
      show 4 + ((t + 2) / 3 - (P + 2) / 3) ≤ 6
      omega

theorem dj_pop (J : DJ n an P t bs l T q h hd β wd w nx last none os pu ta) (hnx : nx < an) (hb : bs[nx]? = some false) (htP : t < P) (ob : Nat) : DJ n an P t bs l T q h hd β wd w nx last (some (ob, dqPop)) os pu ta := by
  have hW := dj_w J
  have hd0 := hW.2.2.2.1 rfl
  cases J.O with
  | idle a b c d =>
    refine ⟨J.D, .o5 _ rfl rfl a b c d, fun bb m e => ?_, J.th, J.A, J.an6, J.nx1, J.nx2, fun _ => ⟨hnx, by rw [hb, show decide (wd < w) = false by simp; omega]⟩, J.l2, fun bb m e => ?_, J.r1⟩
    · cases e
      exact ⟨by decide, by decide, by decide, by decide⟩
    · cases e
      show 6 + ((t + 2) / 3 - (P + 2) / 3) ≤ 6
      omega

/-- What a step of the owner comes to. -/
inductive JEnd (n an P t : Nat) (bs : List Bool) (l' : List Int) (wd w nx : Nat) (last : Int) (ob : Nat) (m' : Dq) (os : List (Option (Nat × Dq))) (pu : List Bool) (ta : List Int) : Prop
  | on (T : Nat) (q h hd : List Int) (β : Int) : m'.st ≠ 0 → DJ n an P (t + 1) bs l' T q h hd β wd w nx last (some (ob, m')) os pu ta → JEnd n an P t bs l' wd w nx last ob m' os pu ta
  | pushed (T : Nat) (q : List Int) (β : Int) : m'.st = 0 → m'.out = 1 → bs[nx]? = some true → (∀ b : Bool, w < pu.length) → DJ n an P (t + 1) bs l' T q [] [] β w w (nx + 1) last none os (pu.set w true) ta → JEnd n an P t bs l' wd w nx last ob m' os pu ta
  | full (T : Nat) (q : List Int) (β : Int) : m'.st = 0 → m'.out = 2 → bs[nx]? = some true → DJ n an P (t + 1) bs l' T q [] [] β w w (nx + 1) last none os pu ta → JEnd n an P t bs l' wd w nx last ob m' os pu ta
  | popped (y : Nat) (T : Nat) (q : List Int) (β : Int) : m'.st = 0 → m'.out = 1 → m'.w = y → bs[nx]? = some false → 1 ≤ y → y ≤ w → ta[y]? = some 0 → DJ n an P (t + 1) bs l' T q [] [] β w w (nx + 1) last none os pu (ta.set y 1) → JEnd n an P t bs l' wd w nx last ob m' os pu ta
  | none (T : Nat) (q : List Int) (β : Int) : m'.st = 0 → m'.out = 3 → bs[nx]? = some false → DJ n an P (t + 1) bs l' T q [] [] β w w (nx + 1) last none os pu ta → JEnd n an P t bs l' wd w nx last ob m' os pu ta

theorem dj_own {ob : Nat} {m : Dq} (J : DJ n an P t bs l T q h hd β wd w nx last (some (ob, m)) os pu ta) (hk : t < P ∨ 0 = t % 3) :
    JEnd n an P t bs (dqStep (en n) l m).1 wd w nx last ob (dqStep (en n) l m).2 os pu ta := by
  have hW := dj_w J
  have hO : OwnS n l T q h hd β wd w (some m) := J.O
  have ok := J.ok ob m rfl
  have E := own_step J.D (by omega) ok hO
  have hok := dq_ok (en n) J.D.wds ok
  have hrk := dq_rank (en n) l m
  have hst : m.st ≠ 0 := by cases hO <;> omega
  have hb := J.busy (by simp)
  have hr := J.r0 ob m rfl
  have R1 : ∀ (j : Nat) b x, os[j]? = some (some (b, x)) → dqRank x + ((t + 1 + 1 - j) / 3 - (P + 1 - j) / 3) ≤ 4 := fun j b x hm => r1_next (k := 0) (by have := (List.getElem?_eq_some_iff.1 hm).1; have := J.l2; omega) (J.r1 j b x hm) (rank_th (J.th j b x hm)) hk (by omega)
  have nx1 := J.nx1
  have nx2 := J.nx2
  have idleJ : ∀ (T' : Nat) (q' : List Int) (pu' : List Bool) (ta' : List Int) (β' : Int) (l' : List Int), DM n l' T' q' [] β' w → β' = (T' : Int) + q'.length → (∀ (j : Nat) b x, os[j]? = some (some (b, x)) → TOk T' q' x) → Acc (an + 2) q' [] w last pu' ta' → DJ n an P (t + 1) bs l' T' q' [] [] β' w w (nx + 1) last none os pu' ta' := fun T' q' pu' ta' β' l' hD hβ hT hA => ⟨hD, .idle rfl rfl hβ rfl, (fun b m e => by cases e), hT, hA, J.an6, by omega, by omega, fun e => absurd rfl e, J.l2, (fun b m e => by cases e), R1⟩
  cases E with
  | on T' q' h' hd' β' hs hD hO' hK =>
    refine .on T' q' h' hd' β' hs ⟨hD, hO', fun b x e => ?_, fun j b x hm => tok_tk hK (J.th j b x hm), acc_tk hK J.A, J.an6, nx1, nx2, fun _ => hb, J.l2, fun b x e => ?_, R1⟩
    · cases e; exact hok.2
    · cases e; exact r0_step hr hrk (rank_pos hst)
  | pushed hs ho hw hhd hwd hD =>
    subst hhd
    refine .pushed T _ _ hs ho (by rw [hb.2, show decide (wd < w) = true by simp; omega]) (fun _ => by rw [J.A.lp]; omega) (idleJ T _ _ _ _ _ hD rfl (fun j b x hm => tok_keep (J.th j b x hm) fun y hy => ?_) (acc_pushed J.A hwd (by omega)))
    cases q with
    | nil => cases hy
    | cons z q => simpa using hy
  | full hs ho hhd hwd hD =>
    subst hhd
    exact .full T _ _ hs ho (by rw [hb.2, show decide (wd < w) = true by simp; omega]) (idleJ T _ _ _ _ _ hD rfl J.th (acc_full J.A hwd (by omega)))
  | popped y hs ho hw hhd hwd hD =>
    subst hhd
    obtain ⟨h1, h2, h3⟩ := acc_popped J.A
    subst hwd
    exact .popped y.toNat T _ _ hs ho (by rw [hw]; omega) (by rw [hb.2]; simp) (by omega) (by omega) h2 (idleJ T _ _ _ _ _ hD rfl J.th h3)
  | none hs ho hhd hwd hD =>
    subst hhd
    subst hwd
    exact .none T _ _ hs ho (by rw [hb.2]; simp) (idleJ T _ _ _ _ _ hD rfl J.th J.A)

/-- What a step of a thief comes to. -/
inductive TEnd (n an P t : Nat) (bs : List Bool) (l' : List Int) (wd w nx : Nat) (last : Int) (oo : Option (Nat × Dq)) (j b : Nat) (m' : Dq) (os : List (Option (Nat × Dq))) (pu : List Bool) (ta : List Int) : Prop
  | on (T : Nat) (q h hd : List Int) (β : Int) : m'.st ≠ 0 → DJ n an P (t + 1) bs l' T q h hd β wd w nx last oo (os.set j (some (b, m'))) pu ta → TEnd n an P t bs l' wd w nx last oo j b m' os pu ta
  | no (T : Nat) (q h hd : List Int) (β : Int) : m'.st = 0 → m'.out ≠ 1 → DqOk m' → DJ n an P (t + 1) bs l' T q h hd β wd w nx last oo (os.set j none) pu ta → TEnd n an P t bs l' wd w nx last oo j b m' os pu ta
  | got (y : Nat) (T : Nat) (q h hd : List Int) (β : Int) : m'.st = 0 → m'.out = 1 → m'.w = y → DqOk m' → 1 ≤ y → y ≤ w → last < y → ta[y]? = some 0 → DJ n an P (t + 1) bs l' T q h hd β wd w nx y oo (os.set j none) pu (ta.set y 1) → TEnd n an P t bs l' wd w nx last oo j b m' os pu ta

theorem dj_off (J : DJ n an P t bs l T q h hd β wd w nx last oo os pu ta) (j : Nat) (hj : j < 2) (hk : t < P ∨ j + 1 = t % 3) : DJ n an P (t + 1) bs l T q h hd β wd w nx last oo (os.set j none) pu ta := by
  refine ⟨J.D, J.O, J.ok, fun i b m hm => ?_, J.A, J.an6, J.nx1, J.nx2, J.busy, by rw [List.length_set]; exact J.l2, fun b m e => r0_next (k := j + 1) (J.r0 b m e) (rank_own (n := 0) (l := []) (T := 0) (q := []) (h := []) (hd := []) (β := 0) (wd := 0) (w := 0)) hk (by omega), fun i b m hm => ?_⟩
  · rcases set_opt8 hm with ⟨_, e⟩ | ⟨_, hm'⟩
    · cases e
    · exact J.th i b m hm'
  · rcases set_opt8 hm with ⟨_, e⟩ | ⟨hne, hm'⟩
    · cases e
    · exact r1_next (k := j + 1) (by have := (List.getElem?_eq_some_iff.1 hm').1; have := J.l2; omega) (J.r1 i b m hm') (rank_th (J.th i b m hm')) hk (by omega)

theorem dj_thief {j b : Nat} {m : Dq} (J : DJ n an P t bs l T q h hd β wd w nx last oo os pu ta) (hj : j < 2) (hm : os[j]? = some (some (b, m))) (hk : t < P ∨ j + 1 = t % 3) :
    TEnd n an P t bs (dqStep (en n) l m).1 wd w nx last oo j b (dqStep (en n) l m).2 os pu ta := by
  have M := J.th j b m hm
  have hrk := dq_rank (en n) l m
  have hst : m.st ≠ 0 := by rcases M.st with e | e | e | e <;> omega
  have hr := J.r1 j b m hm
  have hW := dj_w J
  have R0 : ∀ b x, oo = some (b, x) → dqRank x + ((t + 1 + 2) / 3 - (P + 2) / 3) ≤ 6 := fun b x e => r0_next (k := j + 1) (J.r0 b x e) (rank_own (n := 0) (l := []) (T := 0) (q := []) (h := []) (hd := []) (β := 0) (wd := 0) (w := 0)) hk (by omega)
  have R1 : ∀ (o : Option (Nat × Dq)), (∀ b x, o = some (b, x) → dqRank x + ((t + 1 + 1 - j) / 3 - (P + 1 - j) / 3) ≤ 4) → ∀ (i : Nat) b x, (os.set j o)[i]? = some (some (b, x)) → dqRank x + ((t + 1 + 1 - i) / 3 - (P + 1 - i) / 3) ≤ 4 := fun o ho i b x hx => by
    rcases set_opt8 hx with ⟨rfl, e⟩ | ⟨hne, hx'⟩
    · exact ho b x e.symm
    · exact r1_next (k := j + 1) (by have := (List.getElem?_eq_some_iff.1 hx').1; have := J.l2; omega) (J.r1 i b x hx') (rank_th (J.th i b x hx')) hk (by omega)
  rcases th1_step J.D J.O M with ⟨m', e, hs, hT⟩ | ⟨m', e, hs, ho, hok⟩ | ⟨l', m', x, q', e, hs, ho, hw, hok, rfl, hD, hl⟩
  · rw [e] at hrk ⊢
    refine .on T q h hd β hs ⟨J.D, J.O, J.ok, fun i b' x hx => ?_, J.A, J.an6, J.nx1, J.nx2, J.busy, by rw [List.length_set]; exact J.l2, R0, R1 _ fun b' x ex => ?_⟩
    · rcases set_opt8 hx with ⟨_, ex⟩ | ⟨_, hx'⟩
      · cases ex; exact hT
      · exact J.th i b' x hx'
    · cases ex; exact r1_step hj hr hrk (rank_pos hst)
  · rw [e]
    exact .no T q h hd β hs ho hok (dj_off J j hj hk)
  · rw [e]
    obtain ⟨⟨h1, h2, h3⟩, h4, h5⟩ := acc_stolen J.A
    refine .got x.toNat (T + 1) q' h hd β hs ho (by rw [hw]; omega) hok (by omega) (by omega) (by omega) h4 ⟨hD, own_steal J.D.n1 J.O hl, J.ok, fun i b' y hy => ?_, by rw [show ((x.toNat : Nat) : Int) = x by omega]; exact h5, J.an6, J.nx1, J.nx2, J.busy, by rw [List.length_set]; exact J.l2, R0, R1 _ (fun b' y ey => by cases ey)⟩
    rcases set_opt8 hy with ⟨_, ey⟩ | ⟨_, hy'⟩
    · cases ey
    · exact tok_up (J.th i b' y hy') q'

/-- A thief begins. -/
theorem dj_steal (J : DJ n an P (t + 1) bs l T q h hd β wd w nx last oo os pu ta) (j : Nat) (hj : j < 2) (ht : t < P) (b : Nat) : DJ n an P (t + 1) bs l T q h hd β wd w nx last oo (os.set j (some (b, dqSteal))) pu ta := by
  refine ⟨J.D, J.O, J.ok, fun i b' m hm => ?_, J.A, J.an6, J.nx1, J.nx2, J.busy, by rw [List.length_set]; exact J.l2, J.r0, fun i b' m hm => ?_⟩
  · rcases set_opt8 hm with ⟨_, e⟩ | ⟨_, hm'⟩
    · cases e; exact tok_0 _ _
    · exact J.th i b' m hm'
  · rcases set_opt8 hm with ⟨_, e⟩ | ⟨_, hm'⟩
    · cases e
      show 4 + ((t + 1 + 1 - i) / 3 - (P + 1 - i) / 3) ≤ 4
      omega
    · exact J.r1 i b' m hm'

theorem dj_end (J : DJ n an P (P + 40) bs l T q h hd β wd w nx last oo os pu ta) : oo = none ∧ (∀ j, j < 2 → os[j]? = some none) ∧ wd = w ∧ Rep n 0 l T q ∧ Acc (an + 2) q [] w last pu ta ∧ q.length ≤ n ∧ T + q.length ≤ 100 := by
  have h0 : oo = none := by
    cases oo with
    | none => rfl
    | some bm =>
      obtain ⟨b, m⟩ := bm
      have := J.r0 b m rfl
      omega
  subst h0
  have hO := J.O
  have hW := dj_w J
  have hr := J.D.room
  have hbd := J.D.bd
  have hk9 := J.D.k9
  refine ⟨rfl, fun j hj => ?_, hW.2.2.2.1 rfl, ?_⟩
  · have hl : j < os.length := by rw [J.l2]; exact hj
    rw [List.getElem?_eq_getElem hl]
    cases e : os[j] with
    | none => rfl
    | some bm =>
      obtain ⟨b, m⟩ := bm
      have := J.r1 j b m (by rw [List.getElem?_eq_getElem hl, e])
      have h01 : j = 0 ∨ j = 1 := by omega
      rcases h01 with rfl | rfl <;> omega
  · cases hO with
    | idle a b c d =>
      subst a b d c
      have hA := J.A
      have hD := J.D
      rw [List.append_nil] at hr hbd
      exact ⟨dm_rep hD, hA, hr, by omega⟩

theorem dj_first (n an P : Nat) (bs : List Bool) (h1 : 1 ≤ n) (h4 : n ≤ 4) (ha : an ≤ 60) (b0 b1 : Nat) : DJ n an P 0 bs (List.replicate (2 + n) 0) 0 [] [] [] (((0 : Nat) : Int) + (([] : List Int).length : Nat)) 0 0 0 0 none [some (b0, dqSteal), some (b1, dqSteal)] (List.replicate (an + 2) false) (List.replicate (an + 2) 0) := by
  refine ⟨dm_first n h1 h4, .idle rfl rfl rfl rfl, (fun b m e => by cases e), fun j b m hm => ?_, acc_first _ (by omega), ha, Nat.le_refl _, Nat.zero_le _, fun e => absurd rfl e, rfl, (fun b m e => by cases e), fun j b m hm => ?_⟩
  · have := List.mem_of_getElem? hm
    simp only [List.mem_cons, Option.some.injEq, Prod.mk.injEq, List.not_mem_nil, or_false] at this
    rcases this with ⟨_, rfl⟩ | ⟨_, rfl⟩ <;> exact tok_0 _ _
  · have hj := (List.getElem?_eq_some_iff.1 hm).1
    have := List.mem_of_getElem? hm
    simp only [List.mem_cons, Option.some.injEq, Prod.mk.injEq, List.not_mem_nil, or_false] at this
    have hrk : dqRank m = 4 := by rcases this with ⟨_, rfl⟩ | ⟨_, rfl⟩ <;> rfl
    simp only [List.length_cons, List.length_nil] at hj
    have h01 : j = 0 ∨ j = 1 := by omega
    rcases h01 with rfl | rfl <;> omega
end

/-- The last one is popped. -/
theorem acc_pop {N : Nat} {p : List Int} {x : Int} {wd : Nat} {last : Int} {pu : List Bool} {ta : List Int} (A : Acc N (p ++ [x]) [] wd last pu ta) : (1 ≤ x ∧ x ≤ wd) ∧ ta[x.toNat]? = some 0 ∧ Acc N p [] wd last pu (ta.set x.toNat 1) := by
  have hn := A.nd
  rw [List.append_nil] at hn
  have h := List.nodup_append.1 hn
  refine acc_take A (fun z => by simp [or_comm]) (fun hm => ?_) (List.pairwise_append.1 A.inc).1 (fun y hy => A.low y (List.mem_append_left _ hy)) A.lb (by rw [List.append_nil]; exact h.1)
  rw [List.append_nil] at hm
  exact h.2.2 x hm x (by simp) rfl

end Go.Proofs.Ytlmmaijbppdckaa

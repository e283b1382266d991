/- StackOnce: parts of memory for three owners and three machines. No condition. -/
import Derived.Test.YtaciapjohakpgaaSo9p
import Derived.Test.YtaciapjohakpgaaMach9H
import Derived.Test.YtaciapjohakpgaaGrp
import Derived.Test.YtaciapjohakpgaaLaw9c
set_option linter.unusedVariables false
set_option linter.unusedSimpArgs false
namespace Go.Proofs.Ytaciapjohakpgaa
open Go.ChangeShapes Go.WideShapes Go.ChangeAt Go.RowKit

theorem el_list9 : ElemOf Try.prog 51 23 (.slice none 0 0) 1 24 := elemOf Try.underlying51 (by kernel_rfl)
theorem el_ptr9 : ElemOf Try.prog 52 38 (.pointer none) 1 8 := elemOf Try.underlying52 (by kernel_rfl)

theorem Has.front9 {w0 w : World} {cs ds : List (Chunk w0.heap.size)} (H : Has w0 w (cs ++ ds)) : Has w0 w cs :=
  ⟨H.below, fun i c hi => H.holds i c (by rw [List.getElem?_append_left (List.getElem?_eq_some_iff.1 hi).1]; exact hi), fun i c hi => H.lt i c (by rw [List.getElem?_append_left (List.getElem?_eq_some_iff.1 hi).1]; exact hi),
   fun i j c d hi hj => H.apart i j c d (by rw [List.getElem?_append_left (List.getElem?_eq_some_iff.1 hi).1]; exact hi) (by rw [List.getElem?_append_left (List.getElem?_eq_some_iff.1 hj).1]; exact hj)⟩

theorem run_eqIn_ptr {P : Program} (w : World) {t e : TypeId} (h : P.underlying t = some (.pointer e)) (a : Addr) (d : Nat) : (Op.equalIn (d + 1) t (.pointer (some a)) (.pointer none)).run P w = .ok false w := by
  simp [Op.equalIn, run_underlying h]
theorem run_eqIn_nn {P : Program} (w : World) {t e : TypeId} (h : P.underlying t = some (.pointer e)) (d : Nat) : (Op.equalIn (d + 1) t (.pointer none) (.pointer none)).run P w = .ok true w := by
  simp [Op.equalIn, run_underlying h]

/-- A new part takes the place of another one. -/
theorem set_split {α : Type} {l : List α} {i : Nat} {d : α} (h : l[i]? = some d) (c : α) : ∃ A B, l = A ++ d :: B ∧ l.set i c = A ++ c :: B ∧ A.length = i := by
  induction l generalizing i with
  | nil => simp at h
  | cons x l ih =>
    cases i with
    | zero => simp at h; subst h; exact ⟨[], l, rfl, rfl, rfl⟩
    | succ i =>
      obtain ⟨A, B, h1, h2, h3⟩ := ih (i := i) (by simpa using h)
      exact ⟨x :: A, B, by rw [h1]; rfl, by rw [List.set_cons_succ, h2]; rfl, by simp [h3]⟩

theorem Has.moveIn {w0 w : World} {cs : List (Chunk w0.heap.size)} {c d : Chunk w0.heap.size} (H : Has w0 w (cs ++ [c])) (i : Nat) (hi : cs[i]? = some d) : Has w0 w (cs.set i c) := by
  obtain ⟨A, B, h1, h2, -⟩ := set_split hi c
  rw [h2]
  rw [h1] at H
  have p : (A ++ d :: B ++ [c]).Perm (A ++ c :: B ++ [d]) := by
    simp only [List.append_assoc, List.cons_append]
    refine List.Perm.append_left A ?_
    refine (List.Perm.cons d List.perm_append_comm).trans ?_
    refine (List.Perm.swap c d B).trans ?_
    exact List.Perm.cons c (List.perm_append_comm (l₁ := [d]))
  exact (H.perm p).front9

/-- A part is given up. -/
theorem Has.forget {w0 w : World} {cs : List (Chunk w0.heap.size)} (H : Has w0 w cs) (i : Nat) {c : Chunk w0.heap.size} (hi : cs[i]? = some c) : Has w0 w (cs.set i (noC _)) :=
  H.re (noC _) hi (by simp [noC]) (fun q => by simp [noC] at q) trivial

/-- The machines: those that are there, and those that aren't. -/
def oc (n0 lb : Nat) : Option (Nat × Mac) → Chunk n0
  | none => noC n0
  | some (b, m) => machC n0 b lb m
def optr : Option (Nat × Mac) → Value
  | none => .pointer none
  | some (b, _) => .pointer (some ⟨b, 0, none⟩)
def omac : Option (Nat × Mac) → Option Mac := Option.map (·.2)

def hz (n0 : Nat) (vs : List Value) (hs : List (List Int)) : List (Chunk n0) := List.zipWith (fun v h => ownN n0 3 .i64 v h) vs hs
theorem hz_at {n0 : Nat} {vs : List Value} {hs : List (List Int)} {k : Nat} {v : Value} {h : List Int} (hv : vs[k]? = some v) (hh : hs[k]? = some h) : (hz n0 vs hs)[k]? = some (ownN n0 3 .i64 v h) := by
  unfold hz; rw [List.getElem?_zipWith, hv, hh]
theorem hz_set {n0 : Nat} {vs : List Value} {hs : List (List Int)} {k : Nat} (v : Value) (h : List Int) (hl : vs.length = hs.length) : (hz n0 vs hs).set k (ownN n0 3 .i64 v h) = hz n0 (vs.set k v) (hs.set k h) := by
  unfold hz
  apply List.ext_getElem?
  intro i
  by_cases e : k = i
  · subst e
    by_cases hk : k < hs.length
    · rw [List.getElem?_set_self (by simp; omega), List.getElem?_zipWith, List.getElem?_set_self (by omega), List.getElem?_set_self hk]
    · rw [List.getElem?_eq_none (by simp; omega), List.getElem?_eq_none (by simp; omega)]
  · rw [List.getElem?_set_ne e, List.getElem?_zipWith, List.getElem?_zipWith, List.getElem?_set_ne e, List.getElem?_set_ne e]
theorem hz_len {n0 : Nat} {vs : List Value} {hs : List (List Int)} (h1 : vs.length = 3) (h2 : hs.length = 3) : (hz n0 vs hs).length = 3 := by
  unfold hz; simp [h1, h2]

section
variable {n0 : Nat} {vs : List Value} {hs : List (List Int)} (h1 : vs.length = 3) (h2 : hs.length = 3)
include h1 h2
theorem hm_at {k : Nat} {L : List (Chunk n0)} {c : Chunk n0} (h : L[k]? = some c) : (hz n0 vs hs ++ L)[k + 3]? = some c := by
  rw [List.getElem?_append_right (by rw [hz_len h1 h2]; omega), hz_len h1 h2, show k + 3 - 3 = k by omega]; exact h
theorem hm_set (k : Nat) (L : List (Chunk n0)) (c : Chunk n0) : (hz n0 vs hs ++ L).set (k + 3) c = hz n0 vs hs ++ L.set k c := by
  rw [List.set_append_right _ _ (by rw [hz_len h1 h2]; omega), hz_len h1 h2, show k + 3 - 3 = k by omega]
theorem hh_at {k : Nat} {L : List (Chunk n0)} {v : Value} {h : List Int} (hv : vs[k]? = some v) (hh : hs[k]? = some h) : (hz n0 vs hs ++ L)[k]? = some (ownN n0 3 .i64 v h) := by
  have := (List.getElem?_eq_some_iff.1 hv).1
  rw [List.getElem?_append_left (by rw [hz_len h1 h2]; omega)]; exact hz_at hv hh
theorem hh_set {k : Nat} (hk : k < 3) (L : List (Chunk n0)) (v : Value) (h : List Int) : (hz n0 vs hs ++ L).set k (ownN n0 3 .i64 v h) = hz n0 (vs.set k v) (hs.set k h) ++ L := by
  rw [List.set_append_left _ _ (by rw [hz_len h1 h2]; omega), hz_set v h (by omega)]
end

/-- A slice of truth values of the call's own. -/
abbrev blC (n0 b N : Nat) (is : List Bool) : Chunk n0 := ownC n0 4 1 (.slice (some ⟨b, 0, none⟩) N N) N (is.map Value.bool)

theorem bl_cell {w : World} {b N : Nat} {is : List Bool} (h : Own w 4 1 (.slice (some ⟨b, 0, none⟩) N N) N (is.map Value.bool)) {u : Nat} {x : Bool} (hx : is[u]? = some x) : w.cell? ⟨b, u, none⟩ = some (.bool x) ∧ w.frozen? ⟨b, u, none⟩ = false := by
  have hl : is.length = N := by have := h.1; simpa using this
  have hN : 0 < N := by have := (List.getElem?_eq_some_iff.1 hx).1; omega
  obtain ⟨g, off, hh, -, -, -, hc, hf⟩ := own_atV (n := N) h hN
  cases hh
  have := hc u (.bool x) (by rw [List.getElem?_map, hx]; rfl)
  rw [Nat.zero_add] at this
  exact ⟨this, hf u⟩

theorem Has.blS {w0 w : World} {cs : List (Chunk w0.heap.size)} (H : Has w0 w cs) (i : Nat) {b N : Nat} {is : List Bool} (hi : cs[i]? = some (blC _ b N is)) (u : Nat) (hu : u < N) (x : Bool) : Has w0 (w.setCell ⟨b, u, none⟩ (.bool x)) (cs.set i (blC _ b N (is.set u x))) := by
  have h := H.ownSet0 i hi u (.bool x) (by omega)
  rw [← List.map_set] at h
  exact h

/-- A slice of the call's own whose block begins with it. -/
abbrev rwC (n0 : Nat) (e : TypeId) (b N : Nat) (vs : List Value) : Chunk n0 := ownC n0 e 1 (.slice (some ⟨b, 0, none⟩) N N) N vs
theorem rw_cell {w : World} {e : TypeId} {b N : Nat} {vs : List Value} (h : Own w e 1 (.slice (some ⟨b, 0, none⟩) N N) N vs) {u : Nat} {x : Value} (hx : vs[u]? = some x) : w.cell? ⟨b, u, none⟩ = some x ∧ w.frozen? ⟨b, u, none⟩ = false := by
  have hl : vs.length = N := by have := h.1; simpa using this
  have hN : 0 < N := by have := (List.getElem?_eq_some_iff.1 hx).1; omega
  obtain ⟨g, off, hh, -, -, -, hc, hf⟩ := own_atV (n := N) h hN
  cases hh
  have := hc u x hx
  rw [Nat.zero_add] at this
  exact ⟨this, hf u⟩

def base9 (n0 : Nat) (pv : Value) (pks : List Int) (lb : Nat) (lv : Value) (sb sg : Nat) (M : List Int) (c : Int) (hb wb pb : Nat) (vs : List Value) (os : List (Option (Nat × Mac))) (ps : List Bool) (hs : List (List Int)) : List (Chunk n0) :=
  slC n0 .u8 pv pks :: linksC n0 lb lv (rowL 9) :: storeC n0 sb sg M c :: rwC n0 23 hb 3 vs :: rwC n0 38 wb 3 (os.map optr) :: blC n0 pb 3 ps :: (hz n0 vs hs ++ os.map (oc n0 lb))

theorem set_opt_same {α : Type} {l : List α} {k : Nat} {x : α} (h : l[k]? = some x) : l.set k x = l := by
  apply List.ext_getElem?
  intro j
  by_cases e : k = j
  · subst e; rw [List.getElem?_set_self (List.getElem?_eq_some_iff.1 h).1, h]
  · rw [List.getElem?_set_ne e]

section
variable {w0 w : World} {pv lv : Value} {pks M : List Int} {lb sb sg hb wb pb : Nat} {c : Int} {vs : List Value} {os : List (Option (Nat × Mac))} {ps : List Bool} {hs : List (List Int)} {kk : Nat} {o : Option (Nat × Mac)} (h1 : vs.length = 3) (h2 : hs.length = 3) (ho : os[kk]? = some o)

include h1 h2 in
theorem base_mach {n0 : Nat} (ho : os[kk]? = some o) : (base9 n0 pv pks lb lv sb sg M c hb wb pb vs os ps hs)[kk + 9]? = some (oc n0 lb o) := by
  show (hz n0 vs hs ++ os.map (oc n0 lb))[kk + 3]? = some (oc n0 lb o)
  exact hm_at h1 h2 (by rw [List.getElem?_map, ho]; rfl)

include h1 h2 in
theorem base_own {n0 : Nat} {v : Value} {h : List Int} (hv : vs[kk]? = some v) (hh : hs[kk]? = some h) : (base9 n0 pv pks lb lv sb sg M c hb wb pb vs os ps hs)[kk + 6]? = some (ownN n0 3 .i64 v h) := by
  show (hz n0 vs hs ++ os.map (oc n0 lb))[kk]? = some _
  exact hh_at h1 h2 hv hh

include h1 h2 ho in
/-- A machine begins. -/
theorem base_in {bq : Nat} {m : Mac} (H : Has w0 w ((base9 w0.heap.size pv pks lb lv sb sg M c hb wb pb vs os ps hs).set 4 (rwC _ 38 wb 3 ((os.map optr).set kk (.pointer (some ⟨bq, 0, none⟩)))) ++ [machC _ bq lb m])) :
    Has w0 w (base9 w0.heap.size pv pks lb lv sb sg M c hb wb pb vs (os.set kk (some (bq, m))) ps hs) := by
  have G := H.moveIn (kk + 9) (d := oc _ lb o) (by
    show (hz w0.heap.size vs hs ++ os.map (oc w0.heap.size lb))[kk + 3]? = some (oc w0.heap.size lb o)
    exact hm_at h1 h2 (by rw [List.getElem?_map, ho]; rfl))
  have e : ((base9 w0.heap.size pv pks lb lv sb sg M c hb wb pb vs os ps hs).set 4 (rwC _ 38 wb 3 ((os.map optr).set kk (.pointer (some ⟨bq, 0, none⟩))))).set (kk + 9) (machC _ bq lb m) = base9 w0.heap.size pv pks lb lv sb sg M c hb wb pb vs (os.set kk (some (bq, m))) ps hs := by
    show slC _ .u8 pv pks :: linksC _ lb lv (rowL 9) :: storeC _ sb sg M c :: rwC _ 23 hb 3 vs :: rwC _ 38 wb 3 ((os.map optr).set kk (.pointer (some ⟨bq, 0, none⟩))) :: blC _ pb 3 ps :: (hz w0.heap.size vs hs ++ os.map (oc w0.heap.size lb)).set (kk + 3) (machC _ bq lb m) = _
    rw [hm_set h1 h2]
    unfold base9
    rw [List.map_set, List.map_set]
    rfl
  rw [e] at G
  exact G

include h1 h2 in
/-- A machine has done a step. -/
theorem base_step {M' : List Int} {c' : Int} {bq : Nat} {m m' : Mac} (ho : os[kk]? = some (some (bq, m))) (H : Has w0 w (((base9 w0.heap.size pv pks lb lv sb sg M c hb wb pb vs os ps hs).set 2 (storeC _ sb sg M' c')).set (kk + 9) (machC _ bq lb m'))) :
    Has w0 w (base9 w0.heap.size pv pks lb lv sb sg M' c' hb wb pb vs (os.set kk (some (bq, m'))) ps hs) := by
  have e : ((base9 w0.heap.size pv pks lb lv sb sg M c hb wb pb vs os ps hs).set 2 (storeC _ sb sg M' c')).set (kk + 9) (machC _ bq lb m') = base9 w0.heap.size pv pks lb lv sb sg M' c' hb wb pb vs (os.set kk (some (bq, m'))) ps hs := by
    show slC _ .u8 pv pks :: linksC _ lb lv (rowL 9) :: storeC _ sb sg M' c' :: rwC _ 23 hb 3 vs :: rwC _ 38 wb 3 (os.map optr) :: blC _ pb 3 ps :: (hz w0.heap.size vs hs ++ os.map (oc w0.heap.size lb)).set (kk + 3) (machC _ bq lb m') = _
    rw [hm_set h1 h2]
    unfold base9
    rw [List.map_set, List.map_set, set_opt_same (l := os.map optr) (k := kk) (x := optr (some (bq, m'))) (by rw [List.getElem?_map, ho]; rfl)]
    rfl
  rw [e] at H
  exact H

include h1 h2 ho in
/-- A machine is finished. -/
theorem base_off (H : Has w0 w ((base9 w0.heap.size pv pks lb lv sb sg M c hb wb pb vs os ps hs).set 4 (rwC _ 38 wb 3 ((os.map optr).set kk (.pointer none))))) :
    Has w0 w (base9 w0.heap.size pv pks lb lv sb sg M c hb wb pb vs (os.set kk none) ps hs) := by
  have G := H.forget (kk + 9) (c := oc _ lb o) (by
    show (hz w0.heap.size vs hs ++ os.map (oc w0.heap.size lb))[kk + 3]? = some (oc w0.heap.size lb o)
    exact hm_at h1 h2 (by rw [List.getElem?_map, ho]; rfl))
  have e : ((base9 w0.heap.size pv pks lb lv sb sg M c hb wb pb vs os ps hs).set 4 (rwC _ 38 wb 3 ((os.map optr).set kk (.pointer none)))).set (kk + 9) (noC _) = base9 w0.heap.size pv pks lb lv sb sg M c hb wb pb vs (os.set kk none) ps hs := by
    show slC _ .u8 pv pks :: linksC _ lb lv (rowL 9) :: storeC _ sb sg M c :: rwC _ 23 hb 3 vs :: rwC _ 38 wb 3 ((os.map optr).set kk (.pointer none)) :: blC _ pb 3 ps :: (hz w0.heap.size vs hs ++ os.map (oc w0.heap.size lb)).set (kk + 3) (noC _) = _
    rw [hm_set h1 h2]
    unfold base9
    rw [List.map_set, List.map_set]
    rfl
  rw [e] at G
  exact G

include h1 h2 in
/-- An owner's things are others. -/
theorem base_has {v' : Value} {h' : List Int} (hk : kk < 3) (H : Has w0 w (((base9 w0.heap.size pv pks lb lv sb sg M c hb wb pb vs os ps hs).set (kk + 6) (ownN _ 3 .i64 v' h')).set 3 (rwC _ 23 hb 3 (vs.set kk v')))) :
    Has w0 w (base9 w0.heap.size pv pks lb lv sb sg M c hb wb pb (vs.set kk v') os ps (hs.set kk h')) := by
  have e : ((base9 w0.heap.size pv pks lb lv sb sg M c hb wb pb vs os ps hs).set (kk + 6) (ownN _ 3 .i64 v' h')).set 3 (rwC _ 23 hb 3 (vs.set kk v')) = base9 w0.heap.size pv pks lb lv sb sg M c hb wb pb (vs.set kk v') os ps (hs.set kk h') := by
    show slC _ .u8 pv pks :: linksC _ lb lv (rowL 9) :: storeC _ sb sg M c :: rwC _ 23 hb 3 (vs.set kk v') :: rwC _ 38 wb 3 (os.map optr) :: blC _ pb 3 ps :: (hz w0.heap.size vs hs ++ os.map (oc w0.heap.size lb)).set kk (ownN _ 3 .i64 v' h') = _
    rw [hh_set h1 h2 hk]
    rfl
  rw [e] at H
  exact H
end

theorem lset9 {α : Type} {l : List α} {j : Nat} {x : α} (h : l[j]? = some x) (y : α) : (l.set j y)[j]? = some y := by
  rw [List.getElem?_set_self (List.getElem?_eq_some_iff.1 h).1]

/-- What is behind the first one. -/
def tailV (g off n c : Nat) : Value := .slice (if c = 1 then some ⟨g, off, none⟩ else some ⟨g, off + 1, none⟩) n (c - 1)
theorem own_tail {w : World} {e : TypeId} {g off c : Nat} {it : Int} {tl : List Int} (h : Own w e 1 (.slice (some ⟨g, off, none⟩) (tl.length + 1) c) (it :: tl).length ((it :: tl).map (Value.int .i64))) : Own w e 1 (tailV g off tl.length c) tl.length (tl.map (Value.int .i64)) := by
  unfold tailV
  by_cases hc : c = 1
  · subst hc
    rcases h.2 with ⟨hv, hn⟩ | ⟨g', off', cap, cur, hv, hg, h1, h2, h3, h4⟩
    · cases hv
    · simp only [Value.slice.injEq, Option.some.injEq, Addr.mk.injEq, and_true] at hv
      obtain ⟨⟨rfl, rfl⟩, -, rfl⟩ := hv
      have h0 : tl = [] := by simpa using h1
      subst h0
      rw [if_pos rfl]
      exact ⟨rfl, .inr ⟨_, _, 0, cur, rfl, hg, Nat.le_refl _, by unfold maxLen; omega, by omega, by simp⟩⟩
  · rw [if_neg hc]
    have := own_drop (k := 1) h (by simp)
    simpa using this

theorem Has.ownTail {w0 w : World} {cs : List (Chunk w0.heap.size)} (H : Has w0 w cs) (i : Nat) {e : TypeId} {g off c : Nat} {it : Int} {tl : List Int} (hi : cs[i]? = some (ownN _ e .i64 (.slice (some ⟨g, off, none⟩) (tl.length + 1) c) (it :: tl))) : Has w0 w (cs.set i (ownN _ e .i64 (tailV g off tl.length c) tl)) :=
  H.re _ hi (fun k hk => by
    simp only [ownC, tailV, Value.ownBlock] at hk ⊢
    by_cases hc : c = 1
    · rw [if_pos hc] at hk; exact hk
    · rw [if_neg hc] at hk; exact hk) (fun _ => rfl) (own_tail (H.get i hi))

/-- The Walk, over memory as parts. -/
theorem Walk_h {w0 w : World} {cs : List (Chunk w0.heap.size)} (H : Has w0 w cs) (i j : Nat) {v lv : Value} {lb : Nat} {l ls : List Int} (hi : cs[i]? = some (slC _ .u64 v l)) (hj : cs[j]? = some (linksC _ lb lv ls)) (hl : ls.length < 1000000000000) (head most : Int) (hm : most < 1000000000000) :
    Calls Try.prog 10 #[v, .int .i64 head, linkV lb, .int .i64 most] w fun e w' => ∃ v', e = .returned v' ∧ Has w0 w' (cs ++ [ownN _ 3 .i64 v' (walkF ls l most.toNat head)]) := by
  obtain ⟨a, cap, rfl, -, -⟩ := H.sl i hi
  refine (Walk_c (A := []) a cap lb l ls head most w (H.sl i hi) (H.linksAt hj (by simp)) hl hm).mono fun e w' ⟨v', he, ho, _, hb⟩ => ⟨v', he, H.ownAdd hb ho⟩

theorem Row_h {w0 w : World} {cs : List (Chunk w0.heap.size)} (H : Has w0 w cs) (n : Nat) (hn : n < 1000000) :
    Calls Try.prog 20 #[.int .i64 n] w fun e w' => ∃ v, e = .returned v ∧ Has w0 w' (cs ++ [ownN _ 3 .i64 v (rowL n)]) :=
  (Row_c n w hn).mono fun e w' ⟨v, he, ho, hb⟩ => ⟨v, he, H.ownAdd hb ho⟩

theorem sl_of_own9 {w : World} {e : TypeId} {k : IntKind} {v : Value} {xs : List Int} {A : List Nat} (h : Own w e 1 v xs.length (xs.map (Value.int k))) (hA : ∀ b ∈ v.ownBlock.toList, b ∉ A) : Sl w A k v xs := by
  obtain ⟨a, c, rfl⟩ := own_is h
  by_cases hx : xs = []
  · subst hx
    exact ⟨a, c, rfl, by simp, .inl rfl⟩
  · have hl : 0 < xs.length := List.length_pos_iff.2 hx
    obtain ⟨g, off, rfl, hc, -, hg, hcell, -⟩ := own_atV h hl
    refine ⟨_, c, rfl, hc, .inr ⟨g, off, rfl, hg, hA g (by simp [Value.ownBlock]), fun j hj => hcell j _ ?_⟩⟩
    rw [List.getElem?_map, List.getElem?_eq_getElem hj]
    rfl

/-- A slice of the call's own is from now on only read: links. -/
theorem LinksOwn_h {w0 w : World} {cs : List (Chunk w0.heap.size)} {e : TypeId} {v : Value} {ls : List Int} (H : Has w0 w (cs ++ [ownN _ e .i64 v ls])) :
    Calls Try.prog 11 #[v] w fun e w' => ∃ lb, e = .returned (linkV lb) ∧ Has w0 w' (cs ++ [linksC _ lb v ls]) := by
  have G := H.front9
  have hO : Own w e 1 v ls.length (ls.map (Value.int .i64)) := H.get cs.length (c := ownN _ e .i64 v ls) (by rw [List.getElem?_append_right (by omega)]; simp)
  refine Links_h G (sl_of_own9 hO fun b hb hm => ?_)
  obtain ⟨i, c, hi, hro, hk⟩ := mem_owned hm
  have hlt := (List.getElem?_eq_some_iff.1 hi).1
  exact H.apart i cs.length c (ownN _ e .i64 v ls) (by rw [List.getElem?_append_left hlt]; exact hi) (by rw [List.getElem?_append_right (by omega)]; simp) (by omega) (.inl hro) b hk (by simpa [ownC] using hb)

/-- Which things are seen. -/
structure Sn (sn : List Bool) (P : List Int) : Prop where
  len : sn.length = 9
  iff : ∀ x : Nat, x < 9 → (sn[x]? = some true ↔ (x : Int) ∈ P)

theorem sn_nil : Sn (List.replicate 9 false) [] := by
  refine ⟨rfl, fun x hx => ?_⟩
  rw [List.getElem?_replicate, if_pos hx]
  simp

theorem sn_set {sn : List Bool} {P : List Int} (h : Sn sn P) (x : Nat) (hx : x < 9) : Sn (sn.set x true) (P ++ [(x : Int)]) := by
  refine ⟨by rw [List.length_set]; exact h.len, fun y hy => ?_⟩
  by_cases e : x = y
  · subst e
    rw [List.getElem?_set_self (by rw [h.len]; exact hx)]
    simp
  · rw [List.getElem?_set_ne e, h.iff y hy]
    simp
    omega

theorem sn_no {sn : List Bool} {P : List Int} (h : Sn sn P) (x : Nat) (hx : x < 9) (hn : (x : Int) ∉ P) : sn[x]? = some false := by
  have hl : x < sn.length := by rw [h.len]; exact hx
  rw [List.getElem?_eq_getElem hl]
  cases e : sn[x] with
  | false => rfl
  | true => exact absurd ((h.iff x hx).1 (by rw [List.getElem?_eq_getElem hl, e])) hn

/-- All four lists, one behind the other. -/
def pre4 (ls : List (List Int)) (j q : Nat) : List Int := (ls.take j).flatten ++ ((ls.getD j []).take q)
theorem pre4_q {ls : List (List Int)} {j q : Nat} {l : List Int} {x : Int} (hl : ls[j]? = some l) (hx : l[q]? = some x) : pre4 ls j (q + 1) = pre4 ls j q ++ [x] := by
  unfold pre4
  have : ls.getD j [] = l := by simp [List.getD, hl]
  rw [this, List.append_assoc]
  congr 1
  obtain ⟨h1, h2⟩ := List.getElem?_eq_some_iff.1 hx
  rw [List.take_succ_eq_append_getElem h1, h2]
theorem pre4_j {ls : List (List Int)} {j q : Nat} {l : List Int} (hl : ls[j]? = some l) (hq : l.length ≤ q) : pre4 ls (j + 1) 0 = pre4 ls j q := by
  unfold pre4
  have : ls.getD j [] = l := by simp [List.getD, hl]
  obtain ⟨h1, h2⟩ := List.getElem?_eq_some_iff.1 hl
  rw [this, List.take_of_length_le hq, List.take_succ_eq_append_getElem h1, h2]
  simp
theorem pre4_sub {ls : List (List Int)} {j q : Nat} {l : List Int} {x : Int} (nd : ls.flatten.Nodup) (hl : ls[j]? = some l) (hx : l[q]? = some x) : x ∉ pre4 ls j q ∧ x ∈ ls.flatten ∧ (pre4 ls j q).length < ls.flatten.length := by
  obtain ⟨h1, h2⟩ := List.getElem?_eq_some_iff.1 hl
  obtain ⟨h3, h4⟩ := List.getElem?_eq_some_iff.1 hx
  have e1 : ls.flatten = pre4 ls j q ++ (l.drop q ++ (ls.drop (j + 1)).flatten) := by
    unfold pre4
    have : ls.getD j [] = l := by simp [List.getD, hl]
    rw [this]
    have e2 : ls = ls.take j ++ (l :: ls.drop (j + 1)) := by
      have := List.take_append_drop j ls
      rw [List.drop_eq_getElem_cons h1, h2] at this
      exact this.symm
    conv => lhs; rw [e2]
    rw [List.flatten_append, List.flatten_cons, List.append_assoc]
    congr 1
    rw [← List.append_assoc, List.take_append_drop]
  have e3 : l.drop q = x :: l.drop (q + 1) := by rw [List.drop_eq_getElem_cons h3, h4]
  rw [e3] at e1
  rw [e1] at nd
  refine ⟨fun hm => ?_, by rw [e1]; simp, by rw [e1]; simp⟩
  exact (List.nodup_append.1 nd).2.2 x hm x (by simp) rfl
theorem pre4_end (ls : List (List Int)) (h : ls.length = 4) : pre4 ls 4 0 = ls.flatten := by
  unfold pre4
  rw [List.take_of_length_le (by omega)]; simp

theorem app9_old {α : Type} {a b : List α} {i : Nat} {x : α} (h : a[i]? = some x) : (a ++ b)[i]? = some x := by
  rw [List.getElem?_append_left (List.getElem?_eq_some_iff.1 h).1]; exact h
theorem app9_idx {α : Type} (a b : List α) (k : Nat) : (a ++ b)[a.length + k]? = b[k]? := by
  rw [List.getElem?_append_right (by omega)]; congr 1; omega
theorem set9_app {α : Type} (a b : List α) (k : Nat) (x : α) : (a ++ b).set (a.length + k) x = a ++ b.set k x := by
  rw [List.set_append_right _ _ (by omega)]; congr 2; omega
theorem Has.dropMid {w0 w : World} {cs : List (Chunk w0.heap.size)} {a b c : Chunk w0.heap.size} (H : Has w0 w (cs ++ [a, b, c])) : Has w0 w (cs ++ [a, c]) := by
  have p : (cs ++ [a, b, c]).Perm ((cs ++ [a, c]) ++ [b]) := by
    rw [List.append_assoc]
    exact List.Perm.append_left cs (List.Perm.cons a (List.Perm.swap c b []))
  exact (H.perm p).front9

/-- The four lists: what the owners have, and what is on the stack. -/
def L4 (hs : List (List Int)) (R : List Int) : List (List Int) := hs ++ [R]
theorem l4_flat (hs : List (List Int)) (R : List Int) : (L4 hs R).flatten = hs.flatten ++ R := by unfold L4; simp
theorem l4_has {hs : List (List Int)} {R : List Int} {j : Nat} {h : List Int} (hj : hs[j]? = some h) : (L4 hs R)[j]? = some h := app9_old hj
theorem l4_last {hs : List (List Int)} (R : List Int) (h : hs.length = 3) : (L4 hs R)[3]? = some R := by
  have := app9_idx hs [R] 0
  rw [h] at this
  exact this

end Go.Proofs.Ytaciapjohakpgaa

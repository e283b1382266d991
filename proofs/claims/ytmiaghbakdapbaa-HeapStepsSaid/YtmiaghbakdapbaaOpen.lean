/- How arguments that can be read as data look: whole numbers, bools, structs and arrays of these, slices of numbers inside them; slices of these. No condition: what a reading met, laid out. -/
import Derived.Test.YtmiaghbakdapbaaBase
import Derived.ChangeOld
import Derived.ChangeArms
set_option linter.unusedVariables false
namespace Go.Proofs.Ytmiaghbakdapbaa
open Go.ChangeShapes Go.WideShapes Go.ChangeAt Go.RowKit

/-- What is known of a slice of numbers that came in. -/
def IsRow (k : IntKind) (w : World) (a : Option Addr) (len cap : Nat) (zs : List Int) : Prop :=
  (a = none ∧ len = 0 ∧ cap = 0 ∧ zs = []) ∨
  ∃ x, a = some x ∧ len ≤ cap ∧ cap ≤ maxLen ∧ zs.length = cap ∧ (∀ i, i < zs.length → w.cell? (x.add i) = some (.int k (zs.getD i 0))) ∧ ∀ n ∈ zs, (Lit.int k n).wf = true

inductive Kd where
  | int (k : IntKind)
  | bool
  | ints (k : IntKind)

def Kd.ok (w : World) : Kd → Value → Prop
  | .int k, v => ∃ n, v = .int k n ∧ (Lit.int k n).wf = true
  | .bool, v => ∃ b, v = .bool b
  | .ints k, v => ∃ a len cap zs, v = .slice a len cap ∧ IsRow k w a len cap zs

def Scal (w : World) : List Kd → List Value → Prop
  | [], [] => True
  | k :: ks, v :: vs => k.ok w v ∧ Scal w ks vs
  | _, _ => False

def flatFields (g : TypeId → Option (List Kd)) (P : Program) : Nat → List Field → Option (List Kd)
  | _, [] => some []
  | off, f :: fs =>
    match g f.type, flatFields g P (off + P.cellsOf f.type) fs with
    | some l, some r => if f.offset = off ∧ P.cellsOf f.type = l.length then some (l ++ r) else none
    | _, _ => none

def flatKs (P : Program) : Nat → TypeId → Option (List Kd)
  | 0, _ => none
  | n + 1, t =>
    match P.underlying t with
    | some .bool => some [.bool]
    | some (.int k) => some [.int k]
    | some (.slice e) => match P.underlying e with
      | some (.int k) => if P.cellsOf e = 1 then some [.ints k] else none
      | _ => none
    | some (.array m e) => match flatKs P n e with
      | some l => if P.cellsOf e = l.length ∧ P.cellsOf t = m * l.length then some (List.replicate m l).flatten else none
      | none => none
    | some (.struct fs) => match flatFields (flatKs P n) P 0 fs.toList with
      | some r => if P.cellsOf t = r.length then some r else none
      | none => none
    | _ => none

theorem scal_append {w : World} : ∀ {k1 k2 : List Kd} {c1 c2 : List Value}, Scal w k1 c1 → Scal w k2 c2 → Scal w (k1 ++ k2) (c1 ++ c2)
  | [], _, [], _, _, h2 => h2
  | _ :: _, _, _ :: _, _, h1, h2 => ⟨h1.1, scal_append h1.2 h2⟩
  | [], _, _ :: _, _, h1, _ => h1.elim
  | _ :: _, _, [], _, h1, _ => h1.elim

theorem scal_length {w : World} : ∀ {ks : List Kd} {cs : List Value}, Scal w ks cs → cs.length = ks.length
  | [], [], _ => rfl
  | _ :: _, _ :: _, h => by simp [scal_length h.2]
  | [], _ :: _, h => h.elim
  | _ :: _, [], h => h.elim

section
variable {H : Type} {enc : TypeId × Value → H} {P : Program} {w : World}

theorem flatFields_ok {g : TypeId → Option (List Kd)} {cs : List Value} : ∀ (fs : List Field) (off : Nat) (ks : List Kd), flatFields g P off fs = some ks →
    (∀ f ∈ fs, ∀ l, g f.type = some l → Scal w l ((cs.drop f.offset).take (P.cellsOf f.type))) → cs.length = off + ks.length → Scal w ks (cs.drop off)
  | [], off, ks, h, _, hl => by
    simp [flatFields] at h
    subst h
    rw [List.drop_eq_nil_of_le (by simp at hl; omega)]
    trivial
  | f :: fs, off, ks, h, hf, hl => by
    unfold flatFields at h
    split at h
    · rename_i l r hg hr
      split at h
      · rename_i hc
        obtain ⟨ho, hs⟩ := hc
        cases h
        have h1 := hf f (by simp) l hg
        have h2 := flatFields_ok fs _ r hr (fun f' m l' hl' => hf f' (by simp [m]) l' hl') (by simp at hl; omega)
        rw [ho] at h1
        have e : cs.drop off = (cs.drop off).take (P.cellsOf f.type) ++ cs.drop (off + P.cellsOf f.type) := by
          rw [← List.drop_drop, List.take_append_drop]
        rw [e]
        exact scal_append h1 h2
      · cases h
    · cases h

theorem flat_ok : ∀ (n : Nat) (t : TypeId) (ks : List Kd), flatKs P n t = some ks → ∀ (fuel : Nat) (cs : List Value) (x : DataW H × List MemPlace), DataW.trod enc P w 0 (fun _ => true) true fuel t cs = some x → Scal w ks cs := by
  intro n
  induction n with
  | zero => intro t ks h; simp [flatKs] at h
  | succ n ih =>
    intro t ks h fuel cs x hx
    unfold flatKs at h
    split at h
    · rename_i hu
      cases h
      obtain ⟨b, rfl, _⟩ := DataW.trod_bool hu hx
      exact ⟨⟨b, rfl⟩, trivial⟩
    · rename_i k hu
      cases h
      obtain ⟨m, rfl, _, hw⟩ := DataW.trod_int hu hx
      exact ⟨⟨m, rfl, hw⟩, trivial⟩
    · rename_i e hu
      split at h
      · rename_i k hk
        split at h
        · rename_i hc
          cases h
          rcases open_ints hu hk hc hx with ⟨rfl, _⟩ | ⟨y, l, c, zs, rfl, _, hl, hm, hz, _, hcell, hwz⟩
          · exact ⟨⟨none, 0, 0, [], rfl, .inl ⟨rfl, rfl, rfl, rfl⟩⟩, trivial⟩
          · exact ⟨⟨some y, l, c, zs, rfl, .inr ⟨y, rfl, hl, hm, by simpa using hz, hcell, hwz⟩⟩, trivial⟩
        · cases h
      · cases h
    · rename_i m e hu
      split at h
      · rename_i l hl
        split at h
        · rename_i hc
          obtain ⟨hc1, hc2⟩ := hc
          cases h
          obtain ⟨xs, q, rfl, _, hlen, hxl, hf⟩ := DataW.trod_array hu hx
          have key : ∀ j i, i + j = m → Scal w (List.replicate j l).flatten (cs.drop (i * l.length)) := by
            intro j
            induction j with
            | zero =>
              intro i hi
              rw [List.drop_eq_nil_of_le (by rw [hlen, hc2, ← hi]; simp)]
              exact trivial
            | succ j ihj =>
              intro i hi
              have h1 := hf i (by omega)
              rw [hc1] at h1
              obtain ⟨y, hy⟩ : ∃ y, xs[i]? = some y := ⟨xs[i]'(by omega), by simp⟩
              rw [hy] at h1
              have h2 := ih e l hl _ _ _ h1
              have h3 := ihj (i + 1) (by omega)
              rw [List.replicate_succ, List.flatten_cons]
              have e1 : cs.drop (i * l.length) = (cs.drop (i * l.length)).take l.length ++ cs.drop ((i + 1) * l.length) := by
                rw [Nat.succ_mul, ← List.drop_drop, List.take_append_drop]
              rw [e1]
              exact scal_append h2 h3
          simpa using key m 0 (by omega)
        · cases h
      · cases h
    · rename_i fs hu
      split at h
      · rename_i r hr
        split at h
        · rename_i hc
          cases h
          obtain ⟨xs, q, rfl, _, hlen, hxl, hf⟩ := DataW.trod_struct hu hx
          have := flatFields_ok (w := w) (cs := cs) fs.toList 0 ks hr (fun f hm l hl => by
            obtain ⟨i, hi, rfl⟩ := List.getElem_of_mem hm
            have h1 := hf i fs.toList[i] (by simp at hi; simp [hi])
            obtain ⟨y, hy⟩ : ∃ y, xs[i]? = some y := ⟨xs[i]'(by simp at hi; omega), by simp⟩
            rw [hy] at h1
            exact ih _ _ hl _ _ _ h1) (by omega)
          simpa using this
        · cases h
      · cases h
    · cases h

/-- A slice whose elements are flat: it is nil, or its cells are there, element by element. -/
theorem flat_slice {t e : TypeId} {n : Nat} {ks : List Kd} (hu : P.underlying t = some (.slice e)) (hk : flatKs P n e = some ks) (hc : P.cellsOf e = ks.length) {fuel : Nat} {cs : List Value} {x : DataW H × List MemPlace} (h : DataW.trod enc P w 0 (fun _ => true) true fuel t cs = some x) :
    cs = [.slice none 0 0] ∨ ∃ (a : Addr) (len cap : Nat), cs = [.slice (some a) len cap] ∧ len ≤ cap ∧ cap ≤ maxLen ∧ ∀ i, i < len → ∃ vs, w.cells? 0 (a.add (i * ks.length)) ks.length = some vs ∧ Scal w ks vs := by
  rcases DataW.trod_slice hu h with ⟨rfl, _⟩ | ⟨a, len, cap, elems, rest, m, rfl, rfl, _, _, hl, hm, hel, hf, _⟩
  · exact .inl rfl
  · refine .inr ⟨a, len, cap, rfl, hl, hm, fun i hi => ?_⟩
    have h1 := hf i hi
    obtain ⟨y, hy⟩ : ∃ y, elems[i]? = some y := ⟨elems[i]'(by omega), by simp⟩
    rw [hy, hc, Option.bind_eq_some_iff] at h1
    obtain ⟨vs, hv, ht⟩ := h1
    exact ⟨vs, hv, flat_ok n e ks hk _ _ _ ht⟩

end

theorem scal_cons {w : World} {k : Kd} {ks : List Kd} {cs : List Value} (h : Scal w (k :: ks) cs) : ∃ v vs, cs = v :: vs ∧ k.ok w v ∧ Scal w ks vs := by
  cases cs with
  | nil => exact h.elim
  | cons v vs => exact ⟨v, vs, rfl, h.1, h.2⟩
theorem scal_nil {w : World} {cs : List Value} (h : Scal w [] cs) : cs = [] := by
  cases cs with
  | nil => rfl
  | cons v vs => exact h.elim
theorem kd_int {w : World} {k : IntKind} {v : Value} (h : (Kd.int k).ok w v) : ∃ n, v = .int k n ∧ (Lit.int k n).wf = true := h
theorem kd_bool {w : World} {v : Value} (h : Kd.bool.ok w v) : ∃ b, v = .bool b := h
theorem kd_ints {w : World} {k : IntKind} {v : Value} (h : (Kd.ints k).ok w v) : ∃ a len cap zs, v = .slice a len cap ∧ IsRow k w a len cap zs := h

/-- What is known of a slice of structs that came in. -/
def IsRows (ks : List Kd) (w : World) (v : Value) (len : Nat) : Prop :=
  (v = .slice none 0 0 ∧ len = 0) ∨ ∃ (a : Addr) (cap : Nat), v = .slice (some a) len cap ∧ len ≤ cap ∧ cap ≤ maxLen ∧ ∀ i, i < len → ∃ vs, w.cells? 0 (a.add (i * ks.length)) ks.length = some vs ∧ Scal w ks vs

theorem isRows_of {ks : List Kd} {w : World} {v : Value} (h : [v] = [.slice none 0 0] ∨ ∃ (a : Addr) (len cap : Nat), [v] = [.slice (some a) len cap] ∧ len ≤ cap ∧ cap ≤ maxLen ∧ ∀ i, i < len → ∃ vs, w.cells? 0 (a.add (i * ks.length)) ks.length = some vs ∧ Scal w ks vs) : ∃ len, IsRows ks w v len := by
  rcases h with h | ⟨a, len, cap, h, h1, h2, h3⟩
  · exact ⟨0, .inl ⟨by simpa using h, rfl⟩⟩
  · exact ⟨len, .inr ⟨a, cap, by simpa using h, h1, h2, h3⟩⟩

theorem okWide_array {P : Program} {w : World} {r : Reach} {base : Nat} {t : TypeId} {v : Value} {n : Nat} {e : TypeId} (ht : P.underlying t = some (.array n e)) (h : Value.okWide P w r base t v) : ∃ cs, v = .agg cs ∧ cs.size = P.cellsOf t := by
  simp only [Value.okWide, ht] at h
  obtain ⟨cs, h1, h2, _⟩ := h
  exact ⟨cs, h1, h2⟩

end Go.Proofs.Ytmiaghbakdapbaa

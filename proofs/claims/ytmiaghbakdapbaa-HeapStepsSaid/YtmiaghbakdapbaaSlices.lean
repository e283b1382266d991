/- Slices that a call makes itself: append of one element, as laws on lists. No condition but that fewer than 2^40 elements stand in the slice. -/
import Derived.Test.YtmiaghbakdapbaaBase2
set_option linter.unusedVariables false
namespace Go.Proofs.Ytmiaghbakdapbaa
open Go.ChangeShapes Go.WideShapes Go.ChangeAt Go.RowKit

/-- t is the type of slices of e, whose zero value is z, of so many cells and bytes. -/
def ElemOf (P : Program) (t e : TypeId) (z : Value) (size bytes : Nat) : Prop := P.underlying t = some (.slice e) ∧ ∃ i, P.info? e = some i ∧ i.zero = some z ∧ i.size = size ∧ i.bytes = bytes

theorem elemOf {P : Program} {t e : TypeId} {z : Value} {size bytes : Nat} (h1 : P.underlying t = some (.slice e)) (h2 : (P.info? e).map (fun i => (i.zero, i.size, i.bytes)) = some (some z, size, bytes)) : ElemOf P t e z size bytes :=
  ⟨h1, info_parts h2⟩

theorem grownBy_of_alloc {w w' : World} {o : Obj} {row : Option Nat} (h : (w.alloc o).grownBy w' row) : w.grownBy w' row :=
  ⟨h.os, h.tape, h.output, Nat.le_trans (by simp) h.size, fun k hk hr => (h.block k (by simp; omega) hr).trans (Below.heap_alloc w o k hk)⟩

/-- append(out, x), x of one cell: buildSlice has laid x in a block of its own. -/
theorem wpl_append1 {P : Program} {ops : Array Oper} {rest : List Oper} {o : Oper} {a : Act} {Q : Exit → Act → World → Prop} {w : World} (hgd : o.guard = none) (s x : Operand) {t e : TypeId} {z : Value} {bytes : Nat}
    (ho : o.op = .call { callee := .builtin .append, args := #[s, x], argTypes := #[t, t] })
    (hel : ElemOf P t e z 1 bytes) (hzs : z.cells.size = 1) (hb8 : bytes ≤ 128) (base : Nat) (v : Value) (n : Nat) (xs : List Value) (hs : a.eval s = v) (hown : w.ownsRow base e 1 v n xs)
    (u : Value) (hx : a.eval x = .slice (some ⟨w.heap.size, 0, none⟩) 1 1) (h1 : u.oneCell' = true) (hn : n < 1000000000000) (hbase : base ≤ w.heap.size)
    (h : ∀ v' w', w'.ownsRow base e 1 v' (n + 1) (xs ++ [u]) → w.grownBy w' v.ownBlock → wpList P ops Q rest (a.put o.dst v') w') : wpList P ops Q (o :: rest) a (w.alloc (.cells #[u] e)) := by
  obtain ⟨ht, i, hi, hz, hsz, hby⟩ := hel
  refine wpList_append_own _ hgd s x t ho base e i z 1 bytes ht hi hz hsz hby hzs (by decide) v n xs hs (hown.alloc _) ⟨w.heap.size, 0, none⟩ 1 1 [u] hx rfl ?_ ?_ ?_ ?_ ?_ ?_
  · intro j q hq
    match j, hq with
    | 0, hq => simp at hq; subst hq; simp [Addr.add]
  · intro q hq; simp at hq; subst hq; exact h1
  · unfold maxLen; omega
  · have : (n + 1) * bytes ≤ 1000000000000 * 128 := Nat.mul_le_mul (by omega) hb8
    omega
  · simp; omega
  · intro v' w' h2 h3 _
    exact h v' w' h2 (grownBy_of_alloc h3)

/-- A slice value that owns the numbers xs, in a block from B on. -/
def OwnI (w : World) (B : Nat) (e : TypeId) (k : IntKind) (v : Value) (xs : List Int) : Prop := w.ownsRow B e 1 v xs.length (xs.map (Value.int k))

theorem ownI_nil (w : World) (B : Nat) (e : TypeId) (k : IntKind) : OwnI w B e k (.slice none 0 0) [] := World.ownsRow_nil _ _ _ _
theorem ownI_drewN {w : World} {B : Nat} {e : TypeId} {k : IntKind} {v : Value} {xs : List Int} (h : OwnI w B e k v xs) (n : Nat) : OwnI (w.drewN n) B e k v xs := h
theorem ownI_alloc {w : World} {B : Nat} {e : TypeId} {k : IntKind} {v : Value} {xs : List Int} (h : OwnI w B e k v xs) (o : Obj) : OwnI (w.alloc o) B e k v xs := World.ownsRow.alloc h o

/-- append(out, x) on numbers. -/
theorem wpl_append_int {P : Program} {ops : Array Oper} {rest : List Oper} {o : Oper} {a : Act} {Q : Exit → Act → World → Prop} {w : World} (hgd : o.guard = none) (s x : Operand) {t e : TypeId} {k : IntKind} {bytes : Nat}
    (ho : o.op = .call { callee := .builtin .append, args := #[s, x], argTypes := #[t, t] })
    (hel : ElemOf P t e (.int k 0) 1 bytes) (hb8 : bytes ≤ 128) (base : Nat) (v : Value) (xs : List Int) (hs : a.eval s = v) (hown : OwnI w base e k v xs)
    (n : Int) (hx : a.eval x = .slice (some ⟨w.heap.size, 0, none⟩) 1 1) (hn : xs.length < 1000000000000) (hbase : base ≤ w.heap.size)
    (h : ∀ v' w', OwnI w' base e k v' (xs ++ [n]) → w.grownBy w' v.ownBlock → wpList P ops Q rest (a.put o.dst v') w') : wpList P ops Q (o :: rest) a (w.alloc (.cells #[.int k n] e)) :=
  wpl_append1 hgd s x ho hel rfl hb8 base v xs.length (xs.map (Value.int k)) hs hown (.int k n) hx rfl hn hbase fun v' w' h2 h3 => h v' w' (by unfold OwnI; simpa using h2) h3

/-- What a slice of numbers reads as. -/
theorem ownI_cases {w : World} {B : Nat} {e : TypeId} {k : IntKind} {v : Value} {xs : List Int} (h : OwnI w B e k v xs) :
    (v = .slice none 0 0 ∧ xs = []) ∨ ∃ g cap, v = .slice (some ⟨g, 0, none⟩) xs.length cap ∧ B ≤ g ∧ g < w.heap.size ∧ ∀ j (hj : j < xs.length), w.cell? ⟨g, j, none⟩ = some (.int k xs[j]) := by
  have hlt := World.ownsRow.lt h
  rcases h.2 with ⟨hv, hn⟩ | ⟨g, cap, cur, hv, hB, _⟩
  · exact .inl ⟨hv, List.length_eq_zero_iff.1 hn⟩
  · refine .inr ⟨g, cap, hv, hB, (hlt g (by rw [hv]; rfl)).2, fun j hj => ?_⟩
    have := World.ownsRow.cellAt (by rw [hv] at h; exact h) j (by omega)
    rw [this]
    simp [hj]

theorem ownI_kept {w w' : World} {B : Nat} {e : TypeId} {k : IntKind} {v : Value} {xs : List Int} (h : OwnI w B e k v xs) (hb : Below w.heap.size w w') : OwnI w' B e k v xs :=
  World.ownsRow.kept (row := some w.heap.size) h ⟨hb.os, hb.tape, hb.output, hb.size, fun j hj _ => hb.block j hj⟩ (by
    cases hv : v.ownBlock with
    | none => exact .inl rfl
    | some g => exact .inr (by have := (World.ownsRow.lt h g hv).2; simp; omega))

theorem ownI_mono {w : World} {B B' : Nat} {e : TypeId} {k : IntKind} {v : Value} {xs : List Int} (h : OwnI w B e k v xs) (hB : B' ≤ B) : OwnI w B' e k v xs :=
  ⟨h.1, h.2.imp id fun ⟨g, cap, cur, hv, q, r⟩ => ⟨g, cap, cur, hv, Nat.le_trans hB q, r⟩⟩

/-- Below with the block that an own slice has, which lies above. -/
theorem below_grown_own {w0 w w' : World} {B : Nat} {e : TypeId} {size : Nat} {v : Value} {n : Nat} {xs : List Value} (h : Below B w0 w) (ho : w.ownsRow B e size v n xs) (hg : w.grownBy w' v.ownBlock) (hB : B ≤ w.heap.size) : Below B w0 w' :=
  h.grown hg hB fun k hk => (World.ownsRow.lt ho k hk).1

end Go.Proofs.Ytmiaghbakdapbaa

/- Slices of the call's own, of one-cell values of whatever kind: made, read, set, shortened, grown by one. No condition but that fewer than 10^12 elements stand in a slice. -/
import Derived.Test.YtaciapjohakpgaaSl
set_option linter.unusedVariables false
namespace Go.Proofs.Ytaciapjohakpgaa
open Go.ChangeShapes Go.WideShapes Go.ChangeAt Go.RowKit

/-- A slice value that owns the values vs, in a block from B on. -/
def OwnV (w : World) (B : Nat) (e : TypeId) (v : Value) (vs : List Value) : Prop := w.ownsRow B e 1 v vs.length vs

theorem ownI_iff {w : World} {B : Nat} {e : TypeId} {k : IntKind} {v : Value} {xs : List Int} : OwnI w B e k v xs ↔ OwnV w B e v (xs.map (Value.int k)) := by
  unfold OwnI OwnV; rw [List.length_map]

theorem ownV_nil (w : World) (B : Nat) (e : TypeId) : OwnV w B e (.slice none 0 0) [] := World.ownsRow_nil _ _ _ _
theorem ownV_mono {w : World} {B B' : Nat} {e : TypeId} {v : Value} {vs : List Value} (h : OwnV w B e v vs) (hB : B' ≤ B) : OwnV w B' e v vs :=
  ⟨h.1, h.2.imp id fun ⟨g, cap, cur, hv, q, r⟩ => ⟨g, cap, cur, hv, Nat.le_trans hB q, r⟩⟩

theorem ownV_slice {w : World} {B : Nat} {e : TypeId} {v : Value} {vs : List Value} (h : OwnV w B e v vs) : ∃ a c, v = .slice a vs.length c := by
  rcases h.2 with ⟨hv, hn⟩ | ⟨g, cap, cur, hv, _⟩
  · exact ⟨none, 0, by rw [hv, hn]⟩
  · exact ⟨_, _, hv⟩

/-- Where its elements stand, if it has any. -/
theorem ownV_at {w : World} {B : Nat} {e : TypeId} {a : Option Addr} {n c : Nat} {vs : List Value} (h : OwnV w B e (.slice a n c) vs) (hne : vs ≠ []) : ∃ g, a = some ⟨g, 0, none⟩ ∧ n = vs.length ∧ B ≤ g ∧ g < w.heap.size ∧ (∀ j u, vs[j]? = some u → w.cell? ⟨g, j, none⟩ = some u) ∧ ∀ o, w.frozen? ⟨g, o, none⟩ = false := by
  rcases h.2 with ⟨hv, hn⟩ | ⟨g, cap, cur, hv, hB, hg, hc, _, hsz, ht⟩
  · exact absurd (List.length_eq_zero_iff.1 hn) hne
  · simp only [Value.slice.injEq] at hv
    refine ⟨g, hv.1, hv.2.1, hB, blk_lt hg, fun j u hu => ?_, blk_frozen hg⟩
    rw [blk_cell hg]
    have hj : j < vs.length := (List.getElem?_eq_some_iff.1 hu).1
    rw [Nat.mul_one] at ht
    rw [← ht, List.getElem?_take, if_pos hj] at hu
    simpa using hu

theorem ownV_set {w : World} {B : Nat} {e : TypeId} {g n c : Nat} {vs : List Value} (h : OwnV w B e (.slice (some ⟨g, 0, none⟩) n c) vs) (j : Nat) (u : Value) : OwnV (w.setCell ⟨g, j, none⟩ u) B e (.slice (some ⟨g, 0, none⟩) n c) (vs.set j u) := by
  refine ⟨by simp, ?_⟩
  rcases h.2 with ⟨hv, hn⟩ | ⟨g', cap, cur, hv, hB, hg, hc, hm, hsz, ht⟩
  · simp at hv
  · simp only [Value.slice.injEq, Option.some.injEq, Addr.mk.injEq, and_true] at hv
    obtain ⟨rfl, rfl, rfl⟩ := hv
    refine .inr ⟨_, _, _, by rw [List.length_set], hB, set_same hg j u, by rw [List.length_set]; exact hc, hm, by simpa using hsz, ?_⟩
    rw [Array.toList_setIfInBounds, List.length_set, List.take_set, ht]

theorem ownV_take {w : World} {B : Nat} {e : TypeId} {g n c k : Nat} {vs : List Value} (h : OwnV w B e (.slice (some ⟨g, 0, none⟩) n c) vs) (hk : k ≤ vs.length) : OwnV w B e (.slice (some ⟨g, 0, none⟩) k c) (vs.take k) := by
  have hl : (vs.take k).length = k := by rw [List.length_take]; omega
  refine ⟨by simp, ?_⟩
  rcases h.2 with ⟨hv, hn⟩ | ⟨g', cap, cur, hv, hB, hg, hc, hm, hsz, ht⟩
  · simp at hv
  · simp only [Value.slice.injEq, Option.some.injEq, Addr.mk.injEq, and_true] at hv
    obtain ⟨rfl, rfl, rfl⟩ := hv
    refine .inr ⟨_, _, cur, by rw [hl], hB, hg, by rw [hl]; omega, hm, hsz, ?_⟩
    rw [hl, Nat.mul_one]
    rw [Nat.mul_one] at ht
    rw [← ht, List.take_take, Nat.min_eq_left hk]

theorem ownV_upd {w w' : World} {B : Nat} {e : TypeId} {v : Value} {vs : List Value} {S : List Nat} (h : OwnV w B e v vs) (u : Upd S w w') (hS : ∀ x ∈ S, x < B ∨ w.heap.size ≤ x) : OwnV w' B e v vs := by
  refine ⟨h.1, h.2.imp id fun ⟨g, cap, cur, hv, hB, hg, r⟩ => ⟨g, cap, cur, hv, hB, u.blk hg fun hm => ?_, r⟩⟩
  have := blk_lt hg
  rcases hS g hm with q | q <;> omega

theorem ownV_grown {w w' : World} {B : Nat} {e : TypeId} {v v2 : Value} {vs vs2 : List Value} {e2 : TypeId} {B2 : Nat} (h : OwnV w B e v vs) (h2 : OwnV w B2 e2 v2 vs2) (hg : w.grownBy w' v2.ownBlock) (hne : ∀ x ∈ v.ownBlock, ∀ y ∈ v2.ownBlock, x ≠ y) : OwnV w' B e v vs := by
  refine ⟨h.1, h.2.imp id fun ⟨g, cap, cur, hv, hB, hgg, r⟩ => ⟨g, cap, cur, hv, hB, ?_, r⟩⟩
  rw [hg.block g (blk_lt hgg) ?_]
  · exact hgg
  · intro q
    exact hne g (by rw [hv]; rfl) g q.symm rfl

theorem below_ownV {w0 w w' : World} {B : Nat} {e : TypeId} {v : Value} {vs : List Value} (h : Below B w0 w) (ho : OwnV w B e v vs) (hg : w.grownBy w' v.ownBlock) (hB : B ≤ w.heap.size) : Below B w0 w' :=
  below_grown_own h ho hg hB

/-- append(out, x), x of one cell. -/
theorem wpl_appendV {P : Program} {ops : Array Oper} {rest : List Oper} {o : Oper} {a : Act} {Q : Exit → Act → World → Prop} {w : World} (hgd : o.guard = none) (s x : Operand) {t e : TypeId} {z : Value} {bytes : Nat}
    (ho : o.op = .call { callee := .builtin .append, args := #[s, x], argTypes := #[t, t] })
    (hel : ElemOf P t e z 1 bytes) (hzs : z.cells.size = 1) (hb8 : bytes ≤ 128) (base : Nat) (v : Value) (vs : List Value) (hs : a.eval s = v) (hown : OwnV w base e v vs)
    (u : Value) (hx : a.eval x = .slice (some ⟨w.heap.size, 0, none⟩) 1 1) (h1 : u.oneCell' = true) (hn : vs.length < 1000000000000) (hbase : base ≤ w.heap.size)
    (h : ∀ v' w', OwnV w' base e v' (vs ++ [u]) → w.grownBy w' v.ownBlock → wpList P ops Q rest (a.put o.dst v') w') : wpList P ops Q (o :: rest) a (w.alloc (.cells #[u] e)) :=
  wpl_append1 hgd s x ho hel hzs hb8 base v vs.length vs hs hown u hx h1 hn hbase fun v' w' h2 h3 => h v' w' (by unfold OwnV; simpa using h2) h3

/-- make([]T, n) of one-cell zero values. -/
theorem wpl_makeV {P : Program} {ops : Array Oper} {rest : List Oper} {o : Oper} {a : Act} {Q : Exit → Act → World → Prop} {w : World} (hgd : o.guard = none) (l c : Operand) {t e : TypeId} {z : Value} {bytes : Nat}
    (ho : o.op = Op.makeSlice t l c) (hel : ElemOf P t e z 1 bytes) (hzs : z.cells = #[z]) (hb8 : bytes ≤ 128) (n : Nat) (hl : a.eval l = .int .i64 n) (hc : a.eval c = .int .i64 n) (hn : n < 1000000000000)
    (h : ∀ w', OwnV w' w.heap.size e (.slice (some ⟨w.heap.size, 0, none⟩) n n) (List.replicate n z) → Below w.heap.size w w' → wpList P ops Q rest (a.put o.dst (.slice (some ⟨w.heap.size, 0, none⟩) n n)) w') : wpList P ops Q (o :: rest) a w := by
  obtain ⟨ht, i, hi, hz, hsz, hby⟩ := hel
  refine wpList_make_full w hgd l c t ho w.heap.size e i z 1 ht hi hz hsz .i64 .i64 n n n hl hc rfl rfl ?_ ?_ (Nat.le_refl _) ?_
  · rw [hby]
    have : bytes * n ≤ 128 * 1000000000000 := Nat.mul_le_mul hb8 (by omega)
    omega
  · unfold maxLen; omega
  · intro w' ho' hg'
    have e1 : (madeCells z.cells (n * 1)).toList = List.replicate n z := by
      rw [hzs, toList_madeCells_one]; simp
    rw [e1] at ho'
    have ho2 : OwnV w' w.heap.size e (.slice (some ⟨w.heap.size, 0, none⟩) n n) (List.replicate n z) := by unfold OwnV; simpa using ho'
    exact h w' ho2 ⟨hg'.os, hg'.tape, hg'.output, hg'.size, fun j hj => hg'.block j hj (by simp)⟩

theorem sl_of_ownV {w : World} {B : Nat} {e : TypeId} {k : IntKind} {v : Value} {xs : List Int} {A : List Nat} (h : OwnV w B e v (xs.map (Value.int k))) (hA : ∀ x ∈ A, x < B) : Sl w A k v xs := sl_of_new (slNew_of_own (ownI_iff.2 h)) hA

end Go.Proofs.Ytaciapjohakpgaa

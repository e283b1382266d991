/- Slices of whole numbers that can be read, and those that lie in new memory; make and copy, whole appends. No condition but that fewer than 10^12 elements stand in a slice. -/
import Derived.Test.YtmiaghbakdapbaaHeap
import Derived.Test.YtmiaghbakdapbaaOpen
import Derived.OwnWalk
import Derived.Laws.CopyOwn
import Derived.Lib.Hide
set_option linter.unusedVariables false
namespace Go.Proofs.Ytmiaghbakdapbaa
open Go.ChangeShapes Go.WideShapes Go.ChangeAt Go.RowKit

/-- v is a slice that reads as xs, in none of the blocks on the list. -/
def Sl (w : World) (A : List Nat) (k : IntKind) (v : Value) (xs : List Int) : Prop :=
  ∃ a cap, v = .slice a xs.length cap ∧ xs.length ≤ cap ∧ (xs = [] ∨ ∃ b off, a = some ⟨b, off, none⟩ ∧ b < w.heap.size ∧ b ∉ A ∧ ∀ j (hj : j < xs.length), w.cell? ⟨b, off + j, none⟩ = some (.int k xs[j]))

/-- v is a slice that reads as xs, in a block from base on, at its begin. -/
def SlNew (w : World) (base : Nat) (e : TypeId) (k : IntKind) (v : Value) (xs : List Int) : Prop :=
  ∃ a cap, v = .slice a xs.length cap ∧ xs.length ≤ cap ∧ (xs = [] ∨ ∃ g, a = some ⟨g, 0, none⟩ ∧ base ≤ g ∧ HasI w g e k xs)

theorem slNew_of_own {w : World} {B : Nat} {e : TypeId} {k : IntKind} {v : Value} {xs : List Int} (h : OwnI w B e k v xs) : SlNew w B e k v xs := by
  rcases h.2 with ⟨rfl, hn⟩ | ⟨g, cap, cur, rfl, hB, hg, hc, _, hsz, ht⟩
  · have : xs = [] := List.length_eq_zero_iff.1 hn
    subst this
    exact ⟨none, 0, rfl, by simp, .inl rfl⟩
  · exact ⟨_, cap, rfl, hc, .inr ⟨g, rfl, hB, cur, hg, by simpa using ht⟩⟩

theorem sl_of_new {w : World} {B : Nat} {e : TypeId} {k : IntKind} {v : Value} {xs : List Int} {A : List Nat} (h : SlNew w B e k v xs) (hA : ∀ x ∈ A, x < B) : Sl w A k v xs := by
  obtain ⟨a, cap, hv, hc, hx⟩ := h
  refine ⟨a, cap, hv, hc, hx.imp id fun ⟨g, ha, hB, hg⟩ => ⟨g, 0, ha, ?_, fun hm => by have := hA g hm; omega, fun j hj => by simpa using hasI_cell hg j hj⟩⟩
  obtain ⟨cur, hb, _⟩ := hg
  exact blk_lt hb

theorem sl_of_row {w : World} {k : IntKind} {a : Option Addr} {len cap : Nat} {zs : List Int} (h : IsRow k w a len cap zs) : Sl w [] k (.slice a len cap) (zs.take len) := by
  rcases h with ⟨rfl, rfl, rfl, rfl⟩ | ⟨x, rfl, hl, hm, hz, hc, _⟩
  · exact ⟨none, 0, rfl, by simp, .inl (by simp)⟩
  · have hlen : (zs.take len).length = len := by rw [List.length_take]; omega
    refine ⟨some x, cap, by rw [hlen], by rw [hlen]; exact hl, ?_⟩
    by_cases h0 : len = 0
    · left; subst h0; simp
    · right
      obtain ⟨b, off, rfl, hcell⟩ := ints_at hc (by omega)
      refine ⟨b, off, rfl, ?_, by simp, fun j hj => ?_⟩
      · have := hcell 0 (by omega)
        rcases Nat.lt_or_ge b w.heap.size with q | q
        · exact q
        · simp [World.cell?, Array.getElem?_eq_none q] at this
      · rw [hlen] at hj
        rw [hcell j (by omega)]
        simp [List.getD, show j < zs.length by omega]

theorem row_opens {k : IntKind} {w : World} {a : Option Addr} {len cap : Nat} {zs : List Int} (hr : IsRow k w a len cap zs) : ∃ l : List Int, len = l.length ∧ Sl w [] k (.slice a len cap) l ∧ ∀ x ∈ l, (Lit.int k x).wf = true := by
  refine ⟨zs.take len, ?_, sl_of_row hr, fun x hx => ?_⟩
  · rcases hr with ⟨_, rfl, _, rfl⟩ | ⟨x, _, hl, _, hz, _⟩
    · rfl
    · rw [List.length_take]; omega
  · rcases hr with ⟨_, rfl, _, rfl⟩ | ⟨y, _, hl, _, hz, _, hw⟩
    · simp at hx
    · exact hw x (List.mem_of_mem_take hx)

/-- The slice reads on where nothing is written in its block; and it avoids what is new. -/
theorem sl_upd {w w' : World} {A A' : List Nat} {k : IntKind} {v : Value} {xs : List Int} {S : List Nat} (h : Sl w A k v xs) (u : Upd S w w') (hS : ∀ x ∈ S, x ∈ A ∨ w.heap.size ≤ x) (hA : ∀ x ∈ A', x ∈ A ∨ w.heap.size ≤ x) : Sl w' A' k v xs := by
  obtain ⟨a, cap, hv, hc, hx⟩ := h
  refine ⟨a, cap, hv, hc, hx.imp id fun ⟨b, off, ha, hb, hn, hcell⟩ => ⟨b, off, ha, Nat.lt_of_lt_of_le hb u.size, fun hm => ?_, fun j hj => ?_⟩⟩
  · rcases hA b hm with q | q
    · exact hn q
    · omega
  · rw [World.cell?_of_block (w := w) (u.block b hb fun hm => by
      rcases hS b hm with q | q
      · exact hn q
      · omega)]
    exact hcell j hj

/-- Where a slice's elements stand. -/
theorem sl_at {w : World} {A : List Nat} {k : IntKind} {a : Option Addr} {n c : Nat} {xs : List Int} (h : Sl w A k (.slice a n c) xs) (hne : xs ≠ []) : ∃ b off, a = some ⟨b, off, none⟩ ∧ b < w.heap.size ∧ b ∉ A ∧ ∀ j y, xs[j]? = some y → w.cell? ⟨b, off + j, none⟩ = some (.int k y) := by
  obtain ⟨a', cap', hv, _, hx⟩ := h
  simp only [Value.slice.injEq] at hv
  obtain ⟨rfl, _, _⟩ := hv
  obtain ⟨b, off, ha, hb, hn, hc⟩ := hx.resolve_left hne
  refine ⟨b, off, ha, hb, hn, fun j y hy => ?_⟩
  obtain ⟨h1, h2⟩ := List.getElem?_eq_some_iff.1 hy
  rw [hc j h1, h2]

theorem sl_len {w : World} {A : List Nat} {k : IntKind} {a : Option Addr} {n c : Nat} {xs : List Int} (h : Sl w A k (.slice a n c) xs) : n = xs.length := by
  obtain ⟨a', cap', hv, _, hx⟩ := h
  simp only [Value.slice.injEq] at hv
  exact hv.2.1

theorem sl_below {w w' : World} {A : List Nat} {k : IntKind} {v : Value} {xs : List Int} (h : Sl w A k v xs) (u : Below w.heap.size w w') : Sl w' A k v xs := sl_upd (S := []) h (Upd.of_below u) (by simp) (fun x hx => .inl hx)

theorem sl_drewN {w : World} {A : List Nat} {k : IntKind} {v : Value} {xs : List Int} (h : Sl w A k v xs) (n : Nat) : Sl (w.drewN n) A k v xs := h

/-- A slice in a block of the list's: what is known when that block isn't written. -/
theorem slNew_upd {w w' : World} {B : Nat} {e : TypeId} {k : IntKind} {v : Value} {xs : List Int} {S : List Nat} (h : SlNew w B e k v xs) (u : Upd S w w') (hS : ∀ x ∈ S, x < B) : SlNew w' B e k v xs := by
  obtain ⟨a, cap, hv, hc, hx⟩ := h
  exact ⟨a, cap, hv, hc, hx.imp id fun ⟨g, ha, hB, hg⟩ => ⟨g, ha, hB, hasI_upd hg u fun hm => by have := hS g hm; omega⟩⟩

theorem slNew_set {w : World} {B : Nat} {e : TypeId} {k : IntKind} {g n c : Nat} {xs : List Int} (h : SlNew w B e k (.slice (some ⟨g, 0, none⟩) n c) xs) (hne : xs ≠ []) (j : Nat) (x : Int) : SlNew (w.setCell ⟨g, j, none⟩ (.int k x)) B e k (.slice (some ⟨g, 0, none⟩) n c) (xs.set j x) := by
  obtain ⟨a, cap, hv, hc, hx⟩ := h
  simp only [Value.slice.injEq] at hv
  obtain ⟨rfl, rfl, rfl⟩ := hv
  obtain ⟨g', ha, hB, hg⟩ := hx.resolve_left hne
  cases ha
  exact ⟨_, c, by rw [List.length_set], by rw [List.length_set]; exact hc, .inr ⟨g, rfl, hB, hasI_set hg j x⟩⟩

theorem take_self {α : Type} (l : List α) (n : Nat) (h : n = l.length) : l.take n = l := by subst h; simp

/-- append(fresh, xs...), fresh a new empty slice that is not nil. -/
theorem wpl_append_all {P : Program} {ops : Array Oper} {rest : List Oper} {o : Oper} {a : Act} {Q : Exit → Act → World → Prop} {w : World} (hgd : o.guard = none) (s x : Operand) {t e : TypeId} {k : IntKind} {bytes : Nat}
    (ho : o.op = .call { callee := .builtin .append, args := #[s, x], argTypes := #[t, t] })
    (hel : ElemOf P t e (.int k 0) 1 bytes) (hb8 : bytes ≤ 128) (base : Nat) (v : Value) (xs ys : List Int) (hs : a.eval s = v) (hown : OwnI w base e k v xs)
    (vx : Value) (hx : a.eval x = vx) {A : List Nat} (hsl : Sl w A k vx ys) (hne : ∃ ad m c, vx = .slice (some ad) m c) (hn : xs.length + ys.length < 1000000000000) (hbase : base ≤ w.heap.size)
    (h : ∀ v' w', OwnI w' base e k v' (xs ++ ys) → w.grownBy w' v.ownBlock → wpList P ops Q rest (a.put o.dst v') w') : wpList P ops Q (o :: rest) a w := by
  obtain ⟨ht, i, hi, hz, hsz, hby⟩ := hel
  obtain ⟨a0, cap, hv, hc, hcell⟩ := hsl
  obtain ⟨ad, m, c, hv2⟩ := hne
  rw [hv2] at hv
  simp only [Value.slice.injEq] at hv
  obtain ⟨rfl, rfl, rfl⟩ := hv
  refine wpList_append_own _ hgd s x t ho base e i (.int k 0) 1 bytes ht hi hz hsz hby rfl (by decide) v xs.length (xs.map (Value.int k)) hs hown ad ys.length c (ys.map (Value.int k)) (by rw [hx, hv2]) (by simp) ?_ (ints_oneCell k ys) ?_ ?_ hbase ?_
  · intro j q hq
    rcases hcell with rfl | ⟨b, off, ha, _, _, hcl⟩
    · simp at hq
    · cases ha
      have hj : j < ys.length := by
        have := (List.getElem?_eq_some_iff.1 hq).1
        simpa using this
      rw [Go.WideShapes.add_plain, hcl j hj]
      simpa [hj] using hq
  · unfold maxLen; omega
  · have : (xs.length + ys.length) * bytes ≤ 1000000000000 * 128 := Nat.mul_le_mul (by omega) hb8
    omega
  · intro v' w' h2 h3 _
    exact h v' w' (by unfold OwnI; simpa using h2) h3

/-- make([]T, n) of whole numbers. -/
theorem wpl_make {P : Program} {ops : Array Oper} {rest : List Oper} {o : Oper} {a : Act} {Q : Exit → Act → World → Prop} {w : World} (hgd : o.guard = none) (l c : Operand) {t e : TypeId} {k : IntKind} {bytes : Nat}
    (ho : o.op = Op.makeSlice t l c) (hel : ElemOf P t e (.int k 0) 1 bytes) (hb8 : bytes ≤ 128) (n : Nat) (hl : a.eval l = .int .i64 n) (hc : a.eval c = .int .i64 n) (hn : n < 1000000000000)
    (h : ∀ w', OwnI w' w.heap.size e k (.slice (some ⟨w.heap.size, 0, none⟩) n n) (List.replicate n 0) → HasI w' w.heap.size e k (List.replicate n 0) → Below w.heap.size w w' → wpList P ops Q rest (a.put o.dst (.slice (some ⟨w.heap.size, 0, none⟩) n n)) w') : wpList P ops Q (o :: rest) a w := by
  obtain ⟨ht, i, hi, hz, hsz, hby⟩ := hel
  refine wpList_make_full w hgd l c t ho w.heap.size e i (.int k 0) 1 ht hi hz hsz .i64 .i64 n n n hl hc rfl rfl ?_ ?_ (Nat.le_refl _) ?_
  · rw [hby]
    have : bytes * n ≤ 128 * 1000000000000 := Nat.mul_le_mul hb8 (by omega)
    omega
  · unfold maxLen; omega
  · intro w' ho' hg'
    have e1 : (madeCells (Value.int k 0).cells (n * 1)).toList = (List.replicate n (0 : Int)).map (Value.int k) := by
      rw [show (Value.int k 0).cells = #[Value.int k 0] from rfl, toList_madeCells_one]; simp
    rw [e1] at ho'
    have ho2 : OwnI w' w.heap.size e k (.slice (some ⟨w.heap.size, 0, none⟩) n n) (List.replicate n 0) := by unfold OwnI; simpa using ho'
    refine h w' ho2 ?_ ⟨hg'.os, hg'.tape, hg'.output, hg'.size, fun j hj => hg'.block j hj (by simp)⟩
    rcases ho2.2 with ⟨hv, _⟩ | ⟨g, cap, cur, hv, _, hg, _, _, _, ht2⟩
    · simp at hv
    · simp only [Value.slice.injEq, Option.some.injEq, Addr.mk.injEq, and_true] at hv
      obtain ⟨rfl, _⟩ := hv
      exact ⟨cur, hg, by simpa using ht2⟩

theorem cells_some {w : World} {a : Addr} {n : Nat} {vs : List Value} (h : w.cells? 0 a n = some vs) : vs.length = n ∧ ∀ j, j < n → w.cell? (a.add j) = vs[j]? := by
  unfold World.cells? at h
  rw [if_pos (Nat.zero_le _)] at h
  have hl := Go.mapM_some_length h
  refine ⟨by simpa using hl, fun j hj => ?_⟩
  have := Go.mapM_some_get h j j (by simp [hj])
  exact this

/-- A slice of structs that came in: where its rows stand. -/
theorem rows_at {ks : List Kd} {w : World} {v : Value} {len : Nat} (h : IsRows ks w v len) (hn : 0 < len) (hk : 0 < ks.length) : ∃ b off cap, v = .slice (some ⟨b, off, none⟩) len cap ∧ b < w.heap.size ∧ ∀ i, i < len → ∃ vs, Scal w ks vs ∧ ∀ j, j < ks.length → w.cell? ⟨b, off + i * ks.length + j, none⟩ = vs[j]? := by
  rcases h with ⟨_, h0⟩ | ⟨a, cap, hv, hl, hm, hc⟩
  · omega
  · obtain ⟨vs0, h0, _⟩ := hc 0 hn
    obtain ⟨b, off, spot⟩ := a
    have hs0 := (cells_some h0).2 0 hk
    have hsome : ∃ u, vs0[0]? = some u := ⟨vs0[0]'(by rw [(cells_some h0).1]; exact hk), by simp⟩
    obtain ⟨u, hu⟩ := hsome
    rw [hu] at hs0
    have hspot : spot = none := by simpa [Addr.add] using World.cell?_spot hs0
    subst hspot
    refine ⟨b, off, cap, hv, ?_, fun i hi => ?_⟩
    · rcases Nat.lt_or_ge b w.heap.size with q | q
      · exact q
      · simp [World.cell?, Addr.add, Array.getElem?_eq_none q] at hs0
    · obtain ⟨vs, h1, h2⟩ := hc i hi
      refine ⟨vs, h2, fun j hj => ?_⟩
      have := (cells_some h1).2 j hj
      rw [Go.WideShapes.add_plain, Go.WideShapes.add_plain] at this
      exact this

theorem scal4 {w : World} {a b c d : Kd} {vs : List Value} (h : Scal w [a, b, c, d] vs) : ∃ p q r s, vs = [p, q, r, s] ∧ a.ok w p ∧ b.ok w q ∧ c.ok w r ∧ d.ok w s := by
  obtain ⟨p, vs1, rfl, hp, h1⟩ := scal_cons h
  obtain ⟨q, vs2, rfl, hq, h2⟩ := scal_cons h1
  obtain ⟨r, vs3, rfl, hr, h3⟩ := scal_cons h2
  obtain ⟨s, vs4, rfl, hs, h4⟩ := scal_cons h3
  obtain rfl := scal_nil h4
  exact ⟨p, q, r, s, rfl, hp, hq, hr, hs⟩

theorem scal2 {w : World} {a b : Kd} {vs : List Value} (h : Scal w [a, b] vs) : ∃ p q, vs = [p, q] ∧ a.ok w p ∧ b.ok w q := by
  obtain ⟨p, vs1, rfl, hp, h1⟩ := scal_cons h
  obtain ⟨q, vs2, rfl, hq, h2⟩ := scal_cons h1
  obtain rfl := scal_nil h2
  exact ⟨p, q, rfl, hp, hq⟩

/-- copy(dst, src) of whole numbers over all of a row of the call's own, of the same length. -/
theorem wpl_copy {P : Program} {ops : Array Oper} {rest : List Oper} {o : Oper} {a : Act} {Q : Exit → Act → World → Prop} {w0 w : World} (hgd : o.guard = none) (d s : Operand) {t e : TypeId} {k : IntKind} {bytes : Nat}
    (ho : o.op = .call { callee := .builtin .copy, args := #[d, s], argTypes := #[t, t] }) (hel : ElemOf P t e (.int k 0) 1 bytes) (B g : Nat) (zs xs : List Int)
    (vd : Value) (hd : a.eval d = vd) (vs : Value) (hs : a.eval s = vs) (hz : zs.length = xs.length) (hvd : vd = .slice (some ⟨g, 0, none⟩) zs.length zs.length) {sa : Option Addr} (hvs : ∃ c, vs = .slice sa xs.length c)
    (hg : HasI w g e k zs) (hsrc : xs = [] ∨ ∃ ad : Addr, sa = some ad ∧ ∀ j (hj : j < xs.length), w.cell? (ad.add j) = some (.int k xs[j])) (hb : Below B w0 w) (hBg : B ≤ g)
    (h : ∀ w', Hid (HasI w' g e k xs) → Below B w0 w' → wpList P ops Q rest (a.put o.dst (goInt xs.length)) w') : wpList P ops Q (o :: rest) a w := by
  obtain ⟨ht, i, hi, _, hsz, _⟩ := hel
  obtain ⟨c, hvs⟩ := hvs
  obtain ⟨cur, hcur, htake⟩ := hg
  have hlen : xs.length ≤ cur.toList.length := by
    have := congrArg List.length htake
    rw [List.length_take, List.length_map] at this
    omega
  refine wpList_copy_splice hgd d s t t ho e ht (by simp [hi, hsz]) (some ⟨g, 0, none⟩) sa zs.length zs.length xs.length c (by rw [hd, hvd]) (by rw [hs, hvs]) g 0 cur.toList e (by simpa using hcur) (xs.map (Value.int k)) (by rw [List.length_map, hz]; simp) ?_ (by simpa using hlen) (ints_oneCell k xs) B w0 hb hBg ?_
  · intro hp
    refine ⟨rfl, ?_⟩
    rcases hsrc with rfl | ⟨ad, ha, hc⟩
    · simp at hp
    · refine ⟨ad, ha, fun j v hv => ?_⟩
      have hj : j < xs.length := by
        have := (List.getElem?_eq_some_iff.1 hv).1
        simpa using this
      rw [hc j hj]
      simpa [hj] using hv
  · intro w' hw hb'
    have h2 : HasI w' g e k xs := ⟨_, hw.out, by unfold splice; simp⟩
    have := h w' (Lib.hid h2) hb'
    simpa using this

end Go.Proofs.Ytmiaghbakdapbaa

/- Slices of the call's own as parts of memory: of whatever size of element, beginning wherever in their block; made, read, set, cut, grown. No condition but that fewer than 10^12 cells stand in a slice. -/
import Derived.Test.YtmiaghbakdapbaaHas
set_option linter.unusedVariables false
namespace Go.Proofs.Ytmiaghbakdapbaa
open Go.ChangeShapes Go.WideShapes Go.ChangeAt Go.RowKit

/-- A slice value of n elements that owns the cells xs. -/
def Own (w : World) (e : TypeId) (size : Nat) (v : Value) (n : Nat) (xs : List Value) : Prop :=
  xs.length = n * size ∧ ((v = .slice none 0 0 ∧ n = 0) ∨ ∃ g off cap cur, v = .slice (some ⟨g, off, none⟩) n cap ∧ w.heap[g]? = some (.cells cur e (0, 0)) ∧ n ≤ cap ∧ cap ≤ maxLen ∧ off + cap * size ≤ cur.size ∧ (cur.toList.drop off).take (n * size) = xs)

theorem own_of_row {w : World} {B : Nat} {e : TypeId} {size : Nat} {v : Value} {n : Nat} {xs : List Value} (h : w.ownsRow B e size v n xs) : Own w e size v n xs :=
  ⟨h.1, h.2.imp id fun ⟨g, cap, cur, hv, _, hg, h1, h2, h3, h4⟩ => ⟨g, 0, cap, cur, hv, hg, h1, h2, by omega, by simpa using h4⟩⟩

theorem own_blocks {w : World} {e : TypeId} {size : Nat} {v : Value} {n : Nat} {xs : List Value} (h : Own w e size v n xs) : ∀ k ∈ v.ownBlock.toList, k < w.heap.size := by
  intro k hk
  rcases h.2 with ⟨hv, _⟩ | ⟨g, off, cap, cur, hv, hg, _⟩
  · rw [hv] at hk; simp [Value.ownBlock] at hk
  · rw [hv] at hk; simp [Value.ownBlock] at hk; subst hk; exact blk_lt hg

theorem own_heap {w w' : World} {e : TypeId} {size : Nat} {v : Value} {n : Nat} {xs : List Value} (h : Own w e size v n xs) (hh : ∀ k ∈ v.ownBlock.toList, w'.heap[k]? = w.heap[k]?) : Own w' e size v n xs :=
  ⟨h.1, h.2.imp id fun ⟨g, off, cap, cur, hv, hg, r⟩ => ⟨g, off, cap, cur, hv, (hh g (by rw [hv]; simp [Value.ownBlock])).trans hg, r⟩⟩

def ownC (n0 : Nat) (e : TypeId) (size : Nat) (v : Value) (n : Nat) (xs : List Value) : Chunk n0 :=
  ⟨v.ownBlock.toList, false, fun w => Own w e size v n xs, fun _ _ h ho => own_heap ho fun k hk => h k (.inr hk)⟩

/-- Elements of one cell each. -/
abbrev ownV (n0 : Nat) (e : TypeId) (v : Value) (vs : List Value) : Chunk n0 := ownC n0 e 1 v vs.length vs
/-- Whole numbers. -/
abbrev ownN (n0 : Nat) (e : TypeId) (k : IntKind) (v : Value) (xs : List Int) : Chunk n0 := ownC n0 e 1 v xs.length (xs.map (Value.int k))

theorem ownN_app (n0 : Nat) (e : TypeId) (k : IntKind) (v : Value) (xs : List Int) (y : Int) : ownC n0 e 1 v (xs.length + 1) (xs.map (Value.int k) ++ [Value.int k y]) = ownN n0 e k v (xs ++ [y]) := by
  show _ = ownC n0 e 1 v (xs ++ [y]).length ((xs ++ [y]).map (Value.int k))
  rw [List.length_append, List.map_append]; rfl

theorem own_is {w : World} {e : TypeId} {size : Nat} {v : Value} {n : Nat} {xs : List Value} (h : Own w e size v n xs) : ∃ a c, v = .slice a n c := by
  rcases h.2 with ⟨hv, hn⟩ | ⟨g, off, cap, cur, hv, _⟩
  · exact ⟨none, 0, by rw [hv, hn]⟩
  · exact ⟨_, _, hv⟩

/-- Where its cells stand. -/
theorem own_at {w : World} {e : TypeId} {size : Nat} {v : Value} {n : Nat} {xs : List Value} (h : Own w e size v n xs) (hne : 0 < n) : ∃ g off cap, v = .slice (some ⟨g, off, none⟩) n cap ∧ n ≤ cap ∧ cap ≤ maxLen ∧ g < w.heap.size ∧ (∀ (j : Nat) u, xs[j]? = some u → w.cell? ⟨g, off + j, none⟩ = some u) ∧ ∀ o, w.frozen? ⟨g, o, none⟩ = false := by
  rcases h.2 with ⟨_, hn⟩ | ⟨g, off, cap, cur, hv, hg, hc, hm, hsz, ht⟩
  · omega
  · refine ⟨g, off, cap, hv, hc, hm, blk_lt hg, fun j u hu => ?_, blk_frozen hg⟩
    rw [blk_cell hg]
    have hj : j < n * size := by rw [← h.1]; exact (List.getElem?_eq_some_iff.1 hu).1
    rw [← ht, List.getElem?_take, if_pos hj, List.getElem?_drop] at hu
    simpa using hu

theorem own_atV {w : World} {e : TypeId} {size : Nat} {a : Option Addr} {n m c : Nat} {xs : List Value} (h : Own w e size (.slice a m c) n xs) (hne : 0 < n) : ∃ g off, a = some ⟨g, off, none⟩ ∧ n ≤ c ∧ c ≤ maxLen ∧ g < w.heap.size ∧ (∀ (j : Nat) u, xs[j]? = some u → w.cell? ⟨g, off + j, none⟩ = some u) ∧ ∀ o, w.frozen? ⟨g, o, none⟩ = false := by
  obtain ⟨g, off, cap, hv, h1, h2, h3, h4, h5⟩ := own_at h hne
  simp only [Value.slice.injEq] at hv
  obtain ⟨rfl, rfl, rfl⟩ := hv
  exact ⟨g, off, rfl, h1, h2, h3, h4, h5⟩

theorem own_set {w : World} {e : TypeId} {size g off m c n : Nat} {xs : List Value} (h : Own w e size (.slice (some ⟨g, off, none⟩) m c) n xs) (j : Nat) (u : Value) (hj : j < n * size) : Own (w.setCell ⟨g, off + j, none⟩ u) e size (.slice (some ⟨g, off, none⟩) m c) n (xs.set j u) := by
  refine ⟨by simpa using h.1, ?_⟩
  rcases h.2 with ⟨hv, hn⟩ | ⟨g', off', cap, cur, hv, hg, hc, hm, hsz, ht⟩
  · simp at hv
  · simp only [Value.slice.injEq, Option.some.injEq, Addr.mk.injEq, and_true] at hv
    obtain ⟨⟨rfl, rfl⟩, rfl, rfl⟩ := hv
    refine .inr ⟨_, _, _, _, rfl, set_same hg (off + j) u, hc, hm, by simpa using hsz, ?_⟩
    rw [Array.toList_setIfInBounds, ← ht, List.drop_set, if_neg (by omega), List.take_set]
    congr 1
    omega

theorem own_take {w : World} {e : TypeId} {size g off m c n k : Nat} {xs : List Value} (h : Own w e size (.slice (some ⟨g, off, none⟩) m c) n xs) (hk : k ≤ n) : Own w e size (.slice (some ⟨g, off, none⟩) k c) k (xs.take (k * size)) := by
  have hks := Nat.mul_le_mul_right size hk
  refine ⟨by rw [List.length_take, h.1]; omega, ?_⟩
  rcases h.2 with ⟨hv, hn⟩ | ⟨g', off', cap, cur, hv, hg, hc, hm, hsz, ht⟩
  · simp at hv
  · simp only [Value.slice.injEq, Option.some.injEq, Addr.mk.injEq, and_true] at hv
    obtain ⟨⟨rfl, rfl⟩, rfl, rfl⟩ := hv
    refine .inr ⟨_, _, _, cur, rfl, hg, by omega, hm, hsz, ?_⟩
    rw [← ht, List.take_take, Nat.min_eq_left hks]

theorem own_drop {w : World} {e : TypeId} {size g off m c n k : Nat} {xs : List Value} (h : Own w e size (.slice (some ⟨g, off, none⟩) m c) n xs) (hk : k ≤ n) : Own w e size (.slice (some ⟨g, off + k * size, none⟩) (n - k) (c - k)) (n - k) (xs.drop (k * size)) := by
  have hks := Nat.mul_le_mul_right size hk
  refine ⟨by rw [List.length_drop, h.1, Nat.sub_mul], ?_⟩
  rcases h.2 with ⟨hv, hn⟩ | ⟨g', off', cap, cur, hv, hg, hc, hm, hsz, ht⟩
  · simp at hv
  · simp only [Value.slice.injEq, Option.some.injEq, Addr.mk.injEq, and_true] at hv
    obtain ⟨⟨rfl, rfl⟩, rfl, rfl⟩ := hv
    have hcs := Nat.mul_le_mul_right size hc
    refine .inr ⟨_, _, _, cur, rfl, hg, by omega, by omega, by rw [Nat.sub_mul]; omega, ?_⟩
    rw [← ht, List.drop_take, List.drop_drop, Nat.sub_mul]

/-- What append makes: the slice is in the block in which it was, or in a new one. -/
structure Appended (w w' : World) (v v' : Value) : Prop where
  upd : Upd v.ownBlock.toList w w'
  blocks : ∀ k ∈ v'.ownBlock.toList, k ∈ v.ownBlock.toList ∨ w.heap.size ≤ k

theorem run_appendG {P : Program} (w : World) (t ty e : TypeId) (i : TypeInfo) (z : Value) (size bytes : Nat) (ht : P.underlying t = some (.slice e)) (hi : P.info? e = some i) (hz : i.zero = some z)
    (hsize : i.size = size) (hby : i.bytes = bytes) (hzs : z.cells.size = size) (hsz : 0 < size)
    (v : Value) (n : Nat) (xs : List Value) (hown : Own w e size v n xs)
    (a : Addr) (m c : Nat) (news : List Value) (hl : news.length = m * size) (hnews : ∀ j u, news[j]? = some u → w.cell? (a.add j) = some u) (h1 : ∀ u ∈ news, u.oneCell' = true)
    (h63 : n + m ≤ maxLen) (hbytes : (n + m) * bytes ≤ 140737488355328) :
    ∃ v' w', (Builtin.append_ #[t, t] ty #[v, .slice (some a) m c]).run P w = .ok v' w' ∧ Own w' e size v' (n + m) (xs ++ news) ∧ Appended w w' v v' := by
  subst hsize
  subst hby
  have hsmall : n + m ≤ 9223372036854775807 := by simp only [maxLen] at h63; omega
  have hlen : (xs ++ news).length = (n + m) * i.size := by rw [List.length_append, hown.1, hl, Nat.add_mul]
  have grown : ∀ (old : Nat), old < n + m → ∀ v : Value,
      Own (w.drew.alloc (.cells (xs.toArray ++ news.toArray ++ Builtin.zeroCells z.cells (grownCap w (n + m) old e - (n + m))) e)) e i.size
        (.slice (some ⟨w.heap.size, 0, none⟩) (n + m) (grownCap w (n + m) old e)) (n + m) (xs ++ news) ∧
      Appended w (w.drew.alloc (.cells (xs.toArray ++ news.toArray ++ Builtin.zeroCells z.cells (grownCap w (n + m) old e - (n + m))) e)) v (.slice (some ⟨w.heap.size, 0, none⟩) (n + m) (grownCap w (n + m) old e)) := by
    intro old ho v
    have hge := grownCap_ge w (n + m) old e
    have hcm : grownCap w (n + m) old e ≤ maxLen := grownCap_le_maxLen w (n + m) old e h63
    refine ⟨⟨hlen, .inr ⟨w.heap.size, 0, _, _, rfl, heap_alloc_new w.drew _, hge, hcm, ?_, ?_⟩⟩, ⟨⟨rfl, rfl, rfl, by simp, fun k hk _ => Below.heap_alloc w.drew _ _ hk⟩, by simp [Value.ownBlock]⟩⟩
    · simp only [Array.size_append, List.size_toArray, size_zeroCells, hzs, hown.1, hl, ← Nat.add_mul]
      rw [Nat.zero_add]
      exact Nat.le_of_eq (by congr 1; omega)
    · simp only [Array.toList_append, List.append_assoc, List.drop_zero]
      rw [← List.append_assoc, ← hlen]
      exact List.take_left
  rcases hown.2 with ⟨rfl, rfl⟩ | ⟨g, off, cap, cur, rfl, hg, hnc, hcm, hcs, htake⟩
  · have hx : xs = [] := List.eq_nil_of_length_eq_zero (by simpa using hown.1)
    subst hx
    by_cases hm : m = 0
    · subst hm
      have hn : news = [] := List.eq_nil_of_length_eq_zero (by simpa using hl)
      subst hn
      refine ⟨.slice none 0 0, w, ?_, ⟨by simp, .inl ⟨rfl, rfl⟩⟩, ⟨Upd.refl _ _, by simp [Value.ownBlock]⟩⟩
      simp [Builtin.append_, run_underlying ht, sizeOf, typeInfo, hi, Builtin.lenOf, Builtin.firstCells, loadCells, loadCellsFrom]
    · have hr := run_append_nil (P := P) w t ty e i z ht hi hz a m c news hl hnews (by omega) (by omega) (by have hb := hbytes; simp only [Nat.zero_add] at hb; omega)
      have hgr := grown 0 (by omega) (.slice none 0 0)
      simp only [Nat.zero_add, List.nil_append, Array.empty_append] at hgr ⊢
      exact ⟨_, _, hr, hgr.1, hgr.2⟩
  · have hlx : ((cur.toList.drop off).take (n * i.size)).length = n * i.size := by rw [htake, hown.1]
    by_cases hroom : n + m ≤ cap
    · have hmul := Nat.mul_le_mul_right i.size hroom
      rw [Nat.add_mul] at hmul
      have hfit : off + n * i.size + news.length ≤ cur.size := by rw [hl]; omega
      have hf := run_firstCells_some (P := P) w i.size m a m c news hl hnews
      have hst := run_storeCells_at P g (off + n * i.size) e news 0 cur w hg (by simpa using hfit) h1
      simp only [Nat.add_zero] at hst
      have hr : (Builtin.append_ #[t, t] ty #[.slice (some ⟨g, off, none⟩) n cap, .slice (some a) m c]).run P w = .ok (.slice (some ⟨g, off, none⟩) (n + m) cap) (w.setRow g (cur.toList.take (off + n * i.size) ++ news ++ cur.toList.drop (off + n * i.size + news.length)).toArray) := by
        simp [Builtin.append_, run_underlying ht, sizeOf, typeInfo, hi, Builtin.lenOf, hroom, hf, Go.WideShapes.add_plain, hst]
      refine ⟨_, _, hr, ⟨hlen, .inr ⟨g, off, cap, _, rfl, setRow_heap w g cur _ e _ hg, hroom, hcm, ?_, ?_⟩⟩, ⟨⟨rfl, rfl, rfl, by simp [World.setRow], fun k _ hk => setRow_other w g k _ (fun e => hk (by simp [Value.ownBlock, e]))⟩, by simp [Value.ownBlock]⟩⟩
      · simp only [List.size_toArray, List.length_append, List.length_take, List.length_drop, Array.length_toList]
        omega
      · rw [List.append_assoc, List.drop_append_of_le_length (by simp; omega), List.drop_take, show off + n * i.size - off = n * i.size by omega, htake, ← List.append_assoc, ← hlen]
        exact List.take_left
    · have holds : ∀ (j : Nat) u, xs[j]? = some u → w.cell? ((⟨g, off, none⟩ : Addr).add j) = some u := by
        intro j u hu
        have hj : j < n * i.size := by rw [← hown.1]; exact (List.getElem?_eq_some_iff.1 hu).1
        rw [Go.WideShapes.add_plain, blk_cell hg]
        rw [← htake, List.getElem?_take, if_pos hj, List.getElem?_drop] at hu
        simpa using hu
      have hr := run_append_grow (P := P) w t ty e i z ht hi hz ⟨g, off, none⟩ n cap xs hown.1 holds a m c news hl hnews (by omega) (by omega) (growslice_fits (by omega) hbytes)
      have hgr := grown cap (by omega) (.slice (some ⟨g, off, none⟩) n cap)
      exact ⟨_, _, hr, hgr.1, hgr.2⟩

theorem wpl_appendG {P : Program} {ops : Array Oper} {rest : List Oper} {o : Oper} {a : Act} {Q : Exit → Act → World → Prop} {w : World} (hgd : o.guard = none) (s x : Operand) {t e : TypeId} {z : Value} {size bytes : Nat}
    (ho : o.op = .call { callee := .builtin .append, args := #[s, x], argTypes := #[t, t] })
    (hel : ElemOf P t e z size bytes) (hzs : z.cells.size = size) (hsz : 0 < size) (hb8 : bytes ≤ 128) (v : Value) (n : Nat) (xs : List Value) (hs : a.eval s = v) (hown : Own w e size v n xs)
    (ad : Addr) (m c : Nat) (news : List Value) (hx : a.eval x = .slice (some ad) m c) (hl : news.length = m * size) (hnews : ∀ j u, news[j]? = some u → w.cell? (ad.add j) = some u) (h1 : ∀ u ∈ news, u.oneCell' = true) (hn : n + m < 1000000000000)
    (h : ∀ v' w', Own w' e size v' (n + m) (xs ++ news) → Appended w w' v v' → wpList P ops Q rest (a.put o.dst v') w') : wpList P ops Q (o :: rest) a w := by
  obtain ⟨ht, i, hi, hz, hsi, hby⟩ := hel
  refine wpList_plain hgd fun K hK => ?_
  have hb : (n + m) * bytes ≤ 1000000000000 * 128 := Nat.mul_le_mul (by omega) hb8
  obtain ⟨v', w', hr, h2, h3⟩ := run_appendG (P := P) w t o.type e i z size bytes ht hi hz hsi hby hzs hsz v n xs hown ad m c news hl hnews h1 (by unfold maxLen; omega) (by omega)
  unfold Oper.wp execOp
  simp only [ho, resolve, invoke, builtin, Sem.run_bind, Sem.run_pure, Result.andThen_ok, List.map_toArray, List.map_cons, List.map_nil, hs, hx, hr]
  exact hK _ _ (h v' w' h2 h3)

/-- append(out, x): x's cells lie in a block that was made for them. -/
theorem wpl_app {P : Program} {ops : Array Oper} {rest : List Oper} {o : Oper} {a : Act} {Q : Exit → Act → World → Prop} {w0 w : World} {cs : List (Chunk w0.heap.size)} (H : Has w0 w cs) (i : Nat) (hgd : o.guard = none) (s x : Operand) {t e : TypeId} {z : Value} {size bytes : Nat}
    (ho : o.op = .call { callee := .builtin .append, args := #[s, x], argTypes := #[t, t] })
    (hel : ElemOf P t e z size bytes) (hzs : z.cells.size = size) (hsz : 0 < size) (hb8 : bytes ≤ 128) {v : Value} {n : Nat} {xs : List Value} (hi : cs[i]? = some (ownC _ e size v n xs)) (hs : a.eval s = v)
    (news : List Value) (hx : a.eval x = .slice (some ⟨w.heap.size, 0, none⟩) 1 1) (hl : news.length = size) (h1 : ∀ u ∈ news, u.oneCell' = true) (hn : n + 1 < 1000000000000)
    (h : ∀ v' w', Has w0 w' (cs.set i (ownC _ e size v' (n + 1) (xs ++ news))) → wpList P ops Q rest (a.put o.dst v') w') : wpList P ops Q (o :: rest) a (w.alloc (.cells news.toArray e)) := by
  have H1 := H.alloc (.cells news.toArray e)
  have hown : Own (w.alloc (.cells news.toArray e)) e size v n xs := H1.get i hi
  refine wpl_appendG hgd s x ho hel hzs hsz hb8 v n xs hs hown ⟨w.heap.size, 0, none⟩ 1 1 news hx (by simpa using hl) ?_ h1 hn fun v' w' h2 h3 => h v' w' ?_
  · intro j u hu
    have hb : (w.alloc (.cells news.toArray e)).heap[w.heap.size]? = some (.cells news.toArray e (0, 0)) := blk_new w _ 0
    rw [Go.WideShapes.add_plain, blk_cell hb]
    simpa using hu
  · refine H1.set _ hi rfl h3.upd (fun k hk => .inl hk) (fun k hk => ?_) h2
    exact ⟨h3.blocks k hk, own_blocks h2 k hk⟩

/-- append(out, ys...) where ys reads as news. -/
theorem wpl_appAll {P : Program} {ops : Array Oper} {rest : List Oper} {o : Oper} {a : Act} {Q : Exit → Act → World → Prop} {w0 w : World} {cs : List (Chunk w0.heap.size)} (H : Has w0 w cs) (i : Nat) (hgd : o.guard = none) (s x : Operand) {t e : TypeId} {z : Value} {size bytes : Nat}
    (ho : o.op = .call { callee := .builtin .append, args := #[s, x], argTypes := #[t, t] })
    (hel : ElemOf P t e z size bytes) (hzs : z.cells.size = size) (hsz : 0 < size) (hb8 : bytes ≤ 128) {v : Value} {n : Nat} {xs : List Value} (hi : cs[i]? = some (ownC _ e size v n xs)) (hs : a.eval s = v)
    (ad : Addr) (m c : Nat) (news : List Value) (hx : a.eval x = .slice (some ad) m c) (hl : news.length = m * size) (hnews : ∀ j u, news[j]? = some u → w.cell? (ad.add j) = some u) (h1 : ∀ u ∈ news, u.oneCell' = true) (hn : n + m < 1000000000000)
    (h : ∀ v' w', Has w0 w' (cs.set i (ownC _ e size v' (n + m) (xs ++ news))) → wpList P ops Q rest (a.put o.dst v') w') : wpList P ops Q (o :: rest) a w := by
  refine wpl_appendG hgd s x ho hel hzs hsz hb8 v n xs hs (H.get i hi) ad m c news hx hl hnews h1 hn fun v' w' h2 h3 => h v' w' ?_
  refine H.set _ hi rfl h3.upd (fun k hk => .inl hk) (fun k hk => ?_) h2
  exact ⟨h3.blocks k hk, own_blocks h2 k hk⟩

theorem Has.ownNil {w0 w : World} {cs : List (Chunk w0.heap.size)} (H : Has w0 w cs) (e : TypeId) (size : Nat) : Has w0 w (cs ++ [ownC _ e size (.slice none 0 0) 0 []]) :=
  H.add _ (Below.refl _ _) (by simp [ownC, Value.ownBlock]) ⟨by simp, .inl ⟨rfl, rfl⟩⟩

/-- A row that stands in the text: x0, x1, .. in a new block. -/
theorem Has.ownLit {w0 w : World} {cs : List (Chunk w0.heap.size)} (H : Has w0 w cs) (xs : Array Value) (e : TypeId) (size n : Nat) (hl : xs.size = n * size) (hn : n < 1000000) : Has w0 (w.alloc (.cells xs e)) (cs ++ [ownC _ e size (.slice (some ⟨w.heap.size, 0, none⟩) n n) n xs.toList]) := by
  refine H.add _ ((Below.refl _ _).alloc (Nat.le_refl _) _) (by simp [ownC, Value.ownBlock]) ⟨by simpa using hl, .inr ⟨_, 0, n, xs, rfl, blk_new w _ 0, Nat.le_refl _, by unfold maxLen; omega, by omega, ?_⟩⟩
  rw [List.drop_zero, List.take_of_length_le (by simp; omega)]

/-- make([]T, n). -/
theorem wpl_mk {P : Program} {ops : Array Oper} {rest : List Oper} {o : Oper} {a : Act} {Q : Exit → Act → World → Prop} {w0 w : World} {cs : List (Chunk w0.heap.size)} (H : Has w0 w cs) (hgd : o.guard = none) (l c : Operand) {t e : TypeId} {z : Value} {bytes : Nat}
    (ho : o.op = Op.makeSlice t l c) (hel : ElemOf P t e z 1 bytes) (hzs : z.cells = #[z]) (hb8 : bytes ≤ 128) (n : Nat) (hl : a.eval l = .int .i64 n) (hc : a.eval c = .int .i64 n) (hn : n < 1000000000000)
    (h : ∀ w', Has w0 w' (cs ++ [ownC _ e 1 (.slice (some ⟨w.heap.size, 0, none⟩) n n) n (List.replicate n z)]) → wpList P ops Q rest (a.put o.dst (.slice (some ⟨w.heap.size, 0, none⟩) n n)) w') : wpList P ops Q (o :: rest) a w := by
  obtain ⟨ht, i, hi, hz, hsz, hby⟩ := hel
  refine wpList_make_full w hgd l c t ho w.heap.size e i z 1 ht hi hz hsz .i64 .i64 n n n hl hc rfl rfl ?_ ?_ (Nat.le_refl _) ?_
  · rw [hby]
    have : bytes * n ≤ 128 * 1000000000000 := Nat.mul_le_mul hb8 (by omega)
    omega
  · unfold maxLen; omega
  · intro w' ho' hg'
    have e1 : (madeCells z.cells (n * 1)).toList = List.replicate n z := by
      rw [hzs, toList_madeCells_one]; simp
    rw [e1] at ho'
    have ho2 := own_of_row ho'
    refine h w' (H.add _ ⟨hg'.os, hg'.tape, hg'.output, hg'.size, fun j hj => hg'.block j hj (by simp)⟩ (fun k hk => ⟨?_, own_blocks ho2 k hk⟩) ho2)
    simp [ownC, Value.ownBlock] at hk
    omega

/-- A cell of it is set. -/
theorem Has.ownSet {w0 w : World} {cs : List (Chunk w0.heap.size)} (H : Has w0 w cs) (i : Nat) {e : TypeId} {size g off m c n : Nat} {xs : List Value} (hi : cs[i]? = some (ownC _ e size (.slice (some ⟨g, off, none⟩) m c) n xs)) (j : Nat) (u : Value) (hj : j < n * size) :
    Has w0 (w.setCell ⟨g, off + j, none⟩ u) (cs.set i (ownC _ e size (.slice (some ⟨g, off, none⟩) m c) n (xs.set j u))) :=
  H.set _ hi rfl ((Upd.refl [g] w).setCell (by simp) u) (by simp [ownC, Value.ownBlock]) (fun k hk => by
    have := (H.lt i _ hi k hk).1
    exact ⟨.inl hk, by simpa [World.setCell] using this⟩) (own_set (H.get i hi) j u hj)

theorem Has.ownSet0 {w0 w : World} {cs : List (Chunk w0.heap.size)} (H : Has w0 w cs) (i : Nat) {e : TypeId} {size g m c n : Nat} {xs : List Value} (hi : cs[i]? = some (ownC _ e size (.slice (some ⟨g, 0, none⟩) m c) n xs)) (j : Nat) (u : Value) (hj : j < n * size) :
    Has w0 (w.setCell ⟨g, j, none⟩ u) (cs.set i (ownC _ e size (.slice (some ⟨g, 0, none⟩) m c) n (xs.set j u))) := by
  have := H.ownSet i hi j u hj
  rwa [Nat.zero_add] at this

theorem Has.ownTake {w0 w : World} {cs : List (Chunk w0.heap.size)} (H : Has w0 w cs) (i : Nat) {e : TypeId} {size g off m c n : Nat} {xs : List Value} (hi : cs[i]? = some (ownC _ e size (.slice (some ⟨g, off, none⟩) m c) n xs)) (k : Nat) (hk : k ≤ n) :
    Has w0 w (cs.set i (ownC _ e size (.slice (some ⟨g, off, none⟩) k c) k (xs.take (k * size)))) :=
  H.re _ hi (fun _ h => h) (fun _ => rfl) (own_take (H.get i hi) hk)

theorem Has.ownDrop {w0 w : World} {cs : List (Chunk w0.heap.size)} (H : Has w0 w cs) (i : Nat) {e : TypeId} {size g off m c n : Nat} {xs : List Value} (hi : cs[i]? = some (ownC _ e size (.slice (some ⟨g, off, none⟩) m c) n xs)) (k : Nat) (hk : k ≤ n) :
    Has w0 w (cs.set i (ownC _ e size (.slice (some ⟨g, off + k * size, none⟩) (n - k) (c - k)) (n - k) (xs.drop (k * size)))) :=
  H.re _ hi (fun _ h => h) (fun _ => rfl) (own_drop (H.get i hi) hk)

theorem Has.ownAdd {w0 w w' : World} {cs : List (Chunk w0.heap.size)} (H : Has w0 w cs) {e : TypeId} {size : Nat} {v : Value} {n : Nat} {xs : List Value} (b : Below w.heap.size w w') (h : w'.ownsRow w.heap.size e size v n xs) : Has w0 w' (cs ++ [ownC _ e size v n xs]) :=
  H.add _ b (fun k hk => by
    have hk' : v.ownBlock = some k := by simpa [ownC] using hk
    exact World.ownsRow.lt h k hk') (own_of_row h)

/-- append(out, x) as a step of a region that draws its order. -/
theorem step_app {P : Program} {ops : Array Oper} {o : Oper} {a : Act} {K : Act → World → Prop} {Q : Exit → Act → World → Prop} {E : Prop} {w0 w : World} {cs : List (Chunk w0.heap.size)} (H : Has w0 w cs) (i : Nat) (hgd : o.guard = none) (s x : Operand) {t e : TypeId} {z : Value} {size bytes : Nat}
    (ho : o.op = .call { callee := .builtin .append, args := #[s, x], argTypes := #[t, t] })
    (hel : ElemOf P t e z size bytes) (hzs : z.cells.size = size) (hsz : 0 < size) (hb8 : bytes ≤ 128) {v : Value} {n : Nat} {xs : List Value} (hi : cs[i]? = some (ownC _ e size v n xs)) (hs : a.eval s = v)
    (news : List Value) (B : Nat) (hB : w.heap[B]? = some (.cells news.toArray e (0, 0))) (hx : a.eval x = .slice (some ⟨B, 0, none⟩) 1 1) (hl : news.length = size) (h1 : ∀ u ∈ news, u.oneCell' = true) (hn : n + 1 < 1000000000000)
    (h : ∀ v' w', Has w0 w' (cs.set i (ownC _ e size v' (n + 1) (xs ++ news))) → K (a.put o.dst v') w') : if Region.wanted o (yielded ops a.tmps) = true then Oper.wp P o a w K Q else E := by
  have hw : Region.wanted o (yielded ops a.tmps) = true := by simp [Region.wanted, hgd]
  rw [if_pos hw]
  obtain ⟨ht, inf, hinf, hz, hsi, hby⟩ := hel
  have hb : (n + 1) * bytes ≤ 1000000000000 * 128 := Nat.mul_le_mul (by omega) hb8
  have hown : Own w e size v n xs := H.get i hi
  obtain ⟨v', w', hr, h2, h3⟩ := run_appendG (P := P) w t o.type e inf z size bytes ht hinf hz hsi hby hzs hsz v n xs hown ⟨B, 0, none⟩ 1 1 news (by simpa using hl) (fun j u hu => by
    rw [Go.WideShapes.add_plain, blk_cell hB]
    simpa using hu) h1 (by unfold maxLen; omega) (by omega)
  unfold Oper.wp execOp
  simp only [ho, resolve, invoke, builtin, Sem.run_bind, Sem.run_pure, Result.andThen_ok, List.map_toArray, List.map_cons, List.map_nil, hs, hx, hr]
  exact h v' w' (H.set _ hi rfl h3.upd (fun k hk => .inl hk) (fun k hk => ⟨h3.blocks k hk, own_blocks h2 k hk⟩) h2)

/-- A part that a call has made in memory of its own is a part of the caller's. -/
theorem Has.join1 {w0 w w' : World} {cs : List (Chunk w0.heap.size)} {ds : List (Chunk w.heap.size)} (H : Has w0 w cs) (c : (n0 : Nat) → Chunk n0) (G : Has w w' ds) (i : Nat) (hi : ds[i]? = some (c w.heap.size)) (hro : (c w.heap.size).ro = false) (hb : (c w0.heap.size).blocks = (c w.heap.size).blocks) (hh : (c w.heap.size).holds w' → (c w0.heap.size).holds w') : Has w0 w' (cs ++ [c w0.heap.size]) :=
  H.add _ G.below (fun k hk => by rw [hb] at hk; exact ⟨(G.lt i _ hi k hk).2 hro, (G.lt i _ hi k hk).1⟩) (hh (G.get i hi))

theorem Has.joinOwn {w0 w w' : World} {cs : List (Chunk w0.heap.size)} {ds : List (Chunk w.heap.size)} (H : Has w0 w cs) (G : Has w w' ds) (i : Nat) {e : TypeId} {size : Nat} {v : Value} {n : Nat} {xs : List Value} (hi : ds[i]? = some (ownC _ e size v n xs)) : Has w0 w' (cs ++ [ownC _ e size v n xs]) :=
  H.join1 (fun n0 => ownC n0 e size v n xs) G i hi rfl rfl id

end Go.Proofs.Ytmiaghbakdapbaa

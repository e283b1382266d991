/- append(out, xs...) whatever slice xs is, nil too. No condition. -/
import Derived.Test.YtfjkmdhkalbpkaaCnt7
set_option linter.unusedVariables false
set_option linter.unusedSimpArgs false
namespace Go.Proofs.Ytfjkmdhkalbpkaa
open Go.ChangeShapes Go.WideShapes Go.ChangeAt Go.RowKit

theorem run_append_none {P : Program} (w : World) (t ty e : TypeId) (i : TypeInfo) (ht : P.underlying t = some (.slice e)) (hi : P.info? e = some i) (a : Option Addr) (n c : Nat) (h : n ≤ c) (hz : a = none → n = 0 ∧ c = 0) : (Builtin.append_ #[t, t] ty #[.slice a n c, .slice none 0 0]).run P w = .ok (.slice a n c) w := by
  cases a with
  | none =>
    obtain ⟨rfl, rfl⟩ := hz rfl
    simp [Builtin.append_, run_underlying ht, sizeOf, typeInfo, hi, Builtin.lenOf, Builtin.firstCells, loadCells, loadCellsFrom]
  | some ad =>
    simp [Builtin.append_, run_underlying ht, sizeOf, typeInfo, hi, Builtin.lenOf, Builtin.firstCells, loadCells, loadCellsFrom, storeCells, h]

/-- A slice of numbers that reads as xs. -/
def Rd (w : World) (v : Value) (xs : List Int) : Prop := (v = .slice none 0 0 ∧ xs = []) ∨ ∃ g off c, v = .slice (some ⟨g, off, none⟩) xs.length c ∧ ∀ (j : Nat) x, xs[j]? = some x → w.cell? ⟨g, off + j, none⟩ = some (.int .i64 x)

theorem rd_own {w : World} {v : Value} {xs : List Int} (h : Own w 3 1 v xs.length (xs.map (Value.int .i64))) : Rd w v xs := by
  rcases h.2 with ⟨hv, hn⟩ | ⟨g, off, cap, cur, hv, hg, h1, h2, h3, h4⟩
  · exact .inl ⟨hv, List.length_eq_zero_iff.1 hn⟩
  · refine .inr ⟨g, off, cap, hv, fun j x hj => ?_⟩
    rw [blk_cell hg]
    have hu : (xs.map (Value.int .i64))[j]? = some (.int .i64 x) := by rw [List.getElem?_map, hj]; rfl
    have hjl := (List.getElem?_eq_some_iff.1 hj).1
    rw [← h4, List.getElem?_take, if_pos (by omega), List.getElem?_drop] at hu
    simpa using hu

theorem wpl_appRd {ops : Array Oper} {rest : List Oper} {o : Oper} {a : Act} {Q : Exit → Act → World → Prop} {w0 w : World} {cs : List (Chunk w0.heap.size)} (H : Has w0 w cs) (i : Nat) (hgd : o.guard = none) (s x : Operand)
    (ho : o.op = .call { callee := .builtin .append, args := #[s, x], argTypes := #[30, 30] }) {v vx : Value} {ys xs : List Int} (hi : cs[i]? = some (ownN _ 3 .i64 v ys)) (hs : a.eval s = v) (hx : a.eval x = vx) (hrd : Rd w vx xs) (hn : ys.length + xs.length < 1000000000)
    (h : ∀ v' w', Has w0 w' (cs.set i (ownN _ 3 .i64 v' (ys ++ xs))) → wpList Try.prog ops Q rest (a.put o.dst v') w') : wpList Try.prog ops Q (o :: rest) a w := by
  rcases hrd with ⟨rfl, rfl⟩ | ⟨g, off, c, rfl, hc⟩
  · have O : Own w 3 1 v ys.length (ys.map (Value.int .i64)) := H.get i hi
    obtain ⟨va, vc, hv⟩ : ∃ va vc, v = .slice va ys.length vc ∧ ys.length ≤ vc ∧ (va = none → ys.length = 0 ∧ vc = 0) := by
      rcases O.2 with ⟨hv, hn⟩ | ⟨g, off, cap, cur, hv, hg, h1, h2, h3, h4⟩
      · exact ⟨none, 0, by rw [hv, hn], by omega, fun _ => ⟨hn, rfl⟩⟩
      · exact ⟨_, cap, hv, h1, fun h => by cases h⟩
    obtain ⟨hv, h1, h2⟩ := hv
    obtain ⟨ht, inf, hinf, -⟩ := el_i7
    have hr := run_append_none (P := Try.prog) w 30 o.type 3 inf ht hinf va ys.length vc h1 h2
    refine wpList_plain hgd fun K hK => ?_
    unfold Oper.wp execOp
    simp only [ho, resolve, invoke, builtin, Sem.run_bind, Sem.run_pure, Result.andThen_ok, List.map_toArray, List.map_cons, List.map_nil, hs, hx, hv, hr]
    have h3 := h (.slice va ys.length vc) w (by rw [List.append_nil, ← hv, set_same_list hi]; exact H)
    exact hK _ _ h3
  · refine wpl_appAll H i hgd s x ho el_i7 rfl (by decide) (by decide) hi hs ⟨g, off, none⟩ xs.length c (xs.map (Value.int .i64)) hx (by simp) (fun j u hu => ?_) (ints_oneCell .i64 xs) (by omega) fun v' w' G => ?_
    · rw [List.getElem?_map] at hu
      cases e : xs[j]? with
      | none => rw [e] at hu; cases hu
      | some y =>
        rw [e] at hu
        have : u = .int .i64 y := by simpa using hu.symm
        subst this
        rw [Go.WideShapes.add_plain]
        exact hc j y e
    · refine h v' w' ?_
      have e : ownC w0.heap.size 3 1 v' (ys.length + xs.length) (ys.map (Value.int .i64) ++ xs.map (Value.int .i64)) = ownN _ 3 .i64 v' (ys ++ xs) := by
        show _ = ownC _ _ 1 v' (ys ++ xs).length _
        rw [List.length_append, List.map_append]
      rw [← e]; exact G

end Go.Proofs.Ytfjkmdhkalbpkaa

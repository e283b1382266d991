/- A map of counts as a part of memory. No condition. -/
import Derived.Test.YtfjkmdhkalbpkaaGr7f
import Derived.Maps.OwnOps
import Derived.Maps.OwnSet
set_option linter.unusedVariables false
set_option linter.unusedSimpArgs false
namespace Go.Proofs.Ytfjkmdhkalbpkaa
open Go.ChangeShapes Go.WideShapes Go.ChangeAt Go.RowKit Go.Maps

theorem keyInt7 : Keyed Try.prog 3 := int_keyed Try.underlying3
theorem zeroInt7 (w : World) : (zeroValue 3).run Try.prog w = .ok (.int .i64 0) w := by kernel_rfl

/-- Block b is a map of at most n entries; each number has its count. -/
def cntC (n0 b n : Nat) (f : Int → Int) : Chunk n0 :=
  ⟨[b], false, fun w => ∃ D : DataW Unit, w.ownsMap Try.prog 3 (plainElem Try.prog 3) b n D ∧ ∀ v : Int, (Lit.int .i64 v).wf = true → D.atKey (.int .i64 v) (.lit (.int .i64 0)) = .lit (.int .i64 (f v)),
   fun w w' h ⟨D, ⟨es, clock, hb, r⟩, ha⟩ => ⟨D, ⟨es, clock, (h b (.inr (by simp))).trans hb, r⟩, ha⟩⟩

theorem Has.cntNew {w0 w : World} {cs : List (Chunk w0.heap.size)} (H : Has w0 w cs) : Has w0 (w.alloc (.map #[] 0)) (cs ++ [cntC _ w.heap.size 0 fun _ => 0]) :=
  H.add _ ((Below.refl _ _).alloc (Nat.le_refl _) _) (by simp [cntC]) ⟨.map [], World.ownsMap_made _ _ _ _, fun v _ => rfl⟩

theorem cnt_look {w0 w : World} {cs : List (Chunk w0.heap.size)} (H : Has w0 w cs) (i : Nat) {b n : Nat} {f : Int → Int} (hi : cs[i]? = some (cntC _ b n f)) (v : Int) (hv : (Lit.int .i64 v).wf = true) :
    (Instr.lookup 62 (.map (some b)) (.int .i64 v) false).run Try.prog w = .ok (.int .i64 (f v)) w := by
  obtain ⟨D, hD, ha⟩ := H.get i hi
  obtain ⟨c, hrun, hat, -⟩ := hD.lookup_int keyInt7 Try.underlying62 Try.underlying3 (zeroInt7 w) (keyOf_int_mk Try.underlying3 hv)
  rw [hrun]
  rw [ha v hv] at hat
  cases hat
  rfl

theorem wpl_cnt {ops : Array Oper} {rest : List Oper} {o : Oper} {a : Act} {Q : Exit → Act → World → Prop} {w0 w : World} {cs : List (Chunk w0.heap.size)} (H : Has w0 w cs) (i : Nat) {b n : Nat} {f : Int → Int} (hi : cs[i]? = some (cntC _ b n f)) (hg : o.guard = none) (m x v : Operand) (hop : o.op = Op.mapUpdate 62 m x v)
    (hm : a.eval m = .map (some b)) (hn : n < 1000000000) (k c : Int) (hx : a.eval x = .int .i64 k) (hv : a.eval v = .int .i64 c) (hk : (Lit.int .i64 k).wf = true) (hc : (Lit.int .i64 c).wf = true)
    (h : ∀ w', Has w0 w' (cs.set i (cntC _ b (n + 1) fun u => if u = k then c else f u)) → wpList Try.prog ops Q rest (a.put o.dst undef) w') : wpList Try.prog ops Q (o :: rest) a w := by
  obtain ⟨D, hD, ha⟩ := H.get i hi
  refine wpList_mapUpdate_own _ hg m x v 62 hop 3 3 keyInt7 Try.underlying62 _ b n D hm hD (by unfold maxLen; omega) _ _ (.int .i64 k) hx hv (keyOf_int_mk Try.underlying3 hk) (.lit (.int .i64 c)) [] (plainElem_int Try.underlying3 hc) ?_
  intro w' h1 h2
  have U : Upd [b] w w' := ⟨h2.os, h2.tape, h2.output, h2.size, fun j hj hn => h2.block j hj (by simpa using hn)⟩
  refine h w' (H.set _ hi rfl U (by simp [cntC]) (fun j hj => ?_) ⟨_, h1, fun u hu => ?_⟩)
  · have hjb : j = b := by simpa [cntC] using hj
    subst hjb
    exact ⟨.inl hj, h1.lt⟩
  · show _ = DataW.lit (.int .i64 (if u = k then c else f u))
    by_cases e : u = k
    · subst e
      rw [if_pos rfl]
      exact atKey_put_same hD.isMap (by trivial) _ _
    · rw [if_neg e, atKey_put_other (by simpa using e)]
      exact ha u hu

end Go.Proofs.Ytfjkmdhkalbpkaa

/- Two arrays of whole numbers are equal just where the numbers are: the model's == on arrays, run. No condition but the type's form. -/
import Derived.Test.YtmiaghbakdapbaaBase
import Derived.Laws.StructEq
import Derived.ChangeKeysEq
set_option linter.unusedVariables false
namespace Go.Proofs.Ytmiaghbakdapbaa
open Go.ChangeShapes Go.WideShapes Go.ChangeAt Go.RowKit

def ivals (k : IntKind) (xs : List Int) : Array Value := (xs.map (Value.int k)).toArray

theorem run_eqItems_ints {P : Program} (d e : Nat) (k : IntKind) (hp : P.plainKey e = true) (he : P.underlying e = some (.int k)) (xs ys : List Int) (w : World) : ∀ (m s : Nat), xs.length = s + m → ys.length = s + m →
    (Op.eqItems (d + 1) e 1 (ivals k xs) (ivals k ys) (List.range' s m)).run P w = .ok (xs.drop s == ys.drop s) w := by
  intro m
  induction m with
  | zero =>
    intro s hx hy
    rw [List.drop_eq_nil_of_le (by omega), List.drop_eq_nil_of_le (by omega)]
    simp [Op.eqItems]
  | succ m ih =>
    intro s hx hy
    have px : (part e (ivals k xs) (s * 1)).run P w = .ok (.int k (xs[s]'(by omega))) w := run_part_plain w hp (by simp [ivals])
    have py : (part e (ivals k ys) (s * 1)).run P w = .ok (.int k (ys[s]'(by omega))) w := run_part_plain w hp (by simp [ivals])
    simp only [List.range'_succ, Op.eqItems, Sem.run_bind, px, py, Result.andThen_ok, run_equalIn_int w d e k k _ _ he]
    rw [List.drop_eq_getElem_cons (by omega : s < xs.length), List.drop_eq_getElem_cons (by omega : s < ys.length)]
    by_cases h : xs[s]'(by omega) = ys[s]'(by omega)
    · simp only [h, beq_self_eq_true, Bool.not_true, Bool.false_eq_true, if_false, ih (s + 1) (by omega) (by omega), List.cons_beq_cons, Bool.true_and]
    · have hb : (xs[s]'(by omega) == ys[s]'(by omega)) = false := by simpa using h
      simp only [hb, Bool.not_false, if_true, Sem.run_pure, List.cons_beq_cons, Bool.false_and]

theorem run_eq_ints {P : Program} {d t e n : Nat} {k : IntKind} (hu : P.underlying t = some (.array n e)) (hc : P.cellsOf e = 1) (hp : P.plainKey e = true) (he : P.underlying e = some (.int k)) (xs ys : List Int) (hx : xs.length = n) (hy : ys.length = n) (w : World) :
    (Op.equalIn (d + 2) t (.agg (ivals k xs)) (.agg (ivals k ys))).run P w = .ok (xs == ys) w := by
  obtain ⟨i, hi⟩ := info_of_underlying he
  rw [run_equalIn_array w (d + 1) _ _ hu hi, hc, List.range_eq_range', run_eqItems_ints d e k hp he xs ys w n 0 (by omega) (by omega)]
  simp

end Go.Proofs.Ytmiaghbakdapbaa

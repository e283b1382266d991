/- Comparing a function value with nil. No condition but that the type is a function type. -/
import Derived.Test.YtmiaghbakdapbaaBase
set_option linter.unusedVariables false
namespace Go.Proofs.Ytmiaghbakdapbaa
open Go.ChangeShapes Go.WideShapes Go.ChangeAt Go.RowKit

theorem run_eql_func {P : Program} (w : World) {t : TypeId} {ps rs : Array TypeId} {v : Bool} (h : P.underlying t = some (.func ps rs v)) (f : Fn) (b c : Array Value) : (binOp .eql t (.func f b c) .nilFunc).run P w = .ok (.bool false) w := by
  have e : ∀ d : Nat, (Op.equalIn (d + 1) t (.func f b c) .nilFunc).run P w = .ok false w := fun d => by
    simp [Op.equalIn, run_underlying h]
  simp only [binOp]
  simp [Op.equal, Op.maxDepth, e 9999]
theorem run_eql_nil {P : Program} (w : World) {t : TypeId} {ps rs : Array TypeId} {v : Bool} (h : P.underlying t = some (.func ps rs v)) : (binOp .eql t .nilFunc .nilFunc).run P w = .ok (.bool true) w := by
  have e : ∀ d : Nat, (Op.equalIn (d + 1) t .nilFunc .nilFunc).run P w = .ok true w := fun d => by
    simp [Op.equalIn, run_underlying h]
  simp only [binOp]
  simp [Op.equal, Op.maxDepth, e 9999]
theorem run_neq_func {P : Program} (w : World) {t : TypeId} {ps rs : Array TypeId} {v : Bool} (h : P.underlying t = some (.func ps rs v)) (f : Fn) (b c : Array Value) : (binOp .neq t (.func f b c) .nilFunc).run P w = .ok (.bool true) w := by
  have e : ∀ d : Nat, (Op.equalIn (d + 1) t (.func f b c) .nilFunc).run P w = .ok false w := fun d => by
    simp [Op.equalIn, run_underlying h]
  simp only [binOp]
  simp [Op.equal, Op.maxDepth, e 9999]
theorem run_neq_nil {P : Program} (w : World) {t : TypeId} {ps rs : Array TypeId} {v : Bool} (h : P.underlying t = some (.func ps rs v)) : (binOp .neq t .nilFunc .nilFunc).run P w = .ok (.bool false) w := by
  have e : ∀ d : Nat, (Op.equalIn (d + 1) t .nilFunc .nilFunc).run P w = .ok true w := fun d => by
    simp [Op.equalIn, run_underlying h]
  simp only [binOp]
  simp [Op.equal, Op.maxDepth, e 9999]

end Go.Proofs.Ytmiaghbakdapbaa

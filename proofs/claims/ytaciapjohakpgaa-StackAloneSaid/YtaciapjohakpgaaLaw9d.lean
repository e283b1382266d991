/- The walk of StackAlone over any acts that can be read. No condition. -/
import Derived.Test.YtaciapjohakpgaaLaw9c
set_option linter.unusedVariables false
namespace Go.Proofs.Ytaciapjohakpgaa
open Go.ChangeShapes Go.WideShapes Go.ChangeAt Go.RowKit

set_option maxRecDepth 100000 in
theorem alone_other (l : List Int) (a : Option Addr) (cap : Nat) (w : World) (h1 : (100 : Int) < (l.length : Int)) :
    Calls Try.prog 5 #[.slice a l.length cap] w fun e w' => e = .returned (.bool true) ∧ Below w.heap.size w w' := by
  go_enter Try.func5, Try.ntmps5
  go_wp2_with fail
  refine (awake9 w).mono ?_
  rintro e w1 ⟨rfl, b1⟩
  go_wp2_with fail
  go_ret
  exact ⟨rfl, b1⟩

theorem walk_StackAlone (a : Option Addr) (len cap : Nat) (zs : List Int) (w : World) (hr : IsRow .u8 w a len cap zs) :
    Calls Try.prog 5 #[.slice a len cap] w fun e w' => e = .returned (.bool true) ∧ Below w.heap.size w w' := by
  obtain ⟨l, rfl, hsl, hwf⟩ := row_opens hr
  by_cases h1 : (100 : Int) < (l.length : Int)
  · exact alone_other l a cap w h1
  · refine alone_walk l a cap w hsl (fun x hx => ?_) h1
    have := Go.bounds_u8 (hwf x hx)
    omega

end Go.Proofs.Ytaciapjohakpgaa

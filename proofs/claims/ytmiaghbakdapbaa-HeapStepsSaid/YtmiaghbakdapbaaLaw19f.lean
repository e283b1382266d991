/- The walk of HeapSteps, for every input. No condition but that the arguments can be read. -/
import Derived.Test.YtmiaghbakdapbaaLaw19e
set_option linter.unusedVariables false
set_option linter.unusedSimpArgs false
namespace Go.Proofs.Ytmiaghbakdapbaa
open Go.ChangeShapes Go.WideShapes Go.ChangeAt Go.RowKit

set_option maxRecDepth 100000 in
set_option maxHeartbeats 2000000 in
theorem walk_HeapSteps (c0 c1 c2 c3 c4 mr mu dq ch bf rt sw s mk : Int) (fa : Option Addr) (fl fc : Nat) (fs : List Int) (pa : Option Addr) (pl pc np : Nat) (w : World) (m0 : 0 ≤ mk) (m1 : mk < 18446744073709551616) (hr : IsRow .u8 w fa fl fc fs) (hp : IsRows [.int .i64, .int .u64] w (.slice pa pl pc) np) :
    Calls Try.prog 4 #[.agg #[.int .i64 c0, .int .i64 c1, .int .i64 c2, .int .i64 c3, .int .i64 c4, .int .i64 mr, .int .i64 mu, .int .i64 dq, .int .i64 ch, .int .i64 bf, .int .i64 rt, .int .i64 sw], .int .i64 s, .int .u64 mk, .slice fa fl fc, .slice pa pl pc] w fun e w' => e = .returned (.bool true) ∧ Below w.heap.size w w' := by
  obtain rfl : pl = np := by
    rcases hp with ⟨h, h0⟩ | ⟨y, c, h, _⟩
    · cases h; exact h0.symm
    · cases h; rfl
  by_cases hh : (40 : Int) < (pl : Int) ∨ (20 : Int) < (fl : Int)
  · have q := hsteps_big ⟨c0, c1, c2, c3, c4, mr, mu, dq, ch, bf, rt, sw⟩ s mk fa fl fc pa pc pl w hh
    simp only [cfgV, cfgCells] at q
    exact q
  · obtain ⟨l, hl, hsl, hwf⟩ := row_opens hr
    have q := hsteps_ok ⟨c0, c1, c2, c3, c4, mr, mu, dq, ch, bf, rt, sw⟩ s mk fa fl fc l pa pc pl w m0 m1 hsl hl hp (by omega) (by omega)
    simp only [cfgV, cfgCells] at q
    exact q
end Go.Proofs.Ytmiaghbakdapbaa

/- How many parts there are, by the reference. -/
import Derived.Test.YtgodnmcfbbchoaaRef5
import Derived.Test.YtgodnmcfbbchoaaMeth21
import Derived.Test.YtgodnmcfbbchoaaFirst5p
import Derived.Test.YtgodnmcfbbchoaaRef21
set_option linter.unusedVariables false
set_option linter.unusedSimpArgs false
namespace Go.Proofs.Ytgodnmcfbbchoaa
open Go.ChangeShapes Go.WideShapes Go.ChangeAt Go.RowKit

set_option maxRecDepth 100000 in
theorem RParts16_h {w0 w : World} {cs : List (Chunk w0.heap.size)} (H : Has w0 w cs) (c : Cfg) (h : CfgOk c) :
    Calls Try.prog 58 #[cfgV c] w fun e w' => e = .returned (.int .i64 c.pt) ∧ Has w0 w' cs := by
  unfold cfgV cfgCells
  go_enter Try.func58, Try.ntmps58
  have G0 := H.blkNew (cfgCells c) 61
  have hsw := h.sw
  obtain ⟨L, hL⟩ : ∃ L, L = c.rooms.length := ⟨_, rfl⟩
  have hptb := (cfg_bd h).pt
  have hlen := rooms_len (c := c)
  have hNb := (cfg_bd h).nd
  rw [← hL] at hlen
  rw [← hlen] at hNb
  have hpt : ((L : Int) + c.sw - 1).tdiv c.sw = c.pt := by rw [Int.tdiv_eq_ediv_of_nonneg (by omega), hlen]; rfl
  have HL := Lib.hid hL
  clear hlen hL
  go_wp2_with fail
  refine (RRooms_h G0 c).mono ?_
  rintro e w1 ⟨v, rfl, G1⟩
  obtain ⟨va, vc, rfl⟩ := own_is (G1.get (cs.length + 1) (get_l2 cs _ _).2)
  rw [← HL.out]
  have cb := row12 (G1.get cs.length (get_l2 cs _ _).1)
  obtain ⟨k0, k1, k2, k3, k4, k5, k6, k7, k8, k9, k10, k11, fk⟩ := cb
  go_wp2_with fail

  go_ret
  exact ⟨rfl, G1.front.front⟩

end Go.Proofs.Ytgodnmcfbbchoaa

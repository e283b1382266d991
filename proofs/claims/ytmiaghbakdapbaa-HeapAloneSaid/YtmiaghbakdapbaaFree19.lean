/- How many cells of a class are free at first. Condition: the configuration may be. -/
import Derived.Test.YtmiaghbakdapbaaAl19q
import Derived.Test.YtmiaghbakdapbaaAw19
set_option linter.unusedVariables false
set_option linter.unusedSimpArgs false
namespace Go.Proofs.Ytmiaghbakdapbaa
open Go.ChangeShapes Go.WideShapes Go.ChangeAt Go.RowKit

set_option maxRecDepth 100000 in
theorem Free_h {w0 w : World} {cs : List (Chunk w0.heap.size)} (H : Has w0 w cs) (q : Nat) {mb : Nat} {av rv : Value} {c : Cfg} (hq : cs[q]? = some (mapC _ mb av rv c)) (h : CfgOk c) (k : Int) :
    Calls Try.prog 37 #[.pointer (some ⟨mb, 0, none⟩), .int .i64 k] w fun e w' => e = .returned (.int .i64 (c.free k)) ∧ Has w0 w' cs := by
  have hnd := (cfg_bd h).nd
  have HQ := Lib.hid hq
  clear hq
  obtain ⟨K, hK⟩ : ∃ K, K = (c.nd - 1).toNat := ⟨_, rfl⟩
  have HK := Lib.hid hK
  clear hK
  go_enter Try.func37, Try.ntmps37
  go_wp2_with fail
  go_loopw [5, 6] (fun nv vv wr => ∃ (v N : Int), 1 ≤ v ∧ v ≤ c.nd ∧ vv = .int .i64 v ∧ nv = .int .i64 N ∧ 0 ≤ N ∧ N < v ∧ Hid (N + cntA c k (v - 1) K = c.free k) ∧ Has w0 wr cs) (fun _ vv _ => 70 - (intOf vv).toNat)
  case atStart => exact ⟨1, 0, by omega, by omega, rfl, rfl, by omega, by omega, Lib.hid (by unfold Cfg.free; rw [HK.out]; simp), H⟩
  case round =>
    obtain ⟨v, N, v1, v2, rfl, rfl, N0, N1, I, G⟩ := hrel
    go_wp2_with fail
    refine (Common_q (G.mAt q HQ.out h)).mono ?_
    rintro e w1 ⟨rfl, d1, rfl⟩
    by_cases hlt : v < c.nd
    · have I2 := Lib.hid (free_step h k v N v1 hlt (by rw [← HK.out]; exact I.out))
      go_wp2_with fail
      refine (MClassN_c ((G.drewN d1).mAt q HQ.out h) v (by omega)).mono ?_
      rintro e w2 ⟨rfl, q2⟩
      have G2 := (G.drewN d1).up q2
      by_cases hc : c.clsAt v = k
      · have e1 : N + 1 + cntA c k v (c.nd - 1).toNat = c.free k := by have := I2.out; rw [if_pos hc] at this; exact this
        have E1 := Lib.hid e1
        clear e1
        go_wp2_with fail
        go_roundw
        case rel => exact ⟨v + 1, N + 1, by omega, by omega, by go_num, by go_num, by omega, by omega, Lib.hid (by rw [HK.out, show v + 1 - 1 = v by omega]; exact E1.out), G2⟩
        case measure => simp [intOf]; omega
      · have e1 : N + cntA c k v (c.nd - 1).toNat = c.free k := by have := I2.out; rw [if_neg hc] at this; exact this
        have E1 := Lib.hid e1
        clear e1
        go_wp2_with fail
        go_roundw
        case rel => exact ⟨v + 1, N, by omega, by omega, by go_num, rfl, by omega, by omega, Lib.hid (by rw [HK.out, show v + 1 - 1 = v by omega]; exact E1.out), G2⟩
        case measure => simp [intOf]; omega
    · have e1 : N = c.free k := by
        have := I.out
        rw [show v - 1 = c.nd - 1 by omega, cntA_top] at this
        omega
      have E1 := Lib.hid e1
      clear e1
      go_wp2_with fail
      go_ret
      exact ⟨ret_int E1.out, G.drewN _⟩

end Go.Proofs.Ytmiaghbakdapbaa

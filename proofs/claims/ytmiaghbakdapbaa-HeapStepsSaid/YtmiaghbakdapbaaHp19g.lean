/- heap.New, heap.Steps, and the step of a machine that is none. -/
import Derived.Test.YtmiaghbakdapbaaHp19f
set_option linter.unusedVariables false
set_option linter.unusedSimpArgs false
namespace Go.Proofs.Ytmiaghbakdapbaa
open Go.ChangeShapes Go.WideShapes Go.ChangeAt Go.RowKit

theorem run_eqIn_ptr19 {P : Program} (w : World) {t e : TypeId} (h : P.underlying t = some (.pointer e)) (a : Addr) (d : Nat) : (Op.equalIn (d + 1) t (.pointer (some a)) (.pointer none)).run P w = .ok false w := by
  simp [Op.equalIn, run_underlying h]
--[NEW
set_option maxRecDepth 100000 in
theorem hpNew_h {w0 w : World} {cs : List (Chunk w0.heap.size)} (H : Has w0 w cs) (mb : Nat) (n mark : Int) :
    Calls Try.prog 16 #[.pointer (some ⟨mb, 0, none⟩), .int .i64 n, .int .u64 mark] w fun e w' => ∃ xb, e = .returned (.pointer (some ⟨xb, 0, none⟩)) ∧ Has w0 w' (cs ++ [hpC _ xb mb (hpNew n mark)]) := by
  have f2 : ∀ (w : World) a, (Op.equalIn 9999 28 (.pointer (some a)) (.pointer none)).run Try.prog w = .ok false w := fun w a => run_eqIn_ptr19 w Try.underlying28 a 9998
  unfold hpNew
  obtain ⟨K, hK⟩ : ∃ K, K = sOf n := ⟨_, rfl⟩
  rw [← hK]
  have HK := Lib.hid hK
  clear hK
  go_enter Try.func16, Try.ntmps16
  go_wp2_with fail
  refine (Of_c n _).mono ?_
  rw [← HK.out]
  rintro e w1 ⟨rfl, dn, rfl⟩
  have G0 : Has w0 _ (cs ++ [hpC _ (w.drewN dn).heap.size mb ⟨n, K, mark, 0, 0, 0, false, 0, 0, 0, 21, 0, 0, 0, 0⟩]) := (H.drewN dn).blkNew (hpCells mb mb ⟨n, K, mark, 0, 0, 0, false, 0, 0, 0, 21, 0, 0, 0, 0⟩ .nilFunc) 99
  go_upto_region 2 with (fail)
  obtain ⟨xb, hxb⟩ : ∃ xb, xb = (w.drewN dn).heap.size := ⟨_, rfl⟩
  have hxb2 : w.heap.size = xb := hxb.symm
  rw [← hxb] at G0
  rw [hxb2]
  clear hxb hxb2
  obtain ⟨W, HW, eW⟩ := G0.name
  have eW2 := eW.out
  simp only [hpCells] at eW2
  rw [← eW2]
  clear G0 eW eW2
  have hj := get_last cs (hpC w0.heap.size xb mb ⟨n, K, mark, 0, 0, 0, false, 0, 0, 0, 21, 0, 0, 0, 0⟩)
  obtain ⟨c0, c1, c2, c3, c4, c5, c6, c7, c8, c9, c10, c11, c12, c13, c14, c15, c16, c17, fc⟩ := hpRow (HW.get _ hj)
  by_cases hk : 0 ≤ K
  · have e1 := Lib.hid (decide_eq_true hk)
    go_wp2_with fail
    have G1 := (HW.blkSet _ hj 11 (.int .i64 0)).blkSet _ (lset_same19 hj _) 17 (hpNext xb 1)
    rw [List.set_set, set_last] at G1
    go_ret
    exact ⟨xb, rfl, G1⟩
  · have e1 := Lib.hid (decide_eq_false hk)
    go_wp2_with fail
    go_ret
    rw [e1.out]
    exact ⟨xb, rfl, HW⟩
--]NEW
theorem hpStepNil (w : World) (s : Value) : Calls Try.prog 17 #[.pointer none, s] w fun r w' => r = .returned (.bool true) ∧ w' = w := by
  go_enter Try.func17, Try.ntmps17
  go_wp2
  go_ret
  exact ⟨rfl, rfl⟩
def hpWant (n : Int) : Int := if 0 ≤ sOf n then 15 + sSlots (sOf n) else 0
theorem Steps_c (n : Int) (w : World) : Calls Try.prog 21 #[.int .i64 n] w fun e w' => e = .returned (.int .i64 (hpWant n)) ∧ ∃ d, w' = w.drewN d := by
  unfold hpWant
  obtain ⟨K, hK⟩ : ∃ K, K = sOf n := ⟨_, rfl⟩
  rw [← hK]
  have HK := Lib.hid hK
  clear hK
  by_cases hk : 0 ≤ K
  · rw [if_pos hk]
    have hb := sSlots_bd K
    have hw : wrap64 (15 + sSlots K) = 15 + sSlots K := by unfold wrap64; omega
    have HW := Lib.hid hw
    clear hw hb
    go_enter Try.func21, Try.ntmps21
    go_wp2_with fail
    refine (Of_c n _).mono ?_
    rw [← HK.out]
    rintro e w1 ⟨rfl, dn, rfl⟩
    go_wp2_with fail
    refine (Slots_c K _).mono ?_
    rintro e w1 ⟨rfl, dm, rfl⟩
    go_wp2_with fail
    go_ret
    exact ⟨ret_int HW.out, _, rfl⟩
  · rw [if_neg hk]
    have hk' : K < 0 := by omega
    clear hk
    go_enter Try.func21, Try.ntmps21
    go_wp2_with fail
    refine (Of_c n _).mono ?_
    rw [← HK.out]
    rintro e w1 ⟨rfl, dn, rfl⟩
    go_wp2_with fail
    go_ret
    exact ⟨rfl, _, rfl⟩
end Go.Proofs.Ytmiaghbakdapbaa

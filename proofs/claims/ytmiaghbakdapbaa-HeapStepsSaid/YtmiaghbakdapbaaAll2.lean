/- dustmanref02.All: the classes of all cells, as a list. No condition. -/
import Derived.Test.YtmiaghbakdapbaaOwn
import Derived.Test.YtmiaghbakdapbaaSizes
set_option linter.unusedVariables false
namespace Go.Proofs.Ytmiaghbakdapbaa
open Go.ChangeShapes Go.WideShapes Go.ChangeAt Go.RowKit

theorem el_int : ElemOf Try.prog 72 3 (.int .i64 0) 1 8 := elemOf Try.underlying72 (by kernel_rfl)

/-- How many cells of a class there are. -/
def cN (c : List Int) (k : Nat) : Nat := (sBound (c.getD k 0)).toNat
/-- The classes of the cells of the classes below k. -/
def cPre (c : List Int) : Nat → List Int
  | 0 => []
  | k + 1 => cPre c k ++ List.replicate (cN c k) (k : Int)

theorem cN_le (c : List Int) (k : Nat) : cN c k ≤ 12 := by unfold cN; have := sBound_hi (c.getD k 0); omega
theorem cPre_len (c : List Int) : ∀ k, (cPre c k).length ≤ 12 * k
  | 0 => by simp [cPre]
  | k + 1 => by
    have := cPre_len c k
    have := cN_le c k
    simp only [cPre, List.length_append, List.length_replicate]; omega

theorem cN_iff (c : List Int) (k i : Nat) : i < cN c k ↔ (i : Int) < c.getD k 0 ∧ i < 12 := by
  unfold cN sBound; repeat' split <;> omega

set_option maxRecDepth 100000 in
theorem RAll_h {w0 w : World} {cs : List (Chunk w0.heap.size)} (H : Has w0 w cs) (c0 c1 c2 c3 c4 : Int) :
    Calls Try.prog 93 #[.agg #[.int .i64 c0, .int .i64 c1, .int .i64 c2, .int .i64 c3, .int .i64 c4]] w fun e w' => ∃ v, e = .returned v ∧ Has w0 w' (cs ++ [ownN _ 3 .i64 v (cPre [c0, c1, c2, c3, c4] 5)]) := by
  go_enter Try.func93, Try.ntmps93
  have G0 := ((Has.nil w).blkNew #[.int .i64 c0, .int .i64 c1, .int .i64 c2, .int .i64 c3, .int .i64 c4] 22).ownNil 3 1
  go_wp2_with fail
  go_loopw [3, 4, 5] (fun ov kv iv wr => ∃ (k : Nat) (xs : List Int), k ≤ 5 ∧ kv = .int .i64 k ∧ xs = cPre [c0, c1, c2, c3, c4] k ∧ Has w wr [blkC _ w.heap.size #[.int .i64 c0, .int .i64 c1, .int .i64 c2, .int .i64 c3, .int .i64 c4] 22, ownN _ 3 .i64 ov xs]) (fun _ kv _ _ => 5 - (intOf kv).toNat)
  case atStart => exact ⟨0, [], by omega, rfl, rfl, G0⟩
  case round =>
    obtain ⟨k, xs, hk, rfl, hxs, G⟩ := hrel
    have XS := Lib.hid hxs
    clear hxs
    by_cases hlt : k < 5
    · have hk5 : (k : Int) < 5 := by omega
      obtain ⟨wo, rfl⟩ : ∃ wo : World, wo = wr := ⟨_, rfl⟩
      clear G0
      go_wp2_with fail
      go_loopw [3, 5] (fun ov iv wr => ∃ (i : Nat) (ys : List Int), i ≤ cN [c0, c1, c2, c3, c4] k ∧ iv = .int .i64 i ∧ ys = cPre [c0, c1, c2, c3, c4] k ++ List.replicate i (k : Int) ∧ Has w wr [blkC _ w.heap.size #[.int .i64 c0, .int .i64 c1, .int .i64 c2, .int .i64 c3, .int .i64 c4] 22, ownN _ 3 .i64 ov ys]) (fun _ iv _ => 12 - (intOf iv).toNat)
      case atStart => exact ⟨0, xs, by omega, rfl, by rw [XS.out]; simp, G⟩
      case round =>
        obtain ⟨i, ys, hi, rfl, hys, G2⟩ := hrel
        have hyl : ys.length ≤ 100 := by rw [hys, List.length_append, List.length_replicate]; have := cPre_len [c0, c1, c2, c3, c4] k; have := cN_le [c0, c1, c2, c3, c4] k; omega
        have YS := Lib.hid hys
        clear hys
        have B := G2.get 0 rfl
        have hck : wr.cell? ⟨w.heap.size, k, none⟩ = some (.int .i64 ([c0, c1, c2, c3, c4].getD k 0)) := by
          rw [blk_cell B]
          match k, hlt with
          | 0, _ => rfl
          | 1, _ => rfl
          | 2, _ => rfl
          | 3, _ => rfl
          | 4, _ => rfl
        obtain ⟨oa, oc, rfl⟩ := own_is (G2.get 1 rfl)
        generalize hcv : [c0, c1, c2, c3, c4].getD k 0 = cv at hck
        have hcnt := cN_iff [c0, c1, c2, c3, c4] k i
        have hcl := cN_le [c0, c1, c2, c3, c4] k
        rw [hcv] at hcnt
        have CN := Lib.hid hcnt
        clear hcv hcnt B
        by_cases h1 : (i : Int) < cv
        · by_cases h2 : i < 12
          · have h2' : (i : Int) < 12 := by omega
            have hin := CN.out.2 ⟨h1, h2⟩
            go_wp2_with (at_builtin; refine wpl_app G2 1 rfl (.tmp 21) (.tmp 23) rfl el_int rfl (by decide) (by decide) rfl rfl [.int .i64 (k : Int)] rfl rfl (by simp [Value.oneCell']) (by omega) ?_; intro v1 w1 G3)
            rw [ownN_app] at G3
            go_roundw
            case rel => exact ⟨i + 1, _, by omega, by go_num, by rw [YS.out, List.replicate_succ', List.append_assoc], G3⟩
            case measure => simp [intOf]; omega
          · have h2' : ¬ (i : Int) < 12 := by omega
            have hout : i = cN [c0, c1, c2, c3, c4] k := by have := CN.out.1; omega
            go_wp2_with fail
            go_roundw
            case rel => exact ⟨k + 1, ys, by omega, by go_num, by rw [YS.out, hout]; rfl, G2⟩
            case measure => simp [intOf]; omega
        · have hout : i = cN [c0, c1, c2, c3, c4] k := by have := CN.out.1; omega
          go_wp2_with fail
          go_roundw
          case rel => exact ⟨k + 1, ys, by omega, by go_num, by rw [YS.out, hout]; rfl, G2⟩
          case measure => simp [intOf]; omega
    · have hk5 : ¬ (k : Int) < 5 := by omega
      have : k = 5 := by omega
      subst this
      go_wp2_with fail
      go_ret
      exact ⟨_, rfl, by rw [← XS.out]; exact H.joinOwn G 1 rfl⟩

end Go.Proofs.Ytmiaghbakdapbaa

/- A machine alone, from its begin to its end. Conditions: head 0 is there; a thing's link is at another place that is there. -/
import Derived.Test.YtaciapjohakpgaaAwake9
set_option linter.unusedVariables false
namespace Go.Proofs.Ytaciapjohakpgaa
open Go.ChangeShapes Go.WideShapes Go.ChangeAt Go.RowKit

def mrun (ls : List Int) : Nat → List Int → Mac → List Int × Mac
  | 0, l, m => (l, m)
  | k + 1, l, m => mrun ls k (mstep ls l m).1 (mstep ls l m).2

theorem whole_c (sb g mb lb : Nat) (l ls : List Int) (n : Int) (m : Mac) (w : World) (h : Bun w sb g mb lb l ls n m) :
    Calls Try.prog 16 #[.pointer (some ⟨mb, 0, none⟩), .pointer (some ⟨sb, 0, none⟩)] w fun e w' => e = .returned (.int .i64 (mitem (mrun ls 4 l m).2)) ∧
      (∃ n', Bun w' sb g mb lb (mrun ls 4 l m).1 ls n' (mrun ls 4 l m).2) ∧ Upd [sb, g, mb] w w' := by
  obtain ⟨R, hR⟩ : ∃ R, R = mrun ls 4 l m := ⟨_, rfl⟩
  have HR := Lib.hid hR
  rw [← hR]
  clear hR
  go_enter Try.func16, Try.ntmps16
  go_wp2_with fail
  refine wp_loop_rounds 5 ?_
  rw [rounds_succ]
  go_wp2_with fail
  refine (Step_b _ _ _ _ _ _ _ _ _ h).mono ?_
  rintro e w1 ⟨rfl, h1, u1⟩
  go_wp2_with fail
  rw [rounds_succ]
  go_wp2_with fail
  refine (Step_b _ _ _ _ _ _ _ _ _ h1).mono ?_
  rintro e w2 ⟨rfl, h2, u2⟩
  go_wp2_with fail
  rw [rounds_succ]
  go_wp2_with fail
  refine (Step_b _ _ _ _ _ _ _ _ _ h2).mono ?_
  rintro e w3 ⟨rfl, h3, u3⟩
  go_wp2_with fail
  rw [rounds_succ]
  go_wp2_with fail
  refine (Step_b _ _ _ _ _ _ _ _ _ h3).mono ?_
  rintro e w4 ⟨rfl, h4, u4⟩
  have e1 : R = ((mstep ls (mstep ls (mstep ls (mstep ls l m).1 (mstep ls l m).2).1 (mstep ls (mstep ls l m).1 (mstep ls l m).2).2).1 (mstep ls (mstep ls (mstep ls l m).1 (mstep ls l m).2).1 (mstep ls (mstep ls l m).1 (mstep ls l m).2).2).2)) := HR.out
  have h5 : ∃ n', Bun w4 sb g mb lb R.1 ls n' R.2 := ⟨_, by rw [e1]; exact h4⟩
  clear h1 h2 h3 h4 e1
  obtain ⟨n', h5⟩ := h5
  go_wp2_with fail
  rw [rounds_succ]
  go_wp2_with fail
  refine (Item_c _ _ _ _ h5.mach h5.ok).mono ?_
  rintro e w6 ⟨rfl, hw⟩
  obtain rfl := hw.symm
  go_wp2_with fail
  go_ret
  exact ⟨rfl, ⟨_, h5⟩, ((u1.trans u2).trans u3).trans u4⟩

theorem run_push (ls l : List Int) (item : Int) (h0 : 0 < l.length) (hi : itemOf item = item) (hp : lkAt ls item ≠ 0) :
    mrun ls 4 l (pushM 0 item) = (mput (mput l (lkAt ls item) (mld l 0 % 4294967296)) 0 (wTurn (mld l 0) item), ⟨0, item, mld l 0, 0, mld l 0 % 4294967296, 1⟩) := by
  have e1 : wrap64 (0 + 1) = 1 := wrap64_id 1 (by decide) (by decide)
  have s1 : mstep ls l (pushM 0 item) = (l, ⟨0, item, mld l 0, 2, mld l 0 % 4294967296, 1⟩) := by
    show (l, Mac.mk 0 (itemOf item) (mld l 0) 2 (mld l 0 % 4294967296) (wrap64 (0 + 1))) = _
    rw [hi, e1]
  have s2 : mstep ls l ⟨0, item, mld l 0, 2, mld l 0 % 4294967296, 1⟩ = (mput l (lkAt ls item) (mld l 0 % 4294967296), ⟨0, item, mld l 0, 3, mld l 0 % 4294967296, 1⟩) := rfl
  have hl : (0 : Int) ≤ 0 ∧ (0 : Int) < (mput l (lkAt ls item) (mld l 0 % 4294967296)).length := by rw [mput_length]; omega
  have hm : mld (mput l (lkAt ls item) (mld l 0 % 4294967296)) 0 = mld l 0 := mld_mput_ne _ _ _ _ hp
  have s3 : mstep ls (mput l (lkAt ls item) (mld l 0 % 4294967296)) ⟨0, item, mld l 0, 3, mld l 0 % 4294967296, 1⟩ = (mput (mput l (lkAt ls item) (mld l 0 % 4294967296)) 0 (wTurn (mld l 0) item), ⟨0, item, mld l 0, 0, mld l 0 % 4294967296, 1⟩) := by
    have q := mswap_yes' hl (wTurn (mld l 0) item)
    rw [hm] at q
    show (mswap _ 0 (mld l 0) _, Mac.mk 0 item (mld l 0) (pcIf (mswapped _ 0 (mld l 0)) 1) _ _) = _
    rw [q.1, q.2]; rfl
  show mrun ls 3 (mstep ls l (pushM 0 item)).1 (mstep ls l (pushM 0 item)).2 = _
  rw [s1]
  show mrun ls 2 (mstep ls l _).1 (mstep ls l _).2 = _
  rw [s2]
  show mrun ls 1 (mstep ls _ _).1 (mstep ls _ _).2 = _
  rw [s3]
  rfl

theorem run_pop0 (ls l : List Int) (hz : mld l 0 % 4294967296 = 0) : mrun ls 4 l (popM 0) = (l, ⟨0, 0, mld l 0, 0, 0, 1⟩) := by
  have e1 : wrap64 (0 + 1) = 1 := wrap64_id 1 (by decide) (by decide)
  have s1 : mstep ls l (popM 0) = (l, ⟨0, 0, mld l 0, 0, 0, 1⟩) := by
    show (l, Mac.mk 0 (mld l 0 % 4294967296) (mld l 0) (pcIf (mld l 0 % 4294967296 == 0) 5) 0 (wrap64 (0 + 1))) = _
    rw [hz, e1]; rfl
  show mrun ls 3 (mstep ls l (popM 0)).1 (mstep ls l (popM 0)).2 = _
  rw [s1]
  rfl

theorem run_pop (ls l : List Int) (h0 : 0 < l.length) (hz : ¬ mld l 0 % 4294967296 = 0) :
    mrun ls 4 l (popM 0) = (mput l 0 (wTurn (mld l 0) (mld l (lkAt ls (mld l 0 % 4294967296)) % 4294967296)), ⟨0, mld l 0 % 4294967296, mld l 0, 0, mld l (lkAt ls (mld l 0 % 4294967296)) % 4294967296, 1⟩) := by
  have e1 : wrap64 (0 + 1) = 1 := wrap64_id 1 (by decide) (by decide)
  have hb : (mld l 0 % 4294967296 == 0) = false := by simpa using hz
  have s1 : mstep ls l (popM 0) = (l, ⟨0, mld l 0 % 4294967296, mld l 0, 5, 0, 1⟩) := by
    show (l, Mac.mk 0 (mld l 0 % 4294967296) (mld l 0) (pcIf (mld l 0 % 4294967296 == 0) 5) 0 (wrap64 (0 + 1))) = _
    rw [hb, e1]; rfl
  have s2 : mstep ls l ⟨0, mld l 0 % 4294967296, mld l 0, 5, 0, 1⟩ = (l, ⟨0, mld l 0 % 4294967296, mld l 0, 6, mld l (lkAt ls (mld l 0 % 4294967296)) % 4294967296, 1⟩) := rfl
  have hl : (0 : Int) ≤ 0 ∧ (0 : Int) < l.length := by omega
  have s3 : ∀ k, mstep ls l ⟨0, mld l 0 % 4294967296, mld l 0, 6, k, 1⟩ = (mput l 0 (wTurn (mld l 0) k), ⟨0, mld l 0 % 4294967296, mld l 0, 0, k, 1⟩) := by
    intro k
    have q := mswap_yes' hl (wTurn (mld l 0) k)
    show (mswap _ 0 (mld l 0) _, Mac.mk 0 _ (mld l 0) (pcIf (mswapped _ 0 (mld l 0)) 4) _ _) = _
    rw [q.1, q.2]; rfl
  show mrun ls 3 (mstep ls l (popM 0)).1 (mstep ls l (popM 0)).2 = _
  rw [s1]
  show mrun ls 2 (mstep ls l _).1 (mstep ls l _).2 = _
  rw [s2]
  show mrun ls 1 (mstep ls l _).1 (mstep ls l _).2 = _
  rw [s3]
  rfl

theorem wTurn_low (h k : Int) (k0 : 0 ≤ k) (k1 : k < 4294967296) : wTurn h k % 4294967296 = k := by unfold wTurn; omega
theorem wTurn_high (h k : Int) (k0 : 0 ≤ k) (k1 : k < 4294967296) : wTurn h k / 4294967296 = (h / 4294967296 + 1) % 4294967296 := by unfold wTurn; omega

end Go.Proofs.Ytaciapjohakpgaa

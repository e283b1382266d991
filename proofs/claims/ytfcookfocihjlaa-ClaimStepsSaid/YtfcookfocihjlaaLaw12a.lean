/- ClaimLater. -/
import Derived.Test.YtfcookfocihjlaaAwake12
set_option linter.unusedVariables false
set_option linter.unusedSimpArgs false
namespace Go.Proofs.Ytfcookfocihjlaa
open Go.ChangeShapes Go.WideShapes Go.ChangeAt Go.RowKit

def mk12 : Int := (c12 2).nodeAt 1 2
theorem mk12_bd : 2 ≤ mk12 ∧ mk12 < (l12 2).length := by decide +kernel

structure J12 (l : List Int) (top work : Int) : Prop where
  len : l.length = (l12 2).length
  wk : mld l 1 = work
  mark : mld l mk12 = top
  tb : 0 ≤ top ∧ top < 18446744073709551616

theorem j12_0 : J12 (l12 2) 0 0 := ⟨rfl, by kernel_rfl, by kernel_rfl, by decide⟩

theorem j12_add {l : List Int} {top work : Int} (h : J12 l top work) (w0 : 0 ≤ work) (w1 : work < 1000) : J12 (madd l 1 1) top (work + 1) := by
  have hb := mk12_bd
  have hl := h.len
  refine ⟨by unfold madd; rw [mput_length, hl], ?_, ?_, h.tb⟩
  · unfold madd; rw [mld_mput_same (by omega), h.wk, wrapu64_id _ (by omega) (by omega)]
  · unfold madd; rw [mld_mput_ne _ _ _ _ (by omega), h.mark]

theorem j12_put {l : List Int} {top work cy : Int} (h : J12 l top work) (c0 : 0 ≤ cy) (c1 : cy < 18446744073709551616) : J12 (mput l mk12 cy) cy work := by
  have hb := mk12_bd
  have hl := h.len
  refine ⟨by rw [mput_length, hl], ?_, ?_, c0, c1⟩
  · rw [mld_mput_ne _ _ _ _ (by omega), h.wk]
  · rw [mld_mput_same (by omega)]

theorem cs12_no {l : List Int} {top work cy : Int} (h : J12 l top work) (hc : cy ≤ top) : clStep (c12 2) l ⟨1, cy, 0, false, 1⟩ = (l, ⟨1, cy, top, false, 0⟩) := by
  have e : mld l ((c12 2).nodeAt 1 2) = top := h.mark
  simp only [clStep, e, clPc, hc, decide_true, cond_true]
theorem cs12_yes {l : List Int} {top work cy : Int} (h : J12 l top work) (hc : ¬ cy ≤ top) : clStep (c12 2) l ⟨1, cy, 0, false, 1⟩ = (l, ⟨1, cy, top, false, 2⟩) := by
  have e : mld l ((c12 2).nodeAt 1 2) = top := h.mark
  simp only [clStep, e, clPc, hc, decide_false, cond_false]
theorem cs12_swap {l : List Int} {top work cy : Int} (h : J12 l top work) : clStep (c12 2) l ⟨1, cy, top, false, 3⟩ = (mput l mk12 cy, ⟨1, cy, top, true, 0⟩) := by
  have hb := mk12_bd
  have hl := h.len
  have e : mswapped l ((c12 2).nodeAt 1 2) top = true := by
    have e1 : mld l ((c12 2).nodeAt 1 2) = top := h.mark
    have e2 : 0 ≤ (c12 2).nodeAt 1 2 ∧ (c12 2).nodeAt 1 2 < l.length := ⟨by have : 2 ≤ (c12 2).nodeAt 1 2 := hb.1; omega, by rw [hl]; exact hb.2⟩
    unfold mswapped
    rw [e1]
    simp [e2]
  simp only [clStep, e, clPc, cond_true, mswap, if_true]
  rfl

def Ws12 (l : List Int) : Prop := ∀ x ∈ l, 0 ≤ x ∧ x < 18446744073709551616

set_option maxRecDepth 100000 in
set_option maxHeartbeats 4000000 in
theorem later_ok (a : Option Addr) (cap : Nat) (cys : List Int) (w : World) (hsl : Sl w [] .u64 (.slice a cys.length cap) cys) (hws : Ws12 cys) :
    Calls Try.prog 3 #[.slice a cys.length cap] w fun e w' => e = .returned (.bool true) ∧ Below w.heap.size w w' := by
  have HSL := Lib.hid hsl
  clear hsl
  go_enter Try.func3, Try.ntmps3
  go_wp2_with fail
  refine (awake12 _).mono ?_
  rintro e w0 ⟨rfl, q0⟩
  have G0 := ((Has.nil w).up q0).addSl HSL.out
  clear q0
  by_cases hbig : (100 : Int) < (cys.length : Int)
  · go_wp2_with fail
    go_ret
    exact ⟨rfl, G0.below⟩
  · go_wp2_with fail
    refine (New_m G0 (c12 2) c12_ok2).mono ?_
    rintro e w1 ⟨mb, av, rv, rfl, G1⟩
    go_wp2_with fail
    refine (First_h G1 1 rfl c12_ok2).mono ?_
    rintro e w2 ⟨g, n, rfl, G2⟩
    go_wp2_with fail
    refine (New_h G2 _ (l12 2) (sl_of_ownN (G2.get 2 rfl)) (l12_len c12_ok2)).mono ?_
    rintro e w3 ⟨sb, sg, rfl, G3'⟩
    have G3 := G3'.pick [0, 1, 3] (by decide) (by simp)
    clear G0 G1 G2 G3'

    go_wp2_with fail
    go_loopw [7, 8, 9, 10, 11] (fun tv kv iv xv jv wr => ∃ (i : Nat) (l : List Int) (n top work : Int), i ≤ cys.length ∧ iv = .int .i64 i ∧ tv = .int .u64 top ∧ kv = .int .u64 work ∧ 0 ≤ work ∧ work ≤ i ∧ Hid (J12 l top work) ∧ Has w wr [slC _ .u64 (.slice a cys.length cap) cys, mapC _ mb av rv (c12 2), storeC _ sb sg l n]) (fun _ _ iv _ _ _ => 101 - (intOf iv).toNat)
    case atStart => exact ⟨0, l12 2, _, 0, 0, by omega, rfl, rfl, rfl, by omega, by omega, Lib.hid j12_0, G3⟩
    case round =>
      obtain ⟨i, l, n, top, work, hi, rfl, rfl, rfl, hw0, hw1, hJ, G⟩ := hrel
      have htb := hJ.out.tb
      clear G3
      by_cases hlt : i < cys.length
      · have hlt' : (i : Int) < (cys.length : Int) := by omega
        obtain ⟨cy, hcy⟩ : ∃ cy, cys[i]? = some cy := ⟨cys[i], by simp [hlt]⟩
        have hcb := hws cy (List.mem_of_getElem? hcy)
        have hne : cys ≠ [] := by rintro rfl; simp at hlt
        obtain ⟨cb, off, hab, -, -, hcell⟩ := sl_at (G.sl 0 rfl) hne
        subst hab
        have hc := hcell i cy hcy
        have hne := Lib.hid hne
        have hcy := Lib.hid hcy
        clear hcell
        by_cases hge : cy ≤ top
        · have hdg : decide (top < cy) = false := by simp; omega
          have ST := Lib.hid (cs12_no hJ.out hge)
          go_wp2_with fail
          refine (clNew_h G mb 1 cy).mono ?_
          rintro e x0 ⟨xb, rfl, H0⟩
          go_wp2_with fail
          refine wp_loop_rounds 5 ?_
          rw [rounds_succ]
          go_wp2_with fail
          refine (clStep_h H0 2 3 1 _ rfl rfl rfl (by decide) c12_ok2).mono ?_
          rw [ST.out]
          rintro e x1 ⟨rfl, H1⟩
          go_wp2_with fail
          rw [rounds_succ]
          go_wp2_with fail
          refine (clStep_h H1 2 3 1 _ rfl rfl rfl (by decide) c12_ok2).mono ?_
          rw [(show clStep (c12 2) l ⟨1, cy, top, false, 0⟩ = (l, ⟨1, cy, top, false, 0⟩) from rfl)]
          rintro e x2 ⟨rfl, H2⟩
          go_wp2_with fail
          rw [rounds_succ]
          go_wp2_with fail
          refine (clStep_h H2 2 3 1 _ rfl rfl rfl (by decide) c12_ok2).mono ?_
          rw [(show clStep (c12 2) l ⟨1, cy, top, false, 0⟩ = (l, ⟨1, cy, top, false, 0⟩) from rfl)]
          rintro e x3 ⟨rfl, H3⟩
          go_wp2_with fail
          rw [rounds_succ]
          go_wp2_with fail
          refine (clStep_h H3 2 3 1 _ rfl rfl rfl (by decide) c12_ok2).mono ?_
          rw [(show clStep (c12 2) l ⟨1, cy, top, false, 0⟩ = (l, ⟨1, cy, top, false, 0⟩) from rfl)]
          rintro e x4 ⟨rfl, H4⟩
          go_wp2_with fail

          rw [rounds_succ]
          go_wp2_with fail
          have hc4 : x4.cell? ⟨cb, off + i, none⟩ = some (.int .u64 cy) := by
            obtain ⟨cb', off', hab, -, -, hcell⟩ := sl_at (H4.sl 0 rfl) (hne.out)
            cases hab
            exact hcell i cy hcy.out
          go_region_held3 (fun w' => w'.cell? ⟨cb, off + i, none⟩ = some (.int .u64 cy)) (first | (with_reducible assumption) | (simp only [cell_drewN1, cell_drew1]; with_reducible assumption)) (first | (go_at_call 14; refine (clWon_h (H4.drewN _) 3 _ rfl).mono ?_; rintro e x5 ⟨rfl, d5, rfl⟩))
          go_wp2_with fail
          refine (Mark_q ((H4.drewN _).mAt 1 rfl c12_ok2) 1).mono ?_
          rintro e x6 ⟨rfl, d6, rfl⟩
          go_wp2_with fail
          refine (Load_h (H4.drewN _) 2 rfl _).mono ?_
          rw [show mld l ((c12 2).nodeAt 1 2) = top from hJ.out.mark]
          rintro e x7 ⟨rfl, H7⟩
          have hne1 : (top != top) = false := by simp
          go_wp2_with fail
          refine (Work_q (H7.mAt 1 rfl c12_ok2)).mono ?_
          rintro e x8 ⟨rfl, d8, rfl⟩
          go_wp2_with fail
          refine (Load_h (H7.drewN _) 2 rfl 1).mono ?_
          rw [show mld l 1 = work from hJ.out.wk]
          rintro e x9 ⟨rfl, H9⟩
          go_wp2_with fail
          go_roundw
          case rel => exact ⟨i + 1, _, _, top, work, by omega, by go_num, rfl, rfl, by omega, by omega, Lib.hid hJ.out, (H9.pick [0, 1, 2] (by decide) (by simp))⟩
          case measure => simp [intOf]; omega
        · have hdg : decide (top < cy) = true := by simp; omega
          have ST := Lib.hid (And.intro (cs12_yes hJ.out hge) (cs12_swap (cy := cy) (j12_add hJ.out hw0 (by omega))))
          have JY := Lib.hid (j12_put (cy := cy) (j12_add hJ.out hw0 (by omega)) hcb.1 hcb.2)
          go_wp2_with fail
          refine (clNew_h G mb 1 cy).mono ?_
          rintro e x0 ⟨xb, rfl, H0⟩
          go_wp2_with fail
          refine wp_loop_rounds 5 ?_
          rw [rounds_succ]
          go_wp2_with fail
          refine (clStep_h H0 2 3 1 _ rfl rfl rfl (by decide) c12_ok2).mono ?_
          rw [ST.out.1]
          rintro e x1 ⟨rfl, H1⟩
          go_wp2_with fail
          rw [rounds_succ]
          go_wp2_with fail
          refine (clStep_h H1 2 3 1 _ rfl rfl rfl (by decide) c12_ok2).mono ?_
          rw [(show clStep (c12 2) l ⟨1, cy, top, false, 2⟩ = (madd l 1 1, ⟨1, cy, top, false, 3⟩) from rfl)]
          rintro e x2 ⟨rfl, H2⟩
          go_wp2_with fail
          rw [rounds_succ]
          go_wp2_with fail
          refine (clStep_h H2 2 3 1 _ rfl rfl rfl (by decide) c12_ok2).mono ?_
          rw [ST.out.2]
          rintro e x3 ⟨rfl, H3⟩
          go_wp2_with fail
          rw [rounds_succ]
          go_wp2_with fail
          refine (clStep_h H3 2 3 1 _ rfl rfl rfl (by decide) c12_ok2).mono ?_
          rw [(show ∀ l', clStep (c12 2) l' ⟨1, cy, top, true, 0⟩ = (l', ⟨1, cy, top, true, 0⟩) from fun _ => rfl)]
          rintro e x4 ⟨rfl, H4⟩
          go_wp2_with fail

          rw [rounds_succ]
          go_wp2_with fail
          have hc4 : x4.cell? ⟨cb, off + i, none⟩ = some (.int .u64 cy) := by
            obtain ⟨cb', off', hab, -, -, hcell⟩ := sl_at (H4.sl 0 rfl) (hne.out)
            cases hab
            exact hcell i cy hcy.out
          go_region_held3 (fun w' => w'.cell? ⟨cb, off + i, none⟩ = some (.int .u64 cy)) (first | (with_reducible assumption) | (simp only [cell_drewN1, cell_drew1]; with_reducible assumption)) (first | (go_at_call 14; refine (clWon_h (H4.drewN _) 3 _ rfl).mono ?_; rintro e x5 ⟨rfl, d5, rfl⟩))
          go_wp2_with fail
          refine (Mark_q ((H4.drewN _).mAt 1 rfl c12_ok2) 1).mono ?_
          rintro e x6 ⟨rfl, d6, rfl⟩
          go_wp2_with fail
          refine (Load_h (H4.drewN _) 2 rfl _).mono ?_
          rw [show mld (mput (madd l 1 1) mk12 cy) ((c12 2).nodeAt 1 2) = cy from JY.out.mark]
          rintro e x7 ⟨rfl, H7⟩
          have hne1 : (cy != cy) = false := by simp
          go_wp2_with fail
          refine (Work_q (H7.mAt 1 rfl c12_ok2)).mono ?_
          rintro e x8 ⟨rfl, d8, rfl⟩
          go_wp2_with fail
          refine (Load_h (H7.drewN _) 2 rfl 1).mono ?_
          rw [show mld (mput (madd l 1 1) mk12 cy) 1 = work + 1 from JY.out.wk]
          rintro e x9 ⟨rfl, H9⟩
          go_wp2_with fail
          go_roundw
          case rel => exact ⟨i + 1, _, _, cy, (work + 1), by omega, by go_num, rfl, rfl, by omega, by omega, Lib.hid JY.out, (H9.pick [0, 1, 2] (by decide) (by simp))⟩
          case measure => simp [intOf]; omega
      · have hge : ¬ (i : Int) < (cys.length : Int) := by omega
        go_wp2_with fail
        go_ret
        exact ⟨rfl, G.below⟩

theorem walk_ClaimLater (a : Option Addr) (len cap : Nat) (zs : List Int) (w : World) (hr : IsRow .u64 w a len cap zs) :
    Calls Try.prog 3 #[.slice a len cap] w fun e w' => e = .returned (.bool true) ∧ Below w.heap.size w w' := by
  have hsl := sl_of_row hr
  have hws : Ws12 (zs.take len) := by
    intro x hx
    have hm := List.mem_of_mem_take hx
    rcases hr with ⟨_, _, _, rfl⟩ | ⟨y, _, _, _, _, _, hwf⟩
    · simp at hm
    · have := Go.bounds_u64 (hwf x hm); omega
  have hlen : (zs.take len).length = len := by
    rcases hr with ⟨_, rfl, _, rfl⟩ | ⟨x, _, hl, _, hz, _⟩
    · rfl
    · rw [List.length_take]; omega
  generalize zs.take len = l at hsl hlen hws
  subst hlen
  exact later_ok a cap l w hsl hws

end Go.Proofs.Ytfcookfocihjlaa

/- The walk of StackWalk: it answers true, and nothing that was there is changed. No condition but that the arguments can be read. -/
import Derived.Test.YtaciapjohakpgaaAwake9
set_option linter.unusedVariables false
namespace Go.Proofs.Ytaciapjohakpgaa
open Go.ChangeShapes Go.WideShapes Go.ChangeAt Go.RowKit

theorem ws_of_wf {l : List Int} (h : ∀ x ∈ l, (Lit.int .u64 x).wf = true) : Ws l := fun x hx => by have := Go.bounds_u64 (h x hx); omega

set_option maxRecDepth 100000 in
set_option maxHeartbeats 2000000 in
theorem walk_StackWalk (a : Option Addr) (len cap : Nat) (zs : List Int) (hd : Int) (a' : Option Addr) (len' cap' : Nat) (zs' : List Int) (most : Int) (w : World) (hr : IsRow .u64 w a len cap zs) (hr' : IsRow .i64 w a' len' cap' zs') :
    Calls Try.prog 3 #[.slice a len cap, .agg #[.int .i64 hd, .slice a' len' cap'], .int .i64 most] w fun e w' => e = .returned (.bool true) ∧ Below w.heap.size w w' := by
  obtain ⟨l, rfl, hsl, hwf⟩ := row_opens hr
  obtain ⟨ls, rfl, hls, _⟩ := row_opens hr'
  have hws := ws_of_wf hwf
  clear hr hr' hwf
  obtain ⟨w0, hw0⟩ : ∃ w0, w0 = w.alloc (.cells #[.int .i64 hd, .slice a' ls.length cap'] 25) := ⟨_, rfl⟩
  have b0 : Below w.heap.size w w0 := by rw [hw0]; exact below_box w _ 0
  have K0 : w0.heap[w.heap.size]? = some (.cells #[.int .i64 hd, .slice a' ls.length cap'] 25 (0, 0)) := by rw [hw0]; exact blk_new w _ 0
  have H0 := Lib.hid hw0
  have z0 : w.heap.size < w0.heap.size := blk_lt K0
  clear hw0
  go_enter Try.func3, Try.ntmps3
  go_wp2_with fail
  rw [← H0.out]
  refine (awake9 w0).mono ?_
  rintro e w1 ⟨rfl, b1⟩
  have K1 := (b1.block _ z0).trans K0
  have z1 := b1.size
  have b01 := b0.trans (b1.mono (by omega))
  clear b0 b1 K0
  obtain ⟨c0, c1, fz⟩ := row2 K1
  by_cases h1 : (60 : Int) < (l.length : Int)
  · go_wp2_with fail
    go_ret
    exact ⟨rfl, b01⟩
  by_cases h2 : (100 : Int) < most
  · have g1 : decide ((60 : Int) < (l.length : Int)) = false := by simpa using h1
    go_wp2_with fail
    go_ret
    exact ⟨rfl, b01⟩
  by_cases h3 : (60 : Int) < (ls.length : Int)
  · have g1 : decide ((60 : Int) < (l.length : Int)) = false := by simpa using h1
    have g2 : decide ((100 : Int) < most) = false := by simpa using h2
    go_wp2_with fail
    go_ret
    exact ⟨rfl, b01⟩
  have g1 : decide ((60 : Int) < (l.length : Int)) = false := by simpa using h1
  have g2 : decide ((100 : Int) < most) = false := by simpa using h2
  have g3 : decide ((60 : Int) < (ls.length : Int)) = false := by simpa using h3
  have hl12 : ls.length < 1000000000000 := by omega
  have hm12 : most < 1000000000000 := by omega
  go_wp2_with fail
  clear c0 c1 fz
  have lk1 : w.heap.size < w1.drew.heap.size := blk_lt (w := w1) K1
  obtain ⟨c0, c1, fz⟩ := row2 (w := w1.drew) K1
  have sl1 : Sl w1.drew [] .u64 (.slice a l.length cap) l := sl_below hsl b01.drew
  have ls1 : Sl w1.drew [] .i64 (.slice a' ls.length cap') ls := sl_below hls b01.drew
  clear h1 h2 h3
  go_region_held3 (fun w' => w'.cell? ⟨w.heap.size, 0, none⟩ = some (.int .i64 hd) ∧ w'.cell? ⟨w.heap.size, 1, none⟩ = some (.slice a' ls.length cap')) (first | (refine ⟨?_, ?_⟩ <;> assumption)) (first
    | (go_at_call 11; refine (Links_c (A := []) _ _ _ (by simp) ls1).mono ?_; rintro e w2 ⟨rfl, L2, b2⟩; have d0 := (b2.cell (p := ⟨w.heap.size, 0, none⟩) lk1).trans c0; have d1 := (b2.cell (p := ⟨w.heap.size, 1, none⟩) lk1).trans c1; have sl2 := sl_below sl1 b2; have ls2 := sl_below ls1 b2; have lk2 := Nat.lt_of_lt_of_le lk1 b2.size)
    | (go_at_call 10; refine (Walk_c (A := []) _ _ _ _ _ _ _ _ sl2 L2 hl12 hm12).mono ?_; rintro e w3 ⟨v3, rfl, hown3, _, b3⟩; have e0 := (b3.cell (p := ⟨w.heap.size, 0, none⟩) lk2).trans d0; have e1 := (b3.cell (p := ⟨w.heap.size, 1, none⟩) lk2).trans d1; have sl3 := sl_below sl2 b3; have ls3 := sl_below ls2 b3; have lk3 := Nat.lt_of_lt_of_le lk2 b3.size)
    | (go_at_call 12; refine (RWalk_c (A := []) (A' := []) _ _ _ _ _ _ _ _ sl3 ls3 hl12 hm12 hws).mono ?_; rintro e w4 ⟨v4, rfl, hown4, b4⟩; have f0 := (b4.cell (p := ⟨w.heap.size, 0, none⟩) lk3).trans e0; have f1 := (b4.cell (p := ⟨w.heap.size, 1, none⟩) lk3).trans e1)
    | (go_at_call 9; refine (RSameI_c (A := []) (A' := []) _ _ _ _ _ (sl_of_new (slNew_of_own (ownI_kept hown3 b4)) (by simp)) (sl_of_new (slNew_of_own hown4) (by simp)) (walkF_len _ _ _ hm12)).mono ?_; rintro e w5 ⟨rfl, dn, rfl⟩; have h0 : (w4.drewN dn).cell? ⟨w.heap.size, 0, none⟩ = some (.int .i64 hd) := f0; have h1 : (w4.drewN dn).cell? ⟨w.heap.size, 1, none⟩ = some (.slice a' ls.length cap') := f1))
  go_wp2_with fail
  go_ret
  have bb : Below w1.heap.size w1 w4 := (((Below.refl _ w1).drew.trans b2).trans (b3.mono b2.size)).trans (b4.mono (Nat.le_trans b2.size b3.size))
  exact ⟨by simp, below_drewN (b01.trans (bb.mono b01.size)) _⟩

end Go.Proofs.Ytaciapjohakpgaa

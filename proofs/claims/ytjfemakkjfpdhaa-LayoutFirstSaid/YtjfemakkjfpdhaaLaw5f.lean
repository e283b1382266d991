/- LayoutFirst. -/
import Derived.Test.YtjfemakkjfpdhaaLaw5a
import Derived.Test.YtjfemakkjfpdhaaRFirst5
set_option linter.unusedVariables false
set_option linter.unusedSimpArgs false
namespace Go.Proofs.Ytjfemakkjfpdhaa
open Go.ChangeShapes Go.WideShapes Go.ChangeAt Go.RowKit

set_option maxRecDepth 100000 in
set_option maxHeartbeats 8000000 in
theorem first_ok (c : Cfg) (h : CfgOk c) (w : World) :
    Calls Try.prog 8 #[cfgV c] w fun e w' => e = .returned (.bool true) ∧ Below w.heap.size w w' := by
  have hal := (cfg_bd h).al
  have hn0 := (cfg_bd h).n0
  have hpos : 0 < c.all := by have := (cfg_bd h).pk; have := (cfg_bd h).dqP; have := h.mu; omega
  have TL := Lib.hid (things_seg h).2
  have FL := Lib.hid (first_len c)
  have WF := Lib.hid (words_first h)
  have hok : cfgOk c = true := (cfgOk_iff c).2 h
  have HOK := Lib.hid hok
  clear hok
  unfold cfgV cfgCells
  go_enter Try.func8, Try.ntmps8
  have G0 := (Has.nil w).blkNew (cfgCells c) 24
  go_wp2_with fail
  refine (awake5 _).mono ?_
  rintro e w1 ⟨rfl, q1⟩
  have G1 := G0.up q1
  obtain ⟨b0, b1, b2, b3, b4, b5, b6, b7, b8, b9, b10, b11, fb⟩ := row12 (G1.get 0 rfl)
  clear G0 q1
  go_wp2_with fail
  refine (model_c c _).mono ?_
  rintro e w2 ⟨rfl, q2⟩
  have G2 := G1.up q2
  clear G1 q2 b0 b1 b2 b3 b4 b5 b6 b7 b8 b9 b10 b11 fb
  go_wp2_with fail
  refine (RCheck_c c _).mono ?_
  rw [HOK.out]
  rintro e w3 ⟨rfl, q3⟩
  have G3 := G2.up q3
  have he : errB true = 0 := rfl
  rw [he]
  obtain ⟨b0, b1, b2, b3, b4, b5, b6, b7, b8, b9, b10, b11, fb⟩ := row12 (G3.get 0 rfl)
  clear G2 q3 he
  go_wp2_with fail
  refine (New_m G3 c h).mono ?_
  rintro e w4 ⟨mb, av, rv, rfl, G4⟩
  clear G3 b0 b1 b2 b3 b4 b5 b6 b7 b8 b9 b10 b11 fb
  obtain ⟨b0, b1, b2, b3, b4, b5, b6, b7, b8, b9, b10, b11, fb⟩ := row12 (G4.get 0 rfl)
  go_wp2_with fail
  refine (First_h G4 1 rfl h).mono ?_
  rintro e w5 ⟨lg, ln, rfl, G5⟩
  obtain ⟨la', lc', hlv⟩ := own_is (G5.get 2 rfl)
  have eln : ln = c.first.length := by simp only [Value.slice.injEq] at hlv; exact hlv.2.1
  subst eln
  clear G4 hlv b0 b1 b2 b3 b4 b5 b6 b7 b8 b9 b10 b11 fb
  obtain ⟨b0, b1, b2, b3, b4, b5, b6, b7, b8, b9, b10, b11, fb⟩ := row12 (G5.get 0 rfl)
  go_wp2_with fail
  refine (model_c c _).mono ?_
  rintro e w6 ⟨rfl, q6⟩
  have G6 := G5.up q6
  clear G5 q6 b0 b1 b2 b3 b4 b5 b6 b7 b8 b9 b10 b11 fb
  go_wp2_with fail
  refine (RFirst_h G6 c h).mono ?_
  rintro e w7 ⟨wv, rfl, G7⟩
  clear G6
  have hml : (c.things.map (gFirst c)).length = c.things.length := List.length_map ..
  have ML := Lib.hid (show (c.things.map (gFirst c)).length = c.first.length by rw [FL.out, hml]; have := TL.out; omega)
  have hmp : 0 < (c.things.map (gFirst c)).length := by rw [hml]; have := TL.out; omega
  obtain ⟨wa, wc, rfl⟩ := own_is (G7.get 3 rfl)
  rw [hml] at G7 ⊢
  have ML2 := Lib.hid hml
  clear hml
  obtain ⟨wg, woff, rfl, -, -, -, -, -⟩ := own_atV (G7.get 3 rfl) hmp
  have hne : ((c.first.length : Int) != (c.things.length : Int)) = false := by rw [← ML2.out, ML.out]; simp
  have hfl : c.first.length ≤ 9000 ∧ 0 < c.first.length := by rw [FL.out]; omega
  go_wp2_with fail
  go_loopw [8] (fun iv wr => ∃ i : Nat, i ≤ c.first.length ∧ iv = .int .i64 i ∧ Has w wr [blkC _ w.heap.size (cfgCells c) 24, mapC _ mb av rv c, ownN _ 56 .u64 (.slice (some ⟨lg, 0, none⟩) c.first.length c.first.length) c.first, ownN _ 56 .u64 (.slice (some ⟨wg, woff, none⟩) c.things.length wc) (c.things.map (gFirst c))]) (fun iv _ => 9001 - (intOf iv).toNat)
  case atStart => exact ⟨0, by omega, rfl, G7⟩
  case round =>
    obtain ⟨i, hi, rfl, G⟩ := hrel
    clear G7
    by_cases hlt : i < c.first.length
    · have hlt' : (i : Int) < (c.first.length : Int) := by omega
      have hlm : (i : Int) < (c.things.length : Int) := by rw [← ML2.out, ML.out]; exact hlt'
      obtain ⟨x, hx⟩ : ∃ x, c.things[i]? = some x := ⟨c.things[i]'(by have := TL.out; have := FL.out; omega), by simp⟩
      have hf := WF.out i x hx
      obtain ⟨lcell, -⟩ := own_at0 (G.get 2 rfl) hfl.2
      have c1 := lcell i (.int .u64 (gFirst c x)) (by rw [List.getElem?_map, hf]; rfl)
      obtain ⟨g, off, hgg, -, -, -, wcell, -⟩ := own_atV (G.get 3 rfl) hmp
      cases hgg
      have c2 := wcell i (.int .u64 (gFirst c x)) (by rw [List.getElem?_map, List.getElem?_map, hx]; rfl)
      obtain ⟨X, hX⟩ : ∃ X, X = gFirst c x := ⟨_, rfl⟩
      rw [← hX] at c1 c2
      have hxx : (X != X) = false := by simp
      clear lcell wcell hf hx hX
      go_wp2_with fail
      go_quiet (fail)
      go_wp2_with fail
      go_roundw
      case rel => exact ⟨i + 1, by omega, by go_num, by first | exact G.drewN _ | exact G⟩
      case measure => first | (simp [intOf]; done) | (simp [intOf]; omega)
    · have hge : ¬ (i : Int) < (c.first.length : Int) := by omega
      go_wp2_with fail
      go_ret
      exact ⟨rfl, G.below⟩

set_option maxRecDepth 100000 in
theorem first_no (c : Cfg) (h : cfgOk c = false) (w : World) :
    Calls Try.prog 8 #[cfgV c] w fun e w' => e = .returned (.bool true) ∧ Below w.heap.size w w' := by
  have HOK := Lib.hid h
  clear h
  unfold cfgV cfgCells
  go_enter Try.func8, Try.ntmps8
  have G0 := (Has.nil w).blkNew (cfgCells c) 24
  go_wp2_with fail
  refine (awake5 _).mono ?_
  rintro e w1 ⟨rfl, q1⟩
  have G1 := G0.up q1
  obtain ⟨b0, b1, b2, b3, b4, b5, b6, b7, b8, b9, b10, b11, fb⟩ := row12 (G1.get 0 rfl)
  clear G0 q1
  go_wp2_with fail
  refine (model_c c _).mono ?_
  rintro e w2 ⟨rfl, q2⟩
  have G2 := G1.up q2
  clear G1 q2 b0 b1 b2 b3 b4 b5 b6 b7 b8 b9 b10 b11 fb
  go_wp2_with fail
  refine (RCheck_c c _).mono ?_
  rw [HOK.out]
  rintro e w3 ⟨rfl, q3⟩
  have G3 := G2.up q3
  have he : errB false = 21 := rfl
  rw [he]
  clear he
  go_wp2_with fail
  go_ret
  exact ⟨rfl, G3.below⟩

theorem walk_LayoutFirst (c0 c1 c2 c3 c4 mr mu dq ch bf rt sw : Int) (w : World) :
    Calls Try.prog 8 #[.agg #[.int .i64 c0, .int .i64 c1, .int .i64 c2, .int .i64 c3, .int .i64 c4, .int .i64 mr, .int .i64 mu, .int .i64 dq, .int .i64 ch, .int .i64 bf, .int .i64 rt, .int .i64 sw]] w fun e w' => e = .returned (.bool true) ∧ Below w.heap.size w w' := by
  cases h : cfgOk ⟨c0, c1, c2, c3, c4, mr, mu, dq, ch, bf, rt, sw⟩ with
  | true => exact first_ok ⟨c0, c1, c2, c3, c4, mr, mu, dq, ch, bf, rt, sw⟩ ((cfgOk_iff _).1 h) w
  | false => exact first_no ⟨c0, c1, c2, c3, c4, mr, mu, dq, ch, bf, rt, sw⟩ h w

end Go.Proofs.Ytjfemakkjfpdhaa

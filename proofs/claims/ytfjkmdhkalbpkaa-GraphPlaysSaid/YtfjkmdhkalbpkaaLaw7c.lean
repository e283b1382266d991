/- The walk of GraphTogether. No condition. -/
import Derived.Test.YtfjkmdhkalbpkaaLaw7a
import Derived.Test.YtfjkmdhkalbpkaaGr7q
set_option linter.unusedVariables false
set_option linter.unusedSimpArgs false
namespace Go.Proofs.Ytfjkmdhkalbpkaa
open Go.ChangeShapes Go.WideShapes Go.ChangeAt Go.RowKit

theorem rts_len6 {G : PG} (ok : G.Ok) (h0 : 0 ≤ G.most) (h1 : G.most < 1000000) (m : Int) : (G.rts m).length < 1000000 := by
  unfold PG.rts
  cases e : G.L m with
  | none => simp
  | some l => have := ok.rl l (PG.L_mem e); show l.length < 1000000; omega

set_option maxRecDepth 100000 in
set_option maxHeartbeats 8000000 in
theorem together_ok (va : Value) (na : Nat) (mo a : Int) (w : World) (ha : IsRows actK w va na) (hm0 : 0 ≤ mo) (hm1 : mo < 256) :
    Calls Try.prog 9 #[va, .int .u8 mo, .int .i64 a] w fun e w' => e = .returned (.bool true) ∧ Below w.heap.size w w' := by
  have RA := Lib.hid ha
  obtain ⟨aa, ac, rfl⟩ := rows_val ha
  clear ha
  by_cases h1 : (40 : Int) < (na : Int)
  · go_enter Try.func9, Try.ntmps9
    go_wp2_with fail
    refine (awake7 _).mono ?_
    rintro e w1 ⟨rfl, q1⟩
    go_wp2_with fail
    go_ret
    exact ⟨rfl, q1⟩
  have em : mo % 3 = 0 ∨ mo % 3 = 1 ∨ mo % 3 = 2 := by omega
  obtain ⟨x, y, hx, hy, hxy⟩ : ∃ x y : Nat, mo % 3 = (x : Int) ∧ ((x : Int) + 1) % 3 = (y : Int) ∧ x ≠ y := by
    rcases em with q | q | q
    · exact ⟨0, 1, by omega, by omega, by omega⟩
    · exact ⟨1, 2, by omega, by omega, by omega⟩
    · exact ⟨2, 0, by omega, by omega, by omega⟩
  have hx3 : x < 3 := by omega
  have HX := Lib.hid hx
  have HY := Lib.hid hy
  have HXY := Lib.hid hxy
  clear em hxy
  go_enter Try.func9, Try.ntmps9
  go_wp2_with fail
  refine (awake7 _).mono ?_
  rintro e w1 ⟨rfl, q1⟩
  have G1 := (Has.nil w).up q1
  go_wp2_with fail
  refine (New_h G1 3 6 3 (by decide)).mono ?_
  rintro e w2 ⟨gb, S0, rfl, G2⟩
  go_wp2_with fail
  refine (New_h G2 3 6 3 (by decide)).mono ?_
  rintro e w3 ⟨hb, T0, rfl, G3⟩
  have B3 := Lib.hid (newG_gb 3 6 3)
  clear G1 q1 G2
  go_wp2_with fail
  go_loopw [12] (fun iv wr => ∃ (k : Nat) (S T : GS) (G : PG), k ≤ na ∧ iv = .int .i64 k ∧ Hid (GB G 6 3 (k + 1)) ∧ Has w wr [grC _ gb S G, grC _ hb T G]) (fun iv _ => na - (intOf iv).toNat)
  case atStart => exact ⟨0, S0, T0, _, by omega, rfl, B3, G3⟩
  case round =>
  obtain ⟨k, S, T, G, hk, rfl, B, H⟩ := hrel
  clear G3
  by_cases hlt : k < na
  · have hlt' : (k : Int) < (na : Int) := by omega
    obtain ⟨pb, poff, pcap, d, m, a', s, b, hv, hd, hc⟩ := act_at RA.out k hlt
    cases hv
    obtain ⟨p0, p1, p2, p3, p4⟩ := hc _ _ H
    have sm := B.out.small (by decide) (by decide) (by omega)
    have C := Lib.hid (play_h H 0 rfl B.out.ok sm.1 sm.2.1 d m a' s b hd)
    have HC := Lib.hid hc
    clear hc
    go_wp2_with fail
    refine C.out.mono ?_
    rintro e w4 ⟨rfl, S', H'⟩
    have H4 : Has w w4 [grC _ gb S' (G.act d m a' s b).1, grC _ hb T G] := H'
    clear H' p0 p1 p2 p3 p4 C
    obtain ⟨p0, p1, p2, p3, p4⟩ := HC.out _ _ H4
    have C := Lib.hid (play_h H4 1 rfl B.out.ok sm.1 sm.2.1 d m a' s b hd)
    go_wp2_with fail
    refine C.out.mono ?_
    rintro e w5 ⟨rfl, T', H''⟩
    go_wp2_with fail
    go_roundw
    case rel => exact ⟨k + 1, S', T', _, by omega, by go_num, Lib.hid (gb_act B.out d m a' s b), H''⟩
    case measure => simp [intOf]; omega
  · have hkn : k = na := by omega
    subst hkn
    have sm := B.out.small (by decide) (by decide) (by omega)
    have sm1 := sm.1
    have sm2 := sm.2.1
    have BP := gb_act B.out 3 x 0 0 0
    have BD := gb_act B.out 4 y a 0 0
    have BPD := gb_act BP 4 y a 0 0
    have BDP := gb_act BD 3 x 0 0 0
    have eP : (G.act 3 x 0 0 0).1 = (G.pop x).1 := rfl
    have eD : (G.act 4 y a 0 0).1 = (G.dup y a).1 := rfl
    rw [eP] at BP BPD
    rw [eD] at BD BDP
    have ePD : ((G.pop x).1.act 4 y a 0 0).1 = ((G.pop x).1.dup y a).1 := rfl
    have eDP : ((G.dup y a).1.act 3 x 0 0 0).1 = ((G.dup y a).1.pop x).1 := rfl
    rw [ePD] at BPD
    rw [eDP] at BDP
    have smP := BP.small (by decide) (by decide) (by omega)
    have smD := BD.small (by decide) (by decide) (by omega)
    have smE := BPD.small (by decide) (by decide) (by omega)
    have tg := PG.together G x y a HXY.out
    have TG := Lib.hid tg
    have BPH := Lib.hid (And.intro BP smP)
    have BDH := Lib.hid (And.intro BD smD)
    have BEH := Lib.hid (And.intro BPD smE)
    clear BP BD BPD BDP smP smD smE eP eD ePD eDP tg hlt sm
    go_wp2_with fail
    refine (Pop_h H 0 rfl B.out.ok sm1 sm2 x).mono ?_
    rintro e w4 ⟨rfl, S4, H4'⟩
    have H4 : Has w w4 [grC _ gb S4 (G.pop x).1, grC _ hb T G] := H4'
    clear H H4'
    go_wp2_with fail
    refine (Dup_h H4 0 rfl BPH.out.1.ok BPH.out.2.1 BPH.out.2.2.1 y a).mono ?_
    rintro e w5 ⟨rfl, S5, H5'⟩
    have H5 : Has w w5 [grC _ gb S5 ((G.pop x).1.dup y a).1, grC _ hb T G] := H5'
    clear H4 H5'
    go_wp2_with fail
    refine (Dup_h H5 1 rfl B.out.ok sm1 sm2 y a).mono ?_
    rintro e w6 ⟨rfl, T6, H6'⟩
    have H6 : Has w w6 [grC _ gb S5 ((G.pop x).1.dup y a).1, grC _ hb T6 (G.dup y a).1] := H6'
    clear H5 H6'
    go_wp2_with fail
    refine (Pop_h H6 1 rfl BDH.out.1.ok BDH.out.2.1 BDH.out.2.2.1 x).mono ?_
    rintro e w7 ⟨rfl, T7, H7'⟩
    have H7 : Has w w7 [grC _ gb S5 ((G.pop x).1.dup y a).1, grC _ hb T7 ((G.pop x).1.dup y a).1] := by rw [TG.out.1] at H7' ⊢; exact H7'
    clear H6 H7'
    rw [TG.out.2.1, TG.out.2.2]
    obtain ⟨E, hE⟩ : ∃ E, E = ((G.pop x).1.dup y a).1 := ⟨_, rfl⟩
    rw [← hE] at H7 BEH
    generalize ((G.dup y a).1.pop x).2 = b1
    generalize (G.dup y a).2 = b2
    have f1 : (b1 == b1) = true := by simp
    have f2 : (b2 == b2) = true := by simp
    clear hE TG BPH BDH B sm1 sm2
    go_wp2_with fail
    refine (Roots_h H7 0 rfl BEH.out.1.ok BEH.out.2.1 BEH.out.2.2.1 x).mono ?_
    rintro e w8 ⟨v8, rfl, H8⟩
    go_wp2_with fail
    refine (Roots_h H8 1 rfl BEH.out.1.ok BEH.out.2.1 BEH.out.2.2.1 x).mono ?_
    rintro e w9 ⟨v9, rfl, H9⟩
    go_wp2_with fail
    refine (Same_h H9 2 3 rfl rfl (rts_len6 BEH.out.1.ok (by rw [BEH.out.1.most]; decide) BEH.out.2.1 _)).mono ?_
    rw [show (E.rts x == E.rts x) = true by simp]
    rintro e w10 ⟨rfl, d10, rfl⟩
    have H10 := (H9.drewN d10).pick [0, 1] (by decide) (by simp)
    clear H7 H8 H9
    go_wp2_with fail
    refine (Roots_h H10 0 rfl BEH.out.1.ok BEH.out.2.1 BEH.out.2.2.1 y).mono ?_
    rintro e w11 ⟨v11, rfl, H11⟩
    go_wp2_with fail
    refine (Roots_h H11 1 rfl BEH.out.1.ok BEH.out.2.1 BEH.out.2.2.1 y).mono ?_
    rintro e w12 ⟨v12, rfl, H12⟩
    go_wp2_with fail
    refine (Same_h H12 2 3 rfl rfl (rts_len6 BEH.out.1.ok (by rw [BEH.out.1.most]; decide) BEH.out.2.1 _)).mono ?_
    rw [show (E.rts y == E.rts y) = true by simp]
    rintro e w13 ⟨rfl, d13, rfl⟩
    have H13 := (H12.drewN d13).pick [0, 1] (by decide) (by simp)
    clear H10 H11 H12
    go_wp2_with fail
    refine (Reach_h H13 0 rfl BEH.out.1.ok BEH.out.2.2.2.1 BEH.out.2.2.1 BEH.out.2.2.2.2).mono ?_
    rintro e w14 ⟨v14, rfl, H14⟩
    go_wp2_with fail
    refine (Reach_h H14 1 rfl BEH.out.1.ok BEH.out.2.2.2.1 BEH.out.2.2.1 BEH.out.2.2.2.2).mono ?_
    rintro e w15 ⟨v15, rfl, H15⟩
    go_wp2_with fail
    refine (Same_h H15 2 3 rfl rfl (by have := length_reach BEH.out.1.ok; have := BEH.out.2.2.1; omega)).mono ?_
    rw [show (E.reach == E.reach) = true by simp]
    rintro e w16 ⟨rfl, d16, rfl⟩
    go_wp2_with fail
    go_ret
    exact ⟨rfl, (H15.drewN d16).below⟩

theorem walk_GraphTogether (aa : Option Addr) (al ac na : Nat) (mo a : Int) (w : World) (ha : IsRows actK w (.slice aa al ac) na) (hm0 : 0 ≤ mo) (hm1 : mo < 256) :
    Calls Try.prog 9 #[.slice aa al ac, .int .u8 mo, .int .i64 a] w fun e w' => e = .returned (.bool true) ∧ Below w.heap.size w w' := together_ok _ na mo a w ha hm0 hm1

end Go.Proofs.Ytfjkmdhkalbpkaa

/- The walk of GraphRefused. No condition. -/
import Derived.Test.YtfjkmdhkalbpkaaLaw7c
set_option linter.unusedVariables false
set_option linter.unusedSimpArgs false
namespace Go.Proofs.Ytfjkmdhkalbpkaa
open Go.ChangeShapes Go.WideShapes Go.ChangeAt Go.RowKit

theorem rts_len {G : PG} (ok : G.Ok) (h0 : 0 ≤ G.most) (m : Int) : ((G.rts m).length : Int) ≤ G.most := by
  unfold PG.rts
  cases e : G.L m with
  | none => simpa using h0
  | some l => exact ok.rl l (PG.L_mem e)
theorem slots_len6 {G : PG} (ok : G.Ok) (v : Int) : (G.slots v).length < 1000000 := by have := PG.slots_len ok v; omega

set_option maxRecDepth 100000 in
set_option maxHeartbeats 8000000 in
theorem refused_ok (va : Value) (na : Nat) (mo : Int) (w : World) (ha : IsRows actK w va na) (hm0 : 0 ≤ mo) (hm1 : mo < 256) :
    Calls Try.prog 6 #[va, .int .u8 mo] w fun e w' => e = .returned (.bool true) ∧ Below w.heap.size w w' := by
  have RA := Lib.hid ha
  obtain ⟨aa, ac, rfl⟩ := rows_val ha
  clear ha
  by_cases h1 : (60 : Int) < (na : Int)
  · go_enter Try.func6, Try.ntmps6
    go_wp2_with fail
    refine (awake7 _).mono ?_
    rintro e w1 ⟨rfl, q1⟩
    go_wp2_with fail
    go_ret
    exact ⟨rfl, q1⟩
  go_enter Try.func6, Try.ntmps6
  go_wp2_with fail
  refine (awake7 _).mono ?_
  rintro e w1 ⟨rfl, q1⟩
  have G1 := (Has.nil w).up q1
  obtain ⟨K, hK⟩ : ∃ K, K = mo % 8 := ⟨_, rfl⟩
  have hk0 : 0 ≤ K := by omega
  have hk8 : K < 8 := by omega
  have HKK := Lib.hid hK.symm
  have eK : mo % 8 = K := hK.symm
  clear hK
  go_wp2_with fail
  refine (New_h G1 2 K 2 (by omega)).mono ?_
  rintro e w2 ⟨gb, S0, rfl, G2⟩
  go_wp2_with fail
  refine (New_h G2 2 K 2 (by omega)).mono ?_
  rintro e w3 ⟨hb, T0, rfl, G3⟩
  have B3' := newG_gb 2 K 2
  rw [show max K 0 = K by omega] at B3'
  have B3 := Lib.hid B3'
  clear G1 q1 G2 eK B3'
  go_wp2_with fail
  go_loopw [9, 10, 11, 12] (fun iv _ _ _ wr => ∃ (k : Nat) (S T : GS) (G : PG), k ≤ na ∧ iv = .int .i64 k ∧ Hid (GB G K 2 (k + 1)) ∧ Has w wr [grC _ gb S G, grC _ hb T G]) (fun iv _ _ _ _ => na - (intOf iv).toNat)
  case atStart => exact ⟨0, S0, T0, _, by omega, rfl, B3, G3⟩
  case round =>
  obtain ⟨k, S, T, G, hk, rfl, B, H⟩ := hrel
  clear G3
  by_cases hlt : k < na
  · have hlt' : (k : Int) < (na : Int) := by omega
    obtain ⟨pb, poff, pcap, d, m, a, s, b, hv, hd, hc⟩ := act_at RA.out k hlt
    cases hv
    obtain ⟨p0, p1, p2, p3, p4⟩ := hc _ _ H
    have sm := B.out.small (by omega) (by decide) (by omega)
    have C := Lib.hid (play_h H 0 rfl B.out.ok sm.1 sm.2.1 d m a s b hd)
    have HC := Lib.hid hc
    have B' := Lib.hid (gb_act B.out d m a s b)
    clear hc
    go_wp2_with fail
    refine C.out.mono ?_
    rintro e w4 ⟨rfl, S', H'⟩
    have H4 : Has w w4 [grC _ gb S' (G.act d m a s b).1, grC _ hb T G] := H'
    clear H' p0 p1 p2 p3 p4 C
    go_upto_if 42 with (fail)
    go_cut [11, 33, 39, 41, 42, 43] (fun _ _ _ _ _ _ wx => ∃ S' T', Has w wx [grC _ gb S' (G.act d m a s b).1, grC _ hb T' (G.act d m a s b).1])
    case first =>
      cases hf : (G.act d m a s b).2.2 with
      | true =>
        have HF := Lib.hid hf
        clear hf
        obtain ⟨p0, p1, p2, p3, p4⟩ := HC.out _ _ H4
        have C := Lib.hid (play_h H4 1 rfl B.out.ok sm.1 sm.2.1 d m a s b hd)
        go_wp2_with fail
        refine C.out.mono ?_
        rintro e w5 ⟨rfl, T', H''⟩
        go_wp2_with fail
        go_meet
        exact ⟨S', T', H''⟩
      | false =>
        have H5 : Has w w4 [grC _ gb S' (G.act d m a s b).1, grC _ hb T (G.act d m a s b).1] := by
          have e := PG.act_no hf
          rw [e] at H4 ⊢
          exact H4
        clear hf
        go_wp2_with fail
        go_meet
        exact ⟨S', T, H5⟩
    case rest =>
    obtain ⟨S', T', H5⟩ := hcut
    clear H4 H B HC sm
    generalize (G.act d m a s b).1 = G' at H5 B'
    have sm := B'.out.small (by omega) (by decide) (by omega)
    have SM := Lib.hid sm
    clear sm
    go_wp2_with fail
    go_loopw [12] (fun jv wr => ∃ (j : Nat), j ≤ 2 ∧ jv = .int .i64 j ∧ Has w wr [grC _ gb S' G', grC _ hb T' G']) (fun jv _ => 2 - (intOf jv).toNat)
    case atStart => exact ⟨0, by omega, rfl, H5⟩
    case round =>
    obtain ⟨j, hj, rfl, H6⟩ := hrel
    clear H5
    by_cases hj2 : j < 2
    · have hj2' : (j : Int) < 2 := by omega
      have hle := rts_len B'.out.ok (by rw [B'.out.most]; exact hk0) j
      rw [B'.out.most] at hle
      have hle2 : decide (K < ((G'.rts j).length : Int)) = false := by simp; omega
      have hl6 : (G'.rts j).length < 1000000 := by omega
      have HL6 := Lib.hid hl6
      clear hle hl6
      go_wp2_with fail
      refine (Roots_h H6 0 rfl B'.out.ok SM.out.1 SM.out.2.1 j).mono ?_
      rintro e w6 ⟨v6, rfl, H7⟩
      obtain ⟨xa, xc, rfl⟩ := own_is (H7.get 2 rfl)
      go_wp2_with fail
      refine (Roots_h H7 0 rfl B'.out.ok SM.out.1 SM.out.2.1 j).mono ?_
      rintro e w7 ⟨v7, rfl, H8⟩
      go_wp2_with fail
      refine (Roots_h H8 1 rfl B'.out.ok SM.out.1 SM.out.2.1 j).mono ?_
      rintro e w8 ⟨v8, rfl, H9⟩
      go_wp2_with fail
      refine (Same_h H9 3 4 rfl rfl HL6.out).mono ?_
      rw [show (G'.rts j == G'.rts j) = true by simp]
      rintro e w9 ⟨rfl, d9, rfl⟩
      have H10 := (H9.drewN d9).pick [0, 1] (by decide) (by simp)
      clear H7 H8 H9
      go_wp2_with fail
      go_roundw
      case rel => exact ⟨j + 1, by omega, by go_num, H10⟩
      case measure => simp [intOf]; omega
    · have hj2' : ¬ (j : Int) < 2 := by omega
      go_wp2_with fail
      go_roundw
      case rel => exact ⟨k + 1, S', T', G', by omega, by go_num, B', H6⟩
      case measure => simp [intOf]; omega
  · have hkn : k = na := by omega
    subst hkn
    have sm := B.out.small (by omega) (by decide) (by omega)
    have SM := Lib.hid sm
    clear sm hlt
    obtain ⟨N, hN⟩ : ∃ N, N = G.nodes.length := ⟨_, rfl⟩
    have HN := Lib.hid hN
    have hN9 : (N : Int) < 100 := by have := B.out.nodes; omega
    clear hN
    go_wp2_with fail
    go_loopw [13] (fun vv wr => ∃ (q : Nat), q ≤ N ∧ vv = .int .i64 ((q : Int) + 1) ∧ Has w wr [grC _ gb S G, grC _ hb T G]) (fun vv _ => N + 1 - (intOf vv).toNat)
    case atStart => exact ⟨0, by omega, rfl, H⟩
    case round =>
    obtain ⟨q, hq, rfl, H6⟩ := hrel
    clear H
    have hqb : (q : Int) < 100 := by omega
    by_cases hq2 : q < N
    · have hq2' : (q : Int) + 1 ≤ (N : Int) := by omega
      go_wp2_with fail
      refine (Nodes_s H6 0 rfl B.out.ok SM.out.1 SM.out.2.1).mono ?_
      rw [← HN.out]
      rintro e w5 ⟨rfl, hw⟩
      obtain rfl := hw.symm
      go_wp2_with fail
      refine (Slots_h H6 0 rfl B.out.ok SM.out.1 SM.out.2.1 ((q : Int) + 1)).mono ?_
      rintro e w6 ⟨v6, rfl, H7⟩
      go_wp2_with fail
      refine (Slots_h H7 1 rfl B.out.ok SM.out.1 SM.out.2.1 ((q : Int) + 1)).mono ?_
      rintro e w7 ⟨v7, rfl, H8⟩
      go_wp2_with fail
      refine (Same_h H8 2 3 rfl rfl (slots_len6 B.out.ok _)).mono ?_
      rw [show (G.slots ((q : Int) + 1) == G.slots ((q : Int) + 1)) = true by simp]
      rintro e w8 ⟨rfl, d8, rfl⟩
      have H9 := (H8.drewN d8).pick [0, 1] (by decide) (by simp)
      clear H7 H8
      go_wp2_with fail
      go_roundw
      case rel => exact ⟨q + 1, by omega, by go_num, H9⟩
      case measure => simp [intOf]; omega
    · have hq2' : ¬ (q : Int) + 1 ≤ (N : Int) := by omega
      go_wp2_with fail
      refine (Nodes_s H6 0 rfl B.out.ok SM.out.1 SM.out.2.1).mono ?_
      rw [← HN.out]
      rintro e w5 ⟨rfl, hw⟩
      obtain rfl := hw.symm
      clear hqb
      go_wp2_with fail
      refine (Nodes_s H6 0 rfl B.out.ok SM.out.1 SM.out.2.1).mono ?_
      rw [← HN.out]
      rintro e w6 ⟨rfl, hw⟩
      obtain rfl := hw.symm
      go_wp2_with fail
      refine (Nodes_s H6 1 rfl B.out.ok SM.out.1 SM.out.2.1).mono ?_
      rw [← HN.out]
      rintro e w7 ⟨rfl, hw⟩
      obtain rfl := hw.symm
      have fN : ((N : Int) == (N : Int)) = true := by simp
      go_wp2_with fail
      refine (Reach_h H6 0 rfl B.out.ok SM.out.2.2.1 SM.out.2.1 SM.out.2.2.2).mono ?_
      rintro e w8 ⟨v8, rfl, H8⟩
      go_wp2_with fail
      refine (Reach_h H8 1 rfl B.out.ok SM.out.2.2.1 SM.out.2.1 SM.out.2.2.2).mono ?_
      rintro e w9 ⟨v9, rfl, H9⟩
      go_wp2_with fail
      refine (Same_h H9 2 3 rfl rfl (by have := length_reach B.out.ok; have := SM.out.2.1; omega)).mono ?_
      rw [show (G.reach == G.reach) = true by simp]
      rintro e w10 ⟨rfl, d10, rfl⟩
      go_wp2_with fail
      go_ret
      exact ⟨rfl, (H9.drewN d10).below⟩

theorem walk_GraphRefused (aa : Option Addr) (al ac na : Nat) (mo : Int) (w : World) (ha : IsRows actK w (.slice aa al ac) na) (hm0 : 0 ≤ mo) (hm1 : mo < 256) :
    Calls Try.prog 6 #[.slice aa al ac, .int .u8 mo] w fun e w' => e = .returned (.bool true) ∧ Below w.heap.size w w' := refused_ok _ na mo w ha hm0 hm1

end Go.Proofs.Ytfjkmdhkalbpkaa

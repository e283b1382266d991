/- The walk of GraphWritten. No condition. -/
import Derived.Test.YtfjkmdhkalbpkaaLaw7d
set_option linter.unusedVariables false
set_option linter.unusedSimpArgs false
namespace Go.Proofs.Ytfjkmdhkalbpkaa
open Go.ChangeShapes Go.WideShapes Go.ChangeAt Go.RowKit

theorem iget_out {l : List Int} {a : Int} (h : a < 0 ∨ (l.length : Int) ≤ a) : iget l a = none := by
  unfold iget
  split
  · rw [List.getElem?_eq_none_iff]; omega
  · rfl
theorem iget_in {l : List Int} {a : Int} (h0 : 0 ≤ a) (h1 : a < (l.length : Int)) : ∃ (k : Nat) (x : Int), a = (k : Int) ∧ l[k]? = some x ∧ iget l a = some x := by
  refine ⟨a.toNat, l[a.toNat]'(by omega), by omega, List.getElem?_eq_getElem (by omega), ?_⟩
  unfold iget
  rw [if_pos h0]
  exact List.getElem?_eq_getElem (by omega)

set_option maxRecDepth 100000 in
set_option maxHeartbeats 8000000 in
theorem written_ok (va : Value) (na : Nat) (a i b : Int) (w : World) (ha : IsRows actK w va na) :
    Calls Try.prog 8 #[va, .int .i64 a, .int .i64 i, .int .i64 b] w fun e w' => e = .returned (.bool true) ∧ Below w.heap.size w w' := by
  have RA := Lib.hid ha
  obtain ⟨aa, ac, rfl⟩ := rows_val ha
  clear ha
  by_cases h1 : (40 : Int) < (na : Int)
  · go_enter Try.func8, Try.ntmps8
    go_wp2_with fail
    refine (awake7 _).mono ?_
    rintro e w1 ⟨rfl, q1⟩
    go_wp2_with fail
    go_ret
    exact ⟨rfl, q1⟩
  go_enter Try.func8, Try.ntmps8
  go_wp2_with fail
  refine (awake7 _).mono ?_
  rintro e w1 ⟨rfl, q1⟩
  have G1 := (Has.nil w).up q1
  go_wp2_with fail
  refine (New_h G1 3 6 3 (by decide)).mono ?_
  rintro e w2 ⟨gb, S0, rfl, G2⟩
  have B2 := Lib.hid (newG_gb 3 6 3)
  clear G1 q1
  go_wp2_with fail
  go_loopw [11] (fun iv wr => ∃ (k : Nat) (S : GS) (G : PG), k ≤ na ∧ iv = .int .i64 k ∧ Hid (GB G 6 3 (k + 1)) ∧ Has w wr [grC _ gb S G]) (fun iv _ => na - (intOf iv).toNat)
  case atStart => exact ⟨0, S0, _, by omega, rfl, B2, G2⟩
  case round =>
  obtain ⟨k, S, G, hk, rfl, B, H⟩ := hrel
  clear G2
  by_cases hlt : k < na
  · have hlt' : (k : Int) < (na : Int) := by omega
    obtain ⟨pb, poff, pcap, d, m, a', s, b', hv, hd, hc⟩ := act_at RA.out k hlt
    cases hv
    obtain ⟨p0, p1, p2, p3, p4⟩ := hc _ _ H
    have sm := B.out.small (by decide) (by decide) (by omega)
    have C := Lib.hid (play_h H 0 rfl B.out.ok sm.1 sm.2.1 d m a' s b' hd)
    clear hc sm
    go_wp2_with fail
    refine C.out.mono ?_
    rintro e w4 ⟨rfl, S', H'⟩
    go_wp2_with fail
    go_roundw
    case rel => exact ⟨k + 1, S', _, by omega, by go_num, Lib.hid (gb_act B.out d m a' s b'), H'⟩
    case measure => simp [intOf]; omega
  · have hge : ¬ (k : Int) < (na : Int) := by omega
    have sm := B.out.small (by decide) (by decide) (by omega)
    have SM := Lib.hid sm
    have BP' := gb_pop B.out ((0 : Nat) : Int)
    have BP := Lib.hid BP'
    have SP := Lib.hid (BP'.small (by decide) (by decide) (by omega))
    clear sm hlt BP'
    go_wp2_with fail
    refine (Roots_h H 0 rfl B.out.ok SM.out.1 SM.out.2.1 0).mono ?_
    rintro e w4 ⟨v4, rfl, H4⟩
    obtain ⟨xa, xc, rfl⟩ := own_is (H4.get 1 rfl)
    go_wp2_with fail
    refine (Pop_h H4 0 rfl B.out.ok SM.out.1 SM.out.2.1 0).mono ?_
    rintro e w5 ⟨rfl, S5, H5⟩
    by_cases hr : G.rts 0 = []
    · have hl : (G.rts 0).length = 0 := by rw [hr]; rfl
      have hl2 : (((G.rts 0).length : Int) == 0) = true := by rw [hl]; rfl
      clear hr hl
      go_wp2_with fail
      go_ret
      exact ⟨rfl, H5.below⟩
    have RP := Lib.hid (PG.room_pop B.out.ok (m := 0) hr)
    have hl2 : (((G.rts 0).length : Int) == 0) = false := by have := List.length_pos_iff.2 hr; simp; omega
    have H6 : Has w w5 [grC _ gb S5 (G.pop ((0 : Nat) : Int)).1] := H5.pick [0] (by decide) (by simp)
    clear H4 H5 H hr
    obtain ⟨G1, hG1⟩ : ∃ G1, G1 = (G.pop ((0 : Nat) : Int)).1 := ⟨_, rfl⟩
    rw [← hG1] at H6 BP SP RP
    clear hG1
    go_wp2_with fail
    refine (Roots_h H6 0 rfl BP.out.ok SP.out.1 SP.out.2.1 0).mono ?_
    rintro e w6 ⟨v6, rfl, H7⟩
    obtain ⟨ya, yc, rfl⟩ := own_is (H7.get 1 rfl)
    clear H6
    have WR := Write_h H7 0 rfl BP.out.ok SP.out.1 SP.out.2.1 0 a i b
    have LR := Lib.hid (rts_len BP.out.ok (by rw [BP.out.most]; decide) 0)
    obtain ⟨R, hR⟩ : ∃ R, R = G1.rts 0 := ⟨_, rfl⟩
    have HR := Lib.hid hR
    rw [← hR] at H7 WR ⊢
    by_cases a0 : a < 0
    · have f1 : decide (0 ≤ a) = false := by simpa using a0
      have ew : G1.write 0 a i b = (G1, false) := PG.write_no1 (.inl (iget_out (by rw [← hR]; omega)))
      rw [ew] at WR
      have HW := Lib.hid WR
      clear WR ew
      clear hR
      go_wp2_with fail
      refine HW.out.mono ?_
      rintro e w7 ⟨rfl, S7, H8⟩
      go_wp2_with fail
      go_ret
      exact ⟨rfl, H8.below⟩
    by_cases a1 : (R.length : Int) ≤ a
    · have f1 : decide (a < (R.length : Int)) = false := by simpa using a1
      have ew : G1.write 0 a i b = (G1, false) := PG.write_no1 (.inl (iget_out (by rw [← hR]; omega)))
      rw [ew] at WR
      have HW := Lib.hid WR
      clear WR ew
      clear hR
      go_wp2_with fail
      refine HW.out.mono ?_
      rintro e w7 ⟨rfl, S7, H8⟩
      go_wp2_with fail
      go_ret
      exact ⟨rfl, H8.below⟩
    by_cases b0 : b < 0
    · have f0 : decide (0 ≤ a) = true := by simp; omega
      have f1 : decide (a < (R.length : Int)) = true := by simp; omega
      have f2 : decide (0 ≤ b) = false := by simpa using b0
      have ew : G1.write 0 a i b = (G1, false) := PG.write_no1 (.inr (iget_out (by rw [← hR]; omega)))
      rw [ew] at WR
      have HW := Lib.hid WR
      clear WR ew
      clear hR
      go_wp2_with fail
      refine HW.out.mono ?_
      rintro e w7 ⟨rfl, S7, H8⟩
      go_wp2_with fail
      go_ret
      exact ⟨rfl, H8.below⟩
    by_cases b1 : (R.length : Int) ≤ b
    · have f0 : decide (0 ≤ a) = true := by simp; omega
      have f1 : decide (a < (R.length : Int)) = true := by simp; omega
      have f2 : decide (0 ≤ b) = true := by simp; omega
      have f3 : decide (b < (R.length : Int)) = false := by simpa using b1
      have ew : G1.write 0 a i b = (G1, false) := PG.write_no1 (.inr (iget_out (by rw [← hR]; omega)))
      rw [ew] at WR
      have HW := Lib.hid WR
      clear WR ew
      clear hR
      go_wp2_with fail
      refine HW.out.mono ?_
      rintro e w7 ⟨rfl, S7, H8⟩
      go_wp2_with fail
      go_ret
      exact ⟨rfl, H8.below⟩
    obtain ⟨ja, ra, rfl, hja, hia⟩ := iget_in (l := R) (a := a) (by omega) (by omega)
    obtain ⟨jb, rb, rfl, hjb, hib⟩ := iget_in (l := R) (a := b) (by omega) (by omega)
    have f1 : (ja : Int) < (R.length : Int) := by omega
    have f3 : (jb : Int) < (R.length : Int) := by omega
    clear a0 a1 b0 b1
    rw [hR] at hia hib
    have HJA := Lib.hid hja
    have HJB := Lib.hid hjb
    clear hja hjb
    by_cases r0 : ra = 0
    · subst r0
      have ew : G1.write 0 ja i jb = (G1, false) := PG.write_no2 hia
      rw [ew] at WR
      have HW := Lib.hid WR
      clear WR ew
      clear hR hia hib
      go_wp2_with fail
      refine HW.out.mono ?_
      rintro e w7 ⟨rfl, S7, H8⟩
      obtain ⟨xg, xo, hh, -, -, -, xcell, -⟩ := own_atV (n := R.length) (H8.get 1 rfl) (by omega)
      cases hh
      have xc1 := xcell ja (.int .i64 0) (by rw [List.getElem?_map, HJA.out]; rfl)
      clear xcell
      go_wp2_with fail
      go_ret
      exact ⟨rfl, H8.below⟩
    have rb0 := (PG.root_bd BP.out.ok (m := 0) (a := ja) (by rw [PG.rts_get]; exact hia)).1
    have r0b : (ra == 0) = false := by simpa using r0
    by_cases hio : i < 0 ∨ ((G1.slots ra).length : Int) ≤ i
    · have ew : G1.write 0 ja i jb = (G1, false) := PG.write_no3 hia r0 (iget_out hio)
      rw [ew] at WR
      have HW := Lib.hid WR
      clear WR ew
      clear hR hia hib r0
      go_wp2_with fail
      refine HW.out.mono ?_
      rintro e w7 ⟨rfl, S7, H8⟩
      obtain ⟨xg, xo, hh, -, -, -, xcell, -⟩ := own_atV (n := R.length) (H8.get 1 rfl) (by omega)
      cases hh
      have xc1 := xcell ja (.int .i64 ra) (by rw [List.getElem?_map, HJA.out]; rfl)
      clear xcell
      go_wp2_with fail
      refine (Slots_h H8 0 rfl BP.out.ok SP.out.1 SP.out.2.1 ra).mono ?_
      rintro e w8 ⟨v8, rfl, H9⟩
      obtain ⟨sa, sc, rfl⟩ := own_is (H9.get 2 rfl)
      by_cases i0 : i < 0
      · clear hio
        go_wp2_with fail
        go_ret
        exact ⟨rfl, H9.below⟩
      · have i1 := hio.resolve_left i0
        have i2 : decide (i < 0) = false := by simpa using i0
        have i3 : decide (((G1.slots ra).length : Int) ≤ i) = true := by simpa using i1
        clear hio i0
        go_wp2_with fail
        go_ret
        exact ⟨rfl, H9.below⟩
    · obtain ⟨ji, y, rfl, hji, hii⟩ := iget_in (l := G1.slots ra) (a := i) (by omega) (by omega)
      have hjl := (List.getElem?_eq_some_iff.1 hji).1
      have ew : G1.write 0 ja ji jb = (G1.put ra ji rb, true) := PG.write_yes hia r0 hii hib
      have er := PG.read_put (x := rb) hia (by omega) hii RP.out.1
      have BW := gb_act BP.out 2 0 ja ji jb
      have eBW : (G1.act 2 0 ja ji jb).1 = G1.put ra ji rb := by show (G1.write 0 ja ji jb).1 = _; rw [ew]
      rw [eBW] at BW
      have es : (G1.put ra ji rb).slots ra = (G1.slots ra).set ji rb := by rw [PG.put_slots (by omega), Int.toNat_natCast]
      have HB := Lib.hid BW
      have HS := Lib.hid (BW.small (by decide) (by decide) (by omega))
      have HE := Lib.hid er
      have HES := Lib.hid es
      rw [ew] at WR
      have HW := Lib.hid WR
      have hjl' : (ji : Int) < ((G1.slots ra).length : Int) := by omega
      have hj0 : decide ((ji : Int) < 0) = false := by simp
      have hj1 : decide (((G1.slots ra).length : Int) ≤ (ji : Int)) = false := by simp; omega
      have HJI := Lib.hid hji
      clear WR ew er es eBW BW hio hji hia hib hii hR r0
      obtain ⟨G2, hG2⟩ : ∃ G2, G2 = G1.put ra ji rb := ⟨_, rfl⟩
      rw [← hG2] at HB HS HE HES HW
      clear hG2
      go_wp2_with fail
      refine HW.out.mono ?_
      rintro e w7 ⟨rfl, S7, H8'⟩
      have H8 : Has w w7 [grC _ gb S7 G2, ownN _ 3 .i64 (.slice ya R.length yc) R] := H8'
      obtain ⟨xg, xo, hh, -, -, -, xcell, -⟩ := own_atV (n := R.length) (H8.get 1 rfl) (by omega)
      cases hh
      have xc1 := xcell ja (.int .i64 ra) (by rw [List.getElem?_map, HJA.out]; rfl)
      clear xcell H8'
      go_wp2_with fail
      refine (Slots_h H8 0 rfl HB.out.ok HS.out.1 HS.out.2.1 ra).mono ?_
      rintro e w8 ⟨v8, rfl, H9'⟩
      have H9 : Has w w8 [grC _ gb S7 G2, ownN _ 3 .i64 (.slice (some ⟨xg, xo, none⟩) R.length yc) R, ownN _ 3 .i64 v8 ((G1.slots ra).set ji rb)] := by rw [← HES.out]; exact H9'
      obtain ⟨sa, sc, hsv⟩ := own_is (H9.get 2 rfl)
      rw [List.length_set] at hsv
      subst hsv
      have RD := Read_h H9 0 rfl HB.out.ok HS.out.1 HS.out.2.1 0 ja ji
      rw [HE.out] at RD
      have HRD := Lib.hid RD
      clear RD H9' xc1 H8
      go_wp2_with fail
      refine HRD.out.mono ?_
      rintro e w9 ⟨rfl, S9, H10'⟩
      have H10 : Has w w9 [grC _ gb S9 (G2.push 0 rb), ownN _ 3 .i64 (.slice (some ⟨xg, xo, none⟩) R.length yc) R, ownN _ 3 .i64 (.slice sa (G1.slots ra).length sc) ((G1.slots ra).set ji rb)] := H10'
      clear H10'
      obtain ⟨xg', xo', hh, -, -, -, xcell, -⟩ := own_atV (n := R.length) (H10.get 1 rfl) (by omega)
      cases hh
      have xc2 := xcell jb (.int .i64 rb) (by rw [List.getElem?_map, HJB.out]; rfl)
      obtain ⟨sg, so, hh, -, -, -, scell, -⟩ := own_atV (n := ((G1.slots ra).set ji rb).length) (H10.get 2 rfl) (by rw [List.length_set]; omega)
      cases hh
      have sc1 := scell ji (.int .i64 rb) (by rw [List.getElem?_map, List.getElem?_set_self hjl]; rfl)
      clear xcell scell H9
      have g1 : (rb == rb) = true := by simp
      go_wp2_with fail
      go_quiet (fail)
      go_wp2_with fail
      go_ret
      exact ⟨rfl, (H10.drewN _).below⟩

theorem walk_GraphWritten (aa : Option Addr) (al ac na : Nat) (a i b : Int) (w : World) (ha : IsRows actK w (.slice aa al ac) na) :
    Calls Try.prog 8 #[.slice aa al ac, .int .i64 a, .int .i64 i, .int .i64 b] w fun e w' => e = .returned (.bool true) ∧ Below w.heap.size w w' := written_ok _ na a i b w ha

end Go.Proofs.Ytfjkmdhkalbpkaa

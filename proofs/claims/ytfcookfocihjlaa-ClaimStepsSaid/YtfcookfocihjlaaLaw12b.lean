/- ClaimFour. -/
import Derived.Test.YtfcookfocihjlaaLaw12a
set_option linter.unusedVariables false
set_option linter.unusedSimpArgs false
namespace Go.Proofs.Ytfcookfocihjlaa
open Go.ChangeShapes Go.WideShapes Go.ChangeAt Go.RowKit

theorem mk4_bd (v : Int) (h : 1 ≤ v ∧ v ≤ 4) : 2 ≤ (c12 4).nodeAt v 2 ∧ (c12 4).nodeAt v 2 < (l12 4).length := by
  have h1 : v = 1 ∨ v = 2 ∨ v = 3 ∨ v = 4 := by omega
  rcases h1 with rfl | rfl | rfl | rfl <;> decide +kernel

/-- What is known of a machine's try: how many accesses it has made at most. -/
structure K12 (node cy : Int) (l : List Int) (m : Cl) (i : Nat) : Prop where
  len : l.length = (l12 4).length
  hv : m.v = node
  hcy : m.cy = cy
  st : (m.pc = 0 ∧ mld l 1 = bif m.won then 1 else 0) ∨ (m.pc = 1 ∧ i = 0 ∧ m.won = false ∧ mld l 1 = 0) ∨ (m.pc = 2 ∧ i = 1 ∧ m.won = false ∧ mld l 1 = 0) ∨ (m.pc = 3 ∧ i = 2 ∧ m.won = false ∧ mld l 1 = 1) ∨ (m.pc = 4 ∧ i = 3 ∧ m.won = false ∧ mld l 1 = 1)

theorem k12_0 (node cy : Int) : K12 node cy (l12 4) ⟨node, cy, 0, false, 1⟩ 0 := ⟨rfl, rfl, rfl, .inr (.inl ⟨rfl, rfl, rfl, by kernel_rfl⟩)⟩

theorem k12_put {node cy : Int} {l : List Int} {m : Cl} {i : Nat} (h : K12 node cy l m i) (hn : 1 ≤ node ∧ node ≤ 4) (x : Int) : K12 node cy (mput l ((c12 4).nodeAt node 2) x) m i := by
  have hb := mk4_bd node hn
  have e : mld (mput l ((c12 4).nodeAt node 2) x) 1 = mld l 1 := mld_mput_ne _ _ _ _ (by omega)
  exact ⟨by rw [mput_length]; exact h.len, h.hv, h.hcy, by rw [e]; exact h.st⟩

theorem len_pos4 : (2 : Int) < (l12 4).length := by decide +kernel

theorem k12_step {node cy : Int} {l : List Int} {m : Cl} {i : Nat} (h : K12 node cy l m i) (hn : 1 ≤ node ∧ node ≤ 4) : K12 node cy (clStep (c12 4) l m).1 (clStep (c12 4) l m).2 (i + 1) := by
  obtain ⟨hl, rfl, rfl, st⟩ := h
  obtain ⟨v, cy, k, won, pc⟩ := m
  dsimp only at hn st ⊢
  have hb := mk4_bd v hn
  have hL := len_pos4
  rcases st with ⟨rfl, h1⟩ | ⟨rfl, rfl, rfl, h1⟩ | ⟨rfl, rfl, rfl, h1⟩ | ⟨rfl, rfl, rfl, h1⟩ | ⟨rfl, rfl, rfl, h1⟩
  · exact ⟨hl, rfl, rfl, .inl ⟨rfl, h1⟩⟩
  · refine ⟨hl, rfl, rfl, ?_⟩
    show (clPc (decide (cy ≤ mld l ((c12 4).nodeAt v 2))) 2 = 0 ∧ mld l 1 = _) ∨ (clPc (decide (cy ≤ mld l ((c12 4).nodeAt v 2))) 2 = 1 ∧ _) ∨ (clPc (decide (cy ≤ mld l ((c12 4).nodeAt v 2))) 2 = 2 ∧ _) ∨ _
    cases decide (cy ≤ mld l ((c12 4).nodeAt v 2)) with
    | true => exact .inl ⟨rfl, h1⟩
    | false => exact .inr (.inr (.inl ⟨rfl, rfl, rfl, h1⟩))
  · refine ⟨by show (madd l 1 1).length = _; unfold madd; rw [mput_length]; exact hl, rfl, rfl, .inr (.inr (.inr (.inl ⟨rfl, rfl, rfl, ?_⟩)))⟩
    show mld (madd l 1 1) 1 = 1
    unfold madd
    rw [mld_mput_same (by rw [hl]; omega), h1]; rfl
  · have e : mld (mswap l ((c12 4).nodeAt v 2) k cy) 1 = mld l 1 := by
      unfold mswap; split
      · exact mld_mput_ne _ _ _ _ (by omega)
      · rfl
    refine ⟨by show (mswap l _ _ _).length = _; unfold mswap; split <;> simp [mput_length, hl], rfl, rfl, ?_⟩
    show (clPc (mswapped l ((c12 4).nodeAt v 2) k) 4 = 0 ∧ mld (mswap l ((c12 4).nodeAt v 2) k cy) 1 = bif (mswapped l ((c12 4).nodeAt v 2) k) then 1 else 0) ∨ _ ∨ _ ∨ _ ∨ (clPc (mswapped l ((c12 4).nodeAt v 2) k) 4 = 4 ∧ 2 + 1 = 3 ∧ mswapped l ((c12 4).nodeAt v 2) k = false ∧ mld (mswap l ((c12 4).nodeAt v 2) k cy) 1 = 1)
    rw [e, h1]
    cases mswapped l ((c12 4).nodeAt v 2) k with
    | true => exact .inl ⟨rfl, rfl⟩
    | false => exact .inr (.inr (.inr (.inr ⟨rfl, rfl, rfl, rfl⟩)))
  · refine ⟨by show (madd l 1 _).length = _; unfold madd; rw [mput_length]; exact hl, rfl, rfl, .inl ⟨rfl, ?_⟩⟩
    show mld (madd l 1 18446744073709551615) 1 = 0
    unfold madd
    rw [mld_mput_same (by rw [hl]; omega), h1]; rfl

theorem k12_end {node cy : Int} {l : List Int} {m : Cl} (h : K12 node cy l m 4) : m.pc = 0 ∧ mld l 1 = bif m.won then 1 else 0 := by
  rcases h.st with h1 | ⟨_, h1, _⟩ | ⟨_, h1, _⟩ | ⟨_, h1, _⟩ | ⟨_, h1, _⟩
  · exact h1
  all_goals omega

theorem clStep_end (c : Cfg) (l : List Int) (m : Cl) (h : m.pc = 0) : clStep c l m = (l, m) := by
  obtain ⟨v, cy, k, won, pc⟩ := m
  dsimp only at h
  subst h
  rfl

set_option maxRecDepth 100000 in
set_option maxHeartbeats 4000000 in
theorem four_ok (v cy : Int) (pa : Option Addr) (pc np : Nat) (w : World) (v0 : 0 ≤ v) (v1 : v < 256) (hrow : IsRows [.int .i64, .int .u64] w (.slice pa np pc) np) (h2 : ¬ (6 : Int) < (np : Int)) :
    Calls Try.prog 5 #[.int .u8 v, .int .u64 cy, .slice pa np pc] w fun e w' => e = .returned (.bool true) ∧ Below w.heap.size w w' := by
  have ROW := Lib.hid hrow
  clear hrow
  have n0 := Int.emod_nonneg v (by omega : (4 : Int) ≠ 0)
  have n1 := Int.emod_lt_of_pos v (by omega : (0 : Int) < 4)
  have e2 : v.tmod 4 = v % 4 := Int.tmod_eq_emod_of_nonneg v0
  go_enter Try.func5, Try.ntmps5
  go_wp2_with fail
  refine (awake12 _).mono ?_
  rintro e w0 ⟨rfl, q0⟩
  have G0 := (Has.nil w).up q0
  clear q0
  go_wp2_with fail
  refine (New_m G0 (c12 4) c12_ok4).mono ?_
  rintro e w1 ⟨mb, av, rv, rfl, G1⟩
  go_wp2_with fail
  refine (First_h G1 0 rfl c12_ok4).mono ?_
  rintro e w2 ⟨g, n, rfl, G2⟩
  go_wp2_with fail
  refine (New_h G2 _ (l12 4) (sl_of_ownN (G2.get 1 rfl)) (l12_len c12_ok4)).mono ?_
  rintro e w3 ⟨sb, sg, rfl, G3'⟩
  have G3 := G3'.pick [0, 2] (by decide) (by simp)
  clear G0 G1 G2 G3'
  go_wp2_with fail
  obtain ⟨node, hnode⟩ : ∃ node, node = v % 4 + 1 := ⟨_, rfl⟩
  have hnb : 1 ≤ node ∧ node ≤ 4 := by omega
  rw [← hnode]
  clear hnode n0 n1 e2
  refine (clNew_h G3 mb node cy).mono ?_
  rintro e w4 ⟨xb, rfl, G4⟩
  clear G3
  go_wp2_with fail
  go_loopw [13] (fun iv wr => ∃ (i : Nat) (l : List Int) (n : Int) (m : Cl), i ≤ 4 ∧ iv = .int .i64 i ∧ Hid (K12 node cy l m i) ∧ Has w wr [mapC _ mb av rv (c12 4), storeC _ sb sg l n, clC _ xb mb m]) (fun iv _ => 5 - (intOf iv).toNat)
  case atStart => exact ⟨0, l12 4, _, _, by omega, rfl, Lib.hid (k12_0 node cy), G4⟩
  case round =>
    obtain ⟨i, l, n, m, hi, rfl, hK, G⟩ := hrel
    clear G4
    by_cases hlt : i < 4
    · have hlt' : (i : Int) < 4 := by omega
      by_cases hp : i < np
      · have hp' : (i : Int) < (np : Int) := by omega
        obtain ⟨pb, poff, pcap, hpv, hpb, hrows⟩ := rows_at ROW.out (by omega) (by decide)
        simp only [Value.slice.injEq] at hpv
        obtain ⟨rfl, -, rfl⟩ := hpv
        obtain ⟨vs, hsc, hcl⟩ := hrows i hp
        obtain ⟨p0, p1, rfl, ⟨at_, rfl, w0'⟩, ⟨x, rfl, w1'⟩⟩ := scal2 hsc
        have d1 : wr.cell? ⟨pb, poff + i * 2 + 1, none⟩ = some (.int .u64 x) := (G.below.cell (p := ⟨pb, poff + i * 2 + 1, none⟩) hpb).trans (hcl 1 (by decide))
        have hcl0 := Lib.hid (hcl 1 (by decide))
        clear hrows hsc hcl
        go_wp2_with fail
        go_region_held3 (fun w' => w'.cell? ⟨pb, poff + i * 2 + 1, none⟩ = some (.int .u64 x)) (first | (with_reducible assumption) | (simp only [cell_drewN1, cell_drew1]; with_reducible assumption)) (first | (go_at_call 16; refine (Mark_q ((G.drewN _).mAt 0 rfl c12_ok4) node).mono ?_; rintro e x1 ⟨rfl, d1', rfl⟩) | (go_at_call 18; refine (Put_h (G.drewN _) 1 rfl _ x).mono ?_; rintro e x2 ⟨rfl, H2⟩; have e2 : x2.cell? ⟨pb, poff + i * 2 + 1, none⟩ = some (.int .u64 x) := (H2.below.cell (p := ⟨pb, poff + i * 2 + 1, none⟩) hpb).trans (hcl0.out)))
        have hK2 := Lib.hid (k12_put hK.out hnb x)
        go_wp2_with fail
        refine (clStep_h H2 1 2 0 m rfl rfl rfl (by decide) c12_ok4).mono ?_
        rintro e x3 ⟨rfl, H3⟩
        go_wp2_with fail
        go_roundw
        case rel => exact ⟨i + 1, _, _, _, by omega, by go_num, Lib.hid (k12_step hK2.out hnb), H3⟩
        case measure => simp [intOf]; omega
      · have hp' : ¬ (i : Int) < (np : Int) := by omega
        go_wp2_with fail
        refine (clStep_h G 1 2 0 m rfl rfl rfl (by decide) c12_ok4).mono ?_
        rintro e x3 ⟨rfl, H3⟩
        go_wp2_with fail
        go_roundw
        case rel => exact ⟨i + 1, _, _, _, by omega, by go_num, Lib.hid (k12_step hK.out hnb), H3⟩
        case measure => simp [intOf]; omega
    · have hge : ¬ (i : Int) < 4 := by omega
      obtain rfl : i = 4 := by omega
      obtain ⟨k0, k1⟩ := k12_end hK.out
      have KE := Lib.hid (clStep_end (c12 4) l m k0)
      have K0 := Lib.hid k0
      have K1 := Lib.hid k1
      clear k0 k1 hi hlt
      go_wp2_with fail
      refine (clWon_h G 2 _ rfl).mono ?_
      generalize hW : m.won = won
      have HW := Lib.hid hW
      clear hW
      rintro e x1 ⟨rfl, d1, rfl⟩
      cases won with
      | true =>
        go_wp2_with fail
        refine (clStep_h (G.drewN _) 1 2 0 m rfl rfl rfl (by decide) c12_ok4).mono ?_
        rw [KE.out]
        dsimp only
        rw [K0.out]
        rintro e x3 ⟨rfl, H3⟩
        go_wp2_with fail
        refine (Work_q (H3.mAt 0 rfl c12_ok4)).mono ?_
        rintro e x4 ⟨rfl, d4, rfl⟩
        go_wp2_with fail
        refine (Load_h (H3.drewN _) 1 rfl 1).mono ?_
        rw [K1.out, HW.out]
        rintro e x5 ⟨rfl, H5⟩
        go_wp2_with fail
        go_ret
        exact ⟨rfl, H5.below⟩
      | false =>
        go_wp2_with fail
        refine (clStep_h (G.drewN _) 1 2 0 m rfl rfl rfl (by decide) c12_ok4).mono ?_
        rw [KE.out]
        dsimp only
        rw [K0.out]
        rintro e x3 ⟨rfl, H3⟩
        go_wp2_with fail
        refine (Work_q (H3.mAt 0 rfl c12_ok4)).mono ?_
        rintro e x4 ⟨rfl, d4, rfl⟩
        go_wp2_with fail
        refine (Load_h (H3.drewN _) 1 rfl 1).mono ?_
        rw [K1.out, HW.out]
        rintro e x5 ⟨rfl, H5⟩
        go_wp2_with fail
        go_ret
        exact ⟨rfl, H5.below⟩

theorem walk_ClaimFour (v cy : Int) (pa : Option Addr) (pl pc np : Nat) (w : World) (v0 : 0 ≤ v) (v1 : v < 256) (hp : IsRows [.int .i64, .int .u64] w (.slice pa pl pc) np) :
    Calls Try.prog 5 #[.int .u8 v, .int .u64 cy, .slice pa pl pc] w fun e w' => e = .returned (.bool true) ∧ Below w.heap.size w w' := by
  obtain rfl : pl = np := by
    rcases hp with ⟨h, h0⟩ | ⟨y, c, h, _⟩
    · cases h; exact h0.symm
    · cases h; rfl
  by_cases h2 : (6 : Int) < (pl : Int)
  · go_enter Try.func5, Try.ntmps5
    go_wp2_with fail
    refine (awake12 _).mono ?_
    rintro e w0 ⟨rfl, q0⟩
    go_wp2_with fail
    go_ret
    exact ⟨rfl, q0⟩
  · exact four_ok v cy pa pc pl w v0 v1 hp h2

end Go.Proofs.Ytfcookfocihjlaa

/- StackOnce. -/
import Derived.Test.YtaciapjohakpgaaSo9
import Derived.Deep.DeepCutAuto
import Derived.Deep.CutBlock
set_option linter.unusedVariables false
set_option linter.unusedSimpArgs false
namespace Go.Proofs.Ytaciapjohakpgaa
open Go.ChangeShapes Go.WideShapes Go.ChangeAt Go.RowKit

set_option maxRecDepth 100000 in
set_option maxHeartbeats 8000000 in
theorem sonce_ok (pa aa : Option Addr) (pcap acap an : Nat) (pks : List Int) (w : World) (hsl : Sl w [] .u8 (.slice pa pks.length pcap) pks) (hws : ∀ x ∈ pks, 0 ≤ x ∧ x < 256) (hacts : IsRows [.bool] w (.slice aa an acap) an) (hbig : ¬ (600 : Int) < (pks.length : Int)) (ha0 : 0 < an) (ha1 : ¬ (60 : Int) < (an : Int)) :
    Calls Try.prog 6 #[.slice pa pks.length pcap, .slice aa an acap] w fun e w' => e = .returned (.bool true) ∧ Below w.heap.size w w' := by
  have HSL := Lib.hid hsl
  have HWS := Lib.hid hws
  obtain ⟨ab, aoff, acap', hav, hab, hacell⟩ := rows_at hacts ha0 (by decide)
  simp only [Value.slice.injEq] at hav
  obtain ⟨rfl, -, rfl⟩ := hav
  have HAC : Hid (∀ i, i < an → ∃ x : Bool, w.cell? ⟨ab, aoff + i, none⟩ = some (.bool x)) := Lib.hid (fun i hi => by
    obtain ⟨vs, hsc, hc⟩ := hacell i hi
    obtain ⟨u, _, rfl, ho, hn⟩ := scal_cons hsc
    have := scal_nil hn; subst this
    obtain ⟨x, rfl⟩ := kd_bool ho
    have := hc 0 (by decide)
    exact ⟨x, by simpa using this⟩)
  clear hsl hws hacts hacell
  have b1 : decide ((600 : Int) < (pks.length : Int)) = false := by simpa using hbig
  have b2 : ((an : Int) == 0) = false := by simp; omega
  have b3 : decide ((60 : Int) < (an : Int)) = false := by simpa using ha1
  go_enter Try.func6, Try.ntmps6
  go_wp2_with fail
  refine (awake9 _).mono ?_
  rintro e w0 ⟨rfl, q0⟩
  have G0 := ((Has.nil w).up q0).addSl HSL.out
  clear q0
  go_wp2_with fail
  refine (Row_h G0 9 (by decide)).mono ?_
  rintro e w1 ⟨rv, rfl, G1⟩
  go_wp2_with fail
  refine (LinksOwn_h G1).mono ?_
  rintro e w2 ⟨lb, rfl, G2⟩
  clear G0 G1
  go_wp2_with (at_make; refine wpl_mk G2 rfl _ _ rfl el_u64v rfl (by decide) 10 rfl rfl (by decide) ?_; intro w3 G3)
  refine (New_h G3 _ (List.replicate 10 0) (sl_of_own9 (e := 37) (G3.get 2 rfl) (by simp)) (by decide)).mono ?_
  rintro e w4 ⟨sb, sg, rfl, G4'⟩
  have G4 := G4'.pick [0, 1, 3] (by decide) (by simp)
  clear G2 G3 G4'
  have G5 := ((G4.ownLit #[.int .i64 1, .int .i64 2, .int .i64 3] 3 1 3 rfl (by decide)).ownLit #[.int .i64 4, .int .i64 5] 3 1 2 rfl (by decide)).ownLit #[.int .i64 6, .int .i64 7, .int .i64 8] 3 1 3 rfl (by decide)
  have z1 : ∀ (w : World) o, (w.alloc o).heap.size = w.heap.size + 1 := fun w o => by simp
  simp only [z1] at G5
  have G6 := G5.ownLit #[.slice (some ⟨w4.heap.size, 0, none⟩) 3 3, .slice (some ⟨w4.heap.size + 1, 0, none⟩) 2 2, .slice (some ⟨w4.heap.size + 1 + 1, 0, none⟩) 3 3] 23 1 3 rfl (by decide)
  simp only [z1] at G6
  clear z1
  go_wp2_with (first | (at_make; refine wpl_mk G6 rfl _ _ rfl el_ptr9 rfl (by decide) 3 rfl rfl (by decide) ?_; intro w5 G7) | (at_make; refine wpl_mk G7 rfl _ _ rfl el_bool rfl (by decide) 3 rfl rfl (by decide) ?_; intro w6 G8))
  have G9 : Has w w6 (base9 w.heap.size (.slice pa pks.length pcap) pks lb rv sb sg (List.replicate 10 0) 0 (w4.heap.size + 1 + 1 + 1) (w4.heap.size + 1 + 1 + 1 + 1) w5.heap.size [.slice (some ⟨w4.heap.size, 0, none⟩) 3 3, .slice (some ⟨w4.heap.size + 1, 0, none⟩) 2 2, .slice (some ⟨w4.heap.size + 1 + 1, 0, none⟩) 3 3] [none, none, none] [false, false, false] [[1, 2, 3], [4, 5], [6, 7, 8]]) := by
    have z1 : ∀ (w : World) o, (w.alloc o).heap.size = w.heap.size + 1 := fun w o => by simp
    simp only [z1] at G8
    have h : Has w w6 [slC _ .u8 (.slice pa pks.length pcap) pks, linksC _ lb rv (rowL 9), storeC _ sb sg (List.replicate 10 0) 0, rwC _ 23 (w4.heap.size + 1 + 1 + 1) 3 [.slice (some ⟨w4.heap.size, 0, none⟩) 3 3, .slice (some ⟨w4.heap.size + 1, 0, none⟩) 2 2, .slice (some ⟨w4.heap.size + 1 + 1, 0, none⟩) 3 3], rwC _ 38 (w4.heap.size + 1 + 1 + 1 + 1) 3 (List.replicate 3 (.pointer none)), rwC _ 4 w5.heap.size 3 (List.replicate 3 (.bool false)), ownC _ 3 1 (.slice (some ⟨w4.heap.size, 0, none⟩) 3 3) 3 [.int .i64 1, .int .i64 2, .int .i64 3], ownC _ 3 1 (.slice (some ⟨w4.heap.size + 1, 0, none⟩) 2 2) 2 [.int .i64 4, .int .i64 5], ownC _ 3 1 (.slice (some ⟨w4.heap.size + 1 + 1, 0, none⟩) 3 3) 3 [.int .i64 6, .int .i64 7, .int .i64 8]] := G8.pick [0, 1, 2, 6, 7, 8, 3, 4, 5] (by decide) (by simp)
    exact ((h.add (noC _) (Below.refl _ _) (by simp [noC]) trivial).add (noC _) (Below.refl _ _) (by simp [noC]) trivial).add (noC _) (Below.refl _ _) (by simp [noC]) trivial
  clear G4 G5 G6 G7 G8
  generalize w4.heap.size + 1 + 1 + 1 + 1 = wb at G9 ⊢
  generalize w4.heap.size + 1 + 1 + 1 = hb at G9 ⊢
  generalize w5.heap.size = pb at G9 ⊢
  go_loopw [11, 12, 13, 14, 15, 16, 17, 18, 19, 20] (fun nv iv _ _ _ _ _ _ _ _ wr => ∃ (t N : Nat) (M R : List Int) (hs : List (List Int)) (os : List (Option (Nat × Mac))) (ps : List Bool) (vs : List Value) (c : Int), t ≤ pks.length + 60 ∧ iv = .int .i64 t ∧ nv = .int .i64 N ∧ N ≤ t ∧ Hid (SInv t M R hs (os.map omac) ps) ∧ Hid (vs.length = 3) ∧ Has w wr (base9 w.heap.size (.slice pa pks.length pcap) pks lb rv sb sg M c hb wb pb vs os ps hs)) (fun _ iv _ _ _ _ _ _ _ _ _ => pks.length + 60 - (intOf iv).toNat)
  case atStart => exact ⟨0, 0, _, [], _, _, _, _, _, by omega, rfl, rfl, by omega, Lib.hid so_first, Lib.hid rfl, G9⟩
  case round =>
  obtain ⟨t, N, M, R, hs, os, ps, vs, c, htP, rfl, rfl, hNt, I, HV, G⟩ := hrel
  clear G9
  by_cases htl : t < pks.length + 60
  · have htl' : (t : Int) < (pks.length : Int) + 60 := by omega
    have htb : (t : Int) < 1000 := by omega
    have rm : (t : Int).tmod 3 = ((t % 3 : Nat) : Int) := by rw [Int.tmod_eq_emod_of_nonneg (by omega)]; omega
    go_upto_if 59 with (fail)
    go_cut [13] (fun kv wx => ∃ kk : Nat, kk < 3 ∧ kv = .int .i64 kk ∧ wr = wx)
    case first =>
      --[F1
      as_aux_lemma =>
      by_cases hp : t < pks.length
      · have hp' : (t : Int) < (pks.length : Int) := by omega
        obtain ⟨x, hx⟩ : ∃ x, pks[t]? = some x := ⟨_, List.getElem?_eq_getElem hp⟩
        have hxb := HWS.out x (List.mem_of_getElem? hx)
        obtain ⟨xn, rfl⟩ := Int.eq_ofNat_of_zero_le hxb.1
        have rx : (xn : Int).tmod 3 = ((xn % 3 : Nat) : Int) := by rw [Int.tmod_eq_emod_of_nonneg (by omega)]; omega
        have hne : pks ≠ [] := by rintro rfl; simp at hp
        obtain ⟨cb, off, hab2, -, -, hcell⟩ := sl_at (G.sl 0 rfl) hne
        subst hab2
        have hc := hcell t _ hx
        have hx3 : xn % 3 < 3 := Nat.mod_lt _ (by omega)
        clear hcell hne hx
        generalize xn % 3 = jj at rx hx3
        go_wp2_with fail
        go_meet
        case rel => exact ⟨jj, hx3, by first | rfl | go_num, rfl⟩
      · have hp' : ¬ (t : Int) < (pks.length : Int) := by omega
        clear rm
        go_wp2_with fail
        go_meet
        case rel => exact ⟨t % 3, Nat.mod_lt _ (by omega), by first | rfl | (congr 1; omega), rfl⟩
      --]F1
    case rest =>
    obtain ⟨kk, hk3, rfl, rfl⟩ := hcut
    clear rm
    have hl1 := I.out.l1
    have HOL : Hid (os.length = 3) := Lib.hid (by have := I.out.l2; simpa using this)
    have HPL : Hid (ps.length = 3) := Lib.hid I.out.l3
    obtain ⟨o, ho⟩ : ∃ o, os[kk]? = some o := ⟨_, List.getElem?_eq_getElem (by rw [HOL.out]; exact hk3)⟩
    obtain ⟨h, hh⟩ : ∃ h, hs[kk]? = some h := ⟨_, List.getElem?_eq_getElem (by rw [hl1]; exact hk3)⟩
    obtain ⟨v, hv⟩ : ∃ v, vs[kk]? = some v := ⟨_, List.getElem?_eq_getElem (by rw [HV.out]; exact hk3)⟩
    have HO := Lib.hid ho
    have HH := Lib.hid hh
    have HVK := Lib.hid hv
    clear hl1 ho hh hv
    have hk3' : (kk : Int) < 3 := by omega
    have cw0 := rw_cell (G.get 4 rfl) (x := optr o) (by rw [List.getElem?_map, HO.out]; rfl)
    obtain ⟨po, hpo⟩ : ∃ po, optr o = .pointer po := by cases o <;> exact ⟨_, rfl⟩
    obtain ⟨bz, hbz⟩ : ∃ bz, bz = o.isNone := ⟨_, rfl⟩
    have fe : po.isNone = bz := by
      rw [hbz]
      cases o with
      | none => simp only [optr, Value.pointer.injEq] at hpo; subst hpo; rfl
      | some bm => simp only [optr, Value.pointer.injEq] at hpo; subst hpo; rfl
    rw [hpo] at cw0
    obtain ⟨cw, fw⟩ := cw0
    have HBZ := Lib.hid hbz
    have HPO := Lib.hid hpo
    clear hbz hpo
    obtain ⟨b, hb0⟩ : ∃ b, ps[kk]? = some b := ⟨_, List.getElem?_eq_getElem (by rw [HPL.out]; exact hk3)⟩
    have cp := bl_cell (G.get 5 rfl) hb0
    have HB0 := Lib.hid hb0
    clear hb0
    by_cases hcont : o = none ∧ ¬ t < pks.length
    · obtain ⟨rfl, hge⟩ := hcont
      have hge' : (pks.length : Int) ≤ (t : Int) := by omega
      obtain rfl : bz = true := HBZ.out
      clear cp
      go_wp2_with fail
      go_roundw
      case rel => exact ⟨t + 1, N, M, R, hs, os, ps, vs, c, by omega, by go_num, rfl, by omega, Lib.hid (so_wait I.out), HV, G⟩
      case measure => simp [intOf]; omega
    · obtain ⟨cp, fp⟩ := cp
      go_upto_if 70 with (fail)
      go_cut [11] (fun nv wx => ∃ (N' : Nat) (os' : List (Option (Nat × Mac))) (ps' : List Bool) (bq : Nat) (m : Mac) (p : Bool), nv = .int .i64 N' ∧ N' ≤ t + 1 ∧ Hid (SInv t M R hs (os'.map omac) ps') ∧ os'[kk]? = some (some (bq, m)) ∧ ps'[kk]? = some p ∧ Has w wx (base9 w.heap.size (.slice pa pks.length pcap) pks lb rv sb sg M c hb wb pb vs os' ps' hs))
      case first =>
        --[F2
        as_aux_lemma =>
        cases bz with
        | false =>
          obtain ⟨bm, rfl⟩ : ∃ bm, o = some bm := by
            cases o with
            | none => exact absurd HBZ.out (by simp)
            | some bm => exact ⟨bm, rfl⟩
          obtain ⟨bq, m⟩ := bm
          go_wp2_with fail
          go_meet
          case rel => exact ⟨N, os, ps, bq, m, b, rfl, by omega, I, HO.out, HB0.out, G⟩
        | true =>
          obtain rfl : o = none := by
            cases o with
            | none => rfl
            | some bm => exact absurd HBZ.out (by simp)
          have htp : t < pks.length := by
            rcases Nat.lt_or_ge t pks.length with q | q
            · exact q
            · exact absurd ⟨rfl, by omega⟩ hcont
          have htp' : decide ((pks.length : Int) ≤ (t : Int)) = false := by simp; omega
          clear hcont
          have hj : (N + 1) % an < an := Nat.mod_lt _ ha0
          obtain ⟨x, hx⟩ := HAC.out _ hj
          have hxc := (G.below.cell (p := ⟨ab, aoff + (N + 1) % an, none⟩) hab).trans hx
          have hNb : (N : Int) < 1000 := by omega
          have rn : ((N : Int) + 1).tmod (an : Int) = (((N + 1) % an : Nat) : Int) := by rw [Int.tmod_eq_emod_of_nonneg (by omega), show (N : Int) + 1 = ((N + 1 : Nat) : Int) by omega]; exact (Int.natCast_emod _ _).symm
          have hj' : (((N + 1) % an : Nat) : Int) < (an : Int) := by omega
          have han : ¬ (an : Int) = 0 := by omega
          have cv := rw_cell (G.get 3 rfl) HVK.out
          have ow := G.get (kk + 6) (base_own HV.out I.out.l1 HVK.out HH.out)
          obtain ⟨ra, rc, rfl⟩ := own_is ow
          have OW := Lib.hid ow
          obtain ⟨cv, fv⟩ := cv
          clear hx hj ow
          generalize (N + 1) % an = jj at hxc rn hj'
          cases x with
          | false =>
            have G2 : Has w _ (base9 w.heap.size (.slice pa pks.length pcap) pks lb rv sb sg M c hb wb pb vs os (ps.set kk false) hs) := G.blS 5 rfl kk hk3 false
            go_upto_region 22 with (fail)
            obtain ⟨W2, HW2, eW2⟩ := G2.name
            rw [← eW2.out]
            clear eW2 G2 cw cp
            have cw := rw_cell (HW2.get 4 rfl) (x := optr none) (by rw [List.getElem?_map, HO.out]; rfl)
            have cp := bl_cell (HW2.get 5 rfl) (u := kk) (x := false) (by rw [List.getElem?_set_self (by rw [HPL.out]; exact hk3)])
            simp only [optr] at cw
            obtain ⟨cw, fw⟩ := cw
            obtain ⟨cp, fp⟩ := cp
            go_wp2_with fail
            refine (Pop_h HW2 lb 0).mono ?_
            rintro e w8 ⟨bq, rfl, H8⟩
            clear cw fw cp fp
            obtain ⟨cw, fw⟩ := rw_cell (H8.get 4 rfl) (x := optr none) (by rw [List.getElem?_map, HO.out]; rfl)
            simp only [optr] at cw
            have H9 := H8.ownSet0 4 rfl kk (.pointer (some ⟨bq, 0, none⟩)) (by omega)
            go_wp2_with fail
            go_meet
            case rel => exact ⟨N + 1, _, _, bq, popM 0, false, rfl, by omega, Lib.hid (by rw [List.map_set]; exact so_pop I.out kk), by rw [List.getElem?_set_self (by rw [HOL.out]; exact hk3)], by rw [List.getElem?_set_self (by rw [HPL.out]; exact hk3)], base_in HV.out I.out.l1 HO.out H9⟩
          | true =>
            cases h with
            | nil =>
              have G2 : Has w _ (base9 w.heap.size (.slice pa pks.length pcap) pks lb rv sb sg M c hb wb pb vs os (ps.set kk false) hs) := G.blS 5 rfl kk hk3 false
              go_upto_region 22 with (fail)
              obtain ⟨W2, HW2, eW2⟩ := G2.name
              rw [← eW2.out]
              clear eW2 G2 cw cp
              have cw := rw_cell (HW2.get 4 rfl) (x := optr none) (by rw [List.getElem?_map, HO.out]; rfl)
              have cp := bl_cell (HW2.get 5 rfl) (u := kk) (x := false) (by rw [List.getElem?_set_self (by rw [HPL.out]; exact hk3)])
              simp only [optr] at cw
              obtain ⟨cw, fw⟩ := cw
              obtain ⟨cp, fp⟩ := cp
              go_wp2_with fail
              refine (Pop_h HW2 lb 0).mono ?_
              rintro e w8 ⟨bq, rfl, H8⟩
              clear cw fw cp fp
              obtain ⟨cw, fw⟩ := rw_cell (H8.get 4 rfl) (x := optr none) (by rw [List.getElem?_map, HO.out]; rfl)
              simp only [optr] at cw
              have H9 := H8.ownSet0 4 rfl kk (.pointer (some ⟨bq, 0, none⟩)) (by omega)
              go_wp2_with fail
              go_meet
              case rel => exact ⟨N + 1, _, _, bq, popM 0, false, rfl, by omega, Lib.hid (by rw [List.map_set]; exact so_pop I.out kk), by rw [List.getElem?_set_self (by rw [HOL.out]; exact hk3)], by rw [List.getElem?_set_self (by rw [HPL.out]; exact hk3)], base_in HV.out I.out.l1 HO.out H9⟩
            | cons x tl =>
              have G2 : Has w _ (base9 w.heap.size (.slice pa pks.length pcap) pks lb rv sb sg M c hb wb pb vs os (ps.set kk true) hs) := G.blS 5 rfl kk hk3 true
              obtain ⟨g, off, rfl, -, -, -, hcell, -⟩ := own_atV OW.out (by simp)
              have hx0 := hcell 0 (.int .i64 x) rfl
              have hxb := (sinv_bd I.out HH.out (List.mem_cons_self)).1
              clear hcell
              go_upto_region 22 with (fail)
              obtain ⟨W2, HW2, eW2⟩ := G2.name
              rw [← eW2.out]
              clear eW2 G2 cw cp cv hx0
              obtain ⟨cw, fw⟩ := rw_cell (HW2.get 4 rfl) (x := optr none) (by rw [List.getElem?_map, HO.out]; rfl)
              obtain ⟨cp, fp⟩ := bl_cell (HW2.get 5 rfl) (u := kk) (x := true) (by rw [List.getElem?_set_self (by rw [HPL.out]; exact hk3)])
              obtain ⟨cv, fv⟩ := rw_cell (HW2.get 3 rfl) HVK.out
              have ow2 := HW2.get (kk + 6) (base_own HV.out I.out.l1 HVK.out HH.out)
              obtain ⟨g2, off2, hg2, -, -, -, hcell, -⟩ := own_atV ow2 (by simp)
              cases hg2
              have hx0 := hcell 0 (.int .i64 x) rfl
              rw [Nat.add_zero] at hx0
              simp only [optr] at cw
              clear hcell ow2
              go_wp2_with fail
              refine (Push_h HW2 lb 0 x (by omega) (by omega)).mono ?_
              rintro e w8 ⟨bq, rfl, H8⟩
              clear cw fw cp fp cv fv hx0
              obtain ⟨cw, fw⟩ := rw_cell (H8.get 4 rfl) (x := optr none) (by rw [List.getElem?_map, HO.out]; rfl)
              simp only [optr] at cw
              have H9 := H8.ownSet0 4 rfl kk (.pointer (some ⟨bq, 0, none⟩)) (by omega)
              go_wp2_with fail
              go_meet
              case rel => exact ⟨N + 1, _, _, bq, pushM 0 x, true, rfl, by omega, Lib.hid (by rw [List.map_set]; exact so_push I.out HH.out rfl), by rw [List.getElem?_set_self (by rw [HOL.out]; exact hk3)], by rw [List.getElem?_set_self (by rw [HPL.out]; exact hk3)], base_in HV.out I.out.l1 HO.out H9⟩
        --]F2
      case rest =>
      obtain ⟨N', os', ps', bq, m, p, rfl, hN', I', ho', hp', G'⟩ := hcut
      clear cw fw cp fp fe HBZ HPO HO HB0 HOL HPL I G hcont
      have HO := Lib.hid ho'
      have HP := Lib.hid hp'
      have hOM : (os'.map omac)[kk]? = some (some m) := by rw [List.getElem?_map, ho']; rfl
      have K := I'.out.mac kk m h p hOM HH.out hp'
      have SE0 := so_step I'.out (by omega) hOM HH.out hp'
      have MOK0 := (mstep_ok (rowL 9) M m I'.out.ws K.ok).2
      have KOK := Lib.hid K.ok
      clear ho' hp' hOM K
      obtain ⟨cw, fw⟩ := rw_cell (G'.get 4 rfl) (x := optr (some (bq, m))) (by rw [List.getElem?_map, HO.out]; rfl)
      simp only [optr] at cw
      go_wp2_with fail
      refine (Step_h G' 2 (kk + 9) 1 rfl (base_mach HV.out I'.out.l1 HO.out) rfl I'.out.ws KOK.out (by rw [rowL_len]; omega)).mono ?_
      rintro e w5 ⟨rfl, H5⟩
      have H6 := base_step HV.out I'.out.l1 HO.out H5
      obtain ⟨M2, hM2⟩ : ∃ q, q = (mstep (rowL 9) M m).1 := ⟨_, rfl⟩
      obtain ⟨m2, hm2⟩ : ∃ q, q = (mstep (rowL 9) M m).2 := ⟨_, rfl⟩
      obtain ⟨c2, hc2⟩ : ∃ q, q = mcount m c := ⟨_, rfl⟩
      rw [← hM2, ← hm2, ← hc2] at H6
      rw [← hM2, ← hm2] at SE0
      rw [← hm2] at MOK0
      rw [← hm2]
      have SE := Lib.hid SE0
      have MOK := Lib.hid MOK0
      clear hM2 hm2 hc2 H5 SE0 MOK0 KOK cw fw
      have HO2 : Hid ((os'.set kk (some (bq, m2)))[kk]? = some (some (bq, m2))) := Lib.hid (by rw [List.getElem?_set_self (List.getElem?_eq_some_iff.1 HO.out).1])
      obtain ⟨cw, fw⟩ := rw_cell (H6.get 4 rfl) (x := optr (some (bq, m2))) (by rw [List.getElem?_map, HO2.out]; rfl)
      obtain ⟨cp, fp⟩ := bl_cell (H6.get 5 rfl) HP.out
      simp only [optr] at cw
      obtain ⟨B0, hB0⟩ : ∃ B0, B0 = (m2.pc == 0) := ⟨_, rfl⟩
      rw [← hB0]
      have HB := Lib.hid hB0
      clear hB0
      go_upto_if 120 with (fail)
      go_cut [14] (fun _ wx => ∃ (M R : List Int) (hs : List (List Int)) (os : List (Option (Nat × Mac))) (ps : List Bool) (vs : List Value) (c : Int), Hid (SInv (t + 1) M R hs (os.map omac) ps) ∧ Hid (vs.length = 3) ∧ Has w wx (base9 w.heap.size (.slice pa pks.length pcap) pks lb rv sb sg M c hb wb pb vs os ps hs))
      case first =>
        --[F3
        as_aux_lemma =>
        rcases SE.out with ⟨hpc, hI⟩ | ⟨tl, R', hpc, hpt, hhe, hI⟩ | ⟨hpc, hpf, hit, hI⟩ | ⟨R', hpc, hpf, hit, hI⟩
        · obtain rfl : B0 = false := by rw [HB.out]; simpa using hpc
          have HI := Lib.hid hI
          clear hpc hI
          go_wp2_with fail
          go_meet
          case rel => exact ⟨M2, R, hs, _, ps', vs, c2, Lib.hid (by rw [List.map_set]; exact HI.out), HV, H6⟩
        · obtain rfl : B0 = true := by rw [HB.out, hpc]; rfl
          have HI := Lib.hid hI
          have em : mitem m2 = m2.item := by unfold mitem; rw [hpc]; rfl
          have EM := Lib.hid em
          subst hpt
          subst hhe
          obtain ⟨it, hit⟩ : ∃ it, it = m2.item := ⟨_, rfl⟩
          rw [← hit] at EM HH
          have ow := H6.get (kk + 6) (base_own HV.out I'.out.l1 HVK.out HH.out)
          obtain ⟨ra, rc, rfl⟩ := own_is ow
          obtain ⟨g, off, rfl, hrc, -, -, hcell, -⟩ := own_atV ow (by simp)
          have hx0 := hcell 0 (.int .i64 it) rfl
          rw [Nat.add_zero] at hx0
          obtain ⟨cv, fv⟩ := rw_cell (H6.get 3 rfl) HVK.out
          have HIT := Lib.hid hit
          have fi : (it != it) = false := by simp
          clear hpc hI em hit hcell ow
          go_wp2_with fail
          refine (Item_h H6 (kk + 9) (base_mach HV.out I'.out.l1 HO2.out) MOK.out).mono ?_
          rw [EM.out]
          rintro e w7 ⟨rfl, hw⟩
          obtain rfl := hw.symm
          go_upto_region 33 with (fail)
          have H8 := base_has HV.out I'.out.l1 hk3 ((H6.ownTail (kk + 6) (base_own HV.out I'.out.l1 HVK.out HH.out)).ownSet0 3 rfl kk (tailV g off tl.length rc) (by omega))
          have HV2 : Hid ((vs.set kk (tailV g off tl.length rc)).length = 3) := Lib.hid (by rw [List.length_set]; exact HV.out)
          obtain ⟨W7, HW7, eW7⟩ := H8.name
          rw [show (Value.slice (if rc = 1 then some ⟨g, off, none⟩ else some ⟨g, off + 1, none⟩) tl.length (rc - 1)) = tailV g off tl.length rc from rfl, ← eW7.out]
          clear eW7 H8 cw fw
          obtain ⟨cw, fw⟩ := rw_cell (HW7.get 4 rfl) (x := optr (some (bq, m2))) (by rw [List.getElem?_map, HO2.out]; rfl)
          simp only [optr] at cw
          have H9 := HW7.ownSet0 4 rfl kk (.pointer none) (by omega)
          go_wp2_with fail
          go_meet
          case rel => exact ⟨M2, R', _, _, ps', _, c2, Lib.hid (by have := HI.out; rw [List.map_set, List.map_set, List.set_set]; exact this), HV2, base_off HV2.out (by rw [List.length_set]; exact I'.out.l1) HO2.out H9⟩
        · obtain rfl : B0 = true := by rw [HB.out, hpc]; rfl
          have HI := Lib.hid hI
          have em : mitem m2 = 0 := by unfold mitem; rw [hpc]; exact hit
          have EM := Lib.hid em
          subst hpf
          clear hpc hI em hit
          go_wp2_with fail
          refine (Item_h H6 (kk + 9) (base_mach HV.out I'.out.l1 HO2.out) MOK.out).mono ?_
          rw [EM.out]
          rintro e w7 ⟨rfl, hw⟩
          obtain rfl := hw.symm
          go_upto_region 33 with (fail)
          have H9 := H6.ownSet0 4 rfl kk (.pointer none) (by omega)
          go_wp2_with fail
          go_meet
          case rel => exact ⟨M2, R, hs, _, ps', vs, c2, Lib.hid (by have := HI.out; rw [List.map_set, List.map_set, List.set_set]; exact this), HV, base_off HV.out I'.out.l1 HO2.out H9⟩
        · obtain rfl : B0 = true := by rw [HB.out, hpc]; rfl
          have HI := Lib.hid hI
          obtain ⟨it, hit2⟩ : ∃ it, it = m2.item := ⟨_, rfl⟩
          have em : mitem m2 = it := by unfold mitem; rw [hpc, hit2]; rfl
          rw [← hit2] at hit HI
          have EM := Lib.hid em
          have HIT := Lib.hid hit2
          have fi : (it != 0) = true := by simpa using hit
          subst hpf
          obtain ⟨cv, fv⟩ := rw_cell (H6.get 3 rfl) HVK.out
          obtain ⟨ra, rc, rfl⟩ := own_is (H6.get (kk + 6) (base_own HV.out I'.out.l1 HVK.out HH.out))
          have hl8 : h.length + 1 < 1000000000000 := by
            have h1 := I'.out.tot
            obtain ⟨X, p1, -⟩ := flat_part HH.out []
            have h2 := p1.length_eq
            rw [List.length_append] at h1 h2
            omega
          clear hpc hI em hit hit2
          go_wp2_with fail
          refine (Item_h H6 (kk + 9) (base_mach HV.out I'.out.l1 HO2.out) MOK.out).mono ?_
          rw [EM.out]
          rintro e w7 ⟨rfl, hw⟩
          obtain rfl := hw.symm
          go_upto_region 33 with (at_builtin; refine wpl_app H6 (kk + 6) rfl (.tmp 153) (.tmp 155) rfl el_int rfl (by decide) (by decide) (base_own HV.out I'.out.l1 HVK.out HH.out) rfl [.int .i64 it] rfl rfl (by simp [Value.oneCell']) hl8 ?_; intro v2 w8 H7; obtain ⟨xa, xc, rfl⟩ := own_is (H7.get (kk + 6) (lset9 (base_own HV.out I'.out.l1 HVK.out HH.out) _)); rw [ownN_app] at H7; obtain ⟨cv2, fv2⟩ := rw_cell (H7.get 3 rfl) HVK.out; clear cv fv)
          have H8 := base_has HV.out I'.out.l1 hk3 (H7.ownSet0 3 rfl kk (.slice xa (h.length + 1) xc) (by omega))
          have HV2 : Hid ((vs.set kk (.slice xa (h.length + 1) xc)).length = 3) := Lib.hid (by rw [List.length_set]; exact HV.out)
          obtain ⟨W7, HW7, eW7⟩ := H8.name
          rw [← eW7.out]
          clear eW7 H8 cw fw
          obtain ⟨cw, fw⟩ := rw_cell (HW7.get 4 rfl) (x := optr (some (bq, m2))) (by rw [List.getElem?_map, HO2.out]; rfl)
          simp only [optr] at cw
          have H9 := HW7.ownSet0 4 rfl kk (.pointer none) (by omega)
          go_wp2_with fail
          go_meet
          case rel => exact ⟨M2, R', _, _, ps', _, c2, Lib.hid (by have := HI.out; rw [List.map_set, List.map_set, List.set_set]; exact this), HV2, base_off HV2.out (by rw [List.length_set]; exact I'.out.l1) HO2.out H9⟩
        --]F3
      case rest =>
      obtain ⟨M3, R3, hs3, os3, ps3, vs3, c3, I3, HV3, G3⟩ := hcut
      clear SE MOK HO2 HP HO HH HVK HV I' H6 G' cw fw cp fp HB
      obtain ⟨CS, hCS⟩ : ∃ CS, CS = base9 w.heap.size (.slice pa pks.length pcap) pks lb rv sb sg M3 c3 hb wb pb vs3 os3 ps3 hs3 := ⟨_, rfl⟩
      rw [← hCS] at G3
      have C1 : Hid (CS[1]? = some (linksC _ lb rv (rowL 9))) := Lib.hid (by rw [hCS]; rfl)
      have C2 : Hid (CS[2]? = some (storeC _ sb sg M3 c3)) := Lib.hid (by rw [hCS]; rfl)
      have C3 : Hid (CS[3]? = some (rwC _ 23 hb 3 vs3)) := Lib.hid (by rw [hCS]; rfl)
      have C6 : Hid (∀ (k : Nat) v h, vs3[k]? = some v → hs3[k]? = some h → CS[k + 6]? = some (ownN _ 3 .i64 v h)) := Lib.hid (fun k v h h1 h2 => by rw [hCS]; exact base_own HV3.out I3.out.l1 h1 h2)
      have HCS := Lib.hid hCS
      clear hCS
      have hM9 : M3.length < 1000000000000 := by rw [I3.out.len]; omega
      have HM9 := Lib.hid hM9
      clear hM9
      go_wp2_with (at_make; refine wpl_mk G3 rfl _ _ rfl el_bool rfl (by decide) 9 rfl rfl (by decide) ?_; intro w9 G4)
      generalize wc.heap.size = sb9 at G4 ⊢
      refine (All_h G4 2 (app9_old C2.out) HM9.out).mono ?_
      rintro e w10 ⟨av, rfl, G5⟩
      rw [List.append_assoc] at G5
      go_wp2_with fail
      refine (Walk_h G5 (CS.length + 1) 1 (app9_idx _ _ 1) (app9_old C1.out) (by rw [rowL_len]; omega) 0 20 (by omega)).mono ?_
      rw [show walkF (rowL 9) M3 (20 : Int).toNat 0 = R3 from so_walk I3.out]
      rintro e w11 ⟨wv, rfl, G6⟩
      rw [List.append_assoc] at G6
      have G7 : Has w w11 (CS ++ [blC _ sb9 9 (List.replicate 9 false), ownN _ 3 .i64 wv R3]) := G6.dropMid
      clear G3 G4 G5 G6
      obtain ⟨xa, xc, rfl⟩ := own_is (G7.get (CS.length + 1) (app9_idx _ _ 1))
      go_wp2_with fail
      go_loopw [16, 18, 19, 20] (fun nv jv _ _ wr => ∃ (j : Nat) (sn : List Bool), j ≤ 4 ∧ jv = .int .i64 j ∧ nv = .int .i64 ((pre4 (L4 hs3 R3) j 0).length : Nat) ∧ Hid (Sn sn (pre4 (L4 hs3 R3) j 0)) ∧ Has w wr (CS ++ [blC _ sb9 9 sn, ownN _ 3 .i64 (.slice xa R3.length xc) R3])) (fun _ jv _ _ _ => 4 - (intOf jv).toNat)
      case atStart => exact ⟨0, _, by omega, rfl, rfl, Lib.hid sn_nil, G7⟩
      case round =>
      obtain ⟨j, sn, hj, rfl, rfl, S, G8⟩ := hrel
      clear G7
      by_cases hj4 : j < 4
      · have hj4' : (j : Int) < 4 := by omega
        have CX : Hid (j < 3 → ∃ v h, vs3[j]? = some v ∧ hs3[j]? = some h) := Lib.hid (fun h3 => ⟨_, _, List.getElem?_eq_getElem (by rw [HV3.out]; exact h3), List.getElem?_eq_getElem (by rw [I3.out.l1]; exact h3)⟩)
        go_upto_if 172 with (fail)
        go_cut [19] (fun lv wx => ∃ (la : Option Addr) (lc : Nat) (l : List Int), lv = .slice la l.length lc ∧ Hid ((L4 hs3 R3)[j]? = some l) ∧ Hid (∀ (wq : World) (sq : List Bool), Has w wq (CS ++ [blC _ sb9 9 sq, ownN _ 3 .i64 (.slice xa R3.length xc) R3]) → Own wq 3 1 (.slice la l.length lc) l.length (l.map (Value.int .i64))) ∧ wr = wx)
        case first =>
          --[F4
          as_aux_lemma =>
          by_cases hj3 : j < 3
          · have hj3' : (j : Int) < 3 := by omega
            obtain ⟨v, h, hv, hh⟩ := CX.out hj3
            obtain ⟨cv, fv⟩ := rw_cell (G8.get 3 (app9_old C3.out)) hv
            have c6 := C6.out j v h hv hh
            obtain ⟨la, lc, rfl⟩ := own_is (G8.get (j + 6) (app9_old c6))
            have HH := Lib.hid hh
            have HC6 := Lib.hid c6
            clear hv hh c6
            go_wp2_with fail
            go_meet
            case rel => exact ⟨la, lc, h, rfl, Lib.hid (l4_has HH.out), Lib.hid (fun wq sq Hq => Hq.get (j + 6) (app9_old HC6.out)), rfl⟩
          · have hj3' : decide ((j : Int) < 3) = false := by simp; omega
            obtain rfl : j = 3 := by omega
            go_wp2_with fail
            go_meet
            case rel => exact ⟨xa, xc, R3, rfl, Lib.hid (l4_last R3 I3.out.l1), Lib.hid (fun wq sq Hq => Hq.get (CS.length + 1) (app9_idx _ _ 1)), rfl⟩
          --]F4
        case rest =>
        obtain ⟨la, lc, l, rfl, HL, HO, rfl⟩ := hcut
        clear CX
        have e0 : Hid (pre4 (L4 hs3 R3) j 0 = pre4 (L4 hs3 R3) j 0) := Lib.hid rfl
        go_wp2_with fail
        go_loopw [16, 20] (fun nv qv wr => ∃ (q : Nat) (sn : List Bool), q ≤ l.length ∧ qv = .int .i64 q ∧ nv = .int .i64 ((pre4 (L4 hs3 R3) j q).length : Nat) ∧ Hid (Sn sn (pre4 (L4 hs3 R3) j q)) ∧ Has w wr (CS ++ [blC _ sb9 9 sn, ownN _ 3 .i64 (.slice xa R3.length xc) R3])) (fun _ qv _ => l.length - (intOf qv).toNat)
        case atStart => exact ⟨0, sn, by omega, rfl, rfl, S, G8⟩
        case round =>
        obtain ⟨q, sn2, hq, rfl, rfl, S2, G9⟩ := hrel
        clear G8
        by_cases hql : q < l.length
        · --[F5
          as_aux_lemma =>
          have hqi : (q : Int) < (l.length : Int) := by omega
          obtain ⟨x, hx⟩ : ∃ x, l[q]? = some x := ⟨_, List.getElem?_eq_getElem hql⟩
          have nd : (L4 hs3 R3).flatten.Nodup := by rw [l4_flat]; exact I3.out.nd
          obtain ⟨s1, s2, s3⟩ := pre4_sub nd HL.out hx
          have hxb := I3.out.it x (by rw [← l4_flat]; exact s2)
          have hlt8 : (pre4 (L4 hs3 R3) j q).length < 8 := by
            have h8 := I3.out.tot
            rw [← l4_flat] at h8
            omega
          obtain ⟨xn, rfl⟩ := Int.eq_ofNat_of_zero_le (show (0 : Int) ≤ x by omega)
          have hsn := sn_no S2.out xn (by omega) s1
          obtain ⟨cs, fs⟩ := bl_cell (G9.get CS.length (app9_idx _ _ 0)) hsn
          obtain ⟨g, off, rfl, -, -, -, hcell, -⟩ := own_atV (HO.out _ _ G9) (by omega)
          have hc := hcell q (.int .i64 xn) (by rw [List.getElem?_map, hx]; rfl)
          have HX := Lib.hid hx
          have x1 : decide ((xn : Int) < 1) = false := by simp; omega
          have x8 : decide ((8 : Int) < (xn : Int)) = false := by simp; omega
          have x9 : (xn : Int) < 9 := by omega
          have hl1000 : (q : Int) < 1000 := by
            have := hql
            have h8 := I3.out.tot
            rw [← l4_flat] at h8
            have : l.length ≤ (L4 hs3 R3).flatten.length := by
              obtain ⟨X, p1, -⟩ := flat_part HL.out []
              have := p1.length_eq
              rw [List.length_append] at this
              omega
            omega
          obtain ⟨cn, hcn⟩ : ∃ cn, cn = (pre4 (L4 hs3 R3) j q).length := ⟨_, rfl⟩
          rw [← hcn] at hlt8
          have HCN := Lib.hid hcn
          rw [← hcn]
          clear nd s1 s2 s3 hsn hcell hx hcn
          go_wp2_with fail
          have G10 := G9.blS CS.length (app9_idx _ _ 0) xn (by omega) true
          have e := set9_app CS [blC w.heap.size sb9 9 sn2, ownN _ 3 .i64 (.slice xa R3.length xc) R3] 0 (blC _ sb9 9 (sn2.set xn true))
          rw [Nat.add_zero] at e
          rw [e] at G10
          have G11 : Has w _ (CS ++ [blC _ sb9 9 (sn2.set xn true), ownN _ 3 .i64 (.slice xa R3.length xc) R3]) := G10
          clear e G10
          go_roundw
          case rel => exact ⟨q + 1, _, by omega, by go_num, by rw [pre4_q HL.out HX.out, List.length_append, List.length_singleton, ← HCN.out]; go_num, Lib.hid (by rw [pre4_q HL.out HX.out]; exact sn_set S2.out xn (by omega)), G11⟩
          case measure => simp [intOf]; omega
          --]F5
        · --[F6
          as_aux_lemma =>
          have hqi : ¬ (q : Int) < (l.length : Int) := by omega
          have hj8 : (j : Int) < 1000 := by omega
          have EP := Lib.hid (pre4_j HL.out (show l.length ≤ q by omega))
          clear hql
          go_wp2_with fail
          go_roundw
          case rel => exact ⟨j + 1, sn2, by omega, by go_num, by rw [EP.out], Lib.hid (by rw [EP.out]; exact S2.out), G9⟩
          case measure => simp [intOf]; omega
          --]F6
      · --[F7
        as_aux_lemma =>
        have hj4' : ¬ (j : Int) < 4 := by omega
        obtain rfl : j = 4 := by omega
        have e8 : (pre4 (L4 hs3 R3) 4 0).length = 8 := by
          rw [pre4_end _ (by unfold L4; rw [List.length_append, I3.out.l1]; rfl), l4_flat]
          exact I3.out.tot
        rw [e8]
        have G9 := G8.front9
        rw [HCS.out] at G9
        clear e8
        go_wp2_with fail
        go_roundw
        case rel => exact ⟨t + 1, N', M3, R3, hs3, os3, ps3, vs3, c3, by omega, by go_num, rfl, hN', I3, HV3, G9⟩
        case measure => simp [intOf]; omega
        --]F7
  · have htl' : ¬ (t : Int) < (pks.length : Int) + 60 := by omega
    go_wp2_with fail
    go_ret
    exact ⟨rfl, G.below⟩

set_option maxRecDepth 100000 in
theorem walk_StackOnce (a : Option Addr) (len cap : Nat) (zs : List Int) (aa : Option Addr) (al ac an : Nat) (w : World) (hr : IsRow .u8 w a len cap zs) (ha : IsRows [.bool] w (.slice aa al ac) an) :
    Calls Try.prog 6 #[.slice a len cap, .slice aa al ac] w fun e w' => e = .returned (.bool true) ∧ Below w.heap.size w w' := by
  obtain ⟨l, rfl, hsl, hwf⟩ := row_opens hr
  obtain rfl : al = an := by
    rcases ha with ⟨h, h0⟩ | ⟨y, c, h, _⟩
    · cases h; exact h0.symm
    · cases h; rfl
  by_cases h1 : (600 : Int) < (l.length : Int)
  · clear hr hsl hwf ha
    go_enter Try.func6, Try.ntmps6
    go_wp2_with fail
    refine (awake9 w).mono ?_
    rintro e w1 ⟨rfl, b1⟩
    go_wp2_with fail
    go_ret
    exact ⟨rfl, b1⟩
  · by_cases h2 : al = 0
    · subst h2
      have h1b : decide ((600 : Int) < (l.length : Int)) = false := by simpa using h1
      clear hr hsl hwf ha
      go_enter Try.func6, Try.ntmps6
      go_wp2_with fail
      refine (awake9 w).mono ?_
      rintro e w1 ⟨rfl, b1⟩
      go_wp2_with fail
      go_ret
      exact ⟨rfl, b1⟩
    · by_cases h3 : (60 : Int) < (al : Int)
      · have h1b : decide ((600 : Int) < (l.length : Int)) = false := by simpa using h1
        have h2b : ((al : Int) == 0) = false := by simp; omega
        clear hr hsl hwf ha
        go_enter Try.func6, Try.ntmps6
        go_wp2_with fail
        refine (awake9 w).mono ?_
        rintro e w1 ⟨rfl, b1⟩
        go_wp2_with fail
        go_ret
        exact ⟨rfl, b1⟩
      · exact sonce_ok a _ cap ac al l w hsl (fun x hx => by have := Go.bounds_u8 (hwf x hx); omega) ha h1 (by omega) h3

end Go.Proofs.Ytaciapjohakpgaa

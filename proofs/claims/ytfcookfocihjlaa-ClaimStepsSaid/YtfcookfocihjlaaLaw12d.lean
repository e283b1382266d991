/- ClaimMany. -/
import Derived.Test.YtfcookfocihjlaaClMany2
set_option linter.unusedVariables false
set_option linter.unusedSimpArgs false
namespace Go.Proofs.Ytfcookfocihjlaa
open Go.ChangeShapes Go.WideShapes Go.ChangeAt Go.RowKit

theorem el_bool12 : ElemOf Try.prog 50 4 (.bool false) 1 1 := elemOf Try.underlying50 (by kernel_rfl)
theorem el_int12 : ElemOf Try.prog 51 3 (.int .i64 0) 1 8 := elemOf Try.underlying51 (by kernel_rfl)
/-- A slice of five Booleans of the call's own. -/
def wantC (n0 wg : Nat) (l : List Bool) : Chunk n0 := ownC n0 4 1 (.slice (some ⟨wg, 0, none⟩) 5 5) 5 (l.map .bool)
def wonC (n0 wg : Nat) (l : List Int) : Chunk n0 := ownC n0 3 1 (.slice (some ⟨wg, 0, none⟩) 5 5) 5 (l.map (.int .i64))
theorem wantC_set {n0 wg : Nat} (l : List Bool) (v : Nat) (b : Bool) : ownC n0 4 1 (.slice (some ⟨wg, 0, none⟩) 5 5) 5 ((l.map Value.bool).set v (.bool b)) = wantC n0 wg (l.set v b) := by unfold wantC; rw [List.map_set]
theorem wonC_set {n0 wg : Nat} (l : List Int) (v : Nat) (b : Int) : ownC n0 3 1 (.slice (some ⟨wg, 0, none⟩) 5 5) 5 ((l.map (Value.int .i64)).set v (.int .i64 b)) = wonC n0 wg (l.set v b) := by unfold wonC; rw [List.map_set]

/-- How many nodes below v were won. -/
def sumTo (ms : List Cl) : Nat → Int
  | 0 => 0
  | 1 => 0
  | v + 2 => sumTo ms (v + 1) + cntV ((v + 1 : Nat) : Int) ms

theorem sumTo5 (ms : List Cl) : sumTo ms 5 = cntV 1 ms + cntV 2 ms + cntV 3 ms + cntV 4 ms := by
  have h : sumTo ms 5 = 0 + cntV 1 ms + cntV 2 ms + cntV 3 ms + cntV 4 ms := rfl
  rw [h]; omega

theorem ends_0 (cy : Int) (ns : List Int) (P : Nat) (hk : 1 ≤ ns.length) : Ends ns.length P 0 (ms0 cy ns) := by
  intro j m hm
  obtain ⟨x, hx, rfl⟩ := ms0_at hm
  refine ⟨by simp [rank], fun hP => .inr ?_⟩
  have : P = 0 := by omega
  rw [this]; simp [rank]

theorem row_open12 {w : World} {k : IntKind} {a : Option Addr} {len cap : Nat} {zs : List Int} (hr : IsRow k w a len cap zs) : ∃ l : List Int, len = l.length ∧ Sl w [] k (.slice a l.length cap) l ∧ ∀ x ∈ l, (Lit.int k x).wf = true := by
  have hsl := sl_of_row hr
  have hlen : (zs.take len).length = len := by
    rcases hr with ⟨_, rfl, _, rfl⟩ | ⟨x, _, hl, _, hz, _⟩
    · rfl
    · rw [List.length_take]; omega
  have hwf : ∀ x ∈ zs.take len, (Lit.int k x).wf = true := by
    intro x hx
    have hm := List.mem_of_mem_take hx
    rcases hr with ⟨_, _, _, rfl⟩ | ⟨y, _, _, _, _, _, hwf⟩
    · simp at hm
    · exact hwf x hm
  exact ⟨zs.take len, hlen.symm, by rw [hlen]; exact hsl, hwf⟩

set_option maxRecDepth 100000 in
set_option maxHeartbeats 16000000 in
theorem many_ok (cy : Int) (oa na pa : Option Addr) (ocap ncap pcap : Nat) (os ns pks : List Int) (w : World) (hso : Sl w [] .u64 (.slice oa os.length ocap) os) (hsn : Sl w [] .u8 (.slice na ns.length ncap) ns) (hsp : Sl w [] .u8 (.slice pa pks.length pcap) pks)
    (hwo : ∀ x ∈ os, 0 ≤ x ∧ x < 18446744073709551616) (hwn : ∀ x ∈ ns, 0 ≤ x ∧ x < 256) (hwp : ∀ x ∈ pks, 0 ≤ x ∧ x < 256) (ho4 : ¬ (4 : Int) < (os.length : Int)) (hn8 : ¬ (8 : Int) < (ns.length : Int)) (hn0 : ¬ (ns.length : Int) = 0) (hp2 : ¬ (200 : Int) < (pks.length : Int)) :
    Calls Try.prog 6 #[.slice oa os.length ocap, .int .u64 cy, .slice na ns.length ncap, .slice pa pks.length pcap] w fun e w' => e = .returned (.bool true) ∧ Below w.heap.size w w' := by
  have HS := Lib.hid (And.intro hso (And.intro hsn hsp))
  have HW := Lib.hid (And.intro hwo (And.intro hwn hwp))
  clear hso hsn hsp hwo hwn hwp
  have z1 : ((ns.length : Int) == 0) = false := by simpa using hn0
  go_enter Try.func6, Try.ntmps6
  go_wp2_with fail
  refine (awake12 _).mono ?_
  rintro e w0 ⟨rfl, q0⟩
  have G0 := ((((Has.nil w).up q0).addSl HS.out.1).addSl HS.out.2.1).addSl HS.out.2.2
  clear q0
  go_wp2_with fail
  refine (New_m G0 (c12 4) c12_ok4).mono ?_
  rintro e w1 ⟨mb, av, rv, rfl, G1⟩
  go_wp2_with fail
  refine (First_h G1 3 rfl c12_ok4).mono ?_
  rintro e w2 ⟨g, n, rfl, G2⟩
  go_wp2_with fail
  refine (New_h G2 _ (l12 4) (sl_of_ownN (G2.get 4 rfl)) (l12_len c12_ok4)).mono ?_
  rintro e w3 ⟨sb, sg, rfl, G3'⟩
  have G3 := G3'.pick [0, 1, 2, 3, 5] (by decide) (by simp)
  clear G0 G1 G2 G3'
  go_wp2_with fail
  go_loopw [13] (fun iv wr => ∃ (i : Nat) (l : List Int) (n : Int), i ≤ os.length ∧ iv = .int .i64 i ∧ Hid (l.length = (l12 4).length ∧ mld l 1 = 0) ∧ Has w wr [slC _ .u64 (.slice oa os.length ocap) os, slC _ .u8 (.slice na ns.length ncap) ns, slC _ .u8 (.slice pa pks.length pcap) pks, mapC _ mb av rv (c12 4), storeC _ sb sg l n]) (fun iv _ => 10 - (intOf iv).toNat)
  case atStart => exact ⟨0, l12 4, _, by omega, rfl, Lib.hid ⟨rfl, by kernel_rfl⟩, G3⟩
  case round =>
  obtain ⟨i, ll, n, hi, rfl, HLL, G⟩ := hrel
  clear G3
  by_cases hlt : i < os.length
  · have hlt' : (i : Int) < (os.length : Int) := by omega
    obtain ⟨x, hx⟩ := el_get os i hlt
    have hne : os ≠ [] := by rintro rfl; simp at hlt
    obtain ⟨cb, off, hab, -, -, hcell⟩ := sl_at (G.sl 0 rfl) hne
    subst hab
    have hc := hcell i _ hx
    have HC : Hid (∀ {w' : World} {l : List Int} {n : Int}, Has w w' [slC _ .u64 (.slice (some ⟨cb, off, none⟩) os.length ocap) os, slC _ .u8 (.slice na ns.length ncap) ns, slC _ .u8 (.slice pa pks.length pcap) pks, mapC _ mb av rv (c12 4), storeC _ sb sg l n] → w'.cell? ⟨cb, off + i, none⟩ = some (.int .u64 x)) := Lib.hid (fun H => by
      obtain ⟨cb', off', hab, -, -, hcell⟩ := sl_at (H.sl 0 rfl) hne
      cases hab
      exact hcell i _ hx)
    clear hcell hx
    have hne' := Lib.hid hne
    clear hne
    have s1 : IntKind.i64.wrap ((i : Int) + 1) = (i : Int) + 1 := wrapi64_id _ (by omega) (by omega)
    go_wp2_with fail
    go_region_held3 (fun w' => w'.cell? ⟨cb, off + i, none⟩ = some (.int .u64 x)) (first | (with_reducible assumption) | (simp only [cell_drewN1, cell_drew1]; with_reducible assumption)) (first | (go_at_call 16; refine (Mark_q ((G.drewN _).mAt 3 rfl c12_ok4) ((i : Int) + 1)).mono ?_; rintro e x1 ⟨rfl, d1, rfl⟩) | (go_at_call 18; refine (Put_h (G.drewN _) 4 rfl _ x).mono ?_; rintro e x2 ⟨rfl, H2⟩; have hc2 := HC.out H2))
    go_wp2_with fail
    go_roundw
    case rel =>
      have hb : 2 ≤ (c12 4).nodeAt ((i : Int) + 1) 2 := (mk4_bd ((i : Int) + 1) (by omega)).1
      exact ⟨i + 1, _, _, by omega, by go_num, Lib.hid ⟨by rw [mput_length]; exact HLL.out.1, by rw [mld_mput_ne _ _ _ _ (by omega)]; exact HLL.out.2⟩, H2⟩
    case measure => simp [intOf]; omega
  have hge : ¬ (i : Int) < (os.length : Int) := by omega
  have hll12 : Hid (ll.length < 1000000000000) := Lib.hid (by rw [HLL.out.1]; exact l12_len c12_ok4)
  go_wp2_with fail
  refine (All_h G 4 rfl hll12.out).mono ?_
  rintro e w5 ⟨wv, rfl, G5⟩
  obtain ⟨wa, wcap, rfl, -, -⟩ := G5.sl 5 rfl
  clear G hlt hi hge
  go_wp2_with (at_make; refine wpl_mk G5 rfl _ _ rfl el_bool12 rfl (by decide) 5 rfl rfl (by omega) ?_; intro w6 G6)
  have G6' := G6.ownNil 35 1
  obtain ⟨wg, hwg⟩ : ∃ wg, wg = w5.heap.size := ⟨_, rfl⟩
  rw [← hwg] at G6' ⊢
  clear hwg G6 G5
  go_loopw [15, 17, 18] (fun lv iv u wr => ∃ (i : Nat) (bs : List Nat), i ≤ ns.length ∧ iv = .int .i64 i ∧ Hid (bs.length = i) ∧ Has w wr (slC _ .u64 (.slice oa os.length ocap) os :: slC _ .u8 (.slice na ns.length ncap) ns :: slC _ .u8 (.slice pa pks.length pcap) pks :: mapC _ mb av rv (c12 4) :: storeC _ sb sg ll n :: slC _ .u64 (.slice wa ll.length wcap) ll :: wantC _ wg (wantF cy (fun v => mld ll ((c12 4).nodeAt v 2)) (ns.take i)) :: ptrC _ lv bs :: zw _ mb bs (ms0 cy (ns.take i)))) (fun _ iv _ _ => 10 - (intOf iv).toNat)
  case atStart => exact ⟨0, [], by omega, rfl, Lib.hid rfl, G6'⟩
  case round =>
  obtain ⟨i, bs, hi, rfl, HB, G⟩ := hrel
  clear G6'
  by_cases hlt : i < ns.length
  · have hlt' : (i : Int) < (ns.length : Int) := by omega
    obtain ⟨x, hx⟩ := el_get ns i hlt
    have hxb := HW.out.2.1 x (List.mem_of_getElem? hx)
    have hne : ns ≠ [] := by rintro rfl; simp at hlt
    obtain ⟨cb, off, hab, -, -, hcell⟩ := sl_at (G.sl 1 rfl) hne
    subst hab
    have hc := hcell i _ hx
    have e2 : x.tmod 4 = x % 4 := Int.tmod_eq_emod_of_nonneg hxb.1
    obtain ⟨v, hv⟩ : ∃ v : Nat, (v : Int) = x % 4 + 1 := ⟨(x % 4 + 1).toNat, by omega⟩
    have hvb : 1 ≤ v ∧ v ≤ 4 := by omega
    have HV := Lib.hid (show nodeOf x = (v : Int) from hv.symm)
    have HX := Lib.hid hx
    have n0 := Int.emod_nonneg x (by omega : (4 : Int) ≠ 0)
    have n1 := Int.emod_lt_of_pos x (by omega : (0 : Int) < 4)
    obtain ⟨r, hr⟩ : ∃ r, r = x % 4 := ⟨_, rfl⟩
    rw [← hr] at e2 n0 n1
    obtain rfl : r = (v : Int) - 1 := by omega
    have s1 : IntKind.i64.wrap ((v : Int) - 1 + 1) = (v : Int) := by rw [wrapi64_id _ (by omega) (by omega)]; omega
    have s2 : (v : Int) - 1 + 1 = (v : Int) := by omega
    clear hcell hne hv hr hx
    go_wp2_with fail
    refine (clNew_h G mb (v : Int) cy).mono ?_
    rintro e x1 ⟨xb, rfl, G2⟩
    go_wp2_with (at_builtin; refine wpl_app G2 7 rfl (.tmp 90) (.tmp 95) rfl el_ptr rfl (by decide) (by decide) rfl rfl [.pointer (some ⟨xb, 0, none⟩)] rfl rfl (by simp [Value.oneCell']) (by rw [HB.out]; omega) ?_; intro v1 x2 G3; rw [ptr_app] at G3)
    have hmk := mk4_bd (v : Int) (by omega)
    obtain ⟨mk, hmk1, hmk2⟩ := at_nat ((c12 4).nodeAt (v : Int) 2) (by omega)
    have hmkl : mk < ll.length := by rw [HLL.out.1]; omega
    have hmkl' : (mk : Int) < (ll.length : Int) := by omega
    have MK := Lib.hid hmk1
    have hne : ll ≠ [] := by rintro rfl; simp at hmkl
    obtain ⟨wb, woff, hwab, -, -, wcell⟩ := sl_at (G3.sl 5 rfl) hne
    cases hwab
    obtain ⟨X, hX⟩ := el_get ll mk hmkl
    have hwc := wcell mk _ hX
    have OX := Lib.hid (show mld ll ((c12 4).nodeAt (v : Int) 2) = X by rw [mld_in ⟨by omega, by omega⟩, hmk2, List.getD_eq_getElem?_getD, hX]; rfl)
    obtain ⟨tc, tf⟩ := own_at0 (G3.get 6 rfl) (by omega)
    have htl : v < (wantF cy (fun v => mld ll ((c12 4).nodeAt v 2)) (ns.take i)).length := by rw [wantF_len]; omega
    have tv := tc v _ (by rw [List.getElem?_map, List.getElem?_eq_getElem htl]; rfl)
    have hv5 : (v : Int) < 5 := by omega
    clear hmk hmk1 hmk2 wcell hX tc hne
    go_wp2_with fail
    refine (Mark_q (G3.mAt 3 rfl c12_ok4) (v : Int)).mono ?_
    rw [MK.out]
    rintro e x3 ⟨rfl, d3, rfl⟩
    go_wp2_with fail
    go_roundw
    case rel =>
      have e1 := zw_app w.heap.size mb bs (ms0 cy (ns.take i)) xb ⟨v, cy, 0, false, 1⟩ (by rw [HB.out]; simp [ms0]; omega)
      have e3 : ms0 cy (ns.take (i + 1)) = ms0 cy (ns.take i) ++ [⟨v, cy, 0, false, 1⟩] := by
        rw [take_snoc1 _ _ _ HX.out]; unfold ms0; rw [List.map_append]; simp [HV.out]
      have e4 := wantF_snoc cy (fun v => mld ll ((c12 4).nodeAt v 2)) (ns.take i) x v HV.out (by omega)
      rw [← take_snoc1 _ _ _ HX.out] at e4
      refine ⟨i + 1, bs ++ [xb], by omega, by go_num, Lib.hid (by simp [HB.out]), ?_⟩
      rw [e3, ← e1, e4]
      have G4 := (G3.drewN d3).ownSet0 6 rfl v (.bool (decide (X < cy))) (by omega)
      rw [wantC_set] at G4
      have e5 : decide ((fun v => mld ll ((c12 4).nodeAt v 2)) (v : Int) < cy) = decide (X < cy) := by simp only [OX.out]
      rw [e5]
      exact G4
    case measure => simp [intOf]; omega
  have hge : ¬ (i : Int) < (ns.length : Int) := by omega
  obtain rfl : i = ns.length := by omega
  rw [List.take_length] at G
  have hnb : 1 ≤ ns.length ∧ ns.length ≤ 8 := by omega
  clear hlt hi z1 hn0 hn8
  obtain ⟨pa', pc', rfl⟩ := own_is (G.get 7 rfl)
  obtain ⟨pg, poff, rfl, -, -, -, -, -⟩ := own_atV (G.get 7 rfl) (by rw [HB.out]; omega)
  have HIM := Lib.hid (im4_0 cy ll ns HLL.out.1 HLL.out.2)
  have HE0 := Lib.hid (ends_0 cy ns pks.length hnb.1)
  have HN0 := Lib.hid (nodesOf_0 cy ns)
  have HBl : 1 ≤ bs.length ∧ bs.length ≤ 8 := by rw [HB.out]; exact hnb
  go_wp2_with fail
  go_loopw [19, 20] (fun tv jv wr => ∃ (t : Nat) (l : List Int) (n : Int) (ms : List Cl) (W : Int → Option Nat), t ≤ pks.length + 4 * ns.length ∧ tv = .int .i64 t ∧ Hid (IM (c12 4) cy (fun v => mld ll ((c12 4).nodeAt v 2)) (l12 4).length l ms W) ∧ Hid (Ends ns.length pks.length t ms) ∧ Hid (NodesOf ns ms) ∧ Has w wr (slC _ .u64 (.slice oa os.length ocap) os :: slC _ .u8 (.slice na ns.length ncap) ns :: slC _ .u8 (.slice pa pks.length pcap) pks :: mapC _ mb av rv (c12 4) :: storeC _ sb sg l n :: slC _ .u64 (.slice wa ll.length wcap) ll :: wantC _ wg (wantF cy (fun v => mld ll ((c12 4).nodeAt v 2)) ns) :: ptrC _ (.slice (some ⟨pg, poff, none⟩) bs.length pc') bs :: zw _ mb bs ms)) (fun tv _ _ => 233 - (intOf tv).toNat)
  case atStart => exact ⟨0, _, _, _, _, by omega, rfl, HIM, HE0, HN0, G⟩
  case round =>
  obtain ⟨t, l, n, ms, W, ht, rfl, HI, HE, HN, G⟩ := hrel
  clear HIM HE0 HN0
  by_cases hlt : t < pks.length + 4 * ns.length
  · have hlt' : (t : Int) < (pks.length : Int) + 4 * (bs.length : Int) := by rw [HB.out]; omega
    have hi0 : ¬ (bs.length : Int) = 0 := by omega
    have rm : (t : Int).tmod (bs.length : Int) = ((t % ns.length : Nat) : Int) := by rw [Int.tmod_eq_emod_of_nonneg (by omega), HB.out]; omega
    by_cases hp : t < pks.length
    · have hp' : (t : Int) < (pks.length : Int) := by omega
      obtain ⟨x, hx⟩ := el_get pks t hp
      have hxb := HW.out.2.2 x (List.mem_of_getElem? hx)
      obtain ⟨xn, rfl⟩ := Int.eq_ofNat_of_zero_le hxb.1
      have rx : (xn : Int).tmod (bs.length : Int) = ((xn % ns.length : Nat) : Int) := by rw [Int.tmod_eq_emod_of_nonneg (by omega), HB.out]; omega
      have hne : pks ≠ [] := by rintro rfl; simp at hp
      obtain ⟨cb, off, hab, -, -, hcell⟩ := sl_at (G.sl 2 rfl) hne
      subst hab
      have hc := hcell t _ hx
      clear hcell hne hx
      have hji : xn % ns.length < ns.length := Nat.mod_lt _ (by omega)
      obtain ⟨xb, hxb⟩ := el_get bs (xn % ns.length) (by rw [HB.out]; exact hji)
      obtain ⟨m, hm⟩ := el_get ms (xn % ns.length) (by rw [HN.out.1]; exact hji)
      obtain ⟨g, goff, hgg, -, -, -, hcell2, -⟩ := own_atV (G.get 7 rfl) (by rw [HB.out]; omega)
      cases hgg
      have hc2 := hcell2 (xn % ns.length) (.pointer (some ⟨xb, 0, none⟩)) (by unfold ptrs; rw [List.getElem?_map, hxb]; rfl)
      obtain ⟨W2, I2⟩ := im_step apart4 HI.out (by rw [HN.out.1]; omega) (xn % ns.length) m hm
      have HI2 := Lib.hid I2
      have HE2 := Lib.hid (ends_step (c := c12 4) l HE.out (by omega) HN.out.1 (xn % ns.length) m hm (pc_of HI.out _ m hm) (fun hP => by omega))
      have HN2 := Lib.hid (nodesOf_set HN.out (c12 4) l (xn % ns.length) m hm)
      have HZ := Lib.hid (zw_at (n0 := w.heap.size) (mb := mb) hxb hm)
      have HXB := Lib.hid hxb
      have hlb : ((xn % ns.length : Nat) : Int) < (bs.length : Int) := by rw [HB.out]; omega
      clear hcell2 hxb hm I2
      clear hji
      generalize xn % ns.length = jj at rx hc2 HI2 HE2 HN2 HZ HXB hlb
      go_wp2_with fail
      refine (clStep_h G 4 (jj + 8) 3 m rfl HZ.out rfl (by omega) c12_ok4).mono ?_
      rintro e x1 ⟨rfl, G2⟩
      go_wp2_with fail
      go_roundw
      case rel =>
        refine ⟨t + 1, _, clCount m n, _, _, by omega, by go_num, HI2, HE2, HN2, ?_⟩
        rw [← zw_set _ HXB.out]
        exact G2
      case measure => simp [intOf]; omega
    · have hp' : ¬ (t : Int) < (pks.length : Int) := by omega
      have hji : t % ns.length < ns.length := Nat.mod_lt _ (by omega)
      obtain ⟨xb, hxb⟩ := el_get bs (t % ns.length) (by rw [HB.out]; exact hji)
      obtain ⟨m, hm⟩ := el_get ms (t % ns.length) (by rw [HN.out.1]; exact hji)
      obtain ⟨g, goff, hgg, -, -, -, hcell2, -⟩ := own_atV (G.get 7 rfl) (by rw [HB.out]; omega)
      cases hgg
      have hc2 := hcell2 (t % ns.length) (.pointer (some ⟨xb, 0, none⟩)) (by unfold ptrs; rw [List.getElem?_map, hxb]; rfl)
      obtain ⟨W2, I2⟩ := im_step apart4 HI.out (by rw [HN.out.1]; omega) (t % ns.length) m hm
      have HI2 := Lib.hid I2
      have HE2 := Lib.hid (ends_step (c := c12 4) l HE.out (by omega) HN.out.1 (t % ns.length) m hm (pc_of HI.out _ m hm) (fun _ => rfl))
      have HN2 := Lib.hid (nodesOf_set HN.out (c12 4) l (t % ns.length) m hm)
      have HZ := Lib.hid (zw_at (n0 := w.heap.size) (mb := mb) hxb hm)
      have HXB := Lib.hid hxb
      have hlb : ((t % ns.length : Nat) : Int) < (bs.length : Int) := by rw [HB.out]; omega
      clear hcell2 hxb hm I2
      clear hji
      generalize t % ns.length = jj at rm hc2 HI2 HE2 HN2 HZ HXB hlb
      go_wp2_with fail
      refine (clStep_h G 4 (jj + 8) 3 m rfl HZ.out rfl (by omega) c12_ok4).mono ?_
      rintro e x1 ⟨rfl, G2⟩
      go_wp2_with fail
      go_roundw
      case rel =>
        refine ⟨t + 1, _, clCount m n, _, _, by omega, by go_num, HI2, HE2, HN2, ?_⟩
        rw [← zw_set _ HXB.out]
        exact G2
      case measure => simp [intOf]; omega
  · have hge2 : ¬ (t : Int) < (pks.length : Int) + 4 * (bs.length : Int) := by rw [HB.out]; omega
    obtain rfl : t = pks.length + 4 * ns.length := by omega
    have PC : Hid (∀ (j : Nat) m, ms[j]? = some m → m.pc = 0) := Lib.hid (fun j m hm => ends_all HE.out (by omega) HN.out.1 j m hm (pc_of HI.out j m hm))
    clear hlt ht
    have z8 : ns ≠ [] := by rintro rfl; simp at hnb
    obtain ⟨nb, noff, hnab, -, -, -⟩ := sl_at (G.sl 1 rfl) z8
    subst hnab
    go_wp2_with (at_make; refine wpl_mk G rfl _ _ rfl el_int12 rfl (by decide) 5 rfl rfl (by omega) ?_; intro w7 G7)
    obtain ⟨vg, hvg⟩ : ∃ vg, vg = wr.heap.size := ⟨_, rfl⟩
    rw [← hvg] at G7 ⊢
    clear hvg
    go_loopw [22] (fun tv wr => ∃ t : Nat, t ≤ bs.length ∧ tv = .int .i64 t ∧ Has w wr ((slC w.heap.size .u64 (.slice oa os.length ocap) os :: slC w.heap.size .u8 (.slice (some ⟨nb, noff, none⟩) ns.length ncap) ns :: slC w.heap.size .u8 (.slice pa pks.length pcap) pks :: mapC w.heap.size mb av rv (c12 4) :: storeC w.heap.size sb sg l n :: slC w.heap.size .u64 (.slice wa ll.length wcap) ll :: wantC w.heap.size wg (wantF cy (fun v => mld ll ((c12 4).nodeAt v 2)) ns) :: ptrC w.heap.size (.slice (some ⟨pg, poff, none⟩) bs.length pc') bs :: zw w.heap.size mb bs ms) ++ [wonC _ vg (wonF (ms.take t))])) (fun tv _ => 10 - (intOf tv).toNat)
    case atStart => exact ⟨0, by omega, rfl, G7⟩
    case round =>
    obtain ⟨t, ht, rfl, G2⟩ := hrel
    clear G G7
    by_cases hlt : t < bs.length
    · have hlt' : (t : Int) < (bs.length : Int) := by omega
      obtain ⟨xb, hxb⟩ := el_get bs t hlt
      obtain ⟨m, hm⟩ := el_get ms t (by rw [HN.out.1, ← HB.out]; exact hlt)
      have hpc := PC.out t m hm
      obtain ⟨x, hx, hmv⟩ := HN.out.2 t m hm
      have hxr := HW.out.2.1 x (List.mem_of_getElem? hx)
      obtain ⟨g, off, hgg, -, -, -, hcell, -⟩ := own_atV (G2.get 7 rfl) (by omega)
      cases hgg
      have hc := hcell t (.pointer (some ⟨xb, 0, none⟩)) (by unfold ptrs; rw [List.getElem?_map, hxb]; rfl)
      have HZ : Hid ((zw w.heap.size mb bs ms)[t]? = some (clC w.heap.size xb mb m)) := Lib.hid (zw_at hxb hm)
      have HZ2 : Hid (((slC w.heap.size .u64 (.slice oa os.length ocap) os :: slC w.heap.size .u8 (.slice (some ⟨nb, noff, none⟩) ns.length ncap) ns :: slC w.heap.size .u8 (.slice pa pks.length pcap) pks :: mapC w.heap.size mb av rv (c12 4) :: storeC w.heap.size sb sg l n :: slC w.heap.size .u64 (.slice wa ll.length wcap) ll :: wantC w.heap.size wg (wantF cy (fun v => mld ll ((c12 4).nodeAt v 2)) ns) :: ptrC w.heap.size (.slice (some ⟨pg, poff, none⟩) bs.length pc') bs :: zw w.heap.size mb bs ms) ++ [wonC _ vg (wonF (ms.take t))])[t + 8]? = some (clC w.heap.size xb mb m)) := Lib.hid (get_app (l := (slC w.heap.size .u64 (.slice oa os.length ocap) os :: slC w.heap.size .u8 (.slice (some ⟨nb, noff, none⟩) ns.length ncap) ns :: slC w.heap.size .u8 (.slice pa pks.length pcap) pks :: mapC w.heap.size mb av rv (c12 4) :: storeC w.heap.size sb sg l n :: slC w.heap.size .u64 (.slice wa ll.length wcap) ll :: wantC w.heap.size wg (wantF cy (fun v => mld ll ((c12 4).nodeAt v 2)) ns) :: ptrC w.heap.size (.slice (some ⟨pg, poff, none⟩) bs.length pc') bs :: zw w.heap.size mb bs ms)) HZ.out _)
      have KE := Lib.hid (clStep_end (c12 4) l m hpc)
      have KC : Hid (clCount m n = n) := Lib.hid (by unfold clCount; rw [hpc]; rfl)
      have HP := Lib.hid hpc
      have HM := Lib.hid hm
      have HX := Lib.hid hx
      have HXB := Lib.hid hxb
      clear hcell hm hpc hxb
      go_wp2_with fail
      refine (clStep_h G2 4 (t + 8) 3 m rfl HZ2.out rfl (by omega) c12_ok4).mono ?_
      rw [KE.out, KC.out]
      dsimp only
      rw [HP.out]
      rintro e x1 ⟨rfl, G3'⟩
      have G3 : Has w x1 ((slC w.heap.size .u64 (.slice oa os.length ocap) os :: slC w.heap.size .u8 (.slice (some ⟨nb, noff, none⟩) ns.length ncap) ns :: slC w.heap.size .u8 (.slice pa pks.length pcap) pks :: mapC w.heap.size mb av rv (c12 4) :: storeC w.heap.size sb sg l n :: slC w.heap.size .u64 (.slice wa ll.length wcap) ll :: wantC w.heap.size wg (wantF cy (fun v => mld ll ((c12 4).nodeAt v 2)) ns) :: ptrC w.heap.size (.slice (some ⟨pg, poff, none⟩) bs.length pc') bs :: zw w.heap.size mb bs ms) ++ [wonC _ vg (wonF (ms.take t))]) := by
        have e1 : ((slC w.heap.size .u64 (.slice oa os.length ocap) os :: slC w.heap.size .u8 (.slice (some ⟨nb, noff, none⟩) ns.length ncap) ns :: slC w.heap.size .u8 (.slice pa pks.length pcap) pks :: mapC w.heap.size mb av rv (c12 4) :: storeC w.heap.size sb sg l n :: slC w.heap.size .u64 (.slice wa ll.length wcap) ll :: wantC w.heap.size wg (wantF cy (fun v => mld ll ((c12 4).nodeAt v 2)) ns) :: ptrC w.heap.size (.slice (some ⟨pg, poff, none⟩) bs.length pc') bs :: zw w.heap.size mb bs ms) ++ [wonC _ vg (wonF (ms.take t))]).set 4 (storeC _ sb sg l n) = (slC w.heap.size .u64 (.slice oa os.length ocap) os :: slC w.heap.size .u8 (.slice (some ⟨nb, noff, none⟩) ns.length ncap) ns :: slC w.heap.size .u8 (.slice pa pks.length pcap) pks :: mapC w.heap.size mb av rv (c12 4) :: storeC w.heap.size sb sg l n :: slC w.heap.size .u64 (.slice wa ll.length wcap) ll :: wantC w.heap.size wg (wantF cy (fun v => mld ll ((c12 4).nodeAt v 2)) ns) :: ptrC w.heap.size (.slice (some ⟨pg, poff, none⟩) bs.length pc') bs :: zw w.heap.size mb bs ms) ++ [wonC _ vg (wonF (ms.take t))] := lset_is rfl
        rw [e1, lset_is HZ2.out] at G3'
        exact G3'
      clear G3' hc
      obtain ⟨g', off', hgg, -, -, -, hcell, -⟩ := own_atV (G3.get 7 rfl) (by omega)
      have hc2 := hcell t (.pointer (some ⟨xb, 0, none⟩)) (by unfold ptrs; rw [List.getElem?_map, HXB.out]; rfl)
      cases hgg
      clear hcell
      have e2 : x.tmod 4 = x % 4 := Int.tmod_eq_emod_of_nonneg hxr.1
      obtain ⟨v, hv⟩ : ∃ v : Nat, (v : Int) = x % 4 + 1 := ⟨(x % 4 + 1).toNat, by omega⟩
      have hvb : 1 ≤ v ∧ v ≤ 4 := by omega
      have HV := Lib.hid (show m.v = (v : Int) by rw [hmv]; exact hv.symm)
      have n0 := Int.emod_nonneg x (by omega : (4 : Int) ≠ 0)
      have n1 := Int.emod_lt_of_pos x (by omega : (0 : Int) < 4)
      obtain ⟨r, hr⟩ : ∃ r, r = x % 4 := ⟨_, rfl⟩
      rw [← hr] at e2 n0 n1
      obtain rfl : r = (v : Int) - 1 := by omega
      have s1 : IntKind.i64.wrap ((v : Int) - 1 + 1) = (v : Int) := by rw [wrapi64_id _ (by omega) (by omega)]; omega
      have s2 : (v : Int) - 1 + 1 = (v : Int) := by omega
      have hv5 : (v : Int) < 5 := by omega
      clear hv hr hmv
      go_wp2_with fail
      refine (clWon_h G3 (t + 8) m HZ2.out).mono ?_
      generalize hW : m.won = won
      have HWON := Lib.hid hW
      clear hW
      rintro e x2 ⟨rfl, d2, rfl⟩
      cases won with
      | true =>
        obtain ⟨cb, coff, hab, -, -, hcelln⟩ := sl_at (G3.sl 1 rfl) z8
        cases hab
        have hcn := hcelln t _ HX.out
        have GL : Own x1 3 1 (.slice (some ⟨vg, 0, none⟩) 5 5) 5 ((wonF (ms.take t)).map (Value.int .i64)) := G3.get ((slC w.heap.size .u64 (.slice oa os.length ocap) os :: slC w.heap.size .u8 (.slice (some ⟨nb, noff, none⟩) ns.length ncap) ns :: slC w.heap.size .u8 (.slice pa pks.length pcap) pks :: mapC w.heap.size mb av rv (c12 4) :: storeC w.heap.size sb sg l n :: slC w.heap.size .u64 (.slice wa ll.length wcap) ll :: wantC w.heap.size wg (wantF cy (fun v => mld ll ((c12 4).nodeAt v 2)) ns) :: ptrC w.heap.size (.slice (some ⟨pg, poff, none⟩) bs.length pc') bs :: zw w.heap.size mb bs ms)).length (get_last _ _)
        obtain ⟨vc, vf⟩ := own_at0 GL (by omega)
        have hwv := vc v _ (by rw [List.getElem?_map, wonF_at _ v (by omega)]; rfl)
        have hbd := cnt_bd v (ms.take t)
        have hbl : (ms.take t).length ≤ 8 := by rw [List.length_take]; omega
        obtain ⟨C, hC⟩ : ∃ C, C = cntV v (ms.take t) := ⟨_, rfl⟩
        rw [← hC] at hwv hbd
        have HC := Lib.hid hC
        have hCb : 0 ≤ C ∧ C ≤ 8 := by omega
        have hnl : (t : Int) < (ns.length : Int) := by rw [← HB.out]; exact hlt'
        clear hC hcelln vc GL hbd hbl
        go_wp2_with fail
        go_roundw
        case rel =>
          refine ⟨t + 1, by omega, by go_num, ?_⟩
          rw [take_snoc1 _ _ _ HM.out, wonF_yes _ m HWON.out v HV.out (by omega), ← HC.out]
          have G4 := (G3.drewN d2).ownSet0 ((slC w.heap.size .u64 (.slice oa os.length ocap) os :: slC w.heap.size .u8 (.slice (some ⟨nb, noff, none⟩) ns.length ncap) ns :: slC w.heap.size .u8 (.slice pa pks.length pcap) pks :: mapC w.heap.size mb av rv (c12 4) :: storeC w.heap.size sb sg l n :: slC w.heap.size .u64 (.slice wa ll.length wcap) ll :: wantC w.heap.size wg (wantF cy (fun v => mld ll ((c12 4).nodeAt v 2)) ns) :: ptrC w.heap.size (.slice (some ⟨pg, poff, none⟩) bs.length pc') bs :: zw w.heap.size mb bs ms)).length (get_last _ _) v (.int .i64 (C + 1)) (by omega)
          rw [set_last, wonC_set] at G4
          exact G4
        case measure => simp [intOf]; omega
      | false =>
        go_wp2_with fail
        go_roundw
        case rel => exact ⟨t + 1, by omega, by go_num, by rw [take_snoc1 _ _ _ HM.out, wonF_no _ m HWON.out]; exact G3.drewN _⟩
        case measure => simp [intOf]; omega
    · have hge3 : ¬ (t : Int) < (bs.length : Int) := by omega
      obtain rfl : t = bs.length := by omega
      have HTK : Hid (ms.take bs.length = ms) := Lib.hid (List.take_of_length_le (by rw [HN.out.1, HB.out]; exact Nat.le_refl _))
      rw [HTK.out] at G2
      clear hlt ht
      go_wp2_with fail
      go_loopw [23, 24, 25] (fun nv vv u wr => ∃ (v : Nat) (k S : Int), 1 ≤ v ∧ v ≤ 5 ∧ vv = .int .i64 v ∧ nv = .int .i64 S ∧ 0 ≤ S ∧ S ≤ v ∧ Hid (S = sumTo ms v) ∧ Has w wr ((slC w.heap.size .u64 (.slice oa os.length ocap) os :: slC w.heap.size .u8 (.slice (some ⟨nb, noff, none⟩) ns.length ncap) ns :: slC w.heap.size .u8 (.slice pa pks.length pcap) pks :: mapC w.heap.size mb av rv (c12 4) :: storeC w.heap.size sb sg l k :: slC w.heap.size .u64 (.slice wa ll.length wcap) ll :: wantC w.heap.size wg (wantF cy (fun v => mld ll ((c12 4).nodeAt v 2)) ns) :: ptrC w.heap.size (.slice (some ⟨pg, poff, none⟩) bs.length pc') bs :: zw w.heap.size mb bs ms) ++ [wonC _ vg (wonF ms)])) (fun _ vv _ _ => 10 - (intOf vv).toNat)
      case atStart => exact ⟨1, n, 0, by omega, by omega, rfl, rfl, by omega, by omega, Lib.hid rfl, G2⟩
      case round =>
      obtain ⟨v, k, S, hv1, hv2, rfl, rfl, hS0, hS1, HSU, G⟩ := hrel
      clear G2
      by_cases hlt : v ≤ 4
      · have hlt' : (v : Int) ≤ 4 := by omega
        have hv5 : (v : Int) < 5 := by omega
        obtain ⟨tc, tf⟩ := own_at0 (G.get 6 rfl) (by omega)
        have tv := tc v _ (by rw [List.getElem?_map, wantF_at _ _ _ v (by omega)]; rfl)
        have GL : Own wr 3 1 (.slice (some ⟨vg, 0, none⟩) 5 5) 5 ((wonF ms).map (Value.int .i64)) := G.get ((slC w.heap.size .u64 (.slice oa os.length ocap) os :: slC w.heap.size .u8 (.slice (some ⟨nb, noff, none⟩) ns.length ncap) ns :: slC w.heap.size .u8 (.slice pa pks.length pcap) pks :: mapC w.heap.size mb av rv (c12 4) :: storeC w.heap.size sb sg l k :: slC w.heap.size .u64 (.slice wa ll.length wcap) ll :: wantC w.heap.size wg (wantF cy (fun v => mld ll ((c12 4).nodeAt v 2)) ns) :: ptrC w.heap.size (.slice (some ⟨pg, poff, none⟩) bs.length pc') bs :: zw w.heap.size mb bs ms)).length (get_last _ _)
        obtain ⟨vc, vf⟩ := own_at0 GL (by omega)
        have hwv := vc v _ (by rw [List.getElem?_map, wonF_at _ v (by omega)]; rfl)
        have hsum : sumTo ms (v + 1) = sumTo ms v + cntV v ms := by
          match v, hv1 with
          | v + 1, _ => rfl
        have HM := Lib.hid hsum
        clear tc vc GL hsum
        rcases many_v HI.out PC.out HN.out v hv1 hlt with ⟨a1, a2, a3⟩ | ⟨a1, a2, a3⟩
        · rw [a1] at tv
          rw [a2] at hwv HM
          have A3 := Lib.hid a3
          clear a1 a2 a3
          go_wp2_with fail
          refine (Mark_q (G.mAt 3 rfl c12_ok4) (v : Int)).mono ?_
          rintro e x1 ⟨rfl, d1, rfl⟩
          go_wp2_with fail
          refine (Load_h (G.drewN _) 4 rfl _).mono ?_
          rw [A3.out]
          rintro e x2 ⟨rfl, H2⟩
          go_wp2_with fail
          go_roundw
          case rel => exact ⟨v + 1, _, S + 1, by omega, by omega, by go_num, rfl, by omega, by omega, Lib.hid (by rw [HM.out, HSU.out]), H2⟩
          case measure => simp [intOf]; omega
        · rw [a1] at tv
          rw [a2] at hwv HM
          have hmk := mk4_bd (v : Int) (by omega)
          obtain ⟨mk, hmk1, hmk2⟩ := at_nat ((c12 4).nodeAt (v : Int) 2) (by omega)
          have hmkl : mk < ll.length := by rw [HLL.out.1]; omega
          have hmkl' : (mk : Int) < (ll.length : Int) := by omega
          have MK := Lib.hid hmk1
          have hne : ll ≠ [] := by rintro rfl; simp at hmkl
          obtain ⟨X, hX⟩ := el_get ll mk hmkl
          have OX : mld ll ((c12 4).nodeAt (v : Int) 2) = X := by rw [mld_in ⟨by omega, by omega⟩, hmk2, List.getD_eq_getElem?_getD, hX]; rfl
          have A3 : Hid (mld l (mk : Int) = X) := Lib.hid (by rw [← hmk1, a3]; exact OX)
          have HXX := Lib.hid hX
          have HNE := Lib.hid hne
          clear hmk hmk1 hmk2 hX hne OX a1 a2 a3
          go_wp2_with fail
          refine (Mark_q (G.mAt 3 rfl c12_ok4) (v : Int)).mono ?_
          rw [MK.out]
          rintro e x1 ⟨rfl, d1, rfl⟩
          go_wp2_with fail
          refine (Load_h (G.drewN _) 4 rfl _).mono ?_
          rw [A3.out]
          rintro e x2 ⟨rfl, H2⟩
          obtain ⟨wb, woff, hwab, -, -, wcell⟩ := sl_at (H2.sl 5 rfl) HNE.out
          cases hwab
          have hwc := wcell mk _ HXX.out
          clear wcell
          go_wp2_with fail
          refine (Mark_q (H2.mAt 3 rfl c12_ok4) (v : Int)).mono ?_
          rw [MK.out]
          rintro e x3 ⟨rfl, d3, rfl⟩
          go_wp2_with fail
          go_roundw
          case rel => exact ⟨v + 1, _, S, by omega, by omega, by go_num, rfl, by omega, by omega, Lib.hid (by rw [HM.out, HSU.out]; omega), H2.drewN _⟩
          case measure => simp [intOf]; omega
      · have hge4 : ¬ (v : Int) ≤ 4 := by omega
        obtain rfl : v = 5 := by omega
        have KW : Hid (mld l 1 = S) := Lib.hid (by
          rw [HI.out.wk, HSU.out, cnt_all ms (fun j m hm => ⟨PC.out j m hm, by
            obtain ⟨x, hx, e⟩ := HN.out.2 j m hm
            rw [e]; exact nodeOf_bd x⟩)]
          rw [sumTo5])
        go_wp2_with fail
        refine (Work_q (G.mAt 3 rfl c12_ok4)).mono ?_
        rintro e x1 ⟨rfl, d1, rfl⟩
        go_wp2_with fail
        refine (Load_h (G.drewN _) 4 rfl 1).mono ?_
        rw [KW.out]
        rintro e x2 ⟨rfl, H2⟩
        go_wp2_with fail
        go_ret
        exact ⟨by first | rfl | simp, H2.below⟩

set_option maxRecDepth 100000 in
theorem walk_ClaimMany (a : Option Addr) (len cap : Nat) (zs : List Int) (cy : Int) (a' : Option Addr) (len' cap' : Nat) (zs' : List Int) (a2 : Option Addr) (len2 cap2 : Nat) (zs2 : List Int) (w : World) (hr : IsRow .u64 w a len cap zs) (hr' : IsRow .u8 w a' len' cap' zs') (hr2 : IsRow .u8 w a2 len2 cap2 zs2) :
    Calls Try.prog 6 #[.slice a len cap, .int .u64 cy, .slice a' len' cap', .slice a2 len2 cap2] w fun e w' => e = .returned (.bool true) ∧ Below w.heap.size w w' := by
  have ho := row_open12 hr
  have hn := row_open12 hr'
  have hp := row_open12 hr2
  obtain ⟨os, rfl, hso, hwo⟩ := ho
  obtain ⟨ns, rfl, hsn, hwn⟩ := hn
  obtain ⟨pks, rfl, hsp, hwp⟩ := hp
  have wo : ∀ x ∈ os, 0 ≤ x ∧ x < 18446744073709551616 := fun x hx => by have := Go.bounds_u64 (hwo x hx); omega
  have wn : ∀ x ∈ ns, 0 ≤ x ∧ x < 256 := fun x hx => by have := Go.bounds_u8 (hwn x hx); omega
  have wp : ∀ x ∈ pks, 0 ≤ x ∧ x < 256 := fun x hx => by have := Go.bounds_u8 (hwp x hx); omega
  by_cases g1 : (4 : Int) < (os.length : Int) ∨ (8 : Int) < (ns.length : Int) ∨ (ns.length : Int) = 0 ∨ (200 : Int) < (pks.length : Int)
  · clear hso hsn hsp hwo hwn hwp wo wn wp
    go_enter Try.func6, Try.ntmps6
    go_wp2_with fail
    refine (awake12 _).mono ?_
    rintro e w0 ⟨rfl, q0⟩
    by_cases q1 : (4 : Int) < (os.length : Int)
    · go_wp2_with fail
      go_ret
      exact ⟨rfl, q0⟩
    by_cases q2 : (8 : Int) < (ns.length : Int)
    · go_wp2_with fail
      go_ret
      exact ⟨rfl, q0⟩
    by_cases q3 : (ns.length : Int) = 0
    · have q3' : ((ns.length : Int) == 0) = true := by simpa using q3
      go_wp2_with fail
      go_ret
      exact ⟨rfl, q0⟩
    · have q3' : ((ns.length : Int) == 0) = false := by simpa using q3
      have q4 : (200 : Int) < (pks.length : Int) := by omega
      go_wp2_with fail
      go_ret
      exact ⟨rfl, q0⟩
  · simp only [not_or] at g1
    exact many_ok cy a a' a2 cap cap' cap2 os ns pks w hso hsn hsp wo wn wp g1.1 g1.2.1 g1.2.2.1 g1.2.2.2

end Go.Proofs.Ytfcookfocihjlaa

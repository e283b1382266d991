/- ClaimOnce. -/
import Derived.Test.YtfcookfocihjlaaClMany
set_option linter.unusedVariables false
set_option linter.unusedSimpArgs false
namespace Go.Proofs.Ytfcookfocihjlaa
open Go.ChangeShapes Go.WideShapes Go.ChangeAt Go.RowKit

theorem el_ptr : ElemOf Try.prog 44 35 (.pointer none) 1 8 := elemOf Try.underlying44 (by kernel_rfl)
def ptrs (bs : List Nat) : List Value := bs.map fun b => .pointer (some ⟨b, 0, none⟩)
/-- A slice of the call's own of pointers to machines. -/
def ptrC (n0 : Nat) (v : Value) (bs : List Nat) : Chunk n0 := ownC n0 35 1 v bs.length (ptrs bs)
theorem ptr_app (n0 : Nat) (v : Value) (bs : List Nat) (b : Nat) : ownC n0 35 1 v (bs.length + 1) (ptrs bs ++ [.pointer (some ⟨b, 0, none⟩)]) = ptrC n0 v (bs ++ [b]) := by
  unfold ptrC ptrs; simp
/-- The machines' blocks. -/
def zw (n0 mb : Nat) (bs : List Nat) (ms : List Cl) : List (Chunk n0) := List.zipWith (fun b m => clC n0 b mb m) bs ms
theorem zw_app (n0 mb : Nat) (bs : List Nat) (ms : List Cl) (b : Nat) (m : Cl) (h : ms.length = bs.length) : zw n0 mb bs ms ++ [clC n0 b mb m] = zw n0 mb (bs ++ [b]) (ms ++ [m]) := by
  unfold zw; rw [List.zipWith_append h.symm]; rfl
theorem zw_at {n0 mb : Nat} {bs : List Nat} {ms : List Cl} {j b : Nat} {m : Cl} (hb : bs[j]? = some b) (hm : ms[j]? = some m) : (zw n0 mb bs ms)[j]? = some (clC n0 b mb m) := by
  unfold zw; rw [List.getElem?_zipWith, hb, hm]
theorem zw_set {n0 mb : Nat} {bs : List Nat} {ms : List Cl} {j b : Nat} (m : Cl) (hb : bs[j]? = some b) : (zw n0 mb bs ms).set j (clC n0 b mb m) = zw n0 mb bs (ms.set j m) := by
  unfold zw
  apply List.ext_getElem?
  intro i
  by_cases e : j = i
  · subst e
    by_cases hj : j < ms.length
    · have hbl := (List.getElem?_eq_some_iff.1 hb).1
      rw [List.getElem?_set_self (by simp; omega), List.getElem?_zipWith, hb, List.getElem?_set_self hj]
    · rw [List.getElem?_eq_none (by simp; omega), List.getElem?_eq_none (by simp; omega)]
  · rw [List.getElem?_set_ne e, List.getElem?_zipWith, List.getElem?_zipWith, List.getElem?_set_ne e]

theorem apart2 : Apart (c12 2) (l12 2).length := by
  have nd : (c12 2).nd = 2 := by decide +kernel
  have a1 : 2 ≤ (c12 2).nodeAt 1 2 ∧ (c12 2).nodeAt 1 2 < (l12 2).length := by decide +kernel
  have a2 : 2 ≤ (c12 2).nodeAt 2 2 ∧ (c12 2).nodeAt 2 2 < (l12 2).length := by decide +kernel
  have a3 : (c12 2).nodeAt 1 2 ≠ (c12 2).nodeAt 2 2 := by decide +kernel
  refine ⟨fun v h1 h2 => ?_, fun v u h1 h2 h3 h4 hne => ?_, by decide +kernel⟩
  · have : v = 1 ∨ v = 2 := by omega
    rcases this with rfl | rfl
    · exact a1
    · exact a2
  · have e1 : v = 1 ∨ v = 2 := by omega
    have e2 : u = 1 ∨ u = 2 := by omega
    rcases e1 with rfl | rfl <;> rcases e2 with rfl | rfl
    · exact absurd rfl hne
    · exact a3
    · exact a3.symm
    · exact absurd rfl hne

def old2 (o v : Int) : Int := if v = 2 then o else 0
theorem im2_0 (cy o : Int) (k : Nat) : IM (c12 2) cy (old2 o) (l12 2).length (mput (l12 2) ((c12 2).nodeAt 2 2) o) (List.replicate k ⟨2, cy, 0, false, 1⟩) (fun _ => none) := by
  have hz : ∀ k, holds (List.replicate k ⟨2, cy, 0, false, 1⟩) = 0 := fun k => holds_zero _ fun j m hm => by
    have := List.mem_of_getElem? hm
    rw [List.mem_replicate] at this
    rw [this.2]; simp [hold]
  have nd : (c12 2).nd = 2 := by decide +kernel
  have hw : mld (l12 2) 1 = 0 := by kernel_rfl
  have h1 : mld (l12 2) ((c12 2).nodeAt 1 2) = 0 := by kernel_rfl
  have a1 := apart2.in_ 2 (by omega) (by omega)
  refine ⟨mput_length _ _ _, ?_, fun v v1 v2 => ?_, fun v h => absurd rfl h, fun j m hm => ?_, fun j m hm => ?_, fun v j h => by cases h⟩
  · rw [hz, mld_mput_ne _ _ _ _ (by omega), hw]
  · rw [if_pos rfl]
    have : v = 1 ∨ v = 2 := by omega
    rcases this with rfl | rfl
    · rw [mld_mput_ne _ _ _ _ (apart2.ne 2 1 (by omega) (by omega) (by omega) (by omega) (by omega)), h1]; rfl
    · rw [mld_mput_same ⟨by omega, a1.2⟩]; rfl
  · have := List.mem_of_getElem? hm
    rw [List.mem_replicate] at this
    rw [this.2, nd]; dsimp only; omega
  · have := List.mem_of_getElem? hm
    rw [List.mem_replicate] at this
    rw [this.2]
    exact ⟨rfl, by dsimp only; omega, fun h => by dsimp only at h; omega, fun h => by dsimp only at h; omega, fun h => by dsimp only at h; omega, ⟨(fun h => by cases h), (fun h => by cases h)⟩, (fun h => by cases h)⟩

/-- All machines mark the second node. -/
def All2v (ms : List Cl) : Prop := ∀ (j : Nat) m, ms[j]? = some m → m.v = 2
theorem clStep_v (c : Cfg) (l : List Int) (m : Cl) : (clStep c l m).2.v = m.v := by
  obtain ⟨v, cy, k, won, pc⟩ := m
  match pc with
  | 0 => rfl
  | 1 => rfl
  | 2 => rfl
  | 3 => rfl
  | _ + 4 => rfl
theorem all2v_set {ms : List Cl} (h : All2v ms) (c : Cfg) (l : List Int) (j : Nat) (m : Cl) (hj : ms[j]? = some m) : All2v (ms.set j (clStep c l m).2) := by
  intro i x hx
  by_cases e : j = i
  · subst e
    rw [List.getElem?_set_self (List.getElem?_eq_some_iff.1 hj).1] at hx
    cases hx
    rw [clStep_v]; exact h j m hj
  · rw [List.getElem?_set_ne e] at hx; exact h i x hx

theorem el_get {α : Type} (l : List α) (j : Nat) (h : j < l.length) : ∃ x, l[j]? = some x := ⟨l[j], by simp [h]⟩

set_option maxRecDepth 100000 in
set_option maxHeartbeats 8000000 in
theorem once_ok (o cy v : Int) (pa : Option Addr) (pcap : Nat) (pks : List Int) (w : World) (hsl : Sl w [] .u8 (.slice pa pks.length pcap) pks) (hws : ∀ x ∈ pks, 0 ≤ x ∧ x < 256) (v0 : 0 ≤ v) (v1 : v < 256) (o0 : 0 ≤ o) (o1 : o < 18446744073709551616) (cy0 : 0 ≤ cy) (cy1 : cy < 18446744073709551616) (hbig : ¬ (200 : Int) < (pks.length : Int)) :
    Calls Try.prog 4 #[.int .u64 o, .int .u64 cy, .int .u8 v, .slice pa pks.length pcap] w fun e w' => e = .returned (.bool true) ∧ Below w.heap.size w w' := by
  have HSL := Lib.hid hsl
  have HWS := Lib.hid hws
  clear hsl hws
  have n0 := Int.emod_nonneg v (by omega : (6 : Int) ≠ 0)
  have n1 := Int.emod_lt_of_pos v (by omega : (0 : Int) < 6)
  have e2 : v.tmod 6 = v % 6 := Int.tmod_eq_emod_of_nonneg v0
  go_enter Try.func4, Try.ntmps4
  go_wp2_with fail
  refine (awake12 _).mono ?_
  rintro e w0 ⟨rfl, q0⟩
  have G0 := ((Has.nil w).up q0).addSl HSL.out
  clear q0
  go_wp2_with fail
  refine (New_m G0 (c12 2) c12_ok2).mono ?_
  rintro e w1 ⟨mb, av, rv, rfl, G1⟩
  go_wp2_with fail
  refine (First_h G1 1 rfl c12_ok2).mono ?_
  rintro e w2 ⟨g, n, rfl, G2⟩
  go_wp2_with fail
  refine (New_h G2 _ (l12 2) (sl_of_ownN (G2.get 2 rfl)) (l12_len c12_ok2)).mono ?_
  rintro e w3 ⟨sb, sg, rfl, G3'⟩
  have G3 := G3'.pick [0, 1, 3] (by decide) (by simp)
  clear G0 G1 G2 G3'
  go_wp2_with fail
  refine (Mark_q (G3.mAt 1 rfl c12_ok2) 2).mono ?_
  rintro e w4 ⟨rfl, d4, rfl⟩
  go_wp2_with fail
  refine (Put_h (G3.drewN _) 2 rfl _ o).mono ?_
  rintro e w5 ⟨rfl, G5⟩
  clear G3
  go_wp2_with fail
  obtain ⟨K, hK⟩ : ∃ K : Nat, (K : Int) = v % 6 + 1 := ⟨(v % 6 + 1).toNat, by omega⟩
  have hKb : 1 ≤ K ∧ K ≤ 6 := by omega
  rw [← hK]
  clear hK n0 n1 e2
  obtain ⟨n5, hn5⟩ : ∃ n5, n5 = wrap64 (0 + 1) := ⟨_, rfl⟩
  rw [← hn5] at G5
  clear hn5
  go_loopw [14, 15] (fun lv iv wr => ∃ (i : Nat) (bs : List Nat), i ≤ K ∧ iv = .int .i64 i ∧ Hid (bs.length = i) ∧ Has w wr (slC _ .u8 (.slice pa pks.length pcap) pks :: mapC _ mb av rv (c12 2) :: storeC _ sb sg (mput (l12 2) ((c12 2).nodeAt 2 2) o) n5 :: ptrC _ lv bs :: zw _ mb bs (List.replicate i ⟨2, cy, 0, false, 1⟩))) (fun _ iv _ => 10 - (intOf iv).toNat)
  case atStart => exact ⟨0, [], by omega, rfl, Lib.hid rfl, G5.ownNil 35 1⟩
  case round =>
  obtain ⟨i, bs, hi, rfl, HB, G⟩ := hrel
  clear G5
  by_cases hlt : i < K
  · have hlt' : (i : Int) < (K : Int) := by omega
    go_wp2_with fail
    refine (clNew_h G mb 2 cy).mono ?_
    rintro e x1 ⟨xb, rfl, G2⟩
    go_wp2_with (at_builtin; refine wpl_app G2 3 rfl (.tmp 52) (.tmp 56) rfl el_ptr rfl (by decide) (by decide) rfl rfl [.pointer (some ⟨xb, 0, none⟩)] rfl rfl (by simp [Value.oneCell']) (by rw [HB.out]; omega) ?_; intro v1 x2 G3; rw [ptr_app] at G3)
    go_roundw
    case rel =>
      refine ⟨i + 1, bs ++ [xb], by omega, by go_num, Lib.hid (by simp [HB.out]), ?_⟩
      have e := zw_app w.heap.size mb bs (List.replicate i ⟨2, cy, 0, false, 1⟩) xb ⟨2, cy, 0, false, 1⟩ (by simp [HB.out])
      rw [List.replicate_succ', ← e]
      exact G3
    case measure => simp [intOf]; omega
  have hge : ¬ (i : Int) < (K : Int) := by omega
  obtain rfl : i = K := by omega
  clear hlt hi
  obtain ⟨pa', pc', rfl⟩ := own_is (G.get 3 rfl)
  obtain ⟨pg, poff, rfl, -, -, -, -, -⟩ := own_atV (G.get 3 rfl) (by rw [HB.out]; omega)
  have HIM := Lib.hid (im2_0 cy o i)
  have HE0 : Hid (Ends i pks.length 0 (List.replicate i ⟨2, cy, 0, false, 1⟩)) := Lib.hid (fun j m hm => by
    have := List.mem_of_getElem? hm
    rw [List.mem_replicate] at this
    rw [this.2]
    refine ⟨by simp [rank], fun hP => .inr ?_⟩
    have : pks.length = 0 := by omega
    rw [this]; simp [rank])
  have HA0 : Hid (All2v (List.replicate i ⟨2, cy, 0, false, 1⟩)) := Lib.hid (fun j m hm => by
    have := List.mem_of_getElem? hm
    rw [List.mem_replicate] at this
    rw [this.2])
  have HBl : bs.length ≤ 6 := by rw [HB.out]; omega
  go_wp2_with fail
  go_loopw [16, 17] (fun tv jv wr => ∃ (t : Nat) (l : List Int) (n : Int) (ms : List Cl) (W : Int → Option Nat), t ≤ pks.length + 4 * i ∧ tv = .int .i64 t ∧ Hid (IM (c12 2) cy (old2 o) (l12 2).length l ms W) ∧ Hid (Ends i pks.length t ms) ∧ Hid (ms.length = i) ∧ Hid (All2v ms) ∧ Has w wr (slC _ .u8 (.slice pa pks.length pcap) pks :: mapC _ mb av rv (c12 2) :: storeC _ sb sg l n :: ptrC _ (.slice (some ⟨pg, poff, none⟩) bs.length pc') bs :: zw _ mb bs ms)) (fun tv _ _ => 226 - (intOf tv).toNat)
  case atStart => exact ⟨0, _, _, _, _, by omega, rfl, HIM, HE0, Lib.hid (by simp), HA0, G⟩
  case round =>
  obtain ⟨t, l, n, ms, W, ht, rfl, HI, HE, HL, HV, G⟩ := hrel
  clear HIM HE0 HA0
  by_cases hlt : t < pks.length + 4 * i
  · have hlt' : (t : Int) < (pks.length : Int) + 4 * (i : Int) := by omega
    have hi0 : ¬ (i : Int) = 0 := by omega
    have rm : (t : Int).tmod (i : Int) = ((t % i : Nat) : Int) := by rw [Int.tmod_eq_emod_of_nonneg (by omega)]; omega
    by_cases hp : t < pks.length
    · have hp' : (t : Int) < (pks.length : Int) := by omega
      obtain ⟨x, hx⟩ := el_get pks t hp
      have hxb := HWS.out x (List.mem_of_getElem? hx)
      obtain ⟨xn, rfl⟩ := Int.eq_ofNat_of_zero_le hxb.1
      have rx : (xn : Int).tmod (i : Int) = ((xn % i : Nat) : Int) := by rw [Int.tmod_eq_emod_of_nonneg (by omega)]; omega
      have hne : pks ≠ [] := by rintro rfl; simp at hp
      obtain ⟨cb, off, hab, -, -, hcell⟩ := sl_at (G.sl 0 rfl) hne
      subst hab
      have hc := hcell t _ hx
      clear hcell hne hx
      have hji : xn % i < i := Nat.mod_lt _ (by omega)
      obtain ⟨xb, hxb⟩ := el_get bs (xn % i) (by rw [HB.out]; exact hji)
      obtain ⟨m, hm⟩ := el_get ms (xn % i) (by rw [HL.out]; exact hji)
      obtain ⟨g, goff, hgg, -, -, -, hcell2, -⟩ := own_atV (G.get 3 rfl) (by rw [HB.out]; omega)
      cases hgg
      have hc2 := hcell2 (xn % i) (.pointer (some ⟨xb, 0, none⟩)) (by unfold ptrs; rw [List.getElem?_map, hxb]; rfl)
      obtain ⟨W2, I2⟩ := im_step apart2 HI.out (by rw [HL.out]; omega) (xn % i) m hm
      have HI2 := Lib.hid I2
      have HE2 := Lib.hid (ends_step (c := c12 2) l HE.out (by omega) HL.out (xn % i) m hm (pc_of HI.out _ m hm) (fun hP => by omega))
      have HV2 := Lib.hid (all2v_set HV.out (c12 2) l (xn % i) m hm)
      have HZ := Lib.hid (zw_at (n0 := w.heap.size) (mb := mb) hxb hm)
      have HXB := Lib.hid hxb
      have hlb : ((xn % i : Nat) : Int) < (bs.length : Int) := by rw [HB.out]; omega
      clear hcell2 hxb hm I2
      clear hji
      generalize xn % i = jj at rx hc2 HI2 HE2 HV2 HZ HXB hlb
      go_wp2_with fail
      refine (clStep_h G 2 (jj + 4) 1 m rfl HZ.out rfl (by omega) c12_ok2).mono ?_
      rintro e x1 ⟨rfl, G2⟩
      go_wp2_with fail
      go_roundw
      case rel =>
        refine ⟨t + 1, _, clCount m n, _, _, by omega, by go_num, HI2, HE2, Lib.hid (by rw [List.length_set]; exact HL.out), HV2, ?_⟩
        rw [← zw_set _ HXB.out]
        exact G2
      case measure => simp [intOf]; omega
    · have hp' : ¬ (t : Int) < (pks.length : Int) := by omega
      have hji : t % i < i := Nat.mod_lt _ (by omega)
      obtain ⟨xb, hxb⟩ := el_get bs (t % i) (by rw [HB.out]; exact hji)
      obtain ⟨m, hm⟩ := el_get ms (t % i) (by rw [HL.out]; exact hji)
      obtain ⟨g, goff, hgg, -, -, -, hcell2, -⟩ := own_atV (G.get 3 rfl) (by rw [HB.out]; omega)
      cases hgg
      have hc2 := hcell2 (t % i) (.pointer (some ⟨xb, 0, none⟩)) (by unfold ptrs; rw [List.getElem?_map, hxb]; rfl)
      obtain ⟨W2, I2⟩ := im_step apart2 HI.out (by rw [HL.out]; omega) (t % i) m hm
      have HI2 := Lib.hid I2
      have HE2 := Lib.hid (ends_step (c := c12 2) l HE.out (by omega) HL.out (t % i) m hm (pc_of HI.out _ m hm) (fun _ => rfl))
      have HV2 := Lib.hid (all2v_set HV.out (c12 2) l (t % i) m hm)
      have HZ := Lib.hid (zw_at (n0 := w.heap.size) (mb := mb) hxb hm)
      have HXB := Lib.hid hxb
      have hlb : ((t % i : Nat) : Int) < (bs.length : Int) := by rw [HB.out]; omega
      clear hcell2 hxb hm I2
      clear hji
      generalize t % i = jj at rm hc2 HI2 HE2 HV2 HZ HXB hlb
      go_wp2_with fail
      refine (clStep_h G 2 (jj + 4) 1 m rfl HZ.out rfl (by omega) c12_ok2).mono ?_
      rintro e x1 ⟨rfl, G2⟩
      go_wp2_with fail
      go_roundw
      case rel =>
        refine ⟨t + 1, _, clCount m n, _, _, by omega, by go_num, HI2, HE2, Lib.hid (by rw [List.length_set]; exact HL.out), HV2, ?_⟩
        rw [← zw_set _ HXB.out]
        exact G2
      case measure => simp [intOf]; omega
  · have hge2 : ¬ (t : Int) < (pks.length : Int) + 4 * (i : Int) := by omega
    obtain rfl : t = pks.length + 4 * i := by omega
    have PC : Hid (∀ (j : Nat) m, ms[j]? = some m → m.pc = 0) := Lib.hid (fun j m hm => ends_all HE.out (by omega) HL.out j m hm (pc_of HI.out j m hm))
    clear hlt ht
    go_wp2_with fail
    go_loopw [18, 19] (fun wv tv wr => ∃ t : Nat, t ≤ i ∧ tv = .int .i64 t ∧ wv = .int .i64 (lsum ((ms.take t).map hold)) ∧ Has w wr (slC _ .u8 (.slice pa pks.length pcap) pks :: mapC _ mb av rv (c12 2) :: storeC _ sb sg l n :: ptrC _ (.slice (some ⟨pg, poff, none⟩) bs.length pc') bs :: zw _ mb bs ms)) (fun _ tv _ => 10 - (intOf tv).toNat)
    case atStart => exact ⟨0, by omega, rfl, by simp [lsum], G⟩
    case round =>
    obtain ⟨t, ht, rfl, rfl, G2⟩ := hrel
    clear G
    by_cases hlt : t < i
    · have hlt' : (t : Int) < (i : Int) := by omega
      obtain ⟨xb, hxb⟩ := el_get bs t (by rw [HB.out]; omega)
      obtain ⟨m, hm⟩ := el_get ms t (by rw [HL.out]; omega)
      have hpc := PC.out t m hm
      obtain ⟨g, off, hgg, -, -, -, hcell, -⟩ := own_atV (G2.get 3 rfl) (by rw [HB.out]; omega)
      cases hgg
      have hc := hcell t (.pointer (some ⟨xb, 0, none⟩)) (by unfold ptrs; rw [List.getElem?_map, hxb]; rfl)
      have HT := Lib.hid (show lsum ((ms.take (t + 1)).map hold) = lsum ((ms.take t).map hold) + hold m by rw [take_snoc1 _ _ _ hm, List.map_append, lsum_app]; simp [lsum])
      have HTb : Hid (0 ≤ lsum ((ms.take t).map hold) ∧ lsum ((ms.take t).map hold) ≤ 6) := Lib.hid (by
        have := holds_bd (ms.take t)
        rw [List.length_take] at this
        unfold holds at this
        omega)
      obtain ⟨S, hS⟩ : ∃ S, S = lsum ((ms.take t).map hold) := ⟨_, rfl⟩
      rw [← hS] at HT HTb ⊢
      have HS := Lib.hid hS
      clear hS
      have hSb := HTb.out
      have KE := Lib.hid (clStep_end (c12 2) l m hpc)
      have KC : Hid (clCount m n = n) := Lib.hid (by unfold clCount; rw [hpc]; rfl)
      have HZ : Hid ((zw w.heap.size mb bs ms)[t]? = some (clC w.heap.size xb mb m)) := Lib.hid (zw_at hxb hm)
      have HH := Lib.hid (hold_end hpc)
      have HP := Lib.hid hpc
      have hlb : (t : Int) < (bs.length : Int) := by rw [HB.out]; omega
      have HXB := Lib.hid hxb
      clear hcell hm hpc hxb
      go_wp2_with fail
      refine (clStep_h G2 2 (t + 4) 1 m rfl HZ.out rfl (by omega) c12_ok2).mono ?_
      rw [KE.out, KC.out]
      dsimp only
      rw [HP.out]
      rintro e x1 ⟨rfl, G3'⟩
      have G3 : Has w x1 (slC _ .u8 (.slice pa pks.length pcap) pks :: mapC _ mb av rv (c12 2) :: storeC _ sb sg l n :: ptrC _ (.slice (some ⟨pg, poff, none⟩) bs.length pc') bs :: zw _ mb bs ms) := by
        have e : (zw w.heap.size mb bs ms).set t (clC w.heap.size xb mb m) = zw w.heap.size mb bs ms := lset_is HZ.out
        have G4 : Has w x1 (slC _ .u8 (.slice pa pks.length pcap) pks :: mapC _ mb av rv (c12 2) :: storeC _ sb sg l n :: ptrC _ (.slice (some ⟨pg, poff, none⟩) bs.length pc') bs :: (zw w.heap.size mb bs ms).set t (clC w.heap.size xb mb m)) := G3'
        rw [e] at G4
        exact G4
      clear G3' hc
      obtain ⟨g', off', hgg, -, -, -, hcell, -⟩ := own_atV (G3.get 3 rfl) (by rw [HB.out]; omega)
      have hc2 := hcell t (.pointer (some ⟨xb, 0, none⟩)) (by unfold ptrs; rw [List.getElem?_map, HXB.out]; rfl)
      cases hgg
      clear hcell
      go_wp2_with fail
      refine (clWon_h G3 (t + 4) m HZ.out).mono ?_
      generalize hW : m.won = won at HH ⊢
      rintro e x2 ⟨rfl, d2, rfl⟩
      cases won with
      | true =>
        go_wp2_with fail
        go_roundw
        case rel => exact ⟨t + 1, by omega, by go_num, by rw [HT.out, HH.out]; simp, G3.drewN _⟩
        case measure => simp [intOf]; omega
      | false =>
        go_wp2_with fail
        go_roundw
        case rel => exact ⟨t + 1, by omega, by go_num, by rw [HT.out, HH.out]; simp, G3.drewN _⟩
        case measure => simp [intOf]; omega
    · have hge3 : ¬ (t : Int) < (i : Int) := by omega
      have HSU : Hid (lsum ((ms.take t).map hold) = holds ms) := Lib.hid (by rw [List.take_of_length_le (by rw [HL.out]; omega)]; rfl)
      rw [HSU.out]
      have W1 : W 1 = none := by
        by_cases r : W 1 = none
        · exact r
        · obtain ⟨j0, hj0⟩ := Option.ne_none_iff_exists'.1 r
          obtain ⟨m, hm, hmv⟩ := HI.out.rng 1 j0 hj0
          have := HV.out j0 m hm
          omega
      have nd : (c12 2).nd = 2 := by decide +kernel
      have K1 := Lib.hid (show mld l ((c12 2).nodeAt 1 2) = 0 by rw [HI.out.mark 1 (by omega) (by omega), if_pos W1]; rfl)
      have KW := Lib.hid HI.out.wk
      have KM := HI.out.mark 2 (by omega) (by omega)
      clear W1
      rcases once_end HI.out PC.out 2 HV.out (by rw [HL.out]; omega) with ⟨z1, z2, z3⟩ | ⟨z1, z2, z3⟩
      · rw [if_pos z3] at KM
        have z1' : cy ≤ o := z1
        have KM2 := Lib.hid (show mld l ((c12 2).nodeAt 2 2) = o from KM)
        rw [z2]
        have KW2 := Lib.hid (KW.out.trans z2)
        clear KM z1 z2 z3 nd
        go_wp2_with fail
        refine (Work_q (G2.mAt 1 rfl c12_ok2)).mono ?_
        rintro e y1 ⟨rfl, e1, rfl⟩
        go_wp2_with fail
        refine (Load_h (G2.drewN _) 2 rfl 1).mono ?_
        rw [KW2.out]
        rintro e y2 ⟨rfl, Y2⟩
        go_wp2_with fail
        refine (Mark_q (Y2.mAt 1 rfl c12_ok2) 2).mono ?_
        rintro e y3 ⟨rfl, e3, rfl⟩
        go_wp2_with fail
        refine (Load_h (Y2.drewN _) 2 rfl _).mono ?_
        rw [KM2.out]
        rintro e y4 ⟨rfl, Y4⟩
        go_wp2_with fail
        refine (Mark_q (Y4.mAt 1 rfl c12_ok2) 1).mono ?_
        rintro e y5 ⟨rfl, e5, rfl⟩
        go_wp2_with fail
        refine (Load_h (Y4.drewN _) 2 rfl _).mono ?_
        rw [K1.out]
        rintro e y6 ⟨rfl, Y6⟩
        go_wp2_with fail
        go_ret
        exact ⟨by first | rfl | simp, Y6.below⟩
      · rw [if_neg z3] at KM
        have z1' : ¬ cy ≤ o := by have : o < cy := z1; omega
        have KM2 := Lib.hid (show mld l ((c12 2).nodeAt 2 2) = cy from KM)
        rw [z2]
        have KW2 := Lib.hid (KW.out.trans z2)
        clear KM z1 z2 z3 nd
        go_wp2_with fail
        refine (Work_q (G2.mAt 1 rfl c12_ok2)).mono ?_
        rintro e y1 ⟨rfl, e1, rfl⟩
        go_wp2_with fail
        refine (Load_h (G2.drewN _) 2 rfl 1).mono ?_
        rw [KW2.out]
        rintro e y2 ⟨rfl, Y2⟩
        go_wp2_with fail
        refine (Mark_q (Y2.mAt 1 rfl c12_ok2) 2).mono ?_
        rintro e y3 ⟨rfl, e3, rfl⟩
        go_wp2_with fail
        refine (Load_h (Y2.drewN _) 2 rfl _).mono ?_
        rw [KM2.out]
        rintro e y4 ⟨rfl, Y4⟩
        go_wp2_with fail
        refine (Mark_q (Y4.mAt 1 rfl c12_ok2) 1).mono ?_
        rintro e y5 ⟨rfl, e5, rfl⟩
        go_wp2_with fail
        refine (Load_h (Y4.drewN _) 2 rfl _).mono ?_
        rw [K1.out]
        rintro e y6 ⟨rfl, Y6⟩
        go_wp2_with fail
        go_ret
        exact ⟨by first | rfl | simp, Y6.below⟩

theorem walk_ClaimOnce (o cy v : Int) (a : Option Addr) (len cap : Nat) (zs : List Int) (w : World) (hr : IsRow .u8 w a len cap zs) (o0 : 0 ≤ o) (o1 : o < 18446744073709551616) (cy0 : 0 ≤ cy) (cy1 : cy < 18446744073709551616) (v0 : 0 ≤ v) (v1 : v < 256) :
    Calls Try.prog 4 #[.int .u64 o, .int .u64 cy, .int .u8 v, .slice a len cap] w fun e w' => e = .returned (.bool true) ∧ Below w.heap.size w w' := by
  have hsl := sl_of_row hr
  have hws : ∀ x ∈ zs.take len, 0 ≤ x ∧ x < 256 := by
    intro x hx
    have hm := List.mem_of_mem_take hx
    rcases hr with ⟨_, _, _, rfl⟩ | ⟨y, _, _, _, _, _, hwf⟩
    · simp at hm
    · have := Go.bounds_u8 (hwf x hm); omega
  have hlen : (zs.take len).length = len := by
    rcases hr with ⟨_, rfl, _, rfl⟩ | ⟨x, _, hl, _, hz, _⟩
    · rfl
    · rw [List.length_take]; omega
  generalize zs.take len = l at hsl hlen hws
  subst hlen
  by_cases hbig : (200 : Int) < (l.length : Int)
  · go_enter Try.func4, Try.ntmps4
    go_wp2_with fail
    refine (awake12 _).mono ?_
    rintro e w0 ⟨rfl, q0⟩
    go_wp2_with fail
    go_ret
    exact ⟨rfl, q0⟩
  · exact once_ok o cy v a cap l w hsl hws v0 v1 o0 o1 cy0 cy1 hbig

end Go.Proofs.Ytfcookfocihjlaa

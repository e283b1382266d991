/- The reference's Walk. Conditions: the words, the links can be read; no more than 10^12 are asked for. -/
import Derived.Test.YtaciapjohakpgaaWalk9b
import Derived.Deep.RegionHeld3
set_option linter.unusedVariables false
namespace Go.Proofs.Ytaciapjohakpgaa
open Go.ChangeShapes Go.WideShapes Go.ChangeAt Go.RowKit

set_option maxRecDepth 100000 in
set_option maxHeartbeats 2000000 in
theorem RWalk_c {A A' : List Nat} (a : Option Addr) (cap : Nat) (v : Value) (l ls : List Int) (head most : Int) (w : World) (hsl : Sl w A .u64 (.slice a l.length cap) l) (hL : Sl w A' .i64 v ls) (hl : ls.length < 1000000000000) (hm : most < 1000000000000) (hw : Ws l) :
    Calls Try.prog 12 #[.slice a l.length cap, .agg #[.int .i64 head, v], .int .i64 most] w fun e w' => ∃ v, e = .returned v ∧ OwnI w' w.heap.size 3 .i64 v (walkF ls l most.toNat head) ∧ Below w.heap.size w w' := by
  have SL := Lib.hid hsl
  have LK := Lib.hid hL
  obtain ⟨la, lc, rfl, _, _⟩ := hL
  clear hsl
  obtain ⟨w0, hw0⟩ : ∃ w0, w0 = w.alloc (.cells #[.int .i64 head, .slice la ls.length lc] 25) := ⟨_, rfl⟩
  have b0 : Below w.heap.size w w0 := by rw [hw0]; exact below_box w _ 0
  have K0 : w0.heap[w.heap.size]? = some (.cells #[.int .i64 head, .slice la ls.length lc] 25 (0, 0)) := by rw [hw0]; exact blk_new w _ 0
  have H0 := Lib.hid hw0
  have z0 : w.heap.size < w0.heap.size := blk_lt K0
  clear hw0
  go_enter Try.func12, Try.ntmps12
  obtain ⟨c0, c1, fz⟩ := row2 (w := w.alloc (.cells #[.int .i64 head, .slice la ls.length lc] 25)) (blk_new w (.cells #[.int .i64 head, .slice la ls.length lc] 25) 0)
  go_wp2_with fail
  clear c0 c1 fz
  rw [← H0.out]
  go_loopw [7, 8] (fun ov pv wr => ∃ (p : Int) (xs : List Int) (rem : Nat), pv = .int .i64 p ∧ xs.length + rem = most.toNat ∧ walkF ls l most.toNat head = xs ++ walkF ls l rem p ∧ OwnI wr w0.heap.size 3 .i64 ov xs ∧ Below w0.heap.size w0 wr) (fun ov _ _ => most.toNat - lenOf ov)
  case atStart => exact ⟨head, [], most.toNat, rfl, by simp, by simp, ownI_nil _ _ _ _, Below.refl _ _⟩
  case round =>
    obtain ⟨p, xs, rem, rfl, hn, hF, hown, hb⟩ := hrel
    have stop : ¬ (0 ≤ p ∧ p < l.length ∧ 0 < rem ∧ ¬ mld l p % 4294967296 = 0) → walkF ls l most.toNat head = xs := by
      intro hno
      rw [hF, walkF_stop _ _ _ _ hno, List.append_nil]
    have ST := Lib.hid stop
    have HF := Lib.hid hF
    clear stop hF
    have hfin : ∀ v, OwnI wr w0.heap.size 3 .i64 v xs → OwnI wr w.heap.size 3 .i64 v xs := fun v h => ownI_mono h (by omega)
    obtain ⟨oa, oc, rfl⟩ := own_slice hown
    have bw : Below w.heap.size w wr := b0.trans (hb.mono (by omega))
    by_cases h3 : 0 < rem
    · have h3' : (xs.length : Int) < most := by omega
      by_cases h1 : 0 ≤ p
      · by_cases h2 : p < (l.length : Int)
        · obtain ⟨b, off, rfl, hbb, hbn, hcell⟩ := sl_at SL.out (by rintro rfl; simp at h2; omega)
          have hcw := hcell p.toNat (mld l p) (by rw [mld_in ⟨h1, h2⟩]; simp only [List.getD]; rw [List.getElem?_eq_getElem (by omega)]; rfl)
          clear hcell
          have hc := (bw.cell (p := ⟨b, off + p.toNat, none⟩) hbb).trans hcw
          obtain ⟨x0, x1⟩ := ws_mld hw p
          have e2 : IntKind.i64.wrap (mld l p % 4294967296) = mld l p % 4294967296 := wrapi64_id _ (by omega) (by omega)
          by_cases h4 : mld l p % 4294967296 = 0
          · have h4' : decide (0 < mld l p % 4294967296) = false := by simp; omega
            have E := Lib.hid (ST.out (by rintro ⟨_, _, _, q⟩; exact q h4))
            clear h4
            go_wp2_with (go_at_call 32; refine (RLow_c _ x0 x1 _).mono ?_; rintro e w1 ⟨rfl, dn, rfl⟩)
            go_ret
            exact ⟨_, rfl, by rw [E.out]; exact hfin _ hown, below_drewN bw _⟩
          · have h4' : 0 < mld l p % 4294967296 := by omega
            obtain ⟨r, rfl⟩ : ∃ r, rem = r + 1 := ⟨rem - 1, by omega⟩
            have hF' : walkF ls l most.toNat head = (xs ++ [mld l p % 4294967296]) ++ walkF ls l r (lkAt ls (mld l p % 4294967296)) := by rw [HF.out, walkF_go _ _ _ _ ⟨h1, h2, h4⟩]; simp
            have FF := Lib.hid hF'
            have q0 := (mod32 (mld l p)).1
            have q1 := (mod32 (mld l p)).2
            have ON := Lib.hid hown
            have HB := Lib.hid hb
            have c1 : ∀ n, (wr.drewN n).cell? ⟨b, off + p.toNat, none⟩ = some (.int .u64 (mld l p)) := fun n => hc
            clear h4 hF' ST HF
            have HFIN := Lib.hid hfin
            clear hfin hown
            go_wp2_with (first | (go_at_call 32; refine (RLow_c _ x0 x1 _).mono ?_; rintro e w1 ⟨rfl, dn, rfl⟩; have c2 : (wr.drewN dn).cell? ⟨b, off + p.toNat, none⟩ = some (.int .u64 (mld l p)) := hc) | (at_builtin; refine wpl_append_int rfl (.tmp 33) (.tmp 40) rfl el_int (by decide) w0.heap.size (.slice oa xs.length oc) xs rfl (ownI_drewN ON.out _) _ rfl (by omega) HB.out.size ?_; intro v1 w1 hown1 hgrow))
            have hb1 := below_grown_own (below_drewN HB.out _) (ownI_drewN ON.out _) hgrow HB.out.size
            have bw1 : Below w.heap.size w w1 := b0.trans (hb1.mono (by omega))
            have HG := Lib.hid hown1
            clear hgrow hc c1 c2 hown1
            obtain ⟨d0, d1, fz⟩ := row2 (w := w1.drew) ((hb1.block _ z0).trans K0)
            have d2 : w1.drew.cell? ⟨b, off + p.toNat, none⟩ = some (.int .u64 (mld l p)) := (bw1.cell (p := ⟨b, off + p.toNat, none⟩) hbb).trans hcw
            have lt1 : w.heap.size < w1.heap.size := by have := hb1.size; omega
            have hL1 : Sl w1 A' .i64 (.slice la ls.length lc) ls := sl_below LK.out bw1
            have gi1 : 0 ≤ p := h1
            go_region_held3 (fun w' => w'.cell? ⟨w.heap.size, 0, none⟩ = some (.int .i64 head) ∧ w'.cell? ⟨w.heap.size, 1, none⟩ = some (.slice la ls.length lc) ∧ w'.cell? ⟨b, off + p.toNat, none⟩ = some (.int .u64 (mld l p))) (first | (refine ⟨?_, ?_, ?_⟩ <;> assumption)) (first | (go_at_call 32; refine (RLow_c _ x0 x1 _).mono ?_; rintro e w3 ⟨rfl, dn, rfl⟩; have d0' : (w1.drewN (1 + dn)).cell? ⟨w.heap.size, 0, none⟩ = some (.int .i64 head) := d0; have d1' : (w1.drewN (1 + dn)).cell? ⟨w.heap.size, 1, none⟩ = some (.slice la ls.length lc) := d1; have d2' : (w1.drewN (1 + dn)).cell? ⟨b, off + p.toNat, none⟩ = some (.int .u64 (mld l p)) := d2) | (go_at_call 33; refine (RAt_c (A := A') _ _ ls _ (w1.drewN (1 + dn)) hL1 hl q0 q1).mono ?_; rintro e w3 ⟨rfl, b3⟩; have e0 := (b3.cell (p := ⟨w.heap.size, 0, none⟩) lt1).trans d0; have e1 := (b3.cell (p := ⟨w.heap.size, 1, none⟩) lt1).trans d1; have e2' := (b3.cell (p := ⟨b, off + p.toNat, none⟩) (Nat.lt_of_lt_of_le hbb bw1.size)).trans d2))
            have b3' : Below w1.heap.size w1 w3 := (below_drewN (Below.refl _ _) _).trans b3
            have hown3 := ownI_kept HG.out b3'
            have hb3 := hb1.trans (b3'.mono hb1.size)
            clear d0 d1 d2 fz
            go_wp2_with fail
            go_roundw
            case rel => exact ⟨_, _, r, rfl, by rw [List.length_append]; simp; omega, FF.out, hown3, hb3⟩
            case measure => obtain ⟨oa1, oc1, rfl⟩ := own_slice HG.out; simp [lenOf]; omega
        · have h2' : decide (p < (l.length : Int)) = false := by simp; omega
          have E := Lib.hid (ST.out (by rintro ⟨_, q, _⟩; exact h2 q))
          go_wp2_with fail
          go_ret
          exact ⟨_, rfl, by rw [E.out]; exact hfin _ hown, bw⟩
      · have h1' : decide (0 ≤ p) = false := by simp; omega
        have E := Lib.hid (ST.out (by rintro ⟨q, _⟩; exact h1 q))
        go_wp2_with fail
        go_ret
        exact ⟨_, rfl, by rw [E.out]; exact hfin _ hown, bw⟩
    · have h3' : decide ((xs.length : Int) < most) = false := by simp; omega
      have E := Lib.hid (ST.out (by rintro ⟨_, _, q, _⟩; exact h3 q))
      go_wp2_with fail
      go_ret
      exact ⟨_, rfl, by rw [E.out]; exact hfin _ hown, bw⟩

end Go.Proofs.Ytaciapjohakpgaa

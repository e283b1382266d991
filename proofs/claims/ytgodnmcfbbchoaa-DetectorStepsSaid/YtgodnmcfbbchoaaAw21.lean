/- awake of layer 21, and what a detector tells. -/
import Derived.Test.YtgodnmcfbbchoaaDt21s
import Derived.LoopN
set_option linter.unusedVariables false
set_option linter.unusedSimpArgs false
namespace Go.Proofs.Ytgodnmcfbbchoaa
open Go.ChangeShapes Go.WideShapes Go.ChangeAt Go.RowKit

theorem sl_of_ownN {w : World} {e : TypeId} {k : IntKind} {v : Value} {xs : List Int} (h : Own w e 1 v xs.length (xs.map (Value.int k))) : Sl w [] k v xs := by
  obtain ⟨a, c, rfl⟩ := own_is h
  by_cases hx : xs = []
  · subst hx
    exact ⟨a, c, rfl, by simp, .inl rfl⟩
  · have hl : 0 < xs.length := List.length_pos_iff.2 hx
    obtain ⟨g, off, rfl, hc, -, hg, hcell, -⟩ := own_atV h hl
    refine ⟨_, c, rfl, hc, .inr ⟨g, off, rfl, hg, by simp, fun j hj => hcell j _ ?_⟩⟩
    rw [List.getElem?_map, List.getElem?_eq_getElem hj]
    rfl

def c12 (k : Int) : Cfg := ⟨k, 0, 0, 0, 0, 1, 1, 2, 1, 1, 1, 1⟩
theorem c12_ok2 : CfgOk (c12 2) := (cfgOk_iff _).1 (by rfl)
def l12 (k : Int) : List Int := (c12 k).first
theorem l12_len {k : Int} (h : CfgOk (c12 k)) : (l12 k).length < 1000000000000 := by
  unfold l12; rw [first_len]; have := (cfg_bd h).al; have := (cfg_bd h).n0; omega

section
variable {w0 w : World} {cs : List (Chunk w0.heap.size)} (H : Has w0 w cs) (j : Nat) {xb mb : Nat} {x : Dt} (hj : cs[j]? = some (dtC _ xb mb x))
include H hj
theorem Doing_q : Calls Try.prog 17 #[.pointer (some ⟨xb, 0, none⟩)] w fun e w' => e = .returned (.int .i64 x.doing) ∧ ∃ n, w' = w.drewN n := by
  obtain ⟨x0, x1, x2, x3, x4, x5, x6, x7, x8, fx⟩ := row9 (H.get j hj)
  go_enter Try.func17, Try.ntmps17
  go_wp2_with fail
  go_ret
  exact ⟨rfl, 0, rfl⟩
theorem Cycle_q : Calls Try.prog 21 #[.pointer (some ⟨xb, 0, none⟩)] w fun e w' => e = .returned (.int .u64 x.cy) ∧ ∃ n, w' = w.drewN n := by
  obtain ⟨x0, x1, x2, x3, x4, x5, x6, x7, x8, fx⟩ := row9 (H.get j hj)
  go_enter Try.func21, Try.ntmps21
  go_wp2_with fail
  go_ret
  exact ⟨rfl, 0, rfl⟩
theorem Event_c : Calls Try.prog 25 #[.pointer (some ⟨xb, 0, none⟩)] w fun e w' => e = .returned (.agg #[.int .i64 x.ek, .int .i64 0, .int .i64 x.ea, .int .i64 x.eb, .int .i64 0]) ∧ Below w.heap.size w w' := by
  have hl : xb < w.heap.size := (H.lt j _ hj xb (by simp [dtC, blkC])).1
  obtain ⟨x0, x1, x2, x3, x4, x5, x6, x7, x8, fx⟩ := row9 (H.get j hj)
  have fq := fx 0
  go_enter Try.func25, Try.ntmps25
  go_wp2_with fail
  refine bodyPost_ret (v := .agg #[.int .i64 x.ek, .int .i64 0, .int .i64 x.ea, .int .i64 x.eb, .int .i64 0]) (by simp [results, Try.results25, go_sem]) rfl ⟨rfl, ?_⟩
  repeat (first | with_reducible exact Below.refl _ _ | (with_reducible refine Below.setCell (B := w.heap.size) ?_ (by simp) _) | (with_reducible refine Below.alloc (B := w.heap.size) ?_ (by simp) _) | with_reducible refine below_drew5 ?_)
theorem DoingD_q (d : Int) (hd : (x.doing : Int) = d) : Calls Try.prog 17 #[.pointer (some ⟨xb, 0, none⟩)] w fun e w' => e = .returned (.int .i64 d) ∧ ∃ n, w' = w.drewN n := by
  subst hd; exact Doing_q H j hj
end

def d0 : Dt := ⟨0, 0, 0, 0, 0, 0⟩
theorem dtOk0 {c : Cfg} (h : CfgOk c) : DtOk c d0 := ⟨by decide, by decide, fun q => absurd rfl q, by decide, by have := h.mu; show (0 : Int) ≤ c.mu; omega, fun q => by have q' : (0 : Nat) = 1 ∨ (0 : Nat) = 3 ∨ (0 : Nat) = 5 := q; omega⟩

theorem aw1 : dtStep (c12 2) (l12 2) d0 0 = (l12 2, d0) := by kernel_rfl
theorem aw2 : dtStep (c12 2) (l12 2) d0 1 = (mput (l12 2) 0 (wPhase 1 1), ⟨1, 1, 0, 7, 1, 1⟩) := by kernel_rfl
theorem aw3 : dtStep (c12 2) (mput (l12 2) 0 (wPhase 1 1)) ⟨1, 1, 0, 7, 1, 1⟩ 0 = (mput (l12 2) 0 (wPhase 1 1), ⟨1, 1, 0, 0, 0, 0⟩) := by kernel_rfl
theorem aw4 : dtStep (c12 2) (mput (mput (l12 2) 0 (wPhase 1 1)) ((c12 2).ackAt 0) 1) ⟨1, 1, 0, 0, 0, 0⟩ 0 = (mput (mput (l12 2) 0 (wPhase 1 1)) ((c12 2).ackAt 0) 1, ⟨2, 1, 1, 0, 0, 0⟩) := by kernel_rfl
theorem aw5 : mld (mput (l12 2) 0 (wPhase 1 1)) 0 = wPhase 1 1 := by kernel_rfl
theorem ok1 : DtOk (c12 2) ⟨1, 1, 0, 7, 1, 1⟩ := ⟨by decide, by decide, fun _ => by decide, by decide, by decide, fun _ => by decide⟩
theorem ok2 : DtOk (c12 2) ⟨1, 1, 0, 0, 0, 0⟩ := ⟨by decide, by decide, fun _ => by decide, by decide, by decide, fun _ => by decide⟩

set_option maxRecDepth 100000 in
set_option maxHeartbeats 2000000 in
theorem awake21 (w : World) : Calls Try.prog 8 #[] w fun e w' => e = .returned (.bool true) ∧ Below w.heap.size w w' := by
  go_enter Try.func8, Try.ntmps8
  go_wp2_with fail
  refine (New_m (Has.nil w) (c12 2) c12_ok2).mono ?_
  rintro e w1 ⟨mb, av, rv, rfl, G1⟩
  go_wp2_with fail
  refine (First_h G1 0 rfl c12_ok2).mono ?_
  rintro e w2 ⟨g, n, rfl, G2⟩
  go_wp2_with fail
  refine (New_h G2 _ (l12 2) (sl_of_ownN (G2.get 1 rfl)) (l12_len c12_ok2)).mono ?_
  rintro e w3 ⟨sb, sg, rfl, G3⟩
  go_wp2_with fail
  refine (dtNew_h G3 mb).mono ?_
  rintro e w4 ⟨xb, rfl, G4⟩
  go_wp2_with fail
  refine (dtStep_h G4 2 3 0 rfl rfl (by decide) c12_ok2 d0 0 rfl (dtOk0 c12_ok2) (by decide) (by decide)).mono ?_
  rw [aw1]
  rintro e w5 ⟨rfl, G5⟩
  go_wp2_with fail
  refine (DoingD_q G5 3 rfl 0 rfl).mono ?_
  rintro e w6 ⟨rfl, d6, rfl⟩
  go_wp2_with fail
  refine (dtStep_h (G5.drewN _) 2 3 0 rfl rfl (by decide) c12_ok2 d0 1 rfl (dtOk0 c12_ok2) (by decide) (by decide)).mono ?_
  rw [aw2]
  rintro e w7 ⟨rfl, G7⟩
  go_wp2_with fail
  refine (Phase_q (G7.mAt 0 rfl c12_ok2)).mono ?_
  rintro e w8 ⟨rfl, d8, rfl⟩
  go_wp2_with fail
  refine (Load_h (G7.drewN _) 2 rfl 0).mono ?_
  rw [aw5]
  rintro e w9 ⟨rfl, G9⟩
  go_wp2_with fail
  refine (dtStep_h G9 2 3 0 rfl rfl (by decide) c12_ok2 _ 0 rfl ok1 (by decide) (by decide)).mono ?_
  rw [aw3]
  rintro e w10 ⟨rfl, G10⟩
  go_wp2_with fail
  refine (DoingD_q G10 3 rfl 1 rfl).mono ?_
  rintro e w11 ⟨rfl, d11, rfl⟩
  go_wp2_with fail
  refine (Ack_q ((G10.drewN _).mAt 0 rfl c12_ok2) 0).mono ?_
  rintro e w12 ⟨rfl, d12, rfl⟩
  go_wp2_with fail
  refine (Put_h (G10.drewN _) 2 rfl _ 1).mono ?_
  rintro e w13 ⟨rfl, G13⟩
  go_wp2_with fail
  refine (dtStep_h G13 2 3 0 rfl rfl (by decide) c12_ok2 _ 0 rfl ok2 (by decide) (by decide)).mono ?_
  rw [aw4]
  rintro e w14 ⟨rfl, G14⟩
  go_wp2_with fail
  refine (Phase_c 1 1 (by decide) (by decide) _).mono ?_
  rintro e w15 ⟨rfl, d15, rfl⟩
  go_wp2_with fail
  refine (DoingD_q (G14.drewN _) 3 rfl 2 rfl).mono ?_
  rintro e w16 ⟨rfl, d16, rfl⟩
  go_wp2_with fail
  refine (Cycle_q (G14.drewN _) 3 rfl).mono ?_
  rintro e w17 ⟨rfl, d17, rfl⟩
  go_wp2_with fail
  go_ret
  exact ⟨rfl, (G14.drewN _).below⟩

end Go.Proofs.Ytgodnmcfbbchoaa

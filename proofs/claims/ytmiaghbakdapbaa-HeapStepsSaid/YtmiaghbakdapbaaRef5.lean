/- dustmanref05.Rooms and Packets: the rooms of all nodes, and how many packets there are. Condition: the configuration may be. -/
import Derived.Test.YtmiaghbakdapbaaMeth5
import Derived.Test.YtmiaghbakdapbaaRef2
set_option linter.unusedVariables false
namespace Go.Proofs.Ytmiaghbakdapbaa
open Go.ChangeShapes Go.WideShapes Go.ChangeAt Go.RowKit

theorem cls_len {c : Cfg} : (c.cls.length : Int) = c.nd := by unfold Cfg.cls Cfg.nd; rw [cells_len]
theorem cls_le (c : Cfg) : c.cls.length ≤ 60 := cPre_len _ 5

set_option maxRecDepth 100000 in
set_option maxHeartbeats 1000000 in
theorem RRooms_h {w0 w : World} {cs : List (Chunk w0.heap.size)} (H : Has w0 w cs) (c : Cfg) :
    Calls Try.prog 78 #[cfgV c] w fun e w' => ∃ v, e = .returned v ∧ Has w0 w' (cs ++ [ownN _ 3 .i64 v c.rooms]) := by
  unfold cfgV cfgCells
  go_enter Try.func78, Try.ntmps78
  have G0 := ((Has.nil w).blkNew (cfgCells c) 52).ownNil 3 1
  go_wp2_with fail
  refine (RAll_h G0 c.c0 c.c1 c.c2 c.c3 c.c4).mono ?_
  rintro e w1 ⟨kv, rfl, G1⟩
  have hle := cls_le c
  have hcl : cPre [c.c0, c.c1, c.c2, c.c3, c.c4] 5 = c.cls := rfl
  rw [hcl] at G1
  clear hcl G0
  obtain ⟨ka, kc, rfl⟩ := own_is (G1.get 2 rfl)
  go_wp2_with fail
  go_loopw [3, 5] (fun ov iv wr => ∃ (i : Nat) (ys : List Int), i ≤ c.cls.length ∧ iv = .int .i64 i ∧ ys = c.rooms.take i ∧ Has w wr [blkC _ w.heap.size (cfgCells c) 52, ownN _ 3 .i64 ov ys, ownN _ 3 .i64 (.slice ka c.cls.length kc) c.cls]) (fun _ iv _ => 60 - (intOf iv).toNat)
  case atStart => exact ⟨0, [], by omega, rfl, rfl, G1⟩
  case round =>
    obtain ⟨i, ys, hi, rfl, hys, G⟩ := hrel
    have hyl : ys.length ≤ 60 := by rw [hys, List.length_take]; omega
    have YS := Lib.hid hys
    clear hys G1
    obtain ⟨oa, oc, rfl⟩ := own_is (G.get 1 rfl)
    by_cases hlt : i < c.cls.length
    · have hlt' : (i : Int) < (c.cls.length : Int) := by omega
      obtain ⟨x, hx⟩ : ∃ x, c.cls[i]? = some x := ⟨c.cls[i], by simp [hlt]⟩
      have hr : c.rooms[i]? = some (sSlots x) := by unfold Cfg.rooms; rw [List.getElem?_map, hx]; rfl
      obtain ⟨g, off, hgg, -, -, -, hcell, -⟩ := own_atV (G.get 2 rfl) (by omega)
      subst hgg
      have hc := hcell i (.int .i64 x) (by rw [List.getElem?_map, hx]; rfl)
      have HR := Lib.hid hr
      clear hcell hx hr
      go_wp2_with fail
      refine (RSlots_c x _).mono ?_
      rintro e w2 ⟨rfl, dn, rfl⟩
      have G2 := G.drewN dn
      go_wp2_with (at_builtin; refine wpl_app G2 1 rfl (.tmp 15) (.tmp 21) rfl el_int rfl (by decide) (by decide) rfl rfl [.int .i64 (sSlots x)] rfl rfl (by simp [Value.oneCell']) (by omega) ?_; intro v1 w3 G3)
      rw [ownN_app] at G3
      go_roundw
      case rel => exact ⟨i + 1, _, by omega, by go_num, by rw [YS.out, take_snoc1 _ _ _ HR.out], G3⟩
      case measure => simp [intOf]; omega
    · have hge : ¬ (i : Int) < (c.cls.length : Int) := by omega
      have hfull : ys = c.rooms := by rw [YS.out]; exact List.take_of_length_le (by unfold Cfg.rooms; rw [List.length_map]; omega)
      have FF := Lib.hid hfull
      clear hfull
      go_wp2_with fail
      go_ret
      exact ⟨_, rfl, by rw [← FF.out]; exact H.joinOwn G 1 rfl⟩

set_option maxRecDepth 100000 in
set_option maxHeartbeats 1000000 in
theorem RPackets_h {w0 w : World} {cs : List (Chunk w0.heap.size)} (H : Has w0 w cs) (c : Cfg) (h : CfgOk c) :
    Calls Try.prog 62 #[cfgV c] w fun e w' => e = .returned (.int .i64 c.mn) ∧ Has w0 w' cs := by
  have hbd := cfg_bd h
  have hnd := hbd.nd
  have hch := h.ch
  have hmr := h.mr
  have hmu := h.mu
  have hrl := rooms_len (c := c)
  unfold cfgV cfgCells
  go_enter Try.func62, Try.ntmps62
  have G0 := (Has.nil w).blkNew (cfgCells c) 52
  go_wp2_with fail
  refine (RRooms_h G0 c).mono ?_
  rintro e w1 ⟨rv, rfl, G1⟩
  obtain ⟨ra, rc, rfl⟩ := own_is (G1.get 1 rfl)
  obtain ⟨b0, b1, b2, b3, b4, b5, b6, b7, b8, b9, b10, b11, fb⟩ := row12 (G1.get 0 rfl)
  have hl : (c.rooms.length : Int) ≤ 60 := by omega
  have HRL := Lib.hid hrl
  clear hrl hbd G0
  go_wp2_with fail
  go_loopw [4, 5] (fun nv iv wr => ∃ (i : Nat) (M : Int), i ≤ c.rooms.length ∧ iv = .int .i64 i ∧ nv = .int .i64 M ∧ M = (c.rooms.length : Int) + 2 * c.mr + c.mu + mSum c.ch (c.rooms.take i) ∧ Has w wr [blkC _ w.heap.size (cfgCells c) 52, ownN _ 3 .i64 (.slice ra c.rooms.length rc) c.rooms]) (fun _ iv _ => 61 - (intOf iv).toNat)
  case atStart => exact ⟨0, _, by omega, rfl, rfl, by simp [mSum], G1⟩
  case round =>
    obtain ⟨i, M, hi, rfl, rfl, hM, G⟩ := hrel
    have hmb := mSum_bd c.ch (c.rooms.take i) hch.1 (fun x hx => rooms_bd c x (List.mem_of_mem_take hx))
    have htl : (c.rooms.take i).length ≤ 60 := by rw [List.length_take]; omega
    have hM2 : 0 ≤ M ∧ M ≤ 2000 := by rw [hM]; omega
    have MM := Lib.hid hM
    clear hM hmb htl G1 b0 b1 b2 b3 b4 b5 b6 b7 b8 b9 b10 b11 fb
    obtain ⟨b0, b1, b2, b3, b4, b5, b6, b7, b8, b9, b10, b11, fb⟩ := row12 (G.get 0 rfl)
    by_cases hlt : i < c.rooms.length
    · have hlt' : (i : Int) < (c.rooms.length : Int) := by omega
      obtain ⟨x, hx⟩ : ∃ x, c.rooms[i]? = some x := ⟨c.rooms[i], by simp [hlt]⟩
      have hxb := rooms_bd c x (List.mem_of_getElem? hx)
      obtain ⟨g, off, hgg, -, -, -, hcell, -⟩ := own_atV (G.get 1 rfl) (by omega)
      subst hgg
      have hc := hcell i (.int .i64 x) (by rw [List.getElem?_map, hx]; rfl)
      have HX := Lib.hid hx
      have hdb := div_bd x c.ch hch.1 hxb.1 hxb.2
      have s1 : IntKind.i64.wrap (x + c.ch) = x + c.ch := wrapi64_id _ (by omega) (by omega)
      have s2 : IntKind.i64.wrap (x + c.ch - 1) = x + c.ch - 1 := wrapi64_id _ (by omega) (by omega)
      have s3 : (x + c.ch - 1).tdiv c.ch = (x + c.ch - 1) / c.ch := Int.tdiv_eq_ediv_of_nonneg (by omega)
      have s4 : IntKind.i64.wrap ((x + c.ch - 1) / c.ch) = (x + c.ch - 1) / c.ch := wrapi64_id _ (by omega) (by omega)
      have s5 : IntKind.i64.wrap (M + (x + c.ch - 1) / c.ch) = M + (x + c.ch - 1) / c.ch := wrapi64_id _ (by omega) (by omega)
      clear hcell hx
      go_wp2_with fail
      go_quiet (fail)
      go_wp2_with fail
      go_roundw
      case rel => exact ⟨i + 1, _, by omega, by go_num, rfl, by rw [take_snoc1 _ _ _ HX.out, mSum_snoc, MM.out]; omega, by first | exact G.drewN _ | exact G.drew⟩
      case measure => simp [intOf]; omega
    · have hge : ¬ (i : Int) < (c.rooms.length : Int) := by omega
      have hfull : M = c.mn := by rw [MM.out, List.take_of_length_le (by omega), HRL.out]; rfl
      have FF := Lib.hid hfull
      clear hfull
      go_wp2_with fail
      go_ret
      exact ⟨ret_int FF.out, H.up G.below⟩

end Go.Proofs.Ytmiaghbakdapbaa

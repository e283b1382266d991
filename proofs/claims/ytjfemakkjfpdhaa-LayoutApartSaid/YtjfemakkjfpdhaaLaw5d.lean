/- LayoutApart. -/
import Derived.Test.YtjfemakkjfpdhaaLaw5c
set_option linter.unusedVariables false
set_option linter.unusedSimpArgs false
namespace Go.Proofs.Ytjfemakkjfpdhaa
open Go.ChangeShapes Go.WideShapes Go.ChangeAt Go.RowKit

theorem el_bool : ElemOf Try.prog 52 4 (.bool false) 1 1 := elemOf Try.underlying52 (by kernel_rfl)

/-- Of n places the first i were seen. -/
def seenL (n i : Nat) : List Value := (List.range n).map fun j => .bool (decide (j < i))
theorem seenL_0 (n : Nat) : List.replicate n (.bool false) = seenL n 0 := by
  apply List.ext_getElem? ; intro j
  unfold seenL
  by_cases h : j < n
  · rw [List.getElem?_replicate, if_pos h, List.getElem?_map, List.getElem?_range h]; simp
  · rw [List.getElem?_eq_none (by simp; omega), List.getElem?_eq_none (by simp; omega)]
theorem seenL_set (n i : Nat) : (seenL n i).set i (.bool true) = seenL n (i + 1) := by
  apply List.ext_getElem? ; intro j
  unfold seenL
  by_cases h : j < n
  · by_cases e : i = j
    · subst e
      rw [List.getElem?_set_self (by simp; omega), List.getElem?_map, List.getElem?_range h]; simp
    · rw [List.getElem?_set_ne e, List.getElem?_map, List.getElem?_map, List.getElem?_range h]
      simp; omega
  · rw [List.getElem?_eq_none (by simp; omega), List.getElem?_eq_none (by simp; omega)]
theorem seenL_at (n i : Nat) (h : i < n) : (seenL n i)[i]? = some (.bool false) := by
  unfold seenL
  rw [List.getElem?_map, List.getElem?_range h]; simp

theorem things_norm {c : Cfg} (h : CfgOk c) (t : Th) (ht : t ∈ c.things) : 0 ≤ t.k ∧ t.k ≤ 18 ∧ t.b ≤ 9000 := by
  have hdq := h.dq
  unfold Cfg.things at ht
  simp only [List.mem_append, thBase, thAcks, thHeads, thDeques, thPackets, thNodes, List.mem_map, List.mem_flatMap, List.mem_range, thDeque, thPacket, thNode, thEntries, thTasks, thHeadsOf, thSlots, List.mem_cons, List.not_mem_nil, or_false] at ht
  rcases ht with ((((⟨k, hk, rfl⟩ | ⟨k, hk, rfl⟩) | ⟨k, hk, rfl⟩) | ⟨i, hi, (rfl | rfl) | ⟨j, hj, rfl⟩⟩) | ⟨p, hp, (rfl | rfl) | ⟨j, hj, rfl⟩⟩) | ⟨v, hv, ⟨k, hk, rfl⟩ | ⟨i, hi, rfl⟩⟩
  all_goals dsimp only
  all_goals first | omega | skip
  have : c.rooms.getD v 0 ≤ 16 := by
    rw [List.getD_eq_getElem?_getD]
    cases e : c.rooms[v]? with
    | none => simp
    | some x => exact (rooms_bd c x (List.mem_of_getElem? e)).2
  omega

set_option maxRecDepth 100000 in
set_option maxHeartbeats 8000000 in
theorem apart_ok (c : Cfg) (h : CfgOk c) (w : World) :
    Calls Try.prog 7 #[cfgV c] w fun e w' => e = .returned (.bool true) ∧ Below w.heap.size w w' := by
  have TL := Lib.hid (things_seg h).2
  have hal := (cfg_bd h).al
  have hn0 := (cfg_bd h).n0
  have hll : c.things.length ≤ 9000 := by have := TL.out; omega
  have hok : cfgOk c = true := (cfgOk_iff c).2 h
  have HOK := Lib.hid hok
  clear hok
  unfold cfgV cfgCells
  go_enter Try.func7, Try.ntmps7
  have G0 := (Has.nil w).blkNew (cfgCells c) 24
  go_wp2_with fail
  refine (awake5 _).mono ?_
  rintro e w1 ⟨rfl, q1⟩
  have G1 := G0.up q1
  obtain ⟨b0, b1, b2, b3, b4, b5, b6, b7, b8, b9, b10, b11, fb⟩ := row12 (G1.get 0 rfl)
  clear G0 q1
  go_wp2_with fail
  refine (model_c c _).mono ?_
  rintro e w2 ⟨rfl, q2⟩
  have G2 := G1.up q2
  clear G1 q2 b0 b1 b2 b3 b4 b5 b6 b7 b8 b9 b10 b11 fb
  go_wp2_with fail
  refine (RCheck_c c _).mono ?_
  rw [HOK.out]
  rintro e w3 ⟨rfl, q3⟩
  have G3 := G2.up q3
  have he : errB true = 0 := rfl
  rw [he]
  obtain ⟨b0, b1, b2, b3, b4, b5, b6, b7, b8, b9, b10, b11, fb⟩ := row12 (G3.get 0 rfl)
  clear G2 q3 he
  go_wp2_with fail
  refine (New_m G3 c h).mono ?_
  rintro e w4 ⟨mb, av, rv, rfl, G4⟩
  clear G3 b0 b1 b2 b3 b4 b5 b6 b7 b8 b9 b10 b11 fb
  obtain ⟨b0, b1, b2, b3, b4, b5, b6, b7, b8, b9, b10, b11, fb⟩ := row12 (G4.get 0 rfl)
  go_wp2_with fail
  refine (model_c c _).mono ?_
  rintro e w5 ⟨rfl, q5⟩
  have G5 := G4.up q5
  clear G4 q5 b0 b1 b2 b3 b4 b5 b6 b7 b8 b9 b10 b11 fb
  go_wp2_with fail
  refine (RThings_h G5 c h).mono ?_
  rintro e w6 ⟨lv, rfl, G6⟩
  obtain ⟨la, lc, rfl⟩ := own_is (G6.get 2 rfl)
  clear G5
  go_wp2_with fail
  refine (Len_q (G6.mapAt 1 rfl h)).mono ?_
  rintro e w7 ⟨rfl, d7, rfl⟩
  have g1 : (c.all != (c.things.length : Int)) = false := by have := TL.out; simpa using this.symm
  go_wp2_with (at_make; refine wpl_mk (G6.drewN _) rfl (.tmp 37) (.tmp 37) rfl el_bool rfl (by decide) c.things.length rfl rfl (by omega) ?_; intro w8 G8)
  have es : (w6.drewN d7).heap.size = w6.heap.size := rfl
  rw [es, seenL_0] at G8
  clear es
  obtain ⟨sg, hsg⟩ : ∃ sg, sg = w6.heap.size := ⟨_, rfl⟩
  rw [← hsg] at G8 ⊢
  clear hsg
  go_loopw [9, 10] (fun iv kv wr => ∃ i : Nat, i ≤ c.things.length ∧ iv = .int .i64 i ∧ Has w wr [blkC _ w.heap.size (cfgCells c) 24, mapC _ mb av rv c, ownT _ (.slice la c.things.length lc) c.things, ownC _ 4 1 (.slice (some ⟨sg, 0, none⟩) c.things.length c.things.length) c.things.length (seenL c.things.length i)]) (fun iv _ _ => 9001 - (intOf iv).toNat)
  case atStart => exact ⟨0, by omega, rfl, G8⟩
  case round =>
    obtain ⟨i, hi, rfl, G⟩ := hrel
    clear G8 G6
    by_cases hlt : i < c.things.length
    · have hlt' : (i : Int) < (c.things.length : Int) := by omega
      obtain ⟨x, hx⟩ : ∃ x, c.things[i]? = some x := ⟨c.things[i], by simp [hlt]⟩
      obtain ⟨g, off, hgg, -, -, -, hcell, -⟩ := own_atV (G.get 2 rfl) (by omega)
      subst hgg
      have hx3 := flat3 _ _ _ hx
      have c0 := hcell _ _ hx3.1
      have c1 := hcell _ _ hx3.2.1
      have c2 := hcell _ _ hx3.2.2
      rw [← Nat.add_assoc] at c1 c2
      have AT := Lib.hid (things_at h _ _ hx)
      have NX := Lib.hid (things_norm h x (List.mem_of_getElem? hx))
      clear hcell hx hx3
      go_wp2_with fail
      refine (At_h G 1 rfl h x ⟨NX.out.1, NX.out.2.1⟩ (by have := NX.out.2.2; omega)).mono ?_
      rw [AT.out]
      rintro e x1 ⟨rfl, H1⟩
      obtain ⟨sc, sf⟩ := own_at0 (H1.get 3 rfl) (by omega)
      have s0 := sc i _ (seenL_at _ _ hlt)
      clear sc c0 c1 c2
      go_wp2_with fail
      go_roundw
      case rel => exact ⟨i + 1, by omega, by go_num, by have := H1.ownSet0 3 rfl i (.bool true) (by omega); rw [seenL_set] at this; exact this⟩
      case measure => simp [intOf]; omega
    · have hge : ¬ (i : Int) < (c.things.length : Int) := by omega
      go_wp2_with fail
      go_ret
      exact ⟨rfl, G.below⟩

set_option maxRecDepth 100000 in
theorem apart_no (c : Cfg) (h : cfgOk c = false) (w : World) :
    Calls Try.prog 7 #[cfgV c] w fun e w' => e = .returned (.bool true) ∧ Below w.heap.size w w' := by
  have HOK := Lib.hid h
  clear h
  unfold cfgV cfgCells
  go_enter Try.func7, Try.ntmps7
  have G0 := (Has.nil w).blkNew (cfgCells c) 24
  go_wp2_with fail
  refine (awake5 _).mono ?_
  rintro e w1 ⟨rfl, q1⟩
  have G1 := G0.up q1
  obtain ⟨b0, b1, b2, b3, b4, b5, b6, b7, b8, b9, b10, b11, fb⟩ := row12 (G1.get 0 rfl)
  clear G0 q1
  go_wp2_with fail
  refine (model_c c _).mono ?_
  rintro e w2 ⟨rfl, q2⟩
  have G2 := G1.up q2
  clear G1 q2 b0 b1 b2 b3 b4 b5 b6 b7 b8 b9 b10 b11 fb
  go_wp2_with fail
  refine (RCheck_c c _).mono ?_
  rw [HOK.out]
  rintro e w3 ⟨rfl, q3⟩
  have G3 := G2.up q3
  have he : errB false = 21 := rfl
  rw [he]
  clear he
  go_wp2_with fail
  go_ret
  exact ⟨rfl, G3.below⟩

theorem walk_LayoutApart (c0 c1 c2 c3 c4 mr mu dq ch bf rt sw : Int) (w : World) :
    Calls Try.prog 7 #[.agg #[.int .i64 c0, .int .i64 c1, .int .i64 c2, .int .i64 c3, .int .i64 c4, .int .i64 mr, .int .i64 mu, .int .i64 dq, .int .i64 ch, .int .i64 bf, .int .i64 rt, .int .i64 sw]] w fun e w' => e = .returned (.bool true) ∧ Below w.heap.size w w' := by
  cases h : cfgOk ⟨c0, c1, c2, c3, c4, mr, mu, dq, ch, bf, rt, sw⟩ with
  | true => exact apart_ok ⟨c0, c1, c2, c3, c4, mr, mu, dq, ch, bf, rt, sw⟩ ((cfgOk_iff _).1 h) w
  | false => exact apart_no ⟨c0, c1, c2, c3, c4, mr, mu, dq, ch, bf, rt, sw⟩ h w

end Go.Proofs.Ytjfemakkjfpdhaa

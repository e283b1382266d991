/- dustmanref05.All and Place: all things, and where one stands. Condition: the configuration may be. -/
import Derived.Test.YtmiaghbakdapbaaThings5p
import Derived.Test.YtmiaghbakdapbaaRef5
import Derived.Test.YtmiaghbakdapbaaFirst5
set_option linter.unusedVariables false
set_option linter.unusedSimpArgs false
namespace Go.Proofs.Ytmiaghbakdapbaa
open Go.ChangeShapes Go.WideShapes Go.ChangeAt Go.RowKit

theorem el_T : ElemOf Try.prog 48 118 (.agg #[.int .i64 0, .int .i64 0, .int .i64 0]) 3 24 := elemOf Try.underlying48 (by kernel_rfl)

def thCells (t : Th) : List Value := [.int .i64 t.k, .int .i64 t.a, .int .i64 t.b]
def thV (t : Th) : Value := .agg #[.int .i64 t.k, .int .i64 t.a, .int .i64 t.b]
/-- A slice of things of the call's own. -/
def ownT (n0 : Nat) (v : Value) (l : List Th) : Chunk n0 := ownC n0 118 3 v l.length (l.flatMap thCells)
theorem ownT_app (n0 : Nat) (v : Value) (l : List Th) (k a b : Int) : ownC n0 118 3 v (l.length + 1) (l.flatMap thCells ++ [.int .i64 k, .int .i64 a, .int .i64 b]) = ownT n0 v (l ++ [⟨k, a, b⟩]) := by
  unfold ownT
  rw [List.length_append, List.flatMap_append]
  rfl
theorem Has.front {w0 w : World} {cs ds : List (Chunk w0.heap.size)} (H : Has w0 w (cs ++ ds)) : Has w0 w cs :=
  ⟨H.below, fun i c hi => H.holds i c (get_app hi _), fun i c hi => H.lt i c (get_app hi _), fun i j c d hi hj => H.apart i j c d (get_app hi _) (get_app hj _)⟩
theorem Has.ownT0 {w0 w : World} {cs : List (Chunk w0.heap.size)} (H : Has w0 w cs) : Has w0 w (cs ++ [ownT _ (.slice none 0 0) []]) := H.ownNil 118 3

set_option maxRecDepth 100000 in
set_option maxHeartbeats 8000000 in
theorem RThings_h {w0 w : World} {cs : List (Chunk w0.heap.size)} (H : Has w0 w cs) (c : Cfg) (h : CfgOk c) :
    Calls Try.prog 61 #[cfgV c] w fun e w' => ∃ v, e = .returned v ∧ Has w0 w' (cs ++ [ownT _ v c.things]) := by
  have hbd := cfg_bd h
  have hnd := hbd.nd
  have hmn := hbd.mn
  have hmr := h.mr
  have hmu := h.mu
  have hdq := h.dq
  have RL := Lib.hid (rooms_len (c := c))
  have RB := Lib.hid (rooms_bd c)
  clear hbd
  unfold cfgV cfgCells
  go_enter Try.func61, Try.ntmps61
  have G0 := ((Has.nil w).blkNew (cfgCells c) 52).ownT0
  go_wp2_with fail
  go_loopw [3, 4] (fun lv iv wr => ∃ (i : Nat) (l : List Th), (i : Int) ≤ 6 ∧ iv = .int .i64 i ∧ Hid (l = ([] : List Th) ++ thBase i) ∧ l.length ≤ 0 + i ∧ Has w wr [blkC _ w.heap.size (cfgCells c) 52, ownT _ lv l]) (fun _ iv _ => 70 - (intOf iv).toNat)
  case atStart => exact ⟨0, ([] : List Th), by omega, rfl, Lib.hid (by simp [thBase]), by simp, G0⟩
  case round =>
  obtain ⟨i1, l1, hi1, rfl, E1, hll1, G1⟩ := hrel
  clear G0
  obtain ⟨b0, b1, b2, b3, b4, b5, b6, b7, b8, b9, b10, b11, fb⟩ := row12 (G1.get 0 rfl)
  by_cases hlt1 : (i1 : Int) < 6
  · skip
    go_wp2_with (at_builtin; refine wpl_app G1 1 rfl (.tmp 20) (.tmp 23) rfl el_T rfl (by decide) (by decide) rfl rfl [.int .i64 (i1 : Int), .int .i64 0, .int .i64 0] rfl rfl (by simp [Value.oneCell']) (by first | omega | (simp only [List.length_append, List.length_cons, List.length_nil]; omega)) ?_; intro v1 w1 Gx)
    rw [ownT_app] at Gx
    go_roundw
    case rel => exact ⟨i1 + 1, _, by omega, by go_num, Lib.hid (by rw [E1.out]; simp [thBase, List.range_succ]), by simp only [List.length_append, List.length_cons, List.length_nil]; omega, Gx⟩
    case measure => simp [intOf]; omega
  have en1 : i1 = 6 := by omega
  have F1 : Hid (l1 = ([] : List Th) ++ thBase 6) := Lib.hid (by rw [← en1]; exact E1.out)
  clear en1 E1
  go_wp2_with fail
  clear b0 b1 b2 b3 b4 b5 b6 b7 b8 b9 b10 b11 fb
  go_loopw [3, 5] (fun lv iv wr => ∃ (i : Nat) (l : List Th), (i : Int) ≤ c.mu ∧ iv = .int .i64 i ∧ Hid (l = l1 ++ thAcks i) ∧ l.length ≤ 6 + i ∧ Has w wr [blkC _ w.heap.size (cfgCells c) 52, ownT _ lv l]) (fun _ iv _ => 70 - (intOf iv).toNat)
  case atStart => exact ⟨0, l1, by omega, rfl, Lib.hid (by simp [thAcks]), by omega, G1⟩
  case round =>
  obtain ⟨i2, l2, hi2, rfl, E2, hll2, G2⟩ := hrel
  clear G1
  obtain ⟨b0, b1, b2, b3, b4, b5, b6, b7, b8, b9, b10, b11, fb⟩ := row12 (G2.get 0 rfl)
  by_cases hlt2 : (i2 : Int) < c.mu
  · skip
    go_wp2_with (at_builtin; refine wpl_app G2 1 rfl (.tmp 31) (.tmp 34) rfl el_T rfl (by decide) (by decide) rfl rfl [.int .i64 6, .int .i64 (i2 : Int), .int .i64 0] rfl rfl (by simp [Value.oneCell']) (by first | omega | (simp only [List.length_append, List.length_cons, List.length_nil]; omega)) ?_; intro v1 w1 Gx)
    rw [ownT_app] at Gx
    go_roundw
    case rel => exact ⟨i2 + 1, _, by omega, by go_num, Lib.hid (by rw [E2.out]; simp [thAcks, List.range_succ]), by simp only [List.length_append, List.length_cons, List.length_nil]; omega, Gx⟩
    case measure => simp [intOf]; omega
  have en2 : i2 = c.mu.toNat := by omega
  have F2 : Hid (l2 = l1 ++ thAcks c.mu.toNat) := Lib.hid (by rw [← en2]; exact E2.out)
  clear en2 E2
  go_wp2_with fail
  clear b0 b1 b2 b3 b4 b5 b6 b7 b8 b9 b10 b11 fb
  go_loopw [3, 6] (fun lv iv wr => ∃ (i : Nat) (l : List Th), (i : Int) ≤ 5 ∧ iv = .int .i64 i ∧ Hid (l = l2 ++ thHeads i) ∧ l.length ≤ 10 + i ∧ Has w wr [blkC _ w.heap.size (cfgCells c) 52, ownT _ lv l]) (fun _ iv _ => 70 - (intOf iv).toNat)
  case atStart => exact ⟨0, l2, by omega, rfl, Lib.hid (by simp [thHeads]), by omega, G2⟩
  case round =>
  obtain ⟨i3, l3, hi3, rfl, E3, hll3, G3⟩ := hrel
  clear G2
  obtain ⟨b0, b1, b2, b3, b4, b5, b6, b7, b8, b9, b10, b11, fb⟩ := row12 (G3.get 0 rfl)
  by_cases hlt3 : (i3 : Int) < 5
  · skip
    go_wp2_with (at_builtin; refine wpl_app G3 1 rfl (.tmp 40) (.tmp 43) rfl el_T rfl (by decide) (by decide) rfl rfl [.int .i64 7, .int .i64 (i3 : Int), .int .i64 0] rfl rfl (by simp [Value.oneCell']) (by first | omega | (simp only [List.length_append, List.length_cons, List.length_nil]; omega)) ?_; intro v1 w1 Gx)
    rw [ownT_app] at Gx
    go_roundw
    case rel => exact ⟨i3 + 1, _, by omega, by go_num, Lib.hid (by rw [E3.out]; simp [thHeads, List.range_succ]), by simp only [List.length_append, List.length_cons, List.length_nil]; omega, Gx⟩
    case measure => simp [intOf]; omega
  have en3 : i3 = 5 := by omega
  have F3 : Hid (l3 = l2 ++ thHeads 5) := Lib.hid (by rw [← en3]; exact E3.out)
  clear en3 E3
  go_wp2_with fail
  clear b0 b1 b2 b3 b4 b5 b6 b7 b8 b9 b10 b11 fb
  go_loopw [3, 7, 8] (fun lv iv u wr => ∃ (i : Nat) (l : List Th), (i : Int) ≤ c.mr ∧ iv = .int .i64 i ∧ Hid (l = l3 ++ thDeques c.dq.toNat i) ∧ l.length ≤ 15 + 10 * i ∧ Has w wr [blkC _ w.heap.size (cfgCells c) 52, ownT _ lv l]) (fun _ iv _ _ => 70 - (intOf iv).toNat)
  case atStart => exact ⟨0, l3, by omega, rfl, Lib.hid (by simp [thDeques]), by omega, G3⟩
  case round =>
  obtain ⟨i4, l4, hi4, rfl, E4, hll4, G4⟩ := hrel
  clear G3
  obtain ⟨b0, b1, b2, b3, b4, b5, b6, b7, b8, b9, b10, b11, fb⟩ := row12 (G4.get 0 rfl)
  by_cases hlt4 : (i4 : Int) < c.mr
  · skip
    go_wp2_with (first | (at_builtin; refine wpl_app G4 1 rfl (.tmp 51) (.tmp 54) rfl el_T rfl (by decide) (by decide) rfl rfl [.int .i64 8, .int .i64 (i4 : Int), .int .i64 0] rfl rfl (by simp [Value.oneCell']) (by first | omega | (simp only [List.length_append, List.length_cons, List.length_nil]; omega)) ?_; intro v1 w1 Gx; rw [ownT_app] at Gx) | (at_builtin; refine wpl_app Gx 1 rfl (.tmp 56) (.tmp 59) rfl el_T rfl (by decide) (by decide) rfl rfl [.int .i64 9, .int .i64 (i4 : Int), .int .i64 0] rfl rfl (by simp [Value.oneCell']) (by first | omega | (simp only [List.length_append, List.length_cons, List.length_nil]; omega)) ?_; intro v2 w2 Gy; rw [ownT_app] at Gy))
    clear Gx b0 b1 b2 b3 b4 b5 b6 b7 b8 b9 b10 b11 fb
    have hly : ((l4 ++ [⟨8, (i4 : Int), 0⟩]) ++ [⟨9, (i4 : Int), 0⟩] : List Th).length ≤ 17 + 10 * i4 := by simp only [List.length_append, List.length_cons, List.length_nil]; omega
    obtain ⟨ly, ely⟩ : ∃ ly, ly = (l4 ++ [⟨8, (i4 : Int), 0⟩]) ++ [⟨9, (i4 : Int), 0⟩] := ⟨_, rfl⟩
    rw [← ely] at hly Gy
    have EY := Lib.hid ely
    clear ely
    go_loopw [3, 8] (fun lv jv wr => ∃ (j : Nat) (l : List Th), (j : Int) ≤ c.dq ∧ jv = .int .i64 j ∧ Hid (l = ly ++ thEntries i4 j) ∧ l.length ≤ 17 + 10 * i4 + j ∧ Has w wr [blkC _ w.heap.size (cfgCells c) 52, ownT _ lv l]) (fun _ jv _ => 70 - (intOf jv).toNat)
    case atStart => exact ⟨0, ly, by omega, rfl, Lib.hid (by simp [thEntries]), by omega, Gy⟩
    case round =>
      obtain ⟨j5, l5, hj5, rfl, E5, hll5, G5⟩ := hrel
      clear Gy
      obtain ⟨b0, b1, b2, b3, b4, b5, b6, b7, b8, b9, b10, b11, fb⟩ := row12 (G5.get 0 rfl)
      by_cases hlt5 : (j5 : Int) < c.dq
      · skip
        go_wp2_with (at_builtin; refine wpl_app G5 1 rfl (.tmp 67) (.tmp 71) rfl el_T rfl (by decide) (by decide) rfl rfl [.int .i64 10, .int .i64 (i4 : Int), .int .i64 (j5 : Int)] rfl rfl (by simp [Value.oneCell']) (by first | omega | (simp only [List.length_append, List.length_cons, List.length_nil]; omega)) ?_; intro v3 w3 Gx)
        rw [ownT_app] at Gx
        go_roundw
        case rel => exact ⟨j5 + 1, _, by omega, by go_num, Lib.hid (by rw [E5.out]; simp [thEntries, List.range_succ]), by simp only [List.length_append, List.length_cons, List.length_nil]; omega, Gx⟩
        case measure => simp [intOf]; omega
      · have en5 : j5 = c.dq.toNat := by omega
        have F5 : Hid (l5 = l3 ++ thDeques c.dq.toNat (i4 + 1)) := Lib.hid (by rw [E5.out, EY.out, E4.out, en5]; simp [thDeques, List.range_succ, thDeque])
        clear en5
        go_wp2_with fail
        go_roundw
        case rel => exact ⟨i4 + 1, _, by omega, by go_num, F5, by omega, G5⟩
        case measure => simp [intOf]; omega
  have en4 : i4 = c.mr.toNat := by omega
  have F4 : Hid (l4 = l3 ++ thDeques c.dq.toNat c.mr.toNat) := Lib.hid (by rw [← en4]; exact E4.out)
  clear en4 E4
  go_wp2_with fail
  refine (RPackets_h G4 c h).mono ?_
  rintro e w6 ⟨rfl, G6⟩
  clear G4 b0 b1 b2 b3 b4 b5 b6 b7 b8 b9 b10 b11 fb
  have hll4' : l4.length ≤ 55 := by omega
  go_wp2_with fail
  go_loopw [3, 10, 11] (fun lv pv u wr => ∃ (p : Nat) (l : List Th), (p : Int) ≤ c.mn ∧ pv = .int .i64 ((p : Int) + 1) ∧ Hid (l = l4 ++ thPackets p) ∧ l.length ≤ 55 + 6 * p ∧ Has w wr [blkC _ w.heap.size (cfgCells c) 52, ownT _ lv l]) (fun _ pv _ _ => 1200 - (intOf pv).toNat)
  case atStart => exact ⟨0, l4, by omega, by simp, Lib.hid (by simp [thPackets]), by omega, G6⟩
  case round =>
  obtain ⟨p7, l7, hp7, rfl, E7, hll7, G7⟩ := hrel
  clear G6
  by_cases hlt7 : (p7 : Int) + 1 ≤ c.mn
  · skip
    go_wp2_with (first | (at_builtin; refine wpl_app G7 1 rfl (.tmp 80) (.tmp 83) rfl el_T rfl (by decide) (by decide) rfl rfl [.int .i64 11, .int .i64 ((p7 : Int) + 1), .int .i64 0] rfl rfl (by simp [Value.oneCell']) (by first | omega | (simp only [List.length_append, List.length_cons, List.length_nil]; omega)) ?_; intro v1 w1 Gx; rw [ownT_app] at Gx) | (at_builtin; refine wpl_app Gx 1 rfl (.tmp 85) (.tmp 88) rfl el_T rfl (by decide) (by decide) rfl rfl [.int .i64 12, .int .i64 ((p7 : Int) + 1), .int .i64 0] rfl rfl (by simp [Value.oneCell']) (by first | omega | (simp only [List.length_append, List.length_cons, List.length_nil]; omega)) ?_; intro v2 w2 Gy; rw [ownT_app] at Gy))
    clear Gx
    have hly : ((l7 ++ [⟨11, (p7 : Int) + 1, 0⟩]) ++ [⟨12, (p7 : Int) + 1, 0⟩] : List Th).length ≤ 57 + 6 * p7 := by simp only [List.length_append, List.length_cons, List.length_nil]; omega
    obtain ⟨ly, ely⟩ : ∃ ly, ly = (l7 ++ [⟨11, (p7 : Int) + 1, 0⟩]) ++ [⟨12, (p7 : Int) + 1, 0⟩] := ⟨_, rfl⟩
    rw [← ely] at hly Gy
    have EY := Lib.hid ely
    clear ely
    go_loopw [3, 11] (fun lv jv wr => ∃ (j : Nat) (l : List Th), (j : Int) ≤ 4 ∧ jv = .int .i64 j ∧ Hid (l = ly ++ thTasks p7 j) ∧ l.length ≤ 57 + 6 * p7 + j ∧ Has w wr [blkC _ w.heap.size (cfgCells c) 52, ownT _ lv l]) (fun _ jv _ => 70 - (intOf jv).toNat)
    case atStart => exact ⟨0, ly, by omega, rfl, Lib.hid (by simp [thTasks]), by omega, Gy⟩
    case round =>
      obtain ⟨j8, l8, hj8, rfl, E8, hll8, G8⟩ := hrel
      clear Gy
      by_cases hlt8 : (j8 : Int) < 4
      · skip
        go_wp2_with (at_builtin; refine wpl_app G8 1 rfl (.tmp 94) (.tmp 98) rfl el_T rfl (by decide) (by decide) rfl rfl [.int .i64 13, .int .i64 ((p7 : Int) + 1), .int .i64 (j8 : Int)] rfl rfl (by simp [Value.oneCell']) (by first | omega | (simp only [List.length_append, List.length_cons, List.length_nil]; omega)) ?_; intro v3 w3 Gx)
        rw [ownT_app] at Gx
        go_roundw
        case rel => exact ⟨j8 + 1, _, by omega, by go_num, Lib.hid (by rw [E8.out]; simp [thTasks, List.range_succ]), by simp only [List.length_append, List.length_cons, List.length_nil]; omega, Gx⟩
        case measure => simp [intOf]; omega
      · have en8 : j8 = 4 := by omega
        have F8 : Hid (l8 = l4 ++ thPackets (p7 + 1)) := Lib.hid (by rw [E8.out, EY.out, E7.out, en8]; simp [thPackets, List.range_succ, thPacket])
        clear en8
        go_wp2_with fail
        go_roundw
        case rel => exact ⟨p7 + 1, _, by omega, by go_num, F8, by omega, G8⟩
        case measure => simp [intOf]; omega
  have en7 : p7 = c.mn.toNat := by omega
  have F7 : Hid (l7 = l4 ++ thPackets c.mn.toNat) := Lib.hid (by rw [← en7]; exact E7.out)
  clear en7 E7
  obtain ⟨b0, b1, b2, b3, b4, b5, b6, b7, b8, b9, b10, b11, fb⟩ := row12 (G7.get 0 rfl)
  go_wp2_with fail
  refine (RRooms_h G7 c).mono ?_
  rintro e w9 ⟨rv, rfl, G9⟩
  obtain ⟨ra, rc, rfl⟩ := own_is (G9.get 2 rfl)
  clear G7 b0 b1 b2 b3 b4 b5 b6 b7 b8 b9 b10 b11 fb
  have hll7' : l7.length ≤ 6655 := by omega
  have hrl : (c.rooms.length : Int) ≤ 60 := by have := RL.out; omega
  go_wp2_with fail
  go_loopw [3, 13, 14, 15] (fun lv vv u1 u2 wr => ∃ (v : Nat) (l : List Th), v ≤ c.rooms.length ∧ vv = .int .i64 ((v : Int) + 1) ∧ Hid (l = l7 ++ thNodes c.rooms v) ∧ l.length ≤ 6655 + 20 * v ∧ Has w wr [blkC _ w.heap.size (cfgCells c) 52, ownT _ lv l, ownN _ 3 .i64 (.slice ra c.rooms.length rc) c.rooms]) (fun _ vv _ _ _ => 70 - (intOf vv).toNat)
  case atStart => exact ⟨0, l7, by omega, by simp, Lib.hid (by simp [thNodes]), by omega, G9⟩
  case round =>
  obtain ⟨vn, lA, hv, rfl, EA, hllA, GA⟩ := hrel
  clear G9
  by_cases hltA : vn < c.rooms.length
  · have hltA' : (vn : Int) + 1 ≤ (c.rooms.length : Int) := by omega
    go_wp2_with fail
    go_loopw [3, 14] (fun lv kv wr => ∃ (k : Nat) (l : List Th), (k : Int) ≤ 4 ∧ kv = .int .i64 (14 + (k : Int)) ∧ Hid (l = lA ++ thHeadsOf vn k) ∧ l.length ≤ 6655 + 20 * vn + k ∧ Has w wr [blkC _ w.heap.size (cfgCells c) 52, ownT _ lv l, ownN _ 3 .i64 (.slice ra c.rooms.length rc) c.rooms]) (fun _ kv _ => 70 - (intOf kv).toNat)
    case atStart => exact ⟨0, lA, by omega, by simp, Lib.hid (by simp [thHeadsOf]), by omega, GA⟩
    case round =>
    obtain ⟨kB, lB, hkB, rfl, EB, hllB, GB⟩ := hrel
    clear GA
    by_cases hltB : 14 + (kB : Int) < 18
    · skip
      go_wp2_with (at_builtin; refine wpl_app GB 1 rfl (.tmp 112) (.tmp 116) rfl el_T rfl (by decide) (by decide) rfl rfl [.int .i64 (14 + (kB : Int)), .int .i64 ((vn : Int) + 1), .int .i64 0] rfl rfl (by simp [Value.oneCell']) (by first | omega | (simp only [List.length_append, List.length_cons, List.length_nil]; omega)) ?_; intro v1 w1 Gx)
      rw [ownT_app] at Gx
      go_roundw
      case rel => exact ⟨kB + 1, _, by omega, by congr 1 <;> omega, Lib.hid (by rw [EB.out]; simp [thHeadsOf, List.range_succ]), by simp only [List.length_append, List.length_cons, List.length_nil]; omega, Gx⟩
      case measure => simp [intOf]; omega
    have enB : kB = 4 := by omega
    have FB : Hid (lB = lA ++ thHeadsOf vn 4) := Lib.hid (by rw [← enB]; exact EB.out)
    have hllB' : lB.length ≤ 6659 + 20 * vn := by omega
    clear enB EB
    obtain ⟨x, hx⟩ : ∃ x, c.rooms[vn]? = some x := ⟨c.rooms[vn], by simp [hltA]⟩
    have hxb := RB.out x (List.mem_of_getElem? hx)
    have HX := Lib.hid hx
    clear hx
    go_wp2_with fail
    go_loopw [3, 15] (fun lv iv wr => ∃ (i : Nat) (l : List Th), (i : Int) ≤ x ∧ iv = .int .i64 i ∧ Hid (l = lB ++ thSlots vn i) ∧ l.length ≤ 6659 + 20 * vn + i ∧ Has w wr [blkC _ w.heap.size (cfgCells c) 52, ownT _ lv l, ownN _ 3 .i64 (.slice ra c.rooms.length rc) c.rooms]) (fun _ iv _ => 70 - (intOf iv).toNat)
    case atStart => exact ⟨0, lB, by omega, rfl, Lib.hid (by simp [thSlots]), by omega, GB⟩
    case round =>
    obtain ⟨iC, lC, hiC, rfl, EC, hllC, GC⟩ := hrel
    clear GB
    obtain ⟨g, off, hgg, -, -, -, hcell, -⟩ := own_atV (GC.get 2 rfl) (by omega)
    subst hgg
    have hc := hcell vn (.int .i64 x) (by rw [List.getElem?_map, HX.out]; rfl)
    have hvl : (vn : Int) < (c.rooms.length : Int) := by omega
    clear hcell
    by_cases hltC : (iC : Int) < x
    · skip
      go_wp2_with (at_builtin; refine wpl_app GC 1 rfl (.tmp 127) (.tmp 131) rfl el_T rfl (by decide) (by decide) rfl rfl [.int .i64 18, .int .i64 ((vn : Int) + 1), .int .i64 (iC : Int)] rfl rfl (by simp [Value.oneCell']) (by first | omega | (simp only [List.length_append, List.length_cons, List.length_nil]; omega)) ?_; intro v2 w2 Gx)
      rw [ownT_app] at Gx
      go_roundw
      case rel => exact ⟨iC + 1, _, by omega, by go_num, Lib.hid (by rw [EC.out]; simp [thSlots, List.range_succ]), by simp only [List.length_append, List.length_cons, List.length_nil]; omega, Gx⟩
      case measure => simp [intOf]; omega
    have enC : iC = x.toNat := by omega
    have FC : Hid (lC = l7 ++ thNodes c.rooms (vn + 1)) := Lib.hid (by
      have e : c.rooms.getD vn 0 = x := by rw [List.getD_eq_getElem?_getD, HX.out]; rfl
      rw [EC.out, FB.out, EA.out, enC]; simp only [thNodes, List.range_succ, List.flatMap_append, List.flatMap_cons, List.flatMap_nil, thNode, e, List.append_nil, List.append_assoc])
    clear enC
    go_wp2_with fail
    go_roundw
    case rel => exact ⟨vn + 1, _, by omega, by go_num, FC, by omega, GC⟩
    case measure => simp [intOf]; omega
  have hge : ¬ (vn : Int) + 1 ≤ (c.rooms.length : Int) := by omega
  have FF : Hid (lA = c.things) := Lib.hid (by
    have enA : vn = c.nd.toNat := by have := RL.out; omega
    rw [EA.out, F7.out, F4.out, F3.out, F2.out, F1.out, enA]
    simp [Cfg.things, List.append_assoc])
  go_wp2_with fail
  go_ret
  exact ⟨_, rfl, by rw [← FF.out]; exact H.joinOwn GA 1 rfl⟩
  
theorem flat3 : ∀ (l : List Th) (j : Nat) (t : Th), l[j]? = some t → (l.flatMap thCells)[j * 3]? = some (.int .i64 t.k) ∧ (l.flatMap thCells)[j * 3 + 1]? = some (.int .i64 t.a) ∧ (l.flatMap thCells)[j * 3 + 2]? = some (.int .i64 t.b)
  | [], _, _, h => by simp at h
  | x :: l, 0, t, h => by simp at h; subst h; simp [thCells]
  | x :: l, j + 1, t, h => by
    have ih := flat3 l j t (by simpa using h)
    have e : ∀ r, ((x :: l).flatMap thCells)[(j + 1) * 3 + r]? = (l.flatMap thCells)[j * 3 + r]? := fun r => by
      have e1 : (j + 1) * 3 + r = j * 3 + r + 3 := by omega
      rw [e1]; simp [thCells, List.flatMap_cons]
    exact ⟨(e 0).trans ih.1, (e 1).trans ih.2.1, (e 2).trans ih.2.2⟩

set_option maxRecDepth 100000 in
set_option maxHeartbeats 4000000 in
theorem RPlace_h {w0 w : World} {cs : List (Chunk w0.heap.size)} (H : Has w0 w cs) (q : Nat) {lv : Value} {c : Cfg} (hq : cs[q]? = some (ownT _ lv c.things)) (h : CfgOk c) (t : Th) (hn : Norm t) :
    Calls Try.prog 84 #[lv, thV t] w fun e w' => e = .returned (.int .i64 (c.atOf t)) ∧ Has w0 w' cs := by
  obtain ⟨tk, ta, tb⟩ := t
  have HL := Lib.hid (things_seg h).2
  have hal := (cfg_bd h).al
  have hn0 := (cfg_bd h).n0
  have hll : c.things.length ≤ 9000 := by have := HL.out; omega
  have HN := Lib.hid hn
  have HQ := Lib.hid hq
  obtain ⟨la, lc, rfl⟩ := own_is (H.get q hq)
  clear hn hq
  unfold thV
  go_enter Try.func84, Try.ntmps84
  have G0 := H.blkNew #[.int .i64 tk, .int .i64 ta, .int .i64 tb] 118
  go_wp2_with fail
  go_loopw [5] (fun iv wr => ∃ i : Nat, i ≤ c.things.length ∧ iv = .int .i64 i ∧ Hid (∀ j, j < i → c.things[j]? ≠ some ⟨tk, ta, tb⟩) ∧ Has w0 wr (cs ++ [blkC _ w.heap.size #[.int .i64 tk, .int .i64 ta, .int .i64 tb] 118])) (fun iv _ => 9001 - (intOf iv).toNat)
  case atStart => exact ⟨0, by omega, rfl, Lib.hid (fun j hj => by omega), G0⟩
  case round =>
    obtain ⟨i, hi, rfl, HI, G⟩ := hrel
    clear G0
    by_cases hlt : i < c.things.length
    · have hlt' : (i : Int) < (c.things.length : Int) := by omega
      obtain ⟨x, hx⟩ : ∃ x, c.things[i]? = some x := ⟨c.things[i], by simp [hlt]⟩
      obtain ⟨g, off, hgg, -, -, -, hcell, -⟩ := own_atV (G.get q (get_app HQ.out _)) (by omega)
      subst hgg
      have hx3 := flat3 _ _ _ hx
      have c0 := hcell _ _ hx3.1
      have c1 := hcell _ _ hx3.2.1
      have c2 := hcell _ _ hx3.2.2
      obtain ⟨b0, b1, b2, fb⟩ := row3 (G.get cs.length (get_last _ _))
      have HX := Lib.hid hx
      clear hcell hx hx3
      obtain ⟨xk, xa, xb⟩ := x
      dsimp only at c0 c1 c2
      rw [← Nat.add_assoc] at c1 c2
      by_cases e0 : xk = tk
      · by_cases e1 : xa = ta
        · by_cases e2 : xb = tb
          · subst e0; subst e1; subst e2
            have AT := Lib.hid (things_at h _ _ HX.out)
            go_wp2_with fail
            go_quiet (fail)
            go_wp2_with fail
            go_ret
            exact ⟨by rw [AT.out]; rfl, by first | exact (G.drewN _).front | exact G.drew.front⟩
          · subst e0; subst e1
            go_wp2_with fail
            go_quiet (fail)
            go_wp2_with fail
            go_roundw
            case rel => exact ⟨i + 1, by omega, by go_num, Lib.hid (fun j hj => by
              by_cases q1 : j = i
              · subst q1; rw [HX.out]; intro q2; cases q2; exact absurd rfl e2
              · exact HI.out j (by omega)), by first | exact G.drewN _ | exact G.drew⟩
            case measure => simp [intOf]; omega
        · subst e0
          go_wp2_with fail
          go_quiet (fail)
          go_wp2_with fail
          go_roundw
          case rel => exact ⟨i + 1, by omega, by go_num, Lib.hid (fun j hj => by
            by_cases q1 : j = i
            · subst q1; rw [HX.out]; intro q2; cases q2; exact absurd rfl e1
            · exact HI.out j (by omega)), by first | exact G.drewN _ | exact G.drew⟩
          case measure => simp [intOf]; omega
      · skip
        go_wp2_with fail
        go_quiet (fail)
        go_wp2_with fail
        go_roundw
        case rel => exact ⟨i + 1, by omega, by go_num, Lib.hid (fun j hj => by
          by_cases q1 : j = i
          · subst q1; rw [HX.out]; intro q2; cases q2; exact absurd rfl e0
          · exact HI.out j (by omega)), by first | exact G.drewN _ | exact G.drew⟩
        case measure => simp [intOf]; omega
    · have hge : ¬ (i : Int) < (c.things.length : Int) := by omega
      have AT := Lib.hid (things_none h ⟨tk, ta, tb⟩ HN.out (fun j hj => HI.out j (by omega)))
      go_wp2_with fail
      go_ret
      exact ⟨by rw [AT.out]; rfl, G.front⟩

end Go.Proofs.Ytmiaghbakdapbaa

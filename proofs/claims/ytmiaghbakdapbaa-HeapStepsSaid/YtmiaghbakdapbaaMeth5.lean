/- The methods of a map: where things stand. Conditions: the map is there, of a configuration that may be. -/
import Derived.Test.YtmiaghbakdapbaaMap5
import Derived.Deep.QuietTactic
import Derived.BigQuiet
set_option linter.unusedVariables false
namespace Go.Proofs.Ytmiaghbakdapbaa
open Go.ChangeShapes Go.WideShapes Go.ChangeAt Go.RowKit

/-- The map of c is at mb. -/
structure MapAt (w : World) (mb : Nat) (c : Cfg) : Prop where
  ok : CfgOk c
  at_ : ∃ av rv, w.heap[mb]? = some (.cells (mCells 6 c.headP c.dqP c.pkP c.n0P c.nd c.mn c.pt c.all c av rv) 90 (0, 0)) ∧ Own w 3 1 av c.ats.length (c.ats.map (Value.int .i64)) ∧ Own w 3 1 rv c.rooms.length (c.rooms.map (Value.int .i64))

theorem MapAt.drewN {w : World} {mb : Nat} {c : Cfg} (h : MapAt w mb c) (n : Nat) : MapAt (w.drewN n) mb c := ⟨h.ok, h.at_⟩

theorem rooms_len {c : Cfg} : (c.rooms.length : Int) = c.nd := by unfold Cfg.rooms Cfg.cls Cfg.nd; rw [List.length_map, cells_len]
theorem ats_len {c : Cfg} : (c.ats.length : Int) = c.nd := by unfold Cfg.ats; rw [atsF_len, rooms_len]

structure CfgBd (c : Cfg) : Prop where
  nd : 1 ≤ c.nd ∧ c.nd ≤ 60
  mn : c.nd ≤ c.mn ∧ c.mn ≤ 1100
  pt : 0 ≤ c.pt ∧ c.pt ≤ 100
  hd : c.headP = 6 + c.mu
  dqP : c.dqP = 11 + c.mu
  pk : c.dqP ≤ c.pkP ∧ c.pkP ≤ 60
  n0 : c.pkP ≤ c.n0P ∧ c.n0P ≤ 7000
  al : c.n0P ≤ c.all ∧ c.all ≤ 9000

theorem cfg_bd {c : Cfg} (h : CfgOk c) : CfgBd c := by
  obtain ⟨h0, h1, h2, h3, h4, h5, h6, h7, h8, h9, h10, h11, h12⟩ := h
  have e0 : c.nd = sNodes c.c0 c.c1 c.c2 c.c3 c.c4 := rfl
  have hnd : 1 ≤ c.nd ∧ c.nd ≤ 60 := by
    have g0 := sBound_lo c.c0; have g1 := sBound_lo c.c1; have g2 := sBound_lo c.c2; have g3 := sBound_lo c.c3; have g4 := sBound_lo c.c4
    have k0 := sBound_hi c.c0; have k1 := sBound_hi c.c1; have k2 := sBound_hi c.c2; have k3 := sBound_hi c.c3; have k4 := sBound_hi c.c4
    rw [e0]; unfold sNodes at h12 ⊢; omega
  have hm := mSum_bd c.ch c.rooms h8.1 (rooms_bd c)
  have hr := rSum_bd c.rooms (rooms_bd c)
  have hl := rooms_len (c := c)
  have e1 : c.mn = c.nd + 2 * c.mr + c.mu + mSum c.ch c.rooms := rfl
  have e2 : c.pt = (c.nd + c.sw - 1) / c.sw := rfl
  have e3 : c.headP = 6 + c.mu := rfl
  have e4 : c.dqP = c.headP + 5 := rfl
  have e5 : c.pkP = c.dqP + c.mr * (2 + c.dq) := rfl
  have e6 : c.n0P = c.pkP + c.mn * 6 := rfl
  have e7 : c.all = c.n0P + rSum c.rooms := rfl
  have a1 := Int.mul_nonneg (show 0 ≤ c.mr by omega) (show 0 ≤ 2 + c.dq by omega)
  have a2 := Int.mul_le_mul (show c.mr ≤ 4 by omega) (show 2 + c.dq ≤ 10 by omega) (show 0 ≤ 2 + c.dq by omega) (show (0 : Int) ≤ 4 by omega)
  have a3 : 0 ≤ (c.nd + c.sw - 1) / c.sw := Int.ediv_nonneg (by omega) (by omega)
  have a4 : (c.nd + c.sw - 1) / c.sw ≤ c.nd + c.sw - 1 := Int.ediv_le_self c.sw (by omega)
  exact ⟨hnd, by omega, by omega, e3, by omega, by omega, by omega, by omega⟩

theorem sSlots_pos (k : Int) (h : 0 ≤ k ∧ k ≤ 4) : 1 ≤ sSlots k := by unfold sSlots; repeat' split <;> omega
theorem cls_bd (c : Cfg) (k : Int) (h : k ∈ c.cls) : 0 ≤ k ∧ k ≤ 4 := by
  unfold Cfg.cls at h
  rw [cPre5] at h
  simp only [List.mem_append, List.mem_replicate] at h
  omega
theorem rooms_pos (c : Cfg) (x : Int) (h : x ∈ c.rooms) : 1 ≤ x ∧ x ≤ 16 := by
  refine ⟨?_, (rooms_bd c x h).2⟩
  unfold Cfg.rooms at h
  obtain ⟨k, hk, rfl⟩ := List.mem_map.1 h
  exact sSlots_pos k (cls_bd c k hk)

def Cfg.ackAt (c : Cfg) (i : Int) : Int := if 0 ≤ i ∧ i < c.mu then 6 + i else -1
def Cfg.headAt (c : Cfg) (k : Int) : Int := if 0 ≤ k ∧ k < 5 then c.headP + k else -1
def Cfg.endAt (c : Cfg) (i j : Int) : Int := if 0 ≤ i ∧ i < c.mr then c.dqP + i * (2 + c.dq) + j else -1
def Cfg.packAt (c : Cfg) (p j : Int) : Int := if 1 ≤ p ∧ p ≤ c.mn then c.pkP + (p - 1) * 6 + j else -1
def Cfg.roomAt (c : Cfg) (v : Int) : Int := if 1 ≤ v ∧ v ≤ c.nd then c.rooms.getD (v.toNat - 1) 0 else 0
def Cfg.nodeAt (c : Cfg) (v j : Int) : Int := if 1 ≤ v ∧ v ≤ c.nd then c.ats.getD (v.toNat - 1) 0 + j else -1
def Cfg.entryAt (c : Cfg) (i j : Int) : Int := if 0 ≤ j ∧ j < c.dq then c.endAt i (2 + j) else -1
def Cfg.taskAt (c : Cfg) (p j : Int) : Int := if 0 ≤ j ∧ j < 4 then c.packAt p (2 + j) else -1
def Cfg.slotAt (c : Cfg) (v i : Int) : Int := if 0 ≤ i ∧ i < c.roomAt v then c.nodeAt v (4 + i) else -1

theorem room_get {c : Cfg} (v : Int) (h : 1 ≤ v ∧ v ≤ c.nd) : c.rooms[v.toNat - 1]? = some (c.roomAt v) := by
  have := rooms_len (c := c)
  unfold Cfg.roomAt
  rw [if_pos h]
  have hj : v.toNat - 1 < c.rooms.length := by omega
  simp only [List.getD, List.getElem?_eq_getElem hj, Option.getD_some]
theorem roomAt_pos {c : Cfg} (v : Int) (h : 1 ≤ v ∧ v ≤ c.nd) : 1 ≤ c.roomAt v ∧ c.roomAt v ≤ 16 := rooms_pos c _ (List.mem_of_getElem? (room_get v h))
theorem roomAt_no {c : Cfg} (v : Int) (h : ¬ (1 ≤ v ∧ v ≤ c.nd)) : c.roomAt v = 0 := if_neg h
theorem rSum_take_le : ∀ (l : List Int) (i : Nat), (∀ x ∈ l, 0 ≤ x ∧ x ≤ 16) → rSum (l.take i) ≤ rSum l
  | [], i, _ => by simp
  | n :: l, 0, h => by have := rSum_bd (n :: l) h; simp only [List.take_zero, rSum] at this ⊢; omega
  | n :: l, i + 1, h => by
    have := rSum_take_le l i fun x hx => h x (by simp [hx])
    simp only [List.take_succ_cons, rSum]; omega
theorem ats_get {c : Cfg} (v : Int) (h : 1 ≤ v ∧ v ≤ c.nd) : c.ats[v.toNat - 1]? = some (c.nodeAt v 0) := by
  have := ats_len (c := c)
  unfold Cfg.nodeAt
  rw [if_pos h]
  have hj : v.toNat - 1 < c.ats.length := by omega
  simp only [List.getD, List.getElem?_eq_getElem hj, Option.getD_some]
  congr 1; omega
theorem nodeAt_bd {c : Cfg} (hc : CfgOk c) (v : Int) (h : 1 ≤ v ∧ v ≤ c.nd) : c.n0P ≤ c.nodeAt v 0 ∧ c.nodeAt v 0 ≤ c.all := by
  have h1 := ats_get v h
  have hl := rooms_len (c := c)
  unfold Cfg.ats at h1
  rw [atsF_get _ _ _ (by omega)] at h1
  have h2 := Option.some.inj h1
  have h3 := rSum_bd (c.rooms.take (v.toNat - 1)) (fun x hx => rooms_bd c x (List.mem_of_mem_take hx))
  have h4 := rSum_take_le c.rooms (v.toNat - 1) (rooms_bd c)
  have e7 : c.all = c.n0P + rSum c.rooms := rfl
  omega
theorem nodeAt_j {c : Cfg} (v j : Int) (h : 1 ≤ v ∧ v ≤ c.nd) : c.nodeAt v j = c.nodeAt v 0 + j := by
  unfold Cfg.nodeAt; rw [if_pos h, if_pos h]; omega

theorem single_q {mb : Nat} (k : Int) (w : World) : Calls Try.prog 88 #[.pointer (some ⟨mb, 0, none⟩), .int .i64 k] w fun e w' => e = .returned (.int .i64 k) ∧ ∃ n, w' = w.drewN n := by
  go_enter Try.func88, Try.ntmps88
  go_wp2_with fail
  go_ret
  exact ⟨rfl, 0, rfl⟩

theorem Sweep_q {mb : Nat} {c : Cfg} {w : World} (h : MapAt w mb c) :
    Calls Try.prog 68 #[.pointer (some ⟨mb, 0, none⟩)] w fun e w' => e = .returned (.int .i64 2) ∧ ∃ n, w' = w.drewN n := by
  go_enter Try.func68, Try.ntmps68
  go_wp2_with (go_at_call 88; refine (single_q _ _).mono ?_; rintro e w1 ⟨rfl, dn, rfl⟩)
  go_ret
  exact ⟨rfl, _, rfl⟩

theorem Done_q {mb : Nat} {c : Cfg} {w : World} (h : MapAt w mb c) :
    Calls Try.prog 107 #[.pointer (some ⟨mb, 0, none⟩)] w fun e w' => e = .returned (.int .i64 3) ∧ ∃ n, w' = w.drewN n := by
  go_enter Try.func107, Try.ntmps107
  go_wp2_with (go_at_call 88; refine (single_q _ _).mono ?_; rintro e w1 ⟨rfl, dn, rfl⟩)
  go_ret
  exact ⟨rfl, _, rfl⟩

theorem Nodes_q {mb : Nat} {c : Cfg} {w : World} (h : MapAt w mb c) :
    Calls Try.prog 35 #[.pointer (some ⟨mb, 0, none⟩)] w fun e w' => e = .returned (.int .i64 c.nd) ∧ ∃ n, w' = w.drewN n := by
  obtain ⟨hok, av, rv, hb, ha, hr⟩ := h
  obtain ⟨bnd, bmn, bpt, bhd, bdq, bpk, bn0, bal⟩ := cfg_bd hok
  obtain ⟨o0, o1, o2, o3, o4, omr, omu, odq, och, obf, ort, osw, -⟩ := hok
  have bh2 : 7 ≤ c.headP ∧ c.headP ≤ 10 ∧ 12 ≤ c.dqP ∧ c.dqP ≤ 15 := by omega
  clear bhd bdq
  obtain ⟨m0, m1, m2, m3, m4, m5, m6, m7, m8, m9, m10, m11, m12, m13, m14, m15, m16, m17, m18, m19, m20, m21, m22, fm⟩ := row23 hb
  go_enter Try.func35, Try.ntmps35
  go_wp2_with fail
  go_ret
  exact ⟨rfl, 0, rfl⟩

theorem Parts_q {mb : Nat} {c : Cfg} {w : World} (h : MapAt w mb c) :
    Calls Try.prog 89 #[.pointer (some ⟨mb, 0, none⟩)] w fun e w' => e = .returned (.int .i64 c.pt) ∧ ∃ n, w' = w.drewN n := by
  obtain ⟨hok, av, rv, hb, ha, hr⟩ := h
  obtain ⟨bnd, bmn, bpt, bhd, bdq, bpk, bn0, bal⟩ := cfg_bd hok
  obtain ⟨o0, o1, o2, o3, o4, omr, omu, odq, och, obf, ort, osw, -⟩ := hok
  have bh2 : 7 ≤ c.headP ∧ c.headP ≤ 10 ∧ 12 ≤ c.dqP ∧ c.dqP ≤ 15 := by omega
  clear bhd bdq
  obtain ⟨m0, m1, m2, m3, m4, m5, m6, m7, m8, m9, m10, m11, m12, m13, m14, m15, m16, m17, m18, m19, m20, m21, m22, fm⟩ := row23 hb
  go_enter Try.func89, Try.ntmps89
  go_wp2_with fail
  go_ret
  exact ⟨rfl, 0, rfl⟩

theorem Common_q {mb : Nat} {c : Cfg} {w : World} (h : MapAt w mb c) :
    Calls Try.prog 58 #[.pointer (some ⟨mb, 0, none⟩)] w fun e w' => e = .returned (.int .i64 c.nd) ∧ ∃ n, w' = w.drewN n := by
  go_enter Try.func58, Try.ntmps58
  go_wp2_with (go_at_call 35; refine (Nodes_q h).mono ?_; rintro e w1 ⟨rfl, dn, rfl⟩)
  go_ret
  exact ⟨rfl, _, rfl⟩

theorem Head_q {mb : Nat} {c : Cfg} {w : World} (h : MapAt w mb c) (k : Int) :
    Calls Try.prog 19 #[.pointer (some ⟨mb, 0, none⟩), .int .i64 k] w fun e w' => e = .returned (.int .i64 (c.headAt k)) ∧ ∃ n, w' = w.drewN n := by
  obtain ⟨hok, av, rv, hb, ha, hr⟩ := h
  obtain ⟨bnd, bmn, bpt, bhd, bdq, bpk, bn0, bal⟩ := cfg_bd hok
  obtain ⟨o0, o1, o2, o3, o4, omr, omu, odq, och, obf, ort, osw, -⟩ := hok
  have bh2 : 7 ≤ c.headP ∧ c.headP ≤ 10 ∧ 12 ≤ c.dqP ∧ c.dqP ≤ 15 := by omega
  clear bhd bdq
  obtain ⟨m0, m1, m2, m3, m4, m5, m6, m7, m8, m9, m10, m11, m12, m13, m14, m15, m16, m17, m18, m19, m20, m21, m22, fm⟩ := row23 hb
  by_cases h0 : 0 ≤ k
  · by_cases h1 : k < 5
    · have E : c.headAt k = c.headP + k := by unfold Cfg.headAt; rw [if_pos (by omega)]
      have EE := Lib.hid E
      clear E
      go_enter Try.func19, Try.ntmps19
      go_wp2_with fail
      all_goals go_ret
      all_goals exact ⟨ret_int EE.out.symm, 0, rfl⟩
    · have E : c.headAt k = -1 := by unfold Cfg.headAt; rw [if_neg (by omega)]
      have EE := Lib.hid E
      clear E
      go_enter Try.func19, Try.ntmps19
      go_wp2_with fail
      go_ret
      exact ⟨ret_int EE.out.symm, 0, rfl⟩
  · have E : c.headAt k = -1 := by unfold Cfg.headAt; rw [if_neg (by omega)]
    have EE := Lib.hid E
    clear E
    go_enter Try.func19, Try.ntmps19
    go_wp2_with fail
    go_ret
    exact ⟨ret_int EE.out.symm, 0, rfl⟩

theorem packet_q {mb : Nat} {c : Cfg} {w : World} (h : MapAt w mb c) (p j : Int) (j0 : 0 ≤ j) (j1 : j ≤ 100) :
    Calls Try.prog 74 #[.pointer (some ⟨mb, 0, none⟩), .int .i64 p, .int .i64 j] w fun e w' => e = .returned (.int .i64 (c.packAt p j)) ∧ ∃ n, w' = w.drewN n := by
  obtain ⟨hok, av, rv, hb, ha, hr⟩ := h
  obtain ⟨bnd, bmn, bpt, bhd, bdq, bpk, bn0, bal⟩ := cfg_bd hok
  obtain ⟨o0, o1, o2, o3, o4, omr, omu, odq, och, obf, ort, osw, -⟩ := hok
  have bh2 : 7 ≤ c.headP ∧ c.headP ≤ 10 ∧ 12 ≤ c.dqP ∧ c.dqP ≤ 15 := by omega
  clear bhd bdq
  obtain ⟨m0, m1, m2, m3, m4, m5, m6, m7, m8, m9, m10, m11, m12, m13, m14, m15, m16, m17, m18, m19, m20, m21, m22, fm⟩ := row23 hb
  by_cases h0 : 1 ≤ p
  · by_cases h1 : p ≤ c.mn
    · have E : c.packAt p j = c.pkP + (p - 1) * 6 + j := by unfold Cfg.packAt; rw [if_pos (by omega)]
      have EE := Lib.hid E
      clear E
      go_enter Try.func74, Try.ntmps74
      go_wp2_with fail
      go_ret
      exact ⟨ret_int EE.out.symm, 0, rfl⟩
    · have E : c.packAt p j = -1 := by unfold Cfg.packAt; rw [if_neg (by omega)]
      have EE := Lib.hid E
      clear E
      go_enter Try.func74, Try.ntmps74
      go_wp2_with fail
      go_ret
      exact ⟨ret_int EE.out.symm, 0, rfl⟩
  · have E : c.packAt p j = -1 := by unfold Cfg.packAt; rw [if_neg (by omega)]
    have EE := Lib.hid E
    clear E
    go_enter Try.func74, Try.ntmps74
    go_wp2_with fail
    go_ret
    exact ⟨ret_int EE.out.symm, 0, rfl⟩

theorem Link_q {mb : Nat} {c : Cfg} {w : World} (h : MapAt w mb c) (p : Int) :
    Calls Try.prog 57 #[.pointer (some ⟨mb, 0, none⟩), .int .i64 p] w fun e w' => e = .returned (.int .i64 (c.packAt p 1)) ∧ ∃ n, w' = w.drewN n := by
  go_enter Try.func57, Try.ntmps57
  go_wp2_with (go_at_call 74; refine (packet_q h p 1 (by omega) (by omega)).mono ?_; rintro e w1 ⟨rfl, dn, rfl⟩)
  go_ret
  exact ⟨rfl, _, rfl⟩

theorem Room_q {mb : Nat} {c : Cfg} {w : World} (h : MapAt w mb c) (v : Int) :
    Calls Try.prog 36 #[.pointer (some ⟨mb, 0, none⟩), .int .i64 v] w fun e w' => e = .returned (.int .i64 (c.roomAt v)) ∧ ∃ n, w' = w.drewN n := by
  obtain ⟨hok, av, rv, hb, ha, hr⟩ := h
  obtain ⟨bnd, bmn, bpt, bhd, bdq, bpk, bn0, bal⟩ := cfg_bd hok
  obtain ⟨o0, o1, o2, o3, o4, omr, omu, odq, och, obf, ort, osw, -⟩ := hok
  have bh2 : 7 ≤ c.headP ∧ c.headP ≤ 10 ∧ 12 ≤ c.dqP ∧ c.dqP ≤ 15 := by omega
  clear bhd bdq
  obtain ⟨m0, m1, m2, m3, m4, m5, m6, m7, m8, m9, m10, m11, m12, m13, m14, m15, m16, m17, m18, m19, m20, m21, m22, fm⟩ := row23 hb
  have hrl := rooms_len (c := c)
  by_cases h0 : 1 ≤ v
  · by_cases h1 : v ≤ c.nd
    · have hg := room_get v ⟨h0, h1⟩
      obtain ⟨g, off, rc, rfl, -, -, -, hcell, hfr⟩ := own_at hr (by omega)
      have hc := hcell (v.toNat - 1) (.int .i64 (c.roomAt v)) (by rw [List.getElem?_map, hg]; rfl)
      have hq : v - 1 < (c.rooms.length : Int) := by omega
      have hq0 : 0 ≤ v - 1 := by omega
      clear hcell hfr hg hrl
      go_enter Try.func36, Try.ntmps36
      go_wp2_with fail
      go_ret
      exact ⟨rfl, 0, rfl⟩
    · have E : c.roomAt v = 0 := roomAt_no v (by omega)
      have EE := Lib.hid E
      clear E hrl
      go_enter Try.func36, Try.ntmps36
      go_wp2_with fail
      go_ret
      exact ⟨ret_int EE.out.symm, 0, rfl⟩
  · have E : c.roomAt v = 0 := roomAt_no v (by omega)
    have EE := Lib.hid E
    clear E hrl
    go_enter Try.func36, Try.ntmps36
    go_wp2_with fail
    go_ret
    exact ⟨ret_int EE.out.symm, 0, rfl⟩

theorem node_q {mb : Nat} {c : Cfg} {w : World} (h : MapAt w mb c) (v j : Int) (j0 : 0 ≤ j) (j1 : j ≤ 100) :
    Calls Try.prog 63 #[.pointer (some ⟨mb, 0, none⟩), .int .i64 v, .int .i64 j] w fun e w' => e = .returned (.int .i64 (c.nodeAt v j)) ∧ ∃ n, w' = w.drewN n := by
  have h' := h
  obtain ⟨hok, av, rv, hb, ha, hr⟩ := h
  obtain ⟨bnd, bmn, bpt, bhd, bdq, bpk, bn0, bal⟩ := cfg_bd hok
  obtain ⟨o0, o1, o2, o3, o4, omr, omu, odq, och, obf, ort, osw, -⟩ := hok
  have bh2 : 7 ≤ c.headP ∧ c.headP ≤ 10 ∧ 12 ≤ c.dqP ∧ c.dqP ≤ 15 := by omega
  clear bhd bdq
  obtain ⟨m0, m1, m2, m3, m4, m5, m6, m7, m8, m9, m10, m11, m12, m13, m14, m15, m16, m17, m18, m19, m20, m21, m22, fm⟩ := row23 hb
  have hal := ats_len (c := c)
  by_cases h0 : 1 ≤ v ∧ v ≤ c.nd
  · have hg := ats_get v h0
    have hnb := nodeAt_bd h'.ok v h0
    have hrp := roomAt_pos v h0
    have hr0 : (c.roomAt v == 0) = false := by simp; omega
    have EE := Lib.hid (nodeAt_j v j h0)
    obtain ⟨h0a, h0b⟩ := h0
    obtain ⟨g, off, rc, rfl, -, -, -, hcell, hfr⟩ := own_at ha (by omega)
    have hc := hcell (v.toNat - 1) (.int .i64 (c.nodeAt v 0)) (by rw [List.getElem?_map, hg]; rfl)
    have hq : v - 1 < (c.ats.length : Int) := by omega
    have hq0 : 0 ≤ v - 1 := by omega
    clear hcell hfr hg hal
    go_enter Try.func63, Try.ntmps63
    go_wp2_with (go_at_call 36; refine (Room_q h' v).mono ?_; rintro e w1 ⟨rfl, dn, rfl⟩)
    go_ret
    exact ⟨ret_int EE.out.symm, _, rfl⟩
  · have E : c.nodeAt v j = -1 := by unfold Cfg.nodeAt; rw [if_neg h0]
    have EE := Lib.hid E
    have RR := roomAt_no v h0
    clear E hal h0
    go_enter Try.func63, Try.ntmps63
    go_wp2_with (go_at_call 36; refine (Room_q h' v).mono ?_; rintro e w1 ⟨rfl, dn, rfl⟩)
    go_ret
    exact ⟨ret_int EE.out.symm, _, rfl⟩

theorem Header_q {mb : Nat} {c : Cfg} {w : World} (h : MapAt w mb c) (v : Int) :
    Calls Try.prog 41 #[.pointer (some ⟨mb, 0, none⟩), .int .i64 v] w fun e w' => e = .returned (.int .i64 (c.nodeAt v 0)) ∧ ∃ n, w' = w.drewN n := by
  go_enter Try.func41, Try.ntmps41
  go_wp2_with (go_at_call 63; refine (node_q h v 0 (by omega) (by omega)).mono ?_; rintro e w1 ⟨rfl, dn, rfl⟩)
  go_ret
  exact ⟨rfl, _, rfl⟩

theorem State_q {mb : Nat} {c : Cfg} {w : World} (h : MapAt w mb c) (v : Int) :
    Calls Try.prog 39 #[.pointer (some ⟨mb, 0, none⟩), .int .i64 v] w fun e w' => e = .returned (.int .i64 (c.nodeAt v 1)) ∧ ∃ n, w' = w.drewN n := by
  go_enter Try.func39, Try.ntmps39
  go_wp2_with (go_at_call 63; refine (node_q h v 1 (by omega) (by omega)).mono ?_; rintro e w1 ⟨rfl, dn, rfl⟩)
  go_ret
  exact ⟨rfl, _, rfl⟩

theorem Mark_q {mb : Nat} {c : Cfg} {w : World} (h : MapAt w mb c) (v : Int) :
    Calls Try.prog 40 #[.pointer (some ⟨mb, 0, none⟩), .int .i64 v] w fun e w' => e = .returned (.int .i64 (c.nodeAt v 2)) ∧ ∃ n, w' = w.drewN n := by
  go_enter Try.func40, Try.ntmps40
  go_wp2_with (go_at_call 63; refine (node_q h v 2 (by omega) (by omega)).mono ?_; rintro e w1 ⟨rfl, dn, rfl⟩)
  go_ret
  exact ⟨rfl, _, rfl⟩

theorem Next_q {mb : Nat} {c : Cfg} {w : World} (h : MapAt w mb c) (v : Int) :
    Calls Try.prog 43 #[.pointer (some ⟨mb, 0, none⟩), .int .i64 v] w fun e w' => e = .returned (.int .i64 (c.nodeAt v 3)) ∧ ∃ n, w' = w.drewN n := by
  go_enter Try.func43, Try.ntmps43
  go_wp2_with (go_at_call 63; refine (node_q h v 3 (by omega) (by omega)).mono ?_; rintro e w1 ⟨rfl, dn, rfl⟩)
  go_ret
  exact ⟨rfl, _, rfl⟩

theorem Slot_q {mb : Nat} {c : Cfg} {w : World} (h : MapAt w mb c) (v i : Int) :
    Calls Try.prog 24 #[.pointer (some ⟨mb, 0, none⟩), .int .i64 v, .int .i64 i] w fun e w' => e = .returned (.int .i64 (c.slotAt v i)) ∧ ∃ n, w' = w.drewN n := by
  have hb : c.roomAt v ≤ 16 := by
    by_cases h0 : 1 ≤ v ∧ v ≤ c.nd
    · exact (roomAt_pos v h0).2
    · rw [roomAt_no v h0]; decide
  by_cases h0 : 0 ≤ i
  · by_cases h1 : i < c.roomAt v
    · have E : c.slotAt v i = c.nodeAt v (4 + i) := by unfold Cfg.slotAt; rw [if_pos (by omega)]
      have EE := Lib.hid E
      clear E
      go_enter Try.func24, Try.ntmps24
      go_wp2_with (first | (go_at_call 36; refine (Room_q h v).mono ?_; rintro e w1 ⟨rfl, dn, rfl⟩) | (go_at_call 63; refine (node_q (h.drewN _) v (4 + i) (by omega) (by omega)).mono ?_; rintro e w2 ⟨rfl, dm, rfl⟩))
      go_ret
      exact ⟨ret_int EE.out.symm, _, rfl⟩
    · have E : c.slotAt v i = -1 := by unfold Cfg.slotAt; rw [if_neg (by omega)]
      have EE := Lib.hid E
      clear E
      go_enter Try.func24, Try.ntmps24
      go_wp2_with (go_at_call 36; refine (Room_q h v).mono ?_; rintro e w1 ⟨rfl, dn, rfl⟩)
      go_ret
      exact ⟨ret_int EE.out.symm, _, rfl⟩
  · have E : c.slotAt v i = -1 := by unfold Cfg.slotAt; rw [if_neg (by omega)]
    have EE := Lib.hid E
    clear E
    go_enter Try.func24, Try.ntmps24
    go_wp2_with fail
    go_ret
    exact ⟨ret_int EE.out.symm, 0, rfl⟩


end Go.Proofs.Ytmiaghbakdapbaa

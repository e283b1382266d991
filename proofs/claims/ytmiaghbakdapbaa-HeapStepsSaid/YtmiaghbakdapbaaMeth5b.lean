/- Configurations as the reference has them, its Check; parts and classes of a map; the document's example. Conditions: the map is there. -/
import Derived.Test.YtmiaghbakdapbaaMeth5
set_option linter.unusedVariables false
namespace Go.Proofs.Ytmiaghbakdapbaa
open Go.ChangeShapes Go.WideShapes Go.ChangeAt Go.RowKit

theorem below_drew5 {n0 : Nat} {w0 w : World} (h : Below n0 w0 w) : Below n0 w0 w.drew := below_drewN h 1

theorem RIn_c (n lo hi : Int) (w : World) : Calls Try.prog 70 #[.int .i64 n, .int .i64 lo, .int .i64 hi] w fun e w' => e = .returned (.bool (inB n lo hi)) ∧ ∃ m, w' = w.drewN m := by
  by_cases h0 : lo ≤ n
  · by_cases h1 : n ≤ hi
    · have E : inB n lo hi = true := inB_iff.2 ⟨h0, h1⟩
      rw [E]
      clear E
      go_enter Try.func70, Try.ntmps70
      go_wp2
      go_ret
      exact ⟨rfl, 0, rfl⟩
    · have E : inB n lo hi = false := by simp [inB, h1]
      rw [E]
      clear E
      go_enter Try.func70, Try.ntmps70
      go_wp2
      go_ret
      exact ⟨rfl, 0, rfl⟩
  · have E : inB n lo hi = false := by simp [inB, h0]
    rw [E]
    clear E
    go_enter Try.func70, Try.ntmps70
    go_wp2
    go_ret
    exact ⟨rfl, 0, rfl⟩

def cellsL (c : Cfg) : List Int := [c.c0, c.c1, c.c2, c.c3, c.c4]
/-- Has one of the first classes a cell? -/
def someB (l : List Int) (k : Nat) : Bool := (l.take k).any (fun x => decide (0 < x))
theorem someB_step (l : List Int) (k : Nat) (x : Int) (h : l[k]? = some x) : someB l (k + 1) = (someB l k || decide (0 < x)) := by
  unfold someB
  rw [take_snoc1 l k x h, List.any_append]
  simp
def allB (l : List Int) (k : Nat) : Bool := (l.take k).all (fun x => inB x 0 12)
theorem allB_step (l : List Int) (k : Nat) (x : Int) (h : l[k]? = some x) : allB l (k + 1) = (allB l k && inB x 0 12) := by
  unfold allB
  rw [take_snoc1 l k x h, List.all_append]
  simp
theorem cfgOk_parts (c : Cfg) : cfgOk c = (allB (cellsL c) 5 && someB (cellsL c) 5 && (inB c.mr 1 4 && inB c.mu 1 4 && inB c.dq 2 8 && inB c.ch 1 16) && (inB c.bf 1 4 && inB c.rt 1 8 && inB c.sw 1 16)) := by
  have hs : allB (cellsL c) 5 = true → (!(sNodes c.c0 c.c1 c.c2 c.c3 c.c4 == 0)) = someB (cellsL c) 5 := by
    intro h
    simp only [allB, cellsL, List.take_succ_cons, List.take_zero, List.all_cons, List.all_nil, Bool.and_true, Bool.and_eq_true, inB_iff] at h
    rw [Bool.eq_iff_iff]
    simp only [someB, cellsL, List.take_succ_cons, List.take_zero, List.any_cons, List.any_nil, Bool.or_false, Bool.or_eq_true, decide_eq_true_eq, Bool.not_eq_true', beq_eq_false_iff_ne, ne_eq, sNodes]
    rw [sBound_mid _ h.1.1 h.1.2, sBound_mid _ h.2.1.1 h.2.1.2, sBound_mid _ h.2.2.1.1 h.2.2.1.2, sBound_mid _ h.2.2.2.1.1 h.2.2.2.1.2, sBound_mid _ h.2.2.2.2.1 h.2.2.2.2.2]
    omega
  have ha : allB (cellsL c) 5 = (inB c.c0 0 12 && inB c.c1 0 12 && inB c.c2 0 12 && inB c.c3 0 12 && inB c.c4 0 12) := by
    simp [allB, cellsL, Bool.and_assoc]
  unfold cfgOk
  rw [← ha]
  cases h : allB (cellsL c) 5
  · simp
  · rw [← hs h]
    cases (!(sNodes c.c0 c.c1 c.c2 c.c3 c.c4 == 0)) <;> simp [Bool.and_assoc]

def errB (b : Bool) : Int := bif b then 0 else 21

set_option maxRecDepth 100000 in
set_option maxHeartbeats 4000000 in
theorem RCheck_c (c : Cfg) (w : World) : Calls Try.prog 50 #[cfgV c] w fun e w' => e = .returned (.int .i64 (errB (cfgOk c))) ∧ Below w.heap.size w w' := by
  have HP := Lib.hid (cfgOk_parts c)
  generalize hR : errB (cfgOk c) = R
  have HR := Lib.hid hR
  clear hR
  unfold cfgV cfgCells
  go_enter Try.func50, Try.ntmps50
  have G0 := (Has.nil w).blkNew (cfgCells c) 52
  go_wp2_with fail
  go_loopw [3, 4] (fun sv kv wr => ∃ (k : Nat) (S : Bool), k ≤ 5 ∧ kv = .int .i64 k ∧ sv = .bool S ∧ S = someB (cellsL c) k ∧ allB (cellsL c) k = true ∧ Has w wr [blkC _ w.heap.size (cfgCells c) 52]) (fun _ kv _ => 5 - (intOf kv).toNat)
  case atStart => exact ⟨0, false, by omega, rfl, rfl, rfl, rfl, G0⟩
  case round =>
    obtain ⟨k, S, hk, rfl, rfl, hS, hall, G⟩ := hrel
    have B := G.get 0 rfl
    have HS := Lib.hid (And.intro hS hall)
    clear hS hall G0
    by_cases hlt : k < 5
    · have hk5 : (k : Int) < 5 := by omega
      obtain ⟨x, hx⟩ : ∃ x, (cellsL c)[k]? = some x := ⟨(cellsL c)[k]'(by simpa [cellsL] using hlt), by simp⟩
      have hck : wr.cell? ⟨w.heap.size, k, none⟩ = some (.int .i64 x) := by
        rw [blk_cell B]
        match k, hlt, hx with
        | 0, _, hx => cases hx; rfl
        | 1, _, hx => cases hx; rfl
        | 2, _, hx => cases hx; rfl
        | 3, _, hx => cases hx; rfl
        | 4, _, hx => cases hx; rfl
      have hs1 := someB_step _ _ _ hx
      have ha1 := allB_step _ _ _ hx
      have HST := Lib.hid (And.intro hs1 (And.intro ha1 hx))
      clear hs1 ha1 hx B
      cases hin : inB x 0 12
      · have hno : allB (cellsL c) 5 = false := by
          have h1 : allB (cellsL c) (k + 1) = false := by rw [HST.out.2.1, hin]; simp
          unfold allB at h1 ⊢
          rw [List.all_eq_false] at h1 ⊢
          obtain ⟨y, hy, hy2⟩ := h1
          exact ⟨y, List.mem_of_mem_take (List.take_subset_take_left _ (by omega : k + 1 ≤ 5) hy) |> fun h => by rw [List.take_of_length_le (by simp [cellsL])]; exact h, hy2⟩
        have hR0 : R = 21 := by rw [← HR.out, HP.out, hno]; rfl
        have HR0 := Lib.hid hR0
        clear hno hR0
        go_wp2_with (go_at_call 70; refine (RIn_c _ _ _ _).mono ?_; rw [hin]; rintro e w1 ⟨rfl, n1, rfl⟩)
        go_ret
        exact ⟨ret_int HR0.out.symm, below_drewN G.below _⟩
      · cases S with
        | true =>
          go_wp2_with (go_at_call 70; refine (RIn_c _ _ _ _).mono ?_; rw [hin]; rintro e w1 ⟨rfl, n1, rfl⟩)
          go_roundw
          case rel => exact ⟨k + 1, true, by omega, by go_num, rfl, by rw [HST.out.1, ← HS.out.1]; rfl, by rw [HST.out.2.1, HS.out.2, hin]; rfl, G.drewN _⟩
          case measure => simp [intOf]; omega
        | false =>
          go_wp2_with (go_at_call 70; refine (RIn_c _ _ _ _).mono ?_; rw [hin]; rintro e w1 ⟨rfl, n1, rfl⟩)
          go_roundw
          case rel => exact ⟨k + 1, decide (0 < x), by omega, by go_num, rfl, by rw [HST.out.1, ← HS.out.1]; rfl, by rw [HST.out.2.1, HS.out.2, hin]; rfl, G.drewN _⟩
          case measure => simp [intOf]; omega
    · have hk5 : ¬ (k : Int) < 5 := by omega
      obtain rfl : k = 5 := by omega
      obtain ⟨b0, b1, b2, b3, b4, b5, b6, b7, b8, b9, b10, b11, fb⟩ := row12 B
      have hR2 : R = errB (S && (inB c.mr 1 4 && inB c.mu 1 4 && inB c.dq 2 8 && inB c.ch 1 16) && (inB c.bf 1 4 && inB c.rt 1 8 && inB c.sw 1 16)) := by
        rw [← HR.out, HP.out, HS.out.2, ← HS.out.1]; rfl
      have HR2 := Lib.hid hR2
      clear hR2 B
      go_wp2_with (go_at_call 70; refine (RIn_c _ _ _ _).mono ?_; rintro e w1 ⟨rfl, n1, rfl⟩)
      all_goals go_ret
      all_goals refine ⟨ret_int ?_, below_drewN G.below _⟩
      all_goals (rw [HR2.out]; first | (simp [errB, *]; done) | (have hq : inB c.sw 1 16 = false := (by have := ‹(!inB c.sw 1 16) = true›; simpa using this); simp [errB, *]; done) | (have hq : inB c.sw 1 16 = true := (by have := ‹(!inB c.sw 1 16) = false›; simpa using this); simp [errB, *]; done) | (have hq : inB c.sw 1 16 = true := (by have := ‹¬ (!inB c.sw 1 16) = true›; simpa using this); simp [errB, *]))

theorem Has.mapAt {w0 w : World} {cs : List (Chunk w0.heap.size)} (H : Has w0 w cs) (i : Nat) {mb : Nat} {av rv : Value} {c : Cfg} (hi : cs[i]? = some (mapC _ mb av rv c)) (h : CfgOk c) : MapAt w mb c := ⟨h, av, rv, H.get i hi⟩

def exC : Cfg := ⟨1, 0, 0, 0, 0, 1, 1, 2, 1, 1, 1, 1⟩
theorem exC_ok : CfgOk exC := (cfgOk_iff exC).1 (by rfl)

def Cfg.partLo (c : Cfg) (j : Int) : Int := if 0 ≤ j ∧ j < c.pt then j * c.sw + 1 else 0
def Cfg.partHi (c : Cfg) (j : Int) : Int := if 0 ≤ j ∧ j < c.pt then (if (j + 1) * c.sw ≤ c.nd then (j + 1) * c.sw else c.nd) else -1

theorem ret_ints {a b c d : Int} (h : a = c) (h' : b = d) : Ending.returned (.tuple #[.int .i64 a, .int .i64 b]) = .returned (.tuple #[.int .i64 c, .int .i64 d]) := by rw [h, h']

theorem Part_q {mb : Nat} {c : Cfg} {w : World} (h : MapAt w mb c) (j : Int) :
    Calls Try.prog 96 #[.pointer (some ⟨mb, 0, none⟩), .int .i64 j] w fun e w' => e = .returned (.tuple #[.int .i64 (c.partLo j), .int .i64 (c.partHi j)]) ∧ ∃ n, w' = w.drewN n := by
  have h' := h
  obtain ⟨hok, av, rv, hb, ha, hr⟩ := h
  obtain ⟨bnd, bmn, bpt, bhd, bdq, bpk, bn0, bal⟩ := cfg_bd hok
  obtain ⟨o0, o1, o2, o3, o4, omr, omu, odq, och, obf, ort, osw, -⟩ := hok
  clear bhd bdq
  obtain ⟨m0, m1, m2, m3, m4, m5, m6, m7, m8, m9, m10, m11, m12, m13, m14, m15, m16, m17, m18, m19, m20, m21, m22, fm⟩ := row23 hb
  by_cases h0 : 0 ≤ j
  · by_cases h1 : j < c.pt
    · have E1 : c.partLo j = j * c.sw + 1 := by unfold Cfg.partLo; rw [if_pos ⟨h0, h1⟩]
      have p0 : 0 ≤ j * c.sw := Int.mul_nonneg h0 (by omega)
      have p1 : j * c.sw ≤ 100 * 16 := Int.mul_le_mul (by omega) (by omega) (by omega) (by omega)
      have p2 : 0 ≤ (j + 1) * c.sw := Int.mul_nonneg (by omega) (by omega)
      have p3 : (j + 1) * c.sw ≤ 101 * 16 := Int.mul_le_mul (by omega) (by omega) (by omega) (by omega)
      have s1 : IntKind.i64.wrap (j * c.sw) = j * c.sw := wrapi64_id _ (by omega) (by omega)
      have s2 : IntKind.i64.wrap (j * c.sw + 1) = j * c.sw + 1 := wrapi64_id _ (by omega) (by omega)
      have s3 : IntKind.i64.wrap (j + 1) = j + 1 := wrapi64_id _ (by omega) (by omega)
      have s4 : IntKind.i64.wrap ((j + 1) * c.sw) = (j + 1) * c.sw := wrapi64_id _ (by omega) (by omega)
      by_cases h2 : (j + 1) * c.sw ≤ c.nd
      · have E2 : c.partHi j = (j + 1) * c.sw := by unfold Cfg.partHi; rw [if_pos ⟨h0, h1⟩, if_pos h2]
        have EE := Lib.hid (And.intro E1 E2)
        clear E1 E2
        go_enter Try.func96, Try.ntmps96
        go_wp2_with (go_at_call 89; refine (Parts_q h').mono ?_; rintro e w1 ⟨rfl, dn, rfl⟩)
        go_quiet (fail)
        go_wp2_with fail
        all_goals go_ret2
        all_goals exact ⟨ret_ints EE.out.1.symm EE.out.2.symm, _, by first | rfl | exact World.drewN_drewN _ _ _⟩
      · have E2 : c.partHi j = c.nd := by unfold Cfg.partHi; rw [if_pos ⟨h0, h1⟩, if_neg h2]
        have EE := Lib.hid (And.intro E1 E2)
        clear E1 E2
        go_enter Try.func96, Try.ntmps96
        go_wp2_with (go_at_call 89; refine (Parts_q h').mono ?_; rintro e w1 ⟨rfl, dn, rfl⟩)
        go_quiet (fail)
        go_wp2_with fail
        all_goals go_ret2
        all_goals exact ⟨ret_ints EE.out.1.symm EE.out.2.symm, _, by first | rfl | exact World.drewN_drewN _ _ _⟩
    · have E1 : c.partLo j = 0 := by unfold Cfg.partLo; rw [if_neg (by omega)]
      have E2 : c.partHi j = -1 := by unfold Cfg.partHi; rw [if_neg (by omega)]
      have EE := Lib.hid (And.intro E1 E2)
      clear E1 E2
      go_enter Try.func96, Try.ntmps96
      go_wp2_with (go_at_call 89; refine (Parts_q h').mono ?_; rintro e w1 ⟨rfl, dn, rfl⟩)
      go_ret2
      exact ⟨ret_ints EE.out.1.symm EE.out.2.symm, _, rfl⟩
  · have E1 : c.partLo j = 0 := by unfold Cfg.partLo; rw [if_neg (by omega)]
    have E2 : c.partHi j = -1 := by unfold Cfg.partHi; rw [if_neg (by omega)]
    have EE := Lib.hid (And.intro E1 E2)
    clear E1 E2
    go_enter Try.func96, Try.ntmps96
    go_wp2_with fail
    go_ret2
    exact ⟨ret_ints EE.out.1.symm EE.out.2.symm, 0, rfl⟩

theorem MClass_c {mb : Nat} {c : Cfg} {w : World} (h : MapAt w mb c) (v : Int) (hv : v ≤ 9223372036854775807) :
    Calls Try.prog 38 #[.pointer (some ⟨mb, 0, none⟩), .int .i64 v] w fun e w' => e = .returned (.int .i64 (sClass c.c0 c.c1 c.c2 c.c3 c.c4 v)) ∧ Below w.heap.size w w' := by
  obtain ⟨hok, av, rv, hb, ha, hr⟩ := h
  obtain ⟨m0, m1, m2, m3, m4, m5, m6, m7, m8, m9, m10, m11, m12, m13, m14, m15, m16, m17, m18, m19, m20, m21, m22, fm⟩ := row23 hb
  go_enter Try.func38, Try.ntmps38
  go_wp2_with fail
  refine (Class_c c.c0 c.c1 c.c2 c.c3 c.c4 v hv _).mono ?_
  rintro e w1 ⟨rfl, b1⟩
  go_wp2_with fail
  go_ret
  exact ⟨rfl, b1⟩

end Go.Proofs.Ytmiaghbakdapbaa

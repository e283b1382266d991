/- The walk of DequeAlone: it answers true, and nothing that was there is changed. No condition but that the arguments can be read. -/
import Derived.Test.YtlmmaijbppdckaaLaw8a
set_option linter.unusedVariables false
set_option linter.unusedSimpArgs false
namespace Go.Proofs.Ytlmmaijbppdckaa
open Go.ChangeShapes Go.WideShapes Go.ChangeAt Go.RowKit

section
variable {w0 w : World} {cs : List (Chunk w0.heap.size)} (H : Has w0 w cs)
include H
theorem Push_N (N : Nat) (x : Int) : Calls Try.prog 11 #[.agg #[.int .i64 0, .int .i64 1, .int .i64 2, .int .i64 N], .int .u64 x] w fun r w' => ∃ xb, r = .returned (.pointer (some ⟨xb, 0, none⟩)) ∧ Has w0 w' (cs ++ [dqC _ xb (en N) (dqPush x)]) := Push_h H (en N) x
theorem Pop_N (N : Nat) : Calls Try.prog 12 #[.agg #[.int .i64 0, .int .i64 1, .int .i64 2, .int .i64 N]] w fun r w' => ∃ xb, r = .returned (.pointer (some ⟨xb, 0, none⟩)) ∧ Has w0 w' (cs ++ [dqC _ xb (en N) dqPop]) := Pop_h H (en N)
theorem Steal_N (N : Nat) : Calls Try.prog 13 #[.agg #[.int .i64 0, .int .i64 1, .int .i64 2, .int .i64 N]] w fun r w' => ∃ xb, r = .returned (.pointer (some ⟨xb, 0, none⟩)) ∧ Has w0 w' (cs ++ [dqC _ xb (en N) dqSteal]) := Steal_h H (en N)
end
theorem enN_ok {N : Nat} (h : N ≤ 8) : EnOk (en N) := ⟨by show -1000 ≤ (2 : Int); decide, by show (2 : Int) ≤ 1000; decide, by show (N : Int) ≤ 1000; omega, by show _ ≤ (N : Int); omega⟩

/-- Memory is the deque of the words q. -/
structure Aln (N i : Nat) (s q : List Int) : Prop where
  ws : Wds s
  rep : ∃ a, a ≤ i ∧ Rep N 0 s a q
theorem fitsN {N : Nat} (h1 : 1 ≤ N) (h8 : N ≤ 8) : Fits N 0 := ⟨h1, h8, by decide, by decide, .inr rfl⟩
theorem aln_0 (N : Nat) : Aln N 0 (List.replicate (2 + N) 0) [] := by
  have z : ∀ k : Int, mld (List.replicate (2 + N) 0) k = 0 := fun k => by
    by_cases hk : 0 ≤ k ∧ k < ((List.replicate (2 + N) (0 : Int)).length : Int)
    · rw [mld_in hk]
      have : k.toNat < (List.replicate (2 + N) (0 : Int)).length := by omega
      simp only [List.getD, List.getElem?_eq_getElem this, Option.getD_some, List.getElem_replicate]
    · exact mld_out hk
  refine ⟨fun x hx => by have := (List.mem_replicate.1 hx).2; omega, 0, Nat.le_refl 0, by simp, by rw [z]; rfl, by rw [z]; rfl, by simp, by simp⟩

theorem aln_push {N i : Nat} (h1 : 1 ≤ N) (h8 : N ≤ 8) (hi : i ≤ 900) {s q : List Int} (A : Aln N i s q) (x : Int) (x0 : 0 ≤ x) (x1 : x < 18446744073709551616) :
    (q.length = N → ∃ s', dqRun (en N) 8 (s, dqPush x) = s' ∧ (dqOut s'.2 = 2 ∧ dqW s'.2 = 0) ∧ Aln N (i + 1) s'.1 q) ∧ (q.length < N → ∃ s', dqRun (en N) 8 (s, dqPush x) = s' ∧ (dqOut s'.2 = 1 ∧ dqW s'.2 = 0) ∧ Aln N (i + 1) s'.1 (q ++ [x])) ∧ q.length ≤ N := by
  obtain ⟨ws, a, ha, R⟩ := A
  have g := dqRun_ok (en N) 8 s (dqPush x) ws (push_ok8 x x0 x1)
  refine ⟨fun h => ?_, fun h => ?_, R.room⟩
  · obtain ⟨s', e, c, r⟩ := (rep_push (fitsN h1 h8) R (by omega) x).1 h
    rw [e] at g
    exact ⟨s', e, comes_out c, g.1, a, by omega, by rw [r]; exact R⟩
  · obtain ⟨s', e, c, r⟩ := (rep_push (fitsN h1 h8) R (by omega) x).2 h
    rw [e] at g
    exact ⟨s', e, comes_out c, g.1, a, by omega, r⟩
theorem aln_pop {N i : Nat} (h1 : 1 ≤ N) (h8 : N ≤ 8) (hi : i ≤ 900) {s q : List Int} (A : Aln N i s q) :
    (q = [] → ∃ s', dqRun (en N) 8 (s, dqPop) = s' ∧ (dqOut s'.2 = 3 ∧ dqW s'.2 = 0) ∧ Aln N (i + 1) s'.1 []) ∧ (∀ p y, q = p ++ [y] → ∃ s', dqRun (en N) 8 (s, dqPop) = s' ∧ (dqOut s'.2 = 1 ∧ dqW s'.2 = y) ∧ Aln N (i + 1) s'.1 p) := by
  obtain ⟨ws, a, ha, R⟩ := A
  have g := dqRun_ok (en N) 8 s dqPop ws pop_ok8
  refine ⟨fun h => ?_, fun p y h => ?_⟩
  · obtain ⟨s', e, c, r⟩ := (rep_pop (fitsN h1 h8) R (by omega)).1 h
    rw [e] at g
    exact ⟨s', e, comes_out c, g.1, a, by omega, r⟩
  · obtain ⟨s', e, c, r⟩ := (rep_pop (fitsN h1 h8) R (by omega)).2 y p h
    rw [e] at g
    exact ⟨s', e, comes_out c, g.1, _, by cases p.isEmpty <;> simp only [cond_true, cond_false] <;> omega, r⟩
theorem aln_steal {N i : Nat} (h1 : 1 ≤ N) (h8 : N ≤ 8) (hi : i ≤ 900) {s q : List Int} (A : Aln N i s q) :
    (q = [] → ∃ s', dqRun (en N) 8 (s, dqSteal) = s' ∧ (dqOut s'.2 = 3 ∧ dqW s'.2 = 0) ∧ Aln N (i + 1) s'.1 []) ∧ (∀ y p, q = y :: p → ∃ s', dqRun (en N) 8 (s, dqSteal) = s' ∧ (dqOut s'.2 = 1 ∧ dqW s'.2 = y) ∧ Aln N (i + 1) s'.1 p) := by
  obtain ⟨ws, a, ha, R⟩ := A
  have g := dqRun_ok (en N) 8 s dqSteal ws steal_ok8
  refine ⟨fun h => ?_, fun y p h => ?_⟩
  · obtain ⟨s', e, c, r⟩ := (rep_steal (fitsN h1 h8) R (by omega)).1 h
    rw [e] at g
    exact ⟨s', e, comes_out c, g.1, a, by omega, r⟩
  · obtain ⟨s', e, c, r⟩ := (rep_steal (fitsN h1 h8) R (by omega)).2 y p h
    rw [e] at g
    exact ⟨s', e, comes_out c, g.1, a + 1, by omega, r⟩

theorem own_none {w : World} {e : TypeId} {size g off m c n : Nat} {xs : List Value} (h : Own w e size (.slice (some ⟨g, off, none⟩) m c) n xs) : Own w e size (.slice (some ⟨g, off, none⟩) 0 0) 0 [] := by
  refine ⟨by simp, ?_⟩
  rcases h.2 with ⟨hv, hn⟩ | ⟨g', off', cap, cur, hv, hg, hc, hm, hsz, ht⟩
  · simp at hv
  · simp only [Value.slice.injEq, Option.some.injEq, Addr.mk.injEq, and_true] at hv
    obtain ⟨⟨rfl, rfl⟩, rfl, rfl⟩ := hv
    exact .inr ⟨_, _, 0, cur, rfl, hg, Nat.le_refl 0, by unfold maxLen; omega, by omega, by simp⟩
theorem Has.ownNone {w0 w : World} {cs : List (Chunk w0.heap.size)} (H : Has w0 w cs) (i : Nat) {e : TypeId} {size g off m c n : Nat} {xs : List Value} (hi : cs[i]? = some (ownC _ e size (.slice (some ⟨g, off, none⟩) m c) n xs)) : Has w0 w (cs.set i (ownC _ e size (.slice (some ⟨g, off, none⟩) 0 0) 0 [])) :=
  H.re _ hi (fun _ h => h) (fun _ => rfl) (own_none (H.get i hi))

theorem alone_big (v : Int) (pa : Option Addr) (np pc : Nat) (w : World) (v0 : 0 ≤ v) (v1 : v < 256) (h1 : (100 : Int) < (np : Int)) :
    Calls Try.prog 3 #[.int .u8 v, .slice pa np pc] w fun r w' => r = .returned (.bool true) ∧ Below w.heap.size w w' := by
  have n0 := Int.emod_nonneg v (by omega : (8 : Int) ≠ 0)
  have n1 := Int.emod_lt_of_pos v (by omega : (0 : Int) < 8)
  have e2 : v.tmod 8 = v % 8 := Int.tmod_eq_emod_of_nonneg v0
  go_enter Try.func3, Try.ntmps3
  go_wp2_with fail
  refine (awake8 _).mono ?_
  rintro r w0 ⟨rfl, q0⟩
  go_wp2_with fail
  go_ret
  exact ⟨rfl, q0⟩

set_option maxRecDepth 100000 in
set_option maxHeartbeats 16000000 in
theorem alone_ok (v : Int) (pa : Option Addr) (pc : Nat) (acts : List Int) (w : World) (hsl : Sl w [] .u8 (.slice pa acts.length pc) acts) (hws : ∀ x ∈ acts, 0 ≤ x ∧ x < 256) (v0 : 0 ≤ v) (v1 : v < 256) (h1 : ¬ (100 : Int) < (acts.length : Int)) :
    Calls Try.prog 3 #[.int .u8 v, .slice pa acts.length pc] w fun r w' => r = .returned (.bool true) ∧ Below w.heap.size w w' := by
  have HSL := Lib.hid hsl
  have HWS := Lib.hid hws
  have n0 := Int.emod_nonneg v (by omega : (8 : Int) ≠ 0)
  have n1 := Int.emod_lt_of_pos v (by omega : (0 : Int) < 8)
  have e2 : v.tmod 8 = v % 8 := Int.tmod_eq_emod_of_nonneg v0
  clear hsl hws
  obtain ⟨N, hN⟩ : ∃ N : Nat, (N : Int) = v % 8 + 1 := ⟨(v % 8 + 1).toNat, by omega⟩
  have N1 : 1 ≤ N := by omega
  have N8 : N ≤ 8 := by omega
  have HN := Lib.hid hN
  clear hN
  go_enter Try.func3, Try.ntmps3
  go_wp2_with fail
  refine (awake8 _).mono ?_
  rintro r w0 ⟨rfl, q0⟩
  have G0 := (((Has.nil w).up q0).addSl HSL.out).blkNew #[.int .i64 0, .int .i64 1, .int .i64 2, .int .i64 N] 25
  have hM : (2 : Int) + (v % 8 + 1) = ((2 + N : Nat) : Int) := by have := HN.out; omega
  clear q0
  go_wp2_with (at_make; rw [← HN.out]; refine wpl_mk G0 rfl _ _ rfl el_u648 rfl (by decide) (2 + N) rfl rfl (by omega) ?_; intro w1 G1)
  have z1 : ∀ (w : World) o, (w.alloc o).heap.size = w.heap.size + 1 := fun w o => by simp
  rw [ownN_rep8, z1] at G1
  clear z1
  have hlr : (List.replicate (2 + N) (0 : Int)).length = 2 + N := List.length_replicate
  have CN := New_h G1 (.slice (some ⟨w0.heap.size + 1, 0, none⟩) (2 + N) (2 + N)) (List.replicate (2 + N) 0) (sl_of_ownN (by have := G1.get 2 rfl; exact this)) (by rw [hlr]; omega)
  clear hlr
  refine CN.mono ?_
  rintro r w2 ⟨sb, sg, rfl, G2'⟩
  have G2 := (G2'.pick [0, 1, 3] (by decide) (by simp)).ownNil 29 1
  clear G0 G1 G2' CN
  obtain ⟨eb, heb⟩ : ∃ eb, eb = w0.heap.size := ⟨_, rfl⟩
  rw [← heb] at G2
  rw [← heb]
  clear heb
  go_wp2_with fail
  have I0 := Lib.hid (aln_0 N)
  clear hM n0 n1 e2
  go_loopw [9, 10, 11, 12, 13, 14, 15, 16, 17] (fun lv iv u11 u12 u13 u14 u15 u16 u17 wr => ∃ (i k : Nat) (s q : List Int) (n1 : Int) (la : Option Addr) (lc : Nat), i ≤ acts.length ∧ iv = .int .i64 i ∧ lv = .slice la k lc ∧ Hid (q.length = k) ∧ Hid (Aln N i s q) ∧ k ≤ 8 ∧ Has w wr [slC _ .u8 (.slice pa acts.length pc) acts, blkC _ eb #[.int .i64 0, .int .i64 1, .int .i64 2, .int .i64 N] 25, storeC _ sb sg s n1, ownC _ 29 1 (.slice la k lc) k (q.map (Value.int .u64))]) (fun _ iv _ _ _ _ _ _ _ _ => 101 - (intOf iv).toNat)
  case atStart => exact ⟨0, 0, _, [], _, none, 0, by omega, rfl, rfl, Lib.hid rfl, I0, by omega, G2⟩
  case round =>
    obtain ⟨i, k, s, q, n1, la, lc, hi, rfl, rfl, HK, I, hk8, G⟩ := hrel
    clear G2 I0
    by_cases hlt : i < acts.length
    · have hlt' : (i : Int) < (acts.length : Int) := by omega
      obtain ⟨x, hx⟩ := el_get8 acts i hlt
      have hxb := HWS.out x (List.mem_of_getElem? hx)
      have hne : acts ≠ [] := by rintro rfl; simp at hlt
      obtain ⟨cb, off, hab, -, -, hcell⟩ := sl_at (G.sl 0 rfl) hne
      subst hab
      have hc := hcell i _ hx
      clear hcell hne hx
      have rx : x.tmod 4 = x % 4 := Int.tmod_eq_emod_of_nonneg hxb.1
      have hm4 : x % 4 = 0 ∨ x % 4 = 1 ∨ x % 4 = 2 ∨ x % 4 = 3 := by omega
      obtain ⟨b0, b1, b2, b3, fb⟩ := row4 (G.get 1 rfl)
      rcases hm4 with hr | hr | hr | hr
      · obtain ⟨A1, A2, A3⟩ := aln_push N1 N8 (by omega) I.out ((i : Int) + 1) (by omega) (by omega)
        have hkN : k ≤ N := by rw [← HK.out]; exact A3
        by_cases hfull : k = N
        · obtain ⟨s', he, ho, hA⟩ := A1 (by rw [HK.out]; exact hfull)
          have HE := Lib.hid he
          have HO := Lib.hid ho
          have HA := Lib.hid hA
          have hkb : (k == N) = true := by simpa using hfull
          have hkb2 : ((k : Int) == (N : Int)) = true := by simp; omega
          have HF := Lib.hid hfull
          clear he ho hA A1 A2 A3 hfull
          go_wp2_with fail
          refine (Push_N G N _).mono ?_
          rintro r v1 ⟨x1, rfl, K1'⟩
          have K1 : Has w v1 [slC _ .u8 (.slice (some ⟨cb, off, none⟩) acts.length pc) acts, blkC _ eb #[.int .i64 0, .int .i64 1, .int .i64 2, .int .i64 N] 25, storeC _ sb sg s n1, ownC _ 29 1 (.slice la k lc) k (q.map (Value.int .u64)), dqC _ x1 (en N) (dqPush ((i : Int) + 1))] := K1'
          clear b0 b1 b2 b3 fb K1' G
          go_wp2_with fail
          refine (whole_h K1 2 4 rfl (by decide) rfl (enN_ok N8) (push_ok8 _ (by omega) (by omega)) I.out.ws).mono ?_
          rw [HE.out, HO.out.1, HO.out.2]
          rintro r v3 ⟨n3, rfl, K3'⟩
          have K3'' : Has w v3 [slC _ .u8 (.slice (some ⟨cb, off, none⟩) acts.length pc) acts, blkC _ eb #[.int .i64 0, .int .i64 1, .int .i64 2, .int .i64 N] 25, storeC _ sb sg s'.1 n3, ownC _ 29 1 (.slice la k lc) k (q.map (Value.int .u64)), dqC _ x1 (en N) s'.2] := K3'
          have K3 := K3''.pick [0, 1, 2, 3] (by decide) (by simp)
          clear K1 K3' K3''
          go_wp2_with fail
          go_roundw
          case rel => exact ⟨i + 1, k, _, q, _, la, lc, by omega, by go_num, rfl, HK, HA, hk8, K3⟩
          case measure => simp [intOf]; omega
        · obtain ⟨s', he, ho, hA⟩ := A2 (by rw [HK.out]; omega)
          have HE := Lib.hid he
          have HO := Lib.hid ho
          have HA := Lib.hid hA
          have hkb : (k == N) = false := by simpa using hfull
          have hkb2 : ((k : Int) == (N : Int)) = false := by simp; omega
          have hk7 : k < 8 := by omega
          clear he ho hA A1 A2 A3
          go_wp2_with fail
          refine (Push_N G N _).mono ?_
          rintro r v1 ⟨x1, rfl, K1'⟩
          have K1 : Has w v1 [slC _ .u8 (.slice (some ⟨cb, off, none⟩) acts.length pc) acts, blkC _ eb #[.int .i64 0, .int .i64 1, .int .i64 2, .int .i64 N] 25, storeC _ sb sg s n1, ownC _ 29 1 (.slice la k lc) k (q.map (Value.int .u64)), dqC _ x1 (en N) (dqPush ((i : Int) + 1))] := K1'
          clear b0 b1 b2 b3 fb K1' G
          go_wp2_with fail
          refine (whole_h K1 2 4 rfl (by decide) rfl (enN_ok N8) (push_ok8 _ (by omega) (by omega)) I.out.ws).mono ?_
          rw [HE.out, HO.out.1, HO.out.2]
          rintro r v3 ⟨n3, rfl, K3'⟩
          have K3'' : Has w v3 [slC _ .u8 (.slice (some ⟨cb, off, none⟩) acts.length pc) acts, blkC _ eb #[.int .i64 0, .int .i64 1, .int .i64 2, .int .i64 N] 25, storeC _ sb sg s'.1 n3, ownC _ 29 1 (.slice la k lc) k (q.map (Value.int .u64)), dqC _ x1 (en N) s'.2] := K3'
          have K3 := K3''.pick [0, 1, 2, 3] (by decide) (by simp)
          clear K1 K3' K3''
          go_wp2_with (at_builtin; refine wpl_app K3 3 rfl (.tmp 103) (.tmp 105) rfl el_u648 rfl (by decide) (by decide) rfl rfl [.int .u64 ((i : Int) + 1)] rfl rfl (by simp [Value.oneCell']) (by omega) ?_; intro lv2 v5 K5')
          have K5 : Has w v5 [slC _ .u8 (.slice (some ⟨cb, off, none⟩) acts.length pc) acts, blkC _ eb #[.int .i64 0, .int .i64 1, .int .i64 2, .int .i64 N] 25, storeC _ sb sg s'.1 n3, ownC _ 29 1 lv2 (k + 1) ((q ++ [(i : Int) + 1]).map (Value.int .u64))] := by
            have e : (q ++ [(i : Int) + 1]).map (Value.int .u64) = q.map (Value.int .u64) ++ [.int .u64 ((i : Int) + 1)] := by simp
            rw [e]; exact K5'
          clear K5'
          obtain ⟨la2, lc2, rfl⟩ := own_is (K5.get 3 rfl)
          go_roundw
          case rel => exact ⟨i + 1, k + 1, _, _, _, la2, lc2, by omega, by go_num, rfl, Lib.hid (by rw [List.length_append, HK.out]; rfl), HA, by omega, K5⟩
          case measure => simp [intOf]; omega
      · obtain ⟨A1, A2, A3⟩ := aln_push N1 N8 (by omega) I.out ((i : Int) + 1) (by omega) (by omega)
        have hkN : k ≤ N := by rw [← HK.out]; exact A3
        by_cases hfull : k = N
        · obtain ⟨s', he, ho, hA⟩ := A1 (by rw [HK.out]; exact hfull)
          have HE := Lib.hid he
          have HO := Lib.hid ho
          have HA := Lib.hid hA
          have hkb : (k == N) = true := by simpa using hfull
          have hkb2 : ((k : Int) == (N : Int)) = true := by simp; omega
          have HF := Lib.hid hfull
          clear he ho hA A1 A2 A3 hfull
          go_wp2_with fail
          refine (Push_N G N _).mono ?_
          rintro r v1 ⟨x1, rfl, K1'⟩
          have K1 : Has w v1 [slC _ .u8 (.slice (some ⟨cb, off, none⟩) acts.length pc) acts, blkC _ eb #[.int .i64 0, .int .i64 1, .int .i64 2, .int .i64 N] 25, storeC _ sb sg s n1, ownC _ 29 1 (.slice la k lc) k (q.map (Value.int .u64)), dqC _ x1 (en N) (dqPush ((i : Int) + 1))] := K1'
          clear b0 b1 b2 b3 fb K1' G
          go_wp2_with fail
          refine (whole_h K1 2 4 rfl (by decide) rfl (enN_ok N8) (push_ok8 _ (by omega) (by omega)) I.out.ws).mono ?_
          rw [HE.out, HO.out.1, HO.out.2]
          rintro r v3 ⟨n3, rfl, K3'⟩
          have K3'' : Has w v3 [slC _ .u8 (.slice (some ⟨cb, off, none⟩) acts.length pc) acts, blkC _ eb #[.int .i64 0, .int .i64 1, .int .i64 2, .int .i64 N] 25, storeC _ sb sg s'.1 n3, ownC _ 29 1 (.slice la k lc) k (q.map (Value.int .u64)), dqC _ x1 (en N) s'.2] := K3'
          have K3 := K3''.pick [0, 1, 2, 3] (by decide) (by simp)
          clear K1 K3' K3''
          go_wp2_with fail
          go_roundw
          case rel => exact ⟨i + 1, k, _, q, _, la, lc, by omega, by go_num, rfl, HK, HA, hk8, K3⟩
          case measure => simp [intOf]; omega
        · obtain ⟨s', he, ho, hA⟩ := A2 (by rw [HK.out]; omega)
          have HE := Lib.hid he
          have HO := Lib.hid ho
          have HA := Lib.hid hA
          have hkb : (k == N) = false := by simpa using hfull
          have hkb2 : ((k : Int) == (N : Int)) = false := by simp; omega
          have hk7 : k < 8 := by omega
          clear he ho hA A1 A2 A3
          go_wp2_with fail
          refine (Push_N G N _).mono ?_
          rintro r v1 ⟨x1, rfl, K1'⟩
          have K1 : Has w v1 [slC _ .u8 (.slice (some ⟨cb, off, none⟩) acts.length pc) acts, blkC _ eb #[.int .i64 0, .int .i64 1, .int .i64 2, .int .i64 N] 25, storeC _ sb sg s n1, ownC _ 29 1 (.slice la k lc) k (q.map (Value.int .u64)), dqC _ x1 (en N) (dqPush ((i : Int) + 1))] := K1'
          clear b0 b1 b2 b3 fb K1' G
          go_wp2_with fail
          refine (whole_h K1 2 4 rfl (by decide) rfl (enN_ok N8) (push_ok8 _ (by omega) (by omega)) I.out.ws).mono ?_
          rw [HE.out, HO.out.1, HO.out.2]
          rintro r v3 ⟨n3, rfl, K3'⟩
          have K3'' : Has w v3 [slC _ .u8 (.slice (some ⟨cb, off, none⟩) acts.length pc) acts, blkC _ eb #[.int .i64 0, .int .i64 1, .int .i64 2, .int .i64 N] 25, storeC _ sb sg s'.1 n3, ownC _ 29 1 (.slice la k lc) k (q.map (Value.int .u64)), dqC _ x1 (en N) s'.2] := K3'
          have K3 := K3''.pick [0, 1, 2, 3] (by decide) (by simp)
          clear K1 K3' K3''
          go_wp2_with (at_builtin; refine wpl_app K3 3 rfl (.tmp 103) (.tmp 105) rfl el_u648 rfl (by decide) (by decide) rfl rfl [.int .u64 ((i : Int) + 1)] rfl rfl (by simp [Value.oneCell']) (by omega) ?_; intro lv2 v5 K5')
          have K5 : Has w v5 [slC _ .u8 (.slice (some ⟨cb, off, none⟩) acts.length pc) acts, blkC _ eb #[.int .i64 0, .int .i64 1, .int .i64 2, .int .i64 N] 25, storeC _ sb sg s'.1 n3, ownC _ 29 1 lv2 (k + 1) ((q ++ [(i : Int) + 1]).map (Value.int .u64))] := by
            have e : (q ++ [(i : Int) + 1]).map (Value.int .u64) = q.map (Value.int .u64) ++ [.int .u64 ((i : Int) + 1)] := by simp
            rw [e]; exact K5'
          clear K5'
          obtain ⟨la2, lc2, rfl⟩ := own_is (K5.get 3 rfl)
          go_roundw
          case rel => exact ⟨i + 1, k + 1, _, _, _, la2, lc2, by omega, by go_num, rfl, Lib.hid (by rw [List.length_append, HK.out]; rfl), HA, by omega, K5⟩
          case measure => simp [intOf]; omega
      · obtain ⟨A1, A2⟩ := aln_pop N1 N8 (by omega) I.out
        cases k with
        | zero =>
          have hq : q = [] := List.length_eq_zero_iff.1 HK.out
          obtain ⟨s', he, ho, hA⟩ := A1 hq
          have HE := Lib.hid he
          have HO := Lib.hid ho
          have HA : Hid (Aln N (i + 1) s'.1 q) := Lib.hid (by rw [hq]; exact hA)
          clear he ho hA A1 A2 hq
          go_wp2_with fail
          refine (Pop_N G N).mono ?_
          rintro r v1 ⟨x1, rfl, K1'⟩
          have K1 : Has w v1 [slC _ .u8 (.slice (some ⟨cb, off, none⟩) acts.length pc) acts, blkC _ eb #[.int .i64 0, .int .i64 1, .int .i64 2, .int .i64 N] 25, storeC _ sb sg s n1, ownC _ 29 1 (.slice la 0 lc) 0 (q.map (Value.int .u64)), dqC _ x1 (en N) dqPop] := K1'
          clear b0 b1 b2 b3 fb K1' G
          go_wp2_with fail
          refine (whole_h K1 2 4 rfl (by decide) rfl (enN_ok N8) pop_ok8 I.out.ws).mono ?_
          rw [HE.out, HO.out.1, HO.out.2]
          rintro r v3 ⟨n3, rfl, K3'⟩
          have K3'' : Has w v3 [slC _ .u8 (.slice (some ⟨cb, off, none⟩) acts.length pc) acts, blkC _ eb #[.int .i64 0, .int .i64 1, .int .i64 2, .int .i64 N] 25, storeC _ sb sg s'.1 n3, ownC _ 29 1 (.slice la 0 lc) 0 (q.map (Value.int .u64)), dqC _ x1 (en N) s'.2] := K3'
          have K3 := K3''.pick [0, 1, 2, 3] (by decide) (by simp)
          clear K1 K3' K3''
          go_wp2_with fail
          go_roundw
          case rel => exact ⟨i + 1, 0, _, q, _, la, lc, by omega, by go_num, rfl, HK, HA, by omega, K3⟩
          case measure => simp [intOf]; omega
        | succ k =>
          obtain ⟨p, y, hq⟩ : ∃ p y, q = p ++ [y] := by
            rcases List.eq_nil_or_concat q with h | ⟨p, y, h⟩
            · have := HK.out; rw [h] at this; cases this
            · exact ⟨p, y, by rw [h, List.concat_eq_append]⟩
          have hp : p.length = k := by have := HK.out; rw [hq, List.length_append] at this; simpa using this
          obtain ⟨s', he, ho, hA⟩ := A2 p y hq
          subst hq
          have HE := Lib.hid he
          have HO := Lib.hid ho
          have HA := Lib.hid hA
          have HP := Lib.hid hp
          clear he ho hA A1 A2
          go_wp2_with fail
          refine (Pop_N G N).mono ?_
          rintro r v1 ⟨x1, rfl, K1'⟩
          have K1 : Has w v1 [slC _ .u8 (.slice (some ⟨cb, off, none⟩) acts.length pc) acts, blkC _ eb #[.int .i64 0, .int .i64 1, .int .i64 2, .int .i64 N] 25, storeC _ sb sg s n1, ownC _ 29 1 (.slice la (k + 1) lc) (k + 1) ((p ++ [y]).map (Value.int .u64)), dqC _ x1 (en N) dqPop] := K1'
          clear b0 b1 b2 b3 fb K1' G
          go_wp2_with fail
          refine (whole_h K1 2 4 rfl (by decide) rfl (enN_ok N8) pop_ok8 I.out.ws).mono ?_
          rw [HE.out, HO.out.1, HO.out.2]
          rintro r v3 ⟨n3, rfl, K3'⟩
          have K3'' : Has w v3 [slC _ .u8 (.slice (some ⟨cb, off, none⟩) acts.length pc) acts, blkC _ eb #[.int .i64 0, .int .i64 1, .int .i64 2, .int .i64 N] 25, storeC _ sb sg s'.1 n3, ownC _ 29 1 (.slice la (k + 1) lc) (k + 1) ((p ++ [y]).map (Value.int .u64)), dqC _ x1 (en N) s'.2] := K3'
          have K3 := K3''.pick [0, 1, 2, 3] (by decide) (by simp)
          clear K1 K3' K3''
          obtain ⟨lg, loff, hla, hkc, -, -, hcell, hfz⟩ := own_atV (K3.get 3 rfl) (by omega)
          subst hla
          have hcy := hcell k (.int .u64 y) (by rw [List.map_append, List.getElem?_append_right (by rw [List.length_map, HP.out]; exact Nat.le_refl _), List.length_map, HP.out]; simp)
          clear hcell
          have K6 : Has w v3 [slC _ .u8 (.slice (some ⟨cb, off, none⟩) acts.length pc) acts, blkC _ eb #[.int .i64 0, .int .i64 1, .int .i64 2, .int .i64 N] 25, storeC _ sb sg s'.1 n3, ownC _ 29 1 (.slice (some ⟨lg, loff, none⟩) k lc) k (p.map (Value.int .u64))] := by
            have := K3.ownTake 3 rfl k (by omega)
            rw [Nat.mul_one, List.map_append, List.take_left' (by rw [List.length_map, HP.out])] at this
            exact this
          go_wp2_with fail
          go_roundw
          case rel => exact ⟨i + 1, k, _, p, _, _, _, by omega, by go_num, rfl, HP, HA, by omega, K6⟩
          case measure => simp [intOf]; omega
      · obtain ⟨A1, A2⟩ := aln_steal N1 N8 (by omega) I.out
        cases k with
        | zero =>
          have hq : q = [] := List.length_eq_zero_iff.1 HK.out
          obtain ⟨s', he, ho, hA⟩ := A1 hq
          have HE := Lib.hid he
          have HO := Lib.hid ho
          have HA : Hid (Aln N (i + 1) s'.1 q) := Lib.hid (by rw [hq]; exact hA)
          clear he ho hA A1 A2 hq
          go_wp2_with fail
          refine (Steal_N G N).mono ?_
          rintro r v1 ⟨x1, rfl, K1'⟩
          have K1 : Has w v1 [slC _ .u8 (.slice (some ⟨cb, off, none⟩) acts.length pc) acts, blkC _ eb #[.int .i64 0, .int .i64 1, .int .i64 2, .int .i64 N] 25, storeC _ sb sg s n1, ownC _ 29 1 (.slice la 0 lc) 0 (q.map (Value.int .u64)), dqC _ x1 (en N) dqSteal] := K1'
          clear b0 b1 b2 b3 fb K1' G
          go_wp2_with fail
          refine (whole_h K1 2 4 rfl (by decide) rfl (enN_ok N8) steal_ok8 I.out.ws).mono ?_
          rw [HE.out, HO.out.1, HO.out.2]
          rintro r v3 ⟨n3, rfl, K3'⟩
          have K3'' : Has w v3 [slC _ .u8 (.slice (some ⟨cb, off, none⟩) acts.length pc) acts, blkC _ eb #[.int .i64 0, .int .i64 1, .int .i64 2, .int .i64 N] 25, storeC _ sb sg s'.1 n3, ownC _ 29 1 (.slice la 0 lc) 0 (q.map (Value.int .u64)), dqC _ x1 (en N) s'.2] := K3'
          have K3 := K3''.pick [0, 1, 2, 3] (by decide) (by simp)
          clear K1 K3' K3''
          go_wp2_with fail
          go_roundw
          case rel => exact ⟨i + 1, 0, _, q, _, la, lc, by omega, by go_num, rfl, HK, HA, by omega, K3⟩
          case measure => simp [intOf]; omega
        | succ k =>
          obtain ⟨y, p, hq⟩ : ∃ y p, q = y :: p := by
            cases q with
            | nil => have := HK.out; cases this
            | cons y p => exact ⟨y, p, rfl⟩
          have hp : p.length = k := by have := HK.out; rw [hq] at this; simpa using this
          obtain ⟨s', he, ho, hA⟩ := A2 y p hq
          subst hq
          have HE := Lib.hid he
          have HO := Lib.hid ho
          have HA := Lib.hid hA
          have HP := Lib.hid hp
          clear he ho hA A1 A2
          go_wp2_with fail
          refine (Steal_N G N).mono ?_
          rintro r v1 ⟨x1, rfl, K1'⟩
          have K1 : Has w v1 [slC _ .u8 (.slice (some ⟨cb, off, none⟩) acts.length pc) acts, blkC _ eb #[.int .i64 0, .int .i64 1, .int .i64 2, .int .i64 N] 25, storeC _ sb sg s n1, ownC _ 29 1 (.slice la (k + 1) lc) (k + 1) ((y :: p).map (Value.int .u64)), dqC _ x1 (en N) dqSteal] := K1'
          clear b0 b1 b2 b3 fb K1' G
          go_wp2_with fail
          refine (whole_h K1 2 4 rfl (by decide) rfl (enN_ok N8) steal_ok8 I.out.ws).mono ?_
          rw [HE.out, HO.out.1, HO.out.2]
          rintro r v3 ⟨n3, rfl, K3'⟩
          have K3'' : Has w v3 [slC _ .u8 (.slice (some ⟨cb, off, none⟩) acts.length pc) acts, blkC _ eb #[.int .i64 0, .int .i64 1, .int .i64 2, .int .i64 N] 25, storeC _ sb sg s'.1 n3, ownC _ 29 1 (.slice la (k + 1) lc) (k + 1) ((y :: p).map (Value.int .u64)), dqC _ x1 (en N) s'.2] := K3'
          have K3 := K3''.pick [0, 1, 2, 3] (by decide) (by simp)
          clear K1 K3' K3''
          obtain ⟨lg, loff, hla, hkc, -, -, hcell, hfz⟩ := own_atV (K3.get 3 rfl) (by omega)
          subst hla
          have hcy := hcell 0 (.int .u64 y) rfl
          rw [Nat.add_zero] at hcy
          clear hcell
          by_cases hlc : lc = 1
          · subst hlc
            obtain rfl : k = 0 := by omega
            have hp0 : p = [] := List.length_eq_zero_iff.1 HP.out
            have K6 : Has w v3 [slC _ .u8 (.slice (some ⟨cb, off, none⟩) acts.length pc) acts, blkC _ eb #[.int .i64 0, .int .i64 1, .int .i64 2, .int .i64 N] 25, storeC _ sb sg s'.1 n3, ownC _ 29 1 (.slice (some ⟨lg, loff, none⟩) 0 0) 0 (p.map (Value.int .u64))] := by
              rw [hp0]
              exact K3.ownNone 3 rfl
            clear hp0
            go_wp2_with fail
            go_roundw
            case rel => exact ⟨i + 1, 0, _, p, _, _, _, by omega, by go_num, rfl, HP, HA, by omega, K6⟩
            case measure => simp [intOf]; omega
          · have K6 : Has w v3 [slC _ .u8 (.slice (some ⟨cb, off, none⟩) acts.length pc) acts, blkC _ eb #[.int .i64 0, .int .i64 1, .int .i64 2, .int .i64 N] 25, storeC _ sb sg s'.1 n3, ownC _ 29 1 (.slice (some ⟨lg, loff + 1, none⟩) k (lc - 1)) k (p.map (Value.int .u64))] := by
              have := K3.ownDrop 3 rfl 1 (by omega)
              exact this
            go_wp2_with fail
            go_roundw
            case rel => exact ⟨i + 1, k, _, p, _, _, _, by omega, by go_num, rfl, HP, HA, by omega, K6⟩
            case measure => simp [intOf]; omega
    · have hge : ¬ (i : Int) < (acts.length : Int) := by omega
      go_wp2_with fail
      go_ret
      exact ⟨rfl, G.below⟩

theorem walk_DequeAlone (v : Int) (a : Option Addr) (len cap : Nat) (zs : List Int) (w : World) (hr : IsRow .u8 w a len cap zs) (v0 : 0 ≤ v) (v1 : v < 256) :
    Calls Try.prog 3 #[.int .u8 v, .slice a len cap] w fun r w' => r = .returned (.bool true) ∧ Below w.heap.size w w' := by
  obtain ⟨l, rfl, hsl, hwf⟩ := row_opens hr
  by_cases h1 : (100 : Int) < (l.length : Int)
  · exact alone_big v a _ cap w v0 v1 h1
  · exact alone_ok v a cap l w hsl (fun x hx => by have := Go.bounds_u8 (hwf x hx); omega) v0 v1 h1

end Go.Proofs.Ytlmmaijbppdckaa

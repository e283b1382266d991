/- The walk of DequeRound: it answers true, and nothing that was there is changed. No condition but that the arguments can be read. -/
import Derived.Test.YtlmmaijbppdckaaAw8
set_option linter.unusedVariables false
set_option linter.unusedSimpArgs false
namespace Go.Proofs.Ytlmmaijbppdckaa
open Go.ChangeShapes Go.WideShapes Go.ChangeAt Go.RowKit

theorem el_get8 {α : Type} (l : List α) (j : Nat) (h : j < l.length) : ∃ x, l[j]? = some x := ⟨l[j], by simp [h]⟩
theorem el_u648 : ElemOf Try.prog 28 29 (.int .u64 0) 1 8 := elemOf Try.underlying28 (by kernel_rfl)
theorem ownN_rep8 (n0 : Nat) (e : TypeId) (k : IntKind) (v : Value) (n : Nat) : ownC n0 e 1 v n (List.replicate n (.int k 0)) = ownN n0 e k v (List.replicate n 0) := by
  simp [ownN]
theorem en4_ok : EnOk (en 4) := ⟨by decide, by decide, by decide, by decide⟩
theorem push_ok8 (x : Int) (h0 : 0 ≤ x) (h1 : x < 18446744073709551616) : DqOk (dqPush x) := ⟨Nat.le_of_ble_eq_true rfl, (by show (0 : Int) ≤ 0 ∧ (0 : Int) < _; omega), (by show (0 : Int) ≤ 0 ∧ (0 : Int) < _; omega), ⟨h0, h1⟩⟩
theorem pop_ok8 : DqOk dqPop := ⟨by decide, by decide, by decide, by decide⟩
theorem steal_ok8 : DqOk dqSteal := ⟨by decide, by decide, by decide, by decide⟩

section
variable {w0 w : World} {cs : List (Chunk w0.heap.size)} (H : Has w0 w cs)
include H
theorem Push_4 (x : Int) : Calls Try.prog 11 #[.agg #[.int .i64 0, .int .i64 1, .int .i64 2, .int .i64 4], .int .u64 x] w fun r w' => ∃ xb, r = .returned (.pointer (some ⟨xb, 0, none⟩)) ∧ Has w0 w' (cs ++ [dqC _ xb (en 4) (dqPush x)]) := Push_h H (en 4) x
theorem Pop_4 : Calls Try.prog 12 #[.agg #[.int .i64 0, .int .i64 1, .int .i64 2, .int .i64 4]] w fun r w' => ∃ xb, r = .returned (.pointer (some ⟨xb, 0, none⟩)) ∧ Has w0 w' (cs ++ [dqC _ xb (en 4) dqPop]) := Pop_h H (en 4)
theorem Steal_4 : Calls Try.prog 13 #[.agg #[.int .i64 0, .int .i64 1, .int .i64 2, .int .i64 4]] w fun r w' => ∃ xb, r = .returned (.pointer (some ⟨xb, 0, none⟩)) ∧ Has w0 w' (cs ++ [dqC _ xb (en 4) dqSteal]) := Steal_h H (en 4)
end

/-- Both stores are the same deque, of base 0 and of base B. -/
structure Rnd (B : Int) (i : Nat) (s t : List Int) : Prop where
  ws : Wds s
  wt : Wds t
  rep : ∃ a q, a ≤ i ∧ Rep 4 0 s a q ∧ Rep 4 B t a q
theorem rnd_0 (B : Int) (h0 : 0 ≤ B) (h1 : B < 18446744073709551616) : Rnd B 0 (List.replicate 6 0) [B, B, 0, 0, 0, 0] := by
  have e : ∀ b : Int, 0 ≤ b → b < 18446744073709551616 → wu (b + ((0 : Nat) : Int)) = b := fun b q0 q1 => by rw [wu_eq]; show (b + 0) % _ = b; omega
  refine ⟨fun x hx => ?_, fun x hx => ?_, 0, [], Nat.le_refl 0, ⟨rfl, ?_, ?_, by decide, by simp⟩, ⟨rfl, ?_, ?_, by decide, by simp⟩⟩
  · have := (List.mem_replicate.1 hx).2; omega
  · simp at hx; omega
  · rw [e 0 (by decide) (by decide)]; rfl
  · rw [show (0 : Int) + ((0 : Nat) : Int) + (([] : List Int).length : Nat) = 0 + ((0 : Nat) : Int) by simp, e 0 (by decide) (by decide)]; rfl
  · rw [e B h0 h1]; rfl
  · rw [show B + ((0 : Nat) : Int) + (([] : List Int).length : Nat) = B + ((0 : Nat) : Int) by simp, e B h0 h1]; rfl

/-- What a whole thing comes to in both. -/
structure Rn2 (B : Int) (i : Nat) (s t : List Int) (m : Dq) (s' t' : List Int × Dq) (o y : Int) : Prop where
  hs : dqRun (en 4) 8 (s, m) = s'
  ht : dqRun (en 4) 8 (t, m) = t'
  os : dqOut s'.2 = o ∧ dqW s'.2 = y
  ot : dqOut t'.2 = o ∧ dqW t'.2 = y
  nxt : Rnd B (i + 1) s'.1 t'.1
  e0 : IntKind.u64.wrap (mld t'.1 0 - mld s'.1 0) = B
  e1 : IntKind.u64.wrap (mld t'.1 1 - mld s'.1 1) = B
theorem rn2 {B : Int} (h0 : 0 ≤ B) (h1 : B < 18446744073709551616) {i : Nat} (hi : i ≤ 900) {s t : List Int} (R : Rnd B i s t) {m : Dq} (mo : DqOk m) (S : ∀ a q, a ≤ 1000 → Same8 4 a q m) : ∃ s' t' o y, Rn2 B i s t m s' t' o y := by
  obtain ⟨ws, wt, a, q, ha, R1, R2⟩ := R
  obtain ⟨a', q', o, y, ha', hh⟩ := S a q (by omega)
  have F0 : Fits 4 0 := ⟨by decide, by decide, by decide, by decide, .inr rfl⟩
  have FB : Fits 4 B := ⟨by decide, by decide, h0, h1, .inl rfl⟩
  obtain ⟨s', e1, c1, r1⟩ := hh 0 s F0 R1
  obtain ⟨t', e2, c2, r2⟩ := hh B t FB R2
  have g1 := dqRun_ok (en 4) 8 s m ws mo
  have g2 := dqRun_ok (en 4) 8 t m wt mo
  rw [e1] at g1
  rw [e2] at g2
  refine ⟨s', t', o, y, e1, e2, comes_out c1, comes_out c2, ⟨g1.1, g2.1, a', q', by omega, r1, r2⟩, ?_, ?_⟩
  · rw [r1.top, r2.top]; simp only [wu_eq, IntKind.wrap_u64]; omega
  · rw [r1.bot, r2.bot]; simp only [wu_eq, IntKind.wrap_u64]; omega

theorem round_big (B : Int) (pa : Option Addr) (np pc : Nat) (w : World) (h1 : (100 : Int) < (np : Int)) :
    Calls Try.prog 6 #[.int .u64 B, .slice pa np pc] w fun r w' => r = .returned (.bool true) ∧ Below w.heap.size w w' := by
  go_enter Try.func6, Try.ntmps6
  go_wp2_with fail
  refine (awake8 _).mono ?_
  rintro r w0 ⟨rfl, q0⟩
  go_wp2_with fail
  go_ret
  exact ⟨rfl, q0⟩

set_option maxRecDepth 100000 in
set_option maxHeartbeats 8000000 in
theorem round_ok (B : Int) (pa : Option Addr) (pc : Nat) (acts : List Int) (w : World) (hsl : Sl w [] .u8 (.slice pa acts.length pc) acts) (hws : ∀ x ∈ acts, 0 ≤ x ∧ x < 256) (B0 : 0 ≤ B) (B1 : B < 18446744073709551616) (h1 : ¬ (100 : Int) < (acts.length : Int)) :
    Calls Try.prog 6 #[.int .u64 B, .slice pa acts.length pc] w fun r w' => r = .returned (.bool true) ∧ Below w.heap.size w w' := by
  have HSL := Lib.hid hsl
  have HWS := Lib.hid hws
  clear hsl hws
  go_enter Try.func6, Try.ntmps6
  go_wp2_with fail
  refine (awake8 _).mono ?_
  rintro r w0 ⟨rfl, q0⟩
  have G0 := (((Has.nil w).up q0).addSl HSL.out).blkNew #[.int .i64 0, .int .i64 1, .int .i64 2, .int .i64 4] 25
  obtain ⟨eb, heb⟩ : ∃ eb, eb = w0.heap.size := ⟨_, rfl⟩
  rw [← heb] at G0
  have HEB := Lib.hid heb
  clear q0 heb
  go_wp2_with (at_make; refine wpl_mk G0 rfl _ _ rfl el_u648 rfl (by decide) 6 rfl rfl (by decide) ?_; intro w1 G1)
  have z1 : ∀ (w : World) o, (w.alloc o).heap.size = w.heap.size + 1 := fun w o => by simp
  rw [ownN_rep8, z1] at G1
  clear z1
  refine (New_h G1 _ (List.replicate 6 0) (sl_of_ownN (G1.get 2 rfl)) (by decide)).mono ?_
  rintro r w2 ⟨sb, sg, rfl, G2'⟩
  have G2 := (G2'.pick [0, 1, 3] (by decide) (by simp)).ownLit #[.int .u64 B, .int .u64 B, .int .u64 0, .int .u64 0, .int .u64 0, .int .u64 0] 29 1 6 rfl (by decide)
  clear G0 G1 G2'
  rw [← HEB.out]
  go_wp2_with fail
  refine (New_h G2 _ [B, B, 0, 0, 0, 0] (sl_of_ownN (xs := [B, B, 0, 0, 0, 0]) (G2.get 3 rfl)) (by simp)).mono ?_
  rintro r w3 ⟨tb, tg, rfl, G3'⟩
  have G3 := G3'.pick [0, 1, 2, 4] (by decide) (by simp)
  clear G2 G3'
  go_wp2_with fail
  have I0 := Lib.hid (rnd_0 B B0 B1)
  go_loopw [9, 10, 11, 12, 13, 14, 15, 16] (fun iv u10 u11 u12 u13 u14 u15 u16 wr => ∃ (i : Nat) (s t : List Int) (n1 n2 : Int), i ≤ acts.length ∧ iv = .int .i64 i ∧ Hid (Rnd B i s t) ∧ Has w wr [slC _ .u8 (.slice pa acts.length pc) acts, blkC _ eb #[.int .i64 0, .int .i64 1, .int .i64 2, .int .i64 4] 25, storeC _ sb sg s n1, storeC _ tb tg t n2]) (fun iv _ _ _ _ _ _ _ _ => 101 - (intOf iv).toNat)
  case atStart => exact ⟨0, _, _, _, _, by omega, rfl, I0, G3⟩
  case round =>
    obtain ⟨i, s, t, n1, n2, hi, rfl, I, G⟩ := hrel
    clear G3 I0
    by_cases hlt : i < acts.length
    · have hlt' : (i : Int) < (acts.length : Int) := by omega
      obtain ⟨x, hx⟩ := el_get8 acts i hlt
      have hxb := HWS.out x (List.mem_of_getElem? hx)
      have hne : acts ≠ [] := by rintro rfl; simp at hlt
      obtain ⟨cb, off, hab, -, -, hcell⟩ := sl_at (G.sl 0 rfl) hne
      subst hab
      have hc := hcell i _ hx
      clear hcell hne hx
      have rx : x.tmod 4 = x % 4 := Int.tmod_eq_emod_of_nonneg hxb.1
      have hm4 : x % 4 = 0 ∨ x % 4 = 1 ∨ x % 4 = 2 ∨ x % 4 = 3 := by omega
      obtain ⟨b0, b1, b2, b3, fb⟩ := row4 (G.get 1 rfl)
      rcases hm4 with hr | hr | hr | hr
      · obtain ⟨s', t', o, y, J⟩ := rn2 B0 B1 (by omega) I.out (push_ok8 _ (by omega) (by omega)) (fun a q ha => same_push 4 a q _ ha) (m := (dqPush ((i : Int) + 1)))
        have HJ := Lib.hid J
        clear J
        go_wp2_with fail
        refine (Push_4 G _).mono ?_
        rintro r v1 ⟨x1, rfl, K1⟩
        clear b0 b1 b2 b3 fb
        obtain ⟨b0, b1, b2, b3, fb⟩ := row4 (K1.get 1 rfl)
        go_wp2_with fail
        refine (Push_4 K1 _).mono ?_
        rintro r v2 ⟨x2, rfl, K2'⟩
        have K2 : Has w v2 [slC _ .u8 (.slice (some ⟨cb, off, none⟩) acts.length pc) acts, blkC _ eb #[.int .i64 0, .int .i64 1, .int .i64 2, .int .i64 4] 25, storeC _ sb sg s n1, storeC _ tb tg t n2, dqC _ x1 (en 4) (dqPush ((i : Int) + 1)), dqC _ x2 (en 4) (dqPush ((i : Int) + 1))] := K2'
        clear b0 b1 b2 b3 fb K1 K2' G
        go_wp2_with fail
        refine (whole_h K2 2 4 rfl (by decide) rfl en4_ok (push_ok8 _ (by omega) (by omega)) I.out.ws).mono ?_
        rw [HJ.out.hs, HJ.out.os.1, HJ.out.os.2]
        rintro r v3 ⟨n3, rfl, K3'⟩
        have K3 : Has w v3 [slC _ .u8 (.slice (some ⟨cb, off, none⟩) acts.length pc) acts, blkC _ eb #[.int .i64 0, .int .i64 1, .int .i64 2, .int .i64 4] 25, storeC _ sb sg s'.1 n3, storeC _ tb tg t n2, dqC _ x1 (en 4) s'.2, dqC _ x2 (en 4) (dqPush ((i : Int) + 1))] := K3'
        clear K2 K3'
        go_wp2_with fail
        refine (whole_h K3 3 5 rfl (by decide) rfl en4_ok (push_ok8 _ (by omega) (by omega)) I.out.wt).mono ?_
        rw [HJ.out.ht, HJ.out.ot.1, HJ.out.ot.2]
        rintro r v4 ⟨n4, rfl, K4'⟩
        have K4 : Has w v4 [slC _ .u8 (.slice (some ⟨cb, off, none⟩) acts.length pc) acts, blkC _ eb #[.int .i64 0, .int .i64 1, .int .i64 2, .int .i64 4] 25, storeC _ sb sg s'.1 n3, storeC _ tb tg t'.1 n4, dqC _ x1 (en 4) s'.2, dqC _ x2 (en 4) t'.2] := K4'
        clear K3 K4'
        obtain ⟨S0, hS0⟩ : ∃ S0, mld s'.1 0 = S0 := ⟨_, rfl⟩
        obtain ⟨T0, hT0⟩ : ∃ T0, mld t'.1 0 = T0 := ⟨_, rfl⟩
        obtain ⟨S1, hS1⟩ : ∃ S1, mld s'.1 1 = S1 := ⟨_, rfl⟩
        obtain ⟨T1, hT1⟩ : ∃ T1, mld t'.1 1 = T1 := ⟨_, rfl⟩
        have E0 := HJ.out.e0
        have E1 := HJ.out.e1
        rw [hS0, hT0] at E0
        rw [hS1, hT1] at E1
        have HS0 := Lib.hid hS0
        have HT0 := Lib.hid hT0
        have HS1 := Lib.hid hS1
        have HT1 := Lib.hid hT1
        clear hS0 hT0 hS1 hT1
        go_wp2_with fail
        refine (Load_h K4 3 rfl 0).mono ?_
        rw [HT0.out]
        rintro r v5 ⟨rfl, K5'⟩
        have K5 : Has w v5 [slC _ .u8 (.slice (some ⟨cb, off, none⟩) acts.length pc) acts, blkC _ eb #[.int .i64 0, .int .i64 1, .int .i64 2, .int .i64 4] 25, storeC _ sb sg s'.1 n3, storeC _ tb tg t'.1 (wrap64 (n4 + 1)), dqC _ x1 (en 4) s'.2, dqC _ x2 (en 4) t'.2] := K5'
        clear K4 K5'
        go_wp2_with fail
        refine (Load_h K5 2 rfl 0).mono ?_
        rw [HS0.out]
        rintro r v6 ⟨rfl, K6'⟩
        have K6 : Has w v6 [slC _ .u8 (.slice (some ⟨cb, off, none⟩) acts.length pc) acts, blkC _ eb #[.int .i64 0, .int .i64 1, .int .i64 2, .int .i64 4] 25, storeC _ sb sg s'.1 (wrap64 (n3 + 1)), storeC _ tb tg t'.1 (wrap64 (n4 + 1)), dqC _ x1 (en 4) s'.2, dqC _ x2 (en 4) t'.2] := K6'
        clear K5 K6'
        go_wp2_with fail
        refine (Load_h K6 3 rfl 1).mono ?_
        rw [HT1.out]
        rintro r v7 ⟨rfl, K7'⟩
        have K7 : Has w v7 [slC _ .u8 (.slice (some ⟨cb, off, none⟩) acts.length pc) acts, blkC _ eb #[.int .i64 0, .int .i64 1, .int .i64 2, .int .i64 4] 25, storeC _ sb sg s'.1 (wrap64 (n3 + 1)), storeC _ tb tg t'.1 (wrap64 (wrap64 (n4 + 1) + 1)), dqC _ x1 (en 4) s'.2, dqC _ x2 (en 4) t'.2] := K7'
        clear K6 K7'
        go_wp2_with fail
        refine (Load_h K7 2 rfl 1).mono ?_
        rw [HS1.out]
        rintro r v8 ⟨rfl, K8'⟩
        have K8 := K8'.pick [0, 1, 2, 3] (by decide) (by simp)
        clear K7 K8'
        go_wp2_with fail
        go_roundw
        case rel => exact ⟨i + 1, _, _, _, _, by omega, by go_num, Lib.hid HJ.out.nxt, K8⟩
        case measure => simp [intOf]; omega
      · obtain ⟨s', t', o, y, J⟩ := rn2 B0 B1 (by omega) I.out (push_ok8 _ (by omega) (by omega)) (fun a q ha => same_push 4 a q _ ha) (m := (dqPush ((i : Int) + 1)))
        have HJ := Lib.hid J
        clear J
        go_wp2_with fail
        refine (Push_4 G _).mono ?_
        rintro r v1 ⟨x1, rfl, K1⟩
        clear b0 b1 b2 b3 fb
        obtain ⟨b0, b1, b2, b3, fb⟩ := row4 (K1.get 1 rfl)
        go_wp2_with fail
        refine (Push_4 K1 _).mono ?_
        rintro r v2 ⟨x2, rfl, K2'⟩
        have K2 : Has w v2 [slC _ .u8 (.slice (some ⟨cb, off, none⟩) acts.length pc) acts, blkC _ eb #[.int .i64 0, .int .i64 1, .int .i64 2, .int .i64 4] 25, storeC _ sb sg s n1, storeC _ tb tg t n2, dqC _ x1 (en 4) (dqPush ((i : Int) + 1)), dqC _ x2 (en 4) (dqPush ((i : Int) + 1))] := K2'
        clear b0 b1 b2 b3 fb K1 K2' G
        go_wp2_with fail
        refine (whole_h K2 2 4 rfl (by decide) rfl en4_ok (push_ok8 _ (by omega) (by omega)) I.out.ws).mono ?_
        rw [HJ.out.hs, HJ.out.os.1, HJ.out.os.2]
        rintro r v3 ⟨n3, rfl, K3'⟩
        have K3 : Has w v3 [slC _ .u8 (.slice (some ⟨cb, off, none⟩) acts.length pc) acts, blkC _ eb #[.int .i64 0, .int .i64 1, .int .i64 2, .int .i64 4] 25, storeC _ sb sg s'.1 n3, storeC _ tb tg t n2, dqC _ x1 (en 4) s'.2, dqC _ x2 (en 4) (dqPush ((i : Int) + 1))] := K3'
        clear K2 K3'
        go_wp2_with fail
        refine (whole_h K3 3 5 rfl (by decide) rfl en4_ok (push_ok8 _ (by omega) (by omega)) I.out.wt).mono ?_
        rw [HJ.out.ht, HJ.out.ot.1, HJ.out.ot.2]
        rintro r v4 ⟨n4, rfl, K4'⟩
        have K4 : Has w v4 [slC _ .u8 (.slice (some ⟨cb, off, none⟩) acts.length pc) acts, blkC _ eb #[.int .i64 0, .int .i64 1, .int .i64 2, .int .i64 4] 25, storeC _ sb sg s'.1 n3, storeC _ tb tg t'.1 n4, dqC _ x1 (en 4) s'.2, dqC _ x2 (en 4) t'.2] := K4'
        clear K3 K4'
        obtain ⟨S0, hS0⟩ : ∃ S0, mld s'.1 0 = S0 := ⟨_, rfl⟩
        obtain ⟨T0, hT0⟩ : ∃ T0, mld t'.1 0 = T0 := ⟨_, rfl⟩
        obtain ⟨S1, hS1⟩ : ∃ S1, mld s'.1 1 = S1 := ⟨_, rfl⟩
        obtain ⟨T1, hT1⟩ : ∃ T1, mld t'.1 1 = T1 := ⟨_, rfl⟩
        have E0 := HJ.out.e0
        have E1 := HJ.out.e1
        rw [hS0, hT0] at E0
        rw [hS1, hT1] at E1
        have HS0 := Lib.hid hS0
        have HT0 := Lib.hid hT0
        have HS1 := Lib.hid hS1
        have HT1 := Lib.hid hT1
        clear hS0 hT0 hS1 hT1
        go_wp2_with fail
        refine (Load_h K4 3 rfl 0).mono ?_
        rw [HT0.out]
        rintro r v5 ⟨rfl, K5'⟩
        have K5 : Has w v5 [slC _ .u8 (.slice (some ⟨cb, off, none⟩) acts.length pc) acts, blkC _ eb #[.int .i64 0, .int .i64 1, .int .i64 2, .int .i64 4] 25, storeC _ sb sg s'.1 n3, storeC _ tb tg t'.1 (wrap64 (n4 + 1)), dqC _ x1 (en 4) s'.2, dqC _ x2 (en 4) t'.2] := K5'
        clear K4 K5'
        go_wp2_with fail
        refine (Load_h K5 2 rfl 0).mono ?_
        rw [HS0.out]
        rintro r v6 ⟨rfl, K6'⟩
        have K6 : Has w v6 [slC _ .u8 (.slice (some ⟨cb, off, none⟩) acts.length pc) acts, blkC _ eb #[.int .i64 0, .int .i64 1, .int .i64 2, .int .i64 4] 25, storeC _ sb sg s'.1 (wrap64 (n3 + 1)), storeC _ tb tg t'.1 (wrap64 (n4 + 1)), dqC _ x1 (en 4) s'.2, dqC _ x2 (en 4) t'.2] := K6'
        clear K5 K6'
        go_wp2_with fail
        refine (Load_h K6 3 rfl 1).mono ?_
        rw [HT1.out]
        rintro r v7 ⟨rfl, K7'⟩
        have K7 : Has w v7 [slC _ .u8 (.slice (some ⟨cb, off, none⟩) acts.length pc) acts, blkC _ eb #[.int .i64 0, .int .i64 1, .int .i64 2, .int .i64 4] 25, storeC _ sb sg s'.1 (wrap64 (n3 + 1)), storeC _ tb tg t'.1 (wrap64 (wrap64 (n4 + 1) + 1)), dqC _ x1 (en 4) s'.2, dqC _ x2 (en 4) t'.2] := K7'
        clear K6 K7'
        go_wp2_with fail
        refine (Load_h K7 2 rfl 1).mono ?_
        rw [HS1.out]
        rintro r v8 ⟨rfl, K8'⟩
        have K8 := K8'.pick [0, 1, 2, 3] (by decide) (by simp)
        clear K7 K8'
        go_wp2_with fail
        go_roundw
        case rel => exact ⟨i + 1, _, _, _, _, by omega, by go_num, Lib.hid HJ.out.nxt, K8⟩
        case measure => simp [intOf]; omega
      · obtain ⟨s', t', o, y, J⟩ := rn2 B0 B1 (by omega) I.out pop_ok8 (fun a q ha => same_pop 4 a q ha) (m := dqPop)
        have HJ := Lib.hid J
        clear J
        go_wp2_with fail
        refine (Pop_4 G).mono ?_
        rintro r v1 ⟨x1, rfl, K1⟩
        clear b0 b1 b2 b3 fb
        obtain ⟨b0, b1, b2, b3, fb⟩ := row4 (K1.get 1 rfl)
        go_wp2_with fail
        refine (Pop_4 K1).mono ?_
        rintro r v2 ⟨x2, rfl, K2'⟩
        have K2 : Has w v2 [slC _ .u8 (.slice (some ⟨cb, off, none⟩) acts.length pc) acts, blkC _ eb #[.int .i64 0, .int .i64 1, .int .i64 2, .int .i64 4] 25, storeC _ sb sg s n1, storeC _ tb tg t n2, dqC _ x1 (en 4) dqPop, dqC _ x2 (en 4) dqPop] := K2'
        clear b0 b1 b2 b3 fb K1 K2' G
        go_wp2_with fail
        refine (whole_h K2 2 4 rfl (by decide) rfl en4_ok pop_ok8 I.out.ws).mono ?_
        rw [HJ.out.hs, HJ.out.os.1, HJ.out.os.2]
        rintro r v3 ⟨n3, rfl, K3'⟩
        have K3 : Has w v3 [slC _ .u8 (.slice (some ⟨cb, off, none⟩) acts.length pc) acts, blkC _ eb #[.int .i64 0, .int .i64 1, .int .i64 2, .int .i64 4] 25, storeC _ sb sg s'.1 n3, storeC _ tb tg t n2, dqC _ x1 (en 4) s'.2, dqC _ x2 (en 4) dqPop] := K3'
        clear K2 K3'
        go_wp2_with fail
        refine (whole_h K3 3 5 rfl (by decide) rfl en4_ok pop_ok8 I.out.wt).mono ?_
        rw [HJ.out.ht, HJ.out.ot.1, HJ.out.ot.2]
        rintro r v4 ⟨n4, rfl, K4'⟩
        have K4 : Has w v4 [slC _ .u8 (.slice (some ⟨cb, off, none⟩) acts.length pc) acts, blkC _ eb #[.int .i64 0, .int .i64 1, .int .i64 2, .int .i64 4] 25, storeC _ sb sg s'.1 n3, storeC _ tb tg t'.1 n4, dqC _ x1 (en 4) s'.2, dqC _ x2 (en 4) t'.2] := K4'
        clear K3 K4'
        obtain ⟨S0, hS0⟩ : ∃ S0, mld s'.1 0 = S0 := ⟨_, rfl⟩
        obtain ⟨T0, hT0⟩ : ∃ T0, mld t'.1 0 = T0 := ⟨_, rfl⟩
        obtain ⟨S1, hS1⟩ : ∃ S1, mld s'.1 1 = S1 := ⟨_, rfl⟩
        obtain ⟨T1, hT1⟩ : ∃ T1, mld t'.1 1 = T1 := ⟨_, rfl⟩
        have E0 := HJ.out.e0
        have E1 := HJ.out.e1
        rw [hS0, hT0] at E0
        rw [hS1, hT1] at E1
        have HS0 := Lib.hid hS0
        have HT0 := Lib.hid hT0
        have HS1 := Lib.hid hS1
        have HT1 := Lib.hid hT1
        clear hS0 hT0 hS1 hT1
        go_wp2_with fail
        refine (Load_h K4 3 rfl 0).mono ?_
        rw [HT0.out]
        rintro r v5 ⟨rfl, K5'⟩
        have K5 : Has w v5 [slC _ .u8 (.slice (some ⟨cb, off, none⟩) acts.length pc) acts, blkC _ eb #[.int .i64 0, .int .i64 1, .int .i64 2, .int .i64 4] 25, storeC _ sb sg s'.1 n3, storeC _ tb tg t'.1 (wrap64 (n4 + 1)), dqC _ x1 (en 4) s'.2, dqC _ x2 (en 4) t'.2] := K5'
        clear K4 K5'
        go_wp2_with fail
        refine (Load_h K5 2 rfl 0).mono ?_
        rw [HS0.out]
        rintro r v6 ⟨rfl, K6'⟩
        have K6 : Has w v6 [slC _ .u8 (.slice (some ⟨cb, off, none⟩) acts.length pc) acts, blkC _ eb #[.int .i64 0, .int .i64 1, .int .i64 2, .int .i64 4] 25, storeC _ sb sg s'.1 (wrap64 (n3 + 1)), storeC _ tb tg t'.1 (wrap64 (n4 + 1)), dqC _ x1 (en 4) s'.2, dqC _ x2 (en 4) t'.2] := K6'
        clear K5 K6'
        go_wp2_with fail
        refine (Load_h K6 3 rfl 1).mono ?_
        rw [HT1.out]
        rintro r v7 ⟨rfl, K7'⟩
        have K7 : Has w v7 [slC _ .u8 (.slice (some ⟨cb, off, none⟩) acts.length pc) acts, blkC _ eb #[.int .i64 0, .int .i64 1, .int .i64 2, .int .i64 4] 25, storeC _ sb sg s'.1 (wrap64 (n3 + 1)), storeC _ tb tg t'.1 (wrap64 (wrap64 (n4 + 1) + 1)), dqC _ x1 (en 4) s'.2, dqC _ x2 (en 4) t'.2] := K7'
        clear K6 K7'
        go_wp2_with fail
        refine (Load_h K7 2 rfl 1).mono ?_
        rw [HS1.out]
        rintro r v8 ⟨rfl, K8'⟩
        have K8 := K8'.pick [0, 1, 2, 3] (by decide) (by simp)
        clear K7 K8'
        go_wp2_with fail
        go_roundw
        case rel => exact ⟨i + 1, _, _, _, _, by omega, by go_num, Lib.hid HJ.out.nxt, K8⟩
        case measure => simp [intOf]; omega
      · obtain ⟨s', t', o, y, J⟩ := rn2 B0 B1 (by omega) I.out steal_ok8 (fun a q ha => same_steal 4 a q ha) (m := dqSteal)
        have HJ := Lib.hid J
        clear J
        go_wp2_with fail
        refine (Steal_4 G).mono ?_
        rintro r v1 ⟨x1, rfl, K1⟩
        clear b0 b1 b2 b3 fb
        obtain ⟨b0, b1, b2, b3, fb⟩ := row4 (K1.get 1 rfl)
        go_wp2_with fail
        refine (Steal_4 K1).mono ?_
        rintro r v2 ⟨x2, rfl, K2'⟩
        have K2 : Has w v2 [slC _ .u8 (.slice (some ⟨cb, off, none⟩) acts.length pc) acts, blkC _ eb #[.int .i64 0, .int .i64 1, .int .i64 2, .int .i64 4] 25, storeC _ sb sg s n1, storeC _ tb tg t n2, dqC _ x1 (en 4) dqSteal, dqC _ x2 (en 4) dqSteal] := K2'
        clear b0 b1 b2 b3 fb K1 K2' G
        go_wp2_with fail
        refine (whole_h K2 2 4 rfl (by decide) rfl en4_ok steal_ok8 I.out.ws).mono ?_
        rw [HJ.out.hs, HJ.out.os.1, HJ.out.os.2]
        rintro r v3 ⟨n3, rfl, K3'⟩
        have K3 : Has w v3 [slC _ .u8 (.slice (some ⟨cb, off, none⟩) acts.length pc) acts, blkC _ eb #[.int .i64 0, .int .i64 1, .int .i64 2, .int .i64 4] 25, storeC _ sb sg s'.1 n3, storeC _ tb tg t n2, dqC _ x1 (en 4) s'.2, dqC _ x2 (en 4) dqSteal] := K3'
        clear K2 K3'
        go_wp2_with fail
        refine (whole_h K3 3 5 rfl (by decide) rfl en4_ok steal_ok8 I.out.wt).mono ?_
        rw [HJ.out.ht, HJ.out.ot.1, HJ.out.ot.2]
        rintro r v4 ⟨n4, rfl, K4'⟩
        have K4 : Has w v4 [slC _ .u8 (.slice (some ⟨cb, off, none⟩) acts.length pc) acts, blkC _ eb #[.int .i64 0, .int .i64 1, .int .i64 2, .int .i64 4] 25, storeC _ sb sg s'.1 n3, storeC _ tb tg t'.1 n4, dqC _ x1 (en 4) s'.2, dqC _ x2 (en 4) t'.2] := K4'
        clear K3 K4'
        obtain ⟨S0, hS0⟩ : ∃ S0, mld s'.1 0 = S0 := ⟨_, rfl⟩
        obtain ⟨T0, hT0⟩ : ∃ T0, mld t'.1 0 = T0 := ⟨_, rfl⟩
        obtain ⟨S1, hS1⟩ : ∃ S1, mld s'.1 1 = S1 := ⟨_, rfl⟩
        obtain ⟨T1, hT1⟩ : ∃ T1, mld t'.1 1 = T1 := ⟨_, rfl⟩
        have E0 := HJ.out.e0
        have E1 := HJ.out.e1
        rw [hS0, hT0] at E0
        rw [hS1, hT1] at E1
        have HS0 := Lib.hid hS0
        have HT0 := Lib.hid hT0
        have HS1 := Lib.hid hS1
        have HT1 := Lib.hid hT1
        clear hS0 hT0 hS1 hT1
        go_wp2_with fail
        refine (Load_h K4 3 rfl 0).mono ?_
        rw [HT0.out]
        rintro r v5 ⟨rfl, K5'⟩
        have K5 : Has w v5 [slC _ .u8 (.slice (some ⟨cb, off, none⟩) acts.length pc) acts, blkC _ eb #[.int .i64 0, .int .i64 1, .int .i64 2, .int .i64 4] 25, storeC _ sb sg s'.1 n3, storeC _ tb tg t'.1 (wrap64 (n4 + 1)), dqC _ x1 (en 4) s'.2, dqC _ x2 (en 4) t'.2] := K5'
        clear K4 K5'
        go_wp2_with fail
        refine (Load_h K5 2 rfl 0).mono ?_
        rw [HS0.out]
        rintro r v6 ⟨rfl, K6'⟩
        have K6 : Has w v6 [slC _ .u8 (.slice (some ⟨cb, off, none⟩) acts.length pc) acts, blkC _ eb #[.int .i64 0, .int .i64 1, .int .i64 2, .int .i64 4] 25, storeC _ sb sg s'.1 (wrap64 (n3 + 1)), storeC _ tb tg t'.1 (wrap64 (n4 + 1)), dqC _ x1 (en 4) s'.2, dqC _ x2 (en 4) t'.2] := K6'
        clear K5 K6'
        go_wp2_with fail
        refine (Load_h K6 3 rfl 1).mono ?_
        rw [HT1.out]
        rintro r v7 ⟨rfl, K7'⟩
        have K7 : Has w v7 [slC _ .u8 (.slice (some ⟨cb, off, none⟩) acts.length pc) acts, blkC _ eb #[.int .i64 0, .int .i64 1, .int .i64 2, .int .i64 4] 25, storeC _ sb sg s'.1 (wrap64 (n3 + 1)), storeC _ tb tg t'.1 (wrap64 (wrap64 (n4 + 1) + 1)), dqC _ x1 (en 4) s'.2, dqC _ x2 (en 4) t'.2] := K7'
        clear K6 K7'
        go_wp2_with fail
        refine (Load_h K7 2 rfl 1).mono ?_
        rw [HS1.out]
        rintro r v8 ⟨rfl, K8'⟩
        have K8 := K8'.pick [0, 1, 2, 3] (by decide) (by simp)
        clear K7 K8'
        go_wp2_with fail
        go_roundw
        case rel => exact ⟨i + 1, _, _, _, _, by omega, by go_num, Lib.hid HJ.out.nxt, K8⟩
        case measure => simp [intOf]; omega
    · have hge : ¬ (i : Int) < (acts.length : Int) := by omega
      go_wp2_with fail
      go_ret
      exact ⟨rfl, G.below⟩

theorem walk_DequeRound (B : Int) (a : Option Addr) (len cap : Nat) (zs : List Int) (w : World) (hr : IsRow .u8 w a len cap zs) (B0 : 0 ≤ B) (B1 : B < 18446744073709551616) :
    Calls Try.prog 6 #[.int .u64 B, .slice a len cap] w fun r w' => r = .returned (.bool true) ∧ Below w.heap.size w w' := by
  obtain ⟨l, rfl, hsl, hwf⟩ := row_opens hr
  by_cases h1 : (100 : Int) < (l.length : Int)
  · exact round_big B a _ cap w h1
  · exact round_ok B a cap l w hsl (fun x hx => by have := Go.bounds_u8 (hwf x hx); omega) B0 B1 h1

end Go.Proofs.Ytlmmaijbppdckaa

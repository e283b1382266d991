/- The walk of StackSteps: it answers true, and nothing that was there is changed. No condition but that the arguments can be read. -/
import Derived.Test.YtaciapjohakpgaaMach9H
import Derived.Test.YtaciapjohakpgaaLaw9a
set_option linter.unusedVariables false
namespace Go.Proofs.Ytaciapjohakpgaa
open Go.ChangeShapes Go.WideShapes Go.ChangeAt Go.RowKit

theorem rpc_eq (p : Nat) : ((p == 0) != (rpc p == 0)) = false := by
  match p with
  | 0 => rfl
  | 1 => rfl
  | 2 => rfl
  | 3 => rfl
  | 4 => rfl
  | 5 => rfl
  | k + 6 =>
    have e : rpc (k + 6) = 3 := rfl
    rw [e]; simp

theorem count_eq (m : Mac) (n : Int) (h0 : -9223372036854775808 ≤ n) (h1 : n < 9223372036854775808) : ((mcount m n == wrap64 (n + 1)) != decide (0 < rpc m.pc)) = false := by
  have hne : (n == wrap64 (n + 1)) = false := by simp; unfold wrap64; omega
  obtain ⟨hd, it, h, pc, lk, tr⟩ := m
  match pc with
  | 0 => show ((n == wrap64 (n + 1)) != decide ((0 : Int) < 0)) = false; rw [hne]; rfl
  | 1 => show ((wrap64 (n + 1) == wrap64 (n + 1)) != decide ((0 : Int) < 1)) = false; simp
  | 2 => show ((wrap64 (n + 1) == wrap64 (n + 1)) != decide ((0 : Int) < 2)) = false; simp
  | 3 => show ((wrap64 (n + 1) == wrap64 (n + 1)) != decide ((0 : Int) < 3)) = false; simp
  | 4 => show ((wrap64 (n + 1) == wrap64 (n + 1)) != decide ((0 : Int) < 1)) = false; simp
  | 5 => show ((wrap64 (n + 1) == wrap64 (n + 1)) != decide ((0 : Int) < 2)) = false; simp
  | k + 6 => show ((wrap64 (n + 1) == wrap64 (n + 1)) != decide ((0 : Int) < 3)) = false; simp

theorem i64_wrap (n : Int) : IntKind.i64.wrap n = wrap64 n := by simp [IntKind.wrap, IntKind.bits, IntKind.signed, wrap64]; try omega

theorem wrap_rng (n : Int) : -9223372036854775808 ≤ wrap64 n ∧ wrap64 n < 9223372036854775808 := by unfold wrap64; omega
theorem mcount_rng (m : Mac) (n : Int) (h : -9223372036854775808 ≤ n ∧ n < 9223372036854775808) : -9223372036854775808 ≤ mcount m n ∧ mcount m n < 9223372036854775808 := by
  unfold mcount; split
  · exact h
  · exact wrap_rng _

/-- What holds between two rounds: memory, the machine, and the reference's. -/
structure StepsInv (ls : List Int) (kind : Int) (l : List Int) (m : Mac) (n : Int) (N : Nat) : Prop where
  len : l.length = N
  ws : Ws l
  ok : MacOk m
  kd : kindOk kind m
  rng : -9223372036854775808 ≤ n ∧ n < 9223372036854775808

theorem stepsInv_step {ls l : List Int} {kind n : Int} {m : Mac} {N : Nat} (h : StepsInv ls kind l m n N) : StepsInv ls kind (mstep ls l m).1 (mstep ls l m).2 (mcount m n) N :=
  ⟨(mstep_len ls l m).trans h.len, (mstep_ok ls l m h.ws h.ok).1, (mstep_ok ls l m h.ws h.ok).2, kind_step kind ls l m h.kd, mcount_rng m n h.rng⟩

theorem stepsInv_put {ls l : List Int} {kind n a x : Int} {m : Mac} {N : Nat} (h : StepsInv ls kind l m n N) (h0 : 0 ≤ x) (h1 : x < 18446744073709551616) : StepsInv ls kind (mput l a x) m (wrap64 (n + 1)) N :=
  ⟨(mput_len _ _ _).trans h.len, ws_mput h.ws _ _ h0 h1, h.ok, h.kd, wrap_rng _⟩

def refCells (la : Option Addr) (ln lc : Nat) (kind : Int) (m : Mac) : Array Value := #[.int .i64 kind, .int .i64 (rpc m.pc), .int .i64 m.head, .slice la ln lc, .int .u32 m.item, .int .u64 m.h, .int .u32 m.link, .int .i64 m.tries]


set_option maxRecDepth 100000 in
set_option maxHeartbeats 8000000 in
theorem steps_push (l : List Int) (a : Option Addr) (cap : Nat) (ls : List Int) (ka : Option Addr) (kc : Nat) (hd item : Int) (pv : Value) (np : Nat) (w : World) (hsl : Sl w [] .u64 (.slice a l.length cap) l) (hws : Ws l) (hL : Sl w [] .i64 (.slice ka ls.length kc) ls) (hrow : IsRows [.int .i64, .int .u64] w pv np) (i0 : -9223372036854775808 ≤ item) (i1 : item < 9223372036854775808) (h1 : ¬ (60 : Int) < (l.length : Int)) (h2 : ¬ (30 : Int) < (np : Int)) (h3 : ¬ (60 : Int) < (ls.length : Int)) :
    Calls Try.prog 7 #[.slice a l.length cap, .agg #[.int .i64 hd, .slice ka ls.length kc], .int .i64 item, .bool true, pv] w fun e w' => e = .returned (.bool true) ∧ Below w.heap.size w w' := by
  have g1 : decide ((60 : Int) < (l.length : Int)) = false := by simpa using h1
  have g2 : decide ((30 : Int) < (np : Int)) = false := by simpa using h2
  have g3 : decide ((60 : Int) < (ls.length : Int)) = false := by simpa using h3
  have hl12 : l.length < 1000000000000 := by omega
  have hk12 : ls.length < 1000000000000 := by omega
  obtain ⟨kind, hkind⟩ : ∃ kind : Int, kind = 1 := ⟨_, rfl⟩
  have HKD := Lib.hid hkind
  have SL := Lib.hid hsl
  have LL := Lib.hid hL
  have ROW := Lib.hid hrow
  obtain ⟨pa, pc, rfl⟩ : ∃ pa pc, pv = .slice pa np pc := by
    rcases hrow with ⟨hv, hn⟩ | ⟨y, cap, hv, _⟩
    · exact ⟨none, 0, by rw [hv, hn]⟩
    · exact ⟨_, _, hv⟩
  clear hrow hsl hL hkind
  go_enter Try.func7, Try.ntmps7
  have K0 := blk_new w (.cells #[.int .i64 hd, .slice ka ls.length kc] 25) 0
  have H0 : Has w (w.alloc (.cells #[.int .i64 hd, .slice ka ls.length kc] 25)) [blkC _ w.heap.size #[.int .i64 hd, .slice ka ls.length kc] 25] := (Has.nil w).blkNew _ _
  go_wp2_with fail
  refine (awake9 _).mono ?_
  rintro e w1 ⟨rfl, b1⟩
  have H1 := H0.up b1
  obtain ⟨c0, c1, fz⟩ := row2 (H1.get 0 rfl)
  clear H0 b1 K0
  go_wp2_with fail
  refine (Links_h H1 (v := .slice ka ls.length kc) (ls := ls) (sl_upd (S := []) LL.out (Upd.of_below H1.below) (by simp) (by intro x hx; right; obtain ⟨i, c, hi, hro, hk⟩ := mem_owned hx; exact (H1.lt i c hi x hk).2 hro))).mono ?_
  rintro e w2 ⟨lb, rfl, H2⟩
  clear H1 c0 c1 fz
  obtain ⟨c0, c1, fz⟩ := row2 (H2.get 0 rfl)
  unfold linkV
  go_wp2_with fail
  refine (Pop_h H2 lb hd).mono ?_
  rintro e w3 ⟨mb0, rfl, H3⟩
  clear H2 c0 c1 fz
  obtain ⟨c0, c1, fz⟩ := row2 (H3.get 0 rfl)
  go_wp2_with fail
  refine (RPop_c ka ls.length kc hd _).mono ?_
  rintro e w4 ⟨rfl, b4⟩
  have H4 := H3.up b4
  clear H3 c0 c1 fz b4
  obtain ⟨c0, c1, fz⟩ := row2 (H4.get 0 rfl)
  unfold refV
  have H5 := H4.blkNew #[.int .i64 2, .int .i64 (rpc (popM hd).pc), .int .i64 (popM hd).head, .slice ka ls.length kc, .int .u32 (popM hd).item, .int .u64 (popM hd).h, .int .u32 (popM hd).link, .int .i64 (popM hd).tries] 56
  have fz5 : w.heap.size < w4.heap.size := (H4.lt 0 _ rfl w.heap.size (by simp [blkC])).1
  go_wp2_with fail
  refine (Push_h H5 lb hd item i0 i1).mono ?_
  rintro e w5 ⟨mb, rfl, H6⟩
  clear H5 H4 c0 c1 fz fz5
  have H6 := H6.pick [0, 1, 3, 4] (by decide) (by simp)
  obtain ⟨c0, c1, fz⟩ := row2 (H6.get 0 rfl)
  obtain ⟨x0, x1, x2, x3, x4, x5, x6, x7, fx⟩ := row8 (H6.get 2 rfl)
  go_wp2_with fail
  refine (RPush_c ka ls.length kc hd item _).mono ?_
  rintro e w6 ⟨rfl, b6⟩
  have H7 := H6.up b6
  clear H6 b6 c0 c1 fz x0 x1 x2 x3 x4 x5 x6 x7 fx
  obtain ⟨xb, hxb⟩ : ∃ xb, xb = w4.heap.size := ⟨_, rfl⟩
  rw [← hxb] at H7
  rw [← hxb]
  clear hxb
  obtain ⟨x0, x1, x2, x3, x4, x5, x6, x7, fx⟩ := row8 (H7.get 2 rfl)
  unfold refV
  go_wp2_with fail
  have H8 := (H7.set8 2 rfl (.int .i64 1) (.int .i64 (rpc (pushM hd item).pc)) (.int .i64 (pushM hd item).head) (.slice ka ls.length kc) (.int .u32 (pushM hd item).item) (.int .u64 (pushM hd item).h) (.int .u32 (pushM hd item).link) (.int .i64 (pushM hd item).tries)).addSl SL.out
  refine (New_h H8 _ l (sl_weak (H8.sl 4 rfl) (by simp)) hl12).mono ?_
  rintro e w8 ⟨sb, g, rfl, H9⟩
  have H9 := H9.pick [5, 3, 1, 2, 4] (by decide) (by simp)
  clear H7 H8 x0 x1 x2 x3 x4 x5 x6 x7 fx
  go_wp2_with fail
  have I0 : StepsInv ls 1 l (pushM hd item) 0 l.length := ⟨rfl, hws, pushM_ok _ _, by show kindOk _ _; exact rfl, by omega⟩
  go_loopw [16, 17] (fun mv iv wr => ∃ (k : Nat) (mem : List Int) (m : Mac) (n : Int), k ≤ np + 6 ∧ iv = .int .i64 k ∧ StepsInv ls 1 mem m n l.length ∧ Has w wr [storeC _ sb g mem n, machC _ mb lb m, linksC _ lb (.slice ka ls.length kc) ls, blkC _ xb (refCells ka ls.length kc 1 m) 56, slC _ .u64 mv mem]) (fun _ iv _ => np + 6 - (intOf iv).toNat)
  case atStart => exact ⟨0, l, pushM hd item, 0, Nat.zero_le _, rfl, I0, H9⟩
  case round =>
    obtain ⟨k, mem, m, n, hk, rfl, I, H⟩ := hrel
    have hm12 : mem.length < 1000000000000 := by rw [I.len]; exact hl12
    have hb := H.below
    have e0 : wrap64 ((np : Int) + 6) = (np : Int) + 6 := wrap64_id _ (by omega) (by omega)
    by_cases hlt : k < np + 6
    · have hlt' : (k : Int) < (np : Int) + 6 := by omega
      go_wp2_with fail
      refine (Count_h H 0 rfl).mono ?_
      rintro e v1 ⟨rfl, hw⟩
      obtain rfl := hw.symm
      go_wp2_with fail
      refine (Step_h H 0 1 2 rfl rfl rfl I.ws I.ok hk12).mono ?_
      rintro e v2 ⟨rfl, H2⟩
      clear H
      obtain ⟨x0, x1, x2, x3, x4, x5, x6, x7, fx⟩ := row8 (H2.get 3 rfl)
      go_wp2_with fail
      refine (RStep_h H2 4 (ls := ls) rfl hm12 (H2.linkSl 2 rfl) hk12 I.ws I.ok I.kd).mono ?_
      rintro e v3 ⟨mv', rfl, H3⟩
      clear H2 x0 x1 x2 x3 x4 x5 x6 x7 fx
      have I2 := stepsInv_step I
      have f1 : (((mstep ls mem m).2.pc == 0) != (rpc (mstep ls mem m).2.pc == 0)) = false := rpc_eq _
      have f5 := count_eq m n I.rng.1 I.rng.2
      obtain ⟨mem', hmem⟩ : ∃ q, q = (mstep ls mem m).1 := ⟨_, rfl⟩
      obtain ⟨m', hm'⟩ : ∃ q, q = (mstep ls mem m).2 := ⟨_, rfl⟩
      obtain ⟨n', hn'⟩ : ∃ q, q = mcount m n := ⟨_, rfl⟩
      rw [← hmem, ← hm', ← hn'] at I2 H3
      rw [← hm'] at f1 ⊢
      rw [← hn'] at f5
      clear hmem hm' hn'
      have f2 : (mitem m' != mitem m') = false := by simp
      have f3 : (m'.tries != m'.tries) = false := by simp
      have okm := I2.ok
      have hm13 : mem'.length < 1000000000000 := by rw [I2.len]; exact hl12
      unfold refV
      obtain ⟨ma, mc, rfl⟩ : ∃ ma mc, mv' = .slice ma mem'.length mc := by
        obtain ⟨ma, mc, h, _⟩ := H3.get 4 rfl
        exact ⟨ma, mc, h⟩
      obtain ⟨x0, x1, x2, x3, x4, x5, x6, x7, fx⟩ := row8 (H3.get 3 rfl)
      have hx3 : xb < v3.heap.size := (H3.lt 3 _ rfl xb (by simp [blkC])).1
      have fq := fx 0
      clear I
      go_wp2_with fail
      have H5 := (H3.set8 3 rfl (.int .i64 1) (.int .i64 (rpc m'.pc)) (.int .i64 m'.head) (.slice ka ls.length kc) (.int .u32 m'.item) (.int .u64 m'.h) (.int .u32 m'.link) (.int .i64 m'.tries)).alloc (.cells #[.int .i64 1, .int .i64 (rpc m'.pc), .int .i64 m'.head, .slice ka ls.length kc, .int .u32 m'.item, .int .u64 m'.h, .int .u32 m'.link, .int .i64 m'.tries] 56)
      obtain ⟨W, HW, eW⟩ := H5.name
      rw [← eW.out]
      clear H3 H5 eW x0 x1 x2 x3 x4 x5 x6 x7 fx fq hx3
      have HD := HW.drew
      obtain ⟨x0, x1, x2, x3, x4, x5, x6, x7, fx⟩ := row8 (HD.get 3 rfl)
      have f1b : (rpc m'.pc == 0) = (m'.pc == 0) := by revert f1; cases (m'.pc == 0) <;> cases (rpc m'.pc == 0) <;> simp
      have f5b : (n' == IntKind.i64.wrap (n + 1)) = decide (0 < rpc m.pc) := by rw [i64_wrap]; revert f5; cases (n' == wrap64 (n + 1)) <;> cases decide (0 < rpc m.pc) <;> simp
      clear f1 f5
      generalize (m'.pc == 0) = B at f1b ⊢
      generalize decide (0 < rpc m.pc) = D at f5b ⊢
      go_region_held3 (fun w' => w'.cell? ⟨xb, 0, none⟩ = some (.int .i64 1) ∧ w'.cell? ⟨xb, 1, none⟩ = some (.int .i64 (rpc m'.pc)) ∧ w'.cell? ⟨xb, 2, none⟩ = some (.int .i64 m'.head) ∧ w'.cell? ⟨xb, 3, none⟩ = some (.slice ka ls.length kc) ∧ w'.cell? ⟨xb, 4, none⟩ = some (.int .u32 m'.item) ∧ w'.cell? ⟨xb, 5, none⟩ = some (.int .u64 m'.h) ∧ w'.cell? ⟨xb, 6, none⟩ = some (.int .u32 m'.link) ∧ w'.cell? ⟨xb, 7, none⟩ = some (.int .i64 m'.tries)) ((refine ⟨?_, ?_, ?_, ?_, ?_, ?_, ?_, ?_⟩ <;> (with_reducible assumption))) (first | (go_at_call 22; refine (Item_h HD 1 rfl okm).mono ?_; rintro e v4 ⟨rfl, hw⟩; obtain rfl := hw.symm) | (go_at_call 27; refine (RItem_c ka ls.length kc 1 m' _ okm).mono ?_; rintro e v5 ⟨rfl, b5⟩; have H5 := HD.up b5; obtain ⟨y0, y1, y2, y3, y4, y5, y6, y7, fy⟩ := row8 (H5.get 3 rfl)) | (go_at_call 17; refine (Tries_h H5 1 rfl).mono ?_; rintro e v6 ⟨rfl, hw⟩; obtain rfl := hw.symm) | (go_at_call 21; refine (All_h H5 0 rfl hm13).mono ?_; rintro e v7 ⟨sv, rfl, H6⟩; obtain ⟨z0, z1, z2, z3, z4, z5, z6, z7, fz⟩ := row8 (H6.get 3 rfl)) | (go_at_call 28; refine (RSame_h H6 5 rfl 4 rfl hm13).mono ?_; rintro e v8 ⟨rfl, dn, rfl⟩; have H7 := H6.drewN dn; obtain ⟨q0, q1, q2, q3, q4, q5, q6, q7, fq⟩ := row8 (H7.get 3 rfl)) | (go_at_call 25; refine (Count_h H7 0 rfl).mono ?_; rintro e v9 ⟨rfl, hw⟩; obtain rfl := hw.symm))
      have H8 := H7.pick [0, 1, 2, 3, 4] (by decide) (by simp)
      have hb8 := H8.below
      clear H7 H6 H5 HD HW x0 x1 x2 x3 x4 x5 x6 x7 fx y0 y1 y2 y3 y4 y5 y6 y7 fy z0 z1 z2 z3 z4 z5 z6 z7 fz q0 q1 q2 q3 q4 q5 q6 q7 fq
      by_cases hp : k < np
      · have hp' : (k : Int) < (np : Int) := by omega
        obtain ⟨pb, poff, pcap, hpv, hpb, hrows⟩ := rows_at ROW.out (by omega) (by decide)
        simp only [Value.slice.injEq] at hpv
        obtain ⟨rfl, -, rfl⟩ := hpv
        obtain ⟨vs, hsc, hcl⟩ := hrows k hp
        obtain ⟨p0, p1, rfl, ⟨at_, rfl, w0⟩, ⟨x, rfl, w1⟩⟩ := scal2 hsc
        have xb0 := Go.bounds_u64 w1
        have d0 := (hb8.cell (p := ⟨pb, poff + k * 2, none⟩) hpb).trans (hcl 0 (by decide))
        have d1 := (hb8.cell (p := ⟨pb, poff + k * 2 + 1, none⟩) hpb).trans (hcl 1 (by decide))
        go_wp2_with fail
        have D0 : (v7.drewN dn).drew.cell? ⟨pb, poff + k * 2, none⟩ = some (.int .i64 at_) := d0
        have D1 : (v7.drewN dn).drew.cell? ⟨pb, poff + k * 2 + 1, none⟩ = some (.int .u64 x) := d1
        have HP := H8.drew
        go_region_held3 (fun w' => w'.cell? ⟨pb, poff + k * 2, none⟩ = some (.int .i64 at_) ∧ w'.cell? ⟨pb, poff + k * 2 + 1, none⟩ = some (.int .u64 x)) (first | (refine ⟨?_, ?_⟩ <;> (with_reducible assumption)) | (refine ⟨?_, ?_⟩ <;> assumption)) (first | (go_at_call 29; refine (Put_h HP 0 rfl at_ x).mono ?_; rintro e t1 ⟨rfl, H9⟩; have hb9 := H9.below; have E0 := (hb9.cell (p := ⟨pb, poff + k * 2, none⟩) hpb).trans (hcl 0 (by decide)); have E1 := (hb9.cell (p := ⟨pb, poff + k * 2 + 1, none⟩) hpb).trans (hcl 1 (by decide))))
        have F0 : t1.drew.cell? ⟨pb, poff + k * 2, none⟩ = some (.int .i64 at_) := E0
        have F1 : t1.drew.cell? ⟨pb, poff + k * 2 + 1, none⟩ = some (.int .u64 x) := E1
        have HQ := H9.drew
        clear d0 d1 D0 D1
        go_wp2_with fail
        go_region_held3 (fun w' => w'.cell? ⟨pb, poff + k * 2, none⟩ = some (.int .i64 at_) ∧ w'.cell? ⟨pb, poff + k * 2 + 1, none⟩ = some (.int .u64 x)) (first | (refine ⟨?_, ?_⟩ <;> (with_reducible assumption)) | (refine ⟨?_, ?_⟩ <;> assumption)) (first | (go_at_call 30; refine (RPut_h HQ 4 rfl at_ x hm13).mono ?_; rintro e t2 ⟨mv2, rfl, H10⟩; have hb10 := H10.below; have G0 := (hb10.cell (p := ⟨pb, poff + k * 2, none⟩) hpb).trans (hcl 0 (by decide)); have G1 := (hb10.cell (p := ⟨pb, poff + k * 2 + 1, none⟩) hpb).trans (hcl 1 (by decide))))
        go_wp2_with fail
        go_roundw
        case rel => exact ⟨k + 1, _, _, _, by omega, by go_num, stepsInv_put I2 xb0.1 (by omega), H10⟩
        case measure => simp [intOf]; omega
      · have hp' : ¬ (k : Int) < (np : Int) := by omega
        go_wp2_with fail
        go_roundw
        case rel => exact ⟨k + 1, _, _, _, by omega, by go_num, I2, H8⟩
        case measure => simp [intOf]; omega
    · have hge : ¬ (k : Int) < (np : Int) + 6 := by omega
      go_wp2_with fail
      refine (Step_nil _ _).mono ?_
      rintro e t1 ⟨rfl, hw⟩
      obtain rfl := hw.symm
      go_wp2_with fail
      refine (Item_nil _).mono ?_
      rintro e t1 ⟨rfl, hw⟩
      obtain rfl := hw.symm
      go_wp2_with fail
      refine (Tries_nil _).mono ?_
      rintro e t1 ⟨rfl, hw⟩
      obtain rfl := hw.symm
      go_wp2_with fail
      go_ret
      exact ⟨rfl, hb⟩


set_option maxRecDepth 100000 in
set_option maxHeartbeats 8000000 in
theorem steps_pop (l : List Int) (a : Option Addr) (cap : Nat) (ls : List Int) (ka : Option Addr) (kc : Nat) (hd item : Int) (pv : Value) (np : Nat) (w : World) (hsl : Sl w [] .u64 (.slice a l.length cap) l) (hws : Ws l) (hL : Sl w [] .i64 (.slice ka ls.length kc) ls) (hrow : IsRows [.int .i64, .int .u64] w pv np) (i0 : -9223372036854775808 ≤ item) (i1 : item < 9223372036854775808) (h1 : ¬ (60 : Int) < (l.length : Int)) (h2 : ¬ (30 : Int) < (np : Int)) (h3 : ¬ (60 : Int) < (ls.length : Int)) :
    Calls Try.prog 7 #[.slice a l.length cap, .agg #[.int .i64 hd, .slice ka ls.length kc], .int .i64 item, .bool false, pv] w fun e w' => e = .returned (.bool true) ∧ Below w.heap.size w w' := by
  have g1 : decide ((60 : Int) < (l.length : Int)) = false := by simpa using h1
  have g2 : decide ((30 : Int) < (np : Int)) = false := by simpa using h2
  have g3 : decide ((60 : Int) < (ls.length : Int)) = false := by simpa using h3
  have hl12 : l.length < 1000000000000 := by omega
  have hk12 : ls.length < 1000000000000 := by omega
  obtain ⟨kind, hkind⟩ : ∃ kind : Int, kind = 2 := ⟨_, rfl⟩
  have HKD := Lib.hid hkind
  have SL := Lib.hid hsl
  have LL := Lib.hid hL
  have ROW := Lib.hid hrow
  obtain ⟨pa, pc, rfl⟩ : ∃ pa pc, pv = .slice pa np pc := by
    rcases hrow with ⟨hv, hn⟩ | ⟨y, cap, hv, _⟩
    · exact ⟨none, 0, by rw [hv, hn]⟩
    · exact ⟨_, _, hv⟩
  clear hrow hsl hL hkind
  go_enter Try.func7, Try.ntmps7
  have K0 := blk_new w (.cells #[.int .i64 hd, .slice ka ls.length kc] 25) 0
  have H0 : Has w (w.alloc (.cells #[.int .i64 hd, .slice ka ls.length kc] 25)) [blkC _ w.heap.size #[.int .i64 hd, .slice ka ls.length kc] 25] := (Has.nil w).blkNew _ _
  go_wp2_with fail
  refine (awake9 _).mono ?_
  rintro e w1 ⟨rfl, b1⟩
  have H1 := H0.up b1
  obtain ⟨c0, c1, fz⟩ := row2 (H1.get 0 rfl)
  clear H0 b1 K0
  go_wp2_with fail
  refine (Links_h H1 (v := .slice ka ls.length kc) (ls := ls) (sl_upd (S := []) LL.out (Upd.of_below H1.below) (by simp) (by intro x hx; right; obtain ⟨i, c, hi, hro, hk⟩ := mem_owned hx; exact (H1.lt i c hi x hk).2 hro))).mono ?_
  rintro e w2 ⟨lb, rfl, H2⟩
  clear H1 c0 c1 fz
  obtain ⟨c0, c1, fz⟩ := row2 (H2.get 0 rfl)
  unfold linkV
  go_wp2_with fail
  refine (Pop_h H2 lb hd).mono ?_
  rintro e w3 ⟨mb0, rfl, H3⟩
  clear H2 c0 c1 fz
  obtain ⟨c0, c1, fz⟩ := row2 (H3.get 0 rfl)
  go_wp2_with fail
  refine (RPop_c ka ls.length kc hd _).mono ?_
  rintro e w4 ⟨rfl, b4⟩
  have H4 := H3.up b4
  clear H3 c0 c1 fz b4
  obtain ⟨c0, c1, fz⟩ := row2 (H4.get 0 rfl)
  unfold refV
  have H5 := (H4.blkNew #[.int .i64 2, .int .i64 (rpc (popM hd).pc), .int .i64 (popM hd).head, .slice ka ls.length kc, .int .u32 (popM hd).item, .int .u64 (popM hd).h, .int .u32 (popM hd).link, .int .i64 (popM hd).tries] 56).addSl SL.out
  go_wp2_with fail
  refine (New_h H5 _ l (sl_weak (H5.sl 4 rfl) (by simp)) hl12).mono ?_
  rintro e w8 ⟨sb, g, rfl, H9⟩
  have H9 := H9.pick [5, 2, 1, 3, 4] (by decide) (by simp)
  obtain ⟨xb, hxb⟩ : ∃ xb, xb = w4.heap.size := ⟨_, rfl⟩
  rw [← hxb] at H9
  rw [← hxb]
  clear hxb
  obtain ⟨mb, hmb⟩ : ∃ mb, mb = mb0 := ⟨_, rfl⟩
  rw [← hmb] at H9
  rw [← hmb]
  clear hmb H5 H4 c0 c1 fz
  go_wp2_with fail
  have I0 : StepsInv ls 2 l (popM hd) 0 l.length := ⟨rfl, hws, popM_ok _, by show kindOk _ _; exact rfl, by omega⟩
  go_loopw [16, 17] (fun mv iv wr => ∃ (k : Nat) (mem : List Int) (m : Mac) (n : Int), k ≤ np + 6 ∧ iv = .int .i64 k ∧ StepsInv ls 2 mem m n l.length ∧ Has w wr [storeC _ sb g mem n, machC _ mb lb m, linksC _ lb (.slice ka ls.length kc) ls, blkC _ xb (refCells ka ls.length kc 2 m) 56, slC _ .u64 mv mem]) (fun _ iv _ => np + 6 - (intOf iv).toNat)
  case atStart => exact ⟨0, l, popM hd, 0, Nat.zero_le _, rfl, I0, H9⟩
  case round =>
    obtain ⟨k, mem, m, n, hk, rfl, I, H⟩ := hrel
    have hm12 : mem.length < 1000000000000 := by rw [I.len]; exact hl12
    have hb := H.below
    have e0 : wrap64 ((np : Int) + 6) = (np : Int) + 6 := wrap64_id _ (by omega) (by omega)
    by_cases hlt : k < np + 6
    · have hlt' : (k : Int) < (np : Int) + 6 := by omega
      go_wp2_with fail
      refine (Count_h H 0 rfl).mono ?_
      rintro e v1 ⟨rfl, hw⟩
      obtain rfl := hw.symm
      go_wp2_with fail
      refine (Step_h H 0 1 2 rfl rfl rfl I.ws I.ok hk12).mono ?_
      rintro e v2 ⟨rfl, H2⟩
      clear H
      obtain ⟨x0, x1, x2, x3, x4, x5, x6, x7, fx⟩ := row8 (H2.get 3 rfl)
      go_wp2_with fail
      refine (RStep_h H2 4 (ls := ls) rfl hm12 (H2.linkSl 2 rfl) hk12 I.ws I.ok I.kd).mono ?_
      rintro e v3 ⟨mv', rfl, H3⟩
      clear H2 x0 x1 x2 x3 x4 x5 x6 x7 fx
      have I2 := stepsInv_step I
      have f1 : (((mstep ls mem m).2.pc == 0) != (rpc (mstep ls mem m).2.pc == 0)) = false := rpc_eq _
      have f5 := count_eq m n I.rng.1 I.rng.2
      obtain ⟨mem', hmem⟩ : ∃ q, q = (mstep ls mem m).1 := ⟨_, rfl⟩
      obtain ⟨m', hm'⟩ : ∃ q, q = (mstep ls mem m).2 := ⟨_, rfl⟩
      obtain ⟨n', hn'⟩ : ∃ q, q = mcount m n := ⟨_, rfl⟩
      rw [← hmem, ← hm', ← hn'] at I2 H3
      rw [← hm'] at f1 ⊢
      rw [← hn'] at f5
      clear hmem hm' hn'
      have f2 : (mitem m' != mitem m') = false := by simp
      have f3 : (m'.tries != m'.tries) = false := by simp
      have okm := I2.ok
      have hm13 : mem'.length < 1000000000000 := by rw [I2.len]; exact hl12
      unfold refV
      obtain ⟨ma, mc, rfl⟩ : ∃ ma mc, mv' = .slice ma mem'.length mc := by
        obtain ⟨ma, mc, h, _⟩ := H3.get 4 rfl
        exact ⟨ma, mc, h⟩
      obtain ⟨x0, x1, x2, x3, x4, x5, x6, x7, fx⟩ := row8 (H3.get 3 rfl)
      have hx3 : xb < v3.heap.size := (H3.lt 3 _ rfl xb (by simp [blkC])).1
      have fq := fx 0
      clear I
      go_wp2_with fail
      have H5 := (H3.set8 3 rfl (.int .i64 2) (.int .i64 (rpc m'.pc)) (.int .i64 m'.head) (.slice ka ls.length kc) (.int .u32 m'.item) (.int .u64 m'.h) (.int .u32 m'.link) (.int .i64 m'.tries)).alloc (.cells #[.int .i64 2, .int .i64 (rpc m'.pc), .int .i64 m'.head, .slice ka ls.length kc, .int .u32 m'.item, .int .u64 m'.h, .int .u32 m'.link, .int .i64 m'.tries] 56)
      obtain ⟨W, HW, eW⟩ := H5.name
      rw [← eW.out]
      clear H3 H5 eW x0 x1 x2 x3 x4 x5 x6 x7 fx fq hx3
      have HD := HW.drew
      obtain ⟨x0, x1, x2, x3, x4, x5, x6, x7, fx⟩ := row8 (HD.get 3 rfl)
      have f1b : (rpc m'.pc == 0) = (m'.pc == 0) := by revert f1; cases (m'.pc == 0) <;> cases (rpc m'.pc == 0) <;> simp
      have f5b : (n' == IntKind.i64.wrap (n + 1)) = decide (0 < rpc m.pc) := by rw [i64_wrap]; revert f5; cases (n' == wrap64 (n + 1)) <;> cases decide (0 < rpc m.pc) <;> simp
      clear f1 f5
      generalize (m'.pc == 0) = B at f1b ⊢
      generalize decide (0 < rpc m.pc) = D at f5b ⊢
      go_region_held3 (fun w' => w'.cell? ⟨xb, 0, none⟩ = some (.int .i64 2) ∧ w'.cell? ⟨xb, 1, none⟩ = some (.int .i64 (rpc m'.pc)) ∧ w'.cell? ⟨xb, 2, none⟩ = some (.int .i64 m'.head) ∧ w'.cell? ⟨xb, 3, none⟩ = some (.slice ka ls.length kc) ∧ w'.cell? ⟨xb, 4, none⟩ = some (.int .u32 m'.item) ∧ w'.cell? ⟨xb, 5, none⟩ = some (.int .u64 m'.h) ∧ w'.cell? ⟨xb, 6, none⟩ = some (.int .u32 m'.link) ∧ w'.cell? ⟨xb, 7, none⟩ = some (.int .i64 m'.tries)) ((refine ⟨?_, ?_, ?_, ?_, ?_, ?_, ?_, ?_⟩ <;> (with_reducible assumption))) (first | (go_at_call 22; refine (Item_h HD 1 rfl okm).mono ?_; rintro e v4 ⟨rfl, hw⟩; obtain rfl := hw.symm) | (go_at_call 27; refine (RItem_c ka ls.length kc 2 m' _ okm).mono ?_; rintro e v5 ⟨rfl, b5⟩; have H5 := HD.up b5; obtain ⟨y0, y1, y2, y3, y4, y5, y6, y7, fy⟩ := row8 (H5.get 3 rfl)) | (go_at_call 17; refine (Tries_h H5 1 rfl).mono ?_; rintro e v6 ⟨rfl, hw⟩; obtain rfl := hw.symm) | (go_at_call 21; refine (All_h H5 0 rfl hm13).mono ?_; rintro e v7 ⟨sv, rfl, H6⟩; obtain ⟨z0, z1, z2, z3, z4, z5, z6, z7, fz⟩ := row8 (H6.get 3 rfl)) | (go_at_call 28; refine (RSame_h H6 5 rfl 4 rfl hm13).mono ?_; rintro e v8 ⟨rfl, dn, rfl⟩; have H7 := H6.drewN dn; obtain ⟨q0, q1, q2, q3, q4, q5, q6, q7, fq⟩ := row8 (H7.get 3 rfl)) | (go_at_call 25; refine (Count_h H7 0 rfl).mono ?_; rintro e v9 ⟨rfl, hw⟩; obtain rfl := hw.symm))
      have H8 := H7.pick [0, 1, 2, 3, 4] (by decide) (by simp)
      have hb8 := H8.below
      clear H7 H6 H5 HD HW x0 x1 x2 x3 x4 x5 x6 x7 fx y0 y1 y2 y3 y4 y5 y6 y7 fy z0 z1 z2 z3 z4 z5 z6 z7 fz q0 q1 q2 q3 q4 q5 q6 q7 fq
      by_cases hp : k < np
      · have hp' : (k : Int) < (np : Int) := by omega
        obtain ⟨pb, poff, pcap, hpv, hpb, hrows⟩ := rows_at ROW.out (by omega) (by decide)
        simp only [Value.slice.injEq] at hpv
        obtain ⟨rfl, -, rfl⟩ := hpv
        obtain ⟨vs, hsc, hcl⟩ := hrows k hp
        obtain ⟨p0, p1, rfl, ⟨at_, rfl, w0⟩, ⟨x, rfl, w1⟩⟩ := scal2 hsc
        have xb0 := Go.bounds_u64 w1
        have d0 := (hb8.cell (p := ⟨pb, poff + k * 2, none⟩) hpb).trans (hcl 0 (by decide))
        have d1 := (hb8.cell (p := ⟨pb, poff + k * 2 + 1, none⟩) hpb).trans (hcl 1 (by decide))
        go_wp2_with fail
        have D0 : (v7.drewN dn).drew.cell? ⟨pb, poff + k * 2, none⟩ = some (.int .i64 at_) := d0
        have D1 : (v7.drewN dn).drew.cell? ⟨pb, poff + k * 2 + 1, none⟩ = some (.int .u64 x) := d1
        have HP := H8.drew
        go_region_held3 (fun w' => w'.cell? ⟨pb, poff + k * 2, none⟩ = some (.int .i64 at_) ∧ w'.cell? ⟨pb, poff + k * 2 + 1, none⟩ = some (.int .u64 x)) (first | (refine ⟨?_, ?_⟩ <;> (with_reducible assumption)) | (refine ⟨?_, ?_⟩ <;> assumption)) (first | (go_at_call 29; refine (Put_h HP 0 rfl at_ x).mono ?_; rintro e t1 ⟨rfl, H9⟩; have hb9 := H9.below; have E0 := (hb9.cell (p := ⟨pb, poff + k * 2, none⟩) hpb).trans (hcl 0 (by decide)); have E1 := (hb9.cell (p := ⟨pb, poff + k * 2 + 1, none⟩) hpb).trans (hcl 1 (by decide))))
        have F0 : t1.drew.cell? ⟨pb, poff + k * 2, none⟩ = some (.int .i64 at_) := E0
        have F1 : t1.drew.cell? ⟨pb, poff + k * 2 + 1, none⟩ = some (.int .u64 x) := E1
        have HQ := H9.drew
        clear d0 d1 D0 D1
        go_wp2_with fail
        go_region_held3 (fun w' => w'.cell? ⟨pb, poff + k * 2, none⟩ = some (.int .i64 at_) ∧ w'.cell? ⟨pb, poff + k * 2 + 1, none⟩ = some (.int .u64 x)) (first | (refine ⟨?_, ?_⟩ <;> (with_reducible assumption)) | (refine ⟨?_, ?_⟩ <;> assumption)) (first | (go_at_call 30; refine (RPut_h HQ 4 rfl at_ x hm13).mono ?_; rintro e t2 ⟨mv2, rfl, H10⟩; have hb10 := H10.below; have G0 := (hb10.cell (p := ⟨pb, poff + k * 2, none⟩) hpb).trans (hcl 0 (by decide)); have G1 := (hb10.cell (p := ⟨pb, poff + k * 2 + 1, none⟩) hpb).trans (hcl 1 (by decide))))
        go_wp2_with fail
        go_roundw
        case rel => exact ⟨k + 1, _, _, _, by omega, by go_num, stepsInv_put I2 xb0.1 (by omega), H10⟩
        case measure => simp [intOf]; omega
      · have hp' : ¬ (k : Int) < (np : Int) := by omega
        go_wp2_with fail
        go_roundw
        case rel => exact ⟨k + 1, _, _, _, by omega, by go_num, I2, H8⟩
        case measure => simp [intOf]; omega
    · have hge : ¬ (k : Int) < (np : Int) + 6 := by omega
      go_wp2_with fail
      refine (Step_nil _ _).mono ?_
      rintro e t1 ⟨rfl, hw⟩
      obtain rfl := hw.symm
      go_wp2_with fail
      refine (Item_nil _).mono ?_
      rintro e t1 ⟨rfl, hw⟩
      obtain rfl := hw.symm
      go_wp2_with fail
      refine (Tries_nil _).mono ?_
      rintro e t1 ⟨rfl, hw⟩
      obtain rfl := hw.symm
      go_wp2_with fail
      go_ret
      exact ⟨rfl, hb⟩

set_option maxRecDepth 100000 in
theorem steps_other (l : List Int) (a : Option Addr) (cap : Nat) (kv : Option Addr) (kn kc : Nat) (hd item : Int) (push : Bool) (pa : Option Addr) (np pc : Nat) (w : World) (h : (60 : Int) < (l.length : Int) ∨ (30 : Int) < (np : Int) ∨ (60 : Int) < (kn : Int)) :
    Calls Try.prog 7 #[.slice a l.length cap, .agg #[.int .i64 hd, .slice kv kn kc], .int .i64 item, .bool push, .slice pa np pc] w fun e w' => e = .returned (.bool true) ∧ Below w.heap.size w w' := by
  by_cases h1 : (60 : Int) < (l.length : Int)
  · clear h
    go_enter Try.func7, Try.ntmps7
    go_wp2_with fail
    refine (awake9 _).mono ?_
    rintro e w1 ⟨rfl, b1⟩
    go_wp2_with fail
    go_ret
    exact ⟨rfl, (below_box w _ 0).trans (b1.mono (by simp))⟩
  · have h := h.resolve_left h1
    have g1 : decide ((60 : Int) < (l.length : Int)) = false := by simpa using h1
    by_cases h2 : (30 : Int) < (np : Int)
    · clear h
      go_enter Try.func7, Try.ntmps7
      go_wp2_with fail
      refine (awake9 _).mono ?_
      rintro e w1 ⟨rfl, b1⟩
      go_wp2_with fail
      go_ret
      exact ⟨rfl, (below_box w _ 0).trans (b1.mono (by simp))⟩
    · have h3 := h.resolve_left h2
      have g2 : decide ((30 : Int) < (np : Int)) = false := by simpa using h2
      clear h
      go_enter Try.func7, Try.ntmps7
      have H0 : Has w (w.alloc (.cells #[.int .i64 hd, .slice kv kn kc] 25)) [blkC _ w.heap.size #[.int .i64 hd, .slice kv kn kc] 25] := (Has.nil w).blkNew _ _
      go_wp2_with fail
      refine (awake9 _).mono ?_
      rintro e w1 ⟨rfl, b1⟩
      have H1 := H0.up b1
      obtain ⟨c0, c1, fz⟩ := row2 (H1.get 0 rfl)
      go_wp2_with fail
      go_ret
      exact ⟨rfl, H1.below⟩

theorem walk_StackSteps (a : Option Addr) (len cap : Nat) (zs : List Int) (hd : Int) (ka : Option Addr) (kn kc : Nat) (ks : List Int) (item : Int) (push : Bool) (pa : Option Addr) (pl pc np : Nat) (w : World) (hr : IsRow .u64 w a len cap zs) (hk : IsRow .i64 w ka kn kc ks) (hp : IsRows [.int .i64, .int .u64] w (.slice pa pl pc) np) (i0 : -9223372036854775808 ≤ item) (i1 : item < 9223372036854775808) :
    Calls Try.prog 7 #[.slice a len cap, .agg #[.int .i64 hd, .slice ka kn kc], .int .i64 item, .bool push, .slice pa pl pc] w fun e w' => e = .returned (.bool true) ∧ Below w.heap.size w w' := by
  obtain rfl : pl = np := by
    rcases hp with ⟨h, h0⟩ | ⟨y, c, h, _⟩
    · cases h; exact h0.symm
    · cases h; rfl
  obtain ⟨l, rfl, hsl, hwf⟩ := row_opens hr
  obtain ⟨ls, rfl, hls, hwl⟩ := row_opens hk
  have hws := ws_of_wf hwf
  by_cases h1 : (60 : Int) < (l.length : Int)
  · exact steps_other l a cap ka _ kc hd item push pa _ pc w (.inl h1)
  by_cases h2 : (30 : Int) < (pl : Int)
  · exact steps_other l a cap ka _ kc hd item push pa _ pc w (.inr (.inl h2))
  by_cases h3 : (60 : Int) < (ls.length : Int)
  · exact steps_other l a cap ka _ kc hd item push pa _ pc w (.inr (.inr h3))
  cases push with
  | true => exact steps_push l a cap ls ka kc hd item _ _ w hsl hws hls hp i0 i1 h1 h2 h3
  | false => exact steps_pop l a cap ls ka kc hd item _ _ w hsl hws hls hp i0 i1 h1 h2 h3

end Go.Proofs.Ytaciapjohakpgaa

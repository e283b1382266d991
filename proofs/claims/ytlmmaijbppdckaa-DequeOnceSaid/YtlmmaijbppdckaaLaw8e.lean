/- DequeOnce. -/
import Derived.Test.YtlmmaijbppdckaaDo8
import Derived.Test.YtlmmaijbppdckaaLaw8a
import Derived.Deep.DeepCutAuto
import Derived.Deep.CutBlock
import Derived.Deep.RegionHeld3
set_option linter.unusedVariables false
set_option linter.unusedSimpArgs false
namespace Go.Proofs.Ytlmmaijbppdckaa
open Go.ChangeShapes Go.WideShapes Go.ChangeAt Go.RowKit

theorem el_u64o : ElemOf Try.prog 28 29 (.int .u64 0) 1 8 := elemOf Try.underlying28 (by kernel_rfl)
theorem el_into : ElemOf Try.prog 37 3 (.int .i64 0) 1 8 := elemOf Try.underlying37 (by kernel_rfl)
theorem el_boolo : ElemOf Try.prog 36 4 (.bool false) 1 1 := elemOf Try.underlying36 (by kernel_rfl)

theorem eno_ok {n : Nat} (h1 : 1 ≤ n) (h4 : n ≤ 4) : EnOk (en n) := ⟨by show (-1000 : Int) ≤ 2; omega, by show (2 : Int) ≤ 1000; omega, by show (n : Int) ≤ 1000; omega, by show -9223372036854775808 ≤ (n : Int); omega⟩

section
variable {w0 w : World} {cs : List (Chunk w0.heap.size)} (H : Has w0 w cs) (n : Nat)
include H
theorem Push_o (x : Int) : Calls Try.prog 11 #[.agg #[.int .i64 0, .int .i64 1, .int .i64 2, .int .i64 n], .int .u64 x] w fun r w' => ∃ xb, r = .returned (.pointer (some ⟨xb, 0, none⟩)) ∧ Has w0 w' (cs ++ [dqC _ xb (en n) (dqPush x)]) := Push_h H (en n) x
theorem Pop_o : Calls Try.prog 12 #[.agg #[.int .i64 0, .int .i64 1, .int .i64 2, .int .i64 n]] w fun r w' => ∃ xb, r = .returned (.pointer (some ⟨xb, 0, none⟩)) ∧ Has w0 w' (cs ++ [dqC _ xb (en n) dqPop]) := Pop_h H (en n)
theorem Steal_o : Calls Try.prog 13 #[.agg #[.int .i64 0, .int .i64 1, .int .i64 2, .int .i64 n]] w fun r w' => ∃ xb, r = .returned (.pointer (some ⟨xb, 0, none⟩)) ∧ Has w0 w' (cs ++ [dqC _ xb (en n) dqSteal]) := Steal_h H (en n)
end

theorem StepNil_o (v : Value) (w : World) : Calls Try.prog 14 #[.pointer none, v] w fun e w' => e = .returned (.bool true) ∧ w' = w := by
  go_enter Try.func14, Try.ntmps14
  go_wp2
  go_ret
  exact ⟨rfl, rfl⟩
theorem ResultNil_o (w : World) : Calls Try.prog 15 #[.pointer none] w fun e w' => e = .returned (.tuple #[.int .i64 0, .int .u64 0]) ∧ w' = w := by
  go_enter Try.func15, Try.ntmps15
  go_wp2
  go_ret2
  exact ⟨rfl, rfl⟩

theorem alloc_cello {w : World} {b o : Nat} {u : Value} (ob : Obj) (hb : b < w.heap.size) (h : w.cell? ⟨b, o, none⟩ = some u) : (w.alloc ob).cell? ⟨b, o, none⟩ = some u := by
  rw [World.cell?_of_block (w := w) (a := ⟨b, o, none⟩) (Below.heap_alloc w _ _ hb)]; exact h
theorem cell_drewNo (w : World) (n : Nat) (a : Addr) : (w.drewN n).cell? a = w.cell? a := rfl
theorem cell_drewo (w : World) (a : Addr) : w.drew.cell? a = w.cell? a := rfl

set_option maxRecDepth 100000 in
set_option maxHeartbeats 16000000 in
theorem donce_ok (v : Int) (v0 : 0 ≤ v) (v1 : v < 256) (pa aa : Option Addr) (pcap acap an : Nat) (pks : List Int) (bs : List Bool) (hbs : bs.length = an) (w : World) (hsl : Sl w [] .u8 (.slice pa pks.length pcap) pks) (hws : ∀ x ∈ pks, 0 ≤ x ∧ x < 256) (hac : ∀ i, i < an → ∃ ab aoff, aa = some ⟨ab, aoff, none⟩ ∧ ab < w.heap.size ∧ ∃ x : Bool, bs[i]? = some x ∧ w.cell? ⟨ab, aoff + i, none⟩ = some (.bool x)) (hbig : ¬ (600 : Int) < (pks.length : Int)) (ha1 : ¬ (60 : Int) < (an : Int)) :
    Calls Try.prog 4 #[.int .u8 v, .slice aa an acap, .slice pa pks.length pcap] w fun e w' => e = .returned (.bool true) ∧ Below w.heap.size w w' := by
  have HSL := Lib.hid hsl
  have HWS := Lib.hid hws
  have HAC := Lib.hid hac
  have HBS := Lib.hid hbs
  clear hsl hws hac hbs
  have n0 := Int.emod_nonneg v (by omega : (4 : Int) ≠ 0)
  have n4 := Int.emod_lt_of_pos v (by omega : (0 : Int) < 4)
  obtain ⟨n, hn⟩ : ∃ n : Nat, (n : Int) = v % 4 + 1 := ⟨(v % 4 + 1).toNat, by omega⟩
  have hn1 : 1 ≤ n := by omega
  have hn4 : n ≤ 4 := by omega
  have e2 : v.tmod 4 = v % 4 := Int.tmod_eq_emod_of_nonneg v0
  have hM : (2 : Int) + (v % 4 + 1) = ((2 + n : Nat) : Int) := by omega
  obtain ⟨AN, hAN⟩ : ∃ AN : Nat, AN = an + 2 := ⟨_, rfl⟩
  have hA : (an : Int) + 2 = (AN : Int) := by omega
  have hAN9 : AN < 1000 := by omega
  have HAN := Lib.hid hAN
  clear hAN
  have HN := Lib.hid hn
  clear hn
  have b1 : decide ((600 : Int) < (pks.length : Int)) = false := by simpa using hbig
  have b3 : decide ((60 : Int) < (an : Int)) = false := by simpa using ha1
  go_enter Try.func4, Try.ntmps4
  go_wp2_with fail
  refine (awake8 _).mono ?_
  rintro r w0 ⟨rfl, q0⟩
  have G0 := (((Has.nil w).up q0).addSl HSL.out).blkNew #[.int .i64 0, .int .i64 1, .int .i64 2, .int .i64 n] 25
  obtain ⟨eb, heb⟩ : ∃ eb, eb = w0.heap.size := ⟨_, rfl⟩
  rw [← heb] at G0
  have HEB := Lib.hid heb
  clear q0 heb
  go_wp2_with (at_make; rw [← HN.out]; refine wpl_mk G0 rfl _ _ rfl el_u64o rfl (by decide) (2 + n) rfl rfl (by omega) ?_; intro w1 G1)
  have z1 : ∀ (w : World) o, (w.alloc o).heap.size = w.heap.size + 1 := fun w o => by simp
  rw [ownN_rep8, z1] at G1
  clear z1
  have hlr : (List.replicate (2 + n) (0 : Int)).length = 2 + n := List.length_replicate
  have CN := New_h G1 (.slice (some ⟨w0.heap.size + 1, 0, none⟩) (2 + n) (2 + n)) (List.replicate (2 + n) 0) (sl_of_ownN (by have := G1.get 2 rfl; exact this)) (by rw [hlr]; omega)
  clear hlr
  refine CN.mono ?_
  rintro r w2 ⟨sb, sg, rfl, G2'⟩
  have G2 := G2'.pick [0, 3, 1] (by decide) (by simp)
  clear G0 G1 G2' CN
  rw [← HEB.out]
  go_wp2_with (first | (at_make; refine wpl_mk G2 rfl _ _ rfl el_into rfl (by decide) AN rfl rfl (by omega) ?_; intro w3 G3) | (at_make; refine wpl_mk G3 rfl _ _ rfl el_boolo rfl (by decide) AN rfl rfl (by omega) ?_; intro w4 G4; obtain ⟨b0, b1, b2, b4, fb⟩ := row4 (G4.get 2 rfl)))
  refine (Pop_o G4 n).mono ?_
  rintro r w5 ⟨xb0, rfl, G5'⟩
  have G5 := G5'.pick [0, 1, 2, 3, 4] (by decide) (by simp)
  clear G2 G3 G4 G5' b0 b1 b2 b4 fb
  obtain ⟨b0, b1, b2, b4, fb⟩ := row4 (G5.get 2 rfl)
  go_wp2_with fail
  go_region_held3 (fun w' => w'.cell? ⟨eb, 0, none⟩ = some (.int .i64 0) ∧ w'.cell? ⟨eb, 1, none⟩ = some (.int .i64 1) ∧ w'.cell? ⟨eb, 2, none⟩ = some (.int .i64 2) ∧ w'.cell? ⟨eb, 3, none⟩ = some (.int .i64 n)) (refine ⟨?_, ?_, ?_, ?_⟩ <;> (first | (with_reducible assumption) | (simp only [cell_drewNo, cell_drewo]; with_reducible assumption) | (exact alloc_cello _ HEB3 (by with_reducible assumption)))) (first | (go_at_call 13; (first | refine (Steal_o K1 n).mono ?_ | refine (Steal_o (K1.drewN _) n).mono ?_); rintro r x2 ⟨t1, rfl, K2⟩; have HEB3 : eb < x2.heap.size := (K2.lt 2 _ rfl eb (by simp [blkC])).1; obtain ⟨d0, d1, d2, d3, fd⟩ := row4 (K2.get 2 rfl)) | (go_at_call 13; (first | refine (Steal_o G5 n).mono ?_ | refine (Steal_o (G5.drewN _) n).mono ?_); rintro r x1 ⟨t0, rfl, K1⟩; obtain ⟨c0, c1, c2, c3, fc⟩ := row4 (K1.get 2 rfl)))
  have K3 := K2.ownLit #[.pointer (some ⟨t0, 0, none⟩), .pointer (some ⟨t1, 0, none⟩)] 32 1 2 rfl (by decide)
  go_wp2_with fail
  have K4 : Has w (x2.alloc (.cells #[.pointer (some ⟨t0, 0, none⟩), .pointer (some ⟨t1, 0, none⟩)] 32)) (base8 w.heap.size (.slice pa pks.length pcap) pks sb sg (List.replicate (2 + n) 0) 0 eb n w2.heap.size w3.heap.size x2.heap.size AN (List.replicate AN 0) (List.replicate AN false) none [some (t0, dqSteal), some (t1, dqSteal)]) := by
    have h := (K3.add (noC _) (Below.refl _ _) (by simp [noC]) trivial).pick [0, 1, 2, 3, 4, 7, 8, 5, 6] (by decide) (by simp)
    unfold base8
    rw [List.map_replicate, List.map_replicate]
    exact h
  clear K3 K2 K1 G5 b0 b1 b2 b4 fb c0 c1 c2 c3 fc d0 d1 d2 d3 fd HEB3
  obtain ⟨W0, HW0, eW0⟩ := K4.name
  rw [← eW0.out]
  clear eW0 K4
  generalize x2.heap.size = hb at HW0 ⊢
  generalize w3.heap.size = pb at HW0 ⊢
  generalize w2.heap.size = tb at HW0 ⊢
  have J0 : Hid (DJ n an pks.length 0 bs (List.replicate (2 + n) 0) 0 [] [] [] (((0 : Nat) : Int) + (([] : List Int).length : Nat)) 0 0 0 0 none [some (t0, dqSteal), some (t1, dqSteal)] (List.replicate AN false) (List.replicate AN 0)) := Lib.hid (by
    rw [HAN.out]
    exact dj_first n an pks.length bs hn1 hn4 (by omega) t0 t1)
  clear hM e2
  go_loopw [13, 14, 15, 16, 18, 19, 20, 21, 22, 23, 24, 25] (fun nv wv bv ov0 lv iv _ _ _ _ _ _ wr => ∃ (t : Nat) (l : List Int) (c : Int) (T : Nat) (q h hd : List Int) (β : Int) (wd wn nx : Nat) (last : Int) (oo : Option (Nat × Dq)) (os : List (Option (Nat × Dq))) (pu : List Bool) (ta : List Int) (ov : Value), t ≤ pks.length + 40 ∧ iv = .int .i64 t ∧ nv = .int .i64 nx ∧ wv = .int .u64 wn ∧ bv = .bool oo.isSome ∧ ov0 = ov ∧ Hid (∀ b m, oo = some (b, m) → ov = .pointer (some ⟨b, 0, none⟩)) ∧ lv = .int .u64 last ∧ Hid (DJ n an pks.length t bs l T q h hd β wd wn nx last oo os pu ta) ∧ Has w wr (base8 w.heap.size (.slice pa pks.length pcap) pks sb sg l c eb n tb pb hb AN ta pu oo os)) (fun _ _ _ _ _ iv _ _ _ _ _ _ _ => pks.length + 40 - (intOf iv).toNat)
  case atStart => exact ⟨0, _, _, 0, [], [], [], _, 0, 0, 0, 0, none, _, _, _, _, by omega, rfl, rfl, rfl, rfl, rfl, Lib.hid (fun b m e => by cases e), rfl, J0, HW0⟩
  case round =>
  obtain ⟨t, l, c, T, q, h, hd, β, wd, wn, nx, last, oo, os, pu, ta, ov, htP, rfl, rfl, rfl, rfl, rfl, HOV, rfl, J, G⟩ := hrel
  clear HW0 J0
  by_cases htl : t < pks.length + 40
  · have htl' : (t : Int) < (pks.length : Int) + 40 := by omega
    have htb : (t : Int) < 1000 := by omega
    go_upto_if 76 with (fail)
    go_cut [20] (fun kv wx => ∃ kk : Nat, kk < 3 ∧ (t < pks.length ∨ kk = t % 3) ∧ kv = .int .i64 kk ∧ wr = wx)
    case first =>
      --[A
      as_aux_lemma =>
      by_cases hp : t < pks.length
      · have hp' : (t : Int) < (pks.length : Int) := by omega
        obtain ⟨x, hx⟩ : ∃ x, pks[t]? = some x := ⟨_, List.getElem?_eq_getElem hp⟩
        have hxb := HWS.out x (List.mem_of_getElem? hx)
        obtain ⟨xn, rfl⟩ := Int.eq_ofNat_of_zero_le hxb.1
        have rx : (xn : Int).tmod 3 = ((xn % 3 : Nat) : Int) := by rw [Int.tmod_eq_emod_of_nonneg (by omega)]; omega
        have hne : pks ≠ [] := by rintro rfl; simp at hp
        obtain ⟨cb, off, hab2, -, -, hcell⟩ := sl_at (G.sl 0 rfl) hne
        subst hab2
        have hc := hcell t _ hx
        have hx3 : xn % 3 < 3 := Nat.mod_lt _ (by omega)
        clear hcell hne hx
        generalize xn % 3 = jj at rx hx3
        go_wp2_with fail
        go_meet
        case rel => exact ⟨jj, hx3, .inl hp, by first | rfl | go_num, rfl⟩
      · have hp' : ¬ (t : Int) < (pks.length : Int) := by omega
        go_wp2_with fail
        go_meet
        case rel => exact ⟨t % 3, Nat.mod_lt _ (by omega), .inr rfl, by first | rfl | (congr 1; omega), rfl⟩
      --]A
    case rest =>
    obtain ⟨kk, hk3, hkt, rfl, rfl⟩ := hcut
    have HKT := Lib.hid hkt
    clear hkt
    have hW := dj_w J.out
    have hwn : (wn : Int) < 100 := by omega
    have hnx : (nx : Int) < 100 := by have := J.out.nx2; omega
    have HW := Lib.hid hW
    clear hW
    by_cases hk0 : kk = 0
    · subst hk0
      --[O
      as_aux_lemma =>
      have HAT : Hid (nx < an → ∃ ab aoff x, aa = some ⟨ab, aoff, none⟩ ∧ ab < w.heap.size ∧ bs[nx]? = some x ∧ w.cell? ⟨ab, aoff + nx, none⟩ = some (.bool x)) := Lib.hid (fun h => by
        obtain ⟨ab, aoff, h1, h2, x, h3, h4⟩ := HAC.out nx h
        exact ⟨ab, aoff, x, h1, h2, h3, h4⟩)
      by_cases hcont : oo = none ∧ ¬ (nx < an ∧ t < pks.length)
      · obtain ⟨rfl, hno⟩ := hcont
        by_cases hna : nx < an
        · have hna' : decide ((an : Int) ≤ (nx : Int)) = false := by simp; omega
          have htp : (pks.length : Int) ≤ (t : Int) := by omega
          go_wp2_with fail
          go_roundw
          case rel => exact ⟨t + 1, l, c, T, q, h, hd, β, wd, wn, nx, last, none, os, pu, ta, _, by omega, by go_num, rfl, rfl, rfl, rfl, HOV, rfl, Lib.hid (dj_wait J.out HKT.out), G⟩
          case measure => simp [intOf]; omega
        · have hna' : (an : Int) ≤ (nx : Int) := by omega
          go_wp2_with fail
          go_roundw
          case rel => exact ⟨t + 1, l, c, T, q, h, hd, β, wd, wn, nx, last, none, os, pu, ta, _, by omega, by go_num, rfl, rfl, rfl, rfl, HOV, rfl, Lib.hid (dj_wait J.out HKT.out), G⟩
          case measure => simp [intOf]; omega
      · go_upto_if 88 with (fail)
        go_cut [14, 15, 16] (fun wv bv ov0 wx => ∃ (wn' ob : Nat) (m : Dq), wv = .int .u64 wn' ∧ bv = .bool true ∧ ov0 = .pointer (some ⟨ob, 0, none⟩) ∧ Hid (DJ n an pks.length t bs l T q h hd β wd wn' nx last (some (ob, m)) os pu ta) ∧ Has w wx (base8 w.heap.size (.slice pa pks.length pcap) pks sb sg l c eb n tb pb hb AN ta pu (some (ob, m)) os))
        case first =>
          cases oo with
          | some bm =>
            obtain ⟨ob, m⟩ := bm
            have hov := HOV.out ob m rfl
            subst hov
            go_wp2_with fail
            go_meet
            case rel => exact ⟨wn, ob, m, rfl, rfl, rfl, J, G⟩
          | none =>
            have hna : nx < an := by
              rcases Nat.lt_or_ge nx an with q1 | q1
              · exact q1
              · exact absurd ⟨rfl, by omega⟩ hcont
            have htp : t < pks.length := by
              rcases Nat.lt_or_ge t pks.length with q1 | q1
              · exact q1
              · exact absurd ⟨rfl, by omega⟩ hcont
            clear hcont
            have hna' : decide ((an : Int) ≤ (nx : Int)) = false := by simp; omega
            have hna2 : (nx : Int) < (an : Int) := by omega
            have htp' : decide ((pks.length : Int) ≤ (t : Int)) = false := by simp; omega
            obtain ⟨ab, aoff, x, rfl, hab, hbx, hc0⟩ := HAT.out hna
            have hac := (G.below.cell (p := ⟨ab, aoff + nx, none⟩) hab).trans hc0
            have HBX := Lib.hid hbx
            clear hbx hc0
            obtain ⟨b0, b1, b2, b4, fb⟩ := row4 (G.get 2 rfl)
            cases x with
            | true =>
              go_wp2_with fail
              refine (Push_o G n ((wn : Int) + 1)).mono ?_
              rintro r w8 ⟨ob, rfl, H8⟩
              have H9 := b8_own H8
              clear H8 b0 b1 b2 b4 fb
              go_wp2_with fail
              go_meet
              case rel => exact ⟨wn + 1, ob, _, by go_num, rfl, rfl, Lib.hid (dj_push J.out hna HBX.out htp ob), H9⟩
            | false =>
              go_wp2_with fail
              refine (Pop_o G n).mono ?_
              rintro r w8 ⟨ob, rfl, H8⟩
              have H9 := b8_own H8
              clear H8 b0 b1 b2 b4 fb
              go_wp2_with fail
              go_meet
              case rel => exact ⟨wn, ob, _, rfl, rfl, rfl, Lib.hid (dj_pop J.out hna HBX.out htp ob), H9⟩
        case rest =>
        obtain ⟨wn', ob, m, rfl, rfl, rfl, J', G'⟩ := hcut
        have HW' := Lib.hid (dj_w J'.out)
        have hwn' : (wn' : Int) < 100 := by have := HW'.out; omega
        have hna := (J'.out.busy (by simp)).1
        have hna2 : (nx : Int) < (an : Int) := by omega
        obtain ⟨ab, aoff, x, rfl, hab, hbx, hc0⟩ := HAT.out hna
        have HBX := Lib.hid hbx
        have HC0 := Lib.hid hc0
        clear hbx hc0 J G HW hwn hcont
        have E0 := dj_own J'.out HKT.out
        have hok2 := (dq_ok (en n) J'.out.D.wds (J'.out.ok ob m rfl)).2
        go_wp2_with fail
        refine (dqStep_h G' 1 6 rfl (by decide) m rfl (eno_ok hn1 hn4) (J'.out.ok ob m rfl)).mono ?_
        rintro r w5 ⟨rfl, H5⟩
        have H6 := b8_ownStep H5
        obtain ⟨l2, hl2⟩ : ∃ q, q = (dqStep (en n) l m).1 := ⟨_, rfl⟩
        obtain ⟨m2, hm2⟩ : ∃ q, q = (dqStep (en n) l m).2 := ⟨_, rfl⟩
        obtain ⟨c2, hc2⟩ : ∃ q, q = dqCount m c := ⟨_, rfl⟩
        rw [← hl2, ← hm2, ← hc2] at H6
        rw [← hl2, ← hm2] at E0
        rw [← hm2] at hok2
        rw [← hm2]
        have E := Lib.hid E0
        have OK2 := Lib.hid hok2
        clear hl2 hm2 hc2 H5 E0 hok2 G'
        have hac := (H6.below.cell (p := ⟨ab, aoff + nx, none⟩) hab).trans HC0.out
        rcases E.out with ⟨T', q', h', hd', β', hs, hJ⟩ | ⟨T', q', β', hs, ho, hb, hlt, hJ⟩ | ⟨T', q', β', hs, ho, hb, hJ⟩ | ⟨y, T', q', β', hs, ho, hy, hb, y1, y2, hty, hJ⟩ | ⟨T', q', β', hs, ho, hb, hJ⟩
        · have hsf : (m2.st == 0) = false := by simpa using hs
          have HJ := Lib.hid hJ
          clear hJ hs
          go_wp2_with fail
          go_roundw
          case rel => exact ⟨t + 1, l2, c2, T', q', h', hd', β', wd, wn', nx, last, some (ob, m2), os, pu, ta, _, by omega, by go_num, rfl, rfl, rfl, rfl, Lib.hid (fun b x e => by cases e; rfl), rfl, HJ, H6⟩
          case measure => simp [intOf]; omega
        · have hst : (m2.st == 0) = true := by rw [hs]; rfl
          have HJ := Lib.hid hJ
          have eo : dqOut m2 = 1 := by unfold dqOut; rw [hst]; exact ho
          have EO := Lib.hid eo
          obtain rfl : x = true := by have := HBX.out; rw [hb] at this; cases this; rfl
          have RQ := Lib.hid (Result_q H6 6 m2 rfl (by rw [hs]; omega))
          have hwl : wn' < pu.length := hlt true
          have hwA : (wn' : Int) < (AN : Int) := by have := J'.out.A.lp; have := HAN.out; omega
          obtain ⟨pz, hpz⟩ : ∃ z, pu[wn']? = some z := ⟨_, List.getElem?_eq_getElem hwl⟩
          have HPZ := Lib.hid hpz
          clear hJ hs ho eo hb hlt hpz
          go_wp2_with fail
          refine RQ.out.mono ?_
          rw [EO.out]
          rintro r w7 ⟨rfl, d7, rfl⟩
          have H7 := H6.drewN d7
          have hac := (H7.below.cell (p := ⟨ab, aoff + nx, none⟩) hab).trans HC0.out
          obtain ⟨cp, fp⟩ := rw_cell (H7.get 4 rfl) (x := .bool pz) (by rw [List.getElem?_map, HPZ.out]; rfl)
          have H8 := b8_ownOff (b8_pu wn' true (H7.ownSet0 4 rfl wn' (.bool true) (by omega)))
          go_upto_region 36 with (fail)
          obtain ⟨W8, HW8, eW8⟩ := H8.name
          rw [← eW8.out]
          clear eW8 H8 cp fp hac
          have hac := (HW8.below.cell (p := ⟨ab, aoff + nx, none⟩) hab).trans HC0.out
          go_wp2_with fail
          go_roundw
          case rel => exact ⟨t + 1, l2, c2, T', q', [], [], β', wn', wn', nx + 1, last, none, os, pu.set wn' true, ta, _, by omega, by go_num, by go_num, rfl, rfl, rfl, Lib.hid (fun b x e => by cases e), rfl, HJ, HW8⟩
          case measure => simp [intOf]; omega
        · have hst : (m2.st == 0) = true := by rw [hs]; rfl
          have HJ := Lib.hid hJ
          have eo : dqOut m2 = 2 := by unfold dqOut; rw [hst]; exact ho
          have EO := Lib.hid eo
          obtain rfl : x = true := by have := HBX.out; rw [hb] at this; cases this; rfl
          have RQ := Lib.hid (Result_q H6 6 m2 rfl (by rw [hs]; omega))
          clear hJ hs ho eo hb
          go_wp2_with fail
          refine RQ.out.mono ?_
          rw [EO.out]
          rintro r w7 ⟨rfl, d7, rfl⟩
          have H7 := b8_ownOff (H6.drewN d7)
          have hac := (H7.below.cell (p := ⟨ab, aoff + nx, none⟩) hab).trans HC0.out
          go_wp2_with fail
          go_roundw
          case rel => exact ⟨t + 1, l2, c2, T', q', [], [], β', wn', wn', nx + 1, last, none, os, pu, ta, _, by omega, by go_num, by go_num, rfl, rfl, rfl, Lib.hid (fun b x e => by cases e), rfl, HJ, H7⟩
          case measure => simp [intOf]; omega
        · have hst : (m2.st == 0) = true := by rw [hs]; rfl
          have HJ := Lib.hid hJ
          have eo : dqOut m2 = 1 := by unfold dqOut; rw [hst]; exact ho
          have EO := Lib.hid eo
          obtain rfl : x = false := by have := HBX.out; rw [hb] at this; cases this; rfl
          have RQ := Lib.hid (Result_q H6 6 m2 rfl (by rw [hs]; omega))
          have ey : dqW m2 = y := by unfold dqW; rw [hst]; exact hy
          have EY := Lib.hid ey
          have hyA : (y : Int) < (AN : Int) := by have := HW'.out; have := HAN.out; omega
          have yf1 : decide ((y : Int) < 1) = false := by simp; omega
          have yf2 : decide ((wn' : Int) < (y : Int)) = false := by simp; omega
          have yb : (y : Int) < 1000 := by omega
          have HTY := Lib.hid hty
          clear hJ hs ho eo hb hy ey hty
          go_wp2_with fail
          refine RQ.out.mono ?_
          rw [EO.out, EY.out]
          rintro r w7 ⟨rfl, d7, rfl⟩
          have H7 := H6.drewN d7
          have hac := (H7.below.cell (p := ⟨ab, aoff + nx, none⟩) hab).trans HC0.out
          obtain ⟨ct, ft⟩ := rw_cell (H7.get 3 rfl) (x := .int .i64 0) (by rw [List.getElem?_map, HTY.out]; rfl)
          have H8 := b8_ownOff (b8_ta y 1 (H7.ownSet0 3 rfl y (.int .i64 1) (by omega)))
          go_wp2_with fail
          go_roundw
          case rel => exact ⟨t + 1, l2, c2, T', q', [], [], β', wn', wn', nx + 1, last, none, os, pu, ta.set y 1, _, by omega, by go_num, by go_num, rfl, rfl, rfl, Lib.hid (fun b x e => by cases e), rfl, HJ, H8⟩
          case measure => simp [intOf]; omega
        · have hst : (m2.st == 0) = true := by rw [hs]; rfl
          have HJ := Lib.hid hJ
          have eo : dqOut m2 = 3 := by unfold dqOut; rw [hst]; exact ho
          have EO := Lib.hid eo
          obtain rfl : x = false := by have := HBX.out; rw [hb] at this; cases this; rfl
          have RQ := Lib.hid (Result_q H6 6 m2 rfl (by rw [hs]; omega))
          clear hJ hs ho eo hb
          go_wp2_with fail
          refine RQ.out.mono ?_
          rw [EO.out]
          rintro r w7 ⟨rfl, d7, rfl⟩
          have H7 := b8_ownOff (H6.drewN d7)
          have hac := (H7.below.cell (p := ⟨ab, aoff + nx, none⟩) hab).trans HC0.out
          go_wp2_with fail
          go_roundw
          case rel => exact ⟨t + 1, l2, c2, T', q', [], [], β', wn', wn', nx + 1, last, none, os, pu, ta, _, by omega, by go_num, by go_num, rfl, rfl, rfl, Lib.hid (fun b x e => by cases e), rfl, HJ, H7⟩
          case measure => simp [intOf]; omega
      --]O
    · obtain ⟨j, rfl⟩ : ∃ j, kk = j + 1 := ⟨kk - 1, by omega⟩
      --[TH
      as_aux_lemma =>
      have hj2 : j < 2 := by omega
      have hj2' : (j : Int) < 2 := by omega
      have k0f : (((j + 1 : Nat) : Int) == 0) = false := by simp; omega
      clear hk0 hk3
      obtain ⟨o, ho⟩ : ∃ o, os[j]? = some o := ⟨_, List.getElem?_eq_getElem (by rw [J.out.l2]; exact hj2)⟩
      have HO := Lib.hid ho
      clear ho
      obtain ⟨cth, fth⟩ := rw_cell (G.get 5 rfl) (x := optr8 o) (by rw [List.getElem?_map, HO.out]; rfl)
      cases o with
      | none =>
        --[TN
        simp only [optr8] at cth
        have J1 := Lib.hid (dj_off J.out j hj2 HKT.out)
        have HO2 := HO
        go_wp2_with fail
        refine (StepNil_o _ _).mono ?_
        rintro r w5 ⟨rfl, hw⟩
        obtain rfl := hw.symm
        go_wp2_with fail
        refine (ResultNil_o _).mono ?_
        rintro r w6 ⟨rfl, hw⟩
        obtain rfl := hw.symm
        have G7 := G
        clear cth fth
        go_upto_region 50 with (fail)
        obtain ⟨W7, HW7, eW7⟩ := G7.name
        rw [← eW7.out]
        clear eW7 G7
        obtain ⟨cth, fth⟩ := rw_cell (HW7.get 5 rfl) (x := optr8 _) (by rw [List.getElem?_map, HO2.out]; rfl)
        simp only [optr8] at cth
        have H8 := b8_thOff HO2.out (HW7.ownSet0 5 rfl j (.pointer none) (by omega))
        clear HW7
        by_cases htp : t < pks.length
        · have htp' : (t : Int) < (pks.length : Int) := by omega
          go_upto_region 52 with (fail)
          obtain ⟨W8, HW8, eW8⟩ := H8.name
          rw [← eW8.out]
          clear eW8 H8 cth fth
          obtain ⟨b0, b1, b2, b4, fb⟩ := row4 (HW8.get 2 rfl)
          have HO3 : Hid ((os.set j none)[j]? = some (none : Option (Nat × Dq))) := Lib.hid (by rw [List.getElem?_set_self (List.getElem?_eq_some_iff.1 HO2.out).1])
          go_wp2_with fail
          refine (Steal_o HW8 n).mono ?_
          rintro r w8 ⟨xb, rfl, H9⟩
          clear b0 b1 b2 b4 fb
          obtain ⟨cth, fth⟩ := rw_cell (H9.get 5 rfl) (x := optr8 none) (by rw [List.getElem?_map, HO3.out]; rfl)
          simp only [optr8] at cth
          have H10 := b8_thIn HO3.out (H9.ownSet0 5 rfl j (.pointer (some ⟨xb, 0, none⟩)) (by omega))
          go_wp2_with fail
          go_roundw
          case rel =>
            refine ⟨t + 1, l, c, _, _, _, _, _, wd, wn, nx, last, oo, _, pu, ta, _, by omega, by go_num, rfl, rfl, rfl, rfl, HOV, rfl, Lib.hid (dj_steal J1.out j hj2 htp xb), ?_⟩
            exact H10
          case measure => simp [intOf]; omega
        · have htp' : ¬ (t : Int) < (pks.length : Int) := by omega
          go_wp2_with fail
          go_roundw
          case rel =>
            refine ⟨t + 1, l, c, _, _, _, _, _, wd, wn, nx, last, oo, _, pu, ta, _, by omega, by go_num, rfl, rfl, rfl, rfl, HOV, rfl, Lib.hid J1.out, ?_⟩
            exact H8
          case measure => simp [intOf]; omega
        --]TN
      | some bm =>
        obtain ⟨tbk, m⟩ := bm
        simp only [optr8] at cth
        have E0 := dj_thief J.out hj2 HO.out HKT.out
        go_wp2_with fail
        refine (dqStep_h G 1 (j + 7) rfl (by omega) m (b8_th HO.out) (eno_ok hn1 hn4) (J.out.th j tbk m HO.out).ok).mono ?_
        rintro r w5 ⟨rfl, H5⟩
        have H6 := b8_thStep HO.out H5
        obtain ⟨l2, hl2⟩ : ∃ q, q = (dqStep (en n) l m).1 := ⟨_, rfl⟩
        obtain ⟨m2, hm2⟩ : ∃ q, q = (dqStep (en n) l m).2 := ⟨_, rfl⟩
        obtain ⟨c2, hc2⟩ : ∃ q, q = dqCount m c := ⟨_, rfl⟩
        rw [← hl2, ← hm2, ← hc2] at H6
        rw [← hl2, ← hm2] at E0
        rw [← hm2]
        have E := Lib.hid E0
        clear hl2 hm2 hc2 H5 E0 cth fth
        have HO2 : Hid ((os.set j (some (tbk, m2)))[j]? = some (some (tbk, m2))) := Lib.hid (by rw [List.getElem?_set_self (List.getElem?_eq_some_iff.1 HO.out).1])
        obtain ⟨cth, fth⟩ := rw_cell (H6.get 5 rfl) (x := optr8 (some (tbk, m2))) (by rw [List.getElem?_map, HO2.out]; rfl)
        simp only [optr8] at cth
        rcases E.out with ⟨T', q', h', hd', β', hs, hJ⟩ | ⟨T', q', h', hd', β', hs, ho, hok, hJ⟩ | ⟨y, T', q', h', hd', β', hs, ho, hy, hok, y1, y2, y3, hty, hJ⟩
        · --[T1
          have hsf : (m2.st == 0) = false := by simpa using hs
          have HJ := Lib.hid hJ
          clear hJ hs
          go_wp2_with fail
          go_roundw
          case rel => exact ⟨t + 1, l2, c2, T', q', h', hd', β', wd, wn, nx, last, oo, _, pu, ta, _, by omega, by go_num, rfl, rfl, rfl, rfl, HOV, rfl, HJ, H6⟩
          case measure => simp [intOf]; omega
          --]T1
        · --[T2
          have hst : (m2.st == 0) = true := by rw [hs]; rfl
          have J1 := Lib.hid hJ
          have eo : dqOut m2 = m2.out := by unfold dqOut; rw [hst]; rfl
          obtain ⟨xo, hxo⟩ : ∃ xo, xo = dqOut m2 := ⟨_, rfl⟩
          have xof : (xo == 1) = false := by rw [hxo, eo]; simpa using ho
          have RQ := Lib.hid (Result_q H6 (j + 7) m2 (b8_th HO2.out) (by rw [hs]; omega))
          have HXO := Lib.hid hxo
          clear hJ hs ho eo hxo
          go_wp2_with fail
          refine RQ.out.mono ?_
          rw [← HXO.out]
          rintro r w7 ⟨rfl, d7, rfl⟩
          have G7 := H6.drewN d7
          clear H6
          clear cth fth
          go_upto_region 50 with (fail)
          obtain ⟨W7, HW7, eW7⟩ := G7.name
          rw [← eW7.out]
          clear eW7 G7
          obtain ⟨cth, fth⟩ := rw_cell (HW7.get 5 rfl) (x := optr8 _) (by rw [List.getElem?_map, HO2.out]; rfl)
          simp only [optr8] at cth
          have H8 := b8_thOff HO2.out (HW7.ownSet0 5 rfl j (.pointer none) (by omega))
          rw [List.set_set] at H8
          clear HW7
          by_cases htp : t < pks.length
          · have htp' : (t : Int) < (pks.length : Int) := by omega
            go_upto_region 52 with (fail)
            obtain ⟨W8, HW8, eW8⟩ := H8.name
            rw [← eW8.out]
            clear eW8 H8 cth fth
            obtain ⟨b0, b1, b2, b4, fb⟩ := row4 (HW8.get 2 rfl)
            have HO3 : Hid ((os.set j none)[j]? = some (none : Option (Nat × Dq))) := Lib.hid (by rw [List.getElem?_set_self (by rw [J.out.l2]; exact hj2)])
            go_wp2_with fail
            refine (Steal_o HW8 n).mono ?_
            rintro r w8 ⟨xb, rfl, H9⟩
            clear b0 b1 b2 b4 fb
            obtain ⟨cth, fth⟩ := rw_cell (H9.get 5 rfl) (x := optr8 none) (by rw [List.getElem?_map, HO3.out]; rfl)
            simp only [optr8] at cth
            have H10 := b8_thIn HO3.out (H9.ownSet0 5 rfl j (.pointer (some ⟨xb, 0, none⟩)) (by omega))
            go_wp2_with fail
            go_roundw
            case rel =>
              refine ⟨t + 1, l2, c2, _, _, _, _, _, wd, wn, nx, last, oo, _, pu, ta, _, by omega, by go_num, rfl, rfl, rfl, rfl, HOV, rfl, Lib.hid (dj_steal J1.out j hj2 htp xb), ?_⟩
              exact H10
            case measure => simp [intOf]; omega
          · have htp' : ¬ (t : Int) < (pks.length : Int) := by omega
            go_wp2_with fail
            go_roundw
            case rel =>
              refine ⟨t + 1, l2, c2, _, _, _, _, _, wd, wn, nx, last, oo, _, pu, ta, _, by omega, by go_num, rfl, rfl, rfl, rfl, HOV, rfl, Lib.hid J1.out, ?_⟩
              exact H8
            case measure => simp [intOf]; omega
          --]T2
        · --[T3
          have hst : (m2.st == 0) = true := by rw [hs]; rfl
          have J1 := Lib.hid hJ
          have eo : dqOut m2 = 1 := by unfold dqOut; rw [hst]; exact ho
          have ey : dqW m2 = y := by unfold dqW; rw [hst]; exact hy
          have EO := Lib.hid eo
          have EY := Lib.hid ey
          have RQ := Lib.hid (Result_q H6 (j + 7) m2 (b8_th HO2.out) (by rw [hs]; omega))
          have hyA : (y : Int) < (AN : Int) := by have := HW.out; have := HAN.out; omega
          have yf1 : decide ((y : Int) < 1) = false := by simp; omega
          have yf2 : decide ((wn : Int) < (y : Int)) = false := by simp; omega
          have yf3 : decide ((y : Int) ≤ last) = false := by simp; omega
          have yb : (y : Int) < 1000 := by omega
          have HTY := Lib.hid hty
          clear hJ hs ho eo hy ey hty y3
          go_wp2_with fail
          refine RQ.out.mono ?_
          rw [EO.out, EY.out]
          rintro r w7 ⟨rfl, d7, rfl⟩
          have H7 := H6.drewN d7
          clear H6
          obtain ⟨ct, ft⟩ := rw_cell (H7.get 3 rfl) (x := .int .i64 0) (by rw [List.getElem?_map, HTY.out]; rfl)
          have G7 := b8_ta y 1 (H7.ownSet0 3 rfl y (.int .i64 1) (by omega))
          clear cth fth
          go_upto_region 50 with (fail)
          obtain ⟨W7, HW7, eW7⟩ := G7.name
          rw [← eW7.out]
          clear eW7 G7
          obtain ⟨cth, fth⟩ := rw_cell (HW7.get 5 rfl) (x := optr8 _) (by rw [List.getElem?_map, HO2.out]; rfl)
          simp only [optr8] at cth
          have H8 := b8_thOff HO2.out (HW7.ownSet0 5 rfl j (.pointer none) (by omega))
          rw [List.set_set] at H8
          clear HW7
          by_cases htp : t < pks.length
          · have htp' : (t : Int) < (pks.length : Int) := by omega
            go_upto_region 52 with (fail)
            obtain ⟨W8, HW8, eW8⟩ := H8.name
            rw [← eW8.out]
            clear eW8 H8 cth fth
            obtain ⟨b0, b1, b2, b4, fb⟩ := row4 (HW8.get 2 rfl)
            have HO3 : Hid ((os.set j none)[j]? = some (none : Option (Nat × Dq))) := Lib.hid (by rw [List.getElem?_set_self (by rw [J.out.l2]; exact hj2)])
            go_wp2_with fail
            refine (Steal_o HW8 n).mono ?_
            rintro r w8 ⟨xb, rfl, H9⟩
            clear b0 b1 b2 b4 fb
            obtain ⟨cth, fth⟩ := rw_cell (H9.get 5 rfl) (x := optr8 none) (by rw [List.getElem?_map, HO3.out]; rfl)
            simp only [optr8] at cth
            have H10 := b8_thIn HO3.out (H9.ownSet0 5 rfl j (.pointer (some ⟨xb, 0, none⟩)) (by omega))
            go_wp2_with fail
            go_roundw
            case rel =>
              refine ⟨t + 1, l2, c2, _, _, _, _, _, wd, wn, nx, (y : Int), oo, _, pu, (ta.set y 1), _, by omega, by go_num, rfl, rfl, rfl, rfl, HOV, rfl, Lib.hid (dj_steal J1.out j hj2 htp xb), ?_⟩
              exact H10
            case measure => simp [intOf]; omega
          · have htp' : ¬ (t : Int) < (pks.length : Int) := by omega
            go_wp2_with fail
            go_roundw
            case rel =>
              refine ⟨t + 1, l2, c2, _, _, _, _, _, wd, wn, nx, (y : Int), oo, _, pu, (ta.set y 1), _, by omega, by go_num, rfl, rfl, rfl, rfl, HOV, rfl, Lib.hid J1.out, ?_⟩
              exact H8
            case measure => simp [intOf]; omega
          --]T3
      --]TH
  · --[END
    as_aux_lemma =>
    have htl' : ¬ (t : Int) < (pks.length : Int) + 40 := by omega
    have ht : t = pks.length + 40 := by omega
    have JE := J.out
    rw [ht] at JE
    obtain ⟨rfl, hos, rfl, R, A, hq, hT⟩ := dj_end JE
    clear ht JE
    have RE := Lib.hid R
    have AE := Lib.hid A
    have HW := dj_w J.out
    have hwn : (wd : Int) < 100 := by omega
    have hwA : (wd : Int) < (AN : Int) := by have := HAN.out; omega
    have G1 : Has w wr [storeC _ sb sg l c, blkC _ eb #[.int .i64 0, .int .i64 1, .int .i64 2, .int .i64 n] 25, rwC _ 3 tb AN (ta.map (Value.int .i64)), rwC _ 4 pb AN (pu.map Value.bool)] := G.pick [1, 2, 3, 4] (by decide) (by simp [base8] <;> omega)
    have F : Fits n 0 := ⟨hn1, by omega, by omega, by omega, .inr rfl⟩
    have HF := Lib.hid F
    have WE : Hid (Wds l) := Lib.hid J.out.D.wds
    have hPb : (t : Int) < 1000 := by omega
    clear G R A J HOV hos htl HW F
    go_wp2_with fail
    go_loopw [26, 27, 28] (fun iv _ _ wr => ∃ (i : Nat) (l : List Int) (c : Int) (T : Nat) (q ta : List Int), i ≤ n + 1 ∧ iv = .int .i64 i ∧ Hid (Rep n 0 l T q) ∧ Hid (Wds l) ∧ Hid (Acc (an + 2) q [] wd last pu ta) ∧ q.length ≤ n - i ∧ T + q.length ≤ 100 ∧ Has w wr [storeC _ sb sg l c, blkC _ eb #[.int .i64 0, .int .i64 1, .int .i64 2, .int .i64 n] 25, rwC _ 3 tb AN (ta.map (Value.int .i64)), rwC _ 4 pb AN (pu.map Value.bool)]) (fun iv _ _ _ => n + 1 - (intOf iv).toNat)
    case atStart => exact ⟨0, l, c, T, q, ta, by omega, rfl, RE, WE, AE, by omega, hT, G1⟩
    case round =>
    obtain ⟨i, l', c', T', q', ta', hi, rfl, R2, W2, A2, hq2, hT2, G2⟩ := hrel
    clear G1 RE AE WE
    by_cases hin : i ≤ n
    · have hin' : (i : Int) ≤ (n : Int) := by omega
      have hib : (i : Int) < 100 := by omega
      obtain ⟨b0, b1, b2, b4, fb⟩ := row4 (G2.get 1 rfl)
      have P := rep_pop HF.out R2.out (by omega : T' ≤ 1000)
      have WO : Hid (Wds (dqRun (en n) 8 (l', dqPop)).1) := Lib.hid (dqRun_ok (en n) 8 l' dqPop W2.out pop_ok8).1
      have HP := Lib.hid P
      clear P
      go_wp2_with fail
      refine (Pop_o G2 n).mono ?_
      rintro r w3 ⟨xb, rfl, G3'⟩
      have G3 : Has w w3 [storeC _ sb sg l' c', blkC _ eb #[.int .i64 0, .int .i64 1, .int .i64 2, .int .i64 n] 25, rwC _ 3 tb AN (ta'.map (Value.int .i64)), rwC _ 4 pb AN (pu.map Value.bool), dqC _ xb (en n) dqPop] := G3'
      clear G3' b0 b1 b2 b4 fb
      go_wp2_with fail
      refine (whole_h G3 0 4 rfl (by decide) rfl (eno_ok hn1 hn4) pop_ok8 W2.out).mono ?_
      rcases List.eq_nil_or_concat q' with rfl | ⟨p, x, hqe⟩
      · obtain ⟨s, hs, hc, hR⟩ := HP.out.1 rfl
        have HR := Lib.hid hR
        have WS := WO.out
        rw [hs] at WS
        have WSH := Lib.hid WS
        rw [hs, (comes_out hc).1, (comes_out hc).2]
        clear WS hs hc hR G2
        rintro r w4 ⟨c4, rfl, G4'⟩
        have G4'' : Has w w4 [storeC _ sb sg s.1 c4, blkC _ eb #[.int .i64 0, .int .i64 1, .int .i64 2, .int .i64 n] 25, rwC _ 3 tb AN (ta'.map (Value.int .i64)), rwC _ 4 pb AN (pu.map Value.bool), dqC _ xb (en n) s.2] := G4'
        have G4 := G4''.pick [0, 1, 2, 3] (by decide) (by simp)
        clear G4' G4''
        go_wp2_with fail
        go_roundw
        case rel => exact ⟨i + 1, s.1, c4, T', [], ta', by omega, by go_num, HR, WSH, A2, by simp, hT2, G4⟩
        case measure => simp [intOf]; omega
      · rw [List.concat_eq_append] at hqe
        subst hqe
        obtain ⟨s, hs, hc, hR⟩ := HP.out.2 x p rfl
        obtain ⟨⟨x1, x2⟩, h0, hA⟩ := acc_pop A2.out
        obtain ⟨y, rfl⟩ := Int.eq_ofNat_of_zero_le (show (0 : Int) ≤ x by omega)
        rw [Int.toNat_natCast] at h0 hA
        have HR := Lib.hid hR
        have HA := Lib.hid hA
        have H0 := Lib.hid h0
        have WS := WO.out
        rw [hs] at WS
        have WSH := Lib.hid WS
        have hyA : (y : Int) < (AN : Int) := by omega
        have yf1 : decide ((y : Int) < 1) = false := by simp; omega
        have yf2 : decide ((wd : Int) < (y : Int)) = false := by simp; omega
        have yb : (y : Int) < 1000 := by omega
        have hlp : p.length + 1 ≤ n - i := by simpa using hq2
        have hTp : T' + (p.length + 1) ≤ 100 := by simpa using hT2
        have hT3 : (bif p.isEmpty then T' + 1 else T') + p.length ≤ 100 := by cases p.isEmpty <;> simp <;> omega
        rw [hs, (comes_out hc).1, (comes_out hc).2]
        clear WS hs hc hR G2 h0 hA hq2 hT2
        rintro r w4 ⟨c4, rfl, G4'⟩
        have G4'' : Has w w4 [storeC _ sb sg s.1 c4, blkC _ eb #[.int .i64 0, .int .i64 1, .int .i64 2, .int .i64 n] 25, rwC _ 3 tb AN (ta'.map (Value.int .i64)), rwC _ 4 pb AN (pu.map Value.bool), dqC _ xb (en n) s.2] := G4'
        have G4 := G4''.pick [0, 1, 2, 3] (by decide) (by simp)
        obtain ⟨ct, ft⟩ := rw_cell (G4.get 2 rfl) (x := .int .i64 0) (by rw [List.getElem?_map, H0.out]; rfl)
        have G5 := G4.ownSet0 2 rfl y (.int .i64 1) (by omega)
        have em : (ta'.map (Value.int .i64)).set y (.int .i64 1) = (ta'.set y 1).map (Value.int .i64) := by rw [List.map_set]
        rw [em] at G5
        clear G4' G4'' em
        go_wp2_with fail
        go_roundw
        case rel => exact ⟨i + 1, s.1, c4, _, p, ta'.set y 1, by omega, by go_num, HR, WSH, HA, by omega, hT3, G5⟩
        case measure => simp [intOf]; omega
    · have hin' : ¬ (i : Int) ≤ (n : Int) := by omega
      have hq0 : q' = [] := List.eq_nil_of_length_eq_zero (by omega)
      subst hq0
      clear hin hq2 hT2
      go_wp2_with fail
      go_loopw [29] (fun yv wr => ∃ y : Nat, 1 ≤ y ∧ y ≤ AN ∧ yv = .int .i64 y ∧ Has w wr [storeC _ sb sg l' c', blkC _ eb #[.int .i64 0, .int .i64 1, .int .i64 2, .int .i64 n] 25, rwC _ 3 tb AN (ta'.map (Value.int .i64)), rwC _ 4 pb AN (pu.map Value.bool)]) (fun yv _ => AN - (intOf yv).toNat)
      case atStart => exact ⟨1, by omega, by have := HAN.out; omega, rfl, G2⟩
      case round =>
      obtain ⟨y, hy1, hyN, rfl, G3⟩ := hrel
      clear G2
      have hyb : (y : Int) < 1000 := by omega
      by_cases hyl : y < AN
      · have hyi : (y : Int) < (AN : Int) := by omega
        rcases acc_end A2.out y hy1 (by rw [← HAN.out]; exact hyl) with ⟨e1, e2⟩ | ⟨e1, e2⟩
        · obtain ⟨ct, ft⟩ := rw_cell (G3.get 2 rfl) (u := y) (x := .int .i64 1) (by rw [List.getElem?_map, e2]; rfl)
          obtain ⟨cp, fp⟩ := rw_cell (G3.get 3 rfl) (u := y) (x := .bool true) (by rw [List.getElem?_map, e1]; rfl)
          clear e1 e2
          go_wp2_with fail
          go_quiet (fail)
          go_wp2_with fail
          go_roundw
          case rel => exact ⟨y + 1, by omega, by omega, by go_num, G3.drewN _⟩
          case measure => simp [intOf]; omega
        · obtain ⟨ct, ft⟩ := rw_cell (G3.get 2 rfl) (u := y) (x := .int .i64 0) (by rw [List.getElem?_map, e2]; rfl)
          obtain ⟨cp, fp⟩ := rw_cell (G3.get 3 rfl) (u := y) (x := .bool false) (by rw [List.getElem?_map, e1]; rfl)
          clear e1 e2
          go_wp2_with fail
          go_quiet (fail)
          go_wp2_with fail
          go_roundw
          case rel => exact ⟨y + 1, by omega, by omega, by go_num, G3.drewN _⟩
          case measure => simp [intOf]; omega
      · have hyi : ¬ (y : Int) < (AN : Int) := by omega
        clear hyl
        go_wp2_with fail
        go_ret
        exact ⟨rfl, G3.below⟩
    --]END

theorem bools_of {P : Nat → Bool → Prop} : ∀ n : Nat, (∀ i, i < n → ∃ x, P i x) → ∃ bs : List Bool, bs.length = n ∧ ∀ i, i < n → ∃ x, bs[i]? = some x ∧ P i x
  | 0, _ => ⟨[], rfl, fun i hi => by omega⟩
  | n + 1, h => by
    obtain ⟨bs, h1, h2⟩ := bools_of n fun i hi => h i (by omega)
    obtain ⟨x, hx⟩ := h n (by omega)
    refine ⟨bs ++ [x], by simp [h1], fun i hi => ?_⟩
    by_cases e : i < n
    · obtain ⟨y, hy, hp⟩ := h2 i e
      exact ⟨y, by rw [List.getElem?_append_left (by omega)]; exact hy, hp⟩
    · obtain rfl : i = n := by omega
      exact ⟨x, by rw [List.getElem?_append_right (by omega), h1]; simp, hx⟩

set_option maxRecDepth 100000 in
theorem walk_DequeOnce (v : Int) (aa : Option Addr) (al ac an : Nat) (a : Option Addr) (len cap : Nat) (zs : List Int) (w : World) (ha : IsRows [.bool] w (.slice aa al ac) an) (hr : IsRow .u8 w a len cap zs) (v0 : 0 ≤ v) (v1 : v < 256) :
    Calls Try.prog 4 #[.int .u8 v, .slice aa al ac, .slice a len cap] w fun e w' => e = .returned (.bool true) ∧ Below w.heap.size w w' := by
  have hsl := sl_of_row hr
  have hws : ∀ x ∈ zs.take len, 0 ≤ x ∧ x < 256 := by
    intro x hx
    have hm := List.mem_of_mem_take hx
    rcases hr with ⟨_, _, _, rfl⟩ | ⟨y, _, _, _, _, _, hwf⟩
    · simp at hm
    · have := Go.bounds_u8 (hwf x hm)
      omega
  have hl : (zs.take len).length = len := by
    obtain ⟨_, _, h, _⟩ := hsl
    simp only [Value.slice.injEq] at h
    exact h.2.1.symm
  obtain rfl : al = an := by
    rcases ha with ⟨h, h0⟩ | ⟨y, c, h, _⟩
    · cases h; exact h0.symm
    · cases h; rfl
  generalize hz : zs.take len = pks at hsl hws hl
  subst hl
  clear hr hz
  by_cases h3 : (60 : Int) < (al : Int)
  · clear hsl hws ha
    go_enter Try.func4, Try.ntmps4
    go_wp2_with fail
    refine (awake8 w).mono ?_
    rintro e w1 ⟨rfl, b1⟩
    go_wp2_with fail
    go_ret
    exact ⟨rfl, b1⟩
  · by_cases h1 : (600 : Int) < (pks.length : Int)
    · have h3b : decide ((60 : Int) < (al : Int)) = false := by simpa using h3
      clear hsl hws ha
      go_enter Try.func4, Try.ntmps4
      go_wp2_with fail
      refine (awake8 w).mono ?_
      rintro e w1 ⟨rfl, b1⟩
      go_wp2_with fail
      go_ret
      exact ⟨rfl, b1⟩
    · have key : ∃ bs : List Bool, bs.length = al ∧ ∀ i, i < al → ∃ ab aoff, aa = some ⟨ab, aoff, none⟩ ∧ ab < w.heap.size ∧ ∃ x : Bool, bs[i]? = some x ∧ w.cell? ⟨ab, aoff + i, none⟩ = some (.bool x) := by
        by_cases h0 : al = 0
        · exact ⟨[], h0.symm, fun i hi => by omega⟩
        · obtain ⟨ab, aoff, acap, hav, hab, hac⟩ := rows_at ha (by omega) (by decide)
          simp only [Value.slice.injEq] at hav
          obtain ⟨bs, hb1, hb2⟩ := bools_of (P := fun i x => w.cell? ⟨ab, aoff + i, none⟩ = some (.bool x)) al (fun i hi => by
            obtain ⟨vs, hsc, hc⟩ := hac i hi
            obtain ⟨u, _, rfl, ho, hn⟩ := scal_cons hsc
            have := scal_nil hn; subst this
            obtain ⟨x, rfl⟩ := kd_bool ho
            have := hc 0 (by decide)
            exact ⟨x, by simpa using this⟩)
          exact ⟨bs, hb1, fun i hi => ⟨ab, aoff, hav.1, hab, hb2 i hi⟩⟩
      obtain ⟨bs, hb1, hb2⟩ := key
      exact donce_ok v v0 v1 a aa cap ac al pks bs hb1 w hsl hws hb2 h1 h3

end Go.Proofs.Ytlmmaijbppdckaa

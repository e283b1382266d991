/- The walk of GraphGone. No condition. -/
import Derived.Test.YtfjkmdhkalbpkaaAw7
set_option linter.unusedVariables false
set_option linter.unusedSimpArgs false
namespace Go.Proofs.Ytfjkmdhkalbpkaa
open Go.ChangeShapes Go.WideShapes Go.ChangeAt Go.RowKit

theorem scal5 {w : World} {a b c d e : Kd} {vs : List Value} (h : Scal w [a, b, c, d, e] vs) : ∃ p q r s t, vs = [p, q, r, s, t] ∧ a.ok w p ∧ b.ok w q ∧ c.ok w r ∧ d.ok w s ∧ e.ok w t := by
  obtain ⟨p, vs1, rfl, hp, h1⟩ := scal_cons h
  obtain ⟨q, vs2, rfl, hq, h2⟩ := scal_cons h1
  obtain ⟨r, vs3, rfl, hr, h3⟩ := scal_cons h2
  obtain ⟨s, vs4, rfl, hs, h4⟩ := scal_cons h3
  obtain ⟨t, vs5, rfl, ht, h5⟩ := scal_cons h4
  obtain rfl := scal_nil h5
  exact ⟨p, q, r, s, t, rfl, hp, hq, hr, hs, ht⟩

abbrev actK : List Kd := [.int .u8, .int .i64, .int .i64, .int .i64, .int .i64]

/-- An operation on the list that came in. -/
theorem act_at {w : World} {v : Value} {n : Nat} (h : IsRows actK w v n) (k : Nat) (hk : k < n) : ∃ pb poff pcap d m a s b, v = .slice (some ⟨pb, poff, none⟩) n pcap ∧ 0 ≤ d ∧ ∀ (wq : World) (cq : List (Chunk w.heap.size)), Has w wq cq →
    wq.cell? ⟨pb, poff + k * 5, none⟩ = some (.int .u8 d) ∧ wq.cell? ⟨pb, poff + k * 5 + 1, none⟩ = some (.int .i64 m) ∧ wq.cell? ⟨pb, poff + k * 5 + 2, none⟩ = some (.int .i64 a) ∧ wq.cell? ⟨pb, poff + k * 5 + 3, none⟩ = some (.int .i64 s) ∧ wq.cell? ⟨pb, poff + k * 5 + 4, none⟩ = some (.int .i64 b) := by
  obtain ⟨pb, poff, pcap, hv, hb, hr⟩ := rows_at h (by omega) (by decide)
  obtain ⟨vs, hs, hc⟩ := hr k hk
  obtain ⟨p0, p1, p2, p3, p4, rfl, ⟨d, rfl, w0⟩, ⟨m, rfl, w1⟩, ⟨a, rfl, w2⟩, ⟨s, rfl, w3⟩, ⟨b, rfl, w4⟩⟩ := scal5 hs
  have hd := Go.bounds_u8 w0
  refine ⟨pb, poff, pcap, d, m, a, s, b, hv, hd.1, fun wq cq H => ?_⟩
  have c : ∀ j, j < 5 → wq.cell? ⟨pb, poff + k * 5 + j, none⟩ = [Value.int .u8 d, .int .i64 m, .int .i64 a, .int .i64 s, .int .i64 b][j]? := fun j hj => (H.below.cell (p := ⟨pb, poff + k * 5 + j, none⟩) hb).trans (hc j hj)
  exact ⟨c 0 (by omega), c 1 (by omega), c 2 (by omega), c 3 (by omega), c 4 (by omega)⟩

theorem length_reach {g : PG} (ok : g.Ok) : g.reach.length ≤ g.nodes.length := PG.length_le_of_nodup (PG.nodup_of_sorted g.reach_sorted) fun x hx => PG.rch_bd ok ((PG.mem_reach ok).1 hx)

theorem rows_val {ks : List Kd} {w : World} {v : Value} {n : Nat} (h : IsRows ks w v n) : ∃ a c, v = .slice a n c := by
  rcases h with ⟨h, h0⟩ | ⟨y, c, h, _⟩
  · exact ⟨none, 0, by rw [h, h0]⟩
  · exact ⟨_, _, h⟩

/-- What was passed is less than all that is left. -/
structure JI (R R' : List Int) (j k : Nat) : Prop where
  le : k ≤ R.length
  lt : ∀ (i t : Nat) x y, i < k → j ≤ t → R[i]? = some x → R'[t]? = some y → x < y
theorem ji0 (R R' : List Int) : JI R R' 0 0 := ⟨by omega, fun i t x y h => by omega⟩
theorem ji_j {R R' : List Int} {j k : Nat} (h : JI R R' j k) : JI R R' (j + 1) k := ⟨h.le, fun i t x y hi ht hx hy => h.lt i t x y hi (by omega) hx hy⟩
theorem sorted_lt {l : List Int} (h : l.Pairwise (· < ·)) {i j : Nat} {x y : Int} (hij : i < j) (hx : l[i]? = some x) (hy : l[j]? = some y) : x < y := by
  obtain ⟨h1, rfl⟩ := List.getElem?_eq_some_iff.1 hx
  obtain ⟨h2, rfl⟩ := List.getElem?_eq_some_iff.1 hy
  exact List.pairwise_iff_getElem.1 h i j h1 h2 hij
theorem ji_k {R R' : List Int} (s' : R'.Pairwise (· < ·)) {j k : Nat} (h : JI R R' j k) {x y : Int} (hx : R[k]? = some x) (hy : R'[j]? = some y) (hxy : x < y) : JI R R' j (k + 1) := by
  have hk := (List.getElem?_eq_some_iff.1 hx).1
  refine ⟨by omega, fun i t u v hi ht hu hv => ?_⟩
  by_cases e : i = k
  · subst e
    rw [hx] at hu
    cases hu
    by_cases e2 : t = j
    · subst e2
      rw [hy] at hv
      cases hv
      exact hxy
    · have := sorted_lt s' (show j < t by omega) hy hv
      omega
  · exact h.lt i t u v (by omega) ht hu hv
/-- Where it stands still the two are one. -/
theorem ji_eq {R R' : List Int} (s : R.Pairwise (· < ·)) {j k : Nat} (h : JI R R' j k) {y : Int} (hy : R'[j]? = some y) (hm : y ∈ R) : k < R.length ∧ ∀ x, R[k]? = some x → ¬ x < y → x = y := by
  obtain ⟨i, hi⟩ := List.mem_iff_getElem?.1 hm
  have hik : k ≤ i := by
    rcases Nat.lt_or_ge i k with q | q
    · have := h.lt i j y y q (Nat.le_refl _) hi hy
      omega
    · exact q
  have hil := (List.getElem?_eq_some_iff.1 hi).1
  refine ⟨by omega, fun x hx hn => ?_⟩
  by_cases e : k = i
  · subst e
    rw [hx] at hi
    exact Option.some.inj hi
  · have := sorted_lt s (show k < i by omega) hx hi
    omega

set_option maxRecDepth 100000 in
set_option maxHeartbeats 8000000 in
theorem gone_ok (va vb : Value) (na nb : Nat) (w : World) (ha : IsRows actK w va na) (hb : IsRows actK w vb nb) :
    Calls Try.prog 3 #[va, vb] w fun e w' => e = .returned (.bool true) ∧ Below w.heap.size w w' := by
  have RA := Lib.hid ha
  have RB := Lib.hid hb
  obtain ⟨aa, ac, rfl⟩ := rows_val ha
  obtain ⟨ba, bc, rfl⟩ := rows_val hb
  clear ha hb
  by_cases h1 : (60 : Int) < (na : Int)
  · go_enter Try.func3, Try.ntmps3
    go_wp2_with fail
    refine (awake7 _).mono ?_
    rintro e w1 ⟨rfl, q1⟩
    go_wp2_with fail
    go_ret
    exact ⟨rfl, q1⟩
  by_cases h2 : (60 : Int) < (nb : Int)
  · have h1b : decide ((60 : Int) < (na : Int)) = false := by simpa using h1
    go_enter Try.func3, Try.ntmps3
    go_wp2_with fail
    refine (awake7 _).mono ?_
    rintro e w1 ⟨rfl, q1⟩
    go_wp2_with fail
    go_ret
    exact ⟨rfl, q1⟩
  have h1b : decide ((60 : Int) < (na : Int)) = false := by simpa using h1
  have h2b : decide ((60 : Int) < (nb : Int)) = false := by simpa using h2
  go_enter Try.func3, Try.ntmps3
  go_wp2_with fail
  refine (awake7 _).mono ?_
  rintro e w1 ⟨rfl, q1⟩
  have G1 := (Has.nil w).up q1
  go_wp2_with fail
  refine (New_h G1 3 6 3 (by decide)).mono ?_
  rintro e w2 ⟨gb, S0, rfl, G2⟩
  have B2 := Lib.hid (newG_gb 3 6 3)
  clear G1 q1
  go_wp2_with fail
  go_loopw [7] (fun iv wr => ∃ (k : Nat) (S : GS) (G : PG), k ≤ na ∧ iv = .int .i64 k ∧ Hid (GB G 6 3 (k + 1)) ∧ Has w wr [grC _ gb S G]) (fun iv _ => na - (intOf iv).toNat)
  case atStart => exact ⟨0, S0, _, by omega, rfl, B2, G2⟩
  case round =>
  obtain ⟨k, S, G, hk, rfl, B, H⟩ := hrel
  clear G2
  by_cases hlt : k < na
  · have hlt' : (k : Int) < (na : Int) := by omega
    obtain ⟨pb, poff, pcap, d, m, a, s, b, hv, hd, hc⟩ := act_at RA.out k hlt
    cases hv
    obtain ⟨p0, p1, p2, p3, p4⟩ := hc _ _ H
    have sm := B.out.small (by decide) (by decide) (by omega)
    have C := Lib.hid (play_h H 0 rfl B.out.ok sm.1 sm.2.1 d m a s b hd)
    clear hc sm
    go_wp2_with fail
    refine C.out.mono ?_
    rintro e w3 ⟨rfl, S', H'⟩
    go_wp2_with fail
    go_roundw
    case rel => exact ⟨k + 1, S', _, by omega, by go_num, Lib.hid (gb_act B.out d m a s b), H'⟩
    case measure => simp [intOf]; omega
  · have hkn : k = na := by omega
    subst hkn
    have sm := B.out.small (by decide) (by decide) (by omega)
    go_wp2_with fail
    refine (Reach_h H 0 rfl B.out.ok sm.2.2.1 sm.2.1 sm.2.2.2).mono ?_
    rintro e w3 ⟨wv, rfl, H3⟩
    obtain ⟨xa, xc, rfl⟩ := own_is (H3.get 1 rfl)
    go_wp2_with fail
    refine (Nodes_s H3 0 rfl B.out.ok sm.1 sm.2.1).mono ?_
    rintro e w4 ⟨rfl, hw⟩
    obtain rfl := hw.symm
    clear hlt H sm
    have B0 : Hid (GB G 6 3 (k + 0 + 1)) := B
    clear B
    go_wp2_with fail
    go_loopw [8, 9, 10, 11, 12, 13] (fun wv nv iv _ _ _ wr => ∃ (j : Nat) (S : GS) (G : PG), j ≤ nb ∧ iv = .int .i64 j ∧ nv = .int .i64 G.nodes.length ∧ Hid (GB G 6 3 (k + j + 1)) ∧ Has w wr [grC _ gb S G, ownN _ 3 .i64 wv G.reach]) (fun _ _ iv _ _ _ _ => nb - (intOf iv).toNat)
    case atStart => exact ⟨0, S, G, by omega, rfl, rfl, B0, H3⟩
    case round =>
    obtain ⟨j, S, G, hj, rfl, rfl, B, H⟩ := hrel
    clear H3 B0
    obtain ⟨xa, xc, rfl⟩ := own_is (H.get 1 rfl)
    by_cases hlt : j < nb
    · have hlt' : (j : Int) < (nb : Int) := by omega
      obtain ⟨pb, poff, pcap, d, m, a, s, b, hv, hd, hc⟩ := act_at RB.out j hlt
      cases hv
      obtain ⟨p0, p1, p2, p3, p4⟩ := hc _ _ H
      have sm := B.out.small (by decide) (by decide) (by omega)
      have C := Lib.hid (play_h H 0 rfl B.out.ok sm.1 sm.2.1 d m a s b hd)
      have B' := Lib.hid (gb_act B.out d m a s b)
      have SUB := Lib.hid (fun v (h : v ∈ (G.act d m a s b).1.reach) (hv : v ≤ (G.nodes.length : Int)) => (PG.mem_reach B.out.ok).2 (PG.rch_act B.out.ok d m a s b ((PG.mem_reach B'.out.ok).1 h) hv))
      clear hc sm
      go_wp2_with fail
      refine C.out.mono ?_
      rintro e w5 ⟨rfl, S', H4'⟩
      have H4 : Has w w5 [grC _ gb S' (G.act d m a s b).1, ownN _ 3 .i64 (.slice xa G.reach.length xc) G.reach] := H4'
      clear H4' C p0 p1 p2 p3 p4
      generalize (G.act d m a s b).1 = G' at H4 B' SUB
      have sm := B'.out.small (by decide) (by decide) (by omega)
      go_wp2_with fail
      refine (Reach_h H4 0 rfl B'.out.ok sm.2.2.1 sm.2.1 sm.2.2.2).mono ?_
      rintro e w6 ⟨nv, rfl, H5'⟩
      obtain ⟨ya, yc, rfl⟩ := own_is (H5'.get 2 rfl)
      have H5 : Has w w6 [grC _ gb S' G', ownN _ 3 .i64 (.slice xa G.reach.length xc) G.reach, ownN _ 3 .i64 (.slice ya G'.reach.length yc) G'.reach] := H5'
      have SR := Lib.hid (And.intro G.reach_sorted G'.reach_sorted)
      have HLR := Lib.hid (show G.reach.length < 1000000 by have h := length_reach B.out.ok; have := B.out.nodes; omega)
      generalize G.reach = R at H5 SUB SR HLR ⊢
      obtain ⟨R', hR'⟩ : ∃ R', R' = G'.reach := ⟨_, rfl⟩
      have HR' := Lib.hid hR'
      rw [← hR'] at H5 SUB SR ⊢
      obtain ⟨n, hn⟩ : ∃ n : Nat, n = G.nodes.length := ⟨_, rfl⟩
      rw [← hn] at SUB ⊢
      have hR6 : R'.length < 1000000 := by
        have h := length_reach B'.out.ok
        rw [hR']
        omega
      have sm1 := sm.1
      have sm2 := sm.2.1
      clear H5' H4 hR' hn sm B
      go_wp2_with fail
      go_loopw [12, 13] (fun kv jv wr => ∃ (kk jj : Nat), jj ≤ R'.length ∧ jv = .int .i64 jj ∧ kv = .int .i64 kk ∧ Hid (JI R R' jj kk) ∧ Has w wr [grC _ gb S' G', ownN _ 3 .i64 (.slice xa R.length xc) R, ownN _ 3 .i64 (.slice ya R'.length yc) R']) (fun _ jv _ => R'.length - (intOf jv).toNat)
      case atStart => exact ⟨0, 0, by omega, rfl, rfl, Lib.hid (ji0 _ _), H5⟩
      case round =>
      obtain ⟨kk, jj, hjj, rfl, rfl, J, H6⟩ := hrel
      clear H5
      by_cases hjl : jj < R'.length
      · have hjl' : (jj : Int) < (R'.length : Int) := by omega
        obtain ⟨y, hy⟩ : ∃ y, R'[jj]? = some y := ⟨_, List.getElem?_eq_getElem hjl⟩
        obtain ⟨yg, yo, hh, -, -, -, ycell, -⟩ := own_atV (n := R'.length) (H6.get 2 rfl) (by omega)
        cases hh
        have yc1 := ycell jj (.int .i64 y) (by rw [List.getElem?_map, hy]; rfl)
        have HY := Lib.hid hy
        clear ycell hy
        by_cases hyn : y ≤ (n : Int)
        · have E := Lib.hid (SUB.out y (List.mem_of_getElem? HY.out) hyn)
          have J0 := J
          clear J
          go_wp2_with fail
          go_loopw [12] (fun kv wr => ∃ (kq : Nat), kv = .int .i64 kq ∧ Hid (JI R R' jj kq) ∧ Has w wr [grC _ gb S' G', ownN _ 3 .i64 (.slice xa R.length xc) R, ownN _ 3 .i64 (.slice (some ⟨yg, yo, none⟩) R'.length yc) R']) (fun kv _ => R.length - (intOf kv).toNat)
          case atStart => exact ⟨kk, rfl, J0, H6⟩
          case round =>
          obtain ⟨kq, rfl, J, H7⟩ := hrel
          have TE := ji_eq SR.out.1 J.out HY.out E.out
          have hkl := TE.1
          have hkl' : (kq : Int) < (R.length : Int) := by omega
          have hkl2 : decide ((R.length : Int) ≤ (kq : Int)) = false := by simp; omega
          obtain ⟨x, hx⟩ : ∃ x, R[kq]? = some x := ⟨_, List.getElem?_eq_getElem hkl⟩
          have TX := Lib.hid (TE.2 x hx)
          obtain ⟨xg, xo, hh, -, -, -, xcell, -⟩ := own_atV (n := R.length) (H7.get 1 rfl) (by omega)
          cases hh
          have xc1 := xcell kq (.int .i64 x) (by rw [List.getElem?_map, hx]; rfl)
          obtain ⟨yg', yo', hh, -, -, -, ycell, -⟩ := own_atV (n := R'.length) (H7.get 2 rfl) (by omega)
          cases hh
          have yc2 := ycell jj (.int .i64 y) (by rw [List.getElem?_map, HY.out]; rfl)
          have HX := Lib.hid hx
          clear xcell ycell hx TE yc1 H6 J0
          by_cases hxy : x < y
          · have hkb : (kq : Int) < 1000000 := by have := B'.out.nodes; have := HLR.out; omega
            go_wp2_with fail
            go_quiet (fail)
            go_wp2_with fail
            go_roundw
            case rel => exact ⟨kq + 1, by go_num, Lib.hid (ji_k SR.out.2 J.out HX.out HY.out hxy), H7.drewN _⟩
            case measure => simp [intOf]; omega
          · have hxe := TX.out hxy
            subst hxe
            have hx1 : decide (x < x) = false := by simp
            have hx2 : (x != x) = false := by simp
            have HW := Lib.hid (show wrap64 ((jj : Int) + 1) = ((jj + 1 : Nat) : Int) by unfold wrap64; omega)
            have HYN := Lib.hid hyn
            clear hxy hR6 hyn
            go_wp2_with fail
            go_quiet (fail)
            go_wp2_with fail
            go_quiet (fail)
            go_wp2_with fail
            go_roundw
            case rel => exact ⟨kq, jj + 1, by omega, by rw [HW.out], rfl, Lib.hid (ji_j J.out), by first | exact H7.drewN _ | exact (H7.drewN _).drewN _⟩
            case measure => rw [HW.out]; simp [intOf]; omega
        · go_wp2_with fail
          refine (Nodes_s H6 0 rfl B'.out.ok sm1 sm2).mono ?_
          rintro e w8 ⟨rfl, hw⟩
          obtain rfl := hw.symm
          go_wp2_with fail
          go_roundw
          case rel => exact ⟨j + 1, S', G', by omega, by go_num, rfl, Lib.hid (B'.out.le (by omega)), by rw [← HR'.out]; exact H6.pick [0, 2] (by decide) (by simp)⟩
          case measure => simp [intOf]; omega
      · have hjl2 : ¬ (jj : Int) < (R'.length : Int) := by omega
        go_wp2_with fail
        refine (Nodes_s H6 0 rfl B'.out.ok sm1 sm2).mono ?_
        rintro e w8 ⟨rfl, hw⟩
        obtain rfl := hw.symm
        go_wp2_with fail
        go_roundw
        case rel => exact ⟨j + 1, S', G', by omega, by go_num, rfl, Lib.hid (B'.out.le (by omega)), by rw [← HR'.out]; exact H6.pick [0, 2] (by decide) (by simp)⟩
        case measure => simp [intOf]; omega
    · have hge : ¬ (j : Int) < (nb : Int) := by omega
      go_wp2_with fail
      go_ret
      exact ⟨rfl, H.below⟩


theorem walk_GraphGone (aa : Option Addr) (al ac na : Nat) (ba : Option Addr) (bl bc nb : Nat) (w : World) (ha : IsRows actK w (.slice aa al ac) na) (hb : IsRows actK w (.slice ba bl bc) nb) :
    Calls Try.prog 3 #[.slice aa al ac, .slice ba bl bc] w fun e w' => e = .returned (.bool true) ∧ Below w.heap.size w w' := gone_ok _ _ na nb w ha hb

end Go.Proofs.Ytfjkmdhkalbpkaa

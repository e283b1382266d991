/- The walk of GraphClosed. No condition. -/
import Derived.Test.YtfjkmdhkalbpkaaLaw7e
set_option linter.unusedVariables false
set_option linter.unusedSimpArgs false
namespace Go.Proofs.Ytfjkmdhkalbpkaa
open Go.ChangeShapes Go.WideShapes Go.ChangeAt Go.RowKit

/-- A row of flags, one for each number up to N. -/
def bL (N : Nat) (p : Nat → Bool) : List Bool := (List.range (N + 1)).map p
theorem bL_get {N u : Nat} (p : Nat → Bool) (h : u < N + 1) : (bL N p)[u]? = some (p u) := by
  unfold bL; rw [List.getElem?_map, List.getElem?_range h]; rfl
theorem bL_set (N u : Nat) (p : Nat → Bool) : (bL N p).set u true = bL N (fun v => v == u || p v) := by
  unfold bL
  refine List.ext_getElem? fun j => ?_
  by_cases hj : j < N + 1
  · by_cases e : u = j
    · subst e
      rw [List.getElem?_set_self (by simpa using hj), List.getElem?_map, List.getElem?_range hj]
      simp
    · rw [List.getElem?_set_ne e, List.getElem?_map, List.getElem?_map, List.getElem?_range hj]
      have : (j == u) = false := by simpa using (Ne.symm e)
      simp [this]
  · rw [List.getElem?_eq_none (by simp; omega), List.getElem?_eq_none (by simp; omega)]

abbrev flC (n0 b N : Nat) (p : Nat → Bool) : Chunk n0 := ownC n0 4 1 (.slice (some ⟨b, 0, none⟩) (N + 1) (N + 1)) (N + 1) ((bL N p).map Value.bool)

theorem fl_cell {w : World} {b N : Nat} {p : Nat → Bool} (h : Own w 4 1 (.slice (some ⟨b, 0, none⟩) (N + 1) (N + 1)) (N + 1) ((bL N p).map Value.bool)) {u : Nat} (hu : u < N + 1) : w.cell? ⟨b, u, none⟩ = some (.bool (p u)) ∧ w.frozen? ⟨b, u, none⟩ = false := by
  obtain ⟨g, off, hh, -, -, -, hc, hf⟩ := own_atV (n := N + 1) h (by omega)
  cases hh
  have := hc u (.bool (p u)) (by rw [List.getElem?_map, bL_get p hu]; rfl)
  rw [Nat.zero_add] at this
  exact ⟨this, hf u⟩

theorem Has.flSet {w0 w : World} {cs : List (Chunk w0.heap.size)} (H : Has w0 w cs) (i : Nat) {b N : Nat} {p : Nat → Bool} (hi : cs[i]? = some (flC _ b N p)) (u : Nat) (hu : u < N + 1) : Has w0 (w.setCell ⟨b, u, none⟩ (.bool true)) (cs.set i (flC _ b N fun v => v == u || p v)) := by
  have h := H.ownSet0 i hi u (.bool true) (by omega)
  have e : ((bL N p).map Value.bool).set u (.bool true) = (bL N (fun v => v == u || p v)).map Value.bool := by
    rw [← bL_set, List.map_set]
  rw [e] at h
  exact h

theorem Has.flNew {w0 w : World} {cs : List (Chunk w0.heap.size)} (H : Has w0 w cs) (N : Nat) (hN : N < 10000) : Has w0 (w.alloc (.cells (madeCells #[Value.bool false] (N + 1)) 4)) (cs ++ [flC _ w.heap.size N fun _ => false]) := by
  have h := H.ownLit (madeCells #[Value.bool false] (N + 1)) 4 1 (N + 1) (by rw [size_madeCells]; omega) (by omega)
  have e : (madeCells #[Value.bool false] (N + 1)).toList = (bL N fun _ => false).map Value.bool := by
    rw [toList_madeCells_one]
    unfold bL
    rw [List.map_map, show (Value.bool ∘ fun _ => false) = (fun _ : Nat => Value.bool false) from rfl, List.map_const', List.length_range]
  rw [e] at h
  exact h

/-- A slice of numbers, none below 0. -/
theorem own_nat {w : World} {v : Value} {l : List Int} (h : Own w 3 1 v l.length (l.map (Value.int .i64))) {k : Nat} {x : Int} (hx : l[k]? = some x) (h0 : 0 ≤ x) : ∃ g off c, v = .slice (some ⟨g, off, none⟩) l.length c ∧ w.cell? ⟨g, off + k, none⟩ = some (.int .i64 (x.toNat : Int)) := by
  have hk := (List.getElem?_eq_some_iff.1 hx).1
  obtain ⟨g, off, c, hv, -, -, -, hc, -⟩ := own_at h (by omega)
  refine ⟨g, off, c, hv, ?_⟩
  rw [show ((x.toNat : Nat) : Int) = x by omega]
  exact hc k (.int .i64 x) (by rw [List.getElem?_map, hx]; rfl)

theorem take_mem_succ {l : List Int} {k : Nat} {x : Int} (hx : l[k]? = some x) (y : Int) : y ∈ l.take (k + 1) ↔ y = x ∨ y ∈ l.take k := by
  obtain ⟨hk, rfl⟩ := List.getElem?_eq_some_iff.1 hx
  rw [List.take_succ_eq_append_getElem hk, List.mem_append, List.mem_singleton]
  exact Or.comm
theorem not_mem_take {l : List Int} (h : l.Nodup) {k : Nat} {x : Int} (hx : l[k]? = some x) : x ∉ l.take k := by
  intro hm
  obtain ⟨j, hj⟩ := List.mem_iff_getElem?.1 hm
  rw [List.getElem?_take] at hj
  split at hj
  · obtain ⟨h1, e1⟩ := List.getElem?_eq_some_iff.1 hx
    obtain ⟨h2, e2⟩ := List.getElem?_eq_some_iff.1 hj
    have := (List.getElem_inj h).1 (e1.trans e2.symm)
    omega
  · cases hj

/-- Why a node can be come to. -/
theorem rch_why {g : PG} (ok : g.Ok) {v : Int} (h : v ∈ g.reach) : (∃ m : Nat, m < g.roots.length ∧ v ∈ g.rts m) ∨ ∃ u ∈ g.reach, v ∈ g.slots u := by
  have h' := (PG.mem_reach ok).1 h
  cases h' with
  | root a b c =>
    obtain ⟨k, hk, e⟩ := roots_rts a
    exact .inl ⟨k, hk, by rw [e]; exact b⟩
  | slot a b c => exact .inr ⟨_, (PG.mem_reach ok).2 a, b⟩
theorem rts_rch {g : PG} (ok : g.Ok) {m : Int} {v : Int} (h : v ∈ g.rts m) : 0 ≤ v ∧ v ≤ g.nodes.length ∧ (v = 0 ∨ v ∈ g.reach) := by
  unfold PG.rts at h
  cases e : g.L m with
  | none => rw [e] at h; simp at h
  | some l =>
    rw [e] at h
    have hm := PG.L_mem e
    have hb := ok.rv l hm v h
    refine ⟨hb.1, hb.2, ?_⟩
    by_cases h0 : v = 0
    · exact .inl h0
    · exact .inr ((PG.mem_reach ok).2 (.root hm h h0))
theorem slots_rch {g : PG} (ok : g.Ok) {u v : Int} (hu : u ∈ g.reach) (h : v ∈ g.slots u) : 0 ≤ v ∧ v ≤ g.nodes.length ∧ (v = 0 ∨ v ∈ g.reach) := by
  obtain ⟨l, hl, hs, -⟩ := PG.mem_slots h
  have hb := ok.nv l hl v hs
  refine ⟨hb.1, hb.2, ?_⟩
  by_cases h0 : v = 0
  · exact .inl h0
  · exact .inr ((PG.mem_reach ok).2 (.slot ((PG.mem_reach ok).1 hu) h h0))

set_option maxRecDepth 100000 in
set_option maxHeartbeats 16000000 in
theorem closed_ok (va : Value) (na : Nat) (w : World) (ha : IsRows actK w va na) :
    Calls Try.prog 5 #[va] w fun e w' => e = .returned (.bool true) ∧ Below w.heap.size w w' := by
  have RA := Lib.hid ha
  obtain ⟨aa, ac, rfl⟩ := rows_val ha
  clear ha
  by_cases h1 : (60 : Int) < (na : Int)
  · go_enter Try.func5, Try.ntmps5
    go_wp2_with fail
    refine (awake7 _).mono ?_
    rintro e w1 ⟨rfl, q1⟩
    go_wp2_with fail
    go_ret
    exact ⟨rfl, q1⟩
  go_enter Try.func5, Try.ntmps5
  go_wp2_with fail
  refine (awake7 _).mono ?_
  rintro e w1 ⟨rfl, q1⟩
  have G1 := (Has.nil w).up q1
  go_wp2_with fail
  refine (New_h G1 3 6 3 (by decide)).mono ?_
  rintro e w2 ⟨gb, S0, rfl, G2⟩
  have B2 := Lib.hid (newG_gb 3 6 3)
  clear G1 q1
  go_wp2_with fail
  go_loopw [5] (fun iv wr => ∃ (k : Nat) (S : GS) (G : PG), k ≤ na ∧ iv = .int .i64 k ∧ Hid (GB G 6 3 (k + 1)) ∧ Has w wr [grC _ gb S G]) (fun iv _ => na - (intOf iv).toNat)
  case atStart => exact ⟨0, S0, _, by omega, rfl, B2, G2⟩
  case round =>
  obtain ⟨k, S, G, hk, rfl, B, H⟩ := hrel
  clear G2
  by_cases hlt : k < na
  · have hlt' : (k : Int) < (na : Int) := by omega
    obtain ⟨pb, poff, pcap, d, m, a', s, b', hv, hd, hc⟩ := act_at RA.out k hlt
    cases hv
    obtain ⟨p0, p1, p2, p3, p4⟩ := hc _ _ H
    have sm := B.out.small (by decide) (by decide) (by omega)
    have C := Lib.hid (play_h H 0 rfl B.out.ok sm.1 sm.2.1 d m a' s b' hd)
    clear hc sm
    go_wp2_with fail
    refine C.out.mono ?_
    rintro e w4 ⟨rfl, S', H'⟩
    go_wp2_with fail
    go_roundw
    case rel => exact ⟨k + 1, S', _, by omega, by go_num, Lib.hid (gb_act B.out d m a' s b'), H'⟩
    case measure => simp [intOf]; omega
  · have hge : ¬ (k : Int) < (na : Int) := by omega
    have sm := B.out.small (by decide) (by decide) (by omega)
    have SM := Lib.hid sm
    obtain ⟨N, hN⟩ : ∃ N, N = G.nodes.length := ⟨_, rfl⟩
    have HN := Lib.hid hN
    have hN9 : (N : Int) < 100 := by have := B.out.nodes; omega
    obtain ⟨R, hR⟩ : ∃ R, R = G.reach := ⟨_, rfl⟩
    have HR := Lib.hid hR
    have RND : Hid (R.Nodup) := Lib.hid (by rw [hR]; exact PG.nodup_of_sorted G.reach_sorted)
    have RBD : Hid (∀ x ∈ R, 1 ≤ x ∧ x ≤ (N : Int)) := Lib.hid (fun x hx => by rw [hR] at hx; rw [hN]; exact PG.rch_bd B.out.ok ((PG.mem_reach B.out.ok).1 hx))
    have RLN : Hid (R.length ≤ N) := Lib.hid (by rw [hR, hN]; exact length_reach B.out.ok)
    have hmk := fun w : World => run_make_row' (P := Try.prog) 49 4 (.bool false) 1 Try.underlying49 (by kernel_rfl) rfl .i64 .i64 (N + 1) (by omega) (by omega) w
    rw [show (((N + 1 : Nat)) : Int) = (N : Int) + 1 by omega] at hmk
    clear sm hlt hN hR
    go_wp2_with fail
    refine (Reach_h H 0 rfl B.out.ok SM.out.2.2.1 SM.out.2.1 SM.out.2.2.2).mono ?_
    rintro e w4 ⟨v4, rfl, H4⟩
    rw [← HR.out] at H4
    obtain ⟨xa, xc, rfl⟩ := own_is (H4.get 1 rfl)
    go_wp2_with fail
    refine (Nodes_s H4 0 rfl B.out.ok SM.out.1 SM.out.2.1).mono ?_
    rw [← HN.out]
    rintro e w5 ⟨rfl, hw⟩
    obtain rfl := hw.symm
    have H5 : Has w (w4.alloc (.cells (madeCells #[Value.bool false] (N + 1)) 4)) [grC _ gb S G, ownN _ 3 .i64 (.slice xa R.length xc) R, flC _ w4.heap.size N fun _ => false] := H4.flNew N (by omega)
    obtain ⟨ib, hib⟩ : ∃ ib, ib = w4.heap.size := ⟨_, rfl⟩
    rw [← hib] at H5
    go_wp2_with fail
    rw [← hib]
    obtain ⟨W5, HW5, eW5⟩ := H5.name
    rw [← eW5.out]
    clear H4 H5 eW5 hib H
    refine (Nodes_s HW5 0 rfl B.out.ok SM.out.1 SM.out.2.1).mono ?_
    rw [← HN.out]
    rintro e w6 ⟨rfl, hw⟩
    obtain rfl := hw.symm
    have H6 : Has w (W5.alloc (.cells (madeCells #[Value.bool false] (N + 1)) 4)) [grC _ gb S G, ownN _ 3 .i64 (.slice xa R.length xc) R, flC _ ib N fun _ => false, flC _ W5.heap.size N fun _ => false] := HW5.flNew N (by omega)
    obtain ⟨wb, hwb⟩ : ∃ wb, wb = W5.heap.size := ⟨_, rfl⟩
    rw [← hwb] at H6
    go_wp2_with fail
    rw [← hwb]
    obtain ⟨W6, HW6, eW6⟩ := H6.name
    rw [← eW6.out]
    clear H6 eW6 hwb HW5 hmk
    go_loopw [9] (fun jv wr => ∃ (j : Nat) (p : Nat → Bool), j ≤ R.length ∧ jv = .int .i64 j ∧ Hid (∀ u : Nat, p u = true ↔ (u : Int) ∈ R.take j) ∧ Has w wr [grC _ gb S G, ownN _ 3 .i64 (.slice xa R.length xc) R, flC _ ib N p, flC _ wb N fun _ => false]) (fun jv _ => R.length - (intOf jv).toNat)
    case atStart => exact ⟨0, _, by omega, rfl, Lib.hid (fun u => by simp), HW6⟩
    case round =>
    obtain ⟨j, p, hj, rfl, P, H⟩ := hrel
    clear HW6
    by_cases hjl : j < R.length
    · have hjl' : (j : Int) < (R.length : Int) := by omega
      have hjb : (j : Int) < 100 := by have := RLN.out; omega
      obtain ⟨x, hx⟩ : ∃ x, R[j]? = some x := ⟨_, List.getElem?_eq_getElem hjl⟩
      have xb := RBD.out x (List.mem_of_getElem? hx)
      obtain ⟨xg, xo, xc', hh, xcell⟩ := own_nat (H.get 1 rfl) hx (by omega)
      cases hh
      obtain ⟨u, hu⟩ : ∃ u, u = x.toNat := ⟨_, rfl⟩
      rw [← hu] at xcell
      have hux : (u : Int) = x := by omega
      have hu1 : ¬ (u : Int) < 1 := by omega
      have hu2 : ¬ (N : Int) + 1 ≤ (u : Int) := by omega
      have hu3 : u < N + 1 := by omega
      have hpu : p u = false := by
        have := not_mem_take RND.out hx
        rw [← hux] at this
        cases e : p u with
        | false => rfl
        | true => exact absurd ((P.out u).1 e) this
      obtain ⟨ic, ifr⟩ := fl_cell (H.get 2 rfl) hu3
      rw [hpu] at ic
      have P' := Lib.hid (fun v : Nat => show (v == u || p v) = true ↔ (v : Int) ∈ R.take (j + 1) by
        rw [take_mem_succ hx, Bool.or_eq_true, P.out v, ← hux]
        simp only [beq_iff_eq, Int.natCast_inj])
      have FS := H.flSet 2 rfl u hu3
      have hu1b : decide ((u : Int) < 1) = false := by simpa using hu1
      have hu2b : decide ((N : Int) + 1 ≤ (u : Int)) = false := by simpa using hu2
      have HUX := Lib.hid hux
      clear hx xb hu hux hpu hu1 hu2
      have hu4 : (u : Int) < (N : Int) + 1 := by omega
      go_wp2_with fail
      go_roundw
      case rel => exact ⟨j + 1, _, by omega, by go_num, P', FS⟩
      case measure => simp [intOf]; omega
    · have hjl' : ¬ (j : Int) < (R.length : Int) := by omega
      obtain ⟨ic, ifr⟩ := fl_cell (H.get 2 rfl) (u := 0) (by omega)
      have FS := H.flSet 2 rfl 0 (by omega)
      have PI : Hid (∀ u : Nat, ((u == 0) || p u) = true ↔ (u = 0 ∨ (u : Int) ∈ R)) := Lib.hid (fun u => by
        have h1 := P.out u
        rw [List.take_of_length_le (by omega)] at h1
        rw [Bool.or_eq_true, h1]
        simp)
      generalize hq : (fun u : Nat => (u == 0) || p u) = q at FS
      have PQ : Hid (∀ u : Nat, q u = true ↔ (u = 0 ∨ (u : Int) ∈ R)) := Lib.hid (fun u => by rw [← hq]; exact PI.out u)
      clear hq PI P hjl
      have hN0 : (0 : Int) < (N : Int) + 1 := by omega
      go_wp2_with fail
      obtain ⟨W7, HW7, eW7⟩ := FS.name
      rw [← eW7.out]
      have H7 : Has w W7 [grC _ gb S G, ownN _ 3 .i64 (.slice xa R.length xc) R, flC _ ib N q, flC _ wb N fun _ => false] := HW7
      clear FS HW7 eW7 ic ifr H
      go_loopw [10, 11, 12] (fun mv _ _ wr => ∃ (m : Nat) (r : Nat → Bool), m ≤ 3 ∧ mv = .int .i64 m ∧ Hid (∀ m' : Nat, m' < m → ∀ v ∈ G.rts m', r v.toNat = true) ∧ Has w wr [grC _ gb S G, ownN _ 3 .i64 (.slice xa R.length xc) R, flC _ ib N q, flC _ wb N r]) (fun mv _ _ _ => 3 - (intOf mv).toNat)
      case atStart => exact ⟨0, _, by omega, rfl, Lib.hid (fun m' h => by omega), H7⟩
      case round =>
      obtain ⟨m, r, hm, rfl, PR, H⟩ := hrel
      clear H7
      by_cases hm3 : m < 3
      · have hm3' : (m : Int) < 3 := by omega
        go_wp2_with fail
        refine (Roots_h H 0 rfl B.out.ok SM.out.1 SM.out.2.1 m).mono ?_
        rintro e w8 ⟨v8, rfl, H8'⟩
        obtain ⟨ya, yc, rfl⟩ := own_is (H8'.get 4 rfl)
        obtain ⟨A, hA⟩ : ∃ A, A = G.rts m := ⟨_, rfl⟩
        have H8 : Has w w8 [grC _ gb S G, ownN _ 3 .i64 (.slice xa R.length xc) R, flC _ ib N q, flC _ wb N r, ownN _ 3 .i64 (.slice ya A.length yc) A] := by rw [hA]; exact H8'
        have ABD : Hid (∀ v ∈ A, 0 ≤ v ∧ v ≤ (N : Int) ∧ (v = 0 ∨ v ∈ R)) := Lib.hid (fun v hv => by rw [hA] at hv; rw [HN.out, HR.out]; exact rts_rch B.out.ok hv)
        have hA6 : A.length < 1000 := by rw [hA]; have := rts_len B.out.ok (by rw [B.out.most]; decide) m; rw [B.out.most] at this; omega
        rw [← hA]
        have HA := Lib.hid hA
        have HA6 := Lib.hid hA6
        clear H8' hA H hA6
        go_wp2_with fail
        go_loopw [12] (fun jv wr => ∃ (j : Nat) (r' : Nat → Bool), j ≤ A.length ∧ jv = .int .i64 j ∧ Hid ((∀ u, r u = true → r' u = true) ∧ ∀ v ∈ A.take j, r' v.toNat = true) ∧ Has w wr [grC _ gb S G, ownN _ 3 .i64 (.slice xa R.length xc) R, flC _ ib N q, flC _ wb N r', ownN _ 3 .i64 (.slice ya A.length yc) A]) (fun jv _ => A.length - (intOf jv).toNat)
        case atStart => exact ⟨0, r, by omega, rfl, Lib.hid ⟨fun _ h => h, by simp⟩, H8⟩
        case round =>
        obtain ⟨j', r', hj', rfl, PJ, H⟩ := hrel
        clear H8
        by_cases hjl : j' < A.length
        · have hjl' : (j' : Int) < (A.length : Int) := by omega
          have hjb : (j' : Int) < 1000 := by have := HA6.out; omega
          obtain ⟨x, hx⟩ : ∃ x, A[j']? = some x := ⟨_, List.getElem?_eq_getElem hjl⟩
          have xb := ABD.out x (List.mem_of_getElem? hx)
          obtain ⟨xg, xo, xc', hh, xcell⟩ := own_nat (H.get 4 rfl) hx xb.1
          cases hh
          obtain ⟨u, hu⟩ : ∃ u, u = x.toNat := ⟨_, rfl⟩
          rw [← hu] at xcell
          have hux : (u : Int) = x := by omega
          have hu3 : u < N + 1 := by omega
          have hqu : q u = true := (PQ.out u).2 (by rw [hux]; rcases xb.2.2 with e | e; exact .inl (by omega); exact .inr e)
          obtain ⟨ic, ifr⟩ := fl_cell (H.get 2 rfl) hu3
          obtain ⟨wc1, wfr⟩ := fl_cell (H.get 3 rfl) hu3
          rw [hqu] at ic
          have P' := Lib.hid (And.intro (fun v (h : r v = true) => show (v == u || r' v) = true by rw [PJ.out.1 v h]; simp) (fun v (hv : v ∈ A.take (j' + 1)) => show (v.toNat == u || r' v.toNat) = true by
            rcases (take_mem_succ hx v).1 hv with e | e
            · rw [e, ← hu]; simp
            · rw [PJ.out.2 v e]; simp))
          have FS := H.flSet 3 rfl u hu3
          have hu1b : decide ((u : Int) < 0) = false := by simp
          have hu2b : decide ((N : Int) + 1 ≤ (u : Int)) = false := by simp; omega
          have hu4 : (u : Int) < (N : Int) + 1 := by omega
          clear hx xb hu hux hqu
          go_wp2_with fail
          go_roundw
          case rel => exact ⟨j' + 1, _, by omega, by go_num, P', FS⟩
          case measure => simp [intOf]; omega
        · have hjl' : ¬ (j' : Int) < (A.length : Int) := by omega
          have PM := Lib.hid (fun (m' : Nat) (h : m' < m + 1) v (hv : v ∈ G.rts m') => show r' v.toNat = true by
            by_cases e : m' = m
            · subst e
              rw [← HA.out] at hv
              exact PJ.out.2 v (by rw [List.take_of_length_le (by omega)]; exact hv)
            · exact PJ.out.1 _ (PR.out m' (by omega) v hv))
          go_wp2_with fail
          go_roundw
          case rel => exact ⟨m + 1, r', by omega, by go_num, PM, H.pick [0, 1, 2, 3] (by decide) (by simp)⟩
          case measure => simp [intOf]; omega
      · have hm3' : ¬ (m : Int) < 3 := by omega
        have R0 : Hid ((∀ m' : Nat, m' < 3 → ∀ v ∈ G.rts m', r v.toNat = true) ∧ ∀ x ∈ R.take 0, ∀ v ∈ G.slots x, r v.toNat = true) := Lib.hid ⟨fun m' h => PR.out m' (by omega), by simp⟩
        clear PR
        go_wp2_with fail
        go_loopw [13, 14, 15] (fun jv _ _ wr => ∃ (j : Nat) (r : Nat → Bool), j ≤ R.length ∧ jv = .int .i64 j ∧ Hid ((∀ m' : Nat, m' < 3 → ∀ v ∈ G.rts m', r v.toNat = true) ∧ ∀ x ∈ R.take j, ∀ v ∈ G.slots x, r v.toNat = true) ∧ Has w wr [grC _ gb S G, ownN _ 3 .i64 (.slice xa R.length xc) R, flC _ ib N q, flC _ wb N r]) (fun jv _ _ _ => R.length - (intOf jv).toNat)
        case atStart => exact ⟨0, r, by omega, rfl, R0, H⟩
        case round =>
        obtain ⟨j, r, hj, rfl, PR, H⟩ := hrel
        clear R0
        by_cases hjl : j < R.length
        · have hjl' : (j : Int) < (R.length : Int) := by omega
          have hjb : (j : Int) < 100 := by have := RLN.out; omega
          obtain ⟨x, hx⟩ : ∃ x, R[j]? = some x := ⟨_, List.getElem?_eq_getElem hjl⟩
          obtain ⟨xg, xo, hh, -, -, -, xcell, -⟩ := own_atV (n := R.length) (H.get 1 rfl) (by omega)
          cases hh
          have xc1 := xcell j (.int .i64 x) (by rw [List.getElem?_map, hx]; rfl)
          have HX := Lib.hid hx
          clear xcell hx
          go_wp2_with fail
          refine (Slots_h H 0 rfl B.out.ok SM.out.1 SM.out.2.1 x).mono ?_
          rintro e w8 ⟨v8, rfl, H8'⟩
          obtain ⟨ya, yc, rfl⟩ := own_is (H8'.get 4 rfl)
          obtain ⟨A, hA⟩ : ∃ A, A = G.slots x := ⟨_, rfl⟩
          have H8 : Has w w8 [grC _ gb S G, ownN _ 3 .i64 (.slice (some ⟨xg, xo, none⟩) R.length xc) R, flC _ ib N q, flC _ wb N r, ownN _ 3 .i64 (.slice ya A.length yc) A] := by rw [hA]; exact H8'
          have ABD : Hid (∀ v ∈ A, 0 ≤ v ∧ v ≤ (N : Int) ∧ (v = 0 ∨ v ∈ R)) := Lib.hid (fun v hv => by
            rw [hA] at hv
            have hxm := List.mem_of_getElem? HX.out
            rw [HR.out] at hxm
            rw [HN.out, HR.out]
            exact slots_rch B.out.ok hxm hv)
          have hA6 : A.length < 1000 := by rw [hA]; have := PG.slots_len B.out.ok x; omega
          rw [← hA]
          have HA := Lib.hid hA
          have HA6 := Lib.hid hA6
          clear H8' hA H hA6 xc1
          go_wp2_with fail
          go_loopw [15] (fun iv wr => ∃ (i : Nat) (r' : Nat → Bool), i ≤ A.length ∧ iv = .int .i64 i ∧ Hid ((∀ u, r u = true → r' u = true) ∧ ∀ v ∈ A.take i, r' v.toNat = true) ∧ Has w wr [grC _ gb S G, ownN _ 3 .i64 (.slice (some ⟨xg, xo, none⟩) R.length xc) R, flC _ ib N q, flC _ wb N r', ownN _ 3 .i64 (.slice ya A.length yc) A]) (fun iv _ => A.length - (intOf iv).toNat)
          case atStart => exact ⟨0, r, by omega, rfl, Lib.hid ⟨fun _ h => h, by simp⟩, H8⟩
          case round =>
          obtain ⟨i', r', hi', rfl, PJ, H⟩ := hrel
          clear H8
          by_cases hil : i' < A.length
          · have hil' : (i' : Int) < (A.length : Int) := by omega
            have hib' : (i' : Int) < 1000 := by have := HA6.out; omega
            obtain ⟨y, hy⟩ : ∃ y, A[i']? = some y := ⟨_, List.getElem?_eq_getElem hil⟩
            have yb := ABD.out y (List.mem_of_getElem? hy)
            obtain ⟨yg, yo, yc', hh, ycell⟩ := own_nat (H.get 4 rfl) hy yb.1
            cases hh
            obtain ⟨u, hu⟩ : ∃ u, u = y.toNat := ⟨_, rfl⟩
            rw [← hu] at ycell
            have huy : (u : Int) = y := by omega
            have hu3 : u < N + 1 := by omega
            have hqu : q u = true := (PQ.out u).2 (by rw [huy]; rcases yb.2.2 with e | e; exact .inl (by omega); exact .inr e)
            obtain ⟨ic, ifr⟩ := fl_cell (H.get 2 rfl) hu3
            obtain ⟨wc1, wfr⟩ := fl_cell (H.get 3 rfl) hu3
            rw [hqu] at ic
            have P' := Lib.hid (And.intro (fun v (h : r v = true) => show (v == u || r' v) = true by rw [PJ.out.1 v h]; simp) (fun v (hv : v ∈ A.take (i' + 1)) => show (v.toNat == u || r' v.toNat) = true by
              rcases (take_mem_succ hy v).1 hv with e | e
              · rw [e, ← hu]; simp
              · rw [PJ.out.2 v e]; simp))
            have FS := H.flSet 3 rfl u hu3
            have hu1b : decide ((u : Int) < 0) = false := by simp
            have hu2b : decide ((N : Int) + 1 ≤ (u : Int)) = false := by simp; omega
            have hu4 : (u : Int) < (N : Int) + 1 := by omega
            clear hy yb hu huy hqu
            go_wp2_with fail
            go_roundw
            case rel => exact ⟨i' + 1, _, by omega, by go_num, P', FS⟩
            case measure => simp [intOf]; omega
          · have hil' : ¬ (i' : Int) < (A.length : Int) := by omega
            have PM := Lib.hid (And.intro (fun (m' : Nat) (h : m' < 3) v (hv : v ∈ G.rts m') => PJ.out.1 _ (PR.out.1 m' h v hv)) (fun z (hz : z ∈ R.take (j + 1)) v (hv : v ∈ G.slots z) => show r' v.toNat = true by
              rcases (take_mem_succ HX.out z).1 hz with e | e
              · rw [e, ← HA.out] at hv
                exact PJ.out.2 v (by rw [List.take_of_length_le (by omega)]; exact hv)
              · exact PJ.out.1 _ (PR.out.2 z e v hv)))
            go_wp2_with fail
            go_roundw
            case rel => exact ⟨j + 1, r', by omega, by go_num, PM, H.pick [0, 1, 2, 3] (by decide) (by simp)⟩
            case measure => simp [intOf]; omega
        · have hjl' : ¬ (j : Int) < (R.length : Int) := by omega
          have WHY : Hid (∀ v ∈ R, r v.toNat = true) := Lib.hid (fun v hv => by
            have hv' := hv
            rw [HR.out] at hv'
            rcases rch_why B.out.ok hv' with ⟨m', hm', hmem⟩ | ⟨u, hu, hmem⟩
            · exact PR.out.1 m' (by have := B.out.len; omega) v hmem
            · exact PR.out.2 u (by rw [List.take_of_length_le (by omega), HR.out]; exact hu) v hmem)
          clear PR
          have H0 := H
          clear H
          go_wp2_with fail
          go_loopw [16] (fun jv wr => ∃ (j : Nat), j ≤ R.length ∧ jv = .int .i64 j ∧ Has w wr [grC _ gb S G, ownN _ 3 .i64 (.slice xa R.length xc) R, flC _ ib N q, flC _ wb N r]) (fun jv _ => R.length - (intOf jv).toNat)
          case atStart => exact ⟨0, by omega, rfl, H0⟩
          case round =>
          obtain ⟨j', hj', rfl, H⟩ := hrel
          clear H0
          by_cases hjl2 : j' < R.length
          · have hjl2' : (j' : Int) < (R.length : Int) := by omega
            have hjb : (j' : Int) < 100 := by have := RLN.out; omega
            obtain ⟨x, hx⟩ : ∃ x, R[j']? = some x := ⟨_, List.getElem?_eq_getElem hjl2⟩
            have xb := RBD.out x (List.mem_of_getElem? hx)
            have hwy := WHY.out x (List.mem_of_getElem? hx)
            obtain ⟨xg, xo, xc', hh, xcell⟩ := own_nat (H.get 1 rfl) hx (by omega)
            cases hh
            obtain ⟨u, hu⟩ : ∃ u, u = x.toNat := ⟨_, rfl⟩
            rw [← hu] at xcell hwy
            have hu3 : u < N + 1 := by omega
            have hu4 : (u : Int) < (N : Int) + 1 := by omega
            obtain ⟨wc1, wfr⟩ := fl_cell (H.get 3 rfl) hu3
            rw [hwy] at wc1
            clear hx xb hu hwy
            go_wp2_with fail
            go_roundw
            case rel => exact ⟨j' + 1, by omega, by go_num, H⟩
            case measure => simp [intOf]; omega
          · have hjl2' : ¬ (j' : Int) < (R.length : Int) := by omega
            go_wp2_with fail
            go_ret
            exact ⟨rfl, H.below⟩

theorem walk_GraphClosed (aa : Option Addr) (al ac na : Nat) (w : World) (ha : IsRows actK w (.slice aa al ac) na) :
    Calls Try.prog 5 #[.slice aa al ac] w fun e w' => e = .returned (.bool true) ∧ Below w.heap.size w w' := closed_ok _ na w ha

end Go.Proofs.Ytfjkmdhkalbpkaa

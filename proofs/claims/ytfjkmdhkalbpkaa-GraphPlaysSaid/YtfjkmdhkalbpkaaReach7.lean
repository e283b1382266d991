/- The program's Reach: the nodes that can be come to, rising. Condition: fewer than a hundred million slots in all. -/
import Derived.Test.YtfjkmdhkalbpkaaApp7
import Derived.Carry
import Derived.Deep.DeepCutAuto
set_option linter.unusedVariables false
set_option linter.unusedSimpArgs false
namespace Go.Proofs.Ytfjkmdhkalbpkaa
open Go.ChangeShapes Go.WideShapes Go.ChangeAt Go.RowKit Go.Maps

theorem Has.front7 {w0 w : World} {cs ds : List (Chunk w0.heap.size)} (H : Has w0 w (cs ++ ds)) : Has w0 w cs :=
  ⟨H.below, fun i c hi => H.holds i c (by rw [List.getElem?_append_left (List.getElem?_eq_some_iff.1 hi).1]; exact hi), fun i c hi => H.lt i c (by rw [List.getElem?_append_left (List.getElem?_eq_some_iff.1 hi).1]; exact hi),
   fun i j c d hi hj => H.apart i j c d (by rw [List.getElem?_append_left (List.getElem?_eq_some_iff.1 hi).1]; exact hi) (by rw [List.getElem?_append_left (List.getElem?_eq_some_iff.1 hj).1]; exact hj)⟩

theorem app_idx {α : Type} (a b : List α) (k : Nat) : (a ++ b)[a.length + k]? = b[k]? := by
  rw [List.getElem?_append_right (by omega), show a.length + k - a.length = k by omega]
theorem app_old {α : Type} {a b : List α} {i : Nat} {x : α} (h : a[i]? = some x) : (a ++ b)[i]? = some x := by
  rw [List.getElem?_append_left (List.getElem?_eq_some_iff.1 h).1]; exact h

def vlen : Value → Nat | .slice _ n _ => n | _ => 0

/-- The counts: a number that isn't 0 has one just if it was come to. -/
structure FInv (f : Int → Int) (vis : List Int) (n : Nat) : Prop where
  bd : ∀ u, 0 ≤ f u ∧ f u ≤ n
  mem : ∀ u, u ≠ 0 → (f u = 0 ↔ u ∉ vis)
theorem finv0 : FInv (fun _ => 0) [] 0 := ⟨fun u => ⟨by omega, by omega⟩, fun u _ => by simp⟩
theorem finv_skip {f : Int → Int} {vis : List Int} {n : Nat} (h : FInv f vis n) {v : Int} (hv : v = 0 ∨ v ∈ vis) : FInv (fun u => if u = v then f v + 1 else f u) vis (n + 1) := by
  refine ⟨fun u => ?_, fun u h0 => ?_⟩
  · have h1 := h.bd u
    have h2 := h.bd v
    split <;> omega
  · have h2 := h.bd v
    split
    · rename_i e
      subst e
      have := h.mem u h0
      have hm := hv.resolve_left h0
      constructor
      · intro q; omega
      · intro q; exact absurd hm q
    · exact h.mem u h0
theorem finv_step {f : Int → Int} {vis : List Int} {n : Nat} (h : FInv f vis n) {v : Int} : FInv (fun u => if u = v then f v + 1 else f u) (vis ++ [v]) (n + 1) := by
  refine ⟨fun u => ?_, fun u h0 => ?_⟩
  · have h1 := h.bd u
    have h2 := h.bd v
    split <;> omega
  · have h2 := h.bd v
    split
    · rename_i e
      subst e
      constructor
      · intro q; omega
      · intro q; simp at q
    · rename_i e
      rw [h.mem u h0]
      simp [e]

theorem own_at_rd {w : World} {p : Value × List Int} (h : Own w 3 1 p.1 p.2.length (p.2.map (Value.int .i64))) : Rd w p.1 p.2 := rd_own h

theorem sort_reach {g : PG} (ok : g.Ok) {vis : List Int} (I : PG.DInv g vis []) : (vis.mergeSort fun x y => decide (x ≤ y)) = g.reach := by
  refine PG.dinv_end ok I (List.mergeSort_perm _ _) ?_
  have h := List.pairwise_mergeSort (le := fun x y : Int => decide (x ≤ y)) (fun a b c h1 h2 => by simp at h1 h2 ⊢; omega) (fun a b => by simp; omega) vis
  exact h.imp fun q => by simpa using q

section
variable {w0 w : World} {cs : List (Chunk w0.heap.size)} (H : Has w0 w cs) (i : Nat) {gb : Nat} {S : GS} {G : PG} (hi : cs[i]? = some (grC _ gb S G)) (ok : G.Ok) (hR : G.roots.length < 1000000) (hN : G.nodes.length < 1000000) (hB : G.roots.flatten.length + 65 * G.nodes.length < 100000000)
include H hi ok hR hN hB

set_option maxRecDepth 100000 in
set_option maxHeartbeats 4000000 in
theorem Reach_h : Calls Try.prog 13 #[.pointer (some ⟨gb, 0, none⟩)] w fun e w' => OwnR w0 cs G.reach e w' := by
  obtain ⟨A, hgb, hG⟩ := H.gr i hi
  subst hgb
  subst hG
  have hmm := @run_makeMap Try.prog
  obtain ⟨c0, c1, c2, fz⟩ := row3 A.g0
  unfold GS.rv at c1
  have hgl : S.gb < w.heap.size := blk_lt A.g0
  have HI := Lib.hid hi
  have OK := Lib.hid ok
  have HN := Lib.hid hN
  have HR := Lib.hid hR
  have HB := Lib.hid hB
  have K0 : Has w0 w (cs ++ [ownN _ 3 .i64 (.slice none 0 0) [], ownN _ 3 .i64 (.slice none 0 0) []]) := by
    have h := (H.ownNil 3 1).ownNil 3 1
    rw [List.append_assoc] at h
    exact h
  have K1 : Has w0 (w.alloc (.map #[] 0)) (cs ++ [ownN _ 3 .i64 (.slice none 0 0) [], ownN _ 3 .i64 (.slice none 0 0) [], cntC _ w.heap.size 0 fun _ => 0]) := by
    have h := K0.cntNew
    rw [List.append_assoc] at h
    exact h
  clear A hi ok hR hN hB
  go_enter Try.func13, Try.ntmps13
  go_wp2_with fail
  go_step3
  go_wp2_with fail
  go_loopw [4, 7, 17] (fun lv _ iv wr => ∃ (k : Nat), k ≤ S.rl.length ∧ iv = .int .i64 k ∧ Has w0 wr (cs ++ [ownN _ 3 .i64 (.slice none 0 0) [], ownN _ 3 .i64 lv (S.g.roots.take k).flatten, cntC _ w.heap.size 0 fun _ => 0])) (fun _ _ iv _ => S.rl.length - (intOf iv).toNat)
  case atStart => exact ⟨0, Nat.zero_le _, rfl, K1⟩
  case round =>
    obtain ⟨k, hk, rfl, G⟩ := hrel
    clear K0 K1 c0 c1 c2 fz hgl
    obtain ⟨A, -, -⟩ := G.gr i (app_old HI.out)
    obtain ⟨c0, c1, c2, fz⟩ := row3 A.g0
    unfold GS.rv at c1
    by_cases hlt : k < S.rl.length
    · have hkg : k < S.g.roots.length := by rw [roots_len]; exact hlt
      obtain ⟨a, c, h1, h2, h3⟩ := A.root (List.getElem?_eq_getElem hkg)
      generalize hl : S.g.roots[k] = l at h1 h2 h3
      have hle := own_at_rd (A.ri k _ h1)
      have e1 : (S.g.roots.take (k + 1)).flatten = (S.g.roots.take k).flatten ++ l := by
        rw [List.take_succ_eq_append_getElem hkg, List.flatten_append, hl]; simp
      have E1 := Lib.hid e1
      have hbd : (S.g.roots.take k).flatten.length + l.length < 1000000000 := by
        have h4 := congrArg List.length e1
        rw [List.length_append] at h4
        have h5 : (S.g.roots.take (k + 1)).flatten.length ≤ S.g.roots.flatten.length := by
          conv => rhs; rw [← List.take_append_drop (k + 1) S.g.roots]
          rw [List.flatten_append, List.length_append]; omega
        have := HB.out
        omega
      have HBD := Lib.hid hbd
      have hkb : (k : Int) < 1000000 := by have := HR.out; omega
      have HLE := Lib.hid hle
      clear e1 h1 h3 hbd hle hl A c0 c2
      go_wp2_with (at_builtin; refine wpl_appRd G (cs.length + 1) rfl (.tmp 21) (.tmp 22) rfl (app_idx _ _ _) rfl rfl HLE.out HBD.out ?_; intro v1 w1 G1; rw [set_app] at G1)
      go_roundw
      case rel => exact ⟨k + 1, by omega, by go_num, by rw [E1.out]; exact G1⟩
      case measure => simp [intOf]; omega
    · have hkl : k = S.rl.length := by omega
      have e0 : S.g.roots.take k = S.g.roots := by rw [List.take_of_length_le]; rw [roots_len]; omega
      rw [e0] at G
      clear e0 hkl hk A c0 c2 fz
      obtain ⟨NN, hNN⟩ : ∃ NN, NN = S.g.nodes.length := ⟨_, rfl⟩
      have HNN := Lib.hid hNN
      clear hNN
      obtain ⟨BB, hBB⟩ : ∃ BB, BB = S.g.roots.flatten.length + 65 * NN := ⟨_, rfl⟩
      have HBB := Lib.hid hBB
      have hbb : BB < 100000000 := by have := HB.out; rw [hBB, HNN.out]; exact this
      clear hBB
      go_wp2_with fail
      go_step3
      go_wp2_with fail
      go_loopw [4, 5, 8] (fun lv ov _ wr => ∃ (L vis : List Int) (n : Nat) (f : Int → Int), Hid (PG.DInv S.g vis L ∧ FInv f vis n) ∧ n + (L.length + 65 * (NN - vis.length)) ≤ BB ∧ Has w0 wr (cs ++ [ownN _ 3 .i64 ov vis, ownN _ 3 .i64 lv L, cntC _ w.heap.size n f])) (fun lv ov _ _ => vlen lv + 65 * (NN - vlen ov))
      case atStart => exact ⟨_, [], 0, _, Lib.hid ⟨PG.dinv_start OK.out, finv0⟩, by rw [HBB.out]; simp, G⟩
      case round =>
        obtain ⟨L, vis, n, f, I, hn, G'⟩ := hrel
        clear G c1 hlt
        obtain ⟨oa, oc, rfl⟩ := own_is (G'.get _ (app_idx _ _ 0))
        have hvl : vis.length ≤ NN := by rw [HNN.out]; exact PG.dinv_len OK.out I.out.1
        by_cases h0 : L = []
        · subst h0
          obtain ⟨la, lc, rfl⟩ := own_is (G'.get _ (app_idx _ _ 1))
          have hsv := sort_reach OK.out I.out.1
          have HSV := Lib.hid hsv
          have hv6 : vis.length < 1000000 := by have := HN.out; rw [← HNN.out] at this; omega
          clear hsv
          go_wp2_with fail
          refine (Sort_h G' (cs.length + 0) (app_idx _ _ 0) hv6).mono ?_
          rintro e w' ⟨rfl, G2⟩
          rw [set_app, HSV.out] at G2
          go_wp2_with fail
          try rw [Exit.noGoto_ret]
          go_ret
          refine ⟨_, rfl, ?_⟩
          have G3 : Has w0 w' ((cs ++ [ownN _ 3 .i64 (.slice oa vis.length oc) S.g.reach]) ++ [ownN _ 3 .i64 (.slice la ([] : List Int).length lc) [], cntC _ w.heap.size n f]) := by
            rw [List.append_assoc]; exact G2
          exact G3.front7
        · obtain ⟨L', v, rfl⟩ : ∃ L' v, L = L' ++ [v] := ⟨L.dropLast, L.getLast h0, (List.dropLast_concat_getLast h0).symm⟩
          obtain ⟨la, lc, hlv⟩ := own_is (G'.get _ (app_idx _ _ 1))
          have hp : (L' ++ [v]).length = L'.length + 1 := by simp
          rw [hp] at hlv hn
          subst hlv
          obtain ⟨lg, loff, hla, hcap, hcm, -, hcell, hfr⟩ := own_atV (n := (L' ++ [v]).length) (G'.get _ (app_idx _ _ 1)) (by omega)
          subst hla
          have hcv := hcell L'.length (.int .i64 v) (by simp)
          rw [hp] at hcap
          have hvb := I.out.1.l0 v (by simp)
          have hp6 : (L'.length : Int) < 100000000 := by omega
          have hlc : 1 ≤ lc := by omega
          have G1 : Has w0 wr (cs ++ [ownN _ 3 .i64 (.slice oa vis.length oc) vis, ownN _ 3 .i64 (.slice (some ⟨lg, loff, none⟩) L'.length lc) L', cntC _ w.heap.size n f]) := by
            have h := G'.ownTake (cs.length + 1) (g := lg) (off := loff) (m := L'.length + 1) (c := lc) (n := (L' ++ [v]).length) (xs := (L' ++ [v]).map (Value.int .i64)) (app_idx _ _ 1) L'.length (by omega)
            rw [set_app, Nat.mul_one, List.map_append, List.take_left' (by simp)] at h
            exact h
          clear hcell hfr hcm hp h0
          have HVB := Lib.hid hvb
          clear hvb
          have hwf : (Lit.int .i64 v).wf = true := WalkArith.wf_i64 (by have := HVB.out; have := HN.out; omega)
          have hfb := I.out.2.bd v
          have hl1 := cnt_look G1 (cs.length + 2) (app_idx _ _ 2) v hwf
          have FS := Lib.hid (fun h => finv_skip I.out.2 (v := v) h)
          have FN := Lib.hid (finv_step I.out.2 (v := v))
          have hmem := I.out.2.mem v
          generalize f v = c at hfb hl1 FS FN hmem
          have hwf2 : (Lit.int .i64 (c + 1)).wf = true := WalkArith.wf_i64 (by omega)
          have HWF := Lib.hid hwf
          have HWF2 := Lib.hid hwf2
          have hn9 : n < 1000000000 := by omega
          clear hwf hwf2
          have hc0 := hfb.1
          have hc1 : c < 100000000 := by omega
          by_cases hv0 : v = 0
          · subst hv0
            clear hmem FN
            go_wp2_with (at_mapUpdate; refine wpl_cnt G1 (cs.length + 2) (app_idx _ _ 2) rfl (.tmp 39) (.tmp 40) (.tmp 42) rfl rfl hn9 0 (c + 1) rfl rfl HWF.out HWF2.out ?_; intro w1 G2; rw [set_app] at G2)
            go_roundw
            case rel => exact ⟨L', vis, n + 1, _, Lib.hid ⟨PG.dinv_skip I.out.1 (.inl rfl), FS.out (.inl rfl)⟩, by omega, G2⟩
            case measure => first | (simp [vlen]; done) | (simp [vlen]; omega)
          · have hv0b : (v == 0) = false := by simpa using hv0
            by_cases hvis : v ∈ vis
            · have hc2 : 1 ≤ c := by
                have := (not_congr (hmem hv0)).2 (fun q => q hvis)
                omega
              have hc3 : decide ((1 : Int) < c + 1) = true := by simp; omega
              clear hmem FN
              go_wp2_with (at_mapUpdate; refine wpl_cnt G1 (cs.length + 2) (app_idx _ _ 2) rfl (.tmp 39) (.tmp 40) (.tmp 42) rfl rfl hn9 v (c + 1) rfl rfl HWF.out HWF2.out ?_; intro w1 G2; rw [set_app] at G2; have hl2 := cnt_look G2 (cs.length + 2) (app_idx _ _ 2) v HWF.out; rw [if_pos rfl] at hl2)
              go_roundw
              case rel => exact ⟨L', vis, n + 1, _, Lib.hid ⟨PG.dinv_skip I.out.1 (.inr hvis), FS.out (.inr hvis)⟩, by omega, G2⟩
              case measure => first | (simp [vlen]; done) | (simp [vlen]; omega)
            · have hc2 : c = 0 := (hmem hv0).2 hvis
              subst hc2
              have VIS := Lib.hid hvis
              have hd := PG.dinv_step OK.out I.out.1 hv0 hvis
              have HD := Lib.hid hd
              have hvl2 : vis.length + 1 ≤ NN := by have := PG.dinv_len OK.out hd; rw [HNN.out]; simpa using this
              have hv6 : vis.length + 1 < 1000000000000 := by have := HN.out; rw [← HNN.out] at this; omega
              clear hmem FS hvis hd
              go_upto_region 16 with (first | (at_mapUpdate; refine wpl_cnt G1 (cs.length + 2) (app_idx _ _ 2) rfl (.tmp 39) (.tmp 40) (.tmp 42) rfl rfl hn9 v (0 + 1) rfl rfl HWF.out HWF2.out ?_; intro w1 G2; rw [set_app] at G2; have hl2 := cnt_look G2 (cs.length + 2) (app_idx _ _ 2) v HWF.out; rw [if_pos rfl] at hl2) | (at_builtin; refine wpl_app G2 (cs.length + 0) rfl (.tmp 51) (.tmp 53) rfl el_i7 rfl (by decide) (by decide) (app_idx _ _ 0) rfl [.int .i64 v] rfl rfl (by simp [Value.oneCell']) hv6 ?_; intro v1 w2 G3; rw [ownN_app, set_app] at G3))
              obtain ⟨A, -, -⟩ := G3.gr i (app_old HI.out)
              obtain ⟨d0, d1, d2, gz⟩ := row3 A.g0
              obtain ⟨q, rfl⟩ : ∃ q : Nat, v = (q : Int) + 1 := ⟨(v - 1).toNat, by have := HVB.out; omega⟩
              have hq : q < S.g.nodes.length := by have := HVB.out; omega
              have hs : S.g.slots ((q : Int) + 1) = S.g.nodes[q] := by
                unfold PG.slots
                rw [show (q : Int) + 1 - 1 = (q : Int) by omega, iget_nat, List.getElem?_eq_getElem hq]
                rfl
              rw [hs] at HD
              generalize hlq : S.g.nodes[q] = sl at HD
              have hlq' : S.g.nodes[q]? = some sl := by rw [← hlq]; exact List.getElem?_eq_getElem hq
              obtain ⟨na, nc', nb, noff, nc, h1, h2, h3, -⟩ := A.node hlq'
              have hql : (q : Int) < (S.nl.length : Int) := by have := (List.getElem?_eq_some_iff.1 h1).1; omega
              have hsl := OK.out.nl sl (List.mem_of_getElem? hlq')
              have hle := Lib.hid (own_at_rd (A.ni q _ h1))
              rw [h2] at d2
              have hqb : (q : Int) < 1000000 := by have := HN.out; omega
              have hbd : L'.length + sl.length < 1000000000 := by omega
              have HBD := Lib.hid hbd
              clear hl1 hl2 G1 G2 A d0 d1 h1 h2 hs hlq hlq' hbd hcv
              go_wp2_with (at_builtin; refine wpl_appRd G3 (cs.length + 1) rfl (.tmp 55) (.tmp 63) rfl (app_idx _ _ 1) rfl rfl hle.out HBD.out ?_; intro v2 w3 G4; rw [set_app] at G4)
              obtain ⟨xa, xc, rfl⟩ := own_is (G4.get _ (app_idx _ _ 0))
              obtain ⟨ya, yc, rfl⟩ := own_is (G4.get _ (app_idx _ _ 1))
              go_roundw
              case rel => exact ⟨L' ++ sl, vis ++ [(q : Int) + 1], n + 1, _, Lib.hid ⟨HD.out, FN.out⟩, by simp; omega, G4⟩
              case measure => simp [vlen]; omega
end

end Go.Proofs.Ytfjkmdhkalbpkaa

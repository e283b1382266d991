/- The document's graph: the nodes that can be come to. Condition: fewer than a thousand lists. -/
import Derived.Test.YtfjkmdhkalbpkaaRg7m
set_option linter.unusedVariables false
set_option linter.unusedSimpArgs false
namespace Go.Proofs.Ytfjkmdhkalbpkaa
open Go.ChangeShapes Go.WideShapes Go.ChangeAt Go.RowKit

/-- Those of the first k that are marked. -/
def onL (is : List Bool) (k : Nat) : List Int := ((List.range k).filter fun i => is[i]? == some true).map (fun (i : Nat) => (i : Int) + 1)
theorem onL_yes {is : List Bool} {k : Nat} (h : is[k]? = some true) : onL is (k + 1) = onL is k ++ [(k : Int) + 1] := by
  unfold onL; rw [List.range_succ, List.filter_append, List.map_append]; simp [h]
theorem onL_no {is : List Bool} {k : Nat} (h : is[k]? = some false) : onL is (k + 1) = onL is k := by
  unfold onL; rw [List.range_succ, List.filter_append, List.map_append]; simp [h]
theorem onL_len (is : List Bool) (k : Nat) : (onL is k).length ≤ k := by
  unfold onL; rw [List.length_map]; exact Nat.le_trans (List.length_filter_le _ _) (by simp)

set_option maxRecDepth 100000 in
set_option maxHeartbeats 4000000 in
theorem Reach_r {w0 w : World} {cs : List (Chunk w0.heap.size)} (H : Has w0 w cs) (i : Nat) {X : RS} {G : PG} (hi : cs[i]? = some (rgC _ X G)) (ok : G.Ok) (hM : G.most < 1000000) (hR : G.roots.length < 1000) (hN : G.nodes.length < 1000) :
    Calls Try.prog 22 #[X.v G.most] w fun e w' => OwnR w0 cs G.reach e w' := by
  have K := H.blkNew #[X.rv, X.nv, .int .i64 G.most] 36
  have C := Lib.hid (Reached_r K i (app_old hi) ok hM hR hN)
  unfold OwnR
  unfold RS.v at C ⊢
  clear hi
  obtain ⟨N, hNN⟩ : ∃ N, N = G.nodes.length := ⟨_, rfl⟩
  have HNN := Lib.hid hNN
  have hN9 : N < 1000 := by omega
  clear hNN hM hR hN
  go_enter Try.func22, Try.ntmps22
  go_wp2_with fail
  refine C.out.mono ?_
  rintro e w1 ⟨b, is, rfl, hp, G1⟩
  have P := Lib.hid hp
  clear hp C K
  rw [← HNN.out] at G1 ⊢
  rw [List.append_assoc] at G1
  have G2 : Has w0 w1 (cs ++ [blC _ b N is]) := Has.second G1
  have G3 := G2.ownNil 3 1
  rw [List.append_assoc] at G3
  clear G1 G2
  have HL : Hid (is.length = N) := Lib.hid (by rw [P.out.inv.len]; exact HNN.out.symm)
  go_wp2_with fail
  go_loopw [3, 5] (fun ov kv wr => ∃ (k : Nat) (v : Value), k ≤ N ∧ kv = .int .i64 k ∧ ov = v ∧ Has w0 wr (cs ++ [blC _ b N is, ownN _ 3 .i64 v (onL is k)])) (fun _ kv _ => N - (intOf kv).toNat)
  case atStart => exact ⟨0, _, by omega, rfl, rfl, G3⟩
  case round =>
  obtain ⟨k, v, hk, rfl, rfl, G4⟩ := hrel
  clear G3
  by_cases hkl : k < N
  · have hki : (k : Int) < (N : Int) := by omega
    have hkb : (k : Int) < 1000 := by omega
    obtain ⟨x, hx⟩ : ∃ x, is[k]? = some x := ⟨_, List.getElem?_eq_getElem (by rw [HL.out]; exact hkl)⟩
    obtain ⟨cv, fv⟩ := bl_cell (G4.get _ (app_idx _ _ 0)) hx
    have HX := Lib.hid hx
    have hl6 : (onL is k).length + 1 < 1000000000000 := by have := onL_len is k; omega
    clear hx
    cases x with
    | true =>
      go_wp2_with (at_builtin; refine wpl_app G4 (cs.length + 1) rfl (.tmp 18) (.tmp 21) rfl el_i7 rfl (by decide) (by decide) (app_idx _ _ 1) rfl [.int .i64 ((k : Int) + 1)] rfl rfl (by simp [Value.oneCell']) hl6 ?_; intro v2 w2 G5; rw [ownN_app, set_app] at G5)
      go_roundw
      case rel => exact ⟨k + 1, _, by omega, by go_num, rfl, by rw [onL_yes HX.out]; exact G5⟩
      case measure => simp [intOf]; omega
    | false =>
      go_wp2_with fail
      go_roundw
      case rel => exact ⟨k + 1, _, by omega, by go_num, rfl, by rw [onL_no HX.out]; exact G4⟩
      case measure => simp [intOf]; omega
  · have hge : ¬ (k : Int) < (N : Int) := by omega
    obtain rfl : k = N := by omega
    clear hkl
    go_wp2_with fail
    go_ret
    have e : onL is k = G.reach := by
      have := PG.passes_reach ok P.out
      rw [HL.out] at this
      exact this
    refine ⟨_, rfl, ?_⟩
    rw [← e]
    exact Has.second G4

end Go.Proofs.Ytfjkmdhkalbpkaa

/- Layer 7: a new graph. No condition but that it may have fewer than a million roots. -/
import Derived.Test.YtfjkmdhkalbpkaaGr7g
set_option linter.unusedVariables false
set_option linter.unusedSimpArgs false
namespace Go.Proofs.Ytfjkmdhkalbpkaa
open Go.ChangeShapes Go.WideShapes Go.ChangeAt Go.RowKit

/-- What a call answers that makes a graph. -/
def NewR (w0 : World) (cs : List (Chunk w0.heap.size)) (G : PG) (e : Ending) (w' : World) : Prop := ∃ gb S, e = .returned (.pointer (some ⟨gb, 0, none⟩)) ∧ Has w0 w' (cs ++ [grC _ gb S G])

def rootL (most common : Int) : List Int := if 0 ≤ common ∧ 0 < most then [1] else []
def mutN (mm : Int) : Nat := (min (max mm 0) 16).toNat
def rootsK (mm most common : Int) : List (List Int) := List.replicate (mutN mm) (rootL most common)
def newG (mm most common : Int) : PG := ⟨max most 0, rootsK mm most common, if common < 0 then [] else [List.replicate (min common 64).toNat 0]⟩

theorem mutN_eq (mm : Int) : min (max mm 0) 16 = (mutN mm : Int) := by unfold mutN; omega
theorem mutN_le (mm : Int) : mutN mm ≤ 16 := by unfold mutN; omega

/-- The roots after k mutators were given theirs. -/
def rootsAt (n k : Nat) (most common : Int) : List (List Int) := List.replicate k (rootL most common) ++ List.replicate (n - k) []

theorem rootsAt_get {n k : Nat} (most common : Int) (h : k < n) : (rootsAt n k most common)[k]? = some [] := by
  unfold rootsAt
  rw [List.getElem?_append_right (by simp), List.length_replicate, Nat.sub_self, List.getElem?_replicate, if_pos (by omega)]
theorem rootsAt_push {n k : Nat} {most common : Int} (hc : 0 ≤ common) (hm : 0 < most) (h : k < n) : (rootsAt n k most common).modify k (· ++ [1]) = rootsAt n (k + 1) most common := by
  refine List.ext_getElem? fun j => ?_
  rw [get_mod]
  unfold rootsAt
  have e : rootL most common = [1] := if_pos ⟨hc, hm⟩
  rw [e]
  by_cases q1 : k = j
  · subst q1
    rw [if_pos rfl, List.getElem?_append_right (by simp), List.getElem?_append_left (by simp), List.length_replicate, Nat.sub_self, List.getElem?_replicate, List.getElem?_replicate, if_pos (by omega), if_pos (by omega)]
    rfl
  · rw [if_neg q1]
    rcases Nat.lt_or_ge j k with r | r
    · rw [List.getElem?_append_left (by simpa using r), List.getElem?_append_left (by simp; omega), List.getElem?_replicate, List.getElem?_replicate, if_pos r, if_pos (by omega)]
    · rw [List.getElem?_append_right (by simpa using r), List.getElem?_append_right (by simp; omega), List.length_replicate, List.length_replicate, List.getElem?_replicate, List.getElem?_replicate]
      by_cases s : j - k < n - k
      · rw [if_pos s, if_pos (by omega)]
      · rw [if_neg s, if_neg (by omega)]
theorem rootsAt_same {n k : Nat} {most common : Int} (hm : ¬ 0 < most) (h : k < n) : rootsAt n k most common = rootsAt n (k + 1) most common := by
  have e : rootL most common = [] := if_neg (by omega)
  unfold rootsAt
  rw [e]
  simp only [List.replicate_append_replicate]
  congr 1; omega

theorem nil_owns {w0 w : World} {cs : List (Chunk w0.heap.size)} (H : Has w0 w cs) (n : Nat) : Has w0 w (cs ++ (List.replicate n ((.slice none 0 0 : Value), ([] : List Int))).map (ownP w0.heap.size)) := by
  induction n generalizing cs with
  | zero => simpa using H
  | succ n ih =>
    have h := ih (H.ownNil 3 1)
    rw [List.append_assoc] at h
    rw [List.replicate_succ, List.map_cons]
    exact h

/-- The parts of a new graph, put together. -/
theorem new_close {w0 w : World} {cs : List (Chunk w0.heap.size)} {gb rb n : Nat} {M : Int} {nv : Value} {nl : List (Value × List Int)}
    (H : Has w0 w (cs ++ [ownC _ 30 1 (.slice (some ⟨rb, 0, none⟩) n n) n (List.replicate n (.slice none 0 0)), blkC _ gb #[.int .i64 M, .slice (some ⟨rb, 0, none⟩) n n, nv] 60] ++ (nl.map (ownP _) ++ [ownC _ 30 1 nv nl.length (nl.map (·.1))]))) :
    Has w0 w (cs ++ [grC _ gb ⟨gb, M, rb, List.replicate n (.slice none 0 0, []), nv, nl⟩ ⟨M, List.replicate n [], nl.map (·.2)⟩]) := by
  have H1 := nil_owns H n
  have H2 : Has w0 w (cs ++ gList _ ⟨gb, M, rb, List.replicate n (.slice none 0 0, []), nv, nl⟩) := by
    refine H1.perm ?_
    simp only [List.append_assoc]
    refine List.Perm.append_left cs ?_
    unfold gList GS.rv
    simp only [List.length_replicate, List.map_replicate, List.cons_append, List.nil_append, List.append_assoc]
    refine (List.Perm.swap _ _ _).trans (List.Perm.cons _ (List.Perm.cons _ ?_))
    exact List.perm_middle.trans (List.Perm.cons _ List.perm_append_comm)
  refine H2.closeNew gList_ro ⟨rfl, ?_⟩
  unfold GS.g
  simp only [List.map_replicate]

set_option maxRecDepth 100000 in
set_option maxHeartbeats 4000000 in
theorem New_h {w0 w : World} {cs : List (Chunk w0.heap.size)} (H : Has w0 w cs) (mm most common : Int) (hM : most < 1000000) :
    Calls Try.prog 11 #[.int .i64 mm, .int .i64 most, .int .i64 common] w fun e w' => NewR w0 cs (newG mm most common) e w' := by
  have hn16 := mutN_le mm
  have e16 := mutN_eq mm
  unfold newG rootsK
  generalize mutN mm = n at hn16 e16 ⊢
  have hmk := fun w : World => run_make_row' (P := Try.prog) 34 30 (.slice none 0 0) 24 Try.underlying34 (by kernel_rfl) rfl .i64 .i64 n (by omega) (by omega) w
  rw [← e16] at hmk
  have E16 := Lib.hid e16
  clear e16
  generalize hZ : madeCells #[Value.slice none 0 0] n = Z at hmk
  have K1 : Has w0 (w.alloc (.cells Z 30)) (cs ++ [ownC _ 30 1 (.slice (some ⟨w.heap.size, 0, none⟩) n n) n (List.replicate n (.slice none 0 0))]) := by
    have h := H.ownLit Z 30 1 n (by rw [← hZ, size_madeCells]; omega) (by omega)
    have e1 : Z.toList = List.replicate n (.slice none 0 0) := by rw [← hZ, toList_madeCells_one]
    rw [e1] at h
    exact h
  clear hZ
  by_cases hc : common < 0
  · rw [if_pos hc, show rootL most common = [] from if_neg (by omega)]
    have K2 := K1.blkNew #[.int .i64 (max most 0), .slice (some ⟨w.heap.size, 0, none⟩) n n, .slice none 0 0] 60
    have K3 := K2.ownNil 30 1
    clear K1 K2
    have e1 : (w.alloc (.cells Z 30)).heap.size = w.heap.size + 1 := by simp
    rw [e1] at K3
    have K4 := new_close (nl := []) (by rw [List.append_assoc] at K3 ⊢; rw [List.append_assoc] at K3; exact K3)
    have HK := Lib.hid K4
    clear K3 K4 e1 H
    go_enter Try.func11, Try.ntmps11
    go_wp2_with fail
    go_ret
    exact ⟨_, _, rfl, HK.out⟩
  · rw [if_neg hc]
    obtain ⟨q, hq⟩ : ∃ q : Nat, min common 64 = (q : Int) := ⟨(min common 64).toNat, by omega⟩
    have hq64 : q ≤ 64 := by omega
    have hmk2 := fun w : World => run_make_row' (P := Try.prog) 30 3 (.int .i64 0) 8 Try.underlying30 (by kernel_rfl) rfl .i64 .i64 q (by omega) (by omega) w
    rw [← hq] at hmk2
    generalize hY : madeCells #[Value.int .i64 0] q = Y at hmk2
    have eY : Y.toList = (List.replicate q (0 : Int)).map (Value.int .i64) := by rw [← hY, toList_madeCells_one]; simp
    have sY : Y.size = q * 1 := by rw [← hY, size_madeCells]; omega
    have HY := Lib.hid (And.intro eY sY)
    rw [show (min common 64).toNat = q by omega]
    have HQ := Lib.hid hq
    clear hY eY sY hq
    have hcb : decide (common < 0) = false := by simpa using hc
    go_enter Try.func11, Try.ntmps11
    go_upto_region 5 with (fail)
    have sz : ∀ (w : World) (o : Obj), (w.alloc o).heap.size = w.heap.size + 1 := fun w o => by simp
    have K2 := K1.blkNew #[.int .i64 (max most 0), .slice (some ⟨w.heap.size, 0, none⟩) n n, .slice (some ⟨w.heap.size + 1 + 1 + 1, 0, none⟩) 1 1] 60
    have K3 := K2.ownLit Y 3 1 q HY.out.2 (by omega)
    have K4 := K3.ownLit #[.slice (some ⟨w.heap.size + 1 + 1, 0, none⟩) q q] 30 1 1 rfl (by omega)
    rw [HY.out.1] at K3 K4
    simp only [sz, List.append_assoc, List.cons_append, List.nil_append] at K4
    have K5 := new_close (cs := cs) (gb := w.heap.size + 1) (rb := w.heap.size) (n := n) (M := max most 0) (nv := .slice (some ⟨w.heap.size + 1 + 1 + 1, 0, none⟩) 1 1) (nl := [(.slice (some ⟨w.heap.size + 1 + 1, 0, none⟩) q q, List.replicate q 0)]) (w0 := w0) (by
      rw [List.append_assoc]
      have e : ownP w0.heap.size (.slice (some ⟨w.heap.size + 1 + 1, 0, none⟩) q q, List.replicate q 0) = ownC _ 3 1 (.slice (some ⟨w.heap.size + 1 + 1, 0, none⟩) q q) q ((List.replicate q (0 : Int)).map (Value.int .i64)) := by
        show ownC _ _ 1 _ (List.replicate q (0 : Int)).length _ = _
        rw [List.length_replicate]
      simp only [List.map_cons, List.map_nil]
      rw [e]
      exact K4)
    clear K1 K2 K3 K4 sz hmk hmk2
    obtain ⟨W, HW, eW⟩ := K5.name
    rw [← eW.out]
    clear K5 eW
    have hgz : ∃ g, g = w.heap.size + 1 := ⟨_, rfl⟩
    obtain ⟨gb, hgb⟩ := hgz
    rw [← hgb] at HW ⊢
    have HW0 : Has w0 W (cs ++ [grC _ gb ⟨gb, max most 0, w.heap.size, List.replicate n (.slice none 0 0, []), .slice (some ⟨gb + 1 + 1, 0, none⟩) 1 1, [(.slice (some ⟨gb + 1, 0, none⟩) q q, List.replicate q 0)]⟩ ⟨max most 0, rootsAt n 0 most common, [List.replicate q 0]⟩]) := by
      have e : rootsAt n 0 most common = List.replicate n [] := by simp [rootsAt]
      rw [e]; exact HW
    obtain ⟨A, -, -⟩ := HW0.gr cs.length (app_idx _ _ 0)
    obtain ⟨c0, c1, c2, fz⟩ := row3 A.g0
    unfold GS.rv at c1
    simp only [List.length_replicate] at c1
    clear HW A c0 c2 hgb
    go_wp2_with fail
    go_loopw [8, 32] (fun _ iv wr => ∃ (k : Nat) (S : GS), k ≤ n ∧ iv = .int .i64 k ∧ Has w0 wr (cs ++ [grC _ gb S ⟨max most 0, rootsAt n k most common, [List.replicate q 0]⟩])) (fun _ iv _ => n - (intOf iv).toNat)
    case atStart => exact ⟨0, _, by omega, rfl, HW0⟩
    case round =>
      obtain ⟨k, S, hk, rfl, G⟩ := hrel
      clear HW0 c1 fz
      obtain ⟨A, hg1, hg2⟩ := G.gr cs.length (app_idx _ _ 0)
      have RQ := room_q A k
      rw [hg1] at RQ
      by_cases hlt : k < n
      · have hkb : (k : Int) < 17 := by omega
        have hgk : (rootsAt n k most common)[k]? = some [] := by
          exact rootsAt_get _ _ hlt
        have hroom : S.g.room k = decide (0 < most) := by
          unfold PG.room PG.L
          rw [hg2, iget_nat]
          dsimp only
          rw [hgk]
          simp only [List.length_nil]
          rw [Bool.eq_iff_iff]; simp; omega
        rw [hroom] at RQ
        have HRQ := Lib.hid RQ
        clear RQ hroom
        by_cases hm : 0 < most
        · rw [show decide (0 < most) = true by simpa using hm] at HRQ
          have P := fun d => push_h (G.drewN d) cs.length (app_idx _ _ 0) k [] 1 hgk (by simp)
          have HP := Lib.hid P
          have e2 : (PG.push ⟨max most 0, rootsAt n k most common, [List.replicate q 0]⟩ k 1) = ⟨max most 0, rootsAt n (k + 1) most common, [List.replicate q 0]⟩ := by
            unfold PG.push
            simp only [PG.mk.injEq, and_true, true_and, Int.toNat_natCast]
            exact rootsAt_push (by omega) hm hlt
          have E2 := Lib.hid e2
          clear P e2 hgk A hg1 hg2
          go_wp2_with fail
          refine HRQ.out.mono ?_
          rintro e w' ⟨rfl, d, rfl⟩
          go_wp2_with fail
          refine (HP.out d).mono ?_
          rintro e w' ⟨rfl, S', G'⟩
          rw [E2.out, show cs.length = cs.length + 0 from rfl, set_app] at G'
          go_wp2_with fail
          go_roundw
          case rel => exact ⟨k + 1, S', by omega, by go_num, G'⟩
          case measure => simp [intOf]; omega
        · rw [show decide (0 < most) = false by simpa using hm] at HRQ
          have e2 : rootsAt n k most common = rootsAt n (k + 1) most common := rootsAt_same hm hlt
          rw [e2] at G
          clear e2 hgk A hg1 hg2
          go_wp2_with fail
          refine HRQ.out.mono ?_
          rintro e w' ⟨rfl, d, rfl⟩
          go_wp2_with fail
          go_roundw
          case rel => exact ⟨k + 1, S, by omega, by go_num, G.drewN d⟩
          case measure => simp [intOf]; omega
      · have hkn : k = n := by omega
        have e2 : rootsAt n k most common = List.replicate n (rootL most common) := by
          unfold rootsAt; rw [hkn]; simp
        rw [e2] at G
        have hge : ¬ (k : Int) < (n : Int) := by omega
        clear e2 A hg1 hg2 RQ hkn hlt
        go_wp2_with fail
        go_ret
        exact ⟨gb, S, rfl, G⟩

end Go.Proofs.Ytfjkmdhkalbpkaa

/- The reference's machine of layer 21, step by step. -/
import Derived.Test.YtgodnmcfbbchoaaMeth21
import Derived.Test.YtgodnmcfbbchoaaDt21p
import Derived.Test.YtgodnmcfbbchoaaRef6H
set_option linter.unusedVariables false
set_option linter.unusedSimpArgs false
namespace Go.Proofs.Ytgodnmcfbbchoaa
open Go.ChangeShapes Go.WideShapes Go.ChangeAt Go.RowKit

/-- A machine of the reference, as a value. -/
def rdV (x : Dt) : Value := .agg #[.int .i64 x.doing, .int .u64 x.cy, .int .i64 x.turn, .int .i64 x.ek, .int .i64 0, .int .i64 x.ea, .int .i64 x.eb, .int .i64 0]
theorem set_other21 {w : World} {b b' o p : Nat} {v : Value} (h : b ≠ b') : (w.setCell ⟨b', p, none⟩ v).cell? ⟨b, o, none⟩ = w.cell? ⟨b, o, none⟩ := by
  exact World.cell?_setCell_other _ _ _ _ (fun q => h (congrArg Addr.block q).symm)
theorem lset21 {α : Type} {l : List α} {j : Nat} {x : α} (h : l[j]? = some x) (y : α) : (l.set j y)[j]? = some y := by
  rw [List.getElem?_set_self (List.getElem?_eq_some_iff.1 h).1]
theorem get_l2 {α : Type} (l : List α) (a b : α) : (l ++ [a] ++ [b])[l.length]? = some a ∧ (l ++ [a] ++ [b])[l.length + 1]? = some b := by
  constructor <;> simp [List.getElem?_append]
theorem set_l21 {α : Type} (l : List α) (a b y : α) : (l ++ [a] ++ [b]).set (l.length + 1) y = l ++ [a] ++ [y] := by
  have e : l.length + 1 = (l ++ [a]).length := by simp
  rw [e, set_last]
theorem set_l2 {α : Type} (l : List α) (a b x : α) {i : Nat} {c : α} (h : l[i]? = some c) : (l ++ [a] ++ [b]).set i x = l.set i x ++ [a] ++ [b] := by
  have hil := (List.getElem?_eq_some_iff.1 h).1
  rw [List.set_append_left _ _ (by simp; omega), List.set_append_left _ _ hil]

set_option maxRecDepth 100000 in
set_option maxHeartbeats 4000000 in
theorem rtell {w0 w : World} {cs : List (Chunk w0.heap.size)} (H : Has w0 w cs) (i : Nat) {mv : Value} {l : List Int} (x : Dt) (p : Int) (hi : cs[i]? = some (slC _ .u64 mv l)) (hl : l.length < 1000000000000) (hd : x.doing ≤ 13) (c0 : 0 ≤ x.cy) (c1 : x.cy < 1000000) :
    Calls Try.prog 54 #[mv, rdV x, .int .i64 p] w fun e w' => ∃ mv', e = .returned (.tuple #[mv', rdV ⟨(x.doing + 1) % 14, x.cy, 0, 7, p, x.cy⟩]) ∧ Has w0 w' (cs.set i (slC _ .u64 mv' (mput l 0 (wPhase x.cy p)))) := by
  obtain ⟨ma, mc, rfl, -, -⟩ := H.sl i hi
  have HI := Lib.hid hi
  clear hi
  unfold rdV
  go_enter Try.func54, Try.ntmps54
  have hd2 : (x.doing : Int) ≤ 13 := by omega
  by_cases h13 : x.doing = 13
  · have hb : ((x.doing : Int) + 1 == 14) = true := by simp; omega
    have HM := Lib.hid (show (x.doing + 1) % 14 = 0 by omega)
    go_wp2_with fail
    have e0 : (0 : Int) = 0 := rfl
    have z1 : ∀ (w : World) o, (w.alloc o).heap.size = w.heap.size + 1 := fun w o => by simp
    have G0' := (H.blkNew #[.int .i64 0, .int .u64 x.cy, .int .i64 0, .int .i64 7, .int .i64 0, .int .i64 p, .int .i64 x.cy, .int .i64 0] 64).blkNew #[.int .i64 0, .int .u64 0, .int .i64 0, .int .i64 0, .int .i64 0, .int .i64 0, .int .i64 0, .int .i64 0] 64
    rw [z1] at G0'
    obtain ⟨W, G0, eW⟩ := G0'.name
    rw [← eW.out]
    obtain ⟨B, hB⟩ : ∃ B, B = w.heap.size := ⟨_, rfl⟩
    obtain ⟨B1, hB1⟩ : ∃ B1, B1 = w.heap.size + 1 := ⟨_, rfl⟩
    rw [← hB1] at G0
    rw [← hB1]
    rw [← hB] at G0
    rw [← hB]
    have hBB : B ≠ B1 := by omega
    clear G0' eW z1 hB hB1
    obtain ⟨b0, b1, b2, b3, b4, b5, b6, b7, fb⟩ := row8 (G0.get cs.length (get_l2 cs _ _).1)
    obtain ⟨r0, r1, r2, r3, r4, r5, r6, r7, fr⟩ := row8 (G0.get (cs.length + 1) (get_l2 cs _ _).2)
    go_region_held3 (fun w' => w'.cell? ⟨B, 0, none⟩ = some (.int .i64 0) ∧ w'.cell? ⟨B, 1, none⟩ = some (.int .u64 x.cy) ∧ w'.cell? ⟨B, 2, none⟩ = some (.int .i64 0) ∧ w'.cell? ⟨B, 3, none⟩ = some (.int .i64 7) ∧ w'.cell? ⟨B, 4, none⟩ = some (.int .i64 0) ∧ w'.cell? ⟨B, 5, none⟩ = some (.int .i64 p) ∧ w'.cell? ⟨B, 6, none⟩ = some (.int .i64 x.cy) ∧ w'.cell? ⟨B, 7, none⟩ = some (.int .i64 0)) (refine ⟨?_, ?_, ?_, ?_, ?_, ?_, ?_, ?_⟩ <;> (first | (with_reducible assumption) | (simp only [cell_drewN1, cell_drew1, set_other21 hBB]; with_reducible assumption))) (first | (go_at_call 76; refine (RPhase_c x.cy p c0 (by omega) _).mono ?_; rintro e w1 ⟨rfl, d1, rfl⟩) | (go_at_call 29; (first | refine (RPut_h (G0.drewN _) i (get_app (get_app HI.out _) _) 0 (wPhase x.cy p) hl).mono ?_ | refine (RPut_h G0 i (get_app (get_app HI.out _) _) 0 (wPhase x.cy p) hl).mono ?_); rintro e w2 ⟨mv', rfl, G2'⟩; have G2 := G2'; rw [set_l2 _ _ _ _ HI.out] at G2; obtain ⟨b0, b1, b2, b3, b4, b5, b6, b7, fb⟩ := row8 (G2.get (cs.set i _).length (get_l2 _ _ _).1); obtain ⟨r0, r1, r2, r3, r4, r5, r6, r7, fr⟩ := row8 (G2.get ((cs.set i _).length + 1) (get_l2 _ _ _).2)))
    obtain ⟨cs', hcs⟩ : ∃ cs', cs' = cs.set i (slC _ .u64 mv' (mput l 0 (wPhase x.cy p))) := ⟨_, rfl⟩
    rw [← hcs] at G2
    have hci : cs'[i]? = some (slC _ .u64 mv' (mput l 0 (wPhase x.cy p))) := by rw [hcs]; exact lset21 HI.out _
    have HCS := Lib.hid hcs
    clear hcs
    obtain ⟨na, nc, rfl, -, -⟩ := G2.sl i (get_app (get_app hci _) _)
    clear hci G0 b0 b1 b2 b3 b4 b5 b6 b7 fb r0 r1 r2 r3 r4 r5 r6 r7 fr
    have S0 := G2
    have q0 := S0.blkSet _ (get_l2 cs' _ _).2 0 (.int .i64 0)
    rw [set_l21] at q0
    have S1 : Has w0 _ (cs' ++ [blkC _ B #[.int .i64 0, .int .u64 x.cy, .int .i64 0, .int .i64 7, .int .i64 0, .int .i64 p, .int .i64 x.cy, .int .i64 0] 64] ++ [blkC _ B1 #[.int .i64 0, .int .u64 0, .int .i64 0, .int .i64 0, .int .i64 0, .int .i64 0, .int .i64 0, .int .i64 0] 64]) := q0
    clear q0 S0
    have q1 := S1.blkSet _ (get_l2 cs' _ _).2 1 (.int .u64 x.cy)
    rw [set_l21] at q1
    have S2 : Has w0 _ (cs' ++ [blkC _ B #[.int .i64 0, .int .u64 x.cy, .int .i64 0, .int .i64 7, .int .i64 0, .int .i64 p, .int .i64 x.cy, .int .i64 0] 64] ++ [blkC _ B1 #[.int .i64 0, .int .u64 x.cy, .int .i64 0, .int .i64 0, .int .i64 0, .int .i64 0, .int .i64 0, .int .i64 0] 64]) := q1
    clear q1 S1
    have q2 := S2.blkSet _ (get_l2 cs' _ _).2 2 (.int .i64 0)
    rw [set_l21] at q2
    have S3 : Has w0 _ (cs' ++ [blkC _ B #[.int .i64 0, .int .u64 x.cy, .int .i64 0, .int .i64 7, .int .i64 0, .int .i64 p, .int .i64 x.cy, .int .i64 0] 64] ++ [blkC _ B1 #[.int .i64 0, .int .u64 x.cy, .int .i64 0, .int .i64 0, .int .i64 0, .int .i64 0, .int .i64 0, .int .i64 0] 64]) := q2
    clear q2 S2
    have q3 := S3.blkSet _ (get_l2 cs' _ _).2 3 (.int .i64 7)
    rw [set_l21] at q3
    have S4 : Has w0 _ (cs' ++ [blkC _ B #[.int .i64 0, .int .u64 x.cy, .int .i64 0, .int .i64 7, .int .i64 0, .int .i64 p, .int .i64 x.cy, .int .i64 0] 64] ++ [blkC _ B1 #[.int .i64 0, .int .u64 x.cy, .int .i64 0, .int .i64 7, .int .i64 0, .int .i64 0, .int .i64 0, .int .i64 0] 64]) := q3
    clear q3 S3
    have q4 := S4.blkSet _ (get_l2 cs' _ _).2 4 (.int .i64 0)
    rw [set_l21] at q4
    have S5 : Has w0 _ (cs' ++ [blkC _ B #[.int .i64 0, .int .u64 x.cy, .int .i64 0, .int .i64 7, .int .i64 0, .int .i64 p, .int .i64 x.cy, .int .i64 0] 64] ++ [blkC _ B1 #[.int .i64 0, .int .u64 x.cy, .int .i64 0, .int .i64 7, .int .i64 0, .int .i64 0, .int .i64 0, .int .i64 0] 64]) := q4
    clear q4 S4
    have q5 := S5.blkSet _ (get_l2 cs' _ _).2 5 (.int .i64 p)
    rw [set_l21] at q5
    have S6 : Has w0 _ (cs' ++ [blkC _ B #[.int .i64 0, .int .u64 x.cy, .int .i64 0, .int .i64 7, .int .i64 0, .int .i64 p, .int .i64 x.cy, .int .i64 0] 64] ++ [blkC _ B1 #[.int .i64 0, .int .u64 x.cy, .int .i64 0, .int .i64 7, .int .i64 0, .int .i64 p, .int .i64 0, .int .i64 0] 64]) := q5
    clear q5 S5
    have q6 := S6.blkSet _ (get_l2 cs' _ _).2 6 (.int .i64 x.cy)
    rw [set_l21] at q6
    have S7 : Has w0 _ (cs' ++ [blkC _ B #[.int .i64 0, .int .u64 x.cy, .int .i64 0, .int .i64 7, .int .i64 0, .int .i64 p, .int .i64 x.cy, .int .i64 0] 64] ++ [blkC _ B1 #[.int .i64 0, .int .u64 x.cy, .int .i64 0, .int .i64 7, .int .i64 0, .int .i64 p, .int .i64 x.cy, .int .i64 0] 64]) := q6
    clear q6 S6
    have q7 := S7.blkSet _ (get_l2 cs' _ _).2 7 (.int .i64 0)
    rw [set_l21] at q7
    have S8 : Has w0 _ (cs' ++ [blkC _ B #[.int .i64 0, .int .u64 x.cy, .int .i64 0, .int .i64 7, .int .i64 0, .int .i64 p, .int .i64 x.cy, .int .i64 0] 64] ++ [blkC _ B1 #[.int .i64 0, .int .u64 x.cy, .int .i64 0, .int .i64 7, .int .i64 0, .int .i64 p, .int .i64 x.cy, .int .i64 0] 64]) := q7
    clear q7 S7
    go_wp2_with fail
    obtain ⟨r0, r1, r2, r3, r4, r5, r6, r7, fr⟩ := row8 (S8.get (cs'.length + 1) (get_l2 cs' _ _).2)
    refine bodyPost_ret (v := .tuple #[.slice na (mput l 0 (wPhase x.cy p)).length nc, .agg #[.int .i64 0, .int .u64 x.cy, .int .i64 0, .int .i64 7, .int .i64 0, .int .i64 p, .int .i64 x.cy, .int .i64 0]]) (by simp [results, Try.results54, go_sem, r0, r1, r2, r3, r4, r5, r6, r7]) rfl ⟨_, by rw [HM.out]; rfl, ?_⟩
    rw [← HCS.out]
    exact S8.front.front
  · have hb : ((x.doing : Int) + 1 == 14) = false := by simp; omega
    have HM := Lib.hid (show (x.doing + 1) % 14 = x.doing + 1 by omega)
    go_wp2_with fail
    have z1 : ∀ (w : World) o, (w.alloc o).heap.size = w.heap.size + 1 := fun w o => by simp
    have G0' := (H.blkNew #[.int .i64 ((x.doing : Int) + 1), .int .u64 x.cy, .int .i64 0, .int .i64 7, .int .i64 0, .int .i64 p, .int .i64 x.cy, .int .i64 0] 64).blkNew #[.int .i64 0, .int .u64 0, .int .i64 0, .int .i64 0, .int .i64 0, .int .i64 0, .int .i64 0, .int .i64 0] 64
    rw [z1] at G0'
    obtain ⟨W, G0, eW⟩ := G0'.name
    rw [← eW.out]
    obtain ⟨B, hB⟩ : ∃ B, B = w.heap.size := ⟨_, rfl⟩
    obtain ⟨B1, hB1⟩ : ∃ B1, B1 = w.heap.size + 1 := ⟨_, rfl⟩
    rw [← hB1] at G0
    rw [← hB1]
    rw [← hB] at G0
    rw [← hB]
    have hBB : B ≠ B1 := by omega
    clear G0' eW z1 hB hB1
    obtain ⟨b0, b1, b2, b3, b4, b5, b6, b7, fb⟩ := row8 (G0.get cs.length (get_l2 cs _ _).1)
    obtain ⟨r0, r1, r2, r3, r4, r5, r6, r7, fr⟩ := row8 (G0.get (cs.length + 1) (get_l2 cs _ _).2)
    go_region_held3 (fun w' => w'.cell? ⟨B, 0, none⟩ = some (.int .i64 ((x.doing : Int) + 1)) ∧ w'.cell? ⟨B, 1, none⟩ = some (.int .u64 x.cy) ∧ w'.cell? ⟨B, 2, none⟩ = some (.int .i64 0) ∧ w'.cell? ⟨B, 3, none⟩ = some (.int .i64 7) ∧ w'.cell? ⟨B, 4, none⟩ = some (.int .i64 0) ∧ w'.cell? ⟨B, 5, none⟩ = some (.int .i64 p) ∧ w'.cell? ⟨B, 6, none⟩ = some (.int .i64 x.cy) ∧ w'.cell? ⟨B, 7, none⟩ = some (.int .i64 0)) (refine ⟨?_, ?_, ?_, ?_, ?_, ?_, ?_, ?_⟩ <;> (first | (with_reducible assumption) | (simp only [cell_drewN1, cell_drew1, set_other21 hBB]; with_reducible assumption))) (first | (go_at_call 76; refine (RPhase_c x.cy p c0 (by omega) _).mono ?_; rintro e w1 ⟨rfl, d1, rfl⟩) | (go_at_call 29; (first | refine (RPut_h (G0.drewN _) i (get_app (get_app HI.out _) _) 0 (wPhase x.cy p) hl).mono ?_ | refine (RPut_h G0 i (get_app (get_app HI.out _) _) 0 (wPhase x.cy p) hl).mono ?_); rintro e w2 ⟨mv', rfl, G2'⟩; have G2 := G2'; rw [set_l2 _ _ _ _ HI.out] at G2; obtain ⟨b0, b1, b2, b3, b4, b5, b6, b7, fb⟩ := row8 (G2.get (cs.set i _).length (get_l2 _ _ _).1); obtain ⟨r0, r1, r2, r3, r4, r5, r6, r7, fr⟩ := row8 (G2.get ((cs.set i _).length + 1) (get_l2 _ _ _).2)))
    obtain ⟨cs', hcs⟩ : ∃ cs', cs' = cs.set i (slC _ .u64 mv' (mput l 0 (wPhase x.cy p))) := ⟨_, rfl⟩
    rw [← hcs] at G2
    have hci : cs'[i]? = some (slC _ .u64 mv' (mput l 0 (wPhase x.cy p))) := by rw [hcs]; exact lset21 HI.out _
    have HCS := Lib.hid hcs
    clear hcs
    obtain ⟨na, nc, rfl, -, -⟩ := G2.sl i (get_app (get_app hci _) _)
    clear hci G0 b0 b1 b2 b3 b4 b5 b6 b7 fb r0 r1 r2 r3 r4 r5 r6 r7 fr
    have S0 := G2
    have q0 := S0.blkSet _ (get_l2 cs' _ _).2 0 (.int .i64 ((x.doing : Int) + 1))
    rw [set_l21] at q0
    have S1 : Has w0 _ (cs' ++ [blkC _ B #[.int .i64 ((x.doing : Int) + 1), .int .u64 x.cy, .int .i64 0, .int .i64 7, .int .i64 0, .int .i64 p, .int .i64 x.cy, .int .i64 0] 64] ++ [blkC _ B1 #[.int .i64 ((x.doing : Int) + 1), .int .u64 0, .int .i64 0, .int .i64 0, .int .i64 0, .int .i64 0, .int .i64 0, .int .i64 0] 64]) := q0
    clear q0 S0
    have q1 := S1.blkSet _ (get_l2 cs' _ _).2 1 (.int .u64 x.cy)
    rw [set_l21] at q1
    have S2 : Has w0 _ (cs' ++ [blkC _ B #[.int .i64 ((x.doing : Int) + 1), .int .u64 x.cy, .int .i64 0, .int .i64 7, .int .i64 0, .int .i64 p, .int .i64 x.cy, .int .i64 0] 64] ++ [blkC _ B1 #[.int .i64 ((x.doing : Int) + 1), .int .u64 x.cy, .int .i64 0, .int .i64 0, .int .i64 0, .int .i64 0, .int .i64 0, .int .i64 0] 64]) := q1
    clear q1 S1
    have q2 := S2.blkSet _ (get_l2 cs' _ _).2 2 (.int .i64 0)
    rw [set_l21] at q2
    have S3 : Has w0 _ (cs' ++ [blkC _ B #[.int .i64 ((x.doing : Int) + 1), .int .u64 x.cy, .int .i64 0, .int .i64 7, .int .i64 0, .int .i64 p, .int .i64 x.cy, .int .i64 0] 64] ++ [blkC _ B1 #[.int .i64 ((x.doing : Int) + 1), .int .u64 x.cy, .int .i64 0, .int .i64 0, .int .i64 0, .int .i64 0, .int .i64 0, .int .i64 0] 64]) := q2
    clear q2 S2
    have q3 := S3.blkSet _ (get_l2 cs' _ _).2 3 (.int .i64 7)
    rw [set_l21] at q3
    have S4 : Has w0 _ (cs' ++ [blkC _ B #[.int .i64 ((x.doing : Int) + 1), .int .u64 x.cy, .int .i64 0, .int .i64 7, .int .i64 0, .int .i64 p, .int .i64 x.cy, .int .i64 0] 64] ++ [blkC _ B1 #[.int .i64 ((x.doing : Int) + 1), .int .u64 x.cy, .int .i64 0, .int .i64 7, .int .i64 0, .int .i64 0, .int .i64 0, .int .i64 0] 64]) := q3
    clear q3 S3
    have q4 := S4.blkSet _ (get_l2 cs' _ _).2 4 (.int .i64 0)
    rw [set_l21] at q4
    have S5 : Has w0 _ (cs' ++ [blkC _ B #[.int .i64 ((x.doing : Int) + 1), .int .u64 x.cy, .int .i64 0, .int .i64 7, .int .i64 0, .int .i64 p, .int .i64 x.cy, .int .i64 0] 64] ++ [blkC _ B1 #[.int .i64 ((x.doing : Int) + 1), .int .u64 x.cy, .int .i64 0, .int .i64 7, .int .i64 0, .int .i64 0, .int .i64 0, .int .i64 0] 64]) := q4
    clear q4 S4
    have q5 := S5.blkSet _ (get_l2 cs' _ _).2 5 (.int .i64 p)
    rw [set_l21] at q5
    have S6 : Has w0 _ (cs' ++ [blkC _ B #[.int .i64 ((x.doing : Int) + 1), .int .u64 x.cy, .int .i64 0, .int .i64 7, .int .i64 0, .int .i64 p, .int .i64 x.cy, .int .i64 0] 64] ++ [blkC _ B1 #[.int .i64 ((x.doing : Int) + 1), .int .u64 x.cy, .int .i64 0, .int .i64 7, .int .i64 0, .int .i64 p, .int .i64 0, .int .i64 0] 64]) := q5
    clear q5 S5
    have q6 := S6.blkSet _ (get_l2 cs' _ _).2 6 (.int .i64 x.cy)
    rw [set_l21] at q6
    have S7 : Has w0 _ (cs' ++ [blkC _ B #[.int .i64 ((x.doing : Int) + 1), .int .u64 x.cy, .int .i64 0, .int .i64 7, .int .i64 0, .int .i64 p, .int .i64 x.cy, .int .i64 0] 64] ++ [blkC _ B1 #[.int .i64 ((x.doing : Int) + 1), .int .u64 x.cy, .int .i64 0, .int .i64 7, .int .i64 0, .int .i64 p, .int .i64 x.cy, .int .i64 0] 64]) := q6
    clear q6 S6
    have q7 := S7.blkSet _ (get_l2 cs' _ _).2 7 (.int .i64 0)
    rw [set_l21] at q7
    have S8 : Has w0 _ (cs' ++ [blkC _ B #[.int .i64 ((x.doing : Int) + 1), .int .u64 x.cy, .int .i64 0, .int .i64 7, .int .i64 0, .int .i64 p, .int .i64 x.cy, .int .i64 0] 64] ++ [blkC _ B1 #[.int .i64 ((x.doing : Int) + 1), .int .u64 x.cy, .int .i64 0, .int .i64 7, .int .i64 0, .int .i64 p, .int .i64 x.cy, .int .i64 0] 64]) := q7
    clear q7 S7
    go_wp2_with fail
    obtain ⟨r0, r1, r2, r3, r4, r5, r6, r7, fr⟩ := row8 (S8.get (cs'.length + 1) (get_l2 cs' _ _).2)
    refine bodyPost_ret (v := .tuple #[.slice na (mput l 0 (wPhase x.cy p)).length nc, .agg #[.int .i64 ((x.doing : Int) + 1), .int .u64 x.cy, .int .i64 0, .int .i64 7, .int .i64 0, .int .i64 p, .int .i64 x.cy, .int .i64 0]]) (by simp [results, Try.results54, go_sem, r0, r1, r2, r3, r4, r5, r6, r7]) rfl ⟨_, by rw [HM.out]; rfl, ?_⟩
    rw [← HCS.out]
    exact S8.front.front

end Go.Proofs.Ytgodnmcfbbchoaa

/- Layer 19: model, small; the reference's map and places. Condition: the configuration may be. -/
import Derived.Test.YtmiaghbakdapbaaMeth5b
import Derived.Test.YtmiaghbakdapbaaThings5
set_option linter.unusedVariables false
set_option linter.unusedSimpArgs false
namespace Go.Proofs.Ytmiaghbakdapbaa
open Go.ChangeShapes Go.WideShapes Go.ChangeAt Go.RowKit

theorem model19_c (c : Cfg) (w : World) : Calls Try.prog 23 #[cfgV c] w fun e w' => e = .returned (cfgV c) ∧ Below w.heap.size w w' := by
  unfold cfgV cfgCells
  go_enter Try.func23, Try.ntmps23
  go_wp2_with fail
  refine bodyPost_ret (v := .agg #[.int .i64 c.c0, .int .i64 c.c1, .int .i64 c.c2, .int .i64 c.c3, .int .i64 c.c4, .int .i64 c.mr, .int .i64 c.mu, .int .i64 c.dq, .int .i64 c.ch, .int .i64 c.bf, .int .i64 c.rt, .int .i64 c.sw]) (by simp [results, Try.results23, go_sem]) rfl ⟨rfl, ?_⟩
  repeat (first | with_reducible exact Below.refl _ _ | (with_reducible refine Below.setCell (B := w.heap.size) ?_ (by simp) _) | (with_reducible refine Below.alloc (B := w.heap.size) ?_ (by simp) _) | with_reducible refine below_drew5 ?_)

set_option maxRecDepth 100000 in
theorem RAt11_h {w0 w : World} {cs : List (Chunk w0.heap.size)} (H : Has w0 w cs) (q : Nat) {lv : Value} {c : Cfg} (n : Int) (hq : cs[q]? = some (ownT _ lv c.things)) (h : CfgOk c) (t : Th) (hn : Norm t) :
    Calls Try.prog 65 #[.agg #[lv, .int .i64 n], .int .i64 t.k, .int .i64 t.a, .int .i64 t.b] w fun e w' => e = .returned (.int .i64 (c.atOf t)) ∧ Has w0 w' cs := by
  obtain ⟨la, lc, rfl⟩ := own_is (H.get q hq)
  have HQ := Lib.hid hq
  have HN := Lib.hid hn
  clear hq hn
  obtain ⟨tk, ta, tb⟩ := t
  dsimp only
  go_enter Try.func65, Try.ntmps65
  have G0 := H.blkNew #[.slice la c.things.length lc, .int .i64 n] 50
  go_wp2_with fail
  refine (RPlace_h G0 q (get_app HQ.out _) h ⟨tk, ta, tb⟩ HN.out).mono ?_
  rintro e w1 ⟨rfl, G1⟩
  go_wp2_with fail
  go_ret
  exact ⟨rfl, G1.front⟩

/-- What small answers: true just for configurations that may be. -/
def SmallR (ok : Bool) (w : World) (e : Ending) (w' : World) : Prop := ∃ b, e = .returned (.bool b) ∧ (b = true → ok = true) ∧ Below w.heap.size w w'
theorem small_false {ok : Bool} {w w' : World} {e : Ending} (h : e = .returned (.bool false)) (b : Below w.heap.size w w') : SmallR ok w e w' := ⟨false, h, (fun q => by cases q), b⟩
theorem small_true {w w' : World} {e : Ending} (h : e = .returned (.bool true)) (b : Below w.heap.size w w') : SmallR true w e w' := ⟨true, h, (fun _ => rfl), b⟩

set_option maxRecDepth 100000 in
set_option maxHeartbeats 2000000 in
theorem small19_c (c : Cfg) (w : World) : Calls Try.prog 10 #[cfgV c] w fun e w' => SmallR (cfgOk c) w e w' := by
  obtain ⟨OKB, hOKB⟩ : ∃ b, b = cfgOk c := ⟨_, rfl⟩
  rw [← hOKB]
  have HOK := Lib.hid hOKB
  clear hOKB
  unfold cfgV cfgCells
  go_enter Try.func10, Try.ntmps10
  have G0 := (Has.nil w).blkNew (cfgCells c) 24
  go_wp2_with fail
  go_loopw [3, 4] (fun sv kv wr => ∃ (k : Nat) (S : Int), k ≤ 5 ∧ kv = .int .i64 k ∧ sv = .int .i64 S ∧ 0 ≤ S ∧ S ≤ 6 * k ∧ Has w wr [blkC _ w.heap.size (cfgCells c) 24]) (fun _ kv _ => 5 - (intOf kv).toNat)
  case atStart => exact ⟨0, 0, by omega, rfl, rfl, by omega, by omega, G0⟩
  case round =>
    obtain ⟨k, S, hk, rfl, rfl, hS0, hS1, G⟩ := hrel
    have B := G.get 0 rfl
    clear G0
    by_cases hlt : k < 5
    · have hk5 : (k : Int) < 5 := by omega
      obtain ⟨x, hx⟩ : ∃ x, (cellsL c)[k]? = some x := ⟨(cellsL c)[k]'(by simpa [cellsL] using hlt), by simp⟩
      have hck : wr.cell? ⟨w.heap.size, k, none⟩ = some (.int .i64 x) := by
        rw [blk_cell B]
        match k, hlt, hx with
        | 0, _, hx => cases hx; rfl
        | 1, _, hx => cases hx; rfl
        | 2, _, hx => cases hx; rfl
        | 3, _, hx => cases hx; rfl
        | 4, _, hx => cases hx; rfl
      clear hx B
      by_cases x0 : x < 0
      · go_wp2_with fail
        go_ret
        exact small_false rfl G.below
      · by_cases x6 : 6 < x
        · go_wp2_with fail
          go_ret
          exact small_false rfl G.below
        · go_wp2_with fail
          go_roundw
          case rel => exact ⟨k + 1, S + x, by omega, by go_num, by first | rfl | go_num, by omega, by omega, G⟩
          case measure => simp [intOf]; omega
    · have hge : ¬ (k : Int) < 5 := by omega
      obtain ⟨b0, b1, b2, b3, b4, b5, b6, b7, b8, b9, b10, b11, fb⟩ := row12 B
      clear B
      by_cases h12 : S ≤ 12
      · go_wp2_with fail
        refine (model19_c c _).mono ?_
        rintro e w2 ⟨rfl, q2⟩
        have G2 := G.up q2
        go_wp2_with fail
        refine (RCheck_c c _).mono ?_
        rw [← HOK.out]
        rintro e w3 ⟨rfl, q3⟩
        have G3 := G2.up q3
        cases OKB with
        | true =>
          have he : errB true = 0 := rfl
          rw [he]
          go_wp2_with fail
          go_ret
          exact small_true rfl G3.below
        | false =>
          have he : errB false = 21 := rfl
          rw [he]
          go_wp2_with fail
          go_ret
          exact small_false rfl G3.below
      · go_wp2_with fail
        go_ret
        exact small_false rfl G.below

set_option maxRecDepth 100000 in
set_option maxHeartbeats 2000000 in
theorem RMap11_h {w0 w : World} {cs : List (Chunk w0.heap.size)} (H : Has w0 w cs) (c : Cfg) (h : CfgOk c) :
    Calls Try.prog 22 #[cfgV c] w fun e w' => ∃ lv, e = .returned (.agg #[lv, .int .i64 c.mn]) ∧ Has w0 w' (cs ++ [ownT _ lv c.things]) := by
  unfold cfgV cfgCells
  go_enter Try.func22, Try.ntmps22
  have G0 := ((Has.nil w).blkNew (cfgCells c) 52).blkNew #[.slice none 0 0, .int .i64 0] 50
  go_wp2_with fail
  obtain ⟨W, HW, eW⟩ := G0.name
  have hsz : (w.alloc (.cells (cfgCells c) 52)).heap.size = w.heap.size + 1 := by simp
  rw [hsz] at HW
  have eW2 : W = (w.alloc (.cells (cfgCells c) 52)).alloc (.cells #[.slice none 0 0, .int .i64 0] 50) := eW.out
  unfold cfgCells at eW2
  rw [← eW2]
  clear G0 eW eW2
  obtain ⟨b0, b1, b2, b3, b4, b5, b6, b7, b8, b9, b10, b11, fb⟩ := row12 (HW.get 0 rfl)
  go_region_held3 (fun w' => w'.cell? ⟨w.heap.size, 0, none⟩ = some (.int .i64 c.c0) ∧ w'.cell? ⟨w.heap.size, 1, none⟩ = some (.int .i64 c.c1) ∧ w'.cell? ⟨w.heap.size, 2, none⟩ = some (.int .i64 c.c2) ∧ w'.cell? ⟨w.heap.size, 3, none⟩ = some (.int .i64 c.c3) ∧ w'.cell? ⟨w.heap.size, 4, none⟩ = some (.int .i64 c.c4) ∧ w'.cell? ⟨w.heap.size, 5, none⟩ = some (.int .i64 c.mr) ∧ w'.cell? ⟨w.heap.size, 6, none⟩ = some (.int .i64 c.mu) ∧ w'.cell? ⟨w.heap.size, 7, none⟩ = some (.int .i64 c.dq) ∧ w'.cell? ⟨w.heap.size, 8, none⟩ = some (.int .i64 c.ch) ∧ w'.cell? ⟨w.heap.size, 9, none⟩ = some (.int .i64 c.bf) ∧ w'.cell? ⟨w.heap.size, 10, none⟩ = some (.int .i64 c.rt) ∧ w'.cell? ⟨w.heap.size, 11, none⟩ = some (.int .i64 c.sw)) ((refine ⟨?_, ?_, ?_, ?_, ?_, ?_, ?_, ?_, ?_, ?_, ?_, ?_⟩ <;> (first | (with_reducible assumption) | (simp only [cell_drewN1, cell_drew1]; with_reducible assumption) | (rw [World.cell?_setCell_far _ _ _ _ (by simp), World.cell?_setCell_far _ _ _ _ (by simp)]; with_reducible assumption)))) (first | (go_at_call 61; refine (RThings_h (HW.drewN _) c h).mono ?_; rintro e x1 ⟨lv, rfl, H1⟩; obtain ⟨la, lc, rfl⟩ := own_is (H1.get 2 rfl); obtain ⟨y0, y1, y2, y3, y4, y5, y6, y7, y8, y9, y10, y11, fy⟩ := row12 (H1.get 0 rfl)) | (go_at_call 62; refine (RPackets_h H1 c h).mono ?_; rintro e x2 ⟨rfl, H2⟩; obtain ⟨z0, z1, z2, z3, z4, z5, z6, z7, z8, z9, z10, z11, fz⟩ := row12 (H2.get 0 rfl); have r0 := blk_at (H2.get 1 rfl) 0 (u := .slice none 0 0) rfl; have r1 := blk_at (H2.get 1 rfl) 1 (u := .int .i64 0) rfl; have rf := blk_frozen (H2.get 1 rfl)))
  have H3 := (H2.blkSet 1 rfl 0 (.slice la c.things.length lc)).blkSet 1 rfl 1 (.int .i64 c.mn)
  have s0 := blk_at (H3.get 1 rfl) 0 (u := .slice la c.things.length lc) rfl
  have s1 := blk_at (H3.get 1 rfl) 1 (u := .int .i64 c.mn) rfl
  go_wp2_with fail
  refine bodyPost_ret (v := .agg #[.slice la c.things.length lc, .int .i64 c.mn]) (by simp [results, Try.results22, go_sem, s0, s1]) rfl ⟨_, rfl, ?_⟩
  exact H.joinOwn H3 2 rfl

end Go.Proofs.Ytmiaghbakdapbaa

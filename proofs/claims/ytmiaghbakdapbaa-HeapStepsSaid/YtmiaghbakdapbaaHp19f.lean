/- What a machine that makes a node tells: its node, its cell, its event. -/
import Derived.Test.YtmiaghbakdapbaaHp19e
set_option linter.unusedVariables false
set_option linter.unusedSimpArgs false
namespace Go.Proofs.Ytmiaghbakdapbaa
open Go.ChangeShapes Go.WideShapes Go.ChangeAt Go.RowKit

theorem Node_q {w0 w : World} {cs : List (Chunk w0.heap.size)} (H : Has w0 w cs) (j : Nat) {xb mb : Nat} (m : Hp) (hj : cs[j]? = some (hpC _ xb mb m)) :
    Calls Try.prog 30 #[.pointer (some ⟨xb, 0, none⟩)] w fun r w' => r = .returned (.tuple #[.int .i64 m.node, .int .i64 m.e]) ∧ ∃ n, w' = w.drewN n := by
  obtain ⟨c0, c1, c2, c3, c4, c5, c6, c7, c8, c9, c10, c11, c12, c13, c14, c15, c16, c17, fc⟩ := hpRow (H.get j hj)
  clear hj
  go_enter Try.func30, Try.ntmps30
  go_wp2_with fail
  go_quiet (fail)
  go_wp2_with fail
  go_ret2
  exact ⟨rfl, _, rfl⟩
theorem NodeNil_q (w : World) : Calls Try.prog 30 #[.pointer none] w fun r w' => r = .returned (.tuple #[.int .i64 0, .int .i64 21]) ∧ w' = w := by
  go_enter Try.func30, Try.ntmps30
  go_wp2
  go_ret2
  exact ⟨rfl, rfl⟩
theorem CellNil_q (w : World) : Calls Try.prog 31 #[.pointer none] w fun r w' => r = .returned (.int .i64 0) ∧ w' = w := by
  go_enter Try.func31, Try.ntmps31
  go_wp2
  go_ret
  exact ⟨rfl, rfl⟩
theorem Cell_q {w0 w : World} {cs : List (Chunk w0.heap.size)} (H : Has w0 w cs) (j : Nat) {xb mb : Nat} (m : Hp) (hj : cs[j]? = some (hpC _ xb mb m)) :
    Calls Try.prog 31 #[.pointer (some ⟨xb, 0, none⟩)] w fun r w' => r = .returned (.int .i64 (hpCell m)) ∧ w' = w := by
  obtain ⟨s, k, mk, hh, lk, v, tk, tr, ii, nd, e, ek, ea, eb, pc⟩ := m
  obtain ⟨c0, c1, c2, c3, c4, c5, c6, c7, c8, c9, c10, c11, c12, c13, c14, c15, c16, c17, fc⟩ := hpRow (H.get j hj)
  clear hj
  cases tk with
  | true =>
    go_enter Try.func31, Try.ntmps31
    go_wp2_with fail
    go_ret
    exact ⟨rfl, rfl⟩
  | false =>
    go_enter Try.func31, Try.ntmps31
    go_wp2_with fail
    go_ret
    exact ⟨rfl, rfl⟩
theorem Event_c {w0 w : World} {cs : List (Chunk w0.heap.size)} (H : Has w0 w cs) (j : Nat) {xb mb : Nat} (m : Hp) (hj : cs[j]? = some (hpC _ xb mb m)) :
    Calls Try.prog 32 #[.pointer (some ⟨xb, 0, none⟩)] w fun r w' => r = .returned (.agg #[.int .i64 m.ek, .int .i64 0, .int .i64 m.ea, .int .i64 m.eb, .int .i64 0]) ∧ Below w.heap.size w w' := by
  have hl : xb < w.heap.size := (H.lt j _ hj xb (by simp [hpC, hpB, blkC])).1
  obtain ⟨c0, c1, c2, c3, c4, c5, c6, c7, c8, c9, c10, c11, c12, c13, c14, c15, c16, c17, fc⟩ := hpRow (H.get j hj)
  have fq := fc 0
  clear hj
  go_enter Try.func32, Try.ntmps32
  go_wp2_with fail
  refine bodyPost_ret (v := (.agg #[.int .i64 m.ek, .int .i64 0, .int .i64 m.ea, .int .i64 m.eb, .int .i64 0])) (by simp [results, Try.results32, go_sem]) rfl ⟨rfl, ?_⟩
  repeat (first | with_reducible exact Below.refl _ _ | (with_reducible refine Below.setCell (B := w.heap.size) ?_ (by simp) _) | (with_reducible refine Below.alloc (B := w.heap.size) ?_ (by simp) _) | with_reducible refine below_drew5 ?_)
theorem EventNil_c (w : World) : Calls Try.prog 32 #[.pointer none] w fun r w' => r = .returned (.agg #[.int .i64 0, .int .i64 0, .int .i64 0, .int .i64 0, .int .i64 0]) ∧ Below w.heap.size w w' := by
  go_enter Try.func32, Try.ntmps32
  go_wp2_with fail
  refine bodyPost_ret (v := .agg #[.int .i64 0, .int .i64 0, .int .i64 0, .int .i64 0, .int .i64 0]) (by simp [results, Try.results32, go_sem]) rfl ⟨rfl, ?_⟩
  repeat (first | with_reducible exact Below.refl _ _ | (with_reducible refine Below.setCell (B := w.heap.size) ?_ (by simp) _) | (with_reducible refine Below.alloc (B := w.heap.size) ?_ (by simp) _) | with_reducible refine below_drew5 ?_)
end Go.Proofs.Ytmiaghbakdapbaa

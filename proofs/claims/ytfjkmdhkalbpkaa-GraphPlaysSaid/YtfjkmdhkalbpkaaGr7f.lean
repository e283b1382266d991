/- The program's graph in memory: what is told; a graph that is none; a new graph. No condition but that fewer than a million roots, and nodes, are there. -/
import Derived.Test.YtfjkmdhkalbpkaaGr7e
set_option linter.unusedVariables false
set_option linter.unusedSimpArgs false
namespace Go.Proofs.Ytfjkmdhkalbpkaa
open Go.ChangeShapes Go.WideShapes Go.ChangeAt Go.RowKit

/-- What a call answers that makes a slice of numbers of its own. -/
def OwnR (w0 : World) (cs : List (Chunk w0.heap.size)) (l : List Int) (e : Ending) (w' : World) : Prop := ∃ v, e = .returned v ∧ Has w0 w' (cs ++ [ownN _ 3 .i64 v l])

def PG.rts (g : PG) (m : Int) : List Int := (g.L m).getD []

section
variable {w0 w : World} {cs : List (Chunk w0.heap.size)} (H : Has w0 w cs) (i : Nat) {gb : Nat} {S : GS} {G : PG} (hi : cs[i]? = some (grC _ gb S G)) (ok : G.Ok) (hM : G.most < 1000000) (hN : G.nodes.length < 1000000)
include H hi ok hM hN

set_option maxRecDepth 100000 in
theorem Roots_h (m : Int) : Calls Try.prog 23 #[.pointer (some ⟨gb, 0, none⟩), .int .i64 m] w fun e w' => OwnR w0 cs (G.rts m) e w' := by
  obtain ⟨A, hgb, hG⟩ := H.gr i hi
  subst hgb
  subst hG
  have I := is_s A m
  obtain ⟨c0, c1, c2, fz⟩ := row3 A.g0
  unfold GS.rv at c1
  unfold PG.rts
  cases hb : S.g.isB m with
  | false =>
    rw [hb] at I
    have HI := Lib.hid I
    rw [isB_none hb]
    have FN : Hid (OwnR w0 cs ((none : Option (List Int)).getD []) (.returned (.slice none 0 0)) w) := Lib.hid ⟨_, rfl, H.ownNil _ 1⟩
    clear A hi ok hM hN H I hb
    go_enter Try.func23, Try.ntmps23
    go_wp2_with fail
    refine HI.out.mono ?_
    rintro e w' ⟨rfl, hw⟩
    obtain rfl := hw.symm
    go_wp2_with fail
    go_ret
    exact FN.out
  | true =>
    rw [hb] at I
    have HI := Lib.hid I
    obtain ⟨k, l, rfl, hk, hL⟩ := isB_some hb
    rw [hL]
    obtain ⟨a, c, h1, h2, h3⟩ := A.root hk
    have hkl : (k : Int) < (S.rl.length : Int) := by have := (List.getElem?_eq_some_iff.1 h1).1; omega
    have hlm := ok.rl l (List.mem_of_getElem? hk)
    have C := Lib.hid (Clone_h H a l.length c l rfl (by omega) h3)
    clear A hi ok hM hN H I hb hL h1 h3 hk hlm
    go_enter Try.func23, Try.ntmps23
    go_wp2_with fail
    refine HI.out.mono ?_
    rintro e w' ⟨rfl, hw⟩
    obtain rfl := hw.symm
    go_wp2_with fail
    refine C.out.mono ?_
    rintro e w' ⟨v, rfl, G'⟩
    go_wp2_with fail
    go_ret
    exact ⟨v, rfl, G'⟩

set_option maxRecDepth 100000 in
theorem Slots_h (v : Int) : Calls Try.prog 24 #[.pointer (some ⟨gb, 0, none⟩), .int .i64 v] w fun e w' => OwnR w0 cs (G.slots v) e w' := by
  obtain ⟨A, hgb, hG⟩ := H.gr i hi
  subst hgb
  subst hG
  obtain ⟨c0, c1, c2, fz⟩ := row3 A.g0
  obtain ⟨na, nc, hnv⟩ := own_is A.no
  rw [hnv] at c2
  by_cases h1 : v < 1
  · have e0 : S.g.slots v = [] := by
      unfold PG.slots iget
      rw [if_neg (by omega)]; rfl
    rw [e0]
    have FN : Hid (OwnR w0 cs [] (.returned (.slice none 0 0)) w) := Lib.hid ⟨_, rfl, H.ownNil _ 1⟩
    clear A hi ok hM hN H e0
    go_enter Try.func24, Try.ntmps24
    go_wp2_with fail
    go_ret
    exact FN.out
  · by_cases h2 : (S.nl.length : Int) < v
    · have e0 : S.g.slots v = [] := by
        unfold PG.slots iget
        rw [if_pos (by omega), List.getElem?_eq_none (by rw [nodes_len]; omega)]; rfl
      rw [e0]
      have FN : Hid (OwnR w0 cs [] (.returned (.slice none 0 0)) w) := Lib.hid ⟨_, rfl, H.ownNil _ 1⟩
      have h1b : decide (v < 1) = false := by simpa using h1
      clear A hi ok hM hN H e0
      go_enter Try.func24, Try.ntmps24
      go_wp2_with fail
      go_ret
      exact FN.out
    · obtain ⟨q, rfl⟩ : ∃ q : Nat, v = (q : Int) + 1 := ⟨(v - 1).toNat, by omega⟩
      have hq : q < S.g.nodes.length := by rw [nodes_len]; omega
      have hs : S.g.slots ((q : Int) + 1) = S.g.nodes[q] := by
        unfold PG.slots
        rw [show (q : Int) + 1 - 1 = (q : Int) by omega, iget_nat, List.getElem?_eq_getElem hq]
        rfl
      rw [hs]
      generalize hlq : S.g.nodes[q] = l
      have hlq' : S.g.nodes[q]? = some l := by rw [← hlq]; exact List.getElem?_eq_getElem hq
      obtain ⟨sa, sc, nb, noff, nc', h3, h4, h5, h6⟩ := A.node hlq'
      have hql : (q : Int) < (S.nl.length : Int) := by have := (List.getElem?_eq_some_iff.1 h3).1; omega
      have hl64 := ok.nl l (List.mem_of_getElem? hlq')
      have C := Lib.hid (Clone_h H sa l.length sc l rfl (by omega) (fun j x hj => by obtain ⟨g, off, r1, r2, -⟩ := h6 j x hj; exact ⟨g, off, r1, r2⟩))
      rw [hnv] at h4
      cases h4
      have hqb : wrap64 (q : Int) = q := by have := A.nlen; unfold wrap64; omega
      have hq1 : decide ((q : Int) + 1 < 1) = false := by simp; omega
      have hq2 : decide ((S.nl.length : Int) < (q : Int) + 1) = false := by simp; omega
      clear A hi ok hM hN H h3 h6 hs hlq hlq' hnv h1 h2 hl64
      go_enter Try.func24, Try.ntmps24
      go_wp2_with fail
      refine C.out.mono ?_
      rintro e w' ⟨v, rfl, G'⟩
      go_wp2_with fail
      go_ret
      exact ⟨v, rfl, G'⟩

theorem Nodes_s : Calls Try.prog 14 #[.pointer (some ⟨gb, 0, none⟩)] w fun e w' => e = .returned (.int .i64 G.nodes.length) ∧ w' = w := by
  obtain ⟨A, hgb, hG⟩ := H.gr i hi
  subst hgb
  subst hG
  obtain ⟨c0, c1, c2, fz⟩ := row3 A.g0
  obtain ⟨na, nc, hnv⟩ := own_is A.no
  rw [hnv] at c2
  rw [nodes_len]
  clear A hi ok hM hN H hnv
  go_enter Try.func14, Try.ntmps14
  go_wp2_with fail
  go_ret
  exact ⟨rfl, rfl⟩
end

/-! A graph that is none. -/

theorem room_nil (m : Int) (w : World) : Calls Try.prog 30 #[.pointer none, .int .i64 m] w fun e w' => e = .returned (.bool false) ∧ ∃ n, w' = w.drewN n := by
  go_enter Try.func30, Try.ntmps30
  go_wp2_with fail
  go_quiet ((go_at_call 39; exact Calls.quiet_of_same (is_nil _ _)))
  go_wp2_with fail
  go_ret
  exact ⟨rfl, _, rfl⟩

theorem Nodes_nil (w : World) : Calls Try.prog 14 #[.pointer none] w fun e w' => e = .returned (.int .i64 0) ∧ w' = w := by
  go_enter Try.func14, Try.ntmps14
  go_wp2_with fail
  go_ret
  exact ⟨rfl, rfl⟩

theorem Reach_nil (w : World) : Calls Try.prog 13 #[.pointer none] w fun e w' => e = .returned (.slice none 0 0) ∧ w' = w := by
  go_enter Try.func13, Try.ntmps13
  go_wp2_with fail
  go_step3
  go_wp2_with fail
  try rw [Exit.noGoto_ret]
  go_ret
  exact ⟨rfl, rfl⟩

theorem Alloc_nil (m n : Int) (w : World) : Calls Try.prog 29 #[.pointer none, .int .i64 m, .int .i64 n] w fun e w' => e = .returned (.tuple #[.int .i64 0, .bool false]) ∧ ∃ n, w' = w.drewN n := by
  by_cases h0 : n < 0
  · go_enter Try.func29, Try.ntmps29
    go_wp2_with fail
    go_ret2
    exact ⟨rfl, 0, rfl⟩
  · by_cases h64 : (64 : Int) < n
    · go_enter Try.func29, Try.ntmps29
      go_wp2_with fail
      go_ret2
      exact ⟨rfl, 0, rfl⟩
    · go_enter Try.func29, Try.ntmps29
      go_wp2_with fail
      refine (room_nil _ _).mono ?_
      rintro e w' ⟨rfl, d, rfl⟩
      go_wp2_with fail
      go_ret2
      exact ⟨rfl, d, rfl⟩

theorem Read_nil (m a s : Int) (w : World) : Calls Try.prog 27 #[.pointer none, .int .i64 m, .int .i64 a, .int .i64 s] w fun e w' => e = .returned (.tuple #[.int .i64 0, .bool false]) ∧ ∃ n, w' = w.drewN n := by
  go_enter Try.func27, Try.ntmps27
  go_wp2_with fail
  refine (slot_nil _ _ _ _).mono ?_
  rintro e w' ⟨rfl, hw⟩
  obtain rfl := hw.symm
  go_wp2_with fail
  go_ret2
  exact ⟨rfl, 0, rfl⟩

theorem Write_nil (m a s b : Int) (w : World) : Calls Try.prog 26 #[.pointer none, .int .i64 m, .int .i64 a, .int .i64 s, .int .i64 b] w fun e w' => e = .returned (.bool false) ∧ ∃ n, w' = w.drewN n := by
  go_enter Try.func26, Try.ntmps26
  go_wp2_with fail
  refine (slot_nil _ _ _ _).mono ?_
  rintro e w' ⟨rfl, hw⟩
  obtain rfl := hw.symm
  go_wp2_with fail
  refine (root_nil _ _ _).mono ?_
  rintro e w' ⟨rfl, hw⟩
  obtain rfl := hw.symm
  go_wp2_with fail
  go_ret
  exact ⟨rfl, 0, rfl⟩

theorem Pop_nil (m : Int) (w : World) : Calls Try.prog 25 #[.pointer none, .int .i64 m] w fun e w' => e = .returned (.bool false) ∧ ∃ n, w' = w.drewN n := by
  go_enter Try.func25, Try.ntmps25
  go_wp2_with fail
  refine (is_nil _ _).mono ?_
  rintro e w' ⟨rfl, hw⟩
  obtain rfl := hw.symm
  go_wp2_with fail
  go_ret
  exact ⟨rfl, 0, rfl⟩

theorem Dup_nil (m a : Int) (w : World) : Calls Try.prog 28 #[.pointer none, .int .i64 m, .int .i64 a] w fun e w' => e = .returned (.bool false) ∧ ∃ n, w' = w.drewN n := by
  go_enter Try.func28, Try.ntmps28
  go_wp2_with fail
  refine (root_nil _ _ _).mono ?_
  rintro e w' ⟨rfl, hw⟩
  obtain rfl := hw.symm
  go_wp2_with fail
  go_ret
  exact ⟨rfl, 0, rfl⟩

end Go.Proofs.Ytfjkmdhkalbpkaa

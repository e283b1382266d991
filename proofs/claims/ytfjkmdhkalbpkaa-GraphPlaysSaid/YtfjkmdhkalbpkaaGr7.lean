/- The program's graph in memory: what its small methods answer. No condition. -/
import Derived.Test.YtfjkmdhkalbpkaaGrp
import Derived.Test.YtfjkmdhkalbpkaaGr7r
import Derived.Deep.QuietTactic
import Derived.BigQuiet
set_option linter.unusedVariables false
set_option linter.unusedSimpArgs false
namespace Go.Proofs.Ytfjkmdhkalbpkaa
open Go.ChangeShapes Go.WideShapes Go.ChangeAt Go.RowKit

/-- Where a graph stands in memory, and what it holds. -/
structure GS where
  gb : Nat
  most : Int
  rb : Nat
  rl : List (Value × List Int)
  nv : Value
  nl : List (Value × List Int)

def GS.g (S : GS) : PG := ⟨S.most, S.rl.map (·.2), S.nl.map (·.2)⟩
abbrev ownP (n0 : Nat) (p : Value × List Int) : Chunk n0 := ownN n0 3 .i64 p.1 p.2
def GS.rv (S : GS) : Value := .slice (some ⟨S.rb, 0, none⟩) S.rl.length S.rl.length
def gList (n0 : Nat) (S : GS) : List (Chunk n0) :=
  [blkC n0 S.gb #[.int .i64 S.most, S.rv, S.nv] 60, ownC n0 30 1 S.rv S.rl.length (S.rl.map (·.1)), ownC n0 30 1 S.nv S.nl.length (S.nl.map (·.1))] ++ S.rl.map (ownP n0) ++ S.nl.map (ownP n0)
def grC (n0 gb : Nat) (S : GS) (G : PG) : Chunk n0 := groupC n0 (S.gb = gb ∧ S.g = G) (gList n0 S)

theorem gList_ro {n0 : Nat} {S : GS} : ∀ d ∈ gList n0 S, d.ro = false := by
  intro d hd
  unfold gList at hd
  simp only [List.mem_append, List.mem_cons, List.mem_map, List.not_mem_nil, or_false] at hd
  rcases hd with ((rfl | rfl | rfl) | ⟨p, _, rfl⟩) | ⟨p, _, rfl⟩ <;> rfl

/-- A graph can be read. -/
structure GrAt (w : World) (S : GS) : Prop where
  g0 : w.heap[S.gb]? = some (.cells #[.int .i64 S.most, S.rv, S.nv] 60 (0, 0))
  ro : Own w 30 1 S.rv S.rl.length (S.rl.map (·.1))
  no : Own w 30 1 S.nv S.nl.length (S.nl.map (·.1))
  ri : ∀ (k : Nat) p, S.rl[k]? = some p → Own w 3 1 p.1 p.2.length (p.2.map (Value.int .i64))
  ni : ∀ (k : Nat) p, S.nl[k]? = some p → Own w 3 1 p.1 p.2.length (p.2.map (Value.int .i64))

theorem GrAt.drewN {w : World} {S : GS} (A : GrAt w S) (n : Nat) : GrAt (w.drewN n) S := ⟨A.g0, A.ro, A.no, A.ri, A.ni⟩

theorem Has.gr {w0 w : World} {cs : List (Chunk w0.heap.size)} (H : Has w0 w cs) (i : Nat) {gb : Nat} {S : GS} {G : PG} (hi : cs[i]? = some (grC _ gb S G)) : GrAt w S ∧ S.gb = gb ∧ S.g = G := by
  obtain ⟨⟨h1, h2⟩, h3, -⟩ := H.get i hi
  refine ⟨⟨?_, ?_, ?_, fun k p hp => ?_, fun k p hp => ?_⟩, h1, h2⟩
  · exact (h3 (blkC _ S.gb #[.int .i64 S.most, S.rv, S.nv] 60) (by simp [gList])).2
  · exact (h3 (ownC _ 30 1 S.rv S.rl.length (S.rl.map (·.1))) (by simp [gList])).2
  · exact (h3 (ownC _ 30 1 S.nv S.nl.length (S.nl.map (·.1))) (by simp [gList])).2
  · exact (h3 (ownP _ p) (by unfold gList; exact List.mem_append_left _ (List.mem_append_right _ (List.mem_map_of_mem (List.mem_of_getElem? hp))))).2
  · exact (h3 (ownP _ p) (by unfold gList; exact List.mem_append_right _ (List.mem_map_of_mem (List.mem_of_getElem? hp)))).2

/-- Where a mutator's roots stand. -/
theorem GrAt.root {w : World} {S : GS} (A : GrAt w S) {k : Nat} {l : List Int} (h : S.g.roots[k]? = some l) : ∃ a c, S.rl[k]? = some (.slice a l.length c, l) ∧ w.cell? ⟨S.rb, k, none⟩ = some (.slice a l.length c) ∧ ∀ (j : Nat) v, l[j]? = some v → ∃ g off, a = some ⟨g, off, none⟩ ∧ w.cell? ⟨g, off + j, none⟩ = some (.int .i64 v) := by
  unfold GS.g at h
  rw [List.getElem?_map] at h
  cases e : S.rl[k]? with
  | none => rw [e] at h; cases h
  | some p =>
    rw [e] at h
    obtain rfl : p.2 = l := by simpa using h
    have hk := (List.getElem?_eq_some_iff.1 e).1
    obtain ⟨v, l⟩ := p
    have ho := A.ri k _ e
    obtain ⟨a, c, hv⟩ := own_is ho
    dsimp only at hv
    subst hv
    refine ⟨a, c, rfl, ?_, fun j v hj => ?_⟩
    · obtain ⟨g, off, h1, -, -, -, h2, -⟩ := own_atV A.ro (by omega)
      cases h1
      have := h2 k (.slice a l.length c) (by rw [List.getElem?_map, e]; rfl)
      simpa using this
    · obtain ⟨g, off, h1, -, -, -, h2, -⟩ := own_atV (n := l.length) ho (Nat.lt_of_le_of_lt (Nat.zero_le j) (List.getElem?_eq_some_iff.1 hj).1)
      exact ⟨g, off, h1, h2 j (.int .i64 v) (by rw [List.getElem?_map, hj]; rfl)⟩

/-- Where a node's slots stand. -/
theorem GrAt.node {w : World} {S : GS} (A : GrAt w S) {k : Nat} {l : List Int} (h : S.g.nodes[k]? = some l) : ∃ a c nb noff nc, S.nl[k]? = some (.slice a l.length c, l) ∧ S.nv = .slice (some ⟨nb, noff, none⟩) S.nl.length nc ∧ w.cell? ⟨nb, noff + k, none⟩ = some (.slice a l.length c) ∧ ∀ (j : Nat) v, l[j]? = some v → ∃ g off, a = some ⟨g, off, none⟩ ∧ w.cell? ⟨g, off + j, none⟩ = some (.int .i64 v) ∧ ∀ o, w.frozen? ⟨g, o, none⟩ = false := by
  unfold GS.g at h
  rw [List.getElem?_map] at h
  cases e : S.nl[k]? with
  | none => rw [e] at h; cases h
  | some p =>
    rw [e] at h
    obtain rfl : p.2 = l := by simpa using h
    have hk := (List.getElem?_eq_some_iff.1 e).1
    obtain ⟨v, l⟩ := p
    have ho := A.ni k _ e
    obtain ⟨a, c, hv⟩ := own_is ho
    dsimp only at hv
    subst hv
    obtain ⟨nb, noff, nc, hnv, -, -, -, hn2, -⟩ := own_at A.no (by omega)
    refine ⟨a, c, nb, noff, nc, rfl, hnv, hn2 k (.slice a l.length c) (by rw [List.getElem?_map, e]; rfl), fun j v hj => ?_⟩
    obtain ⟨g, off, h1, -, -, -, h2, h3⟩ := own_atV (n := l.length) ho (Nat.lt_of_le_of_lt (Nat.zero_le j) (List.getElem?_eq_some_iff.1 hj).1)
    exact ⟨g, off, h1, h2 j (.int .i64 v) (by rw [List.getElem?_map, hj]; rfl), h3⟩

theorem GrAt.nlen {w : World} {S : GS} (A : GrAt w S) : (S.nl.length : Int) < 9223372036854775808 := by
  rcases A.no.2 with ⟨_, h⟩ | ⟨g, off, cap, cur, _, _, h1, h2, _⟩
  · omega
  · unfold maxLen at h2; omega

def PG.isB (g : PG) (m : Int) : Bool := decide (0 ≤ m) && decide (m < (g.roots.length : Int))
theorem roots_len (S : GS) : S.g.roots.length = S.rl.length := by simp [GS.g]
theorem nodes_len (S : GS) : S.g.nodes.length = S.nl.length := by simp [GS.g]

theorem is_s {w : World} {S : GS} (A : GrAt w S) (m : Int) : Calls Try.prog 39 #[.pointer (some ⟨S.gb, 0, none⟩), .int .i64 m] w fun e w' => e = .returned (.bool (S.g.isB m)) ∧ w' = w := by
  have g0 := A.g0
  have hl := roots_len S
  unfold PG.isB
  rw [hl]
  clear hl A
  unfold GS.rv at g0
  obtain ⟨gb, most, rb, rl, nv, nl⟩ := S
  dsimp only at g0 ⊢
  obtain ⟨c0, c1, c2, fz⟩ := row3 g0
  by_cases h0 : 0 ≤ m
  · by_cases h1 : m < (rl.length : Int)
    · rw [show (decide (0 ≤ m) && decide (m < (rl.length : Int))) = true by simp [h0, h1]]
      go_enter Try.func39, Try.ntmps39
      go_wp2_with fail
      go_ret
      exact ⟨rfl, rfl⟩
    · rw [show (decide (0 ≤ m) && decide (m < (rl.length : Int))) = false by simp [h0, h1]]
      go_enter Try.func39, Try.ntmps39
      go_wp2_with fail
      go_ret
      exact ⟨rfl, rfl⟩
  · rw [show (decide (0 ≤ m) && decide (m < (rl.length : Int))) = false by simp [h0]]
    go_enter Try.func39, Try.ntmps39
    go_wp2_with fail
    go_ret
    exact ⟨rfl, rfl⟩

theorem is_nil (m : Int) (w : World) : Calls Try.prog 39 #[.pointer none, .int .i64 m] w fun e w' => e = .returned (.bool false) ∧ w' = w := by
  go_enter Try.func39, Try.ntmps39
  go_wp2_with fail
  go_ret
  exact ⟨rfl, rfl⟩

theorem isB_some {g : PG} {m : Int} (h : g.isB m = true) : ∃ (k : Nat) (l : List Int), m = (k : Int) ∧ g.roots[k]? = some l ∧ g.L m = some l := by
  unfold PG.isB at h
  simp at h
  refine ⟨m.toNat, g.roots[m.toNat]'(by omega), by omega, by simp, ?_⟩
  unfold PG.L iget
  rw [if_pos h.1]
  simp
theorem isB_none {g : PG} {m : Int} (h : g.isB m = false) : g.L m = none := by
  unfold PG.isB at h
  unfold PG.L iget
  split
  · simp at h
    rw [List.getElem?_eq_none_iff]
    have := h (by assumption)
    omega
  · rfl
theorem isB_L {g : PG} {m : Int} {l : List Int} (h : g.L m = some l) : g.isB m = true := by
  cases e : g.isB m with
  | true => rfl
  | false => rw [isB_none e] at h; cases h

theorem room_q {w : World} {S : GS} (A : GrAt w S) (m : Int) : Calls Try.prog 30 #[.pointer (some ⟨S.gb, 0, none⟩), .int .i64 m] w fun e w' => e = .returned (.bool (S.g.room m)) ∧ ∃ n, w' = w.drewN n := by
  have I := fun w (A : GrAt w S) => is_s A m
  have HA := Lib.hid A
  obtain ⟨c0, c1, c2, fz⟩ := row3 A.g0
  unfold GS.rv at c1
  cases hb : S.g.isB m with
  | false =>
    have e : S.g.room m = false := by unfold PG.room; rw [isB_none hb]
    rw [e]
    rw [hb] at I
    have HI := Lib.hid I
    clear I A hb e
    go_enter Try.func30, Try.ntmps30
    go_wp2_with fail
    go_quiet ((go_at_call 39; exact Calls.quiet_of_same (HI.out _ (HA.out.drewN _))))
    go_wp2_with fail
    go_ret
    exact ⟨rfl, _, rfl⟩
  | true =>
    obtain ⟨k, l, rfl, hk, hL⟩ := isB_some hb
    obtain ⟨a, c, h1, h2, -⟩ := A.root hk
    have hkl : (k : Int) < (S.rl.length : Int) := by have := (List.getElem?_eq_some_iff.1 h1).1; omega
    have e : S.g.room k = decide ((l.length : Int) < S.most) := by unfold PG.room; rw [hL]; rfl
    rw [e]
    rw [hb] at I
    have HI := Lib.hid I
    clear I A hb e hk hL h1
    go_enter Try.func30, Try.ntmps30
    go_wp2_with fail
    go_quiet ((go_at_call 39; exact Calls.quiet_of_same (HI.out _ (HA.out.drewN _))))
    go_wp2_with fail
    go_ret
    exact ⟨rfl, _, rfl⟩

def oOf (o : Option Int) : Int := o.getD 0
theorem root_no {w : World} {S : GS} (A : GrAt w S) (m a : Int) (hb : S.g.root m a = none) : Calls Try.prog 42 #[.pointer (some ⟨S.gb, 0, none⟩), .int .i64 m, .int .i64 a] w fun e w' => e = .returned (.tuple #[.int .i64 0, .bool false]) ∧ w' = w := by
  have I := fun w (A : GrAt w S) => is_s A m
  have HA := Lib.hid A
  obtain ⟨c0, c1, c2, fz⟩ := row3 A.g0
  unfold GS.rv at c1
  cases hi : S.g.isB m with
  | false =>
    rw [hi] at I
    have HI := Lib.hid I
    clear I A hi hb
    go_enter Try.func42, Try.ntmps42
    go_wp2_with fail
    refine (HI.out _ HA.out).mono ?_
    rintro e w' ⟨rfl, hw⟩
    obtain rfl := hw.symm
    go_wp2_with fail
    go_ret2
    exact ⟨rfl, rfl⟩
  | true =>
    obtain ⟨k, l, rfl, hk, hL⟩ := isB_some hi
    obtain ⟨ra, c, h1, h2, -⟩ := A.root hk
    have hkl : (k : Int) < (S.rl.length : Int) := by have := (List.getElem?_eq_some_iff.1 h1).1; omega
    have hn : iget l a = none := by unfold PG.root at hb; rw [hL] at hb; exact hb
    rw [hi] at I
    have HI := Lib.hid I
    have hn' := iget_none hn
    clear I A hi hb hk hL h1 hn
    by_cases ha : a < 0
    · clear hn'
      go_enter Try.func42, Try.ntmps42
      go_wp2_with fail
      refine (HI.out _ HA.out).mono ?_
      rintro e w' ⟨rfl, hw⟩
      obtain rfl := hw.symm
      go_wp2_with fail
      go_ret2
      exact ⟨rfl, rfl⟩
    · have hge : (l.length : Int) ≤ a := hn'.resolve_left ha
      clear hn'
      go_enter Try.func42, Try.ntmps42
      go_wp2_with fail
      refine (HI.out _ HA.out).mono ?_
      rintro e w' ⟨rfl, hw⟩
      obtain rfl := hw.symm
      go_wp2_with fail
      go_ret2
      exact ⟨rfl, rfl⟩

theorem root_yes {w : World} {S : GS} (A : GrAt w S) (m a v : Int) (hb : S.g.root m a = some v) : Calls Try.prog 42 #[.pointer (some ⟨S.gb, 0, none⟩), .int .i64 m, .int .i64 a] w fun e w' => e = .returned (.tuple #[.int .i64 v, .bool true]) ∧ w' = w := by
  have I := fun w (A : GrAt w S) => is_s A m
  have HA := Lib.hid A
  obtain ⟨c0, c1, c2, fz⟩ := row3 A.g0
  unfold GS.rv at c1
  obtain ⟨l, hL, hv⟩ := PG.root_some hb
  have hi := isB_L hL
  obtain ⟨k, l', rfl, hk, hL'⟩ := isB_some hi
  obtain rfl : l' = l := by rw [hL] at hL'; exact (Option.some.inj hL').symm
  obtain ⟨j, rfl, hj⟩ := iget_some hv
  obtain ⟨ra, c, h1, h2, h3⟩ := A.root hk
  obtain ⟨rg, roff, rfl, h4⟩ := h3 j v hj
  have hkl : (k : Int) < (S.rl.length : Int) := by have := (List.getElem?_eq_some_iff.1 h1).1; omega
  have hjl : (j : Int) < (l'.length : Int) := by have := (List.getElem?_eq_some_iff.1 hj).1; omega
  rw [hi] at I
  have HI := Lib.hid I
  clear I A hi hb hk hL hL' h1 h3 hv hj
  go_enter Try.func42, Try.ntmps42
  go_wp2_with fail
  refine (HI.out _ HA.out).mono ?_
  rintro e w' ⟨rfl, hw⟩
  obtain rfl := hw.symm
  go_wp2_with fail
  go_ret2
  exact ⟨rfl, rfl⟩

theorem root_nil (m a : Int) (w : World) : Calls Try.prog 42 #[.pointer none, .int .i64 m, .int .i64 a] w fun e w' => e = .returned (.tuple #[.int .i64 0, .bool false]) ∧ w' = w := by
  go_enter Try.func42, Try.ntmps42
  go_wp2_with fail
  refine (is_nil _ _).mono ?_
  rintro e w' ⟨rfl, hw⟩
  obtain rfl := hw.symm
  go_wp2_with fail
  go_ret2
  exact ⟨rfl, rfl⟩

theorem slot_nil (m a i : Int) (w : World) : Calls Try.prog 41 #[.pointer none, .int .i64 m, .int .i64 a, .int .i64 i] w fun e w' => e = .returned (.pointer none) ∧ w' = w := by
  go_enter Try.func41, Try.ntmps41
  go_wp2_with fail
  refine (root_nil _ _ _).mono ?_
  rintro e w' ⟨rfl, hw⟩
  obtain rfl := hw.symm
  go_wp2_with fail
  go_ret
  exact ⟨rfl, rfl⟩

theorem slot_no {w : World} {S : GS} (A : GrAt w S) (ok : S.g.Ok) (hN : S.nl.length < 1000000) (m a i : Int) (hb : S.g.slot m a i = none) : Calls Try.prog 41 #[.pointer (some ⟨S.gb, 0, none⟩), .int .i64 m, .int .i64 a, .int .i64 i] w fun e w' => e = .returned (.pointer none) ∧ w' = w := by
  obtain ⟨c0, c1, c2, fz⟩ := row3 A.g0
  unfold GS.rv at c1
  cases hr : S.g.root m a with
  | none =>
    have HR := Lib.hid (root_no A m a hr)
    clear hr hb A ok
    go_enter Try.func41, Try.ntmps41
    go_wp2_with fail
    refine HR.out.mono ?_
    rintro e w' ⟨rfl, hw⟩
    obtain rfl := hw.symm
    go_wp2_with fail
    go_ret
    exact ⟨rfl, rfl⟩
  | some v =>
    have HR := Lib.hid (root_yes A m a v hr)
    have vb := PG.root_bd ok hr
    unfold PG.slot at hb
    rw [hr] at hb
    dsimp only at hb
    by_cases h0 : v = 0
    · subst h0
      clear hr hb A ok
      go_enter Try.func41, Try.ntmps41
      go_wp2_with fail
      refine HR.out.mono ?_
      rintro e w' ⟨rfl, hw⟩
      obtain rfl := hw.symm
      go_wp2_with fail
      go_ret
      exact ⟨rfl, rfl⟩
    · rw [if_neg h0] at hb
      have h0b : (v == 0) = false := by simpa using h0
      obtain ⟨q, rfl⟩ : ∃ q : Nat, v = (q : Int) + 1 := ⟨(v - 1).toNat, by omega⟩
      have hq : q < S.g.nodes.length := by omega
      have hs : S.g.slots ((q : Int) + 1) = S.g.nodes[q] := by
        unfold PG.slots
        rw [show (q : Int) + 1 - 1 = (q : Int) by omega, iget_nat, List.getElem?_eq_getElem hq]
        rfl
      rw [hs] at hb
      have hn : iget (S.g.nodes[q]) i = none := by simpa using hb
      generalize hlq : S.g.nodes[q] = l at hn
      have hlq' : S.g.nodes[q]? = some l := by rw [← hlq]; exact List.getElem?_eq_getElem hq
      obtain ⟨na, nc', nb, noff, nc, h1, h2, h3, -⟩ := A.node hlq'
      have hql : (q : Int) < (S.nl.length : Int) := by have := (List.getElem?_eq_some_iff.1 h1).1; omega
      have hn' := iget_none hn
      have hqb : (q : Int) < 1000000 := by omega
      rw [h2] at c2
      clear hr hb A ok hs hn hlq hlq' h1 h2 h0
      by_cases hi0 : i < 0
      · clear hn'
        go_enter Try.func41, Try.ntmps41
        go_wp2_with fail
        refine HR.out.mono ?_
        rintro e w' ⟨rfl, hw⟩
        obtain rfl := hw.symm
        go_wp2_with fail
        go_ret
        exact ⟨rfl, rfl⟩
      · have hge := hn'.resolve_left hi0
        have hi1 : decide (i < 0) = false := by simpa using hi0
        clear hn'
        go_enter Try.func41, Try.ntmps41
        go_wp2_with fail
        refine HR.out.mono ?_
        rintro e w' ⟨rfl, hw⟩
        obtain rfl := hw.symm
        go_wp2_with fail
        go_ret
        exact ⟨rfl, rfl⟩

end Go.Proofs.Ytfjkmdhkalbpkaa

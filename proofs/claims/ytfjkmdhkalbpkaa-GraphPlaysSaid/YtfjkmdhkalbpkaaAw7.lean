/- Layer 7: what is always so of a graph that is played; the document's example. No condition. -/
import Derived.Test.YtfjkmdhkalbpkaaGr7h
set_option linter.unusedVariables false
set_option linter.unusedSimpArgs false
namespace Go.Proofs.Ytfjkmdhkalbpkaa
open Go.ChangeShapes Go.WideShapes Go.ChangeAt Go.RowKit

/-- A graph of n mutators, with at most M roots each, and at most c nodes. -/
structure GB (G : PG) (M : Int) (n c : Nat) : Prop where
  ok : G.Ok
  most : G.most = M
  len : G.roots.length = n
  nodes : G.nodes.length ≤ c

theorem gb_act {G : PG} {M : Int} {n c : Nat} (h : GB G M n c) (d m a i b : Int) : GB (G.act d m a i b).1 M n (c + 1) :=
  ⟨PG.ok_act h.ok d m a i b, (PG.roots_act G d m a i b).2.trans h.most, (PG.roots_act G d m a i b).1.trans h.len, by have := (PG.nodes_act G d m a i b).2; have := h.nodes; omega⟩
theorem GB.le {G : PG} {M : Int} {n c c' : Nat} (h : GB G M n c) (hc : c ≤ c') : GB G M n c' := ⟨h.ok, h.most, h.len, by have := h.nodes; omega⟩

theorem flatten_le (l : List (List Int)) (M : Nat) (h : ∀ x ∈ l, x.length ≤ M) : l.flatten.length ≤ l.length * M := by
  induction l with
  | nil => simp
  | cons a l ih =>
    have h1 := h a (by simp)
    have h2 := ih fun x hx => h x (by simp [hx])
    rw [List.flatten_cons, List.length_append, List.length_cons, Nat.add_mul]
    omega

theorem GB.small {G : PG} {M : Int} {n c : Nat} (h : GB G M n c) (hM : M ≤ 1000) (hn : n ≤ 16) (hc : c ≤ 1000) : G.most < 1000000 ∧ G.nodes.length < 1000000 ∧ G.roots.length < 1000000 ∧ G.roots.flatten.length + 65 * G.nodes.length < 100000000 := by
  have h1 := h.nodes
  have h2 := flatten_le G.roots 1000 fun x hx => by have := h.ok.rl x hx; have := h.most; omega
  have h3 : G.roots.length * 1000 ≤ 16 * 1000 := Nat.mul_le_mul_right _ (by have := h.len; omega)
  have h4 := h.most
  have h5 := h.len
  omega

theorem newG_gb (mm most common : Int) : GB (newG mm most common) (max most 0) (mutN mm) 1 := by
  refine ⟨⟨fun l hl => ?_, fun l hl v hv => ?_, fun s hs => ?_, fun s hs v hv => ?_⟩, rfl, by simp [newG, rootsK], ?_⟩
  · have := List.eq_of_mem_replicate hl
    subst this
    unfold rootL
    split
    · show (1 : Int) ≤ max most 0; omega
    · show (0 : Int) ≤ max most 0; omega
  · have := List.eq_of_mem_replicate hl
    subst this
    unfold rootL at hv
    split at hv
    · rename_i h
      rw [List.mem_singleton.1 hv]
      unfold newG
      rw [if_neg (by omega)]
      simp
    · simp at hv
  · unfold newG at hs
    dsimp only at hs
    split at hs
    · simp at hs
    · rw [List.mem_singleton.1 hs]
      simp; omega
  · unfold newG at hs
    dsimp only at hs
    split at hs
    · simp at hs
    · rw [List.mem_singleton.1 hs] at hv
      have := List.eq_of_mem_replicate hv
      subst this
      omega
  · unfold newG
    dsimp only
    split <;> simp

theorem reach_none {g : PG} (h : ∀ l ∈ g.roots, l = []) : g.reach = [] := by
  have : ∀ v, ¬ g.Rch v := by
    intro v hv
    induction hv with
    | root a b c => rw [h _ a] at b; simp at b
    | slot a b c ih => exact ih
  unfold PG.reach
  rw [List.filter_eq_nil_iff]
  intro v _
  simpa using this v

theorem reach_aw : PG.reach ⟨4, [[1]], [[2], []]⟩ = [1, 2] := by
  have h1 : PG.Rch ⟨4, [[1]], [[2], []]⟩ 1 := .root (l := [1]) (by simp) (by simp) (by decide)
  have h2 : PG.Rch ⟨4, [[1]], [[2], []]⟩ 2 := .slot h1 (by simp [PG.slots, iget]) (by decide)
  unfold PG.reach
  have e : ((List.range ([[2], []] : List (List Int)).length).map fun (i : Nat) => (i : Int) + 1) = [1, 2] := rfl
  rw [e]
  simp [h1, h2]

set_option maxRecDepth 100000 in
set_option maxHeartbeats 4000000 in
theorem awake7 (w : World) : Calls Try.prog 10 #[] w fun e w' => e = .returned (.bool true) ∧ Below w.heap.size w w' := by
  have B0 := newG_gb 1 4 (-1)
  have g0 : newG 1 4 (-1) = ⟨4, [[]], []⟩ := rfl
  have hm : mutN 1 = 1 := rfl
  rw [g0, hm] at B0
  have B1 := gb_act B0 0 0 0 1 0
  have e1 : PG.act ⟨4, [[]], []⟩ 0 0 0 1 0 = (⟨4, [[1]], [[0]]⟩, 1, true) := rfl
  have B2 := gb_act B1 0 0 0 0 0
  rw [e1] at B1 B2
  have e2 : PG.act ⟨4, [[1]], [[0]]⟩ 0 0 0 0 0 = (⟨4, [[1, 2]], [[0], []]⟩, 2, true) := rfl
  have B3 := gb_act B2 2 0 0 0 1
  rw [e2] at B2 B3
  have e3 : PG.act ⟨4, [[1, 2]], [[0], []]⟩ 2 0 0 0 1 = (⟨4, [[1, 2]], [[2], []]⟩, 0, true) := rfl
  have B4 := gb_act B3 3 0 0 0 0
  rw [e3] at B3 B4
  have e4 : PG.act ⟨4, [[1, 2]], [[2], []]⟩ 3 0 0 0 0 = (⟨4, [[1]], [[2], []]⟩, 0, true) := rfl
  have B5 := gb_act B4 3 0 0 0 0
  rw [e4] at B4 B5
  have e5 : PG.act ⟨4, [[1]], [[2], []]⟩ 3 0 0 0 0 = (⟨4, [[]], [[2], []]⟩, 0, true) := rfl
  rw [e5] at B5
  dsimp only at B1 B2 B3 B4 B5
  have S0 := B0.small (by decide) (by decide) (by decide)
  have S1 := B1.small (by decide) (by decide) (by decide)
  have S2 := B2.small (by decide) (by decide) (by decide)
  have S3 := B3.small (by decide) (by decide) (by decide)
  have S4 := B4.small (by decide) (by decide) (by decide)
  have S5 := B5.small (by decide) (by decide) (by decide)
  have H0 := Lib.hid (And.intro B0 S0)
  have H1 := Lib.hid (And.intro B1 S1)
  have H2 := Lib.hid (And.intro B2 S2)
  have H3 := Lib.hid (And.intro B3 S3)
  have H4 := Lib.hid (And.intro B4 S4)
  have H5 := Lib.hid (And.intro B5 S5)
  clear B0 B1 B2 B3 B4 B5 S0 S1 S2 S3 S4 S5 g0 hm e1 e2 e3 e4 e5
  go_enter Try.func10, Try.ntmps10
  go_wp2_with fail
  refine (New_h (Has.nil w) 1 4 (-1) (by decide)).mono ?_
  rintro e w1 ⟨gb, S0, rfl, G0'⟩
  have G0 : Has w w1 [grC _ gb S0 ⟨4, [[]], []⟩] := G0'
  clear G0'
  go_wp2_with fail
  refine (Alloc_h G0 0 rfl H0.out.1.ok H0.out.2.1 H0.out.2.2.1 0 1).mono ?_
  rintro e w2 ⟨rfl, S1, G1'⟩
  have G1 : Has w w2 [grC _ gb S1 ⟨4, [[1]], [[0]]⟩] := G1'
  have ee : (PG.alloc ⟨4, [[]], []⟩ 0 1).2 = (1, true) := rfl
  rw [ee]
  clear G0 G1' ee
  go_wp2_with fail
  refine (Alloc_h G1 0 rfl H1.out.1.ok H1.out.2.1 H1.out.2.2.1 0 0).mono ?_
  rintro e w3 ⟨rfl, S2, G2'⟩
  have G2 : Has w w3 [grC _ gb S2 ⟨4, [[1, 2]], [[0], []]⟩] := G2'
  have ee : (PG.alloc ⟨4, [[1]], [[0]]⟩ 0 0).2 = (2, true) := rfl
  rw [ee]
  clear G1 G2' ee
  go_wp2_with fail
  refine (Write_h G2 0 rfl H2.out.1.ok H2.out.2.1 H2.out.2.2.1 0 0 0 1).mono ?_
  rintro e w4 ⟨rfl, S3, G3'⟩
  have G3 : Has w w4 [grC _ gb S3 ⟨4, [[1, 2]], [[2], []]⟩] := G3'
  have ee : (PG.write ⟨4, [[1, 2]], [[0], []]⟩ 0 0 0 1).2 = true := rfl
  rw [ee]
  clear G2 G3' ee
  go_wp2_with fail
  refine (Pop_h G3 0 rfl H3.out.1.ok H3.out.2.1 H3.out.2.2.1 0).mono ?_
  rintro e w5 ⟨rfl, S4, G4'⟩
  have G4 : Has w w5 [grC _ gb S4 ⟨4, [[1]], [[2], []]⟩] := G4'
  clear G3 G4'
  go_wp2_with fail
  refine (Reach_h G4 0 rfl H4.out.1.ok H4.out.2.2.2.1 H4.out.2.2.1 H4.out.2.2.2.2).mono ?_
  rintro e w6 ⟨xv, rfl, G5'⟩
  have G5 : Has w w6 [grC _ gb S4 ⟨4, [[1]], [[2], []]⟩, ownN _ 3 .i64 xv [1, 2]] := by rw [reach_aw] at G5'; exact G5'
  clear G4 G5'
  go_wp2_with fail
  refine (Pop_h G5 0 rfl H4.out.1.ok H4.out.2.1 H4.out.2.2.1 0).mono ?_
  rintro e w7 ⟨rfl, S5, G6'⟩
  have G6 : Has w w7 [grC _ gb S5 ⟨4, [[]], [[2], []]⟩, ownN _ 3 .i64 xv [1, 2]] := G6'
  clear G5 G6'
  have G7 := G6.ownLit #[.int .i64 1, .int .i64 2] 3 1 2 rfl (by decide)
  go_wp2_with fail
  refine (Same_h G7 1 2 rfl rfl (l' := [1, 2]) (by decide)).mono ?_
  rintro e w8 ⟨rfl, d8, rfl⟩
  have ee : (([1, 2] : List Int) == [1, 2]) = true := rfl
  rw [ee]
  have G8 := G7.drewN d8
  clear G6 G7
  go_wp2_with fail
  refine (Reach_h G8 0 rfl H5.out.1.ok H5.out.2.2.2.1 H5.out.2.2.1 H5.out.2.2.2.2).mono ?_
  rintro e w9 ⟨yv, rfl, G9⟩
  rw [reach_none (g := ⟨4, [[]], [[2], []]⟩) (by simp)] at G9
  obtain ⟨ya, yc, rfl⟩ := own_is (G9.get 3 rfl)
  clear G8
  go_wp2_with fail
  refine (Nodes_s G9 0 rfl H5.out.1.ok H5.out.2.1 H5.out.2.2.1).mono ?_
  rintro e w10 ⟨rfl, hw⟩
  obtain rfl := hw.symm
  go_wp2_with fail
  refine (Slots_h G9 0 rfl H5.out.1.ok H5.out.2.1 H5.out.2.2.1 1).mono ?_
  rintro e w11 ⟨zv, rfl, G10⟩
  have ee : PG.slots ⟨4, [[]], [[2], []]⟩ 1 = [2] := rfl
  rw [ee] at G10
  have G11 := G10.ownLit #[.int .i64 2] 3 1 1 rfl (by decide)
  clear G9
  go_wp2_with fail
  refine (Same_h G11 4 5 rfl rfl (l' := [2]) (by decide)).mono ?_
  rintro e w12 ⟨rfl, d12, rfl⟩
  have ee : (([2] : List Int) == [2]) = true := rfl
  rw [ee]
  go_wp2_with fail
  go_ret
  exact ⟨rfl, (G11.drewN _).below⟩

end Go.Proofs.Ytfjkmdhkalbpkaa

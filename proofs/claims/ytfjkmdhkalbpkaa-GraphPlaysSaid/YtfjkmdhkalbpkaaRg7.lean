/- The document's graph in memory: slices of slices that are only read. No condition. -/
import Derived.Test.YtfjkmdhkalbpkaaLaw7f
set_option linter.unusedVariables false
set_option linter.unusedSimpArgs false
namespace Go.Proofs.Ytfjkmdhkalbpkaa
open Go.ChangeShapes Go.WideShapes Go.ChangeAt Go.RowKit

theorem rd_val {w : World} {v : Value} {xs : List Int} (h : Rd w v xs) : ∃ a c, v = .slice a xs.length c := by
  rcases h with ⟨h, rfl⟩ | ⟨g, off, c, h, _⟩
  · exact ⟨none, 0, h⟩
  · exact ⟨_, c, h⟩
theorem rd_keep {w w' : World} {v : Value} {xs : List Int} (h : Rd w v xs) (hb : ∀ k ∈ v.ownBlock.toList, w'.heap[k]? = w.heap[k]?) : Rd w' v xs := by
  rcases h with h | ⟨g, off, c, hv, hc⟩
  · exact .inl h
  · refine .inr ⟨g, off, c, hv, fun j x hj => ?_⟩
    rw [World.cell?_of_block (w := w) (a := ⟨g, off + j, none⟩) (hb g (by rw [hv]; simp [Value.ownBlock]))]
    exact hc j x hj

/-- A slice that is no longer than its room. -/
def capd : Value → Prop
  | .slice _ n c => n ≤ c
  | _ => True

/-- A slice of slices of numbers. -/
def LL (w : World) (v : Value) (ps : List (Value × List Int)) : Prop :=
  ((v = .slice none 0 0 ∧ ps = []) ∨ ∃ b off c, v = .slice (some ⟨b, off, none⟩) ps.length c ∧ ∀ (j : Nat) p, ps[j]? = some p → w.cell? ⟨b, off + j, none⟩ = some p.1) ∧ ∀ (j : Nat) p, ps[j]? = some p → Rd w p.1 p.2 ∧ capd p.1
def llB (v : Value) (ps : List (Value × List Int)) : List Nat := v.ownBlock.toList ++ ps.flatMap fun p => p.1.ownBlock.toList

theorem ll_keep {w w' : World} {v : Value} {ps : List (Value × List Int)} (h : LL w v ps) (hb : ∀ k ∈ llB v ps, w'.heap[k]? = w.heap[k]?) : LL w' v ps := by
  refine ⟨?_, fun j p hj => ⟨rd_keep (h.2 j p hj).1 fun k hk => hb k (List.mem_append_right _ (List.mem_flatMap.2 ⟨p, List.mem_of_getElem? hj, hk⟩)), (h.2 j p hj).2⟩⟩
  rcases h.1 with q | ⟨b, off, c, hv, hc⟩
  · exact .inl q
  · refine .inr ⟨b, off, c, hv, fun j p hj => ?_⟩
    rw [World.cell?_of_block (w := w) (a := ⟨b, off + j, none⟩) (hb b (by rw [hv]; simp [llB, Value.ownBlock]))]
    exact hc j p hj

theorem ll_val {w : World} {v : Value} {ps : List (Value × List Int)} (h : LL w v ps) : ∃ a c, v = .slice a ps.length c := by
  rcases h.1 with ⟨hv, rfl⟩ | ⟨b, off, c, hv, _⟩
  · exact ⟨none, 0, hv⟩
  · exact ⟨_, c, hv⟩

theorem ll_at {w : World} {v : Value} {ps : List (Value × List Int)} (h : LL w v ps) {k : Nat} {l : List Int} (hk : (ps.map (·.2))[k]? = some l) : ∃ b off c a lc, v = .slice (some ⟨b, off, none⟩) ps.length c ∧ ps[k]? = some (.slice a l.length lc, l) ∧ k < ps.length ∧ w.cell? ⟨b, off + k, none⟩ = some (.slice a l.length lc) ∧ Rd w (.slice a l.length lc) l := by
  rw [List.getElem?_map] at hk
  cases e : ps[k]? with
  | none => rw [e] at hk; cases hk
  | some p =>
    rw [e] at hk
    obtain rfl : p.2 = l := by simpa using hk
    have hr := (h.2 k p e).1
    obtain ⟨a, lc, hv⟩ := rd_val hr
    have hkl := (List.getElem?_eq_some_iff.1 e).1
    rcases h.1 with ⟨_, h0⟩ | ⟨b, off, c, hv2, hc⟩
    · rw [h0] at hkl; simp at hkl
    · obtain ⟨p1, p2⟩ := p
      dsimp only at hv
      subst hv
      exact ⟨b, off, c, a, lc, hv2, rfl, hkl, hc k _ e, hr⟩

theorem ll_cap {w : World} {v : Value} {ps : List (Value × List Int)} (h : LL w v ps) {k : Nat} {a : Option Addr} {n c : Nat} {l : List Int} (hk : ps[k]? = some (.slice a n c, l)) : n ≤ c := (h.2 k _ hk).2

theorem own_capd {w : World} {e : TypeId} {size n : Nat} {v : Value} {xs : List Value} (h : Own w e size v n xs) : capd v := by
  rcases h.2 with ⟨rfl, _⟩ | ⟨g, off, cap, cur, rfl, _, h1, _⟩
  · exact Nat.le_refl 0
  · exact h1

/-- Where the document's graph stands. -/
structure RS where
  rv : Value
  rs : List (Value × List Int)
  nv : Value
  ns : List (Value × List Int)

def RS.g (X : RS) (most : Int) : PG := ⟨most, X.rs.map (·.2), X.ns.map (·.2)⟩
def RS.v (X : RS) (most : Int) : Value := .agg #[X.rv, X.nv, .int .i64 most]
structure RgAt (w : World) (X : RS) (G : PG) : Prop where
  g : X.g G.most = G
  r : LL w X.rv X.rs
  n : LL w X.nv X.ns
def rgC (n0 : Nat) (X : RS) (G : PG) : Chunk n0 :=
  ⟨llB X.rv X.rs ++ llB X.nv X.ns, true, fun w => RgAt w X G,
   fun w w' h ⟨g, a, b⟩ => ⟨g, ll_keep a fun k hk => h k (.inr (List.mem_append_left _ hk)), ll_keep b fun k hk => h k (.inr (List.mem_append_right _ hk))⟩⟩

theorem RgAt.up {w w' : World} {X : RS} {G : PG} (h : RgAt w X G) (hb : ∀ k, k < w.heap.size → w'.heap[k]? = w.heap[k]?) (hl : ∀ k ∈ llB X.rv X.rs ++ llB X.nv X.ns, k < w.heap.size) : RgAt w' X G :=
  ⟨h.g, ll_keep h.r fun k hk => hb k (hl k (List.mem_append_left _ hk)), ll_keep h.n fun k hk => hb k (hl k (List.mem_append_right _ hk))⟩

/-- Parts that the call has made become a part that is only read, with what was only read before, in that one's place. -/
theorem Has.freeze {w0 w : World} {cs ds : List (Chunk w0.heap.size)} (H : Has w0 w (cs ++ ds)) {i : Nat} {c0 c : Chunk w0.heap.size} (hi : cs[i]? = some c0) (h0 : c0.ro = true) (hro : c.ro = true) (hb : ∀ k ∈ c.blocks, k ∈ c0.blocks ∨ ∃ (j : Nat) (d : Chunk w0.heap.size), ds[j]? = some d ∧ k ∈ d.blocks) (hh : c.holds w) : Has w0 w (cs.set i c) := by
  refine H.front7.setRo c hi h0 hro (Below.refl _ _) (fun k hk => ?_) hh
  rcases hb k hk with q | ⟨j, d, hj, q⟩
  · refine ⟨fun hm => ?_, (H.front7.lt i c0 hi k q).1⟩
    obtain ⟨m, e, he, hr, hk2⟩ := mem_owned hm
    refine H.front7.apart i m c0 e hi he (fun x => ?_) (.inr hr) k q hk2
    subst x
    rw [hi] at he
    cases he
    rw [h0] at hr; cases hr
  · have hj' := app_idx cs ds j
    rw [hj] at hj'
    refine ⟨fun hm => ?_, (H.lt _ d hj' k q).1⟩
    obtain ⟨m, e, he, hr, hk2⟩ := mem_owned hm
    have hml := (List.getElem?_eq_some_iff.1 he).1
    exact H.apart (cs.length + j) m d e hj' (app_old he) (by omega) (.inr hr) k q hk2

def RgR (w0 : World) (cs : List (Chunk w0.heap.size)) (i : Nat) (G : PG) (f : Value → Value) (e : Ending) (w' : World) : Prop := ∃ X : RS, e = .returned (f (X.v G.most)) ∧ Has w0 w' (cs.set i (rgC _ X G))

section
variable {w : World} {X : RS} {G : PG} (A : RgAt w X G)
include A

theorem rg_roots : G.roots = X.rs.map (·.2) := by rw [← A.g]; rfl
theorem rg_nodes : G.nodes = X.ns.map (·.2) := by rw [← A.g]; rfl
theorem rg_rlen : G.roots.length = X.rs.length := by rw [rg_roots A, List.length_map]
theorem rg_nlen : G.nodes.length = X.ns.length := by rw [rg_nodes A, List.length_map]
end

theorem rbelowN {w : World} (o : Obj) (n : Nat) : Below w.heap.size w ((w.alloc o).drewN n) := (((Has.nil w).alloc o).drewN n).below
theorem rbelow {w : World} (o : Obj) : Below w.heap.size w (w.alloc o) := rbelowN o 0

set_option maxRecDepth 100000 in
theorem Room_r {w0 w : World} {cs : List (Chunk w0.heap.size)} (H : Has w0 w cs) (i : Nat) {X : RS} {G : PG} (hi : cs[i]? = some (rgC _ X G)) (m : Int) : Calls Try.prog 33 #[X.v G.most, .int .i64 m] w fun e w' => e = .returned (.bool (G.room m)) ∧ Below w.heap.size w w' := by
  have A : RgAt w X G := H.get i hi
  have hl := rg_rlen A
  obtain ⟨ra, rc, hrv⟩ := ll_val A.r
  have A2 : RgAt (w.alloc (.cells #[X.rv, X.nv, .int .i64 G.most] 36)) X G := (H.alloc (.cells #[X.rv, X.nv, .int .i64 G.most] 36)).get i hi
  cases hb : G.isB m with
  | false =>
    have e : G.room m = false := by unfold PG.room; rw [isB_none hb]
    rw [e]
    unfold PG.isB at hb
    rw [hl] at hb
    unfold RS.v
    rw [hrv]
    by_cases h0 : 0 ≤ m
    · have h1 : decide (m < (X.rs.length : Int)) = false := by simpa [h0] using hb
      clear A A2 hb hl hrv hi e H
      go_enter Try.func33, Try.ntmps33
      go_wp2_with fail
      go_quiet (fail)
      go_wp2_with fail
      go_ret
      exact ⟨rfl, rbelowN _ _⟩
    · have h1 : decide (0 ≤ m) = false := by simpa using h0
      clear A A2 hb hl hrv hi e H h0
      go_enter Try.func33, Try.ntmps33
      go_wp2_with fail
      go_quiet (fail)
      go_wp2_with fail
      go_ret
      exact ⟨rfl, rbelowN _ _⟩
  | true =>
    obtain ⟨k, l, rfl, hk, hL⟩ := isB_some hb
    have e : G.room k = decide ((l.length : Int) < G.most) := by unfold PG.room; rw [hL]
    rw [e]
    rw [rg_roots A] at hk
    obtain ⟨b, off, c, la, lc, hv, -, hkl, hcell, -⟩ := ll_at A.r hk
    have hbl : b < w.heap.size := (H.lt i _ hi b (by simp [rgC, llB, hv, Value.ownBlock])).1
    unfold RS.v
    rw [hv]
    have hkl' : (k : Int) < (X.rs.length : Int) := by omega
    clear A A2 hb hl hrv hi e H hk hL hv
    go_enter Try.func33, Try.ntmps33
    go_wp2_with fail
    go_quiet (fail)
    go_wp2_with fail
    go_ret
    exact ⟨rfl, rbelowN _ _⟩

end Go.Proofs.Ytfjkmdhkalbpkaa

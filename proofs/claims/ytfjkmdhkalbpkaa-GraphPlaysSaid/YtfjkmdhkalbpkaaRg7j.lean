/- The document's graph: a new one. Condition: none but that it may have fewer than a million roots. -/
import Derived.Test.YtfjkmdhkalbpkaaRg7i
set_option linter.unusedVariables false
set_option linter.unusedSimpArgs false
namespace Go.Proofs.Ytfjkmdhkalbpkaa
open Go.ChangeShapes Go.WideShapes Go.ChangeAt Go.RowKit

/-- The same list for each mutator. -/
theorem rg_roots_all {w0 w : World} {cs : List (Chunk w0.heap.size)} {i n : Nat} {X : RS} {G : PG} {v lv : Value} {l : List Int} (hi : cs[i]? = some (rgC _ X G)) (ds : List (Chunk w0.heap.size))
    (H : Has w0 w (cs ++ ds)) (j : Nat) (hj : ds[j]? = some (ownC _ 30 1 v n (List.replicate n lv))) (hx : Rd w lv l ∧ capd lv) (hb : ∀ q ∈ lv.ownBlock.toList, q ∈ (rgC w0.heap.size X G).blocks ∨ ∃ (j : Nat) (d : Chunk w0.heap.size), ds[j]? = some d ∧ q ∈ d.blocks) :
    Has w0 w (cs.set i (rgC _ ⟨v, List.replicate n (lv, l), X.nv, X.ns⟩ { G with roots := List.replicate n l })) := by
  have A : RgAt w X G := H.get i (app_old hi)
  have O : Own w 30 1 v n (List.replicate n lv) := H.get (cs.length + j) (by rw [app_idx]; exact hj)
  have hll : LL w v (List.replicate n (lv, l)) := by
    refine ⟨?_, fun m p hm => ?_⟩
    · rcases Nat.eq_zero_or_pos n with h0 | h0
      · subst h0
        rcases O.2 with ⟨hv, _⟩ | ⟨g, off, c, cur, hv, _⟩
        · exact .inl ⟨hv, rfl⟩
        · refine .inr ⟨g, off, c, hv, fun m p hm => ?_⟩
          simp at hm
      · right
        obtain ⟨g, off, c, hv, -, -, -, hc, -⟩ := own_at O h0
        refine ⟨g, off, c, by rw [List.length_replicate]; exact hv, fun m p hm => hc m p.1 ?_⟩
        rw [List.getElem?_replicate] at hm ⊢
        split at hm
        · cases hm; rename_i q; rw [if_pos q]
        · cases hm
    · rw [List.getElem?_replicate] at hm
      split at hm
      · cases hm; exact hx
      · cases hm
  refine H.freeze hi rfl rfl (fun q hq => ?_) ⟨?_, hll, A.n⟩
  · simp only [rgC] at hq
    rcases List.mem_append.1 hq with q1 | q1
    · rcases List.mem_append.1 q1 with q2 | q2
      · exact .inr ⟨j, _, hj, q2⟩
      · obtain ⟨p, hp, hqp⟩ := List.mem_flatMap.1 q2
        obtain rfl := (List.mem_replicate.1 hp).2
        exact hb q hqp
    · exact .inl (List.mem_append_right _ q1)
  · have hg := A.g
    unfold RS.g at hg ⊢
    dsimp only
    rw [List.map_replicate, ← rg_nodes A]

def rg0 (n0 : Nat) (M : Int) : Chunk n0 := rgC n0 ⟨.slice none 0 0, [], .slice none 0 0, []⟩ ⟨M, [], []⟩
theorem Has.rg0 {w0 w : World} {cs : List (Chunk w0.heap.size)} (H : Has w0 w cs) (M : Int) : Has w0 w (cs ++ [rg0 _ M]) :=
  H.add _ (Below.refl _ _) (fun k hk => by simp [Proofs.Ytfjkmdhkalbpkaa.rg0, rgC, llB, Value.ownBlock] at hk) ⟨rfl, ⟨.inl ⟨rfl, rfl⟩, fun j p hj => by simp at hj⟩, ⟨.inl ⟨rfl, rfl⟩, fun j p hj => by simp at hj⟩⟩

/-- What New answers. -/
def RgN (w0 : World) (cs : List (Chunk w0.heap.size)) (G : PG) (e : Ending) (w' : World) : Prop := ∃ X : RS, e = .returned (X.v G.most) ∧ Has w0 w' (cs ++ [rgC _ X G])

end Go.Proofs.Ytfjkmdhkalbpkaa

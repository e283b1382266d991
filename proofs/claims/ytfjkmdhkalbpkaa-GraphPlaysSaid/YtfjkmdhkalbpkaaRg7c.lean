/- The document's graph: a list with another one at a place; a root more. Condition: fewer than a million in each list. -/
import Derived.Test.YtfjkmdhkalbpkaaRg7b
set_option linter.unusedVariables false
set_option linter.unusedSimpArgs false
namespace Go.Proofs.Ytfjkmdhkalbpkaa
open Go.ChangeShapes Go.WideShapes Go.ChangeAt Go.RowKit

theorem ll_app {w : World} {v : Value} {ps : List (Value × List Int)} (h : LL w v ps) : ∀ u ∈ ps.map (·.1), u.oneCell' = true := by
  intro u hu
  obtain ⟨p, hp, rfl⟩ := List.mem_map.1 hu
  obtain ⟨j, hj⟩ := List.mem_iff_getElem?.1 hp
  obtain ⟨a, c, hv⟩ := rd_val (h.2 j p hj).1
  rw [hv]
  rfl

/-- append(out, l...), l a slice of slices, out nil. -/
theorem wpl_appLL {ops : Array Oper} {rest : List Oper} {o : Oper} {a : Act} {Q : Exit → Act → World → Prop} {w0 w : World} {cs : List (Chunk w0.heap.size)} (H : Has w0 w cs) (hgd : o.guard = none) (s x : Operand)
    (ho : o.op = .call { callee := .builtin .append, args := #[s, x], argTypes := #[34, 34] }) {vx : Value} {ps : List (Value × List Int)} (hs : a.eval s = .slice none 0 0) (hx : a.eval x = vx) (hll : LL w vx ps) (hn : ps.length < 1000000)
    (h : ∀ v' w', Has w0 w' (cs ++ [ownC _ 30 1 v' ps.length (ps.map (·.1))]) → wpList Try.prog ops Q rest (a.put o.dst v') w') : wpList Try.prog ops Q (o :: rest) a w := by
  have H0 := H.ownNil 30 1
  have hone := ll_app hll
  rcases hll.1 with ⟨rfl, rfl⟩ | ⟨b, off, c, rfl, hc⟩
  · obtain ⟨ht, inf, hinf, -⟩ := el_s7
    have hr := run_append_none (P := Try.prog) w 34 o.type 30 inf ht hinf none 0 0 (Nat.le_refl _) (fun _ => ⟨rfl, rfl⟩)
    refine wpList_plain hgd fun K hK => ?_
    unfold Oper.wp execOp
    simp only [ho, resolve, invoke, builtin, Sem.run_bind, Sem.run_pure, Result.andThen_ok, List.map_toArray, List.map_cons, List.map_nil, hs, hx, hr]
    exact hK _ _ (h (.slice none 0 0) w H0)
  · refine wpl_appAll H0 (cs.length + 0) hgd s x ho el_s7 rfl (by decide) (by decide) (app_idx _ _ 0) hs ⟨b, off, none⟩ ps.length c (ps.map (·.1)) hx (by simp) (fun j u hu => ?_) hone (by omega) fun v' w' G => ?_
    · rw [List.getElem?_map] at hu
      cases e : ps[j]? with
      | none => rw [e] at hu; cases hu
      | some p =>
        rw [e] at hu
        have : u = p.1 := by simpa using hu.symm
        subst this
        rw [Go.WideShapes.add_plain]
        exact hc j p e
    · rw [set_app] at G
      refine h v' w' ?_
      have e : ownC w0.heap.size 30 1 v' (0 + ps.length) ([] ++ ps.map (·.1)) = ownC w0.heap.size 30 1 v' ps.length (ps.map (·.1)) := by rw [Nat.zero_add, List.nil_append]
      rw [← e]; exact G

def WithR (w0 : World) (cs : List (Chunk w0.heap.size)) (n : Nat) (vs : List Value) (e : Ending) (w' : World) : Prop := ∃ v, e = .returned v ∧ Has w0 w' (cs ++ [ownC _ 30 1 v n vs])

set_option maxRecDepth 100000 in
set_option maxHeartbeats 1000000 in
theorem with_r {w0 w : World} {cs : List (Chunk w0.heap.size)} (H : Has w0 w cs) {v : Value} {ps : List (Value × List Int)} (hll : LL w v ps) (k : Nat) (hk : k < ps.length) (hn : ps.length < 1000000) (xa : Option Addr) (xn xc : Nat) :
    Calls Try.prog 37 #[v, .int .i64 k, .slice xa xn xc] w fun e w' => WithR w0 cs ps.length ((ps.map (·.1)).set k (.slice xa xn xc)) e w' := by
  obtain ⟨a, c, hv⟩ := ll_val hll
  have HLL := Lib.hid hll
  have hkl : (k : Int) < (ps.length : Int) := by omega
  clear hll
  subst hv
  go_enter Try.func37, Try.ntmps37
  go_wp2_with (at_builtin; refine wpl_appLL H rfl (.tmp 8) (.tmp 9) rfl rfl rfl HLL.out hn ?_; intro v1 w1 G1; obtain ⟨ya, yc, rfl⟩ := own_is (G1.get _ (app_idx _ _ 0)); obtain ⟨yg, yo, hh, -, -, -, ycell, yfr⟩ := own_atV (n := ps.length) (G1.get _ (app_idx _ _ 0)) (by omega); cases hh; have y1 := ycell k ((ps.map (·.1))[k]'(by simpa using hk)) (List.getElem?_eq_getElem _); have y2 := yfr (yo + k); clear ycell yfr)
  go_ret
  have G2 := G1.ownSet (cs.length + 0) (app_idx _ _ 0) k (.slice xa xn xc) (by omega)
  rw [set_app] at G2
  exact ⟨_, rfl, G2⟩

theorem rg_size {w0 w : World} {cs : List (Chunk w0.heap.size)} (H : Has w0 w cs) {i : Nat} {X : RS} {G : PG} (hi : cs[i]? = some (rgC _ X G)) : ∀ k ∈ llB X.rv X.rs ++ llB X.nv X.ns, k < w.heap.size := fun k hk => (H.lt i _ hi k hk).1

/-- Another list of lists in the roots' place. -/
theorem rg_roots_to {w0 w : World} {cs : List (Chunk w0.heap.size)} {i : Nat} {X : RS} {G : PG} {v xv : Value} {k : Nat} {l l' : List Int} (hi : cs[i]? = some (rgC _ X G)) (f : List Int → List Int) (hl : G.roots[k]? = some l) (hf : l' = f l) (ds : List (Chunk w0.heap.size))
    (H : Has w0 w (cs ++ ds)) (j : Nat) (hj : ds[j]? = some (ownC _ 30 1 v X.rs.length ((X.rs.map (·.1)).set k xv))) (hx : Rd w xv l' ∧ capd xv) (hb : ∀ q ∈ xv.ownBlock.toList, q ∈ (rgC w0.heap.size X G).blocks ∨ ∃ (j : Nat) (d : Chunk w0.heap.size), ds[j]? = some d ∧ q ∈ d.blocks) :
    Has w0 w (cs.set i (rgC _ ⟨v, X.rs.set k (xv, l'), X.nv, X.ns⟩ { G with roots := G.roots.modify k f })) := by
  have A : RgAt w X G := H.get i (app_old hi)
  have O : Own w 30 1 v X.rs.length ((X.rs.map (·.1)).set k xv) := H.get (cs.length + j) (by rw [app_idx]; exact hj)
  have hkl : k < X.rs.length := by rw [← rg_rlen A]; exact (List.getElem?_eq_some_iff.1 hl).1
  have hll : LL w v (X.rs.set k (xv, l')) := by
    refine ⟨?_, fun m p hm => ?_⟩
    · right
      obtain ⟨g, off, c, hv, -, -, -, hc, -⟩ := own_at O (by omega)
      refine ⟨g, off, c, by rw [List.length_set]; exact hv, fun m p hm => hc m p.1 ?_⟩
      rw [set_map (fun q : Value × List Int => q.1) X.rs k (xv, l'), List.getElem?_map, hm]; rfl
    · by_cases e : k = m
      · subst e
        rw [List.getElem?_set_self hkl] at hm
        cases hm
        exact hx
      · rw [List.getElem?_set_ne e] at hm
        exact A.r.2 m p hm
  refine H.freeze hi rfl rfl (fun q hq => ?_) ⟨?_, hll, A.n⟩
  · simp only [rgC] at hq
    rcases List.mem_append.1 hq with q1 | q1
    · rcases List.mem_append.1 q1 with q2 | q2
      · exact .inr ⟨j, _, hj, q2⟩
      · obtain ⟨p, hp, hqp⟩ := List.mem_flatMap.1 q2
        obtain ⟨m, hm⟩ := List.mem_iff_getElem?.1 hp
        by_cases e : k = m
        · subst e
          rw [List.getElem?_set_self hkl] at hm
          cases hm
          exact hb q hqp
        · rw [List.getElem?_set_ne e] at hm
          exact .inl (List.mem_append_left _ (List.mem_append_right _ (List.mem_flatMap.2 ⟨p, List.mem_of_getElem? hm, hqp⟩)))
    · exact .inl (List.mem_append_right _ q1)
  · have hg := A.g
    unfold RS.g at hg ⊢
    dsimp only
    rw [map_modify2 X.rs k (xv, l') l f (by rw [← rg_roots A]; exact hl) hf]
    rw [← rg_roots A, ← rg_nodes A]

/-- Another list of lists in the nodes' place. -/
theorem rg_nodes_to {w0 w : World} {cs : List (Chunk w0.heap.size)} {i : Nat} {X : RS} {G : PG} {v xv : Value} {k : Nat} {l l' : List Int} (hi : cs[i]? = some (rgC _ X G)) (f : List Int → List Int) (hl : G.nodes[k]? = some l) (hf : l' = f l) (ds : List (Chunk w0.heap.size))
    (H : Has w0 w (cs ++ ds)) (j : Nat) (hj : ds[j]? = some (ownC _ 30 1 v X.ns.length ((X.ns.map (·.1)).set k xv))) (hx : Rd w xv l' ∧ capd xv) (hb : ∀ q ∈ xv.ownBlock.toList, q ∈ (rgC w0.heap.size X G).blocks ∨ ∃ (j : Nat) (d : Chunk w0.heap.size), ds[j]? = some d ∧ q ∈ d.blocks) :
    Has w0 w (cs.set i (rgC _ ⟨X.rv, X.rs, v, X.ns.set k (xv, l')⟩ { G with nodes := G.nodes.modify k f })) := by
  have A : RgAt w X G := H.get i (app_old hi)
  have O : Own w 30 1 v X.ns.length ((X.ns.map (·.1)).set k xv) := H.get (cs.length + j) (by rw [app_idx]; exact hj)
  have hkl : k < X.ns.length := by rw [← rg_nlen A]; exact (List.getElem?_eq_some_iff.1 hl).1
  have hll : LL w v (X.ns.set k (xv, l')) := by
    refine ⟨?_, fun m p hm => ?_⟩
    · right
      obtain ⟨g, off, c, hv, -, -, -, hc, -⟩ := own_at O (by omega)
      refine ⟨g, off, c, by rw [List.length_set]; exact hv, fun m p hm => hc m p.1 ?_⟩
      rw [set_map (fun q : Value × List Int => q.1) X.ns k (xv, l'), List.getElem?_map, hm]; rfl
    · by_cases e : k = m
      · subst e
        rw [List.getElem?_set_self hkl] at hm
        cases hm
        exact hx
      · rw [List.getElem?_set_ne e] at hm
        exact A.n.2 m p hm
  refine H.freeze hi rfl rfl (fun q hq => ?_) ⟨?_, A.r, hll⟩
  · simp only [rgC] at hq
    rcases List.mem_append.1 hq with q1 | q1
    · exact .inl (List.mem_append_left _ q1)
    · rcases List.mem_append.1 q1 with q2 | q2
      · exact .inr ⟨j, _, hj, q2⟩
      · obtain ⟨p, hp, hqp⟩ := List.mem_flatMap.1 q2
        obtain ⟨m, hm⟩ := List.mem_iff_getElem?.1 hp
        by_cases e : k = m
        · subst e
          rw [List.getElem?_set_self hkl] at hm
          cases hm
          exact hb q hqp
        · rw [List.getElem?_set_ne e] at hm
          exact .inl (List.mem_append_right _ (List.mem_append_right _ (List.mem_flatMap.2 ⟨p, List.mem_of_getElem? hm, hqp⟩)))
  · have hg := A.g
    unfold RS.g at hg ⊢
    dsimp only
    rw [map_modify2 X.ns k (xv, l') l f (by rw [← rg_nodes A]; exact hl) hf]
    rw [← rg_roots A, ← rg_nodes A]

end Go.Proofs.Ytfjkmdhkalbpkaa

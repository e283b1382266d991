/- Which nodes can be come to, in plain Lean: a list of what is left, and passes over all nodes, come to the same. -/
import Derived.Test.YtfjkmdhkalbpkaaGr7p
set_option linter.unusedVariables false
set_option linter.unusedSimpArgs false
namespace Go.Proofs.Ytfjkmdhkalbpkaa
namespace PG

theorem eq_of_sorted_perm {l m : List Int} (p : l.Perm m) (hl : l.Pairwise (· ≤ ·)) (hm : m.Pairwise (· ≤ ·)) : l = m := by
  induction l generalizing m with
  | nil => exact (List.nil_perm.1 p).symm
  | cons a l ih =>
    cases m with
    | nil => exact absurd p.length_eq (by simp)
    | cons b m =>
      have hab : a = b := by
        have h1 : a ∈ b :: m := p.subset (by simp)
        have h2 : b ∈ a :: l := p.symm.subset (by simp)
        rw [List.pairwise_cons] at hl hm
        rcases List.mem_cons.1 h1 with q | q
        · exact q
        · rcases List.mem_cons.1 h2 with r | r
          · exact r.symm
          · have := hm.1 a q
            have := hl.1 b r
            omega
      subst hab
      rw [ih (List.perm_cons a |>.1 p) (List.pairwise_cons.1 hl).2 (List.pairwise_cons.1 hm).2]

theorem nodup_of_sorted {l : List Int} (h : l.Pairwise (· < ·)) : l.Nodup := h.imp fun hab => by omega

theorem perm_of_nodup {l m : List Int} (hl : l.Nodup) (hm : m.Nodup) (h : ∀ x, x ∈ l ↔ x ∈ m) : l.Perm m := by
  induction l generalizing m with
  | nil =>
    cases m with
    | nil => exact List.Perm.refl _
    | cons b m => exact absurd ((h b).2 (by simp)) (by simp)
  | cons a l ih =>
    have ha : a ∈ m := (h a).1 (by simp)
    obtain ⟨s, t, rfl⟩ := List.append_of_mem ha
    have hm' : (a :: (s ++ t)).Nodup := (List.perm_middle.nodup_iff).1 hm
    refine List.Perm.trans (List.Perm.cons a (ih (List.nodup_cons.1 hl).2 (List.nodup_cons.1 hm').2 fun x => ?_)) List.perm_middle.symm
    have hx := h x
    have n1 := (List.nodup_cons.1 hl).1
    have n2 := (List.nodup_cons.1 hm').1
    simp only [List.mem_cons, List.mem_append] at hx n2 ⊢
    constructor
    · intro q
      have hne : x ≠ a := fun e => n1 (e ▸ q)
      rcases hx.1 (.inr q) with r | r | r
      · exact .inl r
      · exact absurd r hne
      · exact .inr r
    · intro q
      have hne : x ≠ a := fun e => n2 (e ▸ q)
      rcases hx.2 (by rcases q with q | q; exact .inl q; exact .inr (.inr q)) with r | r
      · exact absurd r hne
      · exact r

/-- What holds while something is left. -/
structure DInv (g : PG) (vis left : List Int) : Prop where
  nd : vis.Nodup
  vr : ∀ v ∈ vis, g.Rch v
  lr : ∀ v ∈ left, v ≠ 0 → g.Rch v
  l0 : ∀ v ∈ left, 0 ≤ v ∧ v ≤ g.nodes.length
  rt : ∀ l ∈ g.roots, ∀ v ∈ l, v ≠ 0 → v ∈ vis ∨ v ∈ left
  cl : ∀ u ∈ vis, ∀ s ∈ g.slots u, s ≠ 0 → s ∈ vis ∨ s ∈ left

theorem dinv_start {g : PG} (ok : g.Ok) : DInv g [] g.roots.flatten := by
  refine ⟨List.nodup_nil, by simp, fun v hv h0 => ?_, fun v hv => ?_, fun l hl v hv _ => .inr (List.mem_flatten.2 ⟨l, hl, hv⟩), by simp⟩
  · obtain ⟨l, h1, h2⟩ := List.mem_flatten.1 hv
    exact .root h1 h2 h0
  · obtain ⟨l, h1, h2⟩ := List.mem_flatten.1 hv
    exact ok.rv l h1 v h2

theorem dinv_skip {g : PG} {vis left : List Int} {v : Int} (I : DInv g vis (left ++ [v])) (h : v = 0 ∨ v ∈ vis) : DInv g vis left := by
  have go : ∀ s : Int, s ≠ 0 → s ∈ vis ∨ s ∈ left ++ [v] → s ∈ vis ∨ s ∈ left := by
    intro s h0 hs
    rcases hs with q | q
    · exact .inl q
    · rcases List.mem_append.1 q with p | p
      · exact .inr p
      · rw [List.mem_singleton.1 p] at h0 ⊢
        exact .inl (h.resolve_left h0)
  exact ⟨I.nd, I.vr, fun v hv => I.lr v (List.mem_append_left _ hv), fun v hv => I.l0 v (List.mem_append_left _ hv), fun l hl v hv h0 => go v h0 (I.rt l hl v hv h0), fun u hu s hs h0 => go s h0 (I.cl u hu s hs h0)⟩

theorem dinv_step {g : PG} (ok : g.Ok) {vis left : List Int} {v : Int} (I : DInv g vis (left ++ [v])) (h0 : v ≠ 0) (h : v ∉ vis) : DInv g (vis ++ [v]) (left ++ g.slots v) := by
  have hv : g.Rch v := I.lr v (by simp) h0
  have go : ∀ s : Int, s ∈ vis ∨ s ∈ left ++ [v] → s ∈ vis ++ [v] ∨ s ∈ left ++ g.slots v := by
    intro s hs
    simp only [List.mem_append, List.mem_singleton] at hs ⊢
    rcases hs with q | q | q
    · exact .inl (.inl q)
    · exact .inr (.inl q)
    · exact .inl (.inr q)
  refine ⟨?_, fun u hu => ?_, fun u hu hz => ?_, fun u hu => ?_, fun l hl u hu hz => go u (I.rt l hl u hu hz), fun u hu s hs hz => ?_⟩
  · rw [List.nodup_append]
    refine ⟨I.nd, by simp, fun a ha b hb => ?_⟩
    rw [List.mem_singleton.1 hb]
    rintro rfl
    exact h ha
  · rcases List.mem_append.1 hu with q | q
    · exact I.vr u q
    · rw [List.mem_singleton.1 q]; exact hv
  · rcases List.mem_append.1 hu with q | q
    · exact I.lr u (by simp [q]) hz
    · exact .slot hv q hz
  · rcases List.mem_append.1 hu with q | q
    · exact I.l0 u (by simp [q])
    · obtain ⟨l, hl, hs, -⟩ := mem_slots q
      exact ok.nv l hl u hs
  · rcases List.mem_append.1 hu with q | q
    · exact go s (I.cl u q s hs hz)
    · rw [List.mem_singleton.1 q] at hs
      exact .inr (List.mem_append_right _ hs)

theorem dinv_mem {g : PG} {vis : List Int} (I : DInv g vis []) (v : Int) : v ∈ vis ↔ g.Rch v := by
  constructor
  · exact I.vr v
  · intro h
    induction h with
    | root a b c => simpa using I.rt _ a _ b c
    | slot a b c ih => simpa using I.cl _ ih _ b c

theorem dinv_end {g : PG} (ok : g.Ok) {vis out : List Int} (I : DInv g vis []) (p : out.Perm vis) (hs : out.Pairwise (· ≤ ·)) : out = g.reach := by
  refine eq_of_sorted_perm (p.trans (perm_of_nodup I.nd (nodup_of_sorted g.reach_sorted) fun x => ?_)) hs (g.reach_sorted.imp fun h => by omega)
  rw [dinv_mem I x, mem_reach ok]

theorem length_le_of_nodup {l : List Int} {n : Nat} (h : l.Nodup) (hb : ∀ x ∈ l, 1 ≤ x ∧ x ≤ (n : Int)) : l.length ≤ n := by
  induction n generalizing l with
  | zero =>
    cases l with
    | nil => simp
    | cons a l => have := hb a (by simp); omega
  | succ n ih =>
    by_cases hm : ((n + 1 : Nat) : Int) ∈ l
    · obtain ⟨s, t, rfl⟩ := List.append_of_mem hm
      have h' := List.perm_middle.nodup_iff.1 h
      have := ih (List.nodup_cons.1 h').2 fun x hx => by
        have h1 := hb x (by simp only [List.mem_append, List.mem_cons] at hx ⊢; rcases hx with q | q; exact .inl q; exact .inr (.inr q))
        have h2 : x ≠ ((n + 1 : Nat) : Int) := fun e => (List.nodup_cons.1 h').1 (e ▸ hx)
        omega
      simp only [List.length_append, List.length_cons] at this ⊢
      omega
    · have := ih h fun x hx => by
        have h1 := hb x hx
        have h2 : x ≠ ((n + 1 : Nat) : Int) := fun e => hm (e ▸ hx)
        omega
      omega

theorem dinv_len {g : PG} (ok : g.Ok) {vis left : List Int} (I : DInv g vis left) : vis.length ≤ g.nodes.length :=
  length_le_of_nodup I.nd fun x hx => rch_bd ok (I.vr x hx)

theorem slots_len {g : PG} (ok : g.Ok) (v : Int) : (g.slots v).length ≤ 64 := by
  unfold slots
  cases e : iget g.nodes (v - 1) with
  | none => simp
  | some l => exact ok.nl l (iget_mem e)

/-! The passes of the document. -/

def on (is : List Bool) (v : Int) : Prop := is[(v - 1).toNat]? = some true
/-- What each pass keeps. -/
structure RInv (g : PG) (is : List Bool) : Prop where
  len : is.length = g.nodes.length
  sound : ∀ v, 1 ≤ v → on is v → g.Rch v
def Rooted (g : PG) (is : List Bool) : Prop := ∀ l ∈ g.roots, ∀ v ∈ l, 0 < v → on is v
def Closed (g : PG) (is : List Bool) : Prop := ∀ u, 1 ≤ u → on is u → ∀ s ∈ g.slots u, 0 < s → on is s
def trues (is : List Bool) : Nat := (is.filter id).length

theorem on_set {is : List Bool} {v : Int} (h : v - 1 < (is.length : Int)) (h1 : 1 ≤ v) : on (is.set (v - 1).toNat true) v := by
  unfold on
  rw [List.getElem?_set_self (by omega)]
theorem on_keep {is : List Bool} {v u : Int} (h : on is u) : on (is.set (v - 1).toNat true) u := by
  unfold on at h ⊢
  by_cases e : (v - 1).toNat = (u - 1).toNat
  · rw [e, List.getElem?_set_self (List.getElem?_eq_some_iff.1 h).1]
  · rw [List.getElem?_set_ne e]; exact h
theorem on_of_set {is : List Bool} {v u : Int} (h1 : 1 ≤ v) (hu : 1 ≤ u) (h : on (is.set (v - 1).toNat true) u) : u = v ∨ on is u := by
  unfold on at h ⊢
  by_cases e : (v - 1).toNat = (u - 1).toNat
  · exact .inl (by omega)
  · rw [List.getElem?_set_ne e] at h; exact .inr h
theorem set_on {is : List Bool} {v : Int} (h : on is v) : is.set (v - 1).toNat true = is := by
  obtain ⟨h1, h2⟩ := List.getElem?_eq_some_iff.1 h
  exact List.ext_getElem? fun j => by
    by_cases e : (v - 1).toNat = j
    · subst e; rw [List.getElem?_set_self h1, h]
    · rw [List.getElem?_set_ne e]

theorem rinv_set {g : PG} {is : List Bool} (I : RInv g is) {v : Int} (h1 : 1 ≤ v) (hv : g.Rch v) : RInv g (is.set (v - 1).toNat true) :=
  ⟨by rw [List.length_set]; exact I.len, fun u hu h => by
    rcases on_of_set h1 hu h with rfl | q
    · exact hv
    · exact I.sound u hu q⟩

theorem trues_le {a b : List Bool} (hl : a.length = b.length) (h : ∀ i : Nat, a[i]? = some true → b[i]? = some true) : trues a ≤ trues b ∧ (trues a = trues b → a = b) := by
  unfold trues
  induction a generalizing b with
  | nil =>
    cases b with
    | nil => simp
    | cons y b => simp at hl
  | cons x a ih =>
    cases b with
    | nil => simp at hl
    | cons y b =>
      have := ih (b := b) (by simpa using hl) (fun i hi => by simpa using h (i + 1) (by simpa using hi))
      have h0 := h 0
      cases x <;> cases y <;> simp at h0 ⊢
      · exact ⟨this.1, fun e => this.2 e⟩
      · omega
      · exact ⟨this.1, fun e => this.2 e⟩

theorem trues_bd (is : List Bool) : trues is ≤ is.length := List.length_filter_le _ _
theorem all_of_trues {is : List Bool} (h : is.length ≤ trues is) : ∀ i : Nat, i < is.length → is[i]? = some true := by
  unfold trues at h
  induction is with
  | nil => intro i hi; simp at hi
  | cons x is ih =>
    cases x with
    | false =>
      have := trues_bd is
      unfold trues at this
      simp at h
      omega
    | true =>
      have h' : is.length ≤ (is.filter id).length := by simpa using h
      intro i hi
      cases i with
      | zero => rfl
      | succ i => simpa using ih h' i (by simpa using hi)

/-- One pass, from its begin on. -/
structure Pass (g : PG) (is0 is : List Bool) (v : Nat) : Prop where
  inv : RInv g is
  keep : ∀ i : Nat, is0[i]? = some true → is[i]? = some true
  done : ∀ u : Nat, u < v → is0[u]? = some true → ∀ s ∈ g.slots ((u : Int) + 1), 0 < s → on is s
  same : Closed g is0 → is = is0

theorem pass_start {g : PG} {is : List Bool} (I : RInv g is) : Pass g is is 0 := ⟨I, fun _ h => h, fun u hu => by omega, fun _ => rfl⟩
/-- One slot more of a node that can be come to. -/
theorem pass_slot {g : PG} {is0 is : List Bool} {v : Nat} (P : Pass g is0 is v) (hv : is[v]? = some true) {s : Int} (hs : s ∈ g.slots ((v : Int) + 1)) (h0 : 0 < s) : Pass g is0 (is.set (s - 1).toNat true) v := by
  have hr : g.Rch ((v : Int) + 1) := P.inv.sound _ (by omega) (by unfold on; rw [show ((v : Int) + 1 - 1).toNat = v by omega]; exact hv)
  refine ⟨rinv_set P.inv (by omega) (.slot hr hs (by omega)), fun i hi => ?_, fun u hu h s' hs' hz => on_keep (P.done u hu h s' hs' hz), fun hc => ?_⟩
  · have := on_keep (v := s) (u := (i : Int) + 1) (is := is) (by unfold on; rw [show ((i : Int) + 1 - 1).toNat = i by omega]; exact P.keep i hi)
    unfold on at this
    rwa [show ((i : Int) + 1 - 1).toNat = i by omega] at this
  · have e := P.same hc
    rw [← e] at hc
    rw [set_on (hc ((v : Int) + 1) (by omega) (by unfold on; rw [show ((v : Int) + 1 - 1).toNat = v by omega]; exact hv) s hs h0)]
    exact e
/-- A node is done: all its slots are, or it can't be come to as yet. -/
theorem pass_node {g : PG} {is0 is : List Bool} {v : Nat} (P : Pass g is0 is v) (h : is[v]? = some true → ∀ s ∈ g.slots ((v : Int) + 1), 0 < s → on is s) : Pass g is0 is (v + 1) :=
  ⟨P.inv, P.keep, fun u hu hi s hs hz => by
    by_cases e : u = v
    · subst e; exact h (P.keep u hi) s hs hz
    · exact P.done u (by omega) hi s hs hz, P.same⟩

/-- What holds between the passes. -/
structure Passes (g : PG) (is : List Bool) (k : Nat) : Prop where
  inv : RInv g is
  rt : Rooted g is
  cl : Closed g is ∨ k ≤ trues is

theorem passes_step {g : PG} {is0 is : List Bool} {k : Nat} (A : Passes g is0 k) (P : Pass g is0 is g.nodes.length) : Passes g is (k + 1) := by
  refine ⟨P.inv, fun l hl v hv h0 => P.keep _ (A.rt l hl v hv h0), ?_⟩
  rcases A.cl with hc | hk
  · left; rw [P.same hc]; exact hc
  · obtain ⟨h1, h2⟩ := trues_le (a := is0) (b := is) (by rw [A.inv.len, P.inv.len]) P.keep
    by_cases e : trues is0 = trues is
    · left
      have e' := h2 e
      subst e'
      intro u hu hon s hs h0
      have hlt := (List.getElem?_eq_some_iff.1 hon).1
      have := P.done (u - 1).toNat (by rw [← A.inv.len]; exact hlt) hon
      rw [show (((u - 1).toNat : Nat) : Int) + 1 = u by omega] at this
      exact this s hs h0
    · right; omega

theorem passes_end {g : PG} (ok : g.Ok) {is : List Bool} (A : Passes g is g.nodes.length) (v : Int) (h1 : 1 ≤ v) : on is v ↔ g.Rch v := by
  have hc : Closed g is := by
    rcases A.cl with hc | hk
    · exact hc
    · intro u hu hon s hs h0
      have hall := all_of_trues (is := is) (by rw [A.inv.len]; exact hk)
      obtain ⟨l, hl, hsl, -⟩ := mem_slots hs
      have := ok.nv l hl s hsl
      exact hall _ (by rw [A.inv.len]; omega)
  constructor
  · exact A.inv.sound v h1
  · intro h
    induction h with
    | @root l v a b c => exact A.rt _ a _ b (by omega)
    | @slot v s a b c ih =>
      have hb := rch_bd ok a
      have : 0 ≤ s := by
        obtain ⟨l, hl, hsl, -⟩ := mem_slots b
        exact (ok.nv l hl s hsl).1
      exact hc v hb.1 (ih hb.1) s b (by omega)

/-- What the document tells. -/
theorem passes_reach {g : PG} (ok : g.Ok) {is : List Bool} (A : Passes g is g.nodes.length) : ((List.range is.length).filter fun i => is[i]? == some true).map (fun (i : Nat) => (i : Int) + 1) = g.reach := by
  unfold reach
  rw [List.filter_map, A.inv.len]
  congr 1
  apply List.filter_congr
  intro i hi
  have := passes_end ok A ((i : Int) + 1) (by omega)
  unfold on at this
  rw [show ((i : Int) + 1 - 1).toNat = i by omega] at this
  simp only [Function.comp]
  rw [Bool.eq_iff_iff]
  simp [this]

end PG
end Go.Proofs.Ytfjkmdhkalbpkaa

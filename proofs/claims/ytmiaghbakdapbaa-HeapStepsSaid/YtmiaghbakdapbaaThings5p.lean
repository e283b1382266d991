/- All things of a configuration in the order of their places, in plain Lean: each stands at its place, and each thing that has a place is among them. Condition: the configuration may be. -/
import Derived.Test.YtmiaghbakdapbaaFirst5p
set_option linter.unusedVariables false
set_option linter.unusedSimpArgs false
namespace Go.Proofs.Ytmiaghbakdapbaa
open Go.ChangeShapes Go.WideShapes Go.ChangeAt Go.RowKit

structure Th where
  k : Int
  a : Int
  b : Int

def thBase (n : Nat) : List Th := (List.range n).map fun (k : Nat) => ⟨(k : Int), 0, 0⟩
def thAcks (n : Nat) : List Th := (List.range n).map fun (i : Nat) => ⟨6, (i : Int), 0⟩
def thHeads (n : Nat) : List Th := (List.range n).map fun (i : Nat) => ⟨7, (i : Int), 0⟩
def thEntries (i n : Nat) : List Th := (List.range n).map fun (j : Nat) => ⟨10, (i : Int), (j : Int)⟩
def thDeque (dq i : Nat) : List Th := ([⟨8, i, 0⟩, ⟨9, i, 0⟩] : List Th) ++ thEntries i dq
def thDeques (dq n : Nat) : List Th := (List.range n).flatMap (thDeque dq)
def thTasks (p n : Nat) : List Th := (List.range n).map fun (j : Nat) => ⟨13, (p : Int) + 1, (j : Int)⟩
def thPacket (p : Nat) : List Th := ([⟨11, (p : Int) + 1, 0⟩, ⟨12, (p : Int) + 1, 0⟩] : List Th) ++ thTasks p 4
def thPackets (n : Nat) : List Th := (List.range n).flatMap thPacket
def thHeadsOf (v n : Nat) : List Th := (List.range n).map fun (k : Nat) => ⟨14 + (k : Int), (v : Int) + 1, 0⟩
def thSlots (v n : Nat) : List Th := (List.range n).map fun (i : Nat) => ⟨18, (v : Int) + 1, (i : Int)⟩
def thNode (rooms : List Int) (v : Nat) : List Th := thHeadsOf v 4 ++ thSlots v (rooms.getD v 0).toNat
def thNodes (rooms : List Int) (n : Nat) : List Th := (List.range n).flatMap (thNode rooms)
/-- All things. -/
def Cfg.things (c : Cfg) : List Th :=
  thBase 6 ++ thAcks c.mu.toNat ++ thHeads 5 ++ thDeques c.dq.toNat c.mr.toNat ++ thPackets c.mn.toNat ++ thNodes c.rooms c.nd.toNat

/-- Where a thing stands; -1: there is none such. -/
def Cfg.atOf (c : Cfg) (t : Th) : Int :=
  if t.k < 0 then -1 else if t.k ≤ 5 then t.k else if t.k = 6 then c.ackAt t.a else if t.k = 7 then c.headAt t.a else if t.k = 8 then c.endAt t.a 0 else if t.k = 9 then c.endAt t.a 1
  else if t.k = 10 then c.entryAt t.a t.b else if t.k = 11 then c.packAt t.a 0 else if t.k = 12 then c.packAt t.a 1 else if t.k = 13 then c.taskAt t.a t.b
  else if t.k ≤ 17 then c.nodeAt t.a (t.k - 14) else c.slotAt t.a t.b
/-- A thing that has no number where its kind has none. -/
structure Norm (t : Th) : Prop where
  k : 0 ≤ t.k ∧ t.k ≤ 18
  a : t.k ≤ 5 → t.a = 0
  b : ¬ (t.k = 10 ∨ t.k = 13 ∨ t.k = 18) → t.b = 0

def Seg (c : Cfg) (o : Int) (l : List Th) : Prop := ∀ (i : Nat) t, l[i]? = some t → c.atOf t = o + i

theorem seg_app {c : Cfg} {o : Int} {l m : List Th} (h : Seg c o l) (g : Seg c (o + l.length) m) : Seg c o (l ++ m) := by
  intro i t ht
  by_cases hi : i < l.length
  · rw [List.getElem?_append_left hi] at ht; exact h i t ht
  · rw [List.getElem?_append_right (by omega)] at ht
    have := g _ t ht
    omega
theorem seg_map {c : Cfg} {o : Int} {n : Nat} {f : Nat → Th} (h : ∀ i, i < n → c.atOf (f i) = o + i) : Seg c o ((List.range n).map f) := by
  intro i t ht
  rw [List.getElem?_map] at ht
  by_cases hi : i < n
  · rw [List.getElem?_range hi] at ht
    cases ht
    exact h i hi
  · rw [List.getElem?_eq_none (by simp; omega)] at ht
    cases ht
theorem seg_flat {c : Cfg} {F : Nat → List Th} {off : Nat → Int} : ∀ (n : Nat), (∀ i, i < n → off (i + 1) = off i + (F i).length ∧ Seg c (off i) (F i)) →
    Seg c (off 0) ((List.range n).flatMap F) ∧ off n = off 0 + (((List.range n).flatMap F).length : Int)
  | 0, _ => ⟨fun i t ht => by simp at ht, by simp⟩
  | n + 1, h => by
    obtain ⟨h1, h2⟩ := seg_flat n fun i hi => h i (by omega)
    obtain ⟨h3, h4⟩ := h n (by omega)
    rw [List.range_succ, List.flatMap_append]
    refine ⟨seg_app h1 ?_, ?_⟩
    · rw [← h2]; simpa using h4
    · rw [List.length_append, h3, h2]; simp; omega

theorem atOf_base {c : Cfg} (k : Int) (h0 : 0 ≤ k) (h1 : k ≤ 5) (a b : Int) : c.atOf ⟨k, a, b⟩ = k := by
  unfold Cfg.atOf; dsimp only; rw [if_neg (by omega), if_pos h1]
theorem atOf6 {c : Cfg} (a b : Int) : c.atOf ⟨6, a, b⟩ = c.ackAt a := rfl
theorem atOf7 {c : Cfg} (a b : Int) : c.atOf ⟨7, a, b⟩ = c.headAt a := rfl
theorem atOf8 {c : Cfg} (a b : Int) : c.atOf ⟨8, a, b⟩ = c.endAt a 0 := rfl
theorem atOf9 {c : Cfg} (a b : Int) : c.atOf ⟨9, a, b⟩ = c.endAt a 1 := rfl
theorem atOf10 {c : Cfg} (a b : Int) : c.atOf ⟨10, a, b⟩ = c.entryAt a b := rfl
theorem atOf11 {c : Cfg} (a b : Int) : c.atOf ⟨11, a, b⟩ = c.packAt a 0 := rfl
theorem atOf12 {c : Cfg} (a b : Int) : c.atOf ⟨12, a, b⟩ = c.packAt a 1 := rfl
theorem atOf13 {c : Cfg} (a b : Int) : c.atOf ⟨13, a, b⟩ = c.taskAt a b := rfl
theorem atOf18 {c : Cfg} (a b : Int) : c.atOf ⟨18, a, b⟩ = c.slotAt a b := rfl
theorem atOfN {c : Cfg} (k a b : Int) (h0 : 14 ≤ k) (h1 : k ≤ 17) : c.atOf ⟨k, a, b⟩ = c.nodeAt a (k - 14) := by
  unfold Cfg.atOf; dsimp only
  rw [if_neg (by omega), if_neg (by omega), if_neg (by omega), if_neg (by omega), if_neg (by omega), if_neg (by omega), if_neg (by omega), if_neg (by omega), if_neg (by omega), if_neg (by omega), if_pos h1]

theorem seg_deque {c : Cfg} (h : CfgOk c) (i : Nat) (hi : (i : Int) < c.mr) : Seg c (c.dqP + i * (2 + c.dq)) (thDeque c.dq.toNat i) := by
  have hdq := h.dq
  have e : ∀ j, c.endAt i j = c.dqP + (i : Int) * (2 + c.dq) + j := fun j => by unfold Cfg.endAt; rw [if_pos ⟨by omega, hi⟩]
  unfold thDeque
  refine seg_app ?_ (seg_map fun j hj => ?_)
  · intro j t ht
    match j, ht with
    | 0, ht => cases ht; rw [atOf8, e]; simp
    | 1, ht => cases ht; rw [atOf9, e]; simp
    | j + 2, ht => simp at ht
  · rw [atOf10]; unfold Cfg.entryAt; rw [if_pos ⟨by omega, by omega⟩, e]; simp; omega

theorem seg_packet {c : Cfg} (p : Nat) (hp : (p : Int) < c.mn) : Seg c (c.pkP + p * 6) (thPacket p) := by
  have e : ∀ j, c.packAt ((p : Int) + 1) j = c.pkP + (p : Int) * 6 + j := fun j => by unfold Cfg.packAt; rw [if_pos ⟨by omega, by omega⟩]; omega
  unfold thPacket
  refine seg_app ?_ (seg_map fun j hj => ?_)
  · intro j t ht
    match j, ht with
    | 0, ht => cases ht; rw [atOf11, e]; simp
    | 1, ht => cases ht; rw [atOf12, e]; simp
    | j + 2, ht => simp at ht
  · rw [atOf13]; unfold Cfg.taskAt; rw [if_pos ⟨by omega, by omega⟩, e]; simp; omega

theorem rooms_at {c : Cfg} (v : Nat) (hv : (v : Int) < c.nd) : c.rooms.getD v 0 = c.roomAt ((v : Int) + 1) := by
  have := room_get (c := c) ((v : Int) + 1) (by omega)
  have e : ((v : Int) + 1).toNat - 1 = v := by omega
  rw [e] at this
  rw [List.getD_eq_getElem?_getD, this]; rfl

theorem seg_node {c : Cfg} (v : Nat) (hv : (v : Int) < c.nd) : Seg c (c.nodeAt ((v : Int) + 1) 0) (thNode c.rooms v) := by
  have hr := roomAt_pos (c := c) ((v : Int) + 1) (by omega)
  unfold thNode
  refine seg_app (seg_map fun k hk => ?_) (seg_map fun i hi => ?_)
  · rw [atOfN _ _ _ (by omega) (by omega), nodeAt_j _ _ (by omega)]; omega
  · rw [rooms_at v hv] at hi
    rw [atOf18]; unfold Cfg.slotAt; rw [if_pos ⟨by omega, by omega⟩, nodeAt_j _ _ (by omega)]
    simp [thHeadsOf]; omega

theorem thNode_len {c : Cfg} (v : Nat) (hv : (v : Int) < c.nd) : ((thNode c.rooms v).length : Int) = 4 + c.roomAt ((v : Int) + 1) := by
  have hr := roomAt_pos (c := c) ((v : Int) + 1) (by omega)
  unfold thNode thHeadsOf thSlots
  rw [rooms_at v hv]
  simp; omega

/-- Each thing stands at its place; and there are as many as there are places. -/
theorem things_seg {c : Cfg} (h : CfgOk c) : Seg c 0 c.things ∧ (c.things.length : Int) = c.all := by
  have hb := cfg_bd h
  have hmu := h.mu
  have hdq := h.dq
  have hmr := h.mr
  have e6 : c.n0P = c.pkP + c.mn * 6 := rfl
  have e5 : c.pkP = c.dqP + c.mr * (2 + c.dq) := rfl
  have d1 := seg_flat (c := c) (F := thDeque c.dq.toNat) (off := fun i => c.dqP + (i : Int) * (2 + c.dq)) c.mr.toNat (fun i hi => ⟨by
    have : ((i + 1 : Nat) : Int) * (2 + c.dq) = (i : Int) * (2 + c.dq) + (2 + c.dq) := by rw [Int.natCast_add, Int.add_mul]; omega
    simp only [this]; simp [thDeque, thEntries]; omega, seg_deque h i (by omega)⟩)
  have d2 := seg_flat (c := c) (F := thPacket) (off := fun i => c.pkP + (i : Int) * 6) c.mn.toNat (fun i hi => ⟨by simp [thPacket, thTasks]; omega, seg_packet i (by omega)⟩)
  have d3 := seg_flat (c := c) (F := thNode c.rooms) (off := fun v => c.n0P + rSum (c.rooms.take v)) c.nd.toNat (fun v hv => by
    have a1 := nodeAt_end (c := c) ((v : Int) + 1) (by omega)
    have a2 := nodeAt_is (c := c) ((v : Int) + 1) (by omega)
    have x1 : ((v : Int) + 1).toNat = v + 1 := by omega
    have x2 : ((v : Int) + 1).toNat - 1 = v := by omega
    rw [x1] at a1
    rw [x2] at a2
    have a3 := thNode_len (c := c) v (by omega)
    exact ⟨by omega, by have := seg_node (c := c) v (by omega); rw [a2] at this; exact this⟩)
  have s0 : Seg c 0 (thBase 6) := seg_map fun k hk => by rw [atOf_base _ (by omega) (by omega)]; omega
  have s1 : Seg c 6 (thAcks c.mu.toNat) := seg_map fun k hk => by rw [atOf6]; unfold Cfg.ackAt; rw [if_pos ⟨by omega, by omega⟩]
  have s2 : Seg c (6 + c.mu) (thHeads 5) := seg_map fun k hk => by rw [atOf7]; unfold Cfg.headAt; rw [if_pos ⟨by omega, by omega⟩, hb.hd]
  have l0 : (thBase 6).length = 6 := by simp [thBase]
  have l1 : ((thAcks c.mu.toNat).length : Int) = c.mu := by simp [thAcks]; omega
  have l2 : (thHeads 5).length = 5 := by simp [thHeads]
  have hdp := hb.dqP
  obtain ⟨q1, q2⟩ := d1
  obtain ⟨r1, r2⟩ := d2
  obtain ⟨t1, t2⟩ := d3
  have z1 : (c.mr.toNat : Int) = c.mr := by omega
  have z2 : (c.mn.toNat : Int) = c.mn := by have := hb.mn; have := hb.nd; omega
  rw [z1] at q2
  rw [z2] at r2
  have z3 : c.rooms.take c.nd.toNat = c.rooms := List.take_of_length_le (by have := rooms_len (c := c); omega)
  rw [z3] at t2
  have e7 : c.all = c.n0P + rSum c.rooms := rfl
  have f1 : (thDeques c.dq.toNat c.mr.toNat).length = ((List.range c.mr.toNat).flatMap (thDeque c.dq.toNat)).length := rfl
  have f2 : (thPackets c.mn.toNat).length = ((List.range c.mn.toNat).flatMap thPacket).length := rfl
  have f3 : (thNodes c.rooms c.nd.toNat).length = ((List.range c.nd.toNat).flatMap (thNode c.rooms)).length := rfl
  simp only [List.take_zero, rSum] at t1 t2
  have o1 : c.dqP + ((0 : Nat) : Int) * (2 + c.dq) = c.dqP := by simp
  have o2 : c.pkP + ((0 : Nat) : Int) * 6 = c.pkP := by simp
  rw [o1] at q1 q2
  rw [o2] at r1 r2
  have o3 : c.n0P + 0 = c.n0P := by omega
  rw [o3] at t1 t2
  unfold Cfg.things
  constructor
  · refine seg_app (seg_app (seg_app (seg_app (seg_app s0 ?_) ?_) ?_) ?_) ?_
    · rw [l0]; exact s1
    · rw [List.length_append, l0]
      have : (0 : Int) + ((6 + (thAcks c.mu.toNat).length : Nat) : Int) = 6 + c.mu := by omega
      rw [this]; exact s2
    · have : (0 : Int) + ((thBase 6 ++ thAcks c.mu.toNat ++ thHeads 5).length : Int) = c.dqP := by simp only [List.length_append]; omega
      rw [this]; exact q1
    · have : (0 : Int) + ((thBase 6 ++ thAcks c.mu.toNat ++ thHeads 5 ++ thDeques c.dq.toNat c.mr.toNat).length : Int) = c.pkP := by simp only [List.length_append]; omega
      rw [this]; exact r1
    · have : (0 : Int) + ((thBase 6 ++ thAcks c.mu.toNat ++ thHeads 5 ++ thDeques c.dq.toNat c.mr.toNat ++ thPackets c.mn.toNat).length : Int) = c.n0P := by simp only [List.length_append]; omega
      rw [this]; exact t1
  · simp only [List.length_append]
    omega

theorem atOf_neg {c : Cfg} (h : CfgOk c) (t : Th) (hn : Norm t) : c.atOf t = -1 ∨ t ∈ c.things := by
  obtain ⟨k, a, b⟩ := t
  obtain ⟨⟨k0, k1⟩, ha, hb⟩ := hn
  dsimp only at k0 k1 ha hb
  have hbd := cfg_bd h
  have hmn := hbd.mn
  have hnd := hbd.nd
  have hdq := h.dq
  unfold Cfg.things
  simp only [List.mem_append]
  have hk : k ≤ 5 ∨ k = 6 ∨ k = 7 ∨ k = 8 ∨ k = 9 ∨ k = 10 ∨ k = 11 ∨ k = 12 ∨ k = 13 ∨ (14 ≤ k ∧ k ≤ 17) ∨ k = 18 := by omega
  rcases hk with hk | rfl | rfl | rfl | rfl | rfl | rfl | rfl | rfl | hk | rfl
  · obtain rfl := ha hk
    obtain rfl := hb (by omega)
    refine .inr (.inl (.inl (.inl (.inl (.inl ?_)))))
    exact List.mem_map.2 ⟨k.toNat, List.mem_range.2 (by omega), by congr 1; omega⟩
  · obtain rfl := hb (by omega)
    rw [atOf6]; unfold Cfg.ackAt
    by_cases q : 0 ≤ a ∧ a < c.mu
    · refine .inr (.inl (.inl (.inl (.inl (.inr ?_)))))
      exact List.mem_map.2 ⟨a.toNat, List.mem_range.2 (by omega), by congr 1; omega⟩
    · exact .inl (if_neg q)
  · obtain rfl := hb (by omega)
    rw [atOf7]; unfold Cfg.headAt
    by_cases q : 0 ≤ a ∧ a < 5
    · refine .inr (.inl (.inl (.inl (.inr ?_))))
      exact List.mem_map.2 ⟨a.toNat, List.mem_range.2 (by omega), by congr 1; omega⟩
    · exact .inl (if_neg q)
  · obtain rfl := hb (by omega)
    rw [atOf8]; unfold Cfg.endAt
    by_cases q : 0 ≤ a ∧ a < c.mr
    · refine .inr (.inl (.inl (.inr ?_)))
      refine List.mem_flatMap.2 ⟨a.toNat, List.mem_range.2 (by omega), ?_⟩
      unfold thDeque
      have e : (a.toNat : Int) = a := by omega
      rw [e]; simp
    · exact .inl (if_neg q)
  · obtain rfl := hb (by omega)
    rw [atOf9]; unfold Cfg.endAt
    by_cases q : 0 ≤ a ∧ a < c.mr
    · refine .inr (.inl (.inl (.inr ?_)))
      refine List.mem_flatMap.2 ⟨a.toNat, List.mem_range.2 (by omega), ?_⟩
      unfold thDeque
      have e : (a.toNat : Int) = a := by omega
      rw [e]; simp
    · exact .inl (if_neg q)
  · rw [atOf10]; unfold Cfg.entryAt Cfg.endAt
    by_cases q : 0 ≤ a ∧ a < c.mr
    · by_cases q2 : 0 ≤ b ∧ b < c.dq
      · refine .inr (.inl (.inl (.inr ?_)))
        refine List.mem_flatMap.2 ⟨a.toNat, List.mem_range.2 (by omega), List.mem_append.2 (.inr (List.mem_map.2 ⟨b.toNat, List.mem_range.2 (by omega), ?_⟩))⟩
        have e : (a.toNat : Int) = a := by omega
        have e2 : (b.toNat : Int) = b := by omega
        rw [e, e2]
      · exact .inl (if_neg q2)
    · refine .inl ?_
      split <;> first | rfl | exact if_neg q
  · obtain rfl := hb (by omega)
    rw [atOf11]; unfold Cfg.packAt
    by_cases q : 1 ≤ a ∧ a ≤ c.mn
    · refine .inr (.inl (.inr ?_))
      refine List.mem_flatMap.2 ⟨(a - 1).toNat, List.mem_range.2 (by omega), ?_⟩
      unfold thPacket
      have e : ((a - 1).toNat : Int) + 1 = a := by omega
      rw [e]; simp
    · exact .inl (if_neg q)
  · obtain rfl := hb (by omega)
    rw [atOf12]; unfold Cfg.packAt
    by_cases q : 1 ≤ a ∧ a ≤ c.mn
    · refine .inr (.inl (.inr ?_))
      refine List.mem_flatMap.2 ⟨(a - 1).toNat, List.mem_range.2 (by omega), ?_⟩
      unfold thPacket
      have e : ((a - 1).toNat : Int) + 1 = a := by omega
      rw [e]; simp
    · exact .inl (if_neg q)
  · rw [atOf13]; unfold Cfg.taskAt Cfg.packAt
    by_cases q : 1 ≤ a ∧ a ≤ c.mn
    · by_cases q2 : 0 ≤ b ∧ b < 4
      · refine .inr (.inl (.inr ?_))
        refine List.mem_flatMap.2 ⟨(a - 1).toNat, List.mem_range.2 (by omega), List.mem_append.2 (.inr (List.mem_map.2 ⟨b.toNat, List.mem_range.2 (by omega), ?_⟩))⟩
        have e : ((a - 1).toNat : Int) + 1 = a := by omega
        have e2 : (b.toNat : Int) = b := by omega
        rw [e, e2]
      · exact .inl (if_neg q2)
    · refine .inl ?_
      split <;> first | rfl | exact if_neg q
  · obtain rfl := hb (by omega)
    rw [atOfN _ _ _ hk.1 hk.2]; unfold Cfg.nodeAt
    by_cases q : 1 ≤ a ∧ a ≤ c.nd
    · refine .inr (.inr ?_)
      refine List.mem_flatMap.2 ⟨(a - 1).toNat, List.mem_range.2 (by omega), List.mem_append.2 (.inl (List.mem_map.2 ⟨(k - 14).toNat, List.mem_range.2 (by omega), ?_⟩))⟩
      have e : ((a - 1).toNat : Int) + 1 = a := by omega
      have e2 : 14 + ((k - 14).toNat : Int) = k := by omega
      rw [e, e2]
    · exact .inl (if_neg q)
  · rw [atOf18]; unfold Cfg.slotAt
    by_cases q : 1 ≤ a ∧ a ≤ c.nd
    · by_cases q2 : 0 ≤ b ∧ b < c.roomAt a
      · refine .inr (.inr ?_)
        have e : ((a - 1).toNat : Int) + 1 = a := by omega
        refine List.mem_flatMap.2 ⟨(a - 1).toNat, List.mem_range.2 (by omega), List.mem_append.2 (.inr (List.mem_map.2 ⟨b.toNat, List.mem_range.2 ?_, ?_⟩))⟩
        · rw [rooms_at _ (by omega), e]; omega
        · have e2 : (b.toNat : Int) = b := by omega
          rw [e, e2]
      · exact .inl (if_neg q2)
    · refine .inl ?_
      have : c.roomAt a = 0 := by unfold Cfg.roomAt; rw [if_neg q]
      rw [if_neg (by omega)]

/-- A thing is at the i-th place just if its place is i; it has none just if it is not among them. -/
theorem things_at {c : Cfg} (h : CfgOk c) (t : Th) (i : Nat) (ht : c.things[i]? = some t) : c.atOf t = i := by
  have := (things_seg h).1 i t ht
  omega
theorem things_none {c : Cfg} (h : CfgOk c) (t : Th) (hn : Norm t) (hno : ∀ i, i < c.things.length → c.things[i]? ≠ some t) : c.atOf t = -1 := by
  rcases atOf_neg h t hn with q | q
  · exact q
  · obtain ⟨i, hi⟩ := List.mem_iff_getElem?.1 q
    exact absurd hi (hno i (List.getElem?_eq_some_iff.1 hi).1)

end Go.Proofs.Ytmiaghbakdapbaa

/- The words as they are at first, thing by thing, in plain Lean. Condition: the configuration may be. -/
import Derived.Test.YtmiaghbakdapbaaThings5
set_option linter.unusedVariables false
set_option linter.unusedSimpArgs false
namespace Go.Proofs.Ytmiaghbakdapbaa
open Go.ChangeShapes Go.WideShapes Go.ChangeAt Go.RowKit

deriving instance DecidableEq for Th

/-- Of the last k nodes but one: the first one above lo of a class; 0: there is none. -/
def lst (c : Cfg) (q lo : Int) : Nat → Int
  | 0 => 0
  | k + 1 => if c.clsAt (c.nd - ((k + 1 : Nat) : Int)) = q ∧ lo < c.nd - ((k + 1 : Nat) : Int) then c.nd - ((k + 1 : Nat) : Int) else lst c q lo k

theorem lst_low (c : Cfg) (q : Int) : ∀ (k : Nat) (lo lo' : Int), lo < c.nd - k → lo' < c.nd - k → lst c q lo k = lst c q lo' k
  | 0, _, _, _, _ => rfl
  | k + 1, lo, lo', h, h' => by
    have ih := lst_low c q k lo lo' (by omega) (by omega)
    simp only [lst]
    rw [ih]
    by_cases e : c.clsAt (c.nd - ((k + 1 : Nat) : Int)) = q
    · rw [if_pos ⟨e, by omega⟩, if_pos ⟨e, by omega⟩]
    · rw [if_neg (fun h => e h.1), if_neg (fun h => e h.1)]

/-- The word of each thing. -/
def WordsAre (c : Cfg) (L : List Int) (g : Th → Int) : Prop := ∀ (i : Nat) t, c.things[i]? = some t → L[i]? = some (g t)

theorem words_set {c : Cfg} (h : CfgOk c) {L : List Int} {g : Th → Int} (H : WordsAre c L g) (s : Th) (hs : s ∈ c.things) (x : Int) : WordsAre c (L.set (c.atOf s).toNat x) (fun t => if t = s then x else g t) := by
  obtain ⟨p, hp⟩ := List.mem_iff_getElem?.1 hs
  have hat := things_at h s p hp
  have e : (c.atOf s).toNat = p := by omega
  rw [e]
  intro i t ht
  have hl := H p s hp
  by_cases q : p = i
  · subst q
    rw [ht] at hp; cases hp
    rw [List.getElem?_set_self (List.getElem?_eq_some_iff.1 hl).1]
    exact congrArg some (if_pos rfl).symm
  · rw [List.getElem?_set_ne q]
    refine (H i t ht).trans (congrArg some (if_neg ?_).symm)
    rintro rfl
    have := things_at h t i ht
    omega
theorem words_get {c : Cfg} (h : CfgOk c) {L : List Int} {g : Th → Int} (H : WordsAre c L g) (s : Th) (hs : s ∈ c.things) : L.getD (c.atOf s).toNat 0 = g s := by
  obtain ⟨p, hp⟩ := List.mem_iff_getElem?.1 hs
  have hat := things_at h s p hp
  have e : (c.atOf s).toNat = p := by omega
  rw [e, List.getD_eq_getElem?_getD, H p s hp]; rfl
theorem words_congr {c : Cfg} {L : List Int} {g g' : Th → Int} (H : WordsAre c L g) (e : ∀ t ∈ c.things, g t = g' t) : WordsAre c L g' := fun i t ht => by rw [← e t (List.mem_of_getElem? ht)]; exact H i t ht

/-- What is known of a thing's numbers. -/
structure ThOk (c : Cfg) (t : Th) : Prop where
  norm : Norm t
  head : t.k = 7 → 0 ≤ t.a ∧ t.a < 5
  pack : t.k = 12 → 1 ≤ t.a ∧ t.a ≤ c.mn
  node : 14 ≤ t.k ∧ t.k ≤ 17 → 1 ≤ t.a ∧ t.a ≤ c.nd
theorem things_ok {c : Cfg} (h : CfgOk c) (t : Th) (ht : t ∈ c.things) : ThOk c t := by
  have hnd := (cfg_bd h).nd
  have hmn := (cfg_bd h).mn
  unfold Cfg.things at ht
  simp only [List.mem_append, thBase, thAcks, thHeads, thDeques, thPackets, thNodes, List.mem_map, List.mem_flatMap, List.mem_range, thDeque, thPacket, thNode, thEntries, thTasks, thHeadsOf, thSlots, List.mem_cons, List.not_mem_nil, or_false] at ht
  rcases ht with ((((⟨k, hk, rfl⟩ | ⟨k, hk, rfl⟩) | ⟨k, hk, rfl⟩) | ⟨i, hi, (rfl | rfl) | ⟨j, hj, rfl⟩⟩) | ⟨p, hp, (rfl | rfl) | ⟨j, hj, rfl⟩⟩) | ⟨v, hv, ⟨k, hk, rfl⟩ | ⟨i, hi, rfl⟩⟩
  all_goals
    refine ⟨⟨?_, ?_, ?_⟩, ?_, ?_, ?_⟩
    all_goals dsimp only
    all_goals omega

theorem mem5 {c : Cfg} : (⟨5, 0, 0⟩ : Th) ∈ c.things := by
  unfold Cfg.things
  simp only [List.mem_append]
  exact .inl (.inl (.inl (.inl (.inl (List.mem_map.2 ⟨5, List.mem_range.2 (by omega), rfl⟩)))))
theorem mem_of {c : Cfg} (h : CfgOk c) (t : Th) (hn : Norm t) (hp : 0 ≤ c.atOf t) : t ∈ c.things := by
  rcases atOf_neg h t hn with q | q
  · omega
  · exact q
theorem mem_pack {c : Cfg} (h : CfgOk c) (p : Int) (h1 : 1 ≤ p) (h2 : p ≤ c.mn) : (⟨12, p, 0⟩ : Th) ∈ c.things := by
  refine mem_of h _ ⟨by dsimp only; omega, by dsimp only; omega, by dsimp only; omega⟩ ?_
  rw [atOf12]; unfold Cfg.packAt; rw [if_pos ⟨h1, h2⟩]
  have hb := cfg_bd h
  have := hb.pk; have := hb.dqP; have := h.mu
  omega
theorem mem_head {c : Cfg} (h : CfgOk c) (q : Int) (h1 : 0 ≤ q) (h2 : q < 5) : (⟨7, q, 0⟩ : Th) ∈ c.things := by
  refine mem_of h _ ⟨by dsimp only; omega, by dsimp only; omega, by dsimp only; omega⟩ ?_
  rw [atOf7]; unfold Cfg.headAt; rw [if_pos ⟨h1, h2⟩]
  have hb := cfg_bd h
  have := hb.hd; have := h.mu
  omega
theorem mem_node {c : Cfg} (h : CfgOk c) (k v : Int) (k1 : 14 ≤ k) (k2 : k ≤ 17) (h1 : 1 ≤ v) (h2 : v ≤ c.nd) : (⟨k, v, 0⟩ : Th) ∈ c.things := by
  refine mem_of h _ ⟨by dsimp only; omega, by dsimp only; omega, by dsimp only; omega⟩ ?_
  rw [atOfN _ _ _ k1 k2, nodeAt_j _ _ ⟨h1, h2⟩]
  have := nodeAt_bd h v ⟨h1, h2⟩
  have hb := cfg_bd h
  have := hb.n0; have := hb.pk; have := hb.dqP; have := h.mu
  omega

def gBase (t : Th) : Int := if t.k = 5 then 1 else 0
def gLink (n : Int) (t : Th) : Int := if t.k = 12 ∧ t.a ≤ n then t.a + 1 else gBase t
def gComm (c : Cfg) (t : Th) : Int := if t.k = 14 ∧ t.a = c.nd then c.roomAt c.nd else if t.k = 15 ∧ t.a = c.nd then 1 else gLink (c.mn - 1) t
def gNext (c : Cfg) (k : Nat) (t : Th) : Int := if t.k = 7 then lst c t.a 0 k else if t.k = 17 ∧ c.nd - k ≤ t.a ∧ t.a < c.nd then lst c (c.clsAt t.a) t.a k else gComm c t
/-- The word of a thing, as it is at first. -/
def gFirst (c : Cfg) (t : Th) : Int := gNext c (c.nd - 1).toNat t

theorem words_base {c : Cfg} (h : CfgOk c) : WordsAre c c.base gBase := by
  have hl := (things_seg h).2
  have H0 : WordsAre c (List.replicate c.all.toNat 0) (fun _ => 0) := fun i t ht => by
    have := (List.getElem?_eq_some_iff.1 ht).1
    rw [List.getElem?_replicate, if_pos (by omega)]
  have H1 := words_set h H0 ⟨5, 0, 0⟩ mem5 1
  rw [atOf_base 5 (by omega) (by omega)] at H1
  refine words_congr H1 fun t ht => ?_
  have ok := things_ok h t ht
  unfold gBase
  by_cases e : t.k = 5
  · rw [if_pos e, if_pos]
    obtain ⟨tk, ta, tb⟩ := t
    dsimp only at e
    subst e
    have := ok.norm.a (by dsimp only; omega)
    have := ok.norm.b (by dsimp only; omega)
    dsimp only at *
    simp_all
  · rw [if_neg e, if_neg (fun q => e (by rw [q]))]

theorem words_links {c : Cfg} (h : CfgOk c) : ∀ n : Nat, (n : Int) + 1 ≤ c.mn → WordsAre c (lnkF c c.base n) (gLink n)
  | 0, _ => words_congr (words_base h) fun t ht => by
    have ok := things_ok h t ht
    unfold gLink
    rw [if_neg]
    rintro ⟨e, q⟩
    have := ok.pack e
    omega
  | n + 1, hn => by
    have ih := words_links h n (by omega)
    have H1 := words_set h ih ⟨12, (n + 1 : Nat), 0⟩ (mem_pack h _ (by omega) (by omega)) ((n : Int) + 2)
    rw [atOf12] at H1
    refine words_congr H1 fun t ht => ?_
    have ok := things_ok h t ht
    unfold gLink
    by_cases e : t = ⟨12, (n + 1 : Nat), 0⟩
    · rw [if_pos e, e]; dsimp only; rw [if_pos ⟨rfl, Int.le_refl _⟩]; omega
    · rw [if_neg e]
      by_cases k12 : t.k = 12
      · have := ok.norm.b (by omega)
        have hne : t.a ≠ ((n + 1 : Nat) : Int) := by
          intro q
          apply e
          obtain ⟨tk, ta, tb⟩ := t
          dsimp only at *
          simp_all
        by_cases q : t.a ≤ n
        · rw [if_pos ⟨k12, q⟩, if_pos ⟨k12, by omega⟩]
        · rw [if_neg (fun r => q r.2), if_neg (fun r => q (by omega))]
      · rw [if_neg (fun r => k12 r.1), if_neg (fun r => k12 r.1)]

theorem words_comm {c : Cfg} (h : CfgOk c) : WordsAre c c.comm (gComm c) := by
  have hmn := (cfg_bd h).mn
  have hnd := (cfg_bd h).nd
  have e : ((c.mn - 1).toNat : Int) = c.mn - 1 := by omega
  have H0 := words_links h (c.mn - 1).toNat (by omega)
  rw [e] at H0
  have H1 := words_set h H0 ⟨15, c.nd, 0⟩ (mem_node h 15 _ (by omega) (by omega) hnd.1 (Int.le_refl _)) 1
  rw [atOfN _ _ _ (by omega) (by omega)] at H1
  have H2 := words_set h H1 ⟨14, c.nd, 0⟩ (mem_node h 14 _ (by omega) (by omega) hnd.1 (Int.le_refl _)) (c.roomAt c.nd)
  rw [atOfN _ _ _ (by omega) (by omega)] at H2
  refine words_congr H2 fun t ht => ?_
  have ok := things_ok h t ht
  unfold gComm
  by_cases a14 : t.k = 14 ∧ t.a = c.nd
  · have := ok.norm.b (by omega)
    rw [if_pos a14, if_pos]
    obtain ⟨tk, ta, tb⟩ := t
    dsimp only at *
    simp_all
  · rw [if_neg a14, if_neg (fun q => a14 (by rw [q]; exact ⟨rfl, rfl⟩))]
    by_cases a15 : t.k = 15 ∧ t.a = c.nd
    · have := ok.norm.b (by omega)
      rw [if_pos a15, if_pos]
      obtain ⟨tk, ta, tb⟩ := t
      dsimp only at *
      simp_all
    · rw [if_neg a15, if_neg (fun q => a15 (by rw [q]; exact ⟨rfl, rfl⟩))]

theorem gComm_next {c : Cfg} (v : Int) : gComm c ⟨17, v, 0⟩ = 0 := by simp [gComm, gLink, gBase]
theorem gComm_head {c : Cfg} (q : Int) : gComm c ⟨7, q, 0⟩ = 0 := by simp [gComm, gLink, gBase]

theorem words_next {c : Cfg} (h : CfgOk c) : ∀ k : Nat, (k : Int) + 1 ≤ c.nd → WordsAre c (nxtF c c.comm k) (gNext c k)
  | 0, _ => words_congr (words_comm h) fun t ht => by
    have ok := things_ok h t ht
    unfold gNext
    by_cases e : t.k = 7
    · rw [if_pos e]
      have := ok.norm.b (by omega)
      have e2 : t = ⟨7, t.a, 0⟩ := by
        obtain ⟨tk, ta, tb⟩ := t
        dsimp only at *
        simp_all
      rw [e2, gComm_head]; rfl
    · rw [if_neg e, if_neg]
      rintro ⟨_, q1, q2⟩
      omega
  | k + 1, hk => by
    have ih := words_next h k (by omega)
    have hnd := (cfg_bd h).nd
    obtain ⟨v, hv⟩ : ∃ v, v = c.nd - ((k + 1 : Nat) : Int) := ⟨_, rfl⟩
    have hv1 : 1 ≤ v ∧ v < c.nd := by omega
    have hq := clsAt_bd (c := c) v (by omega)
    have mh := mem_head h (c.clsAt v) hq.1 (by omega)
    have mn := mem_node h 17 v (by omega) (by omega) hv1.1 (by omega)
    have hget := words_get h ih ⟨7, c.clsAt v, 0⟩ mh
    rw [atOf7] at hget
    have H1 := words_set h ih ⟨17, v, 0⟩ mn ((nxtF c c.comm k).getD (c.headAt (c.clsAt v)).toNat 0)
    rw [atOfN _ _ _ (by omega) (by omega)] at H1
    have H2 := words_set h H1 ⟨7, c.clsAt v, 0⟩ mh v
    rw [atOf7] at H2
    have e : nxtF c c.comm (k + 1) = ((nxtF c c.comm k).set (c.nodeAt v (17 - 14)).toNat ((nxtF c c.comm k).getD (c.headAt (c.clsAt v)).toNat 0)).set (c.headAt (c.clsAt v)).toNat v := by
      simp only [nxtF]; rw [← hv]; rfl
    rw [e]
    refine words_congr H2 fun t ht => ?_
    have ok := things_ok h t ht
    rw [hget]
    have hg7 : gNext c k ⟨7, c.clsAt v, 0⟩ = lst c (c.clsAt v) 0 k := by simp [gNext]
    rw [hg7]
    by_cases k7 : t.k = 7
    · have hb := ok.norm.b (by omega)
      have e2 : t = ⟨7, t.a, 0⟩ := by
        obtain ⟨tk, ta, tb⟩ := t
        dsimp only at *
        simp_all
      have hg : ∀ k, gNext c k t = lst c t.a 0 k := fun k => by unfold gNext; rw [if_pos k7]
      rw [hg (k + 1)]
      simp only [lst]
      rw [← hv]
      by_cases e3 : c.clsAt v = t.a
      · rw [if_pos (by rw [e2, e3]), if_pos ⟨e3, by omega⟩]
      · rw [if_neg (fun r => e3 (by rw [r])), if_neg (fun r => by rw [r] at k7; have q7 : (17 : Int) = 7 := k7; omega), if_neg (fun r => e3 r.1), hg k]
    · by_cases k17 : t.k = 17
      · have hb := ok.norm.b (by omega)
        have ha := ok.node (by omega)
        have e2 : t = ⟨17, t.a, 0⟩ := by
          obtain ⟨tk, ta, tb⟩ := t
          dsimp only at *
          simp_all
        rw [if_neg (fun r => k7 (by rw [r]))]
        by_cases e3 : t.a = v
        · rw [if_pos (by rw [e2, e3])]
          unfold gNext
          rw [if_neg k7, if_pos ⟨k17, by omega, by omega⟩, e3]
          simp only [lst]
          rw [← hv, if_neg (fun r => by omega)]
          exact lst_low c _ k 0 v (by omega) (by omega)
        · rw [if_neg (fun r => e3 (by rw [r]))]
          unfold gNext
          rw [if_neg k7, if_neg k7]
          by_cases e4 : c.nd - (k : Int) ≤ t.a ∧ t.a < c.nd
          · rw [if_pos ⟨k17, e4.1, e4.2⟩, if_pos ⟨k17, by omega, e4.2⟩]
            simp only [lst]
            rw [← hv, if_neg (fun r => by omega)]
          · rw [if_neg (fun r => e4 r.2), if_neg]
            rintro ⟨_, r1, r2⟩
            omega
      · rw [if_neg (fun r => k7 (by rw [r])), if_neg (fun r => k17 (by rw [r]))]
        unfold gNext
        rw [if_neg k7, if_neg k7, if_neg (fun r => k17 r.1), if_neg (fun r => k17 r.1)]

theorem words_first {c : Cfg} (h : CfgOk c) : WordsAre c c.first (gFirst c) := by
  have hnd := (cfg_bd h).nd
  exact words_next h _ (by omega)

end Go.Proofs.Ytmiaghbakdapbaa

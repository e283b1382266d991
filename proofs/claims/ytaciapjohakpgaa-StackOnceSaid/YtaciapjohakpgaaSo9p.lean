/- StackOnce in plain Lean: three that put and take, step by step; each thing is at one place. Conditions: the invariant's. -/
import Derived.Test.YtaciapjohakpgaaChain9
set_option linter.unusedVariables false
set_option linter.unusedSimpArgs false
namespace Go.Proofs.Ytaciapjohakpgaa
open Go.ChangeShapes Go.WideShapes Go.ChangeAt Go.RowKit

/-- What is known of a machine: h the things that its owner has, p whether it puts. -/
structure MOk (M : List Int) (h : List Int) (p : Bool) (m : Mac) : Prop where
  ok : MacOk m
  hd : m.head = 0
  pc : 1 ≤ m.pc ∧ m.pc ≤ 6
  put : p = true → m.pc ≤ 3 ∧ h.head? = some m.item
  tak : p = false → 4 ≤ m.pc
  old : m.pc ≠ 1 → m.pc ≠ 4 → m.h / 4294967296 ≤ mld M 0 / 4294967296
  lk2 : m.pc = 2 ∨ m.pc = 3 → m.link = m.h % 4294967296
  lk3 : m.pc = 3 → mld M m.item % 4294967296 = m.link
  it5 : m.pc = 5 ∨ m.pc = 6 → m.item = m.h % 4294967296 ∧ m.item ≠ 0
  lk6 : m.pc = 6 → mld M 0 = m.h → mld M m.item % 4294967296 = m.link

structure SInv (t : Nat) (M R : List Int) (hs : List (List Int)) (ms : List (Option Mac)) (ps : List Bool) : Prop where
  len : M.length = 10
  ws : Ws M
  cnt : mld M 0 / 4294967296 ≤ t
  ch : Chain M 0 R
  l1 : hs.length = 3
  l2 : ms.length = 3
  l3 : ps.length = 3
  it : ∀ x ∈ hs.flatten ++ R, 1 ≤ x ∧ x ≤ 8
  nd : (hs.flatten ++ R).Nodup
  tot : (hs.flatten ++ R).length = 8
  mac : ∀ (k : Nat) m h p, ms[k]? = some (some m) → hs[k]? = some h → ps[k]? = some p → MOk M h p m

theorem three {α : Type} {l : List α} (h : l.length = 3) : ∃ a b c, l = [a, b, c] := by
  match l, h with
  | [a, b, c], _ => exact ⟨a, b, c, rfl⟩

/-- The list of k is changed: the whole is, up to order, what is left and the new list. -/
theorem flat_part {hs : List (List Int)} {k : Nat} {h : List Int} (hk : hs[k]? = some h) (h' : List Int) : ∃ X, hs.flatten.Perm (h ++ X) ∧ (hs.set k h').flatten.Perm (h' ++ X) := by
  induction hs generalizing k with
  | nil => simp at hk
  | cons a hs ih =>
    cases k with
    | zero =>
      simp at hk
      subst hk
      exact ⟨hs.flatten, by simp, by simp⟩
    | succ k =>
      obtain ⟨X, p1, p2⟩ := ih (k := k) (by simpa using hk)
      refine ⟨a ++ X, ?_, ?_⟩
      · simp only [List.flatten_cons]
        refine (List.Perm.append_left a p1).trans ?_
        rw [← List.append_assoc, ← List.append_assoc]
        exact List.Perm.append_right X List.perm_append_comm
      · simp only [List.set_cons_succ, List.flatten_cons]
        refine (List.Perm.append_left a p2).trans ?_
        rw [← List.append_assoc, ← List.append_assoc]
        exact List.Perm.append_right X List.perm_append_comm

/-- What two owners have is unlike. -/
theorem other_item {hs : List (List Int)} {k j : Nat} {h g : List Int} {R : List Int} (nd : (hs.flatten ++ R).Nodup) (hk : hs[k]? = some h) (hj : hs[j]? = some g) (hne : j ≠ k) {x : Int} (hx : x ∈ h) : x ∉ g := by
  obtain ⟨X, p1, p2⟩ := flat_part hk []
  have hn : (h ++ X).Nodup := (p1.nodup_iff).1 (List.nodup_append.1 nd).1
  intro hg
  have : g ∈ (hs.set k []) := List.mem_of_getElem? (by rw [List.getElem?_set_ne (Ne.symm hne)]; exact hj)
  have hm : x ∈ (hs.set k []).flatten := List.mem_flatten.2 ⟨g, this, hg⟩
  have hm2 := p2.subset hm
  simp only [List.nil_append] at hm2
  exact (List.nodup_append.1 hn).2.2 x hx x hm2 rfl

theorem head_mem {h : List Int} {x : Int} (e : h.head? = some x) : x ∈ h := by
  cases h with
  | nil => cases e
  | cons a l => simp at e; subst e; simp

theorem sinv_bd {t : Nat} {M R : List Int} {hs : List (List Int)} {ms : List (Option Mac)} {ps : List Bool} (I : SInv t M R hs ms ps) {k : Nat} {h : List Int} (hk : hs[k]? = some h) {x : Int} (hx : x ∈ h) : (1 ≤ x ∧ x ≤ 8) ∧ x ∉ R := by
  have hm : x ∈ hs.flatten := List.mem_flatten.2 ⟨h, List.mem_of_getElem? hk, hx⟩
  refine ⟨I.it x (List.mem_append_left _ hm), fun hr => ?_⟩
  exact (List.nodup_append.1 I.nd).2.2 x hm x hr rfl

theorem set_opt {α : Type} {l : List α} {k j : Nat} {x y : α} (h : (l.set k x)[j]? = some y) : (j = k ∧ y = x) ∨ (j ≠ k ∧ l[j]? = some y) := by
  by_cases e : k = j
  · subst e
    have hl : k < l.length := by
      have := (List.getElem?_eq_some_iff.1 h).1
      simpa using this
    rw [List.getElem?_set_self hl] at h
    exact .inl ⟨rfl, (Option.some.inj h).symm⟩
  · rw [List.getElem?_set_ne e] at h
    exact .inr ⟨fun q => e q.symm, h⟩

/-- Memory is as it was, but for a word that matters to no other machine. -/
theorem mok_keep {M M' : List Int} {h : List Int} {p : Bool} {m : Mac} (K : MOk M h p m) (hc : mld M 0 / 4294967296 ≤ mld M' 0 / 4294967296) (hi : m.pc = 3 → mld M' m.item % 4294967296 = mld M m.item % 4294967296)
    (h6 : m.pc = 6 → mld M' 0 = m.h → mld M 0 = m.h ∧ mld M' m.item % 4294967296 = mld M m.item % 4294967296) : MOk M' h p m :=
  ⟨K.ok, K.hd, K.pc, K.put, K.tak, fun a b => by have := K.old a b; omega, K.lk2, fun e => by rw [hi e]; exact K.lk3 e, K.it5, fun e e' => by
    obtain ⟨a, b⟩ := h6 e e'
    rw [b]; exact K.lk6 e a⟩

theorem wTurn_cnt {h l : Int} (h0 : 0 ≤ h) (hb : h / 4294967296 < 4294967295) (l0 : 0 ≤ l) (l1 : l < 4294967296) : wTurn h l / 4294967296 = h / 4294967296 + 1 := by
  rw [wTurn_high _ _ l0 l1]; omega

/-- A machine begins. -/
theorem so_push {t : Nat} {M R : List Int} {hs : List (List Int)} {ms : List (Option Mac)} {ps : List Bool} (I : SInv t M R hs ms ps) {k : Nat} {h : List Int} {x : Int} (hk : hs[k]? = some h) (hx : h.head? = some x) : SInv t M R hs (ms.set k (some (pushM 0 x))) (ps.set k true) := by
  have hb := (sinv_bd I hk (head_mem hx)).1
  have ei : itemOf x = x := by unfold itemOf; rw [if_pos (by omega)]
  refine ⟨I.len, I.ws, I.cnt, I.ch, I.l1, by rw [List.length_set]; exact I.l2, by rw [List.length_set]; exact I.l3, I.it, I.nd, I.tot, fun j m g p hm hg hp => ?_⟩
  rcases set_opt hm with ⟨rfl, e⟩ | ⟨hne, hm'⟩
  · cases e
    rcases set_opt hp with ⟨_, rfl⟩ | ⟨q, _⟩
    · rw [hk] at hg
      cases hg
      refine ⟨pushM_ok 0 x, rfl, by simp [pushM], fun _ => ⟨by simp [pushM], by simp only [pushM]; rw [ei]; exact hx⟩, (fun q => by cases q), (fun q => absurd rfl q), (fun q => by simp [pushM] at q), (fun q => by simp [pushM] at q), (fun q => by simp [pushM] at q), (fun q => by simp [pushM] at q)⟩
    · exact absurd rfl q
  · rcases set_opt hp with ⟨q, _⟩ | ⟨_, hp'⟩
    · exact absurd q hne
    · exact I.mac j m g p hm' hg hp'

theorem so_pop {t : Nat} {M R : List Int} {hs : List (List Int)} {ms : List (Option Mac)} {ps : List Bool} (I : SInv t M R hs ms ps) (k : Nat) : SInv t M R hs (ms.set k (some (popM 0))) (ps.set k false) := by
  refine ⟨I.len, I.ws, I.cnt, I.ch, I.l1, by rw [List.length_set]; exact I.l2, by rw [List.length_set]; exact I.l3, I.it, I.nd, I.tot, fun j m g p hm hg hp => ?_⟩
  rcases set_opt hm with ⟨rfl, e⟩ | ⟨hne, hm'⟩
  · cases e
    rcases set_opt hp with ⟨_, rfl⟩ | ⟨q, _⟩
    · refine ⟨popM_ok 0, rfl, by simp [popM], (fun q => by cases q), fun _ => by simp [popM], (fun _ q => absurd rfl q), (fun q => by simp [popM] at q), (fun q => by simp [popM] at q), (fun q => by simp [popM] at q), (fun q => by simp [popM] at q)⟩
    · exact absurd rfl q
  · rcases set_opt hp with ⟨q, _⟩ | ⟨_, hp'⟩
    · exact absurd q hne
    · exact I.mac j m g p hm' hg hp'

/-- What a step comes to. -/
inductive SEnd (t : Nat) (M R : List Int) (hs : List (List Int)) (ms : List (Option Mac)) (ps : List Bool) (k : Nat) (h : List Int) (p : Bool) (m : Mac) : Prop
  | on : m.pc ≠ 0 → SInv t M R hs (ms.set k (some m)) ps → SEnd t M R hs ms ps k h p m
  | put (tl R' : List Int) : m.pc = 0 → p = true → h = m.item :: tl → SInv t M R' (hs.set k tl) (ms.set k none) ps → SEnd t M R hs ms ps k h p m
  | none : m.pc = 0 → p = false → m.item = 0 → SInv t M R hs (ms.set k none) ps → SEnd t M R hs ms ps k h p m
  | got (R' : List Int) : m.pc = 0 → p = false → m.item ≠ 0 → SInv t M R' (hs.set k (h ++ [m.item])) (ms.set k none) ps → SEnd t M R hs ms ps k h p m

section
variable {t : Nat} {M R : List Int} {hs : List (List Int)} {ms : List (Option Mac)} {ps : List Bool} (I : SInv t M R hs ms ps) {k : Nat} {m : Mac} {h : List Int} {p : Bool} (hm : ms[k]? = some (some m)) (hk : hs[k]? = some h) (hp : ps[k]? = some p)
include I hm hk hp

/-- Memory, lists and owners stay; the machine goes on. -/
theorem so_on (m' : Mac) (K : MOk M h p m') : SInv (t + 1) M R hs (ms.set k (some m')) ps := by
  refine ⟨I.len, I.ws, by have := I.cnt; omega, I.ch, I.l1, by rw [List.length_set]; exact I.l2, I.l3, I.it, I.nd, I.tot, fun j x g q hx hg hq => ?_⟩
  rcases set_opt hx with ⟨rfl, e⟩ | ⟨hne, hx'⟩
  · cases e
    rw [hk] at hg; cases hg
    rw [hp] at hq; cases hq
    exact K
  · exact I.mac j x g q hx' hg hq

theorem so_off : SInv (t + 1) M R hs (ms.set k none) ps := by
  refine ⟨I.len, I.ws, by have := I.cnt; omega, I.ch, I.l1, by rw [List.length_set]; exact I.l2, I.l3, I.it, I.nd, I.tot, fun j x g q hx hg hq => ?_⟩
  rcases set_opt hx with ⟨rfl, e⟩ | ⟨hne, hx'⟩
  · cases e
  · exact I.mac j x g q hx' hg hq

/-- The head is turned: the list and one owner's things are others. -/
theorem so_turn (hb : (t : Int) < 1000000) (low : Int) (l0 : 0 ≤ low) (l1 : low < 4294967296) (R' h' : List Int) (hc : Chain (mput M 0 (wTurn (mld M 0) low)) 0 R') (X : List Int) (p1 : (hs.flatten ++ R).Perm ((hs.set k h').flatten ++ R')) : SInv (t + 1) (mput M 0 (wTurn (mld M 0) low)) R' (hs.set k h') (ms.set k none) ps := by
  have hr : (0 : Int) ≤ 0 ∧ (0 : Int) < M.length := by rw [I.len]; omega
  obtain ⟨w0, w1⟩ := ws_mld I.ws 0
  have hcn := I.cnt
  have e0 : mld (mput M 0 (wTurn (mld M 0) low)) 0 = wTurn (mld M 0) low := mld_mput_same hr _
  have e1 := wTurn_cnt w0 (by omega) l0 l1
  obtain ⟨t0, t1⟩ := wTurn_ok (mld M 0) low l0 l1
  refine ⟨by rw [mput_length]; exact I.len, ws_mput I.ws _ _ t0 t1, by rw [e0, e1]; omega, hc, by rw [List.length_set]; exact I.l1, by rw [List.length_set]; exact I.l2, I.l3, fun x hx => I.it x (p1.symm.subset hx), p1.nodup_iff.1 I.nd, by rw [← p1.length_eq]; exact I.tot, fun j x g q hx hg hq => ?_⟩
  rcases set_opt hx with ⟨rfl, e⟩ | ⟨hne, hx'⟩
  · cases e
  · rcases set_opt hg with ⟨e, _⟩ | ⟨_, hg'⟩
    · exact absurd e hne
    · have K := I.mac j x g q hx' hg' hq
      refine mok_keep K (by rw [e0, e1]; omega) (fun e => ?_) (fun e e' => ?_)
      · have hpt : q = true := by
          cases q with
          | true => rfl
          | false => have := K.tak rfl; omega
        have hxb := (sinv_bd I hg' (head_mem (K.put hpt).2)).1
        rw [mld_mput_ne _ _ _ _ (by omega)]
      · exfalso
        have := K.old (by omega) (by omega)
        rw [e0] at e'
        rw [← e', e1] at this
        omega
end

theorem cons_of_head {h : List Int} {x : Int} (e : h.head? = some x) : ∃ tl, h = x :: tl := by
  cases h with
  | nil => cases e
  | cons a l => simp at e; exact ⟨l, by rw [e]⟩

theorem so_step {t : Nat} {M R : List Int} {hs : List (List Int)} {ms : List (Option Mac)} {ps : List Bool} (I : SInv t M R hs ms ps) (hb : (t : Int) < 1000000) {k : Nat} {m : Mac} {h : List Int} {p : Bool} (hm : ms[k]? = some (some m)) (hk : hs[k]? = some h) (hp : ps[k]? = some p) :
    SEnd (t + 1) (mstep (rowL 9) M m).1 R hs ms ps k h p (mstep (rowL 9) M m).2 := by
  have K := I.mac k m h p hm hk hp
  obtain ⟨hd, it, hh, pc, lk, tr⟩ := m
  obtain ⟨ok, hd0, pcb, put, tak, old, lk2, lk3, it5, lk6⟩ := K
  dsimp only at hd0 pcb put tak old lk2 lk3 it5 lk6
  subst hd0
  obtain ⟨o1, o2, o3, o4, o5, o6⟩ := ok
  dsimp only at o1 o2 o3 o4 o5 o6
  obtain ⟨w0, w1⟩ := ws_mld I.ws 0
  have hr : (0 : Int) ≤ 0 ∧ (0 : Int) < M.length := by rw [I.len]; omega
  have hcn := I.cnt
  match pc, pcb with
  | 1, _ =>
    have hpt : p = true := by
      cases p with
      | true => rfl
      | false => have := tak rfl; omega
    have e : mstep (rowL 9) M ⟨0, it, hh, 1, lk, tr⟩ = (M, ⟨0, it, mld M 0, 2, mld M 0 % 4294967296, wrap64 (tr + 1)⟩) := rfl
    rw [e]
    exact .on (by dsimp only; omega) (so_on I hm hk hp _ ⟨⟨o1, o2, w0, w1, by dsimp only; omega, by dsimp only; omega⟩, rfl, by dsimp only; omega, fun q => ⟨by dsimp only; omega, (put q).2⟩, (fun q => by rw [hpt] at q; cases q), fun _ _ => Int.le_refl _, fun _ => rfl, (fun q => by dsimp only at q; omega), (fun q => by dsimp only at q; omega), (fun q => by dsimp only at q; omega)⟩)
  | 2, _ =>
    have hpt : p = true := by
      cases p with
      | true => rfl
      | false => have := tak rfl; omega
    have hxm := head_mem (put hpt).2
    obtain ⟨hxb, hxr⟩ := sinv_bd I hk hxm
    have el : lkAt (rowL 9) it = it := lkrow 9 it ⟨hxb.1, by omega⟩
    have e : mstep (rowL 9) M ⟨0, it, hh, 2, lk, tr⟩ = (mput M (lkAt (rowL 9) it) lk, ⟨0, it, hh, 3, lk, tr⟩) := rfl
    rw [e, el]
    have hri : (0 : Int) ≤ it ∧ it < M.length := by rw [I.len]; omega
    have e0 : mld (mput M it lk) 0 = mld M 0 := mld_mput_ne _ _ _ _ (by omega)
    refine .on (by dsimp only; omega) ⟨by rw [mput_length]; exact I.len, ws_mput I.ws _ _ o5 (by omega), by rw [e0]; omega, ?_, I.l1, by rw [List.length_set]; exact I.l2, I.l3, I.it, I.nd, I.tot, fun j x g q hx hg hq => ?_⟩
    · refine chain_congr R 0 0 I.ch (by rw [e0]) fun y hy => ?_
      rw [mld_mput_ne _ _ _ _ (by rintro rfl; exact hxr hy)]
    · rcases set_opt hx with ⟨rfl, e⟩ | ⟨hne, hx'⟩
      · cases e
        rw [hk] at hg; cases hg
        rw [hp] at hq; cases hq
        have elk := lk2 (.inl rfl)
        refine ⟨⟨o1, o2, o3, o4, o5, o6⟩, rfl, by dsimp only; omega, fun q => ⟨by dsimp only; omega, (put q).2⟩, (fun q => by rw [hpt] at q; cases q), fun _ _ => by rw [e0]; exact old (by omega) (by omega), fun _ => elk, fun _ => by dsimp only; rw [mld_mput_same hri]; omega, (fun q => by dsimp only at q; omega), (fun q => by dsimp only at q; omega)⟩
      · have K := I.mac j x g q hx' hg hq
        refine mok_keep K (by rw [e0]; omega) (fun e => ?_) (fun e e' => ⟨by rw [← e0]; exact e', ?_⟩)
        · have hqt : q = true := by
            cases q with
            | true => rfl
            | false => have := K.tak rfl; omega
          have := other_item I.nd hk hg hne hxm
          rw [mld_mput_ne _ _ _ _ (show it ≠ x.item from fun q => this (by rw [q]; exact head_mem (K.put hqt).2))]
        · rw [e0] at e'
          obtain ⟨i1, i2⟩ := K.it5 (.inr e)
          have htop := chain_top I.ch
          rw [e', ← i1] at htop
          have hin : x.item ∈ R := by
            cases R with
            | nil => simp at htop; exact absurd htop i2
            | cons a l => simp at htop; rw [htop]; simp
          rw [mld_mput_ne _ _ _ _ (show it ≠ x.item from fun q => hxr (by rw [q]; exact hin))]
  | 3, _ =>
    have hpt : p = true := by
      cases p with
      | true => rfl
      | false => have := tak rfl; omega
    have hxm := head_mem (put hpt).2
    obtain ⟨hxb, hxr⟩ := sinv_bd I hk hxm
    have e : mstep (rowL 9) M ⟨0, it, hh, 3, lk, tr⟩ = (mswap M 0 hh (wTurn hh it), ⟨0, it, hh, pcIf (mswapped M 0 hh) 1, lk, tr⟩) := rfl
    rw [e]
    by_cases he : mld M 0 = hh
    · subst he
      obtain ⟨s1, s2⟩ := mswap_yes' hr (wTurn (mld M 0) it)
      rw [s1, s2]
      obtain ⟨tl, htl⟩ := cons_of_head (put hpt).2
      subst htl
      have elk := lk2 (.inr rfl)
      have el3 := lk3 rfl
      obtain ⟨X, p1, p2⟩ := flat_part hk tl
      refine .put tl (it :: R) rfl hpt rfl (so_turn I hm hk hp hb it (by omega) (by omega) (it :: R) tl ⟨by rw [mld_mput_same hr, wTurn_low _ _ (by omega) (by omega)], ?_⟩ X ?_)
      · refine chain_congr R 0 it I.ch ?_ fun y hy => ?_
        · rw [mld_mput_ne _ _ _ _ (by omega), el3, elk]
        · have := I.it y (List.mem_append_right _ hy)
          rw [mld_mput_ne _ _ _ _ (by omega)]
      · refine (List.Perm.append_right R p1).trans ?_
        refine List.Perm.trans ?_ (List.Perm.append_right (it :: R) p2.symm)
        simp only [List.cons_append, List.append_assoc]
        rw [← List.append_assoc, ← List.append_assoc]
        exact List.perm_middle.symm
    · obtain ⟨s1, s2⟩ := mswap_no hr he (wTurn hh it)
      rw [s1, s2]
      exact .on (by simp [pcIf]) (so_on I hm hk hp _ ⟨⟨o1, o2, o3, o4, o5, o6⟩, rfl, by simp [pcIf], fun q => ⟨by simp [pcIf], (put q).2⟩, (fun q => by rw [hpt] at q; cases q), (fun q => absurd rfl q), (fun q => by simp [pcIf] at q), (fun q => by simp [pcIf] at q), (fun q => by simp [pcIf] at q), (fun q => by simp [pcIf] at q)⟩)
  | 4, _ =>
    have hpf : p = false := by
      cases p with
      | false => rfl
      | true => have := (put rfl).1; omega
    have e : mstep (rowL 9) M ⟨0, it, hh, 4, lk, tr⟩ = (M, ⟨0, mld M 0 % 4294967296, mld M 0, pcIf (mld M 0 % 4294967296 == 0) 5, lk, wrap64 (tr + 1)⟩) := rfl
    rw [e]
    by_cases hz : mld M 0 % 4294967296 = 0
    · rw [hz]
      exact .none rfl hpf rfl (so_off I hm hk hp)
    · have hzf : (mld M 0 % 4294967296 == 0) = false := by simpa using hz
      rw [hzf]
      exact .on (by simp [pcIf]) (so_on I hm hk hp _ ⟨⟨by dsimp only; omega, by dsimp only; omega, w0, w1, o5, o6⟩, rfl, by simp [pcIf], (fun q => by rw [hpf] at q; cases q), fun _ => by simp [pcIf], fun _ _ => Int.le_refl _, (fun q => by simp [pcIf] at q), (fun q => by simp [pcIf] at q), fun _ => ⟨rfl, hz⟩, (fun q => by simp [pcIf] at q)⟩)
  | 5, _ =>
    have hpf : p = false := by
      cases p with
      | false => rfl
      | true => have := (put rfl).1; omega
    have e : mstep (rowL 9) M ⟨0, it, hh, 5, lk, tr⟩ = (M, ⟨0, it, hh, 6, mld M (lkAt (rowL 9) it) % 4294967296, tr⟩) := rfl
    rw [e]
    obtain ⟨i1, i2⟩ := it5 (.inl rfl)
    refine .on (by simp) (so_on I hm hk hp _ ⟨⟨o1, o2, o3, o4, by dsimp only; omega, by dsimp only; omega⟩, rfl, by dsimp only; omega, (fun q => by rw [hpf] at q; cases q), fun _ => by dsimp only; omega, fun _ _ => old (by omega) (by omega), (fun q => by dsimp only at q; omega), (fun q => by dsimp only at q; omega), fun _ => ⟨i1, i2⟩, fun _ e' => ?_⟩)
    dsimp only at e' ⊢
    have htop := chain_top I.ch
    rw [e', ← i1] at htop
    have hin : it ∈ R := by
      cases R with
      | nil => simp at htop; exact absurd htop i2
      | cons a l => simp at htop; rw [htop]; simp
    have := I.it it (List.mem_append_right _ hin)
    rw [lkrow 9 it ⟨this.1, by omega⟩]
  | 6, _ =>
    have hpf : p = false := by
      cases p with
      | false => rfl
      | true => have := (put rfl).1; omega
    have e : mstep (rowL 9) M ⟨0, it, hh, 6, lk, tr⟩ = (mswap M 0 hh (wTurn hh lk), ⟨0, it, hh, pcIf (mswapped M 0 hh) 4, lk, tr⟩) := rfl
    rw [e]
    obtain ⟨i1, i2⟩ := it5 (.inr rfl)
    by_cases he : mld M 0 = hh
    · have el6 := lk6 rfl he
      subst he
      obtain ⟨s1, s2⟩ := mswap_yes' hr (wTurn (mld M 0) lk)
      rw [s1, s2]
      have htop := chain_top I.ch
      rw [← i1] at htop
      obtain ⟨R', rfl⟩ : ∃ R', R = it :: R' := by
        cases R with
        | nil => simp at htop; exact absurd htop i2
        | cons a l => simp at htop; exact ⟨l, by rw [htop]⟩
      obtain ⟨X, p1, p2⟩ := flat_part hk (h ++ [it])
      have hc2 : Chain (mput M 0 (wTurn (mld M 0) lk)) 0 R' := by
        have := chain_pop M I.len R' it I.ch fun y hy => I.it y (List.mem_append_right _ hy)
        rw [el6] at this
        exact this
      refine .got R' rfl hpf i2 (so_turn I hm hk hp hb lk o5 o6 R' (h ++ [it]) hc2 X ?_)
      refine (List.Perm.append_right _ p1).trans ?_
      refine List.Perm.trans ?_ (List.Perm.append_right R' p2.symm)
      simp only [List.append_assoc, List.singleton_append]
      refine List.Perm.append_left h ?_
      exact List.perm_middle
    · obtain ⟨s1, s2⟩ := mswap_no hr he (wTurn hh lk)
      rw [s1, s2]
      exact .on (by simp [pcIf]) (so_on I hm hk hp _ ⟨⟨o1, o2, o3, o4, o5, o6⟩, rfl, by simp [pcIf], (fun q => by rw [hpf] at q; cases q), fun _ => by simp [pcIf], (fun _ q => absurd rfl q), (fun q => by simp [pcIf] at q), (fun q => by simp [pcIf] at q), (fun q => by simp [pcIf] at q), (fun q => by simp [pcIf] at q)⟩)

theorem so_wait {t : Nat} {M R : List Int} {hs : List (List Int)} {ms : List (Option Mac)} {ps : List Bool} (I : SInv t M R hs ms ps) : SInv (t + 1) M R hs ms ps :=
  ⟨I.len, I.ws, by have := I.cnt; omega, I.ch, I.l1, I.l2, I.l3, I.it, I.nd, I.tot, I.mac⟩

/-- At first. -/
theorem so_first : SInv 0 (List.replicate 10 0) [] [[1, 2, 3], [4, 5], [6, 7, 8]] [none, none, none] [false, false, false] := by
  refine ⟨rfl, ?_, by decide +kernel, (show mld (List.replicate 10 0) 0 % 4294967296 = 0 by decide +kernel), rfl, rfl, rfl, by decide, by decide, rfl, fun k m h p hm => ?_⟩
  · intro x hx
    rw [(List.mem_replicate.1 hx).2]; omega
  · have := List.mem_of_getElem? hm
    simp at this

/-- What the Walk tells. -/
theorem so_walk {t : Nat} {M R : List Int} {hs : List (List Int)} {ms : List (Option Mac)} {ps : List Bool} (I : SInv t M R hs ms ps) : walkF (rowL 9) M 20 0 = R := by
  have hl : R.length ≤ 8 := by have := I.tot; rw [List.length_append] at this; omega
  exact walk_chain M I.len R 20 0 I.ch (fun x hx => I.it x (List.mem_append_right _ hx)) (by omega) (by omega)

end Go.Proofs.Ytaciapjohakpgaa

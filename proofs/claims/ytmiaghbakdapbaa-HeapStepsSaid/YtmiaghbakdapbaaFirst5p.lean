/- The words as they are at first, in plain Lean. No condition but that the configuration may be. -/
import Derived.Test.YtmiaghbakdapbaaMeth5
set_option linter.unusedVariables false
set_option linter.unusedSimpArgs false
namespace Go.Proofs.Ytmiaghbakdapbaa
open Go.ChangeShapes Go.WideShapes Go.ChangeAt Go.RowKit

theorem Has.mAt {w0 w : World} {cs : List (Chunk w0.heap.size)} (H : Has w0 w cs) (i : Nat) {mb : Nat} {av rv : Value} {c : Cfg} (hi : cs[i]? = some (mapC _ mb av rv c)) (h : CfgOk c) : MapAt w mb c := ⟨h, av, rv, H.get i hi⟩

theorem rSum_take_snoc (l : List Int) (i : Nat) (x : Int) (h : l[i]? = some x) : rSum (l.take (i + 1)) = rSum (l.take i) + (4 + x) := by
  rw [take_snoc1 l i x h, rSum_snoc]

/-- Where a node's words begin, and that they end ahead of the next one's. -/
theorem nodeAt_is {c : Cfg} (v : Int) (h : 1 ≤ v ∧ v ≤ c.nd) : c.nodeAt v 0 = c.n0P + rSum (c.rooms.take (v.toNat - 1)) := by
  have h1 := ats_get v h
  have hl := rooms_len (c := c)
  unfold Cfg.ats at h1
  rw [atsF_get _ _ _ (by omega)] at h1
  exact (Option.some.inj h1).symm

theorem nodeAt_end {c : Cfg} (v : Int) (h : 1 ≤ v ∧ v ≤ c.nd) : c.nodeAt v 0 + (4 + c.roomAt v) = c.n0P + rSum (c.rooms.take v.toNat) := by
  rw [nodeAt_is v h]
  have := rSum_take_snoc c.rooms (v.toNat - 1) _ (room_get v h)
  have e : v.toNat - 1 + 1 = v.toNat := by omega
  rw [e] at this
  omega

theorem nodeAt_hi {c : Cfg} (v : Int) (h : 1 ≤ v ∧ v ≤ c.nd) : c.nodeAt v 0 + (4 + c.roomAt v) ≤ c.all := by
  rw [nodeAt_end v h]
  have h4 := rSum_take_le c.rooms v.toNat (rooms_bd c)
  have e7 : c.all = c.n0P + rSum c.rooms := rfl
  omega

def Cfg.clsAt (c : Cfg) (v : Int) : Int := sClass c.c0 c.c1 c.c2 c.c3 c.c4 v
theorem sClass_bd (c0 c1 c2 c3 c4 v : Int) : -1 ≤ sClass c0 c1 c2 c3 c4 v ∧ sClass c0 c1 c2 c3 c4 v ≤ 4 := by
  unfold sClass; repeat' split <;> omega
theorem clsAt_bd {c : Cfg} (v : Int) (h : 1 ≤ v ∧ v ≤ c.nd) : 0 ≤ c.clsAt v ∧ c.clsAt v ≤ 4 := by
  have h1 := cells_class c.c0 c.c1 c.c2 c.c3 c.c4 v h.1 h.2
  have h2 := sClass_bd c.c0 c.c1 c.c2 c.c3 c.c4 v
  refine ⟨?_, h2.2⟩
  rw [cPre5] at h1
  have h3 := List.mem_of_getElem? h1
  simp only [List.mem_append, List.mem_replicate] at h3
  show 0 ≤ sClass _ _ _ _ _ _
  omega

/-- The packets' links, of the first n. -/
def lnkF (c : Cfg) (l : List Int) : Nat → List Int
  | 0 => l
  | n + 1 => (lnkF c l n).set (c.packAt (n + 1 : Nat) 1).toNat ((n : Int) + 2)
/-- The lists of free cells: the last k nodes but one. -/
def nxtF (c : Cfg) (l : List Int) : Nat → List Int
  | 0 => l
  | k + 1 =>
    let l' := nxtF c l k
    let v := c.nd - (k + 1 : Nat)
    let h := (c.headAt (c.clsAt v)).toNat
    (l'.set (c.nodeAt v 3).toNat (l'.getD h 0)).set h v
def Cfg.base (c : Cfg) : List Int := (List.replicate c.all.toNat 0).set 5 1
def Cfg.links (c : Cfg) : List Int := lnkF c c.base (c.mn - 1).toNat
def Cfg.comm (c : Cfg) : List Int := (c.links.set (c.nodeAt c.nd 1).toNat 1).set (c.nodeAt c.nd 0).toNat (c.roomAt c.nd)
/-- All words as they are at first. -/
def Cfg.first (c : Cfg) : List Int := nxtF c c.comm (c.nd - 1).toNat

theorem lnkF_len (c : Cfg) (l : List Int) : ∀ n, (lnkF c l n).length = l.length
  | 0 => rfl
  | n + 1 => by simp only [lnkF, List.length_set]; exact lnkF_len c l n
theorem nxtF_len (c : Cfg) (l : List Int) : ∀ n, (nxtF c l n).length = l.length
  | 0 => rfl
  | n + 1 => by simp only [nxtF, List.length_set]; exact nxtF_len c l n
theorem base_len (c : Cfg) : c.base.length = c.all.toNat := by unfold Cfg.base; simp
theorem links_len (c : Cfg) : c.links.length = c.all.toNat := by unfold Cfg.links; rw [lnkF_len, base_len]
theorem comm_len (c : Cfg) : c.comm.length = c.all.toNat := by unfold Cfg.comm; simp [links_len]
theorem first_len (c : Cfg) : c.first.length = c.all.toNat := by unfold Cfg.first; rw [nxtF_len, comm_len]

/-- Words that are small. -/
def Small (l : List Int) : Prop := ∀ x ∈ l, 0 ≤ x ∧ x ≤ 2000
theorem Small.set {l : List Int} (h : Small l) (i : Nat) (x : Int) (hx : 0 ≤ x ∧ x ≤ 2000) : Small (l.set i x) := by
  intro y hy
  rcases List.mem_or_eq_of_mem_set hy with hm | rfl
  · exact h y hm
  · exact hx
theorem Small.getD {l : List Int} (h : Small l) (i : Nat) : 0 ≤ l.getD i 0 ∧ l.getD i 0 ≤ 2000 := by
  rw [List.getD_eq_getElem?_getD]
  cases e : l[i]? with
  | none => simp
  | some x => exact h x (List.mem_of_getElem? e)
theorem base_small (c : Cfg) : Small c.base := by
  unfold Cfg.base
  refine Small.set ?_ _ _ (by omega)
  intro x hx
  rw [List.mem_replicate] at hx
  omega
theorem lnkF_small (c : Cfg) {l : List Int} (h : Small l) : ∀ n : Nat, n ≤ 1900 → Small (lnkF c l n)
  | 0, _ => h
  | n + 1, hn => (lnkF_small c h n (by omega)).set _ _ (by omega)
theorem nxtF_small (c : Cfg) {l : List Int} (h : Small l) (hn : c.nd ≤ 60) : ∀ k : Nat, (k : Int) ≤ c.nd → Small (nxtF c l k)
  | 0, _ => h
  | k + 1, hk => by
    have ih := nxtF_small c h hn k (by omega)
    exact (ih.set _ _ (ih.getD _)).set _ _ (by omega)
theorem links_small {c : Cfg} (h : CfgOk c) : Small c.links := by
  have := (cfg_bd h).mn
  exact lnkF_small c (base_small c) _ (by omega)
theorem comm_small {c : Cfg} (h : CfgOk c) : Small c.comm := by
  have hb := (cfg_bd h).nd
  have := roomAt_pos c.nd ⟨hb.1, Int.le_refl _⟩
  exact ((links_small h).set _ _ (by omega)).set _ _ (by omega)
theorem first_small {c : Cfg} (h : CfgOk c) : Small c.first := by
  have hb := (cfg_bd h).nd
  exact nxtF_small c (comm_small h) hb.2 _ (by omega)

end Go.Proofs.Ytmiaghbakdapbaa

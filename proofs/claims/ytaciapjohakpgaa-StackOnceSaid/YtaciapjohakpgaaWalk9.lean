/- Walk, in the program and in the reference: both are the same list. Conditions: the words, the links can be read; no more than 10^12 are asked for. -/
import Derived.Test.YtaciapjohakpgaaMach9b
import Derived.Test.YtaciapjohakpgaaWords2
import Derived.ScopeJumps
import Derived.WalkMore
set_option linter.unusedVariables false
namespace Go.Proofs.Ytaciapjohakpgaa
open Go.ChangeShapes Go.WideShapes Go.ChangeAt Go.RowKit

/-- The things from a place on, so many at most. -/
def walkF (ls l : List Int) : Nat → Int → List Int
  | 0, _ => []
  | n + 1, p => if 0 ≤ p ∧ p < l.length ∧ ¬ mld l p % 4294967296 = 0 then (mld l p % 4294967296) :: walkF ls l n (lkAt ls (mld l p % 4294967296)) else []

theorem walkF_stop (ls l : List Int) (n : Nat) (p : Int) (h : ¬ (0 ≤ p ∧ p < l.length ∧ 0 < n ∧ ¬ mld l p % 4294967296 = 0)) : walkF ls l n p = [] := by
  cases n with
  | zero => rfl
  | succ n =>
    unfold walkF
    rw [if_neg]
    rintro ⟨a, b, c⟩
    exact h ⟨a, b, by omega, c⟩
theorem walkF_go (ls l : List Int) (n : Nat) (p : Int) (h : 0 ≤ p ∧ p < l.length ∧ ¬ mld l p % 4294967296 = 0) : walkF ls l (n + 1) p = (mld l p % 4294967296) :: walkF ls l n (lkAt ls (mld l p % 4294967296)) := by
  rw [walkF, if_pos h]

theorem walkF_le (ls l : List Int) : ∀ (n : Nat) (p : Int), (walkF ls l n p).length ≤ n
  | 0, _ => Nat.zero_le _
  | n + 1, p => by
    unfold walkF
    split
    · exact Nat.succ_le_succ (walkF_le ls l n _)
    · exact Nat.zero_le _
theorem walkF_len (ls l : List Int) (p : Int) {most : Int} (h : most < 1000000000000) : (walkF ls l most.toNat p).length < 1000000000000 := by
  have := walkF_le ls l most.toNat p
  omega

def lenOf : Value → Nat
  | .slice _ n _ => n
  | _ => 0

def WItems (xs : List Int) : Prop := ∀ x ∈ xs, 0 < x ∧ x < 4294967296
theorem witems_append {xs : List Int} {x : Int} (h : WItems xs) (hx : 0 < x ∧ x < 4294967296) : WItems (xs ++ [x]) := by
  intro y hy
  rcases List.mem_append.1 hy with q | q
  · exact h y q
  · simp at q; subst q; exact hx

theorem el_int : ElemOf Try.prog 23 3 (.int .i64 0) 1 8 := elemOf Try.underlying23 (by kernel_rfl)

theorem own_slice {w : World} {B : Nat} {e : TypeId} {k : IntKind} {v : Value} {xs : List Int} (h : OwnI w B e k v xs) : ∃ a c, v = .slice a xs.length c := by
  rcases ownI_cases h with ⟨rfl, rfl⟩ | ⟨g, cap, rfl, _⟩
  · exact ⟨none, 0, rfl⟩
  · exact ⟨_, _, rfl⟩

set_option maxRecDepth 100000 in
set_option maxHeartbeats 2000000 in
theorem Walk_c {A A' : List Nat} (a : Option Addr) (cap lb : Nat) (l ls : List Int) (head most : Int) (w : World) (hsl : Sl w A' .u64 (.slice a l.length cap) l) (hL : LinksAt w A lb ls) (hl : ls.length < 1000000000000) (hm : most < 1000000000000) :
    Calls Try.prog 10 #[.slice a l.length cap, .int .i64 head, linkV lb, .int .i64 most] w fun e w' => ∃ v, e = .returned v ∧ OwnI w' w.heap.size 3 .i64 v (walkF ls l most.toNat head) ∧ WItems (walkF ls l most.toNat head) ∧ Below w.heap.size w w' := by
  unfold linkV
  have SL := Lib.hid hsl
  have LK := Lib.hid hL
  clear hsl hL
  go_enter Try.func10, Try.ntmps10
  go_wp2_with fail
  refine wp_scope_jumps 0 (fun a' w' => ∃ (ov : Value) (p : Int) (xs : List Int) (rem : Nat) (u11 u12 u13 u14 u15 u16 u17 u18 u19 u20 u21 u22 u23 u24 u25 u26 u27 u28 u29 u30 u31 u32 u33 u34 u35 u36 u37 u38 u39 u40 u41 u42 : Value), a' = { tmps := #[.slice a l.length cap, .int .i64 head, .func (.func 31) #[] #[.pointer (some ⟨lb, 0, none⟩)], .int .i64 most, undef, undef, undef, undef, .slice none 0 0, ov, .int .i64 p, u11, u12, u13, u14, u15, u16, u17, u18, u19, u20, u21, u22, u23, u24, u25, u26, u27, u28, u29, u30, u31, u32, u33, u34, u35, u36, u37, u38, u39, u40, u41, u42], defers := [] } ∧ xs.length + rem = most.toNat ∧ walkF ls l most.toNat head = xs ++ walkF ls l rem p ∧ WItems xs ∧ OwnI w' w.heap.size 3 .i64 ov xs ∧ Below w.heap.size w w') (fun a' _ => most.toNat - lenOf (a'.tmps.getD 9 undef)) rfl ?_ ?_
  · go_wp2_with fail
    go_step3
    have stop : ¬ (0 ≤ head ∧ head < l.length ∧ 0 < most.toNat ∧ ¬ mld l head % 4294967296 = 0) → walkF ls l most.toNat head = [] := fun hno => walkF_stop _ _ _ _ hno
    have ST := Lib.hid stop
    clear stop
    have hwx : WItems [] := by intro y hy; simp at hy
    have hown : OwnI w w.heap.size 3 .i64 (.slice none 0 0) [] := ownI_nil _ _ _ _
    have hb : Below w.heap.size w w := Below.refl _ _
    by_cases h1 : 0 ≤ head
    · by_cases h2 : head < (l.length : Int)
      · by_cases h3 : 0 < most.toNat
        · have h3' : (0 : Int) < most := by omega
          have hsl1 := sl_below SL.out hb
          obtain ⟨b, off, rfl, hbb, hbn, hcell⟩ := sl_at hsl1 (by rintro rfl; simp at h2; omega)
          have hc := hcell head.toNat (mld l head) (by rw [mld_in ⟨h1, h2⟩]; simp only [List.getD]; rw [List.getElem?_eq_getElem (by omega)]; rfl)
          have e1 := wrapu32 (mld l head)
          have e2 : IntKind.i64.wrap (mld l head % 4294967296) = mld l head % 4294967296 := wrapi64_id _ (by omega) (by omega)
          by_cases h4 : mld l head % 4294967296 = 0
          · have h4' : ((mld l head % 4294967296) != 0) = false := by simpa using h4
            have E := Lib.hid (ST.out (by rintro ⟨_, _, _, q⟩; exact q h4))
            clear h4
            go_wp2_with fail
            simp only [Exit.jump]
            go_ret
            exact ⟨_, rfl, by rw [E.out]; exact hown, by rw [E.out]; exact hwx, hb⟩
          · have h4' : ((mld l head % 4294967296) != 0) = true := by simpa using h4
            obtain ⟨r, hr⟩ : ∃ r, most.toNat = r + 1 := ⟨most.toNat - 1, by omega⟩
            have hF' : walkF ls l most.toNat head = ([] ++ [mld l head % 4294967296]) ++ walkF ls l r (lkAt ls (mld l head % 4294967296)) := by rw [hr, walkF_go _ _ _ _ ⟨h1, h2, h4⟩]; rfl
            have FF := Lib.hid hF'
            have q0 := (mod32 (mld l head)).1
            have ON := Lib.hid hown
            have HB := Lib.hid hb
            have h5 : 0 < mld l head % 4294967296 ∧ mld l head % 4294967296 < 4294967296 := by omega
            clear h4 hF' ST
            go_wp2_with (at_builtin; refine wpl_append_int rfl (.tmp 35) (.tmp 37) rfl el_int (by decide) w.heap.size (.slice none 0 0) [] rfl ON.out _ rfl (by simp) HB.out.size ?_; intro v1 w1 hown1 hgrow)
            have hb1 := below_grown_own HB.out ON.out hgrow HB.out.size
            have HL := links_upd (S := []) (A' := A) LK.out (Upd.of_below hb1) (by simp) (fun y hy => .inl hy)
            clear hc
            refine (Link_c lb ls _ _ HL hl q0).mono ?_
            rintro e w4 ⟨rfl, hw⟩
            obtain rfl := hw.symm
            go_wp2_with fail
            go_step3
            exact ⟨rfl, v1, _, _, r, _, _, _, _, _, _, _, _, _, _, _, _, _, _, _, _, _, _, _, _, _, _, _, _, _, _, _, _, _, _, _, _, rfl, by rw [hr]; simp; omega, FF.out, witems_append hwx h5, hown1, hb1⟩
        · have h3' : decide ((0 : Int) < most) = false := by simp; omega
          have E := Lib.hid (ST.out (by rintro ⟨_, _, q, _⟩; exact h3 q))
          go_wp2_with fail
          simp only [Exit.jump]
          go_ret
          exact ⟨_, rfl, by rw [E.out]; exact hown, by rw [E.out]; exact hwx, hb⟩
      · have h2' : decide (head < (l.length : Int)) = false := by simp; omega
        have E := Lib.hid (ST.out (by rintro ⟨_, q, _⟩; exact h2 q))
        go_wp2_with fail
        simp only [Exit.jump]
        go_ret
        exact ⟨_, rfl, by rw [E.out]; exact hown, by rw [E.out]; exact hwx, hb⟩
    · have h1' : decide (0 ≤ head) = false := by simp; omega
      have E := Lib.hid (ST.out (by rintro ⟨q, _⟩; exact h1 q))
      go_wp2_with fail
      simp only [Exit.jump]
      go_ret
      exact ⟨_, rfl, by rw [E.out]; exact hown, by rw [E.out]; exact hwx, hb⟩
  · rintro a' w' ⟨ov, p, xs, rem, u11, u12, u13, u14, u15, u16, u17, u18, u19, u20, u21, u22, u23, u24, u25, u26, u27, u28, u29, u30, u31, u32, u33, u34, u35, u36, u37, u38, u39, u40, u41, u42, rfl, hn, hF, hwx, hown, hb⟩

    have stop : ¬ (0 ≤ p ∧ p < l.length ∧ 0 < rem ∧ ¬ mld l p % 4294967296 = 0) → walkF ls l most.toNat head = xs := by
      intro hno
      rw [hF, walkF_stop _ _ _ _ hno, List.append_nil]
    have ST := Lib.hid stop
    clear stop
    obtain ⟨oa, oc, rfl⟩ := own_slice hown
    by_cases h1 : 0 ≤ p
    · by_cases h2 : p < (l.length : Int)
      · by_cases h3 : 0 < rem
        · have h3' : (xs.length : Int) < most := by omega
          have hsl1 := sl_below SL.out hb
          obtain ⟨b, off, rfl, hbb, hbn, hcell⟩ := sl_at hsl1 (by rintro rfl; simp at h2; omega)
          have hc := hcell p.toNat (mld l p) (by rw [mld_in ⟨h1, h2⟩]; simp only [List.getD]; rw [List.getElem?_eq_getElem (by omega)]; rfl)
          have e1 := wrapu32 (mld l p)
          have e2 : IntKind.i64.wrap (mld l p % 4294967296) = mld l p % 4294967296 := wrapi64_id _ (by omega) (by omega)
          by_cases h4 : mld l p % 4294967296 = 0
          · have h4' : ((mld l p % 4294967296) != 0) = false := by simpa using h4
            have E := Lib.hid (ST.out (by rintro ⟨_, _, _, q⟩; exact q h4))
            clear h4
            go_wp2_with fail
            simp only [Exit.jump]
            go_ret
            exact ⟨_, rfl, by rw [E.out]; exact hown, by rw [E.out]; exact hwx, hb⟩
          · have h4' : ((mld l p % 4294967296) != 0) = true := by simpa using h4
            obtain ⟨r, rfl⟩ : ∃ r, rem = r + 1 := ⟨rem - 1, by omega⟩
            have hF' : walkF ls l most.toNat head = (xs ++ [mld l p % 4294967296]) ++ walkF ls l r (lkAt ls (mld l p % 4294967296)) := by rw [hF, walkF_go _ _ _ _ ⟨h1, h2, h4⟩]; simp
            have FF := Lib.hid hF'
            have q0 := (mod32 (mld l p)).1
            have ON := Lib.hid hown
            have HB := Lib.hid hb
            have h5 : 0 < mld l p % 4294967296 ∧ mld l p % 4294967296 < 4294967296 := by omega
            clear h4 hF hF' ST
            go_wp2_with (at_builtin; refine wpl_append_int rfl (.tmp 35) (.tmp 37) rfl el_int (by decide) w.heap.size (.slice oa xs.length oc) xs rfl ON.out _ rfl (by omega) HB.out.size ?_; intro v1 w1 hown1 hgrow)
            have hb1 := below_grown_own HB.out ON.out hgrow HB.out.size
            have HL := links_upd (S := []) (A' := A) LK.out (Upd.of_below hb1) (by simp) (fun y hy => .inl hy)
            clear hc
            refine (Link_c lb ls _ _ HL hl q0).mono ?_
            rintro e w4 ⟨rfl, hw⟩
            obtain rfl := hw.symm
            go_wp2_with fail
            go_step3
            exact ⟨rfl, ⟨v1, _, _, r, _, _, _, _, _, _, _, _, _, _, _, _, _, _, _, _, _, _, _, _, _, _, _, _, _, _, _, _, _, _, _, _, rfl, by rw [List.length_append]; simp; omega, FF.out, witems_append hwx h5, hown1, hb1⟩, by obtain ⟨oa1, oc1, rfl⟩ := own_slice hown1; simp [lenOf]; omega⟩
        · have h3' : decide ((xs.length : Int) < most) = false := by simp; omega
          have E := Lib.hid (ST.out (by rintro ⟨_, _, q, _⟩; exact h3 q))
          go_wp2_with fail
          simp only [Exit.jump]
          go_ret
          exact ⟨_, rfl, by rw [E.out]; exact hown, by rw [E.out]; exact hwx, hb⟩
      · have h2' : decide (p < (l.length : Int)) = false := by simp; omega
        have E := Lib.hid (ST.out (by rintro ⟨_, q, _⟩; exact h2 q))
        go_wp2_with fail
        simp only [Exit.jump]
        go_ret
        exact ⟨_, rfl, by rw [E.out]; exact hown, by rw [E.out]; exact hwx, hb⟩
    · have h1' : decide (0 ≤ p) = false := by simp; omega
      have E := Lib.hid (ST.out (by rintro ⟨q, _⟩; exact h1 q))
      go_wp2_with fail
      simp only [Exit.jump]
      go_ret
      exact ⟨_, rfl, by rw [E.out]; exact hown, by rw [E.out]; exact hwx, hb⟩

end Go.Proofs.Ytaciapjohakpgaa

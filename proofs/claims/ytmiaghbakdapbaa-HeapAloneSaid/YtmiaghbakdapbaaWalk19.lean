/- stack.Walk over the lists of a map. Conditions: the words are a part, no more than 10^9 are asked for. -/
import Derived.Test.YtmiaghbakdapbaaAw19
import Derived.Test.YtmiaghbakdapbaaAll2
import Derived.ScopeJumps
import Derived.WalkMore
set_option linter.unusedVariables false
set_option linter.unusedSimpArgs false
namespace Go.Proofs.Ytmiaghbakdapbaa
open Go.ChangeShapes Go.WideShapes Go.ChangeAt Go.RowKit

/-- The things from a place on, so many at most. -/
def walkN (c : Cfg) (l : List Int) : Nat → Int → List Int
  | 0, _ => []
  | n + 1, p => if 0 ≤ p ∧ p < l.length ∧ ¬ mld l p % 4294967296 = 0 then (mld l p % 4294967296) :: walkN c l n (c.nodeAt (mld l p % 4294967296) 3) else []
theorem walkN_stop (c : Cfg) (l : List Int) (n : Nat) (p : Int) (h : ¬ (0 ≤ p ∧ p < l.length ∧ 0 < n ∧ ¬ mld l p % 4294967296 = 0)) : walkN c l n p = [] := by
  cases n with
  | zero => rfl
  | succ n =>
    unfold walkN
    rw [if_neg]
    rintro ⟨a, b, d⟩
    exact h ⟨a, b, by omega, d⟩
theorem walkN_go (c : Cfg) (l : List Int) (n : Nat) (p : Int) (h : 0 ≤ p ∧ p < l.length ∧ ¬ mld l p % 4294967296 = 0) : walkN c l (n + 1) p = (mld l p % 4294967296) :: walkN c l n (c.nodeAt (mld l p % 4294967296) 3) := by
  rw [walkN, if_pos h]
def lenOf19 : Value → Nat
  | .slice _ n _ => n
  | _ => 0

set_option maxRecDepth 100000 in
set_option maxHeartbeats 2000000 in
theorem Walk19_h {w0 w : World} {cs : List (Chunk w0.heap.size)} (H : Has w0 w cs) (i q : Nat) {a : Option Addr} {cap mb : Nat} {av rv : Value} {c : Cfg} {l : List Int} (head most : Int) (hi : cs[i]? = some (slC _ .u64 (.slice a l.length cap) l)) (hq : cs[q]? = some (mapC _ mb av rv c)) (h : CfgOk c) (hm : most < 1000000000) :
    Calls Try.prog 42 #[.slice a l.length cap, .int .i64 head, .func (.func 43) #[.pointer (some ⟨mb, 0, none⟩)] #[], .int .i64 most] w fun e w' => ∃ v, e = .returned v ∧ Has w0 w' (cs ++ [ownN _ 3 .i64 v (walkN c l most.toNat head)]) := by
  have HI := Lib.hid hi
  have HQ := Lib.hid hq
  clear hi hq
  go_enter Try.func42, Try.ntmps42
  go_wp2_with fail
  have G0 : Has w0 w (cs ++ [ownN _ 3 .i64 (.slice none 0 0) []]) := H.ownNil 3 1
  refine wp_scope_jumps 0 (fun a' w' => ∃ (ov : Value) (p : Int) (xs : List Int) (rem : Nat) (u11 u12 u13 u14 u15 u16 u17 u18 u19 u20 u21 u22 u23 u24 u25 u26 u27 u28 u29 u30 u31 u32 u33 u34 u35 u36 u37 u38 u39 u40 u41 u42 : Value), a' = { tmps := #[.slice a l.length cap, .int .i64 head, .func (.func 43) #[.pointer (some ⟨mb, 0, none⟩)] #[], .int .i64 most, undef, undef, undef, undef, .slice none 0 0, ov, .int .i64 p, u11, u12, u13, u14, u15, u16, u17, u18, u19, u20, u21, u22, u23, u24, u25, u26, u27, u28, u29, u30, u31, u32, u33, u34, u35, u36, u37, u38, u39, u40, u41, u42], defers := [] } ∧ xs.length + rem = most.toNat ∧ walkN c l most.toNat head = xs ++ walkN c l rem p ∧ Has w0 w' (cs ++ [ownN _ 3 .i64 ov xs])) (fun a' _ => most.toNat - lenOf19 (a'.tmps.getD 9 undef)) rfl ?_ ?_
  · go_wp2_with fail
    go_step3
    have ST : Hid (¬ (0 ≤ head ∧ head < l.length ∧ 0 < most.toNat ∧ ¬ mld l head % 4294967296 = 0) → walkN c l most.toNat head = []) := Lib.hid (by intro hno; exact walkN_stop _ _ _ _ hno)
    by_cases h1 : 0 ≤ head
    · by_cases h2 : head < (l.length : Int)
      · by_cases h3 : 0 < most.toNat
        · have h3' : (0 : Int) < most := by omega
          obtain ⟨b, off, rfl, hbb, hbn, hcell⟩ := sl_at (G0.get i (get_app HI.out _)) (by rintro rfl; simp at h2; omega)
          have hc := hcell head.toNat (mld l head) (by rw [mld_in ⟨h1, h2⟩]; simp only [List.getD]; rw [List.getElem?_eq_getElem (by omega)]; rfl)
          have e1 := wrapu32 (mld l head)
          have e2 : IntKind.i64.wrap (mld l head % 4294967296) = mld l head % 4294967296 := wrapi64_id _ (by omega) (by omega)
          by_cases h4 : mld l head % 4294967296 = 0
          · have h4' : ((mld l head % 4294967296) != 0) = false := by simpa using h4
            have E := Lib.hid (ST.out (by rintro ⟨_, _, _, q⟩; exact q h4))
            clear h4
            go_wp2_with fail
            simp only [Exit.jump]
            go_ret
            exact ⟨_, rfl, by rw [E.out]; exact G0⟩
          · have h4' : ((mld l head % 4294967296) != 0) = true := by simpa using h4
            obtain ⟨r, hr⟩ : ∃ r, most.toNat = r + 1 := ⟨most.toNat - 1, by omega⟩
            
            have FF : Hid (walkN c l most.toNat head = ([] ++ [mld l head % 4294967296]) ++ walkN c l r (c.nodeAt (mld l head % 4294967296) 3)) := Lib.hid (by rw [hr, walkN_go _ _ _ _ ⟨h1, h2, h4⟩]; rfl)
            clear h4  ST
            obtain ⟨X, hX⟩ : ∃ X, X = mld l head % 4294967296 := ⟨_, rfl⟩
            rw [← hX] at e1 e2 h4' FF
            obtain ⟨Y, hY⟩ : ∃ Y, Y = mld l head := ⟨_, rfl⟩
            rw [← hY] at e1 hc
            clear hX hY
            go_wp2_with (at_builtin; go_loud (refine wpl_app G0 cs.length rfl (.tmp 35) (.tmp 37) rfl el_int rfl (by decide) (by decide) (get_last cs _) rfl [.int .i64 X] rfl rfl (by simp [Value.oneCell']) (by decide) ?_); intro v1 w1 G1)
            rw [set_last] at G1
            have G2 : Has w0 w1 (cs ++ [ownN _ 3 .i64 v1 ([] ++ [X])]) := G1
            clear hc G1
            refine (Next_q (G2.mAt q (get_app HQ.out _) h) X).mono ?_
            rintro e w4 ⟨rfl, d4, rfl⟩
            have G4 := G2.drewN d4
            go_wp2_with fail
            go_step3
            exact ⟨rfl, v1, _, _, r, _, _, _, _, _, _, _, _, _, _, _, _, _, _, _, _, _, _, _, _, _, _, _, _, _, _, _, _, _, _, _, _, rfl, by rw [hr]; simp; omega, FF.out, G4⟩
        · have h3' : decide ((0 : Int) < most) = false := by simp; omega
          have E := Lib.hid (ST.out (by rintro ⟨_, _, q, _⟩; exact h3 q))
          go_wp2_with fail
          simp only [Exit.jump]
          go_ret
          exact ⟨_, rfl, by rw [E.out]; exact G0⟩
      · have h2' : decide (head < (l.length : Int)) = false := by simp; omega
        have E := Lib.hid (ST.out (by rintro ⟨_, q, _⟩; exact h2 q))
        go_wp2_with fail
        simp only [Exit.jump]
        go_ret
        exact ⟨_, rfl, by rw [E.out]; exact G0⟩
    · have h1' : decide (0 ≤ head) = false := by simp; omega
      have E := Lib.hid (ST.out (by rintro ⟨q, _⟩; exact h1 q))
      go_wp2_with fail
      simp only [Exit.jump]
      go_ret
      exact ⟨_, rfl, by rw [E.out]; exact G0⟩
  · rintro a' w' ⟨ov, p, xs, rem, u11, u12, u13, u14, u15, u16, u17, u18, u19, u20, u21, u22, u23, u24, u25, u26, u27, u28, u29, u30, u31, u32, u33, u34, u35, u36, u37, u38, u39, u40, u41, u42, rfl, hn, hF, G⟩
    obtain ⟨oa, oc, rfl⟩ := own_is (G.get _ (get_last cs _))
    have ST : Hid (¬ (0 ≤ p ∧ p < l.length ∧ 0 < rem ∧ ¬ mld l p % 4294967296 = 0) → walkN c l most.toNat head = xs) := Lib.hid (by intro hno; rw [hF, walkN_stop _ _ _ _ hno, List.append_nil])
    by_cases h1 : 0 ≤ p
    · by_cases h2 : p < (l.length : Int)
      · by_cases h3 : 0 < rem
        · have h3' : (xs.length : Int) < most := by omega
          obtain ⟨b, off, rfl, hbb, hbn, hcell⟩ := sl_at (G.get i (get_app HI.out _)) (by rintro rfl; simp at h2; omega)
          have hc := hcell p.toNat (mld l p) (by rw [mld_in ⟨h1, h2⟩]; simp only [List.getD]; rw [List.getElem?_eq_getElem (by omega)]; rfl)
          have e1 := wrapu32 (mld l p)
          have e2 : IntKind.i64.wrap (mld l p % 4294967296) = mld l p % 4294967296 := wrapi64_id _ (by omega) (by omega)
          by_cases h4 : mld l p % 4294967296 = 0
          · have h4' : ((mld l p % 4294967296) != 0) = false := by simpa using h4
            have E := Lib.hid (ST.out (by rintro ⟨_, _, _, q⟩; exact q h4))
            clear h4
            go_wp2_with fail
            simp only [Exit.jump]
            go_ret
            exact ⟨_, rfl, by rw [E.out]; exact G⟩
          · have h4' : ((mld l p % 4294967296) != 0) = true := by simpa using h4
            obtain ⟨r, hr⟩ : ∃ r, rem = r + 1 := ⟨rem - 1, by omega⟩
            subst hr
            have FF : Hid (walkN c l most.toNat head = (xs ++ [mld l p % 4294967296]) ++ walkN c l r (c.nodeAt (mld l p % 4294967296) 3)) := Lib.hid (by rw [hF, walkN_go _ _ _ _ ⟨h1, h2, h4⟩]; simp)
            clear h4 hF ST
            obtain ⟨X, hX⟩ : ∃ X, X = mld l p % 4294967296 := ⟨_, rfl⟩
            rw [← hX] at e1 e2 h4' FF
            obtain ⟨Y, hY⟩ : ∃ Y, Y = mld l p := ⟨_, rfl⟩
            rw [← hY] at e1 hc
            clear hX hY
            go_wp2_with (at_builtin; go_loud (refine wpl_app G cs.length rfl (.tmp 35) (.tmp 37) rfl el_int rfl (by decide) (by decide) (get_last cs _) rfl [.int .i64 X] rfl rfl (by simp [Value.oneCell']) (by omega) ?_); intro v1 w1 G1)
            rw [set_last] at G1
            rw [ownN_app] at G1; have G2 : Has w0 w1 (cs ++ [ownN _ 3 .i64 v1 (xs ++ [X])]) := G1
            clear hc G1
            refine (Next_q (G2.mAt q (get_app HQ.out _) h) X).mono ?_
            rintro e w4 ⟨rfl, d4, rfl⟩
            have G4 := G2.drewN d4
            go_wp2_with fail
            go_step3
            exact ⟨rfl, ⟨v1, _, _, r, _, _, _, _, _, _, _, _, _, _, _, _, _, _, _, _, _, _, _, _, _, _, _, _, _, _, _, _, _, _, _, _, rfl, by rw [List.length_append]; simp; omega, FF.out, G4⟩, by obtain ⟨oa1, oc1, rfl⟩ := own_is (G4.get _ (get_last cs _)); simp [lenOf19]; omega⟩
        · have h3' : decide ((xs.length : Int) < most) = false := by simp; omega
          have E := Lib.hid (ST.out (by rintro ⟨_, _, q, _⟩; exact h3 q))
          go_wp2_with fail
          simp only [Exit.jump]
          go_ret
          exact ⟨_, rfl, by rw [E.out]; exact G⟩
      · have h2' : decide (p < (l.length : Int)) = false := by simp; omega
        have E := Lib.hid (ST.out (by rintro ⟨_, q, _⟩; exact h2 q))
        go_wp2_with fail
        simp only [Exit.jump]
        go_ret
        exact ⟨_, rfl, by rw [E.out]; exact G⟩
    · have h1' : decide (0 ≤ p) = false := by simp; omega
      have E := Lib.hid (ST.out (by rintro ⟨q, _⟩; exact h1 q))
      go_wp2_with fail
      simp only [Exit.jump]
      go_ret
      exact ⟨_, rfl, by rw [E.out]; exact G⟩
end Go.Proofs.Ytmiaghbakdapbaa

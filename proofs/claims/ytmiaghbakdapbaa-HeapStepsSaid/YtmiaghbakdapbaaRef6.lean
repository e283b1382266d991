/- The functions of dustmanref06: memory as a list. Condition: fewer than 10^12 words. -/
import Derived.Test.YtmiaghbakdapbaaCells2
set_option linter.unusedVariables false
namespace Go.Proofs.Ytmiaghbakdapbaa
open Go.ChangeShapes Go.WideShapes Go.ChangeAt Go.RowKit

theorem RLoad_c {A : List Nat} (v : Value) (l : List Int) (at_ : Int) (w : World) (h : Sl w A .u64 v l) :
    Calls Try.prog 79 #[v, .int .i64 at_] w fun e w' => e = .returned (.int .u64 (mld l at_)) ∧ w' = w := by
  obtain ⟨a, cap, rfl, hc, hx⟩ := h
  by_cases h0 : 0 ≤ at_ ∧ at_ < l.length
  · obtain ⟨b, off, rfl, hb, hn, hcell⟩ := hx.resolve_left (by rintro rfl; simp at h0; omega)
    have hj : at_.toNat < l.length := by omega
    have hc1 := hcell at_.toNat hj
    have e1 := Lib.hid (mld_in h0)
    obtain ⟨q0, q1⟩ := h0
    have hg0 : decide (at_ < 0) = false := by simp; omega
    have hg1 : decide ((l.length : Int) ≤ at_) = false := by simp; omega
    clear hcell hx
    go_enter Try.func79, Try.ntmps79
    go_wp2
    go_ret
    exact ⟨ret_int (by rw [e1.out]; simp [List.getD, hj]), rfl⟩
  · have e1 := Lib.hid (mld_out h0)
    by_cases hn : at_ < 0
    · go_enter Try.func79, Try.ntmps79
      go_wp2
      go_ret
      exact ⟨ret_int e1.out.symm, rfl⟩
    · have hg0 : decide (at_ < 0) = false := by simp; omega
      have hg1 : (l.length : Int) ≤ at_ := by omega
      go_enter Try.func79, Try.ntmps79
      go_wp2
      go_ret
      exact ⟨ret_int e1.out.symm, rfl⟩

theorem RPut_c {A : List Nat} (v : Value) (l : List Int) (at_ x : Int) (w : World) (hA : ∀ x ∈ A, x < w.heap.size) (h : Sl w A .u64 v l) (hl : l.length < 1000000000000) :
    Calls Try.prog 27 #[v, .int .i64 at_, .int .u64 x] w fun e w' => ∃ v', e = .returned v' ∧ Sl w' A .u64 v' (mput l at_ x) ∧ Below w.heap.size w w' := by
  have hsl := Lib.hid h
  obtain ⟨a, cap, rfl, hc, hx⟩ := h
  by_cases h0 : 0 ≤ at_ ∧ at_ < l.length
  · have hne : l ≠ [] := by rintro rfl; simp at h0; omega
    obtain ⟨b, off, rfl, hb, hn, hcell⟩ := hx.resolve_left hne
    have hj : at_.toNat < l.length := by omega
    have e1 := Lib.hid (mput_in h0 x)
    obtain ⟨q0, q1⟩ := h0
    have hg0 : decide (at_ < 0) = false := by simp; omega
    have hg1 : decide ((l.length : Int) ≤ at_) = false := by simp; omega
    clear hcell
    have hx1 := Lib.hid hne
    clear hne hx
    go_enter Try.func27, Try.ntmps27
    go_wp2_with (at_builtin; refine wpl_append_all rfl (.tmp 17) (.tmp 18) rfl el_u64 (by decide) w.heap.size (.slice none 0 0) [] l rfl (ownI_nil _ _ _ _) _ rfl hsl.out ⟨_, _, _, rfl⟩ (by simpa using hl) (Nat.le_refl _) ?_; intro v' w1 hown hgrow; have hH := Lib.hid (And.intro hown hgrow); obtain ⟨g, cap', hv, hB, hlt, hcl⟩ := (ownI_cases hown).resolve_left (fun q => hx1.out q.2); subst hv; have hc1 := hcl at_.toNat hj; have hf1 := World.ownsRow.frozenAt hown at_.toNat; clear hown hgrow hcl)
    go_ret
    have e2 := hH.out
    have e3 := slNew_set (slNew_of_own e2.1) hx1.out at_.toNat x
    refine ⟨_, rfl, by rw [e1.out]; exact sl_of_new e3 hA, ?_⟩
    exact (below_grown_own (Below.refl _ _) (World.ownsRow_nil _ _ 39 1) e2.2 (Nat.le_refl _)).setCell hB _
  · have e1 := Lib.hid (mput_out h0 x)
    by_cases hn : at_ < 0
    · go_enter Try.func27, Try.ntmps27
      go_wp2
      go_ret
      exact ⟨_, rfl, by rw [e1.out]; exact hsl.out, Below.refl _ _⟩
    · have hg0 : decide (at_ < 0) = false := by simp; omega
      have hg1 : (l.length : Int) ≤ at_ := by omega
      go_enter Try.func27, Try.ntmps27
      go_wp2
      go_ret
      exact ⟨_, rfl, by rw [e1.out]; exact hsl.out, Below.refl _ _⟩


theorem ret_pair {a b c d : Value} (h : a = c) (h' : b = d) : Ending.returned (.tuple #[a, b]) = .returned (.tuple #[c, d]) := by rw [h, h']

theorem RSwap_c {A : List Nat} (v : Value) (l : List Int) (at_ old x : Int) (w : World) (hA : ∀ x ∈ A, x < w.heap.size) (h : Sl w A .u64 v l) (hl : l.length < 1000000000000) :
    Calls Try.prog 81 #[v, .int .i64 at_, .int .u64 old, .int .u64 x] w fun e w' => ∃ v', e = .returned (.tuple #[v', .bool (mswapped l at_ old)]) ∧ Sl w' A .u64 v' (mswap l at_ old x) ∧ Below w.heap.size w w' := by
  have hsl := Lib.hid h
  obtain ⟨a, cap, rfl, hc, hx⟩ := h
  by_cases h0 : 0 ≤ at_ ∧ at_ < l.length
  · have hne : l ≠ [] := by rintro rfl; simp at h0; omega
    obtain ⟨b, off, rfl, hb, hn, hcell⟩ := hx.resolve_left hne
    have hj : at_.toNat < l.length := by omega
    have hc1 : w.cell? ⟨b, off + at_.toNat, none⟩ = some (.int .u64 (mld l at_)) := by rw [hcell _ hj, mld_in h0]; simp [List.getD, hj]
    clear hcell hne hx
    have q0 := h0.1
    have q1 := h0.2
    have hg0 : decide (at_ < 0) = false := by simp; omega
    have hg1 : decide ((l.length : Int) ≤ at_) = false := by simp; omega
    by_cases he : mld l at_ = old
    · have e1 := Lib.hid (mswap_yes h0 he x)
      have e2 := Lib.hid (mput_in h0 x)
      rw [he] at hc1
      clear he h0
      go_enter Try.func81, Try.ntmps81
      go_wp2_with (go_at_call 27; refine (RPut_c _ _ _ _ _ hA hsl.out hl).mono ?_; rintro e w1 ⟨v', rfl, hv, hb1⟩)
      go_ret2
      exact ⟨_, ret_pair rfl (by rw [e1.out.1]; rfl), by rw [e1.out.2, ← e2.out]; exact hv, hb1⟩
    · have e1 := Lib.hid (mswap_no h0 he x)
      have hb : (mld l at_ != old) = true := by simpa using he
      clear he h0
      go_enter Try.func81, Try.ntmps81
      go_wp2_with (go_at_call 27; refine (RPut_c _ _ _ _ _ hA hsl.out hl).mono ?_; rintro e w1 ⟨v', rfl, hv, hb1⟩)
      go_ret2
      exact ⟨_, ret_pair rfl (by rw [e1.out.1]; rfl), by rw [e1.out.2]; exact hsl.out, Below.refl _ _⟩
  · have e1 := Lib.hid (mswap_out (old := old) h0 x)
    by_cases hn : at_ < 0
    · go_enter Try.func81, Try.ntmps81
      go_wp2_with fail
      go_ret2
      exact ⟨_, ret_pair rfl (by rw [e1.out.1]; rfl), by rw [e1.out.2]; exact hsl.out, Below.refl _ _⟩
    · have hg0 : decide (at_ < 0) = false := by simp; omega
      have hg1 : (l.length : Int) ≤ at_ := by omega
      go_enter Try.func81, Try.ntmps81
      go_wp2_with fail
      go_ret2
      exact ⟨_, ret_pair rfl (by rw [e1.out.1]; rfl), by rw [e1.out.2]; exact hsl.out, Below.refl _ _⟩

theorem beq_take_step (l l' : List Int) (k : Nat) (h : l.take k = l'.take k) (h1 : k < l.length) (h2 : k < l'.length) (e : l[k] = l'[k]) : l.take (k + 1) = l'.take (k + 1) := by
  rw [List.take_succ_eq_append_getElem h1, List.take_succ_eq_append_getElem h2, h, e]

theorem RSame_c {A A' : List Nat} (v v' : Value) (l l' : List Int) (w : World) (h : Sl w A .u64 v l) (h' : Sl w A' .u64 v' l') (hl : l.length < 1000000000000) :
    Calls Try.prog 33 #[v, v'] w fun e w' => e = .returned (.bool (l == l')) ∧ ∃ n, w' = w.drewN n := by
  obtain ⟨a, cap, rfl, hc, hx⟩ := h
  obtain ⟨a', cap', rfl, hc', hx'⟩ := h'
  by_cases hlen : l.length = l'.length
  · have hfin : ∀ k, ¬ k < l.length → l.take k = l'.take k → (l == l') = true := by
      intro k hk he
      rw [List.take_of_length_le (by omega), List.take_of_length_le (by omega)] at he
      simpa using he
    have hdiff : ∀ k (h1 : k < l.length) (h2 : k < l'.length), ¬ l[k] = l'[k] → (l == l') = false := by
      intro k h1 h2 hne
      rw [beq_eq_false_iff_ne]
      rintro rfl
      exact hne rfl
    have hle1 : l.length ≤ l'.length := by omega
    have hle2 : l'.length ≤ l.length := by omega
    have hneq : ((l.length : Int) != (l'.length : Int)) = false := by simp; omega
    have F := Lib.hid hfin
    have D := Lib.hid hdiff
    have L := Lib.hid hlen
    clear hfin hdiff hlen
    have X := Lib.hid (And.intro hx hx')
    clear hx hx'
    go_enter Try.func33, Try.ntmps33
    go_wp2
    go_loopw [5] (fun i wr => ∃ k : Nat, k ≤ l.length ∧ l.take k = l'.take k ∧ i = .int .i64 k ∧ ∃ m, wr = w.drewN m) (fun i _ => l.length - (intOf i).toNat)
    case atStart => exact ⟨0, Nat.zero_le _, by simp, rfl, 0, rfl⟩
    case round =>
      obtain ⟨k, hk, ht, rfl, m, rfl⟩ := hrel
      have T := Lib.hid ht
      clear ht
      by_cases hlt : k < l.length
      · have hlt' : k < l'.length := by omega
        obtain ⟨b, off, rfl, hb, hn, hcell⟩ := X.out.1.resolve_left (by rintro rfl; simp at hlt)
        obtain ⟨b', off', rfl, hb', hn', hcell'⟩ := X.out.2.resolve_left (by rintro rfl; simp at hlt')
        have c1 := hcell k hlt
        have c2 := hcell' k hlt'
        have i1 : (k : Int) < (l.length : Int) := by omega
        have i2 : (k : Int) < (l'.length : Int) := by omega
        clear hcell hcell' hn hn'
        by_cases he : l[k] = l'[k]
        · have hb1 : (l[k] != l'[k]) = false := by simpa using he
          have E := Lib.hid he
          clear he
          go_wp2
          go_quiet (fail)
          go_wp2
          go_roundw
          case rel => exact ⟨k + 1, by omega, beq_take_step l l' k T.out hlt hlt' E.out, by go_num, _, rfl⟩
          case measure => simp [intOf]; omega
        · have hb1 : (l[k] != l'[k]) = true := by simpa using he
          have E := Lib.hid (D.out k hlt hlt' he)
          clear he
          go_wp2
          go_quiet (fail)
          go_wp2
          go_ret
          exact ⟨ret_bool E.out.symm, _, World.drewN_drewN _ _ _⟩
      · have E := Lib.hid (F.out k hlt T.out)
        go_wp2
        go_ret
        exact ⟨ret_bool E.out.symm, _, rfl⟩
  · have hneq : ((l.length : Int) != (l'.length : Int)) = true := by simp; omega
    have E : (l == l') = false := by rw [beq_eq_false_iff_ne]; rintro rfl; exact hlen rfl
    have E1 := Lib.hid E
    clear E hlen
    go_enter Try.func33, Try.ntmps33
    go_wp2
    go_ret
    exact ⟨ret_bool E1.out.symm, 0, rfl⟩

end Go.Proofs.Ytmiaghbakdapbaa

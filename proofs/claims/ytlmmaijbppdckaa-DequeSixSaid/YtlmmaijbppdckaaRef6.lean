/- The functions of dustmanref06: memory as a list. Condition: fewer than 10^12 words. -/
import Derived.Test.YtlmmaijbppdckaaCells2
set_option linter.unusedVariables false
namespace Go.Proofs.Ytlmmaijbppdckaa
open Go.ChangeShapes Go.WideShapes Go.ChangeAt Go.RowKit


theorem ret_pair {a b c d : Value} (h : a = c) (h' : b = d) : Ending.returned (.tuple #[a, b]) = .returned (.tuple #[c, d]) := by rw [h, h']

theorem beq_take_step (l l' : List Int) (k : Nat) (h : l.take k = l'.take k) (h1 : k < l.length) (h2 : k < l'.length) (e : l[k] = l'[k]) : l.take (k + 1) = l'.take (k + 1) := by
  rw [List.take_succ_eq_append_getElem h1, List.take_succ_eq_append_getElem h2, h, e]

theorem RSame_c {A A' : List Nat} (v v' : Value) (l l' : List Int) (w : World) (h : Sl w A .u64 v l) (h' : Sl w A' .u64 v' l') (hl : l.length < 1000000000000) :
    Calls Try.prog 20 #[v, v'] w fun e w' => e = .returned (.bool (l == l')) ∧ ∃ n, w' = w.drewN n := by
  obtain ⟨a, cap, rfl, hc, hx⟩ := h
  obtain ⟨a', cap', rfl, hc', hx'⟩ := h'
  by_cases hlen : l.length = l'.length
  · have hfin : ∀ k, ¬ k < l.length → l.take k = l'.take k → (l == l') = true := by
      intro k hk he
      rw [List.take_of_length_le (by omega), List.take_of_length_le (by omega)] at he
      simpa using he
    have hdiff : ∀ k (h1 : k < l.length) (h2 : k < l'.length), ¬ l[k] = l'[k] → (l == l') = false := by
      intro k h1 h2 hne
      rw [beq_eq_false_iff_ne]
      rintro rfl
      exact hne rfl
    have hle1 : l.length ≤ l'.length := by omega
    have hle2 : l'.length ≤ l.length := by omega
    have hneq : ((l.length : Int) != (l'.length : Int)) = false := by simp; omega
    have F := Lib.hid hfin
    have D := Lib.hid hdiff
    have L := Lib.hid hlen
    clear hfin hdiff hlen
    have X := Lib.hid (And.intro hx hx')
    clear hx hx'
    go_enter Try.func20, Try.ntmps20
    go_wp2
    go_loopw [5] (fun i wr => ∃ k : Nat, k ≤ l.length ∧ l.take k = l'.take k ∧ i = .int .i64 k ∧ ∃ m, wr = w.drewN m) (fun i _ => l.length - (intOf i).toNat)
    case atStart => exact ⟨0, Nat.zero_le _, by simp, rfl, 0, rfl⟩
    case round =>
      obtain ⟨k, hk, ht, rfl, m, rfl⟩ := hrel
      have T := Lib.hid ht
      clear ht
      by_cases hlt : k < l.length
      · have hlt' : k < l'.length := by omega
        obtain ⟨b, off, rfl, hb, hn, hcell⟩ := X.out.1.resolve_left (by rintro rfl; simp at hlt)
        obtain ⟨b', off', rfl, hb', hn', hcell'⟩ := X.out.2.resolve_left (by rintro rfl; simp at hlt')
        have c1 := hcell k hlt
        have c2 := hcell' k hlt'
        have i1 : (k : Int) < (l.length : Int) := by omega
        have i2 : (k : Int) < (l'.length : Int) := by omega
        clear hcell hcell' hn hn'
        by_cases he : l[k] = l'[k]
        · have hb1 : (l[k] != l'[k]) = false := by simpa using he
          have E := Lib.hid he
          clear he
          go_wp2
          go_quiet (fail)
          go_wp2
          go_roundw
          case rel => exact ⟨k + 1, by omega, beq_take_step l l' k T.out hlt hlt' E.out, by go_num, _, rfl⟩
          case measure => simp [intOf]; omega
        · have hb1 : (l[k] != l'[k]) = true := by simpa using he
          have E := Lib.hid (D.out k hlt hlt' he)
          clear he
          go_wp2
          go_quiet (fail)
          go_wp2
          go_ret
          exact ⟨ret_bool E.out.symm, _, World.drewN_drewN _ _ _⟩
      · have E := Lib.hid (F.out k hlt T.out)
        go_wp2
        go_ret
        exact ⟨ret_bool E.out.symm, _, rfl⟩
  · have hneq : ((l.length : Int) != (l'.length : Int)) = true := by simp; omega
    have E : (l == l') = false := by rw [beq_eq_false_iff_ne]; rintro rfl; exact hlen rfl
    have E1 := Lib.hid E
    clear E hlen
    go_enter Try.func20, Try.ntmps20
    go_wp2
    go_ret
    exact ⟨ret_bool E1.out.symm, 0, rfl⟩

end Go.Proofs.Ytlmmaijbppdckaa

/- The reference's Walk and At; slices of numbers compared. Conditions: the words, the links can be read; no more than 10^12 are asked for. -/
import Derived.Test.YtaciapjohakpgaaWalk9
set_option linter.unusedVariables false
namespace Go.Proofs.Ytaciapjohakpgaa
open Go.ChangeShapes Go.WideShapes Go.ChangeAt Go.RowKit

theorem RAt_c {A : List Nat} (hd : Int) (v : Value) (ls : List Int) (i : Int) (w : World) (h : Sl w A .i64 v ls) (hl : ls.length < 1000000000000) (i0 : 0 ≤ i) (i1 : i < 4294967296) :
    Calls Try.prog 33 #[.agg #[.int .i64 hd, v], .int .u32 i] w fun e w' => e = .returned (.int .i64 (lkAt ls i)) ∧ Below w.heap.size w w' := by
  obtain ⟨a, cap, rfl, hc, hx⟩ := h
  have B1 := blk_new w (.cells #[.int .i64 hd, .slice a ls.length cap] 25) 0
  have b1 := below_box w (.cells #[.int .i64 hd, .slice a ls.length cap] 25) 0
  obtain ⟨c0, c1, fz⟩ := row2 (w := w.alloc (.cells #[.int .i64 hd, .slice a ls.length cap] 25)) B1
  clear B1
  have e0 : IntKind.i64.wrap i = i := wrapi64_id _ (by omega) (by omega)
  by_cases hi : 1 ≤ i ∧ i ≤ ls.length
  · have hne : ls ≠ [] := by rintro rfl; simp at hi; omega
    obtain ⟨b, off, rfl, hb, hn, hcell⟩ := hx.resolve_left hne
    have hj : i.toNat - 1 < ls.length := by omega
    have hc0 := hcell (i.toNat - 1) hj
    have hc1 := (b1.cell (p := ⟨b, off + (i.toNat - 1), none⟩) hb).trans hc0
    have e1 : lkAt ls i = ls[i.toNat - 1] := by unfold lkAt; rw [if_pos hi]; simp only [List.getD, List.getElem?_eq_getElem hj, Option.getD_some]
    obtain ⟨q0, q1⟩ := hi
    have hg0 : decide (i < 1) = false := by simp; omega
    have hg1 : decide ((ls.length : Int) < i) = false := by simp; omega
    have hg2 : wrap64 (i - 1) = i - 1 := wrap64_id _ (by omega) (by omega)
    have hg3 : 0 ≤ i - 1 := by omega
    have hg4 : i - 1 < (ls.length : Int) := by omega
    have E := Lib.hid e1
    clear hcell hx hne e1
    go_enter Try.func33, Try.ntmps33
    go_wp2
    go_ret
    exact ⟨ret_int E.out.symm, b1⟩
  · have e1 : lkAt ls i = -1 := by unfold lkAt; rw [if_neg hi]
    have E := Lib.hid e1
    clear e1 hx
    by_cases hlt : i < 1
    · go_enter Try.func33, Try.ntmps33
      go_wp2
      go_ret
      exact ⟨ret_int E.out.symm, b1⟩
    · have hg0 : decide (i < 1) = false := by simp; omega
      have hg1 : (ls.length : Int) < i := by omega
      go_enter Try.func33, Try.ntmps33
      go_wp2
      go_ret
      exact ⟨ret_int E.out.symm, b1⟩

theorem RSameI_c {A A' : List Nat} (v v' : Value) (l l' : List Int) (w : World) (h : Sl w A .i64 v l) (h' : Sl w A' .i64 v' l') (hl : l.length < 1000000000000) :
    Calls Try.prog 9 #[v, v'] w fun e w' => e = .returned (.bool (l == l')) ∧ ∃ n, w' = w.drewN n := by
  obtain ⟨a, cap, rfl, hc, hx⟩ := h
  obtain ⟨a', cap', rfl, hc', hx'⟩ := h'
  by_cases hlen : l.length = l'.length
  · have hfin : ∀ k, ¬ k < l.length → l.take k = l'.take k → (l == l') = true := by
      intro k hk he
      rw [List.take_of_length_le (by omega), List.take_of_length_le (by omega)] at he
      simpa using he
    have hdiff : ∀ k (h1 : k < l.length) (h2 : k < l'.length), ¬ l[k] = l'[k] → (l == l') = false := by
      intro k h1 h2 hne
      rw [beq_eq_false_iff_ne]
      rintro rfl
      exact hne rfl
    have hle1 : l.length ≤ l'.length := by omega
    have hle2 : l'.length ≤ l.length := by omega
    have hneq : ((l.length : Int) != (l'.length : Int)) = false := by simp; omega
    have F := Lib.hid hfin
    have D := Lib.hid hdiff
    have L := Lib.hid hlen
    clear hfin hdiff hlen
    have X := Lib.hid (And.intro hx hx')
    clear hx hx'
    go_enter Try.func9, Try.ntmps9
    go_wp2
    go_loopw [5] (fun i wr => ∃ k : Nat, k ≤ l.length ∧ l.take k = l'.take k ∧ i = .int .i64 k ∧ ∃ m, wr = w.drewN m) (fun i _ => l.length - (intOf i).toNat)
    case atStart => exact ⟨0, Nat.zero_le _, by simp, rfl, 0, rfl⟩
    case round =>
      obtain ⟨k, hk, ht, rfl, m, rfl⟩ := hrel
      have T := Lib.hid ht
      clear ht
      by_cases hlt : k < l.length
      · have hlt' : k < l'.length := by omega
        obtain ⟨b, off, rfl, hb, hn, hcell⟩ := X.out.1.resolve_left (by rintro rfl; simp at hlt)
        obtain ⟨b', off', rfl, hb', hn', hcell'⟩ := X.out.2.resolve_left (by rintro rfl; simp at hlt')
        have c1 := hcell k hlt
        have c2 := hcell' k hlt'
        have i1 : (k : Int) < (l.length : Int) := by omega
        have i2 : (k : Int) < (l'.length : Int) := by omega
        clear hcell hcell' hn hn'
        by_cases he : l[k] = l'[k]
        · have hb1 : (l[k] != l'[k]) = false := by simpa using he
          have E := Lib.hid he
          clear he
          go_wp2
          go_quiet (fail)
          go_wp2
          go_roundw
          case rel => exact ⟨k + 1, by omega, beq_take_step l l' k T.out hlt hlt' E.out, by go_num, _, rfl⟩
          case measure => simp [intOf]; omega
        · have hb1 : (l[k] != l'[k]) = true := by simpa using he
          have E := Lib.hid (D.out k hlt hlt' he)
          clear he
          go_wp2
          go_quiet (fail)
          go_wp2
          go_ret
          exact ⟨ret_bool E.out.symm, _, World.drewN_drewN _ _ _⟩
      · have E := Lib.hid (F.out k hlt T.out)
        go_wp2
        go_ret
        exact ⟨ret_bool E.out.symm, _, rfl⟩
  · have hneq : ((l.length : Int) != (l'.length : Int)) = true := by simp; omega
    have E : (l == l') = false := by rw [beq_eq_false_iff_ne]; rintro rfl; exact hlen rfl
    have E1 := Lib.hid E
    clear E hlen
    go_enter Try.func9, Try.ntmps9
    go_wp2
    go_ret
    exact ⟨ret_bool E1.out.symm, 0, rfl⟩

end Go.Proofs.Ytaciapjohakpgaa

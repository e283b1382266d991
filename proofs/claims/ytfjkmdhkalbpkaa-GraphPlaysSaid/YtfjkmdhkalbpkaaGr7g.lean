/- Layer 7: two slices are alike; a new graph; an operation by its number. No condition but that fewer than a million roots, and nodes, are there. -/
import Derived.Test.YtfjkmdhkalbpkaaReach7
set_option linter.unusedVariables false
set_option linter.unusedSimpArgs false
namespace Go.Proofs.Ytfjkmdhkalbpkaa
open Go.ChangeShapes Go.WideShapes Go.ChangeAt Go.RowKit

theorem sl_of_ownN {w : World} {e : TypeId} {k : IntKind} {v : Value} {xs : List Int} (h : Own w e 1 v xs.length (xs.map (Value.int k))) : Sl w [] k v xs := by
  obtain ⟨a, c, rfl⟩ := own_is h
  by_cases hx : xs = []
  · subst hx
    exact ⟨a, c, rfl, by simp, .inl rfl⟩
  · have hl : 0 < xs.length := List.length_pos_iff.2 hx
    obtain ⟨g, off, rfl, hc, -, hg, hcell, -⟩ := own_atV h hl
    refine ⟨_, c, rfl, hc, .inr ⟨g, off, rfl, hg, by simp, fun j hj => hcell j _ ?_⟩⟩
    rw [List.getElem?_map, List.getElem?_eq_getElem hj]
    rfl

theorem ret_bool {a b : Bool} (h : a = b) : Ending.returned (.bool a) = .returned (.bool b) := by rw [h]
theorem beq_take_step (l l' : List Int) (k : Nat) (h : l.take k = l'.take k) (h1 : k < l.length) (h2 : k < l'.length) (e : l[k] = l'[k]) : l.take (k + 1) = l'.take (k + 1) := by
  rw [List.take_succ_eq_append_getElem h1, List.take_succ_eq_append_getElem h2, h, e]

theorem Same_c {A A' : List Nat} (v v' : Value) (l l' : List Int) (w : World) (h : Sl w A .i64 v l) (h' : Sl w A' .i64 v' l') (hl : l.length < 1000000000000) :
    Calls Try.prog 21 #[v, v'] w fun e w' => e = .returned (.bool (l == l')) ∧ ∃ n, w' = w.drewN n := by
  obtain ⟨a, cap, rfl, hc, hx⟩ := h
  obtain ⟨a', cap', rfl, hc', hx'⟩ := h'
  by_cases hlen : l.length = l'.length
  · have hfin : ∀ k, ¬ k < l.length → l.take k = l'.take k → (l == l') = true := by
      intro k hk he
      rw [List.take_of_length_le (by omega), List.take_of_length_le (by omega)] at he
      simpa using he
    have hdiff : ∀ k (h1 : k < l.length) (h2 : k < l'.length), ¬ l[k] = l'[k] → (l == l') = false := by
      intro k h1 h2 hne
      rw [beq_eq_false_iff_ne]
      rintro rfl
      exact hne rfl
    have hle1 : l.length ≤ l'.length := by omega
    have hle2 : l'.length ≤ l.length := by omega
    have hneq : ((l.length : Int) != (l'.length : Int)) = false := by simp; omega
    have F := Lib.hid hfin
    have D := Lib.hid hdiff
    have L := Lib.hid hlen
    clear hfin hdiff hlen
    have X := Lib.hid (And.intro hx hx')
    clear hx hx'
    go_enter Try.func21, Try.ntmps21
    go_wp2
    go_loopw [5] (fun i wr => ∃ k : Nat, k ≤ l.length ∧ l.take k = l'.take k ∧ i = .int .i64 k ∧ ∃ m, wr = w.drewN m) (fun i _ => l.length - (intOf i).toNat)
    case atStart => exact ⟨0, Nat.zero_le _, by simp, rfl, 0, rfl⟩
    case round =>
      obtain ⟨k, hk, ht, rfl, m, rfl⟩ := hrel
      have T := Lib.hid ht
      clear ht
      by_cases hlt : k < l.length
      · have hlt' : k < l'.length := by omega
        obtain ⟨b, off, rfl, hb, hn, hcell⟩ := X.out.1.resolve_left (by rintro rfl; simp at hlt)
        obtain ⟨b', off', rfl, hb', hn', hcell'⟩ := X.out.2.resolve_left (by rintro rfl; simp at hlt')
        have c1 := hcell k hlt
        have c2 := hcell' k hlt'
        have i1 : (k : Int) < (l.length : Int) := by omega
        have i2 : (k : Int) < (l'.length : Int) := by omega
        clear hcell hcell' hn hn'
        by_cases he : l[k] = l'[k]
        · have hb1 : (l[k] != l'[k]) = false := by simpa using he
          have E := Lib.hid he
          clear he
          go_wp2
          go_quiet (fail)
          go_wp2
          go_roundw
          case rel => exact ⟨k + 1, by omega, beq_take_step l l' k T.out hlt hlt' E.out, by go_num, _, rfl⟩
          case measure => simp [intOf]; omega
        · have hb1 : (l[k] != l'[k]) = true := by simpa using he
          have E := Lib.hid (D.out k hlt hlt' he)
          clear he
          go_wp2
          go_quiet (fail)
          go_wp2
          go_ret
          exact ⟨ret_bool E.out.symm, _, World.drewN_drewN _ _ _⟩
      · have E := Lib.hid (F.out k hlt T.out)
        go_wp2
        go_ret
        exact ⟨ret_bool E.out.symm, _, rfl⟩
  · have hneq : ((l.length : Int) != (l'.length : Int)) = true := by simp; omega
    have E : (l == l') = false := by rw [beq_eq_false_iff_ne]; rintro rfl; exact hlen rfl
    have E1 := Lib.hid E
    clear E hlen
    go_enter Try.func21, Try.ntmps21
    go_wp2
    go_ret
    exact ⟨ret_bool E1.out.symm, 0, rfl⟩

theorem Same_h {w0 w : World} {cs : List (Chunk w0.heap.size)} (H : Has w0 w cs) (i j : Nat) {v v' : Value} {l l' : List Int} (hi : cs[i]? = some (ownN _ 3 .i64 v l)) (hj : cs[j]? = some (ownN _ 3 .i64 v' l')) (hl : l.length < 1000000) :
    Calls Try.prog 21 #[v, v'] w fun e w' => e = .returned (.bool (l == l')) ∧ ∃ n, w' = w.drewN n :=
  Same_c v v' l l' w (sl_of_ownN (H.get i hi)) (sl_of_ownN (H.get j hj)) (by omega)

theorem GrR.front {w0 : World} {cs : List (Chunk w0.heap.size)} {i gb : Nat} {S : GS} {G : PG} (hi : cs[i]? = some (grC _ gb S G)) {b : Nat} {xs : Array Value} {T : TypeId} {G' : PG} {v : Value} {e : Ending} {w' : World} (h : GrR w0 (cs ++ [blkC _ b xs T]) i gb G' v e w') : GrR w0 cs i gb G' v e w' := by
  obtain ⟨h1, S', h2⟩ := h
  have hil := (List.getElem?_eq_some_iff.1 hi).1
  rw [List.set_append_left _ _ hil] at h2
  exact ⟨h1, S', h2.front7⟩

section
variable {w0 w : World} {cs : List (Chunk w0.heap.size)} (H : Has w0 w cs) (i : Nat) {gb : Nat} {S : GS} {G : PG} (hi : cs[i]? = some (grC _ gb S G)) (ok : G.Ok) (hM : G.most < 1000000) (hN : G.nodes.length < 1000000)
include H hi ok hM hN

set_option maxRecDepth 100000 in
theorem play_h (d m a s b : Int) (hd : 0 ≤ d) : Calls Try.prog 12 #[.pointer (some ⟨gb, 0, none⟩), .agg #[.int .u8 d, .int .i64 m, .int .i64 a, .int .i64 s, .int .i64 b]] w fun e w' => GrR w0 cs i gb (G.act d m a s b).1 (.tuple #[.int .i64 (G.act d m a s b).2.1, .bool (G.act d m a s b).2.2]) e w' := by
  have K := H.blkNew #[.int .u8 d, .int .i64 m, .int .i64 a, .int .i64 s, .int .i64 b] 29
  have kI := app_old (b := [blkC _ w.heap.size #[.int .u8 d, .int .i64 m, .int .i64 a, .int .i64 s, .int .i64 b] 29]) hi
  have FR := Lib.hid (fun (G' : PG) (v : Value) (e : Ending) (w' : World) (h : GrR w0 (cs ++ [blkC _ w.heap.size #[.int .u8 d, .int .i64 m, .int .i64 a, .int .i64 s, .int .i64 b] 29]) i gb G' v e w') => GrR.front hi h)
  unfold PG.act
  by_cases h0 : d = 0
  · subst h0
    rw [if_pos rfl]
    have C := Lib.hid (Alloc_h K i kI ok hM hN m s)
    clear K kI hi H ok hM hN
    go_enter Try.func12, Try.ntmps12
    go_wp2_with fail
    refine C.out.mono ?_
    rintro e w' ⟨rfl, hG⟩
    have HG := Lib.hid hG
    clear hG
    go_wp2_with fail
    go_ret2
    exact FR.out _ _ _ _ ⟨rfl, HG.out⟩
  · rw [if_neg h0]
    have h0b : (d == 0) = false := by simpa using h0
    by_cases h1 : d = 1
    · subst h1
      rw [if_pos rfl]
      have C := Lib.hid (Read_h K i kI ok hM hN m a s)
      clear K kI hi H ok hM hN
      go_enter Try.func12, Try.ntmps12
      go_wp2_with fail
      refine C.out.mono ?_
      rintro e w' ⟨rfl, hG⟩
      have HG := Lib.hid hG
      clear hG
      go_wp2_with fail
      go_ret2
      exact FR.out _ _ _ _ ⟨rfl, HG.out⟩
    · rw [if_neg h1]
      have h1b : (d == 1) = false := by simpa using h1
      by_cases h2 : d = 2
      · subst h2
        rw [if_pos rfl]
        have C := Lib.hid (Write_h K i kI ok hM hN m a s b)
        clear K kI hi H ok hM hN
        go_enter Try.func12, Try.ntmps12
        go_wp2_with fail
        refine C.out.mono ?_
        rintro e w' ⟨rfl, hG⟩
        have HG := Lib.hid hG
        clear hG
        go_wp2_with fail
        go_ret2
        exact FR.out _ _ _ _ ⟨rfl, HG.out⟩
      · rw [if_neg h2]
        have h2b : (d == 2) = false := by simpa using h2
        by_cases h3 : d = 3
        · subst h3
          rw [if_pos rfl]
          have C := Lib.hid (Pop_h K i kI ok hM hN m)
          clear K kI hi H ok hM hN
          go_enter Try.func12, Try.ntmps12
          go_wp2_with fail
          refine C.out.mono ?_
          rintro e w' ⟨rfl, hG⟩
          have HG := Lib.hid hG
          clear hG
          go_wp2_with fail
          go_ret2
          exact FR.out _ _ _ _ ⟨rfl, HG.out⟩
        · rw [if_neg h3]
          have h3b : (d == 3) = false := by simpa using h3
          have C := Lib.hid (Dup_h K i kI ok hM hN m a)
          clear K kI hi H ok hM hN
          go_enter Try.func12, Try.ntmps12
          go_wp2_with fail
          refine C.out.mono ?_
          rintro e w' ⟨rfl, hG⟩
          have HG := Lib.hid hG
          clear hG
          go_wp2_with fail
          go_ret2
          exact FR.out _ _ _ _ ⟨rfl, HG.out⟩
end

end Go.Proofs.Ytfjkmdhkalbpkaa

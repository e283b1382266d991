/- The program's graph in memory: what is read, written, dropped, and had once more. No condition but that fewer than a million roots, and nodes, are there. -/
import Derived.Test.YtfjkmdhkalbpkaaGr7c
set_option linter.unusedVariables false
set_option linter.unusedSimpArgs false
namespace Go.Proofs.Ytfjkmdhkalbpkaa
open Go.ChangeShapes Go.WideShapes Go.ChangeAt Go.RowKit

theorem GrR.same {w0 w : World} {cs : List (Chunk w0.heap.size)} {i gb : Nat} {S : GS} {G : PG} (H : Has w0 w cs) (hi : cs[i]? = some (grC _ gb S G)) (v : Value) (n : Nat) : GrR w0 cs i gb G v (.returned v) (w.drewN n) :=
  ⟨rfl, S, by rw [set_same_list hi]; exact H.drewN n⟩

theorem GrR.of {w0 : World} {cs : List (Chunk w0.heap.size)} {i gb : Nat} {S : GS} {G G' : PG} {v : Value} {e : Ending} {w' : World} (h : GrR w0 (cs.set i (grC _ gb S G)) i gb G' v e w') : GrR w0 cs i gb G' v e w' := by
  obtain ⟨h1, S', h2⟩ := h
  rw [List.set_set] at h2
  exact ⟨h1, S', h2⟩

theorem put_fin {w0 w5 : World} {cs : List (Chunk w0.heap.size)} {i : Nat} {S : GS} {v a y : Int} {ad : Addr} (x : Int) (hi : cs[i]? = some (grC _ S.gb S S.g)) (O : Has w0 w5 cs) {w : World} (h : SlotAt w S v a y ad) :
    ∃ S', Has w0 (w5.setCell ad (.int .i64 x)) (cs.set i (grC _ S.gb S' (S.g.put v a x))) := by
  obtain ⟨q, j, l, g, off, c, rfl, rfl, h1, h2, rfl, -, -⟩ := h
  have O1 := (O.open hi).2
  have hj := (List.getElem?_eq_some_iff.1 h2).1
  have G6 := O1.ownSet ((cs.set i (noC _)).length + (3 + S.rl.length + q)) (e := 3) (size := 1) (g := g) (off := off) (m := l.length) (c := c) (n := l.length) (xs := l.map (Value.int .i64)) (gl_ni _ S h1) j (.int .i64 x) (by omega)
  have e0 : ownC w0.heap.size 3 1 (.slice (some ⟨g, off, none⟩) l.length c) l.length ((l.map (Value.int .i64)).set j (.int .i64 x)) = ownP _ (.slice (some ⟨g, off, none⟩) l.length c, l.set j x) := by
    rw [set_map (Value.int .i64)]
    show _ = ownC _ _ 1 _ (l.set j x).length _
    rw [List.length_set]
  rw [e0, gl_put (cs.set i (noC _)) S q _ l (l.set j x) h1] at G6
  refine ⟨_, Has.grClose hi G6 rfl ?_⟩
  unfold GS.g PG.put
  dsimp only
  rw [show ((q : Int) + 1 - 1).toNat = q by omega, Int.toNat_natCast, map_modify2 _ _ _ l (·.set j x) (by rw [List.getElem?_map, h1]; rfl) rfl]

section
variable {w0 w : World} {cs : List (Chunk w0.heap.size)} (H : Has w0 w cs) (i : Nat) {gb : Nat} {S : GS} {G : PG} (hi : cs[i]? = some (grC _ gb S G)) (ok : G.Ok) (hM : G.most < 1000000) (hN : G.nodes.length < 1000000)
include H hi ok hM hN

set_option maxRecDepth 100000 in
theorem Dup_h (m a : Int) : Calls Try.prog 28 #[.pointer (some ⟨gb, 0, none⟩), .int .i64 m, .int .i64 a] w fun e w' => GrR w0 cs i gb (G.dup m a).1 (.bool (G.dup m a).2) e w' := by
  obtain ⟨A, hgb, hG⟩ := H.gr i hi
  subst hgb
  subst hG
  unfold PG.dup
  cases hr : S.g.root m a with
  | none =>
    dsimp only
    have HR := Lib.hid (root_no A m a hr)
    have FIN := Lib.hid (fun n => GrR.same H hi (.bool false) n)
    clear A hr hi ok hM hN H
    go_enter Try.func28, Try.ntmps28
    go_wp2_with fail
    refine HR.out.mono ?_
    rintro e w' ⟨rfl, hw⟩
    obtain rfl := hw.symm
    go_wp2_with fail
    go_ret
    exact FIN.out 0
  | some v =>
    dsimp only
    have HR := Lib.hid (root_yes A m a v hr)
    have HQ := Lib.hid (room_q A m)
    cases hb : S.g.room m with
    | false =>
      rw [hb] at HQ
      simp only [Bool.false_eq_true, if_false]
      have FIN := Lib.hid (fun n => GrR.same H hi (.bool false) n)
      clear A hr hi ok hM hN H hb
      go_enter Try.func28, Try.ntmps28
      go_wp2_with fail
      refine HR.out.mono ?_
      rintro e w' ⟨rfl, hw⟩
      obtain rfl := hw.symm
      go_wp2_with fail
      refine HQ.out.mono ?_
      rintro e w' ⟨rfl, n, rfl⟩
      go_wp2_with fail
      go_ret
      exact FIN.out n
    | true =>
      rw [hb] at HQ
      simp only [if_true]
      obtain ⟨l, hL, hlt⟩ := PG.room_some hb
      obtain ⟨k, rfl, hk⟩ := iget_some hL
      have PH := fun n => push_h (H.drewN n) i hi k l v hk (by omega)
      have HP := Lib.hid PH
      clear A hr hi ok hM hN H hb hL hk hlt PH
      go_enter Try.func28, Try.ntmps28
      go_wp2_with fail
      refine HR.out.mono ?_
      rintro e w' ⟨rfl, hw⟩
      obtain rfl := hw.symm
      go_wp2_with fail
      refine HQ.out.mono ?_
      rintro e w' ⟨rfl, n, rfl⟩
      go_wp2_with fail
      refine (HP.out n).mono ?_
      rintro e w' ⟨rfl, S', G'⟩
      go_wp2_with fail
      go_ret
      exact ⟨rfl, S', G'⟩

set_option maxRecDepth 100000 in
theorem Read_h (m a s : Int) : Calls Try.prog 27 #[.pointer (some ⟨gb, 0, none⟩), .int .i64 m, .int .i64 a, .int .i64 s] w fun e w' => GrR w0 cs i gb (G.read m a s).1 (.tuple #[.int .i64 (G.read m a s).2.1, .bool (G.read m a s).2.2]) e w' := by
  obtain ⟨A, hgb, hG⟩ := H.gr i hi
  subst hgb
  subst hG
  rw [nodes_len] at hN
  unfold PG.read
  cases hr : S.g.slot m a s with
  | none =>
    dsimp only
    have HR := Lib.hid (slot_no A ok hN m a s hr)
    have FIN := Lib.hid (fun n => GrR.same H hi (.tuple #[.int .i64 0, .bool false]) n)
    clear A hr hi ok hM hN H
    go_enter Try.func27, Try.ntmps27
    go_wp2_with fail
    refine HR.out.mono ?_
    rintro e w' ⟨rfl, hw⟩
    obtain rfl := hw.symm
    go_wp2_with fail
    go_ret2
    exact FIN.out 0
  | some vy =>
    obtain ⟨v, y⟩ := vy
    dsimp only
    have HR := Lib.hid (slot_yes A ok hN m a s v y hr)
    have HQ := Lib.hid (room_q A m)
    cases hb : S.g.room m with
    | false =>
      rw [hb] at HQ
      simp only [Bool.false_eq_true, if_false]
      have FIN := Lib.hid (fun n => GrR.same H hi (.tuple #[.int .i64 0, .bool false]) n)
      clear A hr hi ok hM hN H hb
      go_enter Try.func27, Try.ntmps27
      go_wp2_with fail
      refine HR.out.mono ?_
      rintro e w' ⟨ad, rfl, SA, hw⟩
      obtain rfl := hw.symm
      obtain ⟨g, off, rfl⟩ : ∃ g off, ad = ⟨g, off, none⟩ := by obtain ⟨_, _, _, g, off, _, -, -, -, -, rfl, -⟩ := SA; exact ⟨_, _, rfl⟩
      clear SA
      go_wp2_with fail
      refine HQ.out.mono ?_
      rintro e w' ⟨rfl, n, rfl⟩
      go_wp2_with fail
      go_ret2
      exact FIN.out n
    | true =>
      rw [hb] at HQ
      simp only [if_true]
      obtain ⟨l, hL, hlt⟩ := PG.room_some hb
      obtain ⟨k, rfl, hk⟩ := iget_some hL
      have PH := fun n => push_h (H.drewN n) i hi k l y hk (by omega)
      have HP := Lib.hid PH
      clear A hr hi ok hM hN H hb hL hk hlt PH
      go_enter Try.func27, Try.ntmps27
      go_wp2_with fail
      refine HR.out.mono ?_
      rintro e w' ⟨ad, rfl, SA, hw⟩
      obtain rfl := hw.symm
      obtain ⟨g, off, rfl, hc⟩ : ∃ g off, ad = ⟨g, off, none⟩ ∧ w.cell? ad = some (.int .i64 y) := by obtain ⟨_, _, _, g, off, _, -, -, -, -, rfl, hc, -⟩ := SA; exact ⟨_, _, rfl, hc⟩
      clear SA
      go_wp2_with fail
      refine HQ.out.mono ?_
      rintro e w' ⟨rfl, n, rfl⟩
      go_wp2_with fail
      refine (HP.out n).mono ?_
      rintro e w' ⟨rfl, S', G'⟩
      go_wp2_with fail
      go_ret2
      exact ⟨rfl, S', G'⟩

set_option maxRecDepth 100000 in
theorem Write_h (m a s b : Int) : Calls Try.prog 26 #[.pointer (some ⟨gb, 0, none⟩), .int .i64 m, .int .i64 a, .int .i64 s, .int .i64 b] w fun e w' => GrR w0 cs i gb (G.write m a s b).1 (.bool (G.write m a s b).2) e w' := by
  obtain ⟨A, hgb, hG⟩ := H.gr i hi
  subst hgb
  subst hG
  rw [nodes_len] at hN
  unfold PG.write
  have FIN := Lib.hid (fun n => GrR.same H hi (.bool false) n)
  cases hr : S.g.slot m a s with
  | none =>
    dsimp only
    have HR := Lib.hid (slot_no A ok hN m a s hr)
    cases hb : S.g.root m b with
    | none =>
      have HB := Lib.hid (root_no A m b hb)
      clear A hr hi ok hM hN H hb
      go_enter Try.func26, Try.ntmps26
      go_wp2_with fail
      refine HR.out.mono ?_
      rintro e w' ⟨rfl, hw⟩
      obtain rfl := hw.symm
      go_wp2_with fail
      refine HB.out.mono ?_
      rintro e w' ⟨rfl, hw⟩
      obtain rfl := hw.symm
      go_wp2_with fail
      go_ret
      exact FIN.out 0
    | some x =>
      have HB := Lib.hid (root_yes A m b x hb)
      clear A hr hi ok hM hN H hb
      go_enter Try.func26, Try.ntmps26
      go_wp2_with fail
      refine HR.out.mono ?_
      rintro e w' ⟨rfl, hw⟩
      obtain rfl := hw.symm
      go_wp2_with fail
      refine HB.out.mono ?_
      rintro e w' ⟨rfl, hw⟩
      obtain rfl := hw.symm
      go_wp2_with fail
      go_ret
      exact FIN.out 0
  | some vy =>
    obtain ⟨v, y⟩ := vy
    dsimp only
    have HR := Lib.hid (slot_yes A ok hN m a s v y hr)
    cases hb : S.g.root m b with
    | none =>
      dsimp only
      have HB := Lib.hid (root_no A m b hb)
      clear A hr hi ok hM hN H hb
      go_enter Try.func26, Try.ntmps26
      go_wp2_with fail
      refine HR.out.mono ?_
      rintro e w' ⟨ad, rfl, SA, hw⟩
      obtain rfl := hw.symm
      obtain ⟨g, off, rfl⟩ : ∃ g off, ad = ⟨g, off, none⟩ := by obtain ⟨_, _, _, g, off, _, -, -, -, -, rfl, -⟩ := SA; exact ⟨_, _, rfl⟩
      clear SA
      go_wp2_with fail
      refine HB.out.mono ?_
      rintro e w' ⟨rfl, hw⟩
      obtain rfl := hw.symm
      go_wp2_with fail
      go_ret
      exact FIN.out 0
    | some x =>
      dsimp only
      have HB := Lib.hid (root_yes A m b x hb)
      have HI := Lib.hid hi
      clear A hr hi ok hM hN hb
      go_enter Try.func26, Try.ntmps26
      go_wp2_with fail
      refine HR.out.mono ?_
      rintro e w' ⟨ad, rfl, SA, hw⟩
      obtain rfl := hw.symm
      obtain ⟨g, off, rfl, hc, hf⟩ : ∃ g off, ad = ⟨g, off, none⟩ ∧ w.cell? ad = some (.int .i64 y) ∧ w.frozen? ad = false := by obtain ⟨_, _, _, g, off, _, -, -, -, -, rfl, hc, hf⟩ := SA; exact ⟨_, _, rfl, hc, hf⟩
      have HSA := Lib.hid SA
      clear SA
      go_wp2_with fail
      refine HB.out.mono ?_
      rintro e w' ⟨rfl, hw⟩
      obtain rfl := hw.symm
      go_wp2_with fail
      go_ret
      exact ⟨rfl, put_fin x HI.out H HSA.out⟩
end

end Go.Proofs.Ytfjkmdhkalbpkaa

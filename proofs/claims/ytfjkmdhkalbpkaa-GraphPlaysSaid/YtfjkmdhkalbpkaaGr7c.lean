/- The program's graph in memory: a root more. No condition but that fewer than a million roots, and nodes, are there. -/
import Derived.Test.YtfjkmdhkalbpkaaGr7b
set_option linter.unusedVariables false
set_option linter.unusedSimpArgs false
namespace Go.Proofs.Ytfjkmdhkalbpkaa
open Go.ChangeShapes Go.WideShapes Go.ChangeAt Go.RowKit

theorem el_i7 : ElemOf Try.prog 30 3 (.int .i64 0) 1 8 := elemOf Try.underlying30 (by kernel_rfl)
theorem el_s7 : ElemOf Try.prog 34 30 (.slice none 0 0) 1 24 := elemOf Try.underlying34 (by kernel_rfl)

/-- What a call answers that makes another graph of one. -/
def GrR (w0 : World) (cs : List (Chunk w0.heap.size)) (i gb : Nat) (G : PG) (v : Value) (e : Ending) (w' : World) : Prop := e = .returned v ∧ ∃ S, Has w0 w' (cs.set i (grC _ gb S G))

theorem set_idx {α : Type} {cs : List α} {i : Nat} {x : α} (h : cs[i]? = some x) (y : α) : (cs.set i y)[i]? = some y := by
  rw [List.getElem?_set_self (List.getElem?_eq_some_iff.1 h).1]
theorem set_same_list {α : Type} {cs : List α} {i : Nat} {x : α} (h : cs[i]? = some x) : cs.set i x = cs := by
  refine List.ext_getElem? fun j => ?_
  by_cases q : i = j
  · subst q; rw [set_idx h, h]
  · rw [List.getElem?_set_ne q]

/-- Taken apart, changed, and put together again. -/
theorem Has.grClose {w0 w : World} {cs : List (Chunk w0.heap.size)} {i gb : Nat} {S S' : GS} {G G' : PG} (hi : cs[i]? = some (grC _ gb S G)) (H : Has w0 w (cs.set i (noC _) ++ gList _ S')) (h1 : S'.gb = gb) (h2 : S'.g = G') : Has w0 w (cs.set i (grC _ gb S' G')) := by
  have := H.close (P := S'.gb = gb ∧ S'.g = G') (i := i) (set_idx hi _) gList_ro ⟨h1, h2⟩
  rwa [List.set_set] at this

theorem map_modify2 (rl : List (Value × List Int)) (k : Nat) (p : Value × List Int) (l : List Int) (f : List Int → List Int) (h : (rl.map (·.2))[k]? = some l) (hp : p.2 = f l) : (rl.set k p).map (·.2) = (rl.map (·.2)).modify k f := by
  refine List.ext_getElem? fun j => ?_
  rw [get_mod, ← set_map (fun q : Value × List Int => q.2)]
  by_cases q : k = j
  · subst q
    rw [set_idx h, if_pos rfl, h, hp]; rfl
  · rw [List.getElem?_set_ne q, if_neg q]

theorem push_fin {w0 w5 : World} {cs : List (Chunk w0.heap.size)} {i : Nat} {S : GS} {k : Nat} {va : Value} {l : List Int} {v : Int} {xa : Option Addr} {xc : Nat} (hi : cs[i]? = some (grC _ S.gb S S.g)) (h1 : S.rl[k]? = some (va, l)) (hl : S.g.roots[k]? = some l)
    (G5 : Has w0 w5 ((cs.set i (noC _) ++ gList _ S).set ((cs.set i (noC _)).length + (3 + k)) (ownC _ 3 1 (.slice xa (l.length + 1) xc) (l.length + 1) (l.map (Value.int .i64) ++ [Value.int .i64 v])))) :
    ∃ S', Has w0 (w5.setCell ⟨S.rb, k, none⟩ (.slice xa (l.length + 1) xc)) (cs.set i (grC _ S.gb S' (S.g.push k v))) := by
  have hk := (List.getElem?_eq_some_iff.1 h1).1
  rw [ownN_app] at G5
  have G6 := G5.ownSet0 ((cs.set i (noC _)).length + 1) (e := 30) (size := 1) (g := S.rb) (m := S.rl.length) (c := S.rl.length) (n := S.rl.length) (xs := S.rl.map (·.1)) (by rw [List.getElem?_set_ne (by omega)]; exact gl_r _ S) k (.slice xa (l.length + 1) xc) (by omega)
  have e := gl_push (cs.set i (noC _)) S k (.slice xa (l.length + 1) xc, l ++ [v]) hk
  unfold GS.rv at e
  rw [e] at G6
  refine ⟨_, Has.grClose hi G6 rfl ?_⟩
  unfold GS.g PG.push
  dsimp only
  rw [Int.toNat_natCast, map_modify2 _ _ _ l (· ++ [v]) hl rfl]

set_option maxRecDepth 100000 in
set_option maxHeartbeats 4000000 in
theorem push_h {w0 w : World} {cs : List (Chunk w0.heap.size)} (H : Has w0 w cs) (i : Nat) {gb : Nat} {S : GS} {G : PG} (hi : cs[i]? = some (grC _ gb S G)) (k : Nat) (l : List Int) (v : Int) (hl : G.roots[k]? = some l) (hn : l.length < 1000000) :
    Calls Try.prog 31 #[.pointer (some ⟨gb, 0, none⟩), .int .i64 k, .int .i64 v] w fun e w' => GrR w0 cs i gb (G.push k v) (.tuple #[]) e w' := by
  obtain ⟨A, hgb, hG⟩ := H.gr i hi
  have HI := Lib.hid hi
  have O := (H.open hi).2
  subst hgb
  subst hG
  clear hi
  obtain ⟨a, c, h1, h2, h3⟩ := A.root hl
  have hkl : (k : Int) < (S.rl.length : Int) := by have := (List.getElem?_eq_some_iff.1 h1).1; omega
  obtain ⟨c0, c1, c2, fz⟩ := row3 A.g0
  have I1 : Hid ((cs.set i (noC _) ++ gList w0.heap.size S)[(cs.set i (noC _)).length + (3 + k)]? = some (ownC _ 3 1 (.slice a l.length c) l.length (l.map (Value.int .i64)))) := Lib.hid (gl_ri (cs.set i (noC _)) S h1)
  have Q1 : Hid ((S.rl.map (·.1))[k]? = some (.slice a l.length c)) := Lib.hid (by rw [List.getElem?_map, h1]; rfl)
  have hkn : 0 < S.rl.length := by omega
  have I2 := Lib.hid (gl_r (cs.set i (noC _)) S)
  have I0 := Lib.hid (gl_b (cs.set i (noC _)) S)
  have H1 := Lib.hid h1
  have HL := Lib.hid hl
  have hgl : S.gb < w.heap.size := blk_lt A.g0
  have hrl : S.rb < w.heap.size := by
    obtain ⟨rg, ro, hh, -, -, hlt, -⟩ := own_atV A.ro hkn
    cases hh; exact hlt
  unfold GS.rv at c1
  clear A h1 h3 hl
  go_enter Try.func31, Try.ntmps31
  go_wp2_with fail
  refine wp_region_noPanic ?_
  go_region_law (first | (refine step_app ((O.alloc (.cells #[.int .i64 v] 3)).drew) _ rfl _ _ rfl el_i7 rfl (by decide) (by decide) I1.out rfl [.int .i64 v] w.heap.size (blk_new w (.cells #[.int .i64 v] 3) 1) rfl rfl (by simp [Value.oneCell']) (by omega) ?_; intro v1 w5 G5; obtain ⟨xa, xc, rfl⟩ := own_is (G5.get _ (set_idx I1.out _)); have G5r : Own w5 30 1 S.rv S.rl.length (S.rl.map (·.1)) := G5.get ((cs.set i (noC _)).length + 1) (by rw [List.getElem?_set_ne (by omega)]; exact I2.out); unfold GS.rv at G5r; obtain ⟨rg, ro, hh, -, -, -, hcell, hfz⟩ := own_atV G5r hkn; cases hh; have q1 := hcell k _ Q1.out; rw [Nat.zero_add] at q1; have q2 := hfz k; clear hcell hfz G5r; have G5b := G5.get (cs.set i (noC _)).length (by rw [List.getElem?_set_ne (by omega)]; exact I0.out); unfold GS.rv at G5b; obtain ⟨e0, e1, e2, fe⟩ := row3 G5b; clear G5b))
  all_goals
    refine NoPanic.normal ?_
    go_wp2_with fail
    go_end0
    exact ⟨rfl, push_fin HI.out H1.out HL.out G5⟩

end Go.Proofs.Ytfjkmdhkalbpkaa

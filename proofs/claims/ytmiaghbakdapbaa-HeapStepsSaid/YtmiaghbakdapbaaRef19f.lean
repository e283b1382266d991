/- One step of the reference's machine of layer 19, whole, in the words of the program's machine. Conditions: the configuration may be; words are words. -/
import Derived.Test.YtmiaghbakdapbaaRef19d
import Derived.Test.YtmiaghbakdapbaaRef19e
import Derived.Test.YtmiaghbakdapbaaHs19p
set_option linter.unusedVariables false
set_option linter.unusedSimpArgs false
namespace Go.Proofs.Ytmiaghbakdapbaa
open Go.ChangeShapes Go.WideShapes Go.ChangeAt Go.RowKit

theorem RNew19_h (sl mk : Int) (w : World) : Calls Try.prog 26 #[.int .i64 sl, .int .u64 mk] w fun e w' => e = .returned (.agg #[.int .i64 ((newR sl mk).pc : Int), .int .i64 (newR sl mk).slots, .int .i64 (newR sl mk).cls, .int .u64 (newR sl mk).mark, .int .u64 (newR sl mk).h, .int .u32 (newR sl mk).link, .int .i64 (newR sl mk).v, .int .i64 (newR sl mk).tries, .int .i64 (newR sl mk).i, .int .i64 (newR sl mk).node, .int .i64 (hpCell (newR sl mk)), .int .i64 (newR sl mk).e, .int .i64 (newR sl mk).ek, .int .i64 0, .int .i64 (newR sl mk).ea, .int .i64 (newR sl mk).eb, .int .i64 0]) ∧ Below w.heap.size w w' := by
  refine (RNew19_c sl mk w).mono ?_
  rintro e w' ⟨rfl, q⟩
  refine ⟨?_, q⟩
  unfold newR
  by_cases h : sOf sl < 0
  · rw [if_pos h, if_pos h]; rfl
  · rw [if_neg h, if_neg h]
    have hk : 0 ≤ sOf sl := by omega
    have e1 : hpNew sl mk = ⟨sl, sOf sl, mk, 0, 0, 0, false, 0, 0, 0, 0, 0, 0, 0, 1⟩ := by unfold hpNew; rw [decide_eq_true hk]; rfl
    rw [e1]; rfl

theorem RStep19_h {w0 w : World} {cs : List (Chunk w0.heap.size)} (H : Has w0 w cs) (i q : Nat) {mv lv : Value} {l : List Int} {c : Cfg} (n : Int) (m : Hp) (hi : cs[i]? = some (slC _ .u64 mv l)) (hq : cs[q]? = some (ownT _ lv c.things)) (h : CfgOk c) (hl : l.length < 1000000000000) (hm : HpOk m) (ht : Tk m) (hw : Wm l) :
    Calls Try.prog 29 #[.agg #[lv, .int .i64 n], cfgV c, mv, .agg #[.int .i64 (m.pc : Int), .int .i64 m.slots, .int .i64 m.cls, .int .u64 m.mark, .int .u64 m.h, .int .u32 m.link, .int .i64 m.v, .int .i64 m.tries, .int .i64 m.i, .int .i64 m.node, .int .i64 (hpCell m), .int .i64 m.e, .int .i64 m.ek, .int .i64 0, .int .i64 m.ea, .int .i64 m.eb, .int .i64 0]] w fun e w' => ∃ mv', e = .returned (.tuple #[mv', .agg #[.int .i64 ((hpStep c l m).2.pc : Int), .int .i64 (hpStep c l m).2.slots, .int .i64 (hpStep c l m).2.cls, .int .u64 (hpStep c l m).2.mark, .int .u64 (hpStep c l m).2.h, .int .u32 (hpStep c l m).2.link, .int .i64 (hpStep c l m).2.v, .int .i64 (hpStep c l m).2.tries, .int .i64 (hpStep c l m).2.i, .int .i64 (hpStep c l m).2.node, .int .i64 (hpCell (hpStep c l m).2), .int .i64 (hpStep c l m).2.e, .int .i64 (hpStep c l m).2.ek, .int .i64 0, .int .i64 (hpStep c l m).2.ea, .int .i64 (hpStep c l m).2.eb, .int .i64 0]]) ∧ Has w0 w' (cs.set i (slC _ .u64 mv' (hpStep c l m).1)) := by
  obtain ⟨s, k, mk, hh, lk, v, tk, tr, ii, nd, e, ek, ea, eb, pc⟩ := m
  obtain ⟨ev, h0, l0, pc7⟩ := hm
  dsimp only at ev h0 l0 pc7
  have hs := wm_mld hw
  have h7 : pc = 0 ∨ pc = 1 ∨ pc = 2 ∨ pc = 3 ∨ pc = 4 ∨ pc = 5 ∨ pc = 6 ∨ pc = 7 := by omega
  rcases h7 with rfl | rfl | rfl | rfl | rfl | rfl | rfl | rfl
  · refine (rst0 H i q n s k mk hh lk v tr ii nd (bif tk then v else 0) e ek ea eb hi hq h hl).mono ?_
    rintro r w' ⟨rfl, G⟩
    exact ⟨mv, rfl, by show Has w0 w' (cs.set i (slC _ .u64 mv l)); rw [lset_is19 hi]; exact G⟩
  · obtain rfl : tk = false := ht (by show 1 ≤ 3; decide)
    refine (rst1 H i q n s k mk hh lk v tr ii nd 0 e ek ea eb hi hq h hl (hs _)).mono ?_
    rintro r w' ⟨rfl, G⟩
    exact ⟨mv, rfl, by show Has w0 w' (cs.set i (slC _ .u64 mv l)); rw [lset_is19 hi]; exact G⟩
  · obtain rfl : tk = false := ht (by show 2 ≤ 3; decide)
    refine (rst2 H i q n s k mk hh lk v tr ii nd 0 e ek ea eb hi hq h hl (hs _)).mono ?_
    rintro r w' ⟨rfl, G⟩
    exact ⟨mv, rfl, by show Has w0 w' (cs.set i (slC _ .u64 mv l)); rw [lset_is19 hi]; exact G⟩
  · obtain rfl : tk = false := ht (by show 3 ≤ 3; decide)
    refine (rst3 H i q n s k mk hh lk v tr ii nd 0 e ek ea eb hi hq h hl h0.1 h0.2 l0.1 l0.2).mono ?_
    rintro r w' ⟨mv', rfl, G⟩
    exact ⟨mv', rfl, G⟩
  · refine (rst4 H i q n s k mk hh lk v tr ii nd (bif tk then v else 0) e ek ea eb hi hq h hl).mono ?_
    rintro r w' ⟨mv', rfl, G⟩
    exact ⟨mv', rfl, G⟩
  · refine (rst5 H i q n s k mk hh lk v tr ii nd (bif tk then v else 0) e ek ea eb hi hq h hl).mono ?_
    rintro r w' ⟨mv', rfl, G⟩
    exact ⟨mv', rfl, G⟩
  · refine (rst6 H i q n s k mk hh lk v tr ii nd (bif tk then v else 0) e ek ea eb hi hq h hl).mono ?_
    rintro r w' ⟨mv', rfl, G⟩
    exact ⟨mv', rfl, G⟩
  · refine (rst7 H i q n s k mk hh lk v tr ii nd (bif tk then v else 0) e ek ea eb hi hq h hl).mono ?_
    rintro r w' ⟨mv', rfl, G⟩
    exact ⟨mv', rfl, G⟩
end Go.Proofs.Ytmiaghbakdapbaa

/- The machines of package stack and of its reference, over memory as parts. Conditions: the Store, the machine and the links are parts; words are words. -/
import Derived.Test.YtaciapjohakpgaaAwake9
import Derived.Test.YtaciapjohakpgaaCellsH
import Derived.Test.YtaciapjohakpgaaRef6H
import Derived.Test.YtaciapjohakpgaaRef9
set_option linter.unusedVariables false
namespace Go.Proofs.Ytaciapjohakpgaa
open Go.ChangeShapes Go.WideShapes Go.ChangeAt Go.RowKit

def machC (n0 mb lb : Nat) (m : Mac) : Chunk n0 := ⟨[mb], false, fun w => MachAt w mb lb m, fun _ _ h hm => (h mb (.inr (by simp))).trans hm⟩

def linksC (n0 lb : Nat) (v : Value) (ls : List Int) : Chunk n0 :=
  ⟨lb :: (slC n0 .i64 v ls).blocks, true, fun w => w.heap[lb]? = some (.cells #[v] 23 (0, 0)) ∧ Sl w [] .i64 v ls, fun w w' h hh => ⟨(h lb (.inr (by simp))).trans hh.1, (slC n0 .i64 v ls).stable w w' (fun k hk => h k (hk.imp id fun q => by simp [q])) hh.2⟩⟩


theorem owned_mem {n0 : Nat} {cs : List (Chunk n0)} {i : Nat} {c : Chunk n0} (hi : cs[i]? = some c) (hro : c.ro = false) {k : Nat} (hk : k ∈ c.blocks) : k ∈ owned cs := by
  unfold owned
  exact List.mem_flatMap.2 ⟨c, List.mem_filter.2 ⟨List.mem_of_getElem? hi, by simp [hro]⟩, hk⟩

section
variable {w0 w : World} {cs : List (Chunk w0.heap.size)} (H : Has w0 w cs)
include H

theorem Has.ro_not_owned {i : Nat} {c : Chunk w0.heap.size} (hi : cs[i]? = some c) (hro : c.ro = true) : ∀ k ∈ c.blocks, k ∉ owned cs := by
  intro k hk hm
  obtain ⟨j, d, hj, hd, hkd⟩ := mem_owned hm
  refine H.apart i j c d hi hj ?_ (.inr hd) k hk hkd
  rintro rfl
  rw [hi] at hj
  cases hj
  rw [hro] at hd; cases hd

theorem Has.linksAt {i lb : Nat} {v : Value} {ls : List Int} (hi : cs[i]? = some (linksC _ lb v ls)) {A : List Nat} (hA : ∀ x ∈ A, x ∈ owned cs) : LinksAt w A lb ls := by
  have h := H.get i hi
  have hno := H.ro_not_owned hi rfl
  refine ⟨blk_lt h.1, fun q => hno lb (by simp [linksC]) (hA _ q), v, h.1, ?_⟩
  obtain ⟨a, cap, hv, hc, hx⟩ := h.2
  by_cases hne : ls = []
  · exact ⟨a, cap, hv, hc, .inl hne⟩
  · obtain ⟨b, off, ha, hb, hn, hcell⟩ := hx.resolve_left hne
    exact ⟨a, cap, hv, hc, .inr ⟨b, off, ha, hb, fun q => hno b (by simp [linksC, slC, hne, hv, ha, Value.ownBlock]) (hA _ q), hcell⟩⟩

theorem Has.linkSl (i : Nat) {lb : Nat} {v : Value} {ls : List Int} (hi : cs[i]? = some (linksC _ lb v ls)) : Sl w [] .i64 v ls := (H.get i hi).2

theorem Links_h {v : Value} {ls : List Int} (h : Sl w (owned cs) .i64 v ls) :
    Calls Try.prog 11 #[v] w fun e w' => ∃ lb, e = .returned (linkV lb) ∧ Has w0 w' (cs ++ [linksC _ lb v ls]) := by
  have hsl := Lib.hid h
  obtain ⟨a, cap, rfl, hc, hx⟩ := h
  clear hx
  go_enter Try.func11, Try.ntmps11
  go_wp2
  go_ret
  refine ⟨_, rfl, H.addRoAt _ rfl (below_box w (.cells #[.slice a ls.length cap] 23) 0) (fun k hk => ?_) ⟨blk_new w (.cells #[.slice a ls.length cap] 23) 0, sl_weak (sl_below hsl.out (below_box w _ 0)) (by simp)⟩⟩
  rcases List.mem_cons.1 hk with rfl | q
  · exact ⟨fun q => absurd (H.owned_lt _ q) (by omega), by simp⟩
  · have := slC_blocks (n0 := w0.heap.size) hsl.out k q
    exact ⟨this.1, Nat.lt_of_lt_of_le this.2 (by simp)⟩

theorem Step_h (i j k : Nat) {sb g mb lb : Nat} {l ls : List Int} {n : Int} {m : Mac} {v : Value} (hi : cs[i]? = some (storeC _ sb g l n)) (hj : cs[j]? = some (machC _ mb lb m)) (hk : cs[k]? = some (linksC _ lb v ls)) (hw : Ws l) (hm : MacOk m) (hl : ls.length < 1000000000000) :
    Calls Try.prog 18 #[.pointer (some ⟨mb, 0, none⟩), .pointer (some ⟨sb, 0, none⟩)] w fun e w' => e = .returned (.bool ((mstep ls l m).2.pc == 0)) ∧
      Has w0 w' ((cs.set i (storeC _ sb g (mstep ls l m).1 (mcount m n))).set j (machC _ mb lb (mstep ls l m).2)) := by
  have hij : i ≠ j := by
    rintro rfl; rw [hi] at hj
    have := congrArg (fun c => c.map (fun c => c.blocks.length)) hj
    simp [storeC, machC] at this
  have hap : mb ∉ [sb, g] := fun q => H.apart j i _ _ hj hi (Ne.symm hij) (.inl rfl) mb (by simp [machC]) (by simpa [storeC] using q)
  refine (Step_c sb g mb lb l ls n m w (H.get i hi) (H.get j hj) hap hw hm (H.linksAt hk (fun x hx => ?_)) hl).mono fun e w' ⟨he, h1, h2, u⟩ => ⟨he, H.set2 _ _ hi hj hij rfl rfl u (fun k hk => ?_) (fun _ h => h) (fun _ h => h) h2 h1⟩
  · simp only [List.mem_cons, List.not_mem_nil, or_false] at hx
    rcases hx with rfl | rfl | rfl
    · exact owned_mem hi rfl (by simp [storeC])
    · exact owned_mem hi rfl (by simp [storeC])
    · exact owned_mem hj rfl (by simp [machC])
  · simp [storeC, machC] at hk ⊢
    omega

theorem Push_h (lb : Nat) (head item : Int) (h0 : -9223372036854775808 ≤ item) (h1 : item < 9223372036854775808) :
    Calls Try.prog 15 #[.int .i64 head, linkV lb, .int .i64 item] w fun e w' => ∃ mb, e = .returned (.pointer (some ⟨mb, 0, none⟩)) ∧ Has w0 w' (cs ++ [machC _ mb lb (pushM head item)]) :=
  (Push_c lb head item w h0 h1).mono fun _ _ ⟨he, hm, hz, b⟩ => ⟨_, he, H.add _ b (by simp [machC]; omega) hm⟩

theorem Pop_h (lb : Nat) (head : Int) :
    Calls Try.prog 14 #[.int .i64 head, linkV lb] w fun e w' => ∃ mb, e = .returned (.pointer (some ⟨mb, 0, none⟩)) ∧ Has w0 w' (cs ++ [machC _ mb lb (popM head)]) :=
  (Pop_c lb head w).mono fun _ _ ⟨he, hm, hz, b⟩ => ⟨_, he, H.add _ b (by simp [machC]; omega) hm⟩

theorem Item_h (j : Nat) {mb lb : Nat} {m : Mac} (hj : cs[j]? = some (machC _ mb lb m)) (hm : MacOk m) : Calls Try.prog 22 #[.pointer (some ⟨mb, 0, none⟩)] w fun e w' => e = .returned (.int .i64 (mitem m)) ∧ w' = w := Item_c mb lb m w (H.get j hj) hm
theorem Tries_h (j : Nat) {mb lb : Nat} {m : Mac} (hj : cs[j]? = some (machC _ mb lb m)) : Calls Try.prog 17 #[.pointer (some ⟨mb, 0, none⟩)] w fun e w' => e = .returned (.int .i64 m.tries) ∧ w' = w := Tries_c mb lb m w (H.get j hj)

theorem RStep_h (i : Nat) {la : Option Addr} {lc : Nat} {mv : Value} {kind : Int} {m : Mac} {l ls : List Int} (hi : cs[i]? = some (slC _ .u64 mv l)) (hl : l.length < 1000000000000) {A2 : List Nat} (hL : Sl w A2 .i64 (.slice la ls.length lc) ls) (hll : ls.length < 1000000000000) (hw : Ws l) (hk : MacOk m) (hkd : kindOk kind m) :
    Calls Try.prog 26 #[mv, refV la ls.length lc kind m] w fun e w' => ∃ mv', e = .returned (.tuple #[mv', refV la ls.length lc kind (mstep ls l m).2]) ∧ Has w0 w' (cs.set i (slC _ .u64 mv' (mstep ls l m).1)) :=
  (RStep_c la lc mv kind m l ls w (H.sl i hi) H.owned_lt hl hL hll hw hk hkd).mono fun _ _ ⟨mv', he, hs, b⟩ => ⟨mv', he, H.setSl i hi b hs⟩
end

theorem RItem_c (la : Option Addr) (ln lc : Nat) (kind : Int) (m : Mac) (w : World) (hm : MacOk m) :
    Calls Try.prog 27 #[refV la ln lc kind m] w fun e w' => e = .returned (.int .i64 (mitem m)) ∧ Below w.heap.size w w' := by
  obtain ⟨hd, it, h, pc, lk, tr⟩ := m
  obtain ⟨k0, k1, k2, k3, k4, k5⟩ := hm
  dsimp only at k0 k1
  have e1 : IntKind.i64.wrap it = it := wrapi64_id _ (by omega) (by omega)
  simp only [refV, mitem]
  match pc with
  | 0 => all_goals (simp only [rpc]; go_enter Try.func27, Try.ntmps27; go_wp2_with fail; go_ret; exact ⟨rfl, below_box w _ 0⟩)
  | 1 => all_goals (simp only [rpc]; go_enter Try.func27, Try.ntmps27; go_wp2_with fail; go_ret; exact ⟨rfl, below_box w _ 0⟩)
  | 2 => all_goals (simp only [rpc]; go_enter Try.func27, Try.ntmps27; go_wp2_with fail; go_ret; exact ⟨rfl, below_box w _ 0⟩)
  | 3 => all_goals (simp only [rpc]; go_enter Try.func27, Try.ntmps27; go_wp2_with fail; go_ret; exact ⟨rfl, below_box w _ 0⟩)
  | 4 => all_goals (simp only [rpc]; go_enter Try.func27, Try.ntmps27; go_wp2_with fail; go_ret; exact ⟨rfl, below_box w _ 0⟩)
  | 5 => all_goals (simp only [rpc]; go_enter Try.func27, Try.ntmps27; go_wp2_with fail; go_ret; exact ⟨rfl, below_box w _ 0⟩)
  | k + 6 =>
    have e : rpc (k + 6) = 3 := rfl
    rw [e]
    clear e
    go_enter Try.func27, Try.ntmps27
    go_wp2_with fail
    go_ret
    exact ⟨rfl, below_box w _ 0⟩

theorem RPop_c (la : Option Addr) (ln lc : Nat) (hd : Int) (w : World) :
    Calls Try.prog 23 #[.agg #[.int .i64 hd, .slice la ln lc]] w fun e w' => e = .returned (refV la ln lc 2 (popM hd)) ∧ Below w.heap.size w w' := by
  go_enter Try.func23, Try.ntmps23
  go_wp2_with fail
  refine bodyPost_ret (v := refV la ln lc 2 (popM hd)) (by simp [refV, popM, rpc, results, Try.results23, go_sem]) rfl ⟨rfl, ?_⟩
  repeat (first | with_reducible exact Below.refl _ _ | (with_reducible refine Below.setCell (B := w.heap.size) ?_ (by simp) _) | (with_reducible refine Below.alloc (B := w.heap.size) ?_ (by simp) _))

theorem RPush_c (la : Option Addr) (ln lc : Nat) (hd item : Int) (w : World) :
    Calls Try.prog 24 #[.agg #[.int .i64 hd, .slice la ln lc], .int .i64 item] w fun e w' => e = .returned (refV la ln lc 1 (pushM hd item)) ∧ Below w.heap.size w w' := by
  have ei : ∀ P : Int → Prop, P (itemOf item) → P (itemOf item) := fun _ h => h
  by_cases h0 : item < 0
  · have E : itemOf item = 0 := by unfold itemOf; rw [if_neg (by omega)]
    simp only [refV, pushM, rpc, E]
    clear E ei
    go_enter Try.func24, Try.ntmps24
    go_wp2_with fail
    refine bodyPost_ret (v := .agg #[.int .i64 1, .int .i64 1, .int .i64 hd, .slice la ln lc, .int .u32 0, .int .u64 0, .int .u32 0, .int .i64 0]) (by simp [results, Try.results24, go_sem]) rfl ⟨rfl, ?_⟩
    repeat (first | with_reducible exact Below.refl _ _ | (with_reducible refine Below.setCell (B := w.heap.size) ?_ (by simp) _) | (with_reducible refine Below.alloc (B := w.heap.size) ?_ (by simp) _))
  · have g0 : decide (item < 0) = false := by simpa using h0
    by_cases h1 : 4294967295 < item
    · have E : itemOf item = 0 := by unfold itemOf; rw [if_neg (by omega)]
      simp only [refV, pushM, rpc, E]
      clear E ei
      go_enter Try.func24, Try.ntmps24
      go_wp2_with fail
      refine bodyPost_ret (v := .agg #[.int .i64 1, .int .i64 1, .int .i64 hd, .slice la ln lc, .int .u32 0, .int .u64 0, .int .u32 0, .int .i64 0]) (by simp [results, Try.results24, go_sem]) rfl ⟨rfl, ?_⟩
      repeat (first | with_reducible exact Below.refl _ _ | (with_reducible refine Below.setCell (B := w.heap.size) ?_ (by simp) _) | (with_reducible refine Below.alloc (B := w.heap.size) ?_ (by simp) _))
    · have g1 : decide (4294967295 < item) = false := by simpa using h1
      have E : itemOf item = item := by unfold itemOf; rw [if_pos (by omega)]
      have e2 : IntKind.u32.wrap item = item := wrapu32_id _ (by omega) (by omega)
      simp only [refV, pushM, rpc, E]
      clear E ei
      go_enter Try.func24, Try.ntmps24
      go_wp2_with fail
      refine bodyPost_ret (v := .agg #[.int .i64 1, .int .i64 1, .int .i64 hd, .slice la ln lc, .int .u32 item, .int .u64 0, .int .u32 0, .int .i64 0]) (by simp [results, Try.results24, go_sem]) rfl ⟨rfl, ?_⟩
      repeat (first | with_reducible exact Below.refl _ _ | (with_reducible refine Below.setCell (B := w.heap.size) ?_ (by simp) _) | (with_reducible refine Below.alloc (B := w.heap.size) ?_ (by simp) _))

end Go.Proofs.Ytaciapjohakpgaa

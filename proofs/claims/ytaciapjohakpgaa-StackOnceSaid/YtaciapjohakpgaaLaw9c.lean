/- The walk of StackAlone: it answers true, and nothing that was there is changed. No condition but that the arguments can be read. -/
import Derived.Test.YtaciapjohakpgaaLaw9b
import Derived.Test.YtaciapjohakpgaaChain9
import Derived.Test.YtaciapjohakpgaaVals
set_option linter.unusedVariables false
namespace Go.Proofs.Ytaciapjohakpgaa
open Go.ChangeShapes Go.WideShapes Go.ChangeAt Go.RowKit

theorem el_u64v : ElemOf Try.prog 22 37 (.int .u64 0) 1 8 := el_u64
theorem el_bool : ElemOf Try.prog 48 4 (.bool false) 1 1 := elemOf Try.underlying48 (by kernel_rfl)

/-- What holds of the words, the things and the marks between two rounds. -/
structure Alone (M R : List Int) (I : List Bool) (T : Int) : Prop where
  len : M.length = 10
  ws : Ws M
  chain : Chain M 0 R
  items : Items R
  nodup : R.Nodup
  ilen : I.length = 10
  marks : ∀ x : Nat, 1 ≤ x → x ≤ 8 → I[x]? = some (decide ((x : Int) ∈ R))
  turns : mld M 0 / 4294967296 = T

theorem alone0 : Alone (List.replicate 10 0) [] (List.replicate 10 false) 0 := by
  refine ⟨rfl, ?_, rfl, by intro x hx; simp at hx, List.nodup_nil, rfl, ?_, rfl⟩
  · intro x hx; have := List.eq_of_mem_replicate hx; omega
  · intro x h1 h2; rw [List.getElem?_replicate, if_pos (by omega)]; simp

theorem alone_push {M R : List Int} {I : List Bool} {T : Int} (h : Alone M R I T) (x : Nat) (h1 : 1 ≤ x) (h8 : x ≤ 8) (hn : (x : Int) ∉ R) (hT : 0 ≤ T ∧ T < 1000) :
    Alone (mput (mput M x (mld M 0 % 4294967296)) 0 (wTurn (mld M 0) x)) ((x : Int) :: R) (I.set x true) (T + 1) := by
  have hw := ws_mld h.ws 0
  have tk := wTurn_ok (mld M 0) x (by omega) (by omega)
  have hr : (0 : Int) ≤ 0 ∧ (0 : Int) < (mput M x (mld M 0 % 4294967296)).length := by rw [mput_length, h.len]; omega
  refine ⟨by rw [mput_length, mput_length, h.len], ws_mput (ws_mput h.ws _ _ (by omega) (by omega)) _ _ tk.1 tk.2, chain_push M h.len R x h.chain h.items ⟨by omega, by omega⟩ hn, ?_, List.nodup_cons.2 ⟨hn, h.nodup⟩, by rw [List.length_set, h.ilen], ?_, ?_⟩
  · intro y hy
    rcases List.mem_cons.1 hy with rfl | q
    · omega
    · exact h.items y q
  · intro y y1 y8
    by_cases hxy : x = y
    · subst hxy
      rw [List.getElem?_set_self (by rw [h.ilen]; omega)]
      simp
    · rw [List.getElem?_set_ne hxy, h.marks y y1 y8]
      have : ¬ (y : Int) = (x : Int) := by omega
      simp [this]
  · rw [mld_mput_same hr, wTurn_high _ _ (by omega) (by omega), h.turns]
    omega

theorem alone_pop {M R : List Int} {I : List Bool} {T x : Int} (h : Alone M (x :: R) I T) (hT : 0 ≤ T ∧ T < 1000) :
    Alone (mput M 0 (wTurn (mld M 0) (mld M x % 4294967296))) R (I.set x.toNat false) (T + 1) := by
  have hx := h.items x (by simp)
  have hw := ws_mld h.ws 0
  have tk := wTurn_ok (mld M 0) (mld M x % 4294967296) (by omega) (by omega)
  have hr : (0 : Int) ≤ 0 ∧ (0 : Int) < M.length := by rw [h.len]; omega
  have hnd := List.nodup_cons.1 h.nodup
  refine ⟨by rw [mput_length, h.len], ws_mput h.ws _ _ tk.1 tk.2, chain_pop M h.len R x h.chain h.items, fun y hy => h.items y (by simp [hy]), hnd.2, by rw [List.length_set, h.ilen], ?_, ?_⟩
  · intro y y1 y8
    by_cases hxy : x.toNat = y
    · subst hxy
      have e : ((x.toNat : Nat) : Int) = x := by omega
      rw [List.getElem?_set_self (by rw [h.ilen]; omega), e]
      simp [hnd.1]
    · rw [List.getElem?_set_ne hxy, h.marks y y1 y8]
      have : ¬ (y : Int) = x := by omega
      simp [this]
  · rw [mld_mput_same hr, wTurn_high _ _ (by omega) (by omega), h.turns]
    omega


theorem ownV_cap {w : World} {B : Nat} {e : TypeId} {a : Option Addr} {n c : Nat} {vs : List Value} (h : OwnV w B e (.slice a n c) vs) : vs.length ≤ c := by
  rcases h.2 with ⟨hv, hn⟩ | ⟨g, cap, cur, hv, hB, hg, hc, _⟩
  · rw [hn]; exact Nat.zero_le _
  · simp only [Value.slice.injEq] at hv
    rw [hv.2.2]; exact hc

theorem size_setCell (w : World) (p : Addr) (v : Value) : (w.setCell p v).heap.size = w.heap.size := by simp [World.setCell]
theorem ownV_sliceR {w : World} {B : Nat} {e : TypeId} {v : Value} {k : IntKind} {R : List Int} (h : OwnV w B e v (R.reverse.map (Value.int k))) : ∃ a c, v = .slice a R.length c := by simpa using ownV_slice h

theorem upd_grown {w0 w w' : World} {S : List Nat} {e : TypeId} {v : Value} {vs : List Value} (u : Upd S w0 w) (h : OwnV w w0.heap.size e v vs) (hg : w.grownBy w' v.ownBlock) : Upd S w0 w' := by
  have b : Below w0.heap.size w w' := below_ownV (Below.refl _ _) h hg u.size
  exact ⟨b.os.trans u.os, b.tape.trans u.tape, b.output.trans u.output, Nat.le_trans u.size b.size, fun k hk hn => (b.block k hk).trans (u.block k hk hn)⟩

theorem store_grown {w w' : World} {sb g B : Nat} {l : List Int} {n : Int} {e : TypeId} {v : Value} {vs : List Value} (h : StoreAt w sb g l n) (ho : OwnV w B e v vs) (hg : w.grownBy w' v.ownBlock) (hB : B ≤ w.heap.size) (h1 : sb < B) (h2 : g < B) : StoreAt w' sb g l n := by
  have b : Below B w w' := below_ownV (Below.refl _ _) ho hg hB
  obtain ⟨a, cap, hb, hl⟩ := h
  refine ⟨a, cap, (b.block _ h1).trans hb, hl.imp id fun ⟨q0, q1, cur, q2, q3⟩ => ⟨q0, q1, cur, (b.block _ h2).trans q2, q3⟩⟩

theorem own_upd_at {w w' : World} {B g n c : Nat} {e : TypeId} {vs : List Value} {S : List Nat} (h : OwnV w B e (.slice (some ⟨g, 0, none⟩) n c) vs) (u : Upd S w w') (hn : g ∉ S) : OwnV w' B e (.slice (some ⟨g, 0, none⟩) n c) vs := by
  refine ⟨h.1, h.2.imp id fun ⟨g', cap, cur, hv, hB, hg, r⟩ => ⟨g', cap, cur, hv, hB, u.blk hg fun hm => ?_, r⟩⟩
  simp only [Value.slice.injEq, Option.some.injEq, Addr.mk.injEq, and_true] at hv
  obtain ⟨rfl, _⟩ := hv
  exact hn hm

theorem own_grown_at {w w' : World} {B B2 g n c : Nat} {e e2 : TypeId} {vs vs2 : List Value} {v : Value} (h : OwnV w B e (.slice (some ⟨g, 0, none⟩) n c) vs) (ho : OwnV w B2 e2 v vs2) (hg : w.grownBy w' v.ownBlock) (hB : B2 ≤ w.heap.size) (hgb : g < B2) : OwnV w' B e (.slice (some ⟨g, 0, none⟩) n c) vs := by
  have b : Below B2 w w' := below_ownV (Below.refl _ _) ho hg hB
  refine ⟨h.1, h.2.imp id fun ⟨g', cap, cur, hv, q, hgg, r⟩ => ⟨g', cap, cur, hv, q, ?_, r⟩⟩
  have hv' := hv
  simp only [Value.slice.injEq, Option.some.injEq, Addr.mk.injEq, and_true] at hv'
  obtain ⟨rfl, _⟩ := hv'
  exact (b.block _ hgb).trans hgg

set_option maxRecDepth 100000 in
set_option maxHeartbeats 8000000 in
theorem alone_walk (l : List Int) (a : Option Addr) (cap : Nat) (w : World) (hsl : Sl w [] .u8 (.slice a l.length cap) l) (hwf : ∀ x ∈ l, 0 ≤ x ∧ x < 256) (h1 : ¬ (100 : Int) < (l.length : Int)) :
    Calls Try.prog 5 #[.slice a l.length cap] w fun e w' => e = .returned (.bool true) ∧ Below w.heap.size w w' := by
  have g1 : decide ((100 : Int) < (l.length : Int)) = false := by simpa using h1
  have SL := Lib.hid hsl
  have WF := Lib.hid hwf
  clear hwf
  go_enter Try.func5, Try.ntmps5
  go_wp2_with fail
  refine (awake9 w).mono ?_
  rintro e w0 ⟨rfl, b0⟩
  have z0 := b0.size
  go_wp2_with fail
  refine (Row_c 9 _ (by decide)).mono ?_
  rintro e w1 ⟨v1, rfl, hown1, b1⟩
  have sl1 : Sl w1 [] .i64 v1 (rowL 9) := sl_of_new (slNew_of_own hown1) (by simp)
  have b01 := b0.trans (b1.mono z0)
  have z1 := b01.size
  go_wp2_with fail
  refine (Links_c (A := []) _ _ _ (by simp) sl1).mono ?_
  rintro e w2 ⟨rfl, L2, b2⟩
  have b02 := b01.trans (b2.mono z1)
  have z2 := b02.size
  have z12 := b2.size
  have L2lt := L2.1
  clear b0 b1 b01 hown1 sl1 b2
  go_wp2_with (refine wpl_makeV rfl (.const (.int .i64 10)) (.const (.int .i64 10)) rfl el_u64v rfl (by decide) 10 rfl rfl (by decide) ?_; intro w3 ho3 b3)
  have sl3 : Sl w3 [] .u64 (.slice (some ⟨w2.heap.size, 0, none⟩) (List.replicate 10 (0 : Int)).length 10) (List.replicate 10 0) := sl_of_ownV (B := w2.heap.size) (e := 37) (by simpa using ho3) (by simp)
  have L3 := links_upd (S := []) (A' := []) L2 (Upd.of_below b3) (by simp) (by simp)
  have b03 := b02.trans (b3.mono z2)
  have z3 := b03.size
  have z23 := b3.size
  clear ho3 b3 L2 b02
  refine (New_c _ _ _ sl3 (by decide)).mono ?_
  rintro e w4 ⟨sb, g, rfl, hsb, hg, hlt, hltg, s4, b4⟩
  have L4 := links_upd (S := []) (A' := [sb, g]) L3 (Upd.of_below b4) (by simp) (by simp <;> omega)
  have b04 := b03.trans (b4.mono z3)
  have z4 := b04.size
  have z34 := b4.size
  clear b4 L3 b03 sl3
  go_wp2_with (refine wpl_makeV rfl (.const (.int .i64 10)) (.const (.int .i64 10)) rfl el_bool rfl (by decide) 10 rfl rfl (by decide) ?_; intro w5 oi5 b5)
  have s5 := store_upd (S := []) s4 (Upd.of_below b5) (by simp) (by simp)
  have L5 := links_upd (S := []) (A' := [sb, g, w4.heap.size]) L4 (Upd.of_below b5) (by simp) (by simp)
  have b05 := b04.trans (b5.mono z4)
  have z5 := b05.size
  have z45 := b5.size
  have gi5 : w4.heap.size < w5.heap.size := (ownV_at oi5 (by simp)).elim fun g h => by have := h.1; simp at this; omega
  clear b5 s4 L4 b04
  go_wp2_with fail
  go_loopw [6, 8, 9] (fun lv tv iv wr => ∃ (k : Nat) (M R : List Int) (I : List Bool) (T n : Int), k ≤ l.length ∧ iv = .int .i64 k ∧ tv = .int .u64 T ∧ 0 ≤ T ∧ T ≤ k ∧ Alone M R I T ∧ StoreAt wr sb g M n ∧ OwnV wr w5.heap.size 3 lv (R.reverse.map (Value.int .i64)) ∧ OwnV wr w4.heap.size 4 (.slice (some ⟨w4.heap.size, 0, none⟩) 10 10) (I.map Value.bool) ∧ Upd [sb, g, w4.heap.size] w5 wr) (fun _ _ i _ => l.length - (intOf i).toNat)
  case atStart => exact ⟨0, List.replicate 10 0, [], List.replicate 10 false, 0, 0, Nat.zero_le _, rfl, rfl, by omega, by simp, alone0, s5, ownV_nil _ _ _, by simpa using oi5, Upd.refl _ _⟩
  case round =>
    obtain ⟨k, M, R, I, T, n, hk, rfl, rfl, t0, tk, al, st, ol, oi, uw⟩ := hrel
    have zr := uw.size
    obtain ⟨la, lc, rfl⟩ := ownV_sliceR ol
    by_cases hlt : k < l.length
    · have bw := Upd.below_from b05 uw (by simp <;> omega)
      obtain ⟨b, off, rfl, hbb, hbn, hcell⟩ := sl_at SL.out (by rintro rfl; simp at hlt)
      obtain ⟨ac, hac⟩ : ∃ ac, l[k]? = some ac := ⟨l[k], by simp [hlt]⟩
      have hc := (bw.cell (p := ⟨b, off + k, none⟩) hbb).trans (hcell k ac hac)
      obtain ⟨a0, a1⟩ := WF.out ac (List.mem_of_getElem? hac)
      obtain ⟨it, hit⟩ : ∃ it : Nat, ac % 8 + 1 = (it : Int) := ⟨(ac % 8 + 1).toNat, by omega⟩
      have i1 : 1 ≤ it ∧ it ≤ 8 := by omega
      have f1 : ac.tmod 8 = ac % 8 := tmod_nonneg _ _ a0 (by omega)
      have f2 : IntKind.i64.wrap (ac % 8) = ac % 8 := wrapi64_id _ (by omega) (by omega)
      have f3 : wrap64 (ac % 8 + 1) = ac % 8 + 1 := wrap64_id _ (by omega) (by omega)
      have f7 : (ac % 8 + 1).toNat = it := by omega
      have f8 : ac % 8 + 1 < 10 := by omega
      have f9 : 0 ≤ ac % 8 + 1 := by omega
      have f4 : (k : Int) < (l.length : Int) := by omega
      have f5 : it < 10 := by omega
      have f6 : IntKind.u64.wrap (T + 1) = T + 1 := wrapu64_id _ (by omega) (by omega)
      obtain ⟨_, he1, -, -, -, hci, hfi⟩ := ownV_at oi (by intro q; have := congrArg List.length q; rw [List.length_map, al.ilen] at this; simp at this)
      simp only [Option.some.injEq, Addr.mk.injEq, and_true] at he1
      subst he1
      have hmk : w.drew = w.drew := rfl
      have hci1 : wr.cell? ⟨w4.heap.size, (ac % 8 + 1).toNat, none⟩ = some (.bool (decide ((it : Int) ∈ R))) := by rw [f7]; exact hci it (.bool (decide ((it : Int) ∈ R))) (by rw [List.getElem?_map, al.marks it i1.1 i1.2]; rfl)
      have HIT := Lib.hid hit
      have HIN := Lib.hid f7
      clear hci hcell hit hmk f7
      by_cases hp : ac < 128 ∧ (it : Int) ∉ R
      · have p1 := hp.1
        have p2 : decide ((it : Int) ∈ R) = false := by simpa using hp.2
        rw [p2] at hci1
        have hrun := run_push (rowL 9) M (ac % 8 + 1) (by rw [al.len]; decide) (by unfold itemOf; rw [if_pos (by omega)]) (by rw [lkrow 9 _ (by omega)]; omega)
        rw [lkrow 9 (ac % 8 + 1) (by omega)] at hrun
        have HRun := Lib.hid hrun
        have al' := alone_push al it i1.1 i1.2 hp.2 (by omega)
        rw [← HIT.out, ← HIN.out] at al'
        clear hrun
        go_wp2_with fail
        refine (Push_c w1.heap.size 0 (ac % 8 + 1) _ (by omega) (by omega)).mono ?_
        rintro e p1 ⟨rfl, m1, zp1, bp1⟩
        have up1 := Upd.of_below (S := []) bp1
        have uw1 := uw.trans (Upd.of_below (S := [sb, g, w4.heap.size]) bp1)
        have B1 : Bun p1 sb g wr.heap.size w1.heap.size M (rowL 9) n (pushM 0 (ac % 8 + 1)) := ⟨store_upd st up1 (by simp) (by simp), m1, by simp <;> omega, al.ws, pushM_ok _ _, links_upd L5 uw1 (fun y hy => .inl hy) (by simp <;> omega), by decide⟩
        clear m1 up1 uw1
        go_wp2_with fail
        refine (whole_c _ _ _ _ _ _ _ _ _ B1).mono ?_
        rintro e p2 ⟨rfl, ⟨n2, B2⟩, u2⟩
        rw [HRun.out] at B2 ⊢
        have hmi : mitem (Mac.mk 0 (ac % 8 + 1) (mld M 0) 0 (mld M 0 % 4294967296) 1) = ac % 8 + 1 := rfl
        dsimp only
        rw [hmi]
        have u12 : Upd [sb, g] wr p2 := (Upd.of_below bp1).trans_new u2 (by simp)
        have ol2 := ownV_upd ol u12 (by simp <;> omega)
        have oi2 := own_upd_at oi u12 (by simp <;> omega)
        have uw2 := uw.trans (u12.mono (by simp))
        have zp2 := u12.size
        clear u2 bp1 B1 u12 hmi hci1 hfi
        obtain ⟨_, he2, -, -, -, hci2, hfi2⟩ := ownV_at oi2 (by intro q; have := congrArg List.length q; rw [List.length_map, al.ilen] at this; simp at this)
        simp only [Option.some.injEq, Addr.mk.injEq, and_true] at he2
        subst he2
        have ci2 : p2.cell? ⟨w4.heap.size, (ac % 8 + 1).toNat, none⟩ = some (.bool (decide ((it : Int) ∈ R))) := by rw [HIN.out]; exact hci2 it (.bool (decide ((it : Int) ∈ R))) (by rw [List.getElem?_map, al.marks it i1.1 i1.2]; rfl)
        clear hci2
        have us3 : Upd [w4.heap.size] p2 (p2.setCell ⟨w4.heap.size, (ac % 8 + 1).toNat, none⟩ (.bool true)) := (Upd.refl _ _).setCell (by simp) _
        have ol3 := ownV_upd ol2 us3 (by simp <;> omega)
        have oi3 := ownV_set oi2 (ac % 8 + 1).toNat (.bool true)
        have st3 := store_upd B2.store us3 (by simp <;> omega) (by simp <;> omega)
        have uw3 := uw2.trans (us3.mono (by simp))
        have hlr : (R.reverse.map (Value.int .i64)).length < 1000000000000 := by have := items_len al.items al.nodup; simp; omega
        have zp3 := uw3.size
        have HH := Lib.hid (And.intro (And.intro ol3 oi3) (And.intro st3 uw3))
        clear ol3 oi3 st3 uw3 us3 oi2 ol2 uw2 B2
        go_wp2_with (at_builtin; refine wpl_appendV rfl (.tmp 60) (.tmp 62) rfl el_int rfl (by decide) w5.heap.size (.slice la R.length lc) _ rfl HH.out.1.1 (.int .i64 (ac % 8 + 1)) (by show Value.slice (some ⟨p2.heap.size, 0, none⟩) 1 1 = _; rw [size_setCell]) rfl hlr zp3 ?_; intro v4 p4 ho4 hg4; have HG := Lib.hid hg4; clear hg4 ci2 hfi2)
        have ol4 : OwnV p4 w5.heap.size 3 v4 (((ac % 8 + 1) :: R).reverse.map (Value.int .i64)) := by simpa using ho4
        have st4 := store_grown HH.out.2.1 HH.out.1.1 HG.out zp3 (by omega) (by omega)
        have oi4 := own_grown_at HH.out.1.2 HH.out.1.1 HG.out zp3 gi5
        have uw4 := upd_grown HH.out.2.2 HH.out.1.1 HG.out
        clear ho4 HG HH
        obtain ⟨M5, R5, I5, n5, al5, st5, ol5, oi5⟩ : ∃ M5 R5 I5 n5, Alone M5 R5 I5 (T + 1) ∧ StoreAt p4 sb g M5 n5 ∧ OwnV p4 w5.heap.size 3 v4 (R5.reverse.map (Value.int .i64)) ∧ OwnV p4 w4.heap.size 4 (.slice (some ⟨w4.heap.size, 0, none⟩) 10 10) (I5.map Value.bool) := ⟨_, _, _, _, al', st4, ol4, by rw [List.map_set]; exact oi4⟩
        have uw5 := uw4
        obtain ⟨la5, lc5, rfl⟩ := ownV_sliceR ol5
        clear st4 ol4 oi4 uw4 al' st ol oi uw

        have zw := uw5.size
        refine (All_c _ _ _ _ _ st5 (by rw [al5.len]; decide)).mono ?_
        rintro e w6 ⟨v6, rfl, hv6, b6⟩
        have sl6 := sl_of_new (A := []) hv6 (by simp)
        have st6 := store_upd (S := []) st5 (Upd.of_below b6) (by simp) (by simp)
        have ol6 := ownV_upd (S := []) ol5 (Upd.of_below b6) (by simp)
        have oi6 := own_upd_at (S := []) oi5 (Upd.of_below b6) (by simp)
        have uw6 := uw5.trans (Upd.of_below (S := [sb, g, w4.heap.size]) b6)
        have zw6 := b6.size
        clear hv6 b6 st5 ol5 oi5 uw5
        obtain ⟨a6, c6, rfl, hc6, hx6⟩ := id sl6
        clear hc6 hx6
        go_wp2_with fail
        refine (Walk_c (A := [sb, g, w4.heap.size]) _ _ _ _ _ _ _ _ sl6 (links_upd L5 uw6 (fun y hy => .inl hy) (fun y hy => .inl hy)) (by decide) (by decide)).mono ?_
        rintro e w7 ⟨v7, rfl, hv7, _, b7⟩
        have hwk := walk_chain _ al5.len _ (20 : Int).toNat 0 al5.chain al5.items (by omega) (by have := items_len al5.items al5.nodup; simp at this ⊢; omega)
        rw [hwk] at hv7
        have st7 := store_upd (S := []) st6 (Upd.of_below b7) (by simp) (by simp)
        have ol7 := ownV_upd (S := []) ol6 (Upd.of_below b7) (by simp)
        have oi7 := own_upd_at (S := []) oi6 (Upd.of_below b7) (by simp)
        have uw7 := uw6.trans (Upd.of_below (S := [sb, g, w4.heap.size]) b7)
        have zw7 := b7.size
        clear b7 st6 ol6 oi6 uw6 hwk sl6
        obtain ⟨a7, c7, rfl⟩ := own_slice hv7
        have hv7' := ownI_iff.1 hv7
        have hne : ((R5.length : Int) != (R5.length : Int)) = false := by simp
        have hR8 : R5.length ≤ 8 := items_len al5.items al5.nodup
        have hq : (mld M5 0).tdiv 4294967296 = T + 1 := by rw [Int.tdiv_eq_ediv_of_nonneg (ws_mld al5.ws 0).1]; exact al5.turns
        have hq2 : mld M5 0 / 4294967296 = T + 1 := al5.turns
        clear hv7
        go_wp2_with fail
        refine (Load_c _ _ _ _ _ _ st7).mono ?_
        rintro e w8 ⟨rfl, st8, u8⟩
        have ol8 := ownV_upd ol7 u8 (by simp <;> omega)
        have oi8 := own_upd_at oi7 u8 (by simp <;> omega)
        have hv8 := ownV_upd hv7' u8 (by simp <;> omega)
        have uw8 := uw7.trans (u8.mono (by simp))
        have HO := Lib.hid (And.intro (And.intro ol8 oi8) (And.intro st8 uw8))
        have HV := Lib.hid (And.intro ol8 hv8)
        clear st7 ol7 oi7 uw7 hv7' ol8 oi8 hv8 uw8 st8 u8
        go_wp2_with fail
        go_loopw [13] (fun kv wq => ∃ j : Nat, j ≤ R5.length ∧ kv = .int .i64 j ∧ ∃ m, wq = w8.drewN m) (fun kv _ => R5.length - (intOf kv).toNat)
        case atStart => exact ⟨0, Nat.zero_le _, rfl, 0, rfl⟩
        case round =>
          obtain ⟨j, hj, rfl, m, rfl⟩ := hrel
          by_cases hjl : j < R5.length
          · obtain ⟨y, hy⟩ : ∃ y, R5[j]? = some y := ⟨R5[j], by simp [hjl]⟩
            obtain ⟨g7, rfl, -, -, -, hc7, -⟩ := ownV_at HV.out.2 (by intro q; have := congrArg List.length q; simp at this; rw [this] at hjl; simp at hjl)
            obtain ⟨gl2, rfl, -, -, -, hcl, -⟩ := ownV_at HV.out.1 (by intro q; have := congrArg List.length q; simp at this; rw [this] at hjl; simp at hjl)
            
            have d1 := hc7 j (.int .i64 y) (by rw [List.getElem?_map, hy]; rfl)
            have d2 := hcl (R5.length - 1 - j) (.int .i64 y) (by rw [List.getElem?_map, List.getElem?_reverse (by omega), show R5.length - 1 - (R5.length - 1 - j) = j by omega, hy]; rfl)
            have e1 : wrap64 ((R5.length : Int) - 1) = (R5.length : Int) - 1 := wrap64_id _ (by omega) (by have := items_len al5.items al5.nodup; omega)
            have e2 : wrap64 ((R5.length : Int) - 1 - (j : Int)) = (R5.length : Int) - 1 - (j : Int) := wrap64_id _ (by omega) (by have := items_len al5.items al5.nodup; omega)
            have e3 : ((R5.length : Int) - 1 - (j : Int)).toNat = R5.length - 1 - j := by omega
            have e4 : (j : Int) < (R5.length : Int) := by omega
            have e5 : 0 ≤ (R5.length : Int) - 1 - (j : Int) := by omega
            have e6 : (R5.length : Int) - 1 - (j : Int) < (R5.length : Int) := by omega
            have e7 : (y != y) = false := by simp
            clear hc7 hcl
            go_wp2
            go_quiet (fail)
            go_wp2
            go_roundw
            case rel => exact ⟨j + 1, by omega, by go_num, _, rfl⟩
            case measure => simp [intOf]; omega
          · have e4 : ¬ (j : Int) < (R5.length : Int) := by omega
            go_wp2_with fail
            go_roundw
            case rel => exact ⟨k + 1, M5, R5, I5, T + 1, _, by omega, by go_num, rfl, by omega, by omega, al5, store_drewN HO.out.2.1 m, HO.out.1.1, HO.out.1.2, HO.out.2.2.drewN m⟩
            case measure => simp [intOf]; omega
      · by_cases h128 : ac < 128
        · have hmem : (it : Int) ∈ R := Classical.byContradiction fun q => hp ⟨h128, q⟩
          have p2 : decide ((it : Int) ∈ R) = true := by simpa using hmem
          rw [p2] at hci1
          cases R with
          | nil => simp at hmem
          | cons x Rt =>
            have hx := al.items x (by simp)
            have htop : mld M 0 % 4294967296 = x := al.chain.1
            have hrun := run_pop (rowL 9) M (by rw [al.len]; decide) (by rw [htop]; omega)
            rw [htop, lkrow 9 x (by omega)] at hrun
            have HRun := Lib.hid hrun
            have hmi : mitem (Mac.mk 0 x (mld M 0) 0 (mld M x % 4294967296) 1) = x := rfl
            have al' := alone_pop al (by omega)
            clear hrun htop

            go_wp2_with fail
            refine (Pop_c w1.heap.size 0 _).mono ?_
            rintro e p1 ⟨rfl, m1, zp1, bp1⟩
            have up1 := Upd.of_below (S := []) bp1
            have uw1 := uw.trans (Upd.of_below (S := [sb, g, w4.heap.size]) bp1)
            have B1 : Bun p1 sb g wr.heap.size w1.heap.size M (rowL 9) n (popM 0) := ⟨store_upd st up1 (by simp) (by simp), m1, by simp <;> omega, al.ws, popM_ok _, links_upd L5 uw1 (fun y hy => .inl hy) (by simp <;> omega), by decide⟩
            clear m1 up1 uw1
            go_wp2_with fail
            refine (whole_c _ _ _ _ _ _ _ _ _ B1).mono ?_
            rintro e p2 ⟨rfl, ⟨n2, B2⟩, u2⟩
            rw [HRun.out] at B2 ⊢
            dsimp only
            rw [hmi]
            have u12 : Upd [sb, g] wr p2 := (Upd.of_below bp1).trans_new u2 (by simp)
            have ol2 := ownV_upd ol u12 (by simp <;> omega)
            have oi2 := own_upd_at oi u12 (by simp <;> omega)
            have uw2 := uw.trans (u12.mono (by simp))
            have zp2 := u12.size
            clear u2 bp1 B1 u12 hmi hci1 hfi ol oi uw st

            obtain ⟨gl, rfl, -, -, -, hcl, hfl⟩ := ownV_at ol2 (by simp)
            have hcap := ownV_cap ol2
            have c1 := hcl Rt.length (.int .i64 x) (by simp)
            obtain ⟨_, he2, -, -, -, hci2, hfi2⟩ := ownV_at oi2 (by intro q; have := congrArg List.length q; rw [List.length_map, al.ilen] at this; simp at this)
            simp only [Option.some.injEq, Addr.mk.injEq, and_true] at he2
            subst he2
            have ci2 : p2.cell? ⟨w4.heap.size, x.toNat, none⟩ = some (.bool true) := hci2 x.toNat _ (by rw [List.getElem?_map, al.marks x.toNat (by omega) (by omega), show ((x.toNat : Nat) : Int) = x by omega]; simp)
            have k1 : 0 ≤ x := by omega
            have k2 : x < 10 := by omega
            have k3 : Rt.length ≤ lc := by simp at hcap; omega
            have k4 : (x != x) = false := by simp
            have k5 : Rt.length ≤ 7 := by have hl8 := items_len al.items al.nodup; simp at hl8; omega
            clear hci2 hcl hcap
            have us3 : Upd [w4.heap.size] p2 (p2.setCell ⟨w4.heap.size, x.toNat, none⟩ (.bool false)) := (Upd.refl _ _).setCell (by simp) _
            have ol3 : OwnV (p2.setCell ⟨w4.heap.size, x.toNat, none⟩ (.bool false)) w5.heap.size 3 (.slice (some ⟨gl, 0, none⟩) Rt.length lc) (Rt.reverse.map (Value.int .i64)) := by
              have := ownV_take (k := Rt.length) (ownV_upd ol2 us3 (by simp <;> omega)) (by simp)
              have e : (((x :: Rt).reverse.map (Value.int .i64)).take Rt.length) = Rt.reverse.map (Value.int .i64) := by
                rw [List.reverse_cons, List.map_append, List.take_append_of_le_length (by simp)]
                rw [List.take_of_length_le (by simp)]
              rw [e] at this
              exact this
            have oi3 := ownV_set oi2 x.toNat (.bool false)
            have st3 := store_upd B2.store us3 (by simp <;> omega) (by simp <;> omega)
            have uw3 := uw2.trans (us3.mono (by simp))
            have HH := Lib.hid (And.intro (And.intro ol3 oi3) (And.intro st3 uw3))
            clear ol3 oi3 st3 uw3 us3 oi2 ol2 uw2 B2 al
            obtain ⟨m, hm⟩ : ∃ m, m = Rt.length := ⟨_, rfl⟩
            have HM := Lib.hid hm
            try simp only [List.length_cons]
            rw [← hm] at c1 k3 k5 ⊢
            clear hm hp
            try clear hmem
            go_wp2_with fail
            rw [HM.out]
            obtain ⟨p4, hp4⟩ : ∃ p4, p4 = p2.setCell ⟨w4.heap.size, x.toNat, none⟩ (.bool false) := ⟨_, rfl⟩
            obtain ⟨M5, I5, n5, al5, st5, ol5, oi5⟩ : ∃ M5 I5 n5, Alone M5 Rt I5 (T + 1) ∧ StoreAt p4 sb g M5 n5 ∧ OwnV p4 w5.heap.size 3 (.slice (some ⟨gl, 0, none⟩) Rt.length lc) (Rt.reverse.map (Value.int .i64)) ∧ OwnV p4 w4.heap.size 4 (.slice (some ⟨w4.heap.size, 0, none⟩) 10 10) (I5.map Value.bool) := ⟨_, _, _, al', by rw [hp4]; exact HH.out.2.1, by rw [hp4]; exact HH.out.1.1, by rw [List.map_set, hp4]; exact HH.out.1.2⟩
            have uw5 : Upd [sb, g, w4.heap.size] w5 p4 := by rw [hp4]; exact HH.out.2.2
            rw [← hp4]
            clear HH hp4 al' c1 ci2 hfi2 hfl k1 k2 k3 k4 k5 hx HM

            have zw := uw5.size
            refine (All_c _ _ _ _ _ st5 (by rw [al5.len]; decide)).mono ?_
            rintro e w6 ⟨v6, rfl, hv6, b6⟩
            have sl6 := sl_of_new (A := []) hv6 (by simp)
            have st6 := store_upd (S := []) st5 (Upd.of_below b6) (by simp) (by simp)
            have ol6 := ownV_upd (S := []) ol5 (Upd.of_below b6) (by simp)
            have oi6 := own_upd_at (S := []) oi5 (Upd.of_below b6) (by simp)
            have uw6 := uw5.trans (Upd.of_below (S := [sb, g, w4.heap.size]) b6)
            have zw6 := b6.size
            clear hv6 b6 st5 ol5 oi5 uw5
            obtain ⟨a6, c6, rfl, hc6, hx6⟩ := id sl6
            clear hc6 hx6
            go_wp2_with fail
            refine (Walk_c (A := [sb, g, w4.heap.size]) _ _ _ _ _ _ _ _ sl6 (links_upd L5 uw6 (fun y hy => .inl hy) (fun y hy => .inl hy)) (by decide) (by decide)).mono ?_
            rintro e w7 ⟨v7, rfl, hv7, _, b7⟩
            have hwk := walk_chain _ al5.len _ (20 : Int).toNat 0 al5.chain al5.items (by omega) (by have := items_len al5.items al5.nodup; simp at this ⊢; omega)
            rw [hwk] at hv7
            have st7 := store_upd (S := []) st6 (Upd.of_below b7) (by simp) (by simp)
            have ol7 := ownV_upd (S := []) ol6 (Upd.of_below b7) (by simp)
            have oi7 := own_upd_at (S := []) oi6 (Upd.of_below b7) (by simp)
            have uw7 := uw6.trans (Upd.of_below (S := [sb, g, w4.heap.size]) b7)
            have zw7 := b7.size
            clear b7 st6 ol6 oi6 uw6 hwk sl6
            obtain ⟨a7, c7, rfl⟩ := own_slice hv7
            have hv7' := ownI_iff.1 hv7
            have hne : ((Rt.length : Int) != (Rt.length : Int)) = false := by simp
            have hR8 : Rt.length ≤ 8 := items_len al5.items al5.nodup
            have hq : (mld M5 0).tdiv 4294967296 = T + 1 := by rw [Int.tdiv_eq_ediv_of_nonneg (ws_mld al5.ws 0).1]; exact al5.turns
            have hq2 : mld M5 0 / 4294967296 = T + 1 := al5.turns
            clear hv7
            go_wp2_with fail
            refine (Load_c _ _ _ _ _ _ st7).mono ?_
            rintro e w8 ⟨rfl, st8, u8⟩
            have ol8 := ownV_upd ol7 u8 (by simp <;> omega)
            have oi8 := own_upd_at oi7 u8 (by simp <;> omega)
            have hv8 := ownV_upd hv7' u8 (by simp <;> omega)
            have uw8 := uw7.trans (u8.mono (by simp))
            have HO := Lib.hid (And.intro (And.intro ol8 oi8) (And.intro st8 uw8))
            have HV := Lib.hid (And.intro ol8 hv8)
            clear st7 ol7 oi7 uw7 hv7' ol8 oi8 hv8 uw8 st8 u8
            go_wp2_with fail
            go_loopw [13] (fun kv wq => ∃ j : Nat, j ≤ Rt.length ∧ kv = .int .i64 j ∧ ∃ m, wq = w8.drewN m) (fun kv _ => Rt.length - (intOf kv).toNat)
            case atStart => exact ⟨0, Nat.zero_le _, rfl, 0, rfl⟩
            case round =>
              obtain ⟨j, hj, rfl, m, rfl⟩ := hrel
              by_cases hjl : j < Rt.length
              · obtain ⟨y, hy⟩ : ∃ y, Rt[j]? = some y := ⟨Rt[j], by simp [hjl]⟩
                obtain ⟨g7, rfl, -, -, -, hc7, -⟩ := ownV_at HV.out.2 (by intro q; have := congrArg List.length q; simp at this; rw [this] at hjl; simp at hjl)
                obtain ⟨gl2, hgl2, -, -, -, hcl, -⟩ := ownV_at HV.out.1 (by intro q; have := congrArg List.length q; simp at this; rw [this] at hjl; simp at hjl)
                simp only [Option.some.injEq, Addr.mk.injEq, and_true] at hgl2
                subst hgl2
                have d1 := hc7 j (.int .i64 y) (by rw [List.getElem?_map, hy]; rfl)
                have d2 := hcl (Rt.length - 1 - j) (.int .i64 y) (by rw [List.getElem?_map, List.getElem?_reverse (by omega), show Rt.length - 1 - (Rt.length - 1 - j) = j by omega, hy]; rfl)
                have e1 : wrap64 ((Rt.length : Int) - 1) = (Rt.length : Int) - 1 := wrap64_id _ (by omega) (by have := items_len al5.items al5.nodup; omega)
                have e2 : wrap64 ((Rt.length : Int) - 1 - (j : Int)) = (Rt.length : Int) - 1 - (j : Int) := wrap64_id _ (by omega) (by have := items_len al5.items al5.nodup; omega)
                have e3 : ((Rt.length : Int) - 1 - (j : Int)).toNat = Rt.length - 1 - j := by omega
                have e4 : (j : Int) < (Rt.length : Int) := by omega
                have e5 : 0 ≤ (Rt.length : Int) - 1 - (j : Int) := by omega
                have e6 : (Rt.length : Int) - 1 - (j : Int) < (Rt.length : Int) := by omega
                have e7 : (y != y) = false := by simp
                clear hc7 hcl
                go_wp2
                go_quiet (fail)
                go_wp2
                go_roundw
                case rel => exact ⟨j + 1, by omega, by go_num, _, rfl⟩
                case measure => simp [intOf]; omega
              · have e4 : ¬ (j : Int) < (Rt.length : Int) := by omega
                go_wp2_with fail
                go_roundw
                case rel => exact ⟨k + 1, M5, Rt, I5, T + 1, _, by omega, by go_num, rfl, by omega, by omega, al5, store_drewN HO.out.2.1 m, HO.out.1.1, HO.out.1.2, HO.out.2.2.drewN m⟩
                case measure => simp [intOf]; omega
        · have g128 : decide (ac < 128) = false := by simp; omega
          cases R with
          | nil =>
            have hrun := run_pop0 (rowL 9) M al.chain
            have HRun := Lib.hid hrun
            have hmi : mitem (Mac.mk 0 0 (mld M 0) 0 0 1) = 0 := rfl
            clear hrun

            go_wp2_with fail
            refine (Pop_c w1.heap.size 0 _).mono ?_
            rintro e p1 ⟨rfl, m1, zp1, bp1⟩
            have up1 := Upd.of_below (S := []) bp1
            have uw1 := uw.trans (Upd.of_below (S := [sb, g, w4.heap.size]) bp1)
            have B1 : Bun p1 sb g wr.heap.size w1.heap.size M (rowL 9) n (popM 0) := ⟨store_upd st up1 (by simp) (by simp), m1, by simp <;> omega, al.ws, popM_ok _, links_upd L5 uw1 (fun y hy => .inl hy) (by simp <;> omega), by decide⟩
            clear m1 up1 uw1
            go_wp2_with fail
            refine (whole_c _ _ _ _ _ _ _ _ _ B1).mono ?_
            rintro e p2 ⟨rfl, ⟨n2, B2⟩, u2⟩
            rw [HRun.out] at B2 ⊢
            dsimp only
            rw [hmi]
            have u12 : Upd [sb, g] wr p2 := (Upd.of_below bp1).trans_new u2 (by simp)
            have ol2 := ownV_upd ol u12 (by simp <;> omega)
            have oi2 := own_upd_at oi u12 (by simp <;> omega)
            have uw2 := uw.trans (u12.mono (by simp))
            have zp2 := u12.size
            clear u2 bp1 B1 u12 hmi hci1 hfi ol oi uw st

            have HO := Lib.hid (And.intro (And.intro ol2 oi2) (And.intro B2.store uw2))
            clear ol2 oi2 uw2 B2
            go_wp2_with fail
            go_roundw
            case rel => exact ⟨k + 1, M, [], I, T, n2, by omega, by go_num, rfl, by omega, by omega, al, HO.out.2.1, HO.out.1.1, HO.out.1.2, HO.out.2.2⟩
            case measure => simp [intOf]; omega
          | cons x Rt =>
            have hx := al.items x (by simp)
            have htop : mld M 0 % 4294967296 = x := al.chain.1
            have hrun := run_pop (rowL 9) M (by rw [al.len]; decide) (by rw [htop]; omega)
            rw [htop, lkrow 9 x (by omega)] at hrun
            have HRun := Lib.hid hrun
            have hmi : mitem (Mac.mk 0 x (mld M 0) 0 (mld M x % 4294967296) 1) = x := rfl
            have al' := alone_pop al (by omega)
            clear hrun htop

            go_wp2_with fail
            refine (Pop_c w1.heap.size 0 _).mono ?_
            rintro e p1 ⟨rfl, m1, zp1, bp1⟩
            have up1 := Upd.of_below (S := []) bp1
            have uw1 := uw.trans (Upd.of_below (S := [sb, g, w4.heap.size]) bp1)
            have B1 : Bun p1 sb g wr.heap.size w1.heap.size M (rowL 9) n (popM 0) := ⟨store_upd st up1 (by simp) (by simp), m1, by simp <;> omega, al.ws, popM_ok _, links_upd L5 uw1 (fun y hy => .inl hy) (by simp <;> omega), by decide⟩
            clear m1 up1 uw1
            go_wp2_with fail
            refine (whole_c _ _ _ _ _ _ _ _ _ B1).mono ?_
            rintro e p2 ⟨rfl, ⟨n2, B2⟩, u2⟩
            rw [HRun.out] at B2 ⊢
            dsimp only
            rw [hmi]
            have u12 : Upd [sb, g] wr p2 := (Upd.of_below bp1).trans_new u2 (by simp)
            have ol2 := ownV_upd ol u12 (by simp <;> omega)
            have oi2 := own_upd_at oi u12 (by simp <;> omega)
            have uw2 := uw.trans (u12.mono (by simp))
            have zp2 := u12.size
            clear u2 bp1 B1 u12 hmi hci1 hfi ol oi uw st

            obtain ⟨gl, rfl, -, -, -, hcl, hfl⟩ := ownV_at ol2 (by simp)
            have hcap := ownV_cap ol2
            have c1 := hcl Rt.length (.int .i64 x) (by simp)
            obtain ⟨_, he2, -, -, -, hci2, hfi2⟩ := ownV_at oi2 (by intro q; have := congrArg List.length q; rw [List.length_map, al.ilen] at this; simp at this)
            simp only [Option.some.injEq, Addr.mk.injEq, and_true] at he2
            subst he2
            have ci2 : p2.cell? ⟨w4.heap.size, x.toNat, none⟩ = some (.bool true) := hci2 x.toNat _ (by rw [List.getElem?_map, al.marks x.toNat (by omega) (by omega), show ((x.toNat : Nat) : Int) = x by omega]; simp)
            have k1 : 0 ≤ x := by omega
            have k2 : x < 10 := by omega
            have k3 : Rt.length ≤ lc := by simp at hcap; omega
            have k4 : (x != x) = false := by simp
            have k5 : Rt.length ≤ 7 := by have hl8 := items_len al.items al.nodup; simp at hl8; omega
            clear hci2 hcl hcap
            have us3 : Upd [w4.heap.size] p2 (p2.setCell ⟨w4.heap.size, x.toNat, none⟩ (.bool false)) := (Upd.refl _ _).setCell (by simp) _
            have ol3 : OwnV (p2.setCell ⟨w4.heap.size, x.toNat, none⟩ (.bool false)) w5.heap.size 3 (.slice (some ⟨gl, 0, none⟩) Rt.length lc) (Rt.reverse.map (Value.int .i64)) := by
              have := ownV_take (k := Rt.length) (ownV_upd ol2 us3 (by simp <;> omega)) (by simp)
              have e : (((x :: Rt).reverse.map (Value.int .i64)).take Rt.length) = Rt.reverse.map (Value.int .i64) := by
                rw [List.reverse_cons, List.map_append, List.take_append_of_le_length (by simp)]
                rw [List.take_of_length_le (by simp)]
              rw [e] at this
              exact this
            have oi3 := ownV_set oi2 x.toNat (.bool false)
            have st3 := store_upd B2.store us3 (by simp <;> omega) (by simp <;> omega)
            have uw3 := uw2.trans (us3.mono (by simp))
            have HH := Lib.hid (And.intro (And.intro ol3 oi3) (And.intro st3 uw3))
            clear ol3 oi3 st3 uw3 us3 oi2 ol2 uw2 B2 al
            obtain ⟨m, hm⟩ : ∃ m, m = Rt.length := ⟨_, rfl⟩
            have HM := Lib.hid hm
            try simp only [List.length_cons]
            rw [← hm] at c1 k3 k5 ⊢
            clear hm hp
            try clear hmem
            go_wp2_with fail
            rw [HM.out]
            obtain ⟨p4, hp4⟩ : ∃ p4, p4 = p2.setCell ⟨w4.heap.size, x.toNat, none⟩ (.bool false) := ⟨_, rfl⟩
            obtain ⟨M5, I5, n5, al5, st5, ol5, oi5⟩ : ∃ M5 I5 n5, Alone M5 Rt I5 (T + 1) ∧ StoreAt p4 sb g M5 n5 ∧ OwnV p4 w5.heap.size 3 (.slice (some ⟨gl, 0, none⟩) Rt.length lc) (Rt.reverse.map (Value.int .i64)) ∧ OwnV p4 w4.heap.size 4 (.slice (some ⟨w4.heap.size, 0, none⟩) 10 10) (I5.map Value.bool) := ⟨_, _, _, al', by rw [hp4]; exact HH.out.2.1, by rw [hp4]; exact HH.out.1.1, by rw [List.map_set, hp4]; exact HH.out.1.2⟩
            have uw5 : Upd [sb, g, w4.heap.size] w5 p4 := by rw [hp4]; exact HH.out.2.2
            rw [← hp4]
            clear HH hp4 al' c1 ci2 hfi2 hfl k1 k2 k3 k4 k5 hx HM

            have zw := uw5.size
            refine (All_c _ _ _ _ _ st5 (by rw [al5.len]; decide)).mono ?_
            rintro e w6 ⟨v6, rfl, hv6, b6⟩
            have sl6 := sl_of_new (A := []) hv6 (by simp)
            have st6 := store_upd (S := []) st5 (Upd.of_below b6) (by simp) (by simp)
            have ol6 := ownV_upd (S := []) ol5 (Upd.of_below b6) (by simp)
            have oi6 := own_upd_at (S := []) oi5 (Upd.of_below b6) (by simp)
            have uw6 := uw5.trans (Upd.of_below (S := [sb, g, w4.heap.size]) b6)
            have zw6 := b6.size
            clear hv6 b6 st5 ol5 oi5 uw5
            obtain ⟨a6, c6, rfl, hc6, hx6⟩ := id sl6
            clear hc6 hx6
            go_wp2_with fail
            refine (Walk_c (A := [sb, g, w4.heap.size]) _ _ _ _ _ _ _ _ sl6 (links_upd L5 uw6 (fun y hy => .inl hy) (fun y hy => .inl hy)) (by decide) (by decide)).mono ?_
            rintro e w7 ⟨v7, rfl, hv7, _, b7⟩
            have hwk := walk_chain _ al5.len _ (20 : Int).toNat 0 al5.chain al5.items (by omega) (by have := items_len al5.items al5.nodup; simp at this ⊢; omega)
            rw [hwk] at hv7
            have st7 := store_upd (S := []) st6 (Upd.of_below b7) (by simp) (by simp)
            have ol7 := ownV_upd (S := []) ol6 (Upd.of_below b7) (by simp)
            have oi7 := own_upd_at (S := []) oi6 (Upd.of_below b7) (by simp)
            have uw7 := uw6.trans (Upd.of_below (S := [sb, g, w4.heap.size]) b7)
            have zw7 := b7.size
            clear b7 st6 ol6 oi6 uw6 hwk sl6
            obtain ⟨a7, c7, rfl⟩ := own_slice hv7
            have hv7' := ownI_iff.1 hv7
            have hne : ((Rt.length : Int) != (Rt.length : Int)) = false := by simp
            have hR8 : Rt.length ≤ 8 := items_len al5.items al5.nodup
            have hq : (mld M5 0).tdiv 4294967296 = T + 1 := by rw [Int.tdiv_eq_ediv_of_nonneg (ws_mld al5.ws 0).1]; exact al5.turns
            have hq2 : mld M5 0 / 4294967296 = T + 1 := al5.turns
            clear hv7
            go_wp2_with fail
            refine (Load_c _ _ _ _ _ _ st7).mono ?_
            rintro e w8 ⟨rfl, st8, u8⟩
            have ol8 := ownV_upd ol7 u8 (by simp <;> omega)
            have oi8 := own_upd_at oi7 u8 (by simp <;> omega)
            have hv8 := ownV_upd hv7' u8 (by simp <;> omega)
            have uw8 := uw7.trans (u8.mono (by simp))
            have HO := Lib.hid (And.intro (And.intro ol8 oi8) (And.intro st8 uw8))
            have HV := Lib.hid (And.intro ol8 hv8)
            clear st7 ol7 oi7 uw7 hv7' ol8 oi8 hv8 uw8 st8 u8
            go_wp2_with fail
            go_loopw [13] (fun kv wq => ∃ j : Nat, j ≤ Rt.length ∧ kv = .int .i64 j ∧ ∃ m, wq = w8.drewN m) (fun kv _ => Rt.length - (intOf kv).toNat)
            case atStart => exact ⟨0, Nat.zero_le _, rfl, 0, rfl⟩
            case round =>
              obtain ⟨j, hj, rfl, m, rfl⟩ := hrel
              by_cases hjl : j < Rt.length
              · obtain ⟨y, hy⟩ : ∃ y, Rt[j]? = some y := ⟨Rt[j], by simp [hjl]⟩
                obtain ⟨g7, rfl, -, -, -, hc7, -⟩ := ownV_at HV.out.2 (by intro q; have := congrArg List.length q; simp at this; rw [this] at hjl; simp at hjl)
                obtain ⟨gl2, hgl2, -, -, -, hcl, -⟩ := ownV_at HV.out.1 (by intro q; have := congrArg List.length q; simp at this; rw [this] at hjl; simp at hjl)
                simp only [Option.some.injEq, Addr.mk.injEq, and_true] at hgl2
                subst hgl2
                have d1 := hc7 j (.int .i64 y) (by rw [List.getElem?_map, hy]; rfl)
                have d2 := hcl (Rt.length - 1 - j) (.int .i64 y) (by rw [List.getElem?_map, List.getElem?_reverse (by omega), show Rt.length - 1 - (Rt.length - 1 - j) = j by omega, hy]; rfl)
                have e1 : wrap64 ((Rt.length : Int) - 1) = (Rt.length : Int) - 1 := wrap64_id _ (by omega) (by have := items_len al5.items al5.nodup; omega)
                have e2 : wrap64 ((Rt.length : Int) - 1 - (j : Int)) = (Rt.length : Int) - 1 - (j : Int) := wrap64_id _ (by omega) (by have := items_len al5.items al5.nodup; omega)
                have e3 : ((Rt.length : Int) - 1 - (j : Int)).toNat = Rt.length - 1 - j := by omega
                have e4 : (j : Int) < (Rt.length : Int) := by omega
                have e5 : 0 ≤ (Rt.length : Int) - 1 - (j : Int) := by omega
                have e6 : (Rt.length : Int) - 1 - (j : Int) < (Rt.length : Int) := by omega
                have e7 : (y != y) = false := by simp
                clear hc7 hcl
                go_wp2
                go_quiet (fail)
                go_wp2
                go_roundw
                case rel => exact ⟨j + 1, by omega, by go_num, _, rfl⟩
                case measure => simp [intOf]; omega
              · have e4 : ¬ (j : Int) < (Rt.length : Int) := by omega
                go_wp2_with fail
                go_roundw
                case rel => exact ⟨k + 1, M5, Rt, I5, T + 1, _, by omega, by go_num, rfl, by omega, by omega, al5, store_drewN HO.out.2.1 m, HO.out.1.1, HO.out.1.2, HO.out.2.2.drewN m⟩
                case measure => simp [intOf]; omega
    · have hge : ¬ (k : Int) < (l.length : Int) := by omega
      go_wp2_with fail
      go_ret
      exact ⟨rfl, Upd.below_from b05 uw (by simp <;> omega)⟩

end Go.Proofs.Ytaciapjohakpgaa

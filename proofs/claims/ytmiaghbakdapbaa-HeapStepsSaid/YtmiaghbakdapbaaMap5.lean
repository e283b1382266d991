/- layout.New: the map of a configuration that may be. Condition: it may be. -/
import Derived.Test.YtmiaghbakdapbaaCfg
import Derived.Test.YtmiaghbakdapbaaCls
import Derived.RegionTactic
import Derived.ChangeAlike
import Derived.Deep.RegionLaw
import Derived.Deep.RegionHeld3
set_option linter.unusedVariables false
namespace Go.Proofs.Ytmiaghbakdapbaa
open Go.ChangeShapes Go.WideShapes Go.ChangeAt Go.RowKit

def Cfg.cls (c : Cfg) : List Int := cPre [c.c0, c.c1, c.c2, c.c3, c.c4] 5
/-- How many slots each node has. -/
def Cfg.rooms (c : Cfg) : List Int := c.cls.map sSlots
def Cfg.nd (c : Cfg) : Int := sNodes c.c0 c.c1 c.c2 c.c3 c.c4
def mSum (ch : Int) : List Int → Int
  | [] => 0
  | n :: l => (n + ch - 1) / ch + mSum ch l
/-- How many packets there are. -/
def Cfg.mn (c : Cfg) : Int := c.nd + 2 * c.mr + c.mu + mSum c.ch c.rooms
def Cfg.pt (c : Cfg) : Int := (c.nd + c.sw - 1) / c.sw
def Cfg.headP (c : Cfg) : Int := 6 + c.mu
def Cfg.dqP (c : Cfg) : Int := c.headP + 5
def Cfg.pkP (c : Cfg) : Int := c.dqP + c.mr * (2 + c.dq)
def Cfg.n0P (c : Cfg) : Int := c.pkP + c.mn * 6
def rSum : List Int → Int
  | [] => 0
  | n :: l => (4 + n) + rSum l
/-- Where each node's words begin. -/
def atsF (a : Int) : List Int → List Int
  | [] => []
  | n :: l => a :: atsF (a + (4 + n)) l
def Cfg.ats (c : Cfg) : List Int := atsF c.n0P c.rooms
def Cfg.all (c : Cfg) : Int := c.n0P + rSum c.rooms

def mCells (ack head dqs pks n0 nd mn pt al : Int) (c : Cfg) (av rv : Value) : Array Value :=
  #[.int .i64 ack, .int .i64 head, .int .i64 dqs, .int .i64 pks, .int .i64 n0, .int .i64 nd, .int .i64 mn, .int .i64 pt, .int .i64 al, .int .i64 c.c0, .int .i64 c.c1, .int .i64 c.c2, .int .i64 c.c3, .int .i64 c.c4, .int .i64 c.mr, .int .i64 c.mu, .int .i64 c.dq, .int .i64 c.ch, .int .i64 c.bf, .int .i64 c.rt, .int .i64 c.sw, av, rv]

theorem row23 {w : World} {B : Nat} {a0 a1 a2 a3 a4 a5 a6 a7 a8 a9 a10 a11 a12 a13 a14 a15 a16 a17 a18 a19 a20 a21 a22 : Value} {T : TypeId} (h : w.heap[B]? = some (.cells #[a0, a1, a2, a3, a4, a5, a6, a7, a8, a9, a10, a11, a12, a13, a14, a15, a16, a17, a18, a19, a20, a21, a22] T (0, 0))) : w.cell? ⟨B, 0, none⟩ = some a0 ∧ w.cell? ⟨B, 1, none⟩ = some a1 ∧ w.cell? ⟨B, 2, none⟩ = some a2 ∧ w.cell? ⟨B, 3, none⟩ = some a3 ∧ w.cell? ⟨B, 4, none⟩ = some a4 ∧ w.cell? ⟨B, 5, none⟩ = some a5 ∧ w.cell? ⟨B, 6, none⟩ = some a6 ∧ w.cell? ⟨B, 7, none⟩ = some a7 ∧ w.cell? ⟨B, 8, none⟩ = some a8 ∧ w.cell? ⟨B, 9, none⟩ = some a9 ∧ w.cell? ⟨B, 10, none⟩ = some a10 ∧ w.cell? ⟨B, 11, none⟩ = some a11 ∧ w.cell? ⟨B, 12, none⟩ = some a12 ∧ w.cell? ⟨B, 13, none⟩ = some a13 ∧ w.cell? ⟨B, 14, none⟩ = some a14 ∧ w.cell? ⟨B, 15, none⟩ = some a15 ∧ w.cell? ⟨B, 16, none⟩ = some a16 ∧ w.cell? ⟨B, 17, none⟩ = some a17 ∧ w.cell? ⟨B, 18, none⟩ = some a18 ∧ w.cell? ⟨B, 19, none⟩ = some a19 ∧ w.cell? ⟨B, 20, none⟩ = some a20 ∧ w.cell? ⟨B, 21, none⟩ = some a21 ∧ w.cell? ⟨B, 22, none⟩ = some a22 ∧ ∀ o, w.frozen? ⟨B, o, none⟩ = false :=
  ⟨blk_cell h 0, blk_cell h 1, blk_cell h 2, blk_cell h 3, blk_cell h 4, blk_cell h 5, blk_cell h 6, blk_cell h 7, blk_cell h 8, blk_cell h 9, blk_cell h 10, blk_cell h 11, blk_cell h 12, blk_cell h 13, blk_cell h 14, blk_cell h 15, blk_cell h 16, blk_cell h 17, blk_cell h 18, blk_cell h 19, blk_cell h 20, blk_cell h 21, blk_cell h 22, blk_frozen h⟩

theorem blk_at {w : World} {b : Nat} {xs : Array Value} {T : TypeId} (h : w.heap[b]? = some (.cells xs T (0, 0))) (o : Nat) {u : Value} (hu : xs[o]? = some u) : w.cell? ⟨b, o, none⟩ = some u := (blk_cell h o).trans hu

/-- A map of a configuration: its block, and its two lists. -/
def mapC (n0 mb : Nat) (av rv : Value) (c : Cfg) : Chunk n0 :=
  ⟨mb :: (av.ownBlock.toList ++ rv.ownBlock.toList), true, fun w => w.heap[mb]? = some (.cells (mCells 6 c.headP c.dqP c.pkP c.n0P c.nd c.mn c.pt c.all c av rv) 90 (0, 0)) ∧ Own w 3 1 av c.ats.length (c.ats.map (Value.int .i64)) ∧ Own w 3 1 rv c.rooms.length (c.rooms.map (Value.int .i64)),
   fun w w' h hh => ⟨(h mb (.inr (by simp))).trans hh.1, own_heap hh.2.1 fun k hk => h k (.inr (by simp [hk])), own_heap hh.2.2 fun k hk => h k (.inr (by simp [hk]))⟩⟩

theorem rSum_bd : ∀ (l : List Int), (∀ x ∈ l, 0 ≤ x ∧ x ≤ 16) → 0 ≤ rSum l ∧ rSum l ≤ 20 * l.length
  | [], _ => by simp [rSum]
  | n :: l, h => by
    have h1 := h n (by simp)
    have h2 := rSum_bd l fun x hx => h x (by simp [hx])
    simp only [rSum, List.length_cons]
    omega
theorem rSum_snoc : ∀ (l : List Int) (n : Int), rSum (l ++ [n]) = rSum l + (4 + n)
  | [], n => by simp [rSum]
  | x :: l, n => by simp only [List.cons_append, rSum, rSum_snoc l n]; omega
theorem atsF_get : ∀ (l : List Int) (a : Int) (i : Nat), i < l.length → (atsF a l)[i]? = some (a + rSum (l.take i))
  | [], _, _, h => by simp at h
  | n :: l, a, 0, _ => by simp [atsF, rSum]
  | n :: l, a, i + 1, h => by
    simp only [atsF, List.getElem?_cons_succ, List.take_succ_cons, rSum]
    rw [atsF_get l _ i (by simpa using h)]
    congr 1; omega
theorem atsF_len : ∀ (l : List Int) (a : Int), (atsF a l).length = l.length
  | [], _ => rfl
  | n :: l, a => by simp [atsF, atsF_len l]

theorem take_snoc1 {α : Type} (l : List α) (i : Nat) (x : α) (h : l[i]? = some x) : l.take (i + 1) = l.take i ++ [x] := by
  obtain ⟨hi, rfl⟩ := List.getElem?_eq_some_iff.1 h
  exact List.take_succ_eq_append_getElem hi

theorem sSlots_bd (k : Int) : 0 ≤ sSlots k ∧ sSlots k ≤ 16 := by unfold sSlots; repeat' split <;> omega
theorem rooms_bd (c : Cfg) (x : Int) (h : x ∈ c.rooms) : 0 ≤ x ∧ x ≤ 16 := by
  unfold Cfg.rooms at h
  obtain ⟨k, _, rfl⟩ := List.mem_map.1 h
  exact sSlots_bd k
theorem div_bd (n ch : Int) (h : 1 ≤ ch) (h0 : 0 ≤ n) (h1 : n ≤ 16) : 0 ≤ (n + ch - 1) / ch ∧ (n + ch - 1) / ch ≤ 16 := by
  constructor
  · exact Int.ediv_nonneg (by omega) (by omega)
  · by_cases hz : n = 0
    · subst hz
      have : (0 + ch - 1) / ch = 0 := Int.ediv_eq_zero_of_lt (by omega) (by omega)
      omega
    · refine Int.ediv_le_of_le_mul (by omega) ?_
      have : n * 1 ≤ n * ch := Int.mul_le_mul_of_nonneg_left h h0
      have h3 : 0 ≤ (16 - n) * (ch - 1) := Int.mul_nonneg (by omega) (by omega)
      have h4 : (16 - n) * (ch - 1) = 16 * ch - n * ch - 16 + n := by rw [Int.sub_mul, Int.mul_sub, Int.mul_sub]; omega
      have h5 : 0 ≤ (n - 1) * (ch - 1) := Int.mul_nonneg (by omega) (by omega)
      have h6 : (n - 1) * (ch - 1) = n * ch - n - ch + 1 := by rw [Int.sub_mul, Int.mul_sub]; omega
      omega
theorem mSum_bd (ch : Int) : ∀ (l : List Int), 1 ≤ ch → (∀ x ∈ l, 0 ≤ x ∧ x ≤ 16) → 0 ≤ mSum ch l ∧ mSum ch l ≤ 16 * l.length
  | [], _, _ => by simp [mSum]
  | n :: l, h, hl => by
    have h1 := div_bd n ch h (hl n (by simp)).1 (hl n (by simp)).2
    have h2 := mSum_bd ch l h (fun x hx => hl x (by simp [hx]))
    simp only [mSum, List.length_cons]
    omega
theorem mSum_snoc (ch : Int) : ∀ (l : List Int) (n : Int), mSum ch (l ++ [n]) = mSum ch l + (n + ch - 1) / ch
  | [], n => by simp [mSum]
  | x :: l, n => by simp only [List.cons_append, mSum, mSum_snoc ch l n]; omega

/-- The second loop of a code. -/
def loopsOf : Code → List Code
  | .loop c => [c]
  | .seq a b => loopsOf a ++ loopsOf b
  | .block _ c => loopsOf c
  | .scope c => loopsOf c
  | .cond _ a b => loopsOf a ++ loopsOf b
  | _ => []
noncomputable def body2 : Code := (((Try.f11.body.map loopsOf).getD [])[1]?).getD .skip

set_option maxRecDepth 1000000 in
set_option maxHeartbeats 8000000 in
theorem new_loop2 {w W : World} (c : Cfg) (mb g off rc : Nat) (ys : List Int) (h1 d1 p1 A0 N M pt : Int) (s0 s1 s2 s3 s4 s6 s7 s8 s10 s11 s12 s13 s14 s15 s16 s17 s18 s19 s20 s21 s22 s23 s24 s25 s26 s27 s28 s29 s30 s31 s32 s33 s34 s35 s36 s37 s38 s39 s40 s41 s42 s43 s44 s45 s46 s47 s48 s49 s50 s51 s52 s53 s54 s55 s56 s57 s58 s59 s60 s61 s62 s63 s64 s65 s66 s67 s68 s69 s70 s71 s72 s73 s74 s75 s76 s77 s78 s79 s80 s81 s82 s83 s84 s85 s86 s87 s88 s89 s90 s91 s92 s93 s94 s95 s96 s97 s98 s99 s100 s101 s102 s103 s104 s105 s106 s107 s108 s109 s110 s111 s112 s113 s114 s115 s116 s117 s118 s119 s120 s121 s122 s123 s124 s125 s126 s127 s128 s129 s130 s131 s132 s133 s134 s135 s136 s137 s138 s139 s140 s141 s142 s143 s144 s145 s146 s147 s148 s149 s150 s151 s152 s153 s154 s155 s156 s157 s158 s159 s160 s161 s162 s163 s164 s165 s166 s167 s171 s172 s173 s174 s175 s176 s177 s178 s179 s180 s181 s182 s183 s184 s185 s186 s187 s188 s189 s190 s191 s192 s193 s194 s195 s196 s197 s198 s199 s200 s9 : Value) (Q : Exit → Act → World → Prop)
    (hyl : ys.length ≤ 60) (hA0 : 0 ≤ A0 ∧ A0 ≤ 10000) (HRB : Hid (∀ x ∈ ys, 0 ≤ x ∧ x ≤ 16)) (P5 : Has w W [blkC _ w.heap.size (cfgCells c) 24, blkC _ mb (mCells 6 h1 d1 p1 A0 N M pt A0 c (.slice none 0 0) (.slice (some ⟨g, off, none⟩) ys.length rc)) 90, ownN _ 3 .i64 (.slice (some ⟨g, off, none⟩) ys.length rc) ys, ownN _ 3 .i64 (.slice none 0 0) ([])])
    (hexit : ∀ (u9 u171 u172 u173 u174 u175 u176 u177 u178 u179 u180 u181 u182 u183 u184 u185 u186 u187 u188 u189 u190 u191 u192 u193 u194 u195 u196 u197 u198 u199 : Value) (av : Value) (w' : World), Has w w' [blkC _ w.heap.size (cfgCells c) 24, blkC _ mb (mCells 6 h1 d1 p1 A0 N M pt (A0 + rSum ys) c av (.slice (some ⟨g, off, none⟩) ys.length rc)) 90, ownN _ 3 .i64 (.slice (some ⟨g, off, none⟩) ys.length rc) ys, ownN _ 3 .i64 av (atsF A0 ys)] → Q (.exit 2) ⟨List.toArray (s0 :: s1 :: s2 :: s3 :: s4 :: .pointer (some ⟨mb, 0, none⟩) :: s6 :: s7 :: s8 :: u9 :: s10 :: s11 :: s12 :: s13 :: s14 :: s15 :: s16 :: s17 :: s18 :: s19 :: s20 :: s21 :: s22 :: s23 :: s24 :: s25 :: s26 :: s27 :: s28 :: s29 :: s30 :: s31 :: s32 :: s33 :: s34 :: s35 :: s36 :: s37 :: s38 :: s39 :: s40 :: s41 :: s42 :: s43 :: s44 :: s45 :: s46 :: s47 :: s48 :: s49 :: s50 :: s51 :: s52 :: s53 :: s54 :: s55 :: s56 :: s57 :: s58 :: s59 :: s60 :: s61 :: s62 :: s63 :: s64 :: s65 :: s66 :: s67 :: s68 :: s69 :: s70 :: s71 :: s72 :: s73 :: s74 :: s75 :: s76 :: s77 :: s78 :: s79 :: s80 :: s81 :: s82 :: s83 :: s84 :: s85 :: s86 :: s87 :: s88 :: s89 :: s90 :: s91 :: s92 :: s93 :: s94 :: s95 :: s96 :: s97 :: s98 :: s99 :: s100 :: s101 :: s102 :: s103 :: s104 :: s105 :: s106 :: s107 :: s108 :: s109 :: s110 :: s111 :: s112 :: s113 :: s114 :: s115 :: s116 :: s117 :: s118 :: s119 :: s120 :: s121 :: s122 :: s123 :: s124 :: s125 :: s126 :: s127 :: s128 :: s129 :: s130 :: s131 :: s132 :: s133 :: s134 :: s135 :: s136 :: s137 :: s138 :: s139 :: s140 :: s141 :: s142 :: s143 :: s144 :: s145 :: s146 :: s147 :: s148 :: s149 :: s150 :: s151 :: s152 :: s153 :: s154 :: s155 :: s156 :: s157 :: s158 :: s159 :: s160 :: s161 :: s162 :: s163 :: s164 :: s165 :: s166 :: s167 :: (.slice (some ⟨g, off, none⟩) ys.length rc) :: .int .i64 (ys.length : Int) :: .int .i64 (ys.length : Int) :: u171 :: u172 :: u173 :: u174 :: u175 :: u176 :: u177 :: u178 :: u179 :: u180 :: u181 :: u182 :: u183 :: u184 :: u185 :: u186 :: u187 :: u188 :: u189 :: u190 :: u191 :: u192 :: u193 :: u194 :: u195 :: u196 :: u197 :: u198 :: u199 :: s200 :: []), []⟩ w') :
    Code.wp Try.prog (Code.loop body2) Q ⟨List.toArray (s0 :: s1 :: s2 :: s3 :: s4 :: .pointer (some ⟨mb, 0, none⟩) :: s6 :: s7 :: s8 :: s9 :: s10 :: s11 :: s12 :: s13 :: s14 :: s15 :: s16 :: s17 :: s18 :: s19 :: s20 :: s21 :: s22 :: s23 :: s24 :: s25 :: s26 :: s27 :: s28 :: s29 :: s30 :: s31 :: s32 :: s33 :: s34 :: s35 :: s36 :: s37 :: s38 :: s39 :: s40 :: s41 :: s42 :: s43 :: s44 :: s45 :: s46 :: s47 :: s48 :: s49 :: s50 :: s51 :: s52 :: s53 :: s54 :: s55 :: s56 :: s57 :: s58 :: s59 :: s60 :: s61 :: s62 :: s63 :: s64 :: s65 :: s66 :: s67 :: s68 :: s69 :: s70 :: s71 :: s72 :: s73 :: s74 :: s75 :: s76 :: s77 :: s78 :: s79 :: s80 :: s81 :: s82 :: s83 :: s84 :: s85 :: s86 :: s87 :: s88 :: s89 :: s90 :: s91 :: s92 :: s93 :: s94 :: s95 :: s96 :: s97 :: s98 :: s99 :: s100 :: s101 :: s102 :: s103 :: s104 :: s105 :: s106 :: s107 :: s108 :: s109 :: s110 :: s111 :: s112 :: s113 :: s114 :: s115 :: s116 :: s117 :: s118 :: s119 :: s120 :: s121 :: s122 :: s123 :: s124 :: s125 :: s126 :: s127 :: s128 :: s129 :: s130 :: s131 :: s132 :: s133 :: s134 :: s135 :: s136 :: s137 :: s138 :: s139 :: s140 :: s141 :: s142 :: s143 :: s144 :: s145 :: s146 :: s147 :: s148 :: s149 :: s150 :: s151 :: s152 :: s153 :: s154 :: s155 :: s156 :: s157 :: s158 :: s159 :: s160 :: s161 :: s162 :: s163 :: s164 :: s165 :: s166 :: s167 :: (.slice (some ⟨g, off, none⟩) ys.length rc) :: .int .i64 (ys.length : Int) :: .int .i64 0 :: s171 :: s172 :: s173 :: s174 :: s175 :: s176 :: s177 :: s178 :: s179 :: s180 :: s181 :: s182 :: s183 :: s184 :: s185 :: s186 :: s187 :: s188 :: s189 :: s190 :: s191 :: s192 :: s193 :: s194 :: s195 :: s196 :: s197 :: s198 :: s199 :: s200 :: []), []⟩ W := by
  conv => arg 2; arg 1; whnf
  go_loopw [9, 170] (fun uu iv wr => ∃ (k : Nat) (zs : List Int) (av : Value) (A : Int), k ≤ ys.length ∧ iv = .int .i64 k ∧ zs = (atsF A0 ys).take k ∧ A = A0 + rSum (ys.take k) ∧ Has w wr [blkC _ w.heap.size (cfgCells c) 24, blkC _ mb (mCells 6 h1 d1 p1 A0 N M pt A c av (.slice (some ⟨g, off, none⟩) ys.length rc)) 90, ownN _ 3 .i64 (.slice (some ⟨g, off, none⟩) ys.length rc) ys, ownN _ 3 .i64 av (zs)]) (fun _ iv _ => 61 - (intOf iv).toNat)
  case atStart => exact ⟨0, [], _, _, by omega, rfl, rfl, by simp [rSum], P5⟩
  case round =>
    obtain ⟨k, zs, av, A, hk, rfl, hzs, hA, G⟩ := hrel
    have hzl : zs.length ≤ 60 := by rw [hzs, List.length_take]; omega
    have hab := rSum_bd (ys.take k) (fun x hx => HRB.out x (List.mem_of_mem_take hx))
    have hal : (ys.take k).length ≤ 60 := by rw [List.length_take]; omega
    have hA2 : 0 ≤ A ∧ A ≤ 20000 := by rw [hA]; omega
    have ZA := Lib.hid (And.intro hzs hA)
    clear hzs hA hab hal P5
    obtain ⟨aa, ac, rfl⟩ := own_is (G.get 3 rfl)
    by_cases hlt : k < ys.length
    · have hlt' : (k : Int) < (ys.length : Int) := by omega
      obtain ⟨x, hx⟩ : ∃ x, ys[k]? = some x := ⟨ys[k], by simp [hlt]⟩
      have hxb := HRB.out x (List.mem_of_getElem? hx)
      obtain ⟨g', off', hgg, -, -, -, hcell, hfr⟩ := own_atV (G.get 2 rfl) (by omega)
      simp only [Option.some.injEq, Addr.mk.injEq, and_true] at hgg
      obtain ⟨rfl, rfl⟩ := hgg
      have hc := hcell k (.int .i64 x) (by rw [List.getElem?_map, hx]; rfl)
      have HX := Lib.hid hx
      clear hcell hfr hx
      obtain ⟨m0, m1, m2, m3, m4, m5, m6, m7, m8, m9, m10, m11, m12, m13, m14, m15, m16, m17, m18, m19, m20, m21, m22, fm⟩ := row23 (G.get 1 rfl)
      have hmbl := (G.lt 1 _ rfl mb (by simp [blkC])).1
      clear m0 m1 m2 m3 m4 m5 m6 m7 m9 m10 m11 m12 m13 m14 m15 m16 m17 m18 m19 m20 m22
      go_wp2_with fail
      refine wp_region_noPanic ?_
      go_region_law (first | (refine step_app ((G.alloc (.cells #[.int .i64 A] 3)).drew) 3 rfl _ _ rfl el_int rfl (by decide) (by decide) rfl rfl [.int .i64 A] wr.heap.size (blk_new wr (.cells #[.int .i64 A] 3) 1) rfl rfl (by simp [Value.oneCell']) (by omega) ?_; intro v1 w5 G5; rw [ownN_app] at G5; obtain ⟨us, hus⟩ : ∃ us, us = zs ++ [A] := ⟨_, rfl⟩; rw [← hus] at G5; have US := Lib.hid hus; clear hus; obtain ⟨xa, xc, rfl⟩ := own_is (G5.get 3 rfl); obtain ⟨k0, k1, k2, k3, k4, k5, k6, k7, k8, k9, k10, k11, k12, k13, k14, k15, k16, k17, k18, k19, k20, k21, k22, fk⟩ := row23 (G5.get 1 rfl); clear k0 k1 k2 k3 k4 k5 k6 k7 k9 k10 k11 k12 k13 k14 k15 k16 k17 k18 k19 k20 k22))
      all_goals
        refine NoPanic.normal ?_
        clear m8 m21 fm
        go_wp2_with fail
        have G7 : Has w _ [blkC _ w.heap.size (cfgCells c) 24, blkC _ mb (mCells 6 h1 d1 p1 A0 N M pt (A + (4 + x)) c (.slice xa us.length xc) (.slice (some ⟨g, off, none⟩) ys.length rc)) 90, ownN _ 3 .i64 (.slice (some ⟨g, off, none⟩) ys.length rc) ys, ownN _ 3 .i64 (.slice xa us.length xc) us] := (G5.blkSet 1 rfl 21 (.slice xa us.length xc)).blkSet 1 rfl 8 (.int .i64 (A + (4 + x)))
        go_roundw
        case rel => exact ⟨k + 1, us, .slice xa us.length xc, A + (4 + x), by omega, by go_num, by rw [US.out, take_snoc1 _ _ _ (atsF_get ys A0 k hlt), ← ZA.out.1, ← ZA.out.2], by rw [take_snoc1 _ _ _ HX.out, rSum_snoc, ZA.out.2]; omega, by first | exact G7 | exact G7.drew⟩
        case measure => simp [intOf]; omega
    · have hge : ¬ (k : Int) < (ys.length : Int) := by omega
      have hkl : k = ys.length := by omega
      have eZ : zs = atsF A0 ys := by rw [ZA.out.1, hkl, List.take_of_length_le (by rw [atsF_len]; omega)]
      have eA : A = A0 + rSum ys := by rw [ZA.out.2, hkl, List.take_length]
      rw [eA, eZ] at G
      subst hkl
      have HG := Lib.hid G
      clear eZ eA ZA hA2 hzl G
      go_wp2_with fail
      exact hexit _ _ _ _ _ _ _ _ _ _ _ _ _ _ _ _ _ _ _ _ _ _ _ _ _ _ _ _ _ _ _ _ HG.out

set_option maxRecDepth 100000 in
set_option maxHeartbeats 8000000 in
theorem New_m {w0 w : World} {cs : List (Chunk w0.heap.size)} (H : Has w0 w cs) (c : Cfg) (h : CfgOk c) :
    Calls Try.prog 11 #[cfgV c] w fun e w' => ∃ mb av rv, e = .returned (.tuple #[.pointer (some ⟨mb, 0, none⟩), .int .i64 0]) ∧ Has w0 w' (cs ++ [mapC _ mb av rv c]) := by
  have hco := h
  obtain ⟨h0, h1, h2, h3, h4, h5, h6, h7, h8, h9, h10, h11, h12⟩ := h
  have hnd : 1 ≤ sNodes c.c0 c.c1 c.c2 c.c3 c.c4 ∧ sNodes c.c0 c.c1 c.c2 c.c3 c.c4 ≤ 60 := by
    have g0 := sBound_lo c.c0; have g1 := sBound_lo c.c1; have g2 := sBound_lo c.c2; have g3 := sBound_lo c.c3; have g4 := sBound_lo c.c4
    have k0 := sBound_hi c.c0; have k1 := sBound_hi c.c1; have k2 := sBound_hi c.c2; have k3 := sBound_hi c.c3; have k4 := sBound_hi c.c4
    unfold sNodes at h12 ⊢; omega
  clear h12
  unfold cfgV cfgCells
  have G0 := (Has.nil w).blkNew (cfgCells c) 24
  go_enter Try.func11, Try.ntmps11
  go_wp2_with fail
  refine (Check_ok c hco _).mono ?_
  rintro e w1 ⟨rfl, q1⟩
  have G1 := G0.up q1
  have hl1 := (G1.lt 0 _ rfl w.heap.size (by simp [blkC])).1
  obtain ⟨b0, b1, b2, b3, b4, b5, b6, b7, b8, b9, b10, b11, fb⟩ := row12 (G1.get 0 rfl)
  clear G0 q1
  go_wp2_with fail
  refine (Nodes_c c.c0 c.c1 c.c2 c.c3 c.c4 _).mono ?_
  rintro e w2 ⟨rfl, q2⟩
  have G2 := (G1.blkNew (mCells 0 0 0 0 0 0 0 0 0 c (.slice none 0 0) (.slice none 0 0)) 90).up q2
  obtain ⟨mb, hmb⟩ : ∃ mb, mb = w1.heap.size := ⟨_, rfl⟩
  rw [← hmb] at G2 ⊢
  clear b0 b1 b2 b3 b4 b5 b6 b7 b8 b9 b10 b11 fb hl1 hmb q2 G1
  obtain ⟨b0, b1, b2, b3, b4, b5, b6, b7, b8, b9, b10, b11, fb⟩ := row12 (G2.get 0 rfl)
  obtain ⟨m0, m1, m2, m3, m4, m5, m6, m7, m8, m9, m10, m11, m12, m13, m14, m15, m16, m17, m18, m19, m20, m21, m22, fm⟩ := row23 (G2.get 1 rfl)
  generalize hN : sNodes c.c0 c.c1 c.c2 c.c3 c.c4 = N at *
  have HN := Lib.hid hN
  clear hN
  go_wp2_with fail
  have G3 : Has w _ [blkC _ w.heap.size (cfgCells c) 24, blkC _ mb (mCells 0 0 0 0 0 N 0 0 0 c (.slice none 0 0) (.slice none 0 0)) 90] := G2.blkSet 1 rfl 5 (.int .i64 N)
  obtain ⟨W, HW, eW⟩ := G3.name
  rw [← eW.out]
  clear G2 G3 eW b0 b1 b2 b3 b4 b5 b6 b7 b8 b9 b10 b11 fb m0 m1 m2 m3 m4 m5 m6 m7 m8 m9 m10 m11 m12 m13 m14 m15 m16 m17 m18 m19 m20 m21 m22 fm
  obtain ⟨b0, b1, b2, b3, b4, b5, b6, b7, b8, b9, b10, b11, fb⟩ := row12 (HW.drew.get 0 rfl)
  obtain ⟨m0, m1, m2, m3, m4, m5, m6, m7, m8, m9, m10, m11, m12, m13, m14, m15, m16, m17, m18, m19, m20, m21, m22, fm⟩ := row23 (HW.drew.get 1 rfl)
  go_region
  all_goals go_wp2_with fail
  have G4 : Has w _ [blkC _ w.heap.size (cfgCells c) 24, blkC _ mb (mCells 0 0 0 0 0 N (N + 2 * c.mr + c.mu) 0 0 c (.slice none 0 0) (.slice none 0 0)) 90, ownN _ 3 .i64 (.slice none 0 0) []] := ((HW.blkSet 1 rfl 6 (.int .i64 (N + 2 * c.mr + c.mu))).drew).ownNil 3 1
  clear b0 b1 b2 b3 b4 b5 b6 b7 b8 b9 b10 b11 fb m0 m1 m2 m3 m4 m5 m6 m7 m8 m9 m10 m11 m12 m13 m14 m15 m16 m17 m18 m19 m20 m21 m22 fm
  clear HW
  have hrl : (c.rooms.length : Int) = N := by unfold Cfg.rooms Cfg.cls; rw [List.length_map, cells_len]; exact HN.out
  have HRL := Lib.hid hrl
  have hcl : ∀ i : Nat, (i : Int) + 1 ≤ N → c.rooms[i]? = some (sSlots (sClass c.c0 c.c1 c.c2 c.c3 c.c4 ((i : Int) + 1))) := by
    intro i hi
    have := cells_class c.c0 c.c1 c.c2 c.c3 c.c4 ((i : Int) + 1) (by omega) (by rw [HN.out]; exact hi)
    unfold Cfg.rooms Cfg.cls
    rw [List.getElem?_map]
    rw [show ((i : Int) + 1 - 1).toNat = i by omega] at this
    rw [this]; rfl
  have HCL := Lib.hid hcl
  clear hrl hcl
  go_loopw [6, 7] (fun vv uu wr => ∃ (i : Nat) (ys : List Int) (rv : Value) (M : Int), i ≤ c.rooms.length ∧ vv = .int .i64 ((i : Int) + 1) ∧ ys = c.rooms.take i ∧ M = N + 2 * c.mr + c.mu + mSum c.ch ys ∧ Has w wr [blkC _ w.heap.size (cfgCells c) 24, blkC _ mb (mCells 0 0 0 0 0 N M 0 0 c (.slice none 0 0) rv) 90, ownN _ 3 .i64 rv ys]) (fun vv _ _ => 61 - (intOf vv).toNat)
  case atStart => exact ⟨0, [], _, _, by omega, rfl, rfl, by simp [mSum], G4⟩
  case round =>
    obtain ⟨i, ys, rv, M, hi, rfl, hys, hM, G⟩ := hrel
    have hyl : ys.length = i := by rw [hys, List.length_take]; omega
    have hil : (i : Int) ≤ N := by have := HRL.out; omega
    have hmb := mSum_bd c.ch ys (by omega) (by rw [hys]; intro x hx; exact rooms_bd c x (List.mem_of_mem_take hx))
    have hM2 : 0 ≤ M ∧ M ≤ 60 + 8 + 4 + 60 * 16 := by rw [hM]; omega
    have YM := Lib.hid (And.intro hys (And.intro hM hyl))
    have hyl2 : ys.length ≤ 60 := by omega
    clear hys hM hmb hyl
    obtain ⟨ra, rc, rfl⟩ := own_is (G.get 2 rfl)
    obtain ⟨b0, b1, b2, b3, b4, b5, b6, b7, b8, b9, b10, b11, fb⟩ := row12 (G.get 0 rfl)
    obtain ⟨m0, m1, m2, m3, m4, m5, m6, m7, m8, m9, m10, m11, m12, m13, m14, m15, m16, m17, m18, m19, m20, m21, m22, fm⟩ := row23 (G.get 1 rfl)
    by_cases hlt : (i : Int) + 1 ≤ N
    · go_wp2_with fail
      refine (Class_c c.c0 c.c1 c.c2 c.c3 c.c4 ((i : Int) + 1) (by omega) _).mono ?_
      rintro e w3 ⟨rfl, q3⟩
      have G3 := G.up q3
      clear m0 m1 m2 m3 m4 m5 m6 m7 m8 m9 m10 m11 m12 m13 m14 m15 m16 m17 m18 m19 m20 m21 m22 fm b0 b1 b2 b3 b4 b5 b6 b7 b8 b9 b10 b11 fb q3 G
      go_wp2_with fail
      refine (Slots_c _ _).mono ?_
      rintro e w4 ⟨rfl, dn, rfl⟩
      have G4 := G3.drewN dn
      have hx := HCL.out i hlt
      have hxb := sSlots_bd (sClass c.c0 c.c1 c.c2 c.c3 c.c4 ((i : Int) + 1))
      generalize sSlots (sClass c.c0 c.c1 c.c2 c.c3 c.c4 ((i : Int) + 1)) = x at hx hxb ⊢
      have HX := Lib.hid hx
      clear hx
      obtain ⟨m0, m1, m2, m3, m4, m5, m6, m7, m8, m9, m10, m11, m12, m13, m14, m15, m16, m17, m18, m19, m20, m21, m22, fm⟩ := row23 (G3.get 1 rfl)
      have hmbl := (G4.lt 1 _ rfl mb (by simp [blkC])).1
      go_wp2_with (at_builtin; refine wpl_app G4 2 rfl (.tmp 59) (.tmp 61) rfl el_int rfl (by decide) (by decide) rfl rfl [.int .i64 x] rfl rfl (by simp [Value.oneCell']) (by omega) ?_; intro v1 w5 G5; rw [ownN_app] at G5; obtain ⟨zs, hzs⟩ : ∃ zs, zs = ys ++ [x] := ⟨_, rfl⟩; rw [← hzs] at G5; have ZS := Lib.hid hzs; clear hzs; obtain ⟨xa, xc, rfl⟩ := own_is (G5.get 2 rfl); have G5' := G5; clear m0 m1 m2 m3 m4 m5 m6 m7 m8 m9 m10 m11 m12 m13 m14 m15 m16 m17 m18 m19 m20 m21 m22 fm hmbl; obtain ⟨k0, k1, k2, k3, k4, k5, k6, k7, k8, k9, k10, k11, k12, k13, k14, k15, k16, k17, k18, k19, k20, k21, k22, fk⟩ := row23 (G5'.get 1 rfl))
      have G6 : Has w _ [blkC _ w.heap.size (cfgCells c) 24, blkC _ mb (mCells 0 0 0 0 0 N M 0 0 c (.slice none 0 0) (.slice xa zs.length xc)) 90, ownN _ 3 .i64 (.slice xa zs.length xc) zs] := G5'.blkSet 1 rfl 22 (.slice xa zs.length xc)
      obtain ⟨W6, HW, eW⟩ := G6.name
      rw [← eW.out]
      clear G6 eW G5 k0 k1 k2 k3 k4 k5 k6 k7 k8 k9 k10 k11 k12 k13 k14 k15 k16 k17 k18 k19 k20 k21 k22 fk G5' G4 G3
      obtain ⟨b0, b1, b2, b3, b4, b5, b6, b7, b8, b9, b10, b11, fb⟩ := row12 (HW.drew.get 0 rfl)
      obtain ⟨m0, m1, m2, m3, m4, m5, m6, m7, m8, m9, m10, m11, m12, m13, m14, m15, m16, m17, m18, m19, m20, m21, m22, fm⟩ := row23 (HW.drew.get 1 rfl)
      have hdb := div_bd x c.ch h8.1 hxb.1 hxb.2
      have hdt : (x + c.ch - 1).tdiv c.ch = (x + c.ch - 1) / c.ch := Int.tdiv_eq_ediv_of_nonneg (by omega)
      go_region
      all_goals go_wp2_with fail
      have G7 : Has w _ [blkC _ w.heap.size (cfgCells c) 24, blkC _ mb (mCells 0 0 0 0 0 N (M + (x + c.ch - 1) / c.ch) 0 0 c (.slice none 0 0) (.slice xa zs.length xc)) 90, ownN _ 3 .i64 (.slice xa zs.length xc) zs] := (HW.blkSet 1 rfl 6 (.int .i64 (M + (x + c.ch - 1) / c.ch))).drew
      go_roundw
      case rel => exact ⟨i + 1, zs, .slice xa zs.length xc, M + (x + c.ch - 1) / c.ch, by have := HRL.out; omega, by go_num, by rw [ZS.out, YM.out.1, take_snoc1 _ _ _ HX.out], by rw [ZS.out, YM.out.2.1, mSum_snoc]; omega, G7⟩
      case measure => simp [intOf]; omega
    · have hiN : (i : Int) = N := by omega
      have hfull : c.rooms.take i = c.rooms := List.take_of_length_le (by have := HRL.out; omega)
      have hprod : 0 ≤ c.mr * (2 + c.dq) ∧ c.mr * (2 + c.dq) ≤ 40 := by
        have a1 := Int.mul_nonneg (show 0 ≤ c.mr by omega) (show 0 ≤ 2 + c.dq by omega)
        have a2 := Int.mul_le_mul (show c.mr ≤ 4 by omega) (show 2 + c.dq ≤ 10 by omega) (show 0 ≤ 2 + c.dq by omega) (show (0 : Int) ≤ 4 by omega)
        omega
      have hpt : (N + c.sw - 1).tdiv c.sw = (N + c.sw - 1) / c.sw := Int.tdiv_eq_ediv_of_nonneg (by omega)
      have hpb : 0 ≤ (N + c.sw - 1) / c.sw ∧ (N + c.sw - 1) / c.sw ≤ 100 := ⟨Int.ediv_nonneg (by omega) (by omega), Int.le_trans (Int.ediv_le_self c.sw (by omega)) (by omega)⟩
      have HF := Lib.hid (And.intro hiN hfull)
      clear hiN hfull hil
      have hilt : (i : Int) ≤ N := by have := HF.out.1; omega
      go_wp2_with fail
      clear b0 b1 b2 b3 b4 b5 b6 b7 b8 b9 b10 b11 fb m0 m1 m2 m3 m4 m5 m6 m7 m8 m9 m10 m11 m12 m13 m14 m15 m16 m17 m18 m19 m20 m21 m22 fm
      obtain ⟨b0, b1, b2, b3, b4, b5, b6, b7, b8, b9, b10, b11, fb⟩ := row12 (G.get 0 rfl)
      obtain ⟨m0, m1, m2, m3, m4, m5, m6, m7, m8, m9, m10, m11, m12, m13, m14, m15, m16, m17, m18, m19, m20, m21, m22, fm⟩ := row23 (G.get 1 rfl)
      go_region
      all_goals go_wp2_with fail
      have Q1 : Has w _ [blkC _ w.heap.size (cfgCells c) 24, blkC _ mb (mCells 6 0 0 0 0 N M ((N + c.sw - 1) / c.sw) 0 c (.slice none 0 0) (.slice ra ys.length rc)) 90, ownN _ 3 .i64 (.slice ra ys.length rc) ys] := (((G.blkSet 1 rfl 7 (.int .i64 ((N + c.sw - 1) / c.sw)))).blkSet 1 rfl 0 (.int .i64 (6))).drew
      obtain ⟨V1, P1, eW1⟩ := Q1.name
      rw [← eW1.out]
      clear Q1 eW1 b0 b1 b2 b3 b4 b5 b6 b7 b8 b9 b10 b11 fb m0 m1 m2 m3 m4 m5 m6 m7 m8 m9 m10 m11 m12 m13 m14 m15 m16 m17 m18 m19 m20 m21 m22 fm
      obtain ⟨b0, b1, b2, b3, b4, b5, b6, b7, b8, b9, b10, b11, fb⟩ := row12 (P1.get 0 rfl)
      obtain ⟨m0, m1, m2, m3, m4, m5, m6, m7, m8, m9, m10, m11, m12, m13, m14, m15, m16, m17, m18, m19, m20, m21, m22, fm⟩ := row23 (P1.get 1 rfl)
      go_region
      all_goals go_wp2_with fail
      have Q2 : Has w _ [blkC _ w.heap.size (cfgCells c) 24, blkC _ mb (mCells 6 (6 + c.mu) (6 + c.mu + 5) 0 0 N M ((N + c.sw - 1) / c.sw) 0 c (.slice none 0 0) (.slice ra ys.length rc)) 90, ownN _ 3 .i64 (.slice ra ys.length rc) ys] := (((P1.blkSet 1 rfl 1 (.int .i64 (6 + c.mu)))).blkSet 1 rfl 2 (.int .i64 (6 + c.mu + 5))).drew
      obtain ⟨V2, P2, eW2⟩ := Q2.name
      rw [← eW2.out]
      clear Q2 eW2 b0 b1 b2 b3 b4 b5 b6 b7 b8 b9 b10 b11 fb m0 m1 m2 m3 m4 m5 m6 m7 m8 m9 m10 m11 m12 m13 m14 m15 m16 m17 m18 m19 m20 m21 m22 fm
      clear P1
      obtain ⟨b0, b1, b2, b3, b4, b5, b6, b7, b8, b9, b10, b11, fb⟩ := row12 (P2.get 0 rfl)
      obtain ⟨m0, m1, m2, m3, m4, m5, m6, m7, m8, m9, m10, m11, m12, m13, m14, m15, m16, m17, m18, m19, m20, m21, m22, fm⟩ := row23 (P2.get 1 rfl)
      go_region
      all_goals go_wp2_with fail
      have Q3 : Has w _ [blkC _ w.heap.size (cfgCells c) 24, blkC _ mb (mCells 6 (6 + c.mu) (6 + c.mu + 5) (6 + c.mu + 5 + c.mr * (2 + c.dq)) 0 N M ((N + c.sw - 1) / c.sw) 0 c (.slice none 0 0) (.slice ra ys.length rc)) 90, ownN _ 3 .i64 (.slice ra ys.length rc) ys] := (P2.blkSet 1 rfl 3 (.int .i64 (6 + c.mu + 5 + c.mr * (2 + c.dq)))).drew
      obtain ⟨V3, P3, eW3⟩ := Q3.name
      rw [← eW3.out]
      clear Q3 eW3 b0 b1 b2 b3 b4 b5 b6 b7 b8 b9 b10 b11 fb m0 m1 m2 m3 m4 m5 m6 m7 m8 m9 m10 m11 m12 m13 m14 m15 m16 m17 m18 m19 m20 m21 m22 fm
      clear P2
      obtain ⟨b0, b1, b2, b3, b4, b5, b6, b7, b8, b9, b10, b11, fb⟩ := row12 (P3.get 0 rfl)
      obtain ⟨m0, m1, m2, m3, m4, m5, m6, m7, m8, m9, m10, m11, m12, m13, m14, m15, m16, m17, m18, m19, m20, m21, m22, fm⟩ := row23 (P3.get 1 rfl)
      go_region
      all_goals go_wp2_with fail
      have Q4 : Has w _ [blkC _ w.heap.size (cfgCells c) 24, blkC _ mb (mCells 6 (6 + c.mu) (6 + c.mu + 5) (6 + c.mu + 5 + c.mr * (2 + c.dq)) (6 + c.mu + 5 + c.mr * (2 + c.dq) + M * 6) N M ((N + c.sw - 1) / c.sw) (6 + c.mu + 5 + c.mr * (2 + c.dq) + M * 6) c (.slice none 0 0) (.slice ra ys.length rc)) 90, ownN _ 3 .i64 (.slice ra ys.length rc) ys] := (((P3.blkSet 1 rfl 4 (.int .i64 (6 + c.mu + 5 + c.mr * (2 + c.dq) + M * 6)))).blkSet 1 rfl 8 (.int .i64 (6 + c.mu + 5 + c.mr * (2 + c.dq) + M * 6))).drew
      obtain ⟨V4, P4, eW4⟩ := Q4.name
      rw [← eW4.out]
      clear Q4 eW4 b0 b1 b2 b3 b4 b5 b6 b7 b8 b9 b10 b11 fb m0 m1 m2 m3 m4 m5 m6 m7 m8 m9 m10 m11 m12 m13 m14 m15 m16 m17 m18 m19 m20 m21 m22 fm
      clear P3
      have P5 := P4.ownNil 3 1
      clear P4 G
      have hA0 : 0 ≤ (6 + c.mu + 5 + c.mr * (2 + c.dq) + M * 6) ∧ (6 + c.mu + 5 + c.mr * (2 + c.dq) + M * 6) ≤ 10000 := by omega
      generalize hA : (6 + c.mu + 5 + c.mr * (2 + c.dq) + M * 6) = A0 at *
      have HA := Lib.hid hA
      clear hA
      have hzb := rSum_bd ys (by rw [YM.out.1]; intro x hx; exact rooms_bd c x (List.mem_of_mem_take hx))
      have hrb : ∀ x ∈ ys, 0 ≤ x ∧ x ≤ 16 := by rw [YM.out.1]; intro x hx; exact rooms_bd c x (List.mem_of_mem_take hx)
      have HRB := Lib.hid hrb
      clear hrb hzb
      have hyn : 0 < ys.length := by rw [YM.out.1, HF.out.2]; have := HRL.out; omega
      obtain ⟨g, off, rfl, -⟩ := own_atV (P5.get 2 rfl) hyn
      refine new_loop2 c mb g off rc ys _ _ _ A0 N M _ _ _ _ _ _ _ _ _ _ _ _ _ _ _ _ _ _ _ _ _ _ _ _ _ _ _ _ _ _ _ _ _ _ _ _ _ _ _ _ _ _ _ _ _ _ _ _ _ _ _ _ _ _ _ _ _ _ _ _ _ _ _ _ _ _ _ _ _ _ _ _ _ _ _ _ _ _ _ _ _ _ _ _ _ _ _ _ _ _ _ _ _ _ _ _ _ _ _ _ _ _ _ _ _ _ _ _ _ _ _ _ _ _ _ _ _ _ _ _ _ _ _ _ _ _ _ _ _ _ _ _ _ _ _ _ _ _ _ _ _ _ _ _ _ _ _ _ _ _ _ _ _ _ _ _ _ _ _ _ _ _ _ _ _ _ _ _ _ _ _ _ _ _ _ _ _ _ _ _ _ _ _ _ _ _ _ _ _ _ _ _ _ _ _ _ _ _ _ hyl2 hA0 HRB P5 ?_
      intro u9 u171 u172 u173 u174 u175 u176 u177 u178 u179 u180 u181 u182 u183 u184 u185 u186 u187 u188 u189 u190 u191 u192 u193 u194 u195 u196 u197 u198 u199 av w' G
      clear P5
      have hyr : ys = c.rooms := by rw [YM.out.1]; exact HF.out.2
      have eM : M = c.mn := by rw [YM.out.2.1, hyr]; unfold Cfg.mn Cfg.nd; rw [HN.out]
      have eN : N = c.nd := by unfold Cfg.nd; rw [HN.out]
      have eA : A0 = c.n0P := by rw [← HA.out, eM]; unfold Cfg.n0P Cfg.pkP Cfg.dqP Cfg.headP; omega
      have eP : (N + c.sw - 1) / c.sw = c.pt := by unfold Cfg.pt; rw [eN]
      have GG := Lib.hid (And.intro G (And.intro hyr (And.intro eM (And.intro eN (And.intro eA eP)))))
      clear hyr eM eN eA eP G
      go_wp2_with fail
      go_ret2
      obtain ⟨G, hyr, eM, eN, eA, eP⟩ := GG.out
      have e1 : 6 + c.mu + 5 + c.mr * (2 + c.dq) = c.pkP := rfl
      have eL : A0 + rSum ys = c.all := by rw [eA, hyr]; rfl
      rw [e1, eL, eP] at G
      rw [eA, eN, eM, hyr] at G
      refine ⟨mb, av, _, rfl, H.add (mapC _ mb av _ c) G.below (fun q hq => ?_) ⟨G.get 1 rfl, ?_, G.get 2 rfl⟩⟩
      · simp only [mapC, List.mem_cons, List.mem_append] at hq
        rcases hq with rfl | hq | hq
        · have := G.lt 1 _ rfl q (by simp [blkC]); exact ⟨this.2 rfl, this.1⟩
        · have := G.lt 3 _ rfl q hq; exact ⟨this.2 rfl, this.1⟩
        · have := G.lt 2 _ rfl q hq; exact ⟨this.2 rfl, this.1⟩
      · exact G.get 3 rfl

end Go.Proofs.Ytmiaghbakdapbaa

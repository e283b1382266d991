/- Common imports and small lemmas on bits, wraps and draws. No condition. -/
import Derived.Test.YtmiaghbakdapbaaRows
import Derived.WalkKit
import Derived.ProofKit
import Derived.OpenShut
import Derived.BigQuiet
import Derived.Deep.QuietTactic
import Derived.WalkLawsBesides
import Derived.WalkSpells
import Derived.Outline
import Derived.LoopTactic
import Derived.Below
import Derived.Lib.Hide
import Derived.Laws.Bits64
namespace Go.Proofs.Ytmiaghbakdapbaa
open Go.ChangeShapes Go.WideShapes Go.ChangeAt Go.RowKit

theorem wrap_u64_lo (p : Int) : 0 ≤ IntKind.u64.wrap p := by rw [IntKind.wrap_u64]; omega
theorem wrap_u64_hi (p : Int) : IntKind.u64.wrap p < 18446744073709551616 := by rw [IntKind.wrap_u64]; omega

theorem bits_or_nat (x y : Nat) (hx : x < 18446744073709551616) (hy : y < 18446744073709551616) :
    bits .or .u64 (x : Int) (y : Int) = ((x ||| y : Nat) : Int) := by
  have h : x ||| y < 2 ^ 64 := Nat.or_lt_two_pow (by omega) (by omega)
  have e : ((BitVec.ofNat 64 x ||| BitVec.ofNat 64 y).toNat) = x ||| y := by
    rw [BitVec.toNat_or, BitVec.toNat_ofNat, BitVec.toNat_ofNat, Nat.mod_eq_of_lt (by omega), Nat.mod_eq_of_lt (by omega)]
  have e2 : bits .or .u64 (x : Int) (y : Int) = IntKind.u64.wrap ((BitVec.ofInt 64 (x : Int) ||| BitVec.ofInt 64 (y : Int)).toNat : Int) := rfl
  rw [e2, BitVec.ofInt_natCast, BitVec.ofInt_natCast, e, IntKind.wrap_u64]
  omega

theorem bits_and_nat (x y : Nat) (hx : x < 18446744073709551616) (hy : y < 18446744073709551616) :
    bits .and .u64 (x : Int) (y : Int) = ((x &&& y : Nat) : Int) := by
  have h : x &&& y < 2 ^ 64 := Nat.and_lt_two_pow _ (by omega)
  have e : ((BitVec.ofNat 64 x &&& BitVec.ofNat 64 y).toNat) = x &&& y := by
    rw [BitVec.toNat_and, BitVec.toNat_ofNat, BitVec.toNat_ofNat, Nat.mod_eq_of_lt (by omega), Nat.mod_eq_of_lt (by omega)]
  have e2 : bits .and .u64 (x : Int) (y : Int) = IntKind.u64.wrap ((BitVec.ofInt 64 (x : Int) &&& BitVec.ofInt 64 (y : Int)).toNat : Int) := rfl
  rw [e2, BitVec.ofInt_natCast, BitVec.ofInt_natCast, e, IntKind.wrap_u64]
  omega

/-- x & 7 is x mod 8. -/
theorem and7 (x : Int) (h0 : 0 ≤ x) (h1 : x < 18446744073709551616) : bits .and .u64 x 7 = x % 8 := by
  obtain ⟨n, rfl⟩ := Int.eq_ofNat_of_zero_le h0
  have := bits_and_nat n 7 (by omega) (by omega)
  rw [show ((7 : Nat) : Int) = 7 from rfl] at this
  rw [this, show (7 : Nat) = 2 ^ 3 - 1 from rfl, Nat.and_two_pow_sub_one_eq_mod]
  omega

/-- x & (2^32 - 1) is x mod 2^32. -/
theorem and32 (x : Int) (h0 : 0 ≤ x) (h1 : x < 18446744073709551616) : bits .and .u64 x 4294967295 = x % 4294967296 := by
  obtain ⟨n, rfl⟩ := Int.eq_ofNat_of_zero_le h0
  have := bits_and_nat n 4294967295 (by omega) (by omega)
  rw [show ((4294967295 : Nat) : Int) = 4294967295 from rfl] at this
  rw [this, show (4294967295 : Nat) = 2 ^ 32 - 1 from rfl, Nat.and_two_pow_sub_one_eq_mod]
  omega

/-- 8 a | b is 8 a + b where b < 8. -/
theorem or8 (a b : Int) (a0 : 0 ≤ a) (a1 : a * 8 < 18446744073709551616) (b0 : 0 ≤ b) (b1 : b < 8) : bits .or .u64 (a * 8) b = a * 8 + b := by
  obtain ⟨n, rfl⟩ := Int.eq_ofNat_of_zero_le a0
  obtain ⟨m, rfl⟩ := Int.eq_ofNat_of_zero_le b0
  have h := bits_or_nat (n * 8) m (by omega) (by omega)
  rw [show (((n * 8 : Nat)) : Int) = (n : Int) * 8 by omega] at h
  rw [h]
  have k := Nat.shiftLeft_add_eq_or_of_lt (b := m) (i := 3) (by omega) n
  rw [Nat.shiftLeft_eq] at k
  rw [show n * 8 = n * 2 ^ 3 from rfl, ← k]
  omega

/-- 2^32 a | b is 2^32 a + b where b < 2^32. -/
theorem or32 (a b : Int) (a0 : 0 ≤ a) (a1 : a < 4294967296) (b0 : 0 ≤ b) (b1 : b < 4294967296) : bits .or .u64 (a * 4294967296) b = a * 4294967296 + b := by
  obtain ⟨n, rfl⟩ := Int.eq_ofNat_of_zero_le a0
  obtain ⟨m, rfl⟩ := Int.eq_ofNat_of_zero_le b0
  have h := bits_or_nat (n * 4294967296) m (by omega) (by omega)
  rw [show (((n * 4294967296 : Nat)) : Int) = (n : Int) * 4294967296 by omega] at h
  rw [h]
  have k := Nat.shiftLeft_add_eq_or_of_lt (b := m) (i := 32) (by omega) n
  rw [Nat.shiftLeft_eq] at k
  rw [show n * 4294967296 = n * 2 ^ 32 from rfl, ← k]
  omega

theorem wrap64_id (n : Int) (h : -9223372036854775808 ≤ n) (h' : n < 9223372036854775808) : wrap64 n = n := by unfold wrap64; omega

theorem wrapi64_id (n : Int) (h : -9223372036854775808 ≤ n) (h' : n < 9223372036854775808) : IntKind.i64.wrap n = n := by simp [IntKind.wrap, IntKind.bits, IntKind.signed]; omega
theorem wrapu64_id (n : Int) (h : 0 ≤ n) (h' : n < 18446744073709551616) : IntKind.u64.wrap n = n := by rw [IntKind.wrap_u64]; omega
theorem wrapu32_id (n : Int) (h : 0 ≤ n) (h' : n < 4294967296) : IntKind.u32.wrap n = n := by simp [IntKind.wrap, IntKind.bits, IntKind.signed]; omega
theorem wrapu32 (n : Int) : IntKind.u32.wrap n = n % 4294967296 := by simp [IntKind.wrap, IntKind.bits, IntKind.signed]

theorem ret_int {k : IntKind} {a b : Int} (h : a = b) : Ending.returned (.int k a) = .returned (.int k b) := by rw [h]

theorem bcell {W w1 : World} (hb : Below W.heap.size W w1) : (∀ b o, b < W.heap.size → w1.cell? ⟨b, o, none⟩ = W.cell? ⟨b, o, none⟩) ∧ (∀ b o, b < W.heap.size → w1.frozen? ⟨b, o, none⟩ = W.frozen? ⟨b, o, none⟩) :=
  ⟨fun b o h => hb.cell (p := ⟨b, o, none⟩) h, fun b o h => hb.frozen (p := ⟨b, o, none⟩) h⟩

theorem grown_drewN (w : World) (n : Nat) : Grown w (w.drewN n) := Grown.refl w

theorem frozen_high (w : World) (a : Addr) (h : w.heap.size ≤ a.block) : w.frozen? a = false := by
  unfold World.frozen?
  rw [Array.getElem?_eq_none h]

/-- A new block is there. -/
theorem blk_new (w : World) (o : Obj) (n : Nat) : ((w.alloc o).drewN n).heap[w.heap.size]? = some o := by
  show (w.heap.push o)[w.heap.size]? = some o
  simp

theorem blk_cell {w : World} {B : Nat} {c : Array Value} {T : TypeId} (h : w.heap[B]? = some (.cells c T (0, 0))) (o : Nat) : w.cell? ⟨B, o, none⟩ = c[o]? := by simp [World.cell?, h]
theorem blk_frozen {w : World} {B : Nat} {c : Array Value} {T : TypeId} (h : w.heap[B]? = some (.cells c T (0, 0))) (o : Nat) : w.frozen? ⟨B, o, none⟩ = false := by simp [World.frozen?, h]

theorem row1 {w : World} {B : Nat} {a : Value} {T : TypeId} (h : w.heap[B]? = some (.cells #[a] T (0, 0))) : w.cell? ⟨B, 0, none⟩ = some a ∧ ∀ o, w.frozen? ⟨B, o, none⟩ = false :=
  ⟨blk_cell h 0, blk_frozen h⟩
theorem row2 {w : World} {B : Nat} {a b : Value} {T : TypeId} (h : w.heap[B]? = some (.cells #[a, b] T (0, 0))) : w.cell? ⟨B, 0, none⟩ = some a ∧ w.cell? ⟨B, 1, none⟩ = some b ∧ ∀ o, w.frozen? ⟨B, o, none⟩ = false :=
  ⟨blk_cell h 0, blk_cell h 1, blk_frozen h⟩
theorem row5 {w : World} {B : Nat} {a b c d e : Value} {T : TypeId} (h : w.heap[B]? = some (.cells #[a, b, c, d, e] T (0, 0))) : w.cell? ⟨B, 0, none⟩ = some a ∧ w.cell? ⟨B, 1, none⟩ = some b ∧ w.cell? ⟨B, 2, none⟩ = some c ∧ w.cell? ⟨B, 3, none⟩ = some d ∧ w.cell? ⟨B, 4, none⟩ = some e ∧ ∀ o, w.frozen? ⟨B, o, none⟩ = false :=
  ⟨blk_cell h 0, blk_cell h 1, blk_cell h 2, blk_cell h 3, blk_cell h 4, blk_frozen h⟩

theorem row3 {w : World} {B : Nat} {a0 a1 a2 : Value} {T : TypeId} (h : w.heap[B]? = some (.cells #[a0, a1, a2] T (0, 0))) : w.cell? ⟨B, 0, none⟩ = some a0 ∧ w.cell? ⟨B, 1, none⟩ = some a1 ∧ w.cell? ⟨B, 2, none⟩ = some a2 ∧ ∀ o, w.frozen? ⟨B, o, none⟩ = false :=
  ⟨blk_cell h 0, blk_cell h 1, blk_cell h 2, blk_frozen h⟩
theorem row4 {w : World} {B : Nat} {a0 a1 a2 a3 : Value} {T : TypeId} (h : w.heap[B]? = some (.cells #[a0, a1, a2, a3] T (0, 0))) : w.cell? ⟨B, 0, none⟩ = some a0 ∧ w.cell? ⟨B, 1, none⟩ = some a1 ∧ w.cell? ⟨B, 2, none⟩ = some a2 ∧ w.cell? ⟨B, 3, none⟩ = some a3 ∧ ∀ o, w.frozen? ⟨B, o, none⟩ = false :=
  ⟨blk_cell h 0, blk_cell h 1, blk_cell h 2, blk_cell h 3, blk_frozen h⟩
theorem row6 {w : World} {B : Nat} {a0 a1 a2 a3 a4 a5 : Value} {T : TypeId} (h : w.heap[B]? = some (.cells #[a0, a1, a2, a3, a4, a5] T (0, 0))) : w.cell? ⟨B, 0, none⟩ = some a0 ∧ w.cell? ⟨B, 1, none⟩ = some a1 ∧ w.cell? ⟨B, 2, none⟩ = some a2 ∧ w.cell? ⟨B, 3, none⟩ = some a3 ∧ w.cell? ⟨B, 4, none⟩ = some a4 ∧ w.cell? ⟨B, 5, none⟩ = some a5 ∧ ∀ o, w.frozen? ⟨B, o, none⟩ = false :=
  ⟨blk_cell h 0, blk_cell h 1, blk_cell h 2, blk_cell h 3, blk_cell h 4, blk_cell h 5, blk_frozen h⟩
theorem row7 {w : World} {B : Nat} {a0 a1 a2 a3 a4 a5 a6 : Value} {T : TypeId} (h : w.heap[B]? = some (.cells #[a0, a1, a2, a3, a4, a5, a6] T (0, 0))) : w.cell? ⟨B, 0, none⟩ = some a0 ∧ w.cell? ⟨B, 1, none⟩ = some a1 ∧ w.cell? ⟨B, 2, none⟩ = some a2 ∧ w.cell? ⟨B, 3, none⟩ = some a3 ∧ w.cell? ⟨B, 4, none⟩ = some a4 ∧ w.cell? ⟨B, 5, none⟩ = some a5 ∧ w.cell? ⟨B, 6, none⟩ = some a6 ∧ ∀ o, w.frozen? ⟨B, o, none⟩ = false :=
  ⟨blk_cell h 0, blk_cell h 1, blk_cell h 2, blk_cell h 3, blk_cell h 4, blk_cell h 5, blk_cell h 6, blk_frozen h⟩
theorem row8 {w : World} {B : Nat} {a0 a1 a2 a3 a4 a5 a6 a7 : Value} {T : TypeId} (h : w.heap[B]? = some (.cells #[a0, a1, a2, a3, a4, a5, a6, a7] T (0, 0))) : w.cell? ⟨B, 0, none⟩ = some a0 ∧ w.cell? ⟨B, 1, none⟩ = some a1 ∧ w.cell? ⟨B, 2, none⟩ = some a2 ∧ w.cell? ⟨B, 3, none⟩ = some a3 ∧ w.cell? ⟨B, 4, none⟩ = some a4 ∧ w.cell? ⟨B, 5, none⟩ = some a5 ∧ w.cell? ⟨B, 6, none⟩ = some a6 ∧ w.cell? ⟨B, 7, none⟩ = some a7 ∧ ∀ o, w.frozen? ⟨B, o, none⟩ = false :=
  ⟨blk_cell h 0, blk_cell h 1, blk_cell h 2, blk_cell h 3, blk_cell h 4, blk_cell h 5, blk_cell h 6, blk_cell h 7, blk_frozen h⟩
theorem row9 {w : World} {B : Nat} {a0 a1 a2 a3 a4 a5 a6 a7 a8 : Value} {T : TypeId} (h : w.heap[B]? = some (.cells #[a0, a1, a2, a3, a4, a5, a6, a7, a8] T (0, 0))) : w.cell? ⟨B, 0, none⟩ = some a0 ∧ w.cell? ⟨B, 1, none⟩ = some a1 ∧ w.cell? ⟨B, 2, none⟩ = some a2 ∧ w.cell? ⟨B, 3, none⟩ = some a3 ∧ w.cell? ⟨B, 4, none⟩ = some a4 ∧ w.cell? ⟨B, 5, none⟩ = some a5 ∧ w.cell? ⟨B, 6, none⟩ = some a6 ∧ w.cell? ⟨B, 7, none⟩ = some a7 ∧ w.cell? ⟨B, 8, none⟩ = some a8 ∧ ∀ o, w.frozen? ⟨B, o, none⟩ = false :=
  ⟨blk_cell h 0, blk_cell h 1, blk_cell h 2, blk_cell h 3, blk_cell h 4, blk_cell h 5, blk_cell h 6, blk_cell h 7, blk_cell h 8, blk_frozen h⟩
theorem row10 {w : World} {B : Nat} {a0 a1 a2 a3 a4 a5 a6 a7 a8 a9 : Value} {T : TypeId} (h : w.heap[B]? = some (.cells #[a0, a1, a2, a3, a4, a5, a6, a7, a8, a9] T (0, 0))) : w.cell? ⟨B, 0, none⟩ = some a0 ∧ w.cell? ⟨B, 1, none⟩ = some a1 ∧ w.cell? ⟨B, 2, none⟩ = some a2 ∧ w.cell? ⟨B, 3, none⟩ = some a3 ∧ w.cell? ⟨B, 4, none⟩ = some a4 ∧ w.cell? ⟨B, 5, none⟩ = some a5 ∧ w.cell? ⟨B, 6, none⟩ = some a6 ∧ w.cell? ⟨B, 7, none⟩ = some a7 ∧ w.cell? ⟨B, 8, none⟩ = some a8 ∧ w.cell? ⟨B, 9, none⟩ = some a9 ∧ ∀ o, w.frozen? ⟨B, o, none⟩ = false :=
  ⟨blk_cell h 0, blk_cell h 1, blk_cell h 2, blk_cell h 3, blk_cell h 4, blk_cell h 5, blk_cell h 6, blk_cell h 7, blk_cell h 8, blk_cell h 9, blk_frozen h⟩
theorem row11 {w : World} {B : Nat} {a0 a1 a2 a3 a4 a5 a6 a7 a8 a9 a10 : Value} {T : TypeId} (h : w.heap[B]? = some (.cells #[a0, a1, a2, a3, a4, a5, a6, a7, a8, a9, a10] T (0, 0))) : w.cell? ⟨B, 0, none⟩ = some a0 ∧ w.cell? ⟨B, 1, none⟩ = some a1 ∧ w.cell? ⟨B, 2, none⟩ = some a2 ∧ w.cell? ⟨B, 3, none⟩ = some a3 ∧ w.cell? ⟨B, 4, none⟩ = some a4 ∧ w.cell? ⟨B, 5, none⟩ = some a5 ∧ w.cell? ⟨B, 6, none⟩ = some a6 ∧ w.cell? ⟨B, 7, none⟩ = some a7 ∧ w.cell? ⟨B, 8, none⟩ = some a8 ∧ w.cell? ⟨B, 9, none⟩ = some a9 ∧ w.cell? ⟨B, 10, none⟩ = some a10 ∧ ∀ o, w.frozen? ⟨B, o, none⟩ = false :=
  ⟨blk_cell h 0, blk_cell h 1, blk_cell h 2, blk_cell h 3, blk_cell h 4, blk_cell h 5, blk_cell h 6, blk_cell h 7, blk_cell h 8, blk_cell h 9, blk_cell h 10, blk_frozen h⟩
theorem row12 {w : World} {B : Nat} {a0 a1 a2 a3 a4 a5 a6 a7 a8 a9 a10 a11 : Value} {T : TypeId} (h : w.heap[B]? = some (.cells #[a0, a1, a2, a3, a4, a5, a6, a7, a8, a9, a10, a11] T (0, 0))) : w.cell? ⟨B, 0, none⟩ = some a0 ∧ w.cell? ⟨B, 1, none⟩ = some a1 ∧ w.cell? ⟨B, 2, none⟩ = some a2 ∧ w.cell? ⟨B, 3, none⟩ = some a3 ∧ w.cell? ⟨B, 4, none⟩ = some a4 ∧ w.cell? ⟨B, 5, none⟩ = some a5 ∧ w.cell? ⟨B, 6, none⟩ = some a6 ∧ w.cell? ⟨B, 7, none⟩ = some a7 ∧ w.cell? ⟨B, 8, none⟩ = some a8 ∧ w.cell? ⟨B, 9, none⟩ = some a9 ∧ w.cell? ⟨B, 10, none⟩ = some a10 ∧ w.cell? ⟨B, 11, none⟩ = some a11 ∧ ∀ o, w.frozen? ⟨B, o, none⟩ = false :=
  ⟨blk_cell h 0, blk_cell h 1, blk_cell h 2, blk_cell h 3, blk_cell h 4, blk_cell h 5, blk_cell h 6, blk_cell h 7, blk_cell h 8, blk_cell h 9, blk_cell h 10, blk_cell h 11, blk_frozen h⟩

theorem below_box (w : World) (o : Obj) (n : Nat) : Below w.heap.size w ((w.alloc o).drewN n) := below_drewN ((Below.refl _ _).alloc (Nat.le_refl _) _) n

end Go.Proofs.Ytmiaghbakdapbaa

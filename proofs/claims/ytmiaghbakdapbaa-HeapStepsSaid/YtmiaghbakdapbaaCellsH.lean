/- The functions of package cells, over memory as parts. Condition: a Store is one of the parts. -/
import Derived.Test.YtmiaghbakdapbaaCells2
import Derived.Test.YtmiaghbakdapbaaOwn
set_option linter.unusedVariables false
namespace Go.Proofs.Ytmiaghbakdapbaa
open Go.ChangeShapes Go.WideShapes Go.ChangeAt Go.RowKit

theorem store_heap {w w' : World} {sb g : Nat} {l : List Int} {n : Int} (h : StoreAt w sb g l n) (h1 : w'.heap[sb]? = w.heap[sb]?) (h2 : w'.heap[g]? = w.heap[g]?) : StoreAt w' sb g l n := by
  obtain ⟨a, cap, hb, hl⟩ := h
  exact ⟨a, cap, h1.trans hb, hl.imp id fun ⟨q0, q1, cur, q2, q3⟩ => ⟨q0, q1, cur, h2.trans q2, q3⟩⟩

/-- A Store: its words, and how many accesses were counted. -/
def storeC (n0 sb g : Nat) (l : List Int) (n : Int) : Chunk n0 :=
  ⟨[sb, g], false, fun w => StoreAt w sb g l n, fun _ _ h hs => store_heap hs (h sb (.inr (by simp))) (h g (.inr (by simp)))⟩

theorem Has.setStore {w0 w w' : World} {cs : List (Chunk w0.heap.size)} (H : Has w0 w cs) (i : Nat) {sb g : Nat} {l l' : List Int} {n n' : Int} (hi : cs[i]? = some (storeC _ sb g l n)) (u : Upd [sb, g] w w') (h : StoreAt w' sb g l' n') : Has w0 w' (cs.set i (storeC _ sb g l' n')) :=
  H.set _ hi rfl u (fun k hk => .inl hk) (fun k hk => ⟨.inl hk, Nat.lt_of_lt_of_le (H.lt i _ hi k hk).1 u.size⟩) h

section
variable {w0 w : World} {cs : List (Chunk w0.heap.size)} (H : Has w0 w cs) (i : Nat) {sb g : Nat} {l : List Int} {n : Int} (hi : cs[i]? = some (storeC _ sb g l n))
include H hi

theorem Load_h (at_ : Int) : Calls Try.prog 18 #[.pointer (some ⟨sb, 0, none⟩), .int .i64 at_] w fun e w' => e = .returned (.int .u64 (mld l at_)) ∧ Has w0 w' (cs.set i (storeC _ sb g l (wrap64 (n + 1)))) :=
  (Load_c sb g l n at_ w (H.get i hi)).mono fun _ _ ⟨he, hs, u⟩ => ⟨he, H.setStore i hi u hs⟩

theorem Put_h (at_ x : Int) : Calls Try.prog 20 #[.pointer (some ⟨sb, 0, none⟩), .int .i64 at_, .int .u64 x] w fun e w' => e = .returned (.tuple #[]) ∧ Has w0 w' (cs.set i (storeC _ sb g (mput l at_ x) (wrap64 (n + 1)))) :=
  (Put_c sb g l n at_ x w (H.get i hi)).mono fun _ _ ⟨he, hs, u⟩ => ⟨he, H.setStore i hi u hs⟩

theorem Swap_h (at_ old x : Int) : Calls Try.prog 95 #[.pointer (some ⟨sb, 0, none⟩), .int .i64 at_, .int .u64 old, .int .u64 x] w fun e w' => e = .returned (.bool (mswapped l at_ old)) ∧ Has w0 w' (cs.set i (storeC _ sb g (mswap l at_ old x) (wrap64 (n + 1)))) :=
  (Swap_c sb g l n at_ old x w (H.get i hi)).mono fun _ _ ⟨he, hs, u⟩ => ⟨he, H.setStore i hi u hs⟩

theorem Add_h (at_ x : Int) : Calls Try.prog 106 #[.pointer (some ⟨sb, 0, none⟩), .int .i64 at_, .int .u64 x] w fun e w' => e = .returned (.int .u64 (mld l at_)) ∧ Has w0 w' (cs.set i (storeC _ sb g (madd l at_ x) (wrap64 (n + 1)))) :=
  (Add_c sb g l n at_ x w (H.get i hi)).mono fun _ _ ⟨he, hs, u⟩ => ⟨he, H.setStore i hi u hs⟩

theorem Count_h : Calls Try.prog 28 #[.pointer (some ⟨sb, 0, none⟩)] w fun e w' => e = .returned (.int .i64 n) ∧ w' = w :=
  Count_c sb g l n w (H.get i hi)

theorem All_h (hl : l.length < 1000000000000) : Calls Try.prog 25 #[.pointer (some ⟨sb, 0, none⟩)] w fun e w' => ∃ v, e = .returned v ∧ Has w0 w' (cs ++ [slC _ .u64 v l]) :=
  (All_c sb g l n w (H.get i hi) hl).mono fun _ _ ⟨v, he, hv, b⟩ => ⟨v, he, H.addSlNew b (sl_of_new hv H.owned_lt)⟩
end

theorem New_h {w0 w : World} {cs : List (Chunk w0.heap.size)} (H : Has w0 w cs) (v : Value) (l : List Int) (h : Sl w [] .u64 v l) (hl : l.length < 1000000000000) :
    Calls Try.prog 12 #[v] w fun e w' => ∃ sb g, e = .returned (.pointer (some ⟨sb, 0, none⟩)) ∧ Has w0 w' (cs ++ [storeC _ sb g l 0]) :=
  (New_c v l w h hl).mono fun _ _ ⟨sb, g, he, h1, h2, h3, h4, hs, b⟩ => ⟨sb, g, he, H.add _ b (by simp [storeC]; omega) hs⟩

end Go.Proofs.Ytmiaghbakdapbaa

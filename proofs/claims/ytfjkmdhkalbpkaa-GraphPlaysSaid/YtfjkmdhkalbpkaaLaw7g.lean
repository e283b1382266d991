/- GraphPlays. -/
import Derived.Test.YtfjkmdhkalbpkaaRg7n
import Derived.LoopN
import Derived.Deep.CutBlock
set_option linter.unusedVariables false
set_option linter.unusedSimpArgs false
namespace Go.Proofs.Ytfjkmdhkalbpkaa
open Go.ChangeShapes Go.WideShapes Go.ChangeAt Go.RowKit

theorem drewAlloc {w : World} (o : Obj) (n m : Nat) : Below w.heap.size w (((w.alloc o).drewN n).drewN m) := ((((Has.nil w).alloc o).drewN n).drewN m).below

set_option maxRecDepth 100000 in
theorem play_nil (d m a s b : Int) (w : World) : Calls Try.prog 12 #[.pointer none, .agg #[.int .u8 d, .int .i64 m, .int .i64 a, .int .i64 s, .int .i64 b]] w fun e w' => e = .returned (.tuple #[.int .i64 0, .bool false]) ∧ Below w.heap.size w w' := by
  by_cases h0 : d = 0
  · subst h0
    go_enter Try.func12, Try.ntmps12
    go_wp2_with fail
    refine (Alloc_nil _ _ _).mono ?_
    rintro e w' ⟨rfl, n, rfl⟩
    go_wp2_with fail
    go_ret2
    exact ⟨rfl, rbelowN _ _⟩
  · have h0b : (d == 0) = false := by simpa using h0
    by_cases h1 : d = 1
    · subst h1
      go_enter Try.func12, Try.ntmps12
      go_wp2_with fail
      refine (Read_nil _ _ _ _).mono ?_
      rintro e w' ⟨rfl, n, rfl⟩
      go_wp2_with fail
      go_ret2
      exact ⟨rfl, rbelowN _ _⟩
    · have h1b : (d == 1) = false := by simpa using h1
      by_cases h2 : d = 2
      · subst h2
        go_enter Try.func12, Try.ntmps12
        go_wp2_with fail
        refine (Write_nil _ _ _ _ _).mono ?_
        rintro e w' ⟨rfl, n, rfl⟩
        go_wp2_with fail
        go_ret2
        exact ⟨rfl, rbelowN _ _⟩
      · have h2b : (d == 2) = false := by simpa using h2
        by_cases h3 : d = 3
        · subst h3
          go_enter Try.func12, Try.ntmps12
          go_wp2_with fail
          refine (Pop_nil _ _).mono ?_
          rintro e w' ⟨rfl, n, rfl⟩
          go_wp2_with fail
          go_ret2
          exact ⟨rfl, rbelowN _ _⟩
        · have h3b : (d == 3) = false := by simpa using h3
          go_enter Try.func12, Try.ntmps12
          go_wp2_with fail
          refine (Dup_nil _ _ _).mono ?_
          rintro e w' ⟨rfl, n, rfl⟩
          go_wp2_with fail
          go_ret2
          exact ⟨rfl, rbelowN _ _⟩

theorem rgx {w : World} {X : RS} {G : PG} (A : RgAt w X G) : ∃ ra rc rs na nc ns, X = ⟨.slice ra G.roots.length rc, rs, .slice na G.nodes.length nc, ns⟩ := by
  have h1 := rg_rlen A
  have h2 := rg_nlen A
  obtain ⟨ra, rc, hrv⟩ := ll_val A.r
  obtain ⟨na, nc, hnv⟩ := ll_val A.n
  obtain ⟨rv, rs, nv, ns⟩ := X
  dsimp only at hrv hnv h1 h2
  subst hrv hnv
  exact ⟨ra, rc, rs, na, nc, ns, by rw [h1, h2]⟩

/-- A read-only slice, as one that reads. -/
theorem sl_of_rd {w : World} {v : Value} {l : List Int} (h : Rd w v l) (hc : capd v) (hb : ∀ k ∈ v.ownBlock.toList, k < w.heap.size) : Sl w [] .i64 v l := by
  rcases h with ⟨rfl, rfl⟩ | ⟨g, off, c, rfl, hx⟩
  · exact ⟨none, 0, rfl, Nat.le_refl _, .inl rfl⟩
  · refine ⟨_, c, rfl, hc, .inr ⟨g, off, rfl, hb g (by simp [Value.ownBlock]), by simp, fun j hj => hx j _ (List.getElem?_eq_getElem hj)⟩⟩

/-- What the switch comes to. -/
def SwR (w0 : World) (gb wb ab n : Nat) (M : Int) (S : GS) (G' : PG) (ac : Array Value) (wx : World) : Prop :=
  ∃ ra rc rs na nc ns, Has w0 wx [grC _ gb S G', rgC _ ⟨.slice ra n rc, rs, .slice na G'.nodes.length nc, ns⟩ G', blkC _ wb #[.slice ra n rc, .slice na G'.nodes.length nc, .int .i64 M] 36, blkC _ ab ac 29]

set_option maxRecDepth 100000 in
set_option maxHeartbeats 8000000 in
theorem plays_ok (mm most s0 : Int) (va : Value) (na : Nat) (w : World) (ha : IsRows actK w va na) (hmost : ¬ (1000 : Int) < most) (h60 : ¬ (60 : Int) < (na : Int)) :
    Calls Try.prog 4 #[.int .i64 mm, .int .i64 most, .int .i64 s0, va] w fun e w' => e = .returned (.bool true) ∧ Below w.heap.size w w' := by
  have RA := Lib.hid ha
  obtain ⟨aa, ac, rfl⟩ := rows_val ha
  clear ha
  have b60 : decide ((60 : Int) < (na : Int)) = false := by simpa using h60
  have bmo : decide ((1000 : Int) < most) = false := by simpa using hmost
  go_enter Try.func4, Try.ntmps4
  go_wp2_with fail
  refine (awake7 _).mono ?_
  rintro e w1 ⟨rfl, q1⟩
  have G1 := (Has.nil w).up q1
  go_wp2_with fail
  refine (New_h G1 mm most s0 (by omega)).mono ?_
  rintro e w2 ⟨gb, S0, rfl, G2⟩
  clear G1 q1
  obtain ⟨M, hM⟩ : ∃ M, M = max most 0 := ⟨_, rfl⟩
  have B2 := newG_gb mm most s0
  rw [← hM] at B2
  have hMb : 0 ≤ M ∧ M ≤ 1000 := by omega
  have eG : newG mm most s0 = ⟨M, rootsK mm M s0, nodesL s0⟩ := by
    unfold newG rootsK nodesL rootL
    rw [← hM]
    congr 1
    by_cases h : 0 < most
    · rw [show M = most by omega]
    · rw [if_neg (by omega), if_neg (by omega)]
  have EG := Lib.hid eG
  clear eG
  generalize newG mm most s0 = G0 at G2 B2 EG
  have hMe : max most 0 = M := hM.symm
  clear hM
  obtain ⟨n, hn⟩ : ∃ n, n = mutN mm := ⟨_, rfl⟩
  rw [← hn] at B2
  have hn16 : n ≤ 16 := by rw [hn]; exact mutN_le mm
  clear hn
  have BB := Lib.hid B2
  clear B2
  go_wp2_with fail
  refine (New_r G2 mm M s0 hMb.1 (by omega)).mono ?_
  rw [← EG.out]
  rintro e w3 ⟨X, rfl, G3⟩
  obtain ⟨ra, rc, rs, na', nc, ns, rfl⟩ := rgx (G3.get 1 rfl)
  unfold RS.v
  dsimp only
  rw [BB.out.len, BB.out.most]
  rw [BB.out.len] at G3
  have G4 := G3.blkNew #[.slice ra n rc, .slice na' G0.nodes.length nc, .int .i64 M] 36
  obtain ⟨W4, HW4, eW4⟩ := G4.name
  obtain ⟨wb, hwb⟩ : ∃ wb, wb = w3.heap.size := ⟨_, rfl⟩
  rw [← hwb] at HW4
  have G5 : Has w W4 [grC _ gb S0 G0, rgC _ ⟨.slice ra n rc, rs, .slice na' G0.nodes.length nc, ns⟩ G0, blkC _ wb #[.slice ra n rc, .slice na' G0.nodes.length nc, .int .i64 M] 36] := HW4
  clear G3 G4 HW4 G2
  go_wp2_with fail
  rw [← eW4.out, ← hwb]
  clear eW4 hwb
  go_loopw [13, 14, 15, 16, 17, 18, 19, 20, 21, 22] (fun iv _ _ _ _ _ _ _ _ _ wr => ∃ (k : Nat) (S : GS) (G : PG) (ra : Option Addr) (rc : Nat) (rs : List (Value × List Int)) (na' : Option Addr) (nc : Nat) (ns : List (Value × List Int)), k ≤ na ∧ iv = .int .i64 k ∧ Hid (GB G M n (k + 1)) ∧ Has w wr [grC _ gb S G, rgC _ ⟨.slice ra n rc, rs, .slice na' G.nodes.length nc, ns⟩ G, blkC _ wb #[.slice ra n rc, .slice na' G.nodes.length nc, .int .i64 M] 36]) (fun iv _ _ _ _ _ _ _ _ _ _ => na - (intOf iv).toNat)
  case atStart => exact ⟨0, S0, G0, ra, rc, rs, na', nc, ns, by omega, rfl, BB, G5⟩
  case round =>
  clear G5 BB EG hMe
  obtain ⟨k, S, G, ra, rc, rs, na', nc, ns, hk, rfl, B, H⟩ := hrel
  by_cases hlt : k < na
  · have hlt' : (k : Int) < (na : Int) := by omega
    obtain ⟨pb, poff, pcap, d, m, a, s, b, hv, hd, hc⟩ := act_at RA.out k hlt
    cases hv
    obtain ⟨p0, p1, p2, p3, p4⟩ := hc _ _ H
    have sm := B.out.small (by omega) (by omega) (by omega)
    have H1 := H.blkNew #[.int .u8 d, .int .i64 m, .int .i64 a, .int .i64 s, .int .i64 b] 29
    obtain ⟨ab, hab⟩ : ∃ ab, ab = wr.heap.size := ⟨_, rfl⟩
    rw [← hab] at H1
    obtain ⟨W1, HW1, eW1⟩ := H1.name
    have H2 : Has w W1 [grC _ gb S G, rgC _ ⟨.slice ra n rc, rs, .slice na' G.nodes.length nc, ns⟩ G, blkC _ wb #[.slice ra n rc, .slice na' G.nodes.length nc, .int .i64 M] 36, blkC _ ab #[.int .u8 d, .int .i64 m, .int .i64 a, .int .i64 s, .int .i64 b] 29] := HW1
    have C := Lib.hid (play_h H2 0 rfl B.out.ok sm.1 sm.2.1 d m a s b hd)
    have B' := Lib.hid (gb_act B.out d m a s b)
    have SM := Lib.hid sm
    clear sm hc HW1 H1
    go_wp2_with fail
    rw [← eW1.out, ← hab]
    clear eW1 hab
    refine C.out.mono ?_
    rintro e w4 ⟨rfl, S', H3'⟩
    have H3 : Has w w4 [grC _ gb S' (G.act d m a s b).1, rgC _ ⟨.slice ra n rc, rs, .slice na' G.nodes.length nc, ns⟩ G, blkC _ wb #[.slice ra n rc, .slice na' G.nodes.length nc, .int .i64 M] 36, blkC _ ab #[.int .u8 d, .int .i64 m, .int .i64 a, .int .i64 s, .int .i64 b] 29] := H3'
    clear H3' H2 C p0 p1 p2 p3 p4
    obtain ⟨x0, x1, x2, fx⟩ := row3 (H3.get 2 rfl)
    obtain ⟨y0, y1, y2, y3, y4, fy⟩ := row5 (H3.get 3 rfl)
    go_upto_block 2 with (fail)
    go_cut [17, 18] (fun yv qv wx => yv = .int .i64 (G.act d m a s b).2.1 ∧ qv = .bool (G.act d m a s b).2.2 ∧ SwR w gb wb ab n M S' (G.act d m a s b).1 #[.int .u8 d, .int .i64 m, .int .i64 a, .int .i64 s, .int .i64 b] wx)
    case first =>
      have hM6 := SM.out.1
      by_cases h0 : d = 0
      · have h0b : (d == 0) = true := by simpa using h0
        have eA : G.act d m a s b = (G.alloc m s) := by unfold PG.act; rw [if_pos h0]
        have c := Alloc_r H3 1 rfl B.out.ok hM6 (by have := B.out.len; omega) (by have := B.out.nodes; omega) m s
        rw [B.out.most] at c
        unfold RS.v at c
        dsimp only at c
        have C := Lib.hid c
        have EA := Lib.hid eA
        clear h0
        rw [eA] at H3 B'
        clear c eA
        go_wp2_with fail
        refine C.out.mono ?_
        rintro e w5 ⟨X', rfl, H5'⟩
        obtain ⟨ra1, rc1, rs1, na1, nc1, ns1, rfl⟩ := rgx (H5'.get 1 rfl)
        unfold RS.v
        dsimp only
        rw [B'.out.len, B'.out.most]
        rw [B'.out.len, EA.out] at H5'
        have H5 : Has w w5 [grC _ gb S' (G.alloc m s).1, rgC _ ⟨.slice ra1 n rc1, rs1, .slice na1 (G.alloc m s).1.nodes.length nc1, ns1⟩ (G.alloc m s).1, blkC _ wb #[.slice ra n rc, .slice na' G.nodes.length nc, .int .i64 M] 36, blkC _ ab #[.int .u8 d, .int .i64 m, .int .i64 a, .int .i64 s, .int .i64 b] 29] := H5'
        clear H5' C x0 x1 x2 fx y0 y1 y2 y3 y4 fy
        obtain ⟨x0, x1, x2, fx⟩ := row3 (H5.get 2 rfl)
        have H6 := H5.set3 2 rfl (.slice ra1 n rc1) (.slice na1 (G.alloc m s).1.nodes.length nc1) (.int .i64 M)
        go_wp2_with fail
        go_meet
        case rel =>
          rw [EA.out]
          exact ⟨rfl, rfl, ra1, rc1, rs1, na1, nc1, ns1, H6⟩
      · have h0b : (d == 0) = false := by simpa using h0
        by_cases h1 : d = 1
        · have h1b : (d == 1) = true := by simpa using h1
          have eA : G.act d m a s b = (G.read m a s) := by unfold PG.act; rw [if_neg h0, if_pos h1]
          have c := Read_r H3 1 rfl B.out.ok hM6 (by have := B.out.len; omega) (by have := B.out.nodes; omega) m a s
          rw [B.out.most] at c
          unfold RS.v at c
          dsimp only at c
          have C := Lib.hid c
          have EA := Lib.hid eA
          clear h0 h1
          rw [eA] at H3 B'
          clear c eA
          go_wp2_with fail
          refine C.out.mono ?_
          rintro e w5 ⟨X', rfl, H5'⟩
          obtain ⟨ra1, rc1, rs1, na1, nc1, ns1, rfl⟩ := rgx (H5'.get 1 rfl)
          unfold RS.v
          dsimp only
          rw [B'.out.len, B'.out.most]
          rw [B'.out.len, EA.out] at H5'
          have H5 : Has w w5 [grC _ gb S' (G.read m a s).1, rgC _ ⟨.slice ra1 n rc1, rs1, .slice na1 (G.read m a s).1.nodes.length nc1, ns1⟩ (G.read m a s).1, blkC _ wb #[.slice ra n rc, .slice na' G.nodes.length nc, .int .i64 M] 36, blkC _ ab #[.int .u8 d, .int .i64 m, .int .i64 a, .int .i64 s, .int .i64 b] 29] := H5'
          clear H5' C x0 x1 x2 fx y0 y1 y2 y3 y4 fy
          obtain ⟨x0, x1, x2, fx⟩ := row3 (H5.get 2 rfl)
          have H6 := H5.set3 2 rfl (.slice ra1 n rc1) (.slice na1 (G.read m a s).1.nodes.length nc1) (.int .i64 M)
          go_wp2_with fail
          go_meet
          case rel =>
            rw [EA.out]
            exact ⟨rfl, rfl, ra1, rc1, rs1, na1, nc1, ns1, H6⟩
        · have h1b : (d == 1) = false := by simpa using h1
          by_cases h2 : d = 2
          · have h2b : (d == 2) = true := by simpa using h2
            have eA : G.act d m a s b = ((G.write m a s b).1, 0, (G.write m a s b).2) := by unfold PG.act; rw [if_neg h0, if_neg h1, if_pos h2]
            have c := Write_r H3 1 rfl B.out.ok hM6 (by have := B.out.len; omega) (by have := B.out.nodes; omega) m a s b
            rw [B.out.most] at c
            unfold RS.v at c
            dsimp only at c
            have C := Lib.hid c
            have EA := Lib.hid eA
            clear h0 h1 h2
            rw [eA] at H3 B'
            dsimp only at H3 B'
            clear c eA
            go_wp2_with fail
            refine C.out.mono ?_
            rintro e w5 ⟨X', rfl, H5'⟩
            obtain ⟨ra1, rc1, rs1, na1, nc1, ns1, rfl⟩ := rgx (H5'.get 1 rfl)
            unfold RS.v
            dsimp only
            rw [B'.out.len, B'.out.most]
            rw [B'.out.len, EA.out] at H5'
            have H5 : Has w w5 [grC _ gb S' (G.write m a s b).1, rgC _ ⟨.slice ra1 n rc1, rs1, .slice na1 (G.write m a s b).1.nodes.length nc1, ns1⟩ (G.write m a s b).1, blkC _ wb #[.slice ra n rc, .slice na' G.nodes.length nc, .int .i64 M] 36, blkC _ ab #[.int .u8 d, .int .i64 m, .int .i64 a, .int .i64 s, .int .i64 b] 29] := H5'
            clear H5' C x0 x1 x2 fx y0 y1 y2 y3 y4 fy
            obtain ⟨x0, x1, x2, fx⟩ := row3 (H5.get 2 rfl)
            have H6 := H5.set3 2 rfl (.slice ra1 n rc1) (.slice na1 (G.write m a s b).1.nodes.length nc1) (.int .i64 M)
            go_wp2_with fail
            go_meet
            case rel =>
              rw [EA.out]
              exact ⟨rfl, rfl, ra1, rc1, rs1, na1, nc1, ns1, H6⟩
          · have h2b : (d == 2) = false := by simpa using h2
            by_cases h3 : d = 3
            · have h3b : (d == 3) = true := by simpa using h3
              have eA : G.act d m a s b = ((G.pop m).1, 0, (G.pop m).2) := by unfold PG.act; rw [if_neg h0, if_neg h1, if_neg h2, if_pos h3]
              have c := Pop_r H3 1 rfl B.out.ok hM6 (by have := B.out.len; omega) m
              rw [B.out.most] at c
              unfold RS.v at c
              dsimp only at c
              have C := Lib.hid c
              have EA := Lib.hid eA
              clear h0 h1 h2 h3
              rw [eA] at H3 B'
              dsimp only at H3 B'
              clear c eA
              go_wp2_with fail
              refine C.out.mono ?_
              rintro e w5 ⟨X', rfl, H5'⟩
              obtain ⟨ra1, rc1, rs1, na1, nc1, ns1, rfl⟩ := rgx (H5'.get 1 rfl)
              unfold RS.v
              dsimp only
              rw [B'.out.len, B'.out.most]
              rw [B'.out.len, EA.out] at H5'
              have H5 : Has w w5 [grC _ gb S' (G.pop m).1, rgC _ ⟨.slice ra1 n rc1, rs1, .slice na1 (G.pop m).1.nodes.length nc1, ns1⟩ (G.pop m).1, blkC _ wb #[.slice ra n rc, .slice na' G.nodes.length nc, .int .i64 M] 36, blkC _ ab #[.int .u8 d, .int .i64 m, .int .i64 a, .int .i64 s, .int .i64 b] 29] := H5'
              clear H5' C x0 x1 x2 fx y0 y1 y2 y3 y4 fy
              obtain ⟨x0, x1, x2, fx⟩ := row3 (H5.get 2 rfl)
              have H6 := H5.set3 2 rfl (.slice ra1 n rc1) (.slice na1 (G.pop m).1.nodes.length nc1) (.int .i64 M)
              go_wp2_with fail
              go_meet
              case rel =>
                rw [EA.out]
                exact ⟨rfl, rfl, ra1, rc1, rs1, na1, nc1, ns1, H6⟩
            · have h3b : (d == 3) = false := by simpa using h3
              have eA : G.act d m a s b = ((G.dup m a).1, 0, (G.dup m a).2) := by unfold PG.act; rw [if_neg h0, if_neg h1, if_neg h2, if_neg h3]
              have c := Dup_r H3 1 rfl B.out.ok hM6 (by have := B.out.len; omega) m a
              rw [B.out.most] at c
              unfold RS.v at c
              dsimp only at c
              have C := Lib.hid c
              have EA := Lib.hid eA
              clear h0 h1 h2 h3
              rw [eA] at H3 B'
              dsimp only at H3 B'
              clear c eA
              go_wp2_with fail
              refine C.out.mono ?_
              rintro e w5 ⟨X', rfl, H5'⟩
              obtain ⟨ra1, rc1, rs1, na1, nc1, ns1, rfl⟩ := rgx (H5'.get 1 rfl)
              unfold RS.v
              dsimp only
              rw [B'.out.len, B'.out.most]
              rw [B'.out.len, EA.out] at H5'
              have H5 : Has w w5 [grC _ gb S' (G.dup m a).1, rgC _ ⟨.slice ra1 n rc1, rs1, .slice na1 (G.dup m a).1.nodes.length nc1, ns1⟩ (G.dup m a).1, blkC _ wb #[.slice ra n rc, .slice na' G.nodes.length nc, .int .i64 M] 36, blkC _ ab #[.int .u8 d, .int .i64 m, .int .i64 a, .int .i64 s, .int .i64 b] 29] := H5'
              clear H5' C x0 x1 x2 fx y0 y1 y2 y3 y4 fy
              obtain ⟨x0, x1, x2, fx⟩ := row3 (H5.get 2 rfl)
              have H6 := H5.set3 2 rfl (.slice ra1 n rc1) (.slice na1 (G.dup m a).1.nodes.length nc1) (.int .i64 M)
              go_wp2_with fail
              go_meet
              case rel =>
                rw [EA.out]
                exact ⟨rfl, rfl, ra1, rc1, rs1, na1, nc1, ns1, H6⟩
    case rest =>
    obtain ⟨rfl, rfl, ra1, rc1, rs1, na1, nc1, ns1, H7⟩ := hcut
    clear H3 x0 x1 x2 fx y0 y1 y2 y3 y4 fy H B SM
    generalize G.act d m a s b = R at H7 B' ⊢
    obtain ⟨G', y, q⟩ := R
    dsimp only at H7 B' ⊢
    have sm := B'.out.small (by omega) (by omega) (by omega)
    have SM := Lib.hid sm
    have hN9 : G'.nodes.length < 1000 := by have := B'.out.nodes; omega
    have HN9 := Lib.hid hN9
    have HR9 : Hid (G'.roots.length < 1000) := Lib.hid (by have := B'.out.len; omega)
    clear sm hN9
    obtain ⟨NN, hNN⟩ : ∃ NN, NN = G'.nodes.length := ⟨_, rfl⟩
    rw [← hNN] at H7
    have HNN := Lib.hid hNN
    clear hNN
    obtain ⟨x0, x1, x2, fx⟩ := row3 (H7.get 2 rfl)
    obtain ⟨y0, y1, y2, y3, y4, fy⟩ := row5 (H7.get 3 rfl)
    go_wp2_with fail
    refine (play_nil _ _ _ _ _ _).mono ?_
    rintro e w6 ⟨rfl, q6⟩
    have H8 := (H7.up q6).pick [0, 1, 2] (by decide) (by simp)
    have H9 : Has w w6 [grC _ gb S' G', rgC _ ⟨.slice ra1 n rc1, rs1, .slice na1 NN nc1, ns1⟩ G', blkC _ wb #[.slice ra1 n rc1, .slice na1 NN nc1, .int .i64 M] 36] := H8
    clear H7 H8 q6 x0 x1 x2 fx y0 y1 y2 y3 y4 fy
    have HD := H9.drew
    obtain ⟨x0, x1, x2, fx⟩ := row3 (HD.get 2 rfl)
    have f0 : (y != y) = false := by simp
    have f1 : (q != q) = false := by simp
    have f2 : ((NN : Int) != (NN : Int)) = false := by simp
    go_wp2_with fail
    have cR := fun (wq : World) (cq : List (Chunk w.heap.size)) (Hq : Has w wq (grC _ gb S' G' :: rgC _ ⟨.slice ra1 n rc1, rs1, .slice na1 NN nc1, ns1⟩ G' :: cq)) => Reach_r Hq 1 rfl B'.out.ok SM.out.1 HR9.out HN9.out
    rw [B'.out.most] at cR
    unfold RS.v at cR
    dsimp only at cR
    have CR := Lib.hid cR
    clear cR
    go_upto_if 155 with (fail)
    go_region_held3 (fun w' => w'.cell? ⟨wb, 0, none⟩ = some (.slice ra1 n rc1) ∧ w'.cell? ⟨wb, 1, none⟩ = some (.slice na1 NN nc1) ∧ w'.cell? ⟨wb, 2, none⟩ = some (.int .i64 M)) (refine ⟨?_, ?_, ?_⟩ <;> (first | (with_reducible assumption) | (simp only [cell_drewN7, cell_drew7]; with_reducible assumption))) (first | (go_at_call 21; refine (Same_h H11 3 4 rfl rfl (by have := length_reach B'.out.ok; have := SM.out.2.1; omega)).mono ?_; rw [show (G'.reach == G'.reach) = true by simp]; rintro e v12 ⟨rfl, d12, rfl⟩; have H12 := (H11.drewN d12).pick [0, 1, 2] (by decide) (by simp); obtain ⟨c0, c1, c2, fc⟩ := row3 (H12.get 2 rfl)) | (go_at_call 22; refine (CR.out _ _ H10).mono ?_; rintro e v11 ⟨xv11, rfl, H11⟩; obtain ⟨b0, b1, b2, fb⟩ := row3 (H11.get 2 rfl)) | (go_at_call 13; refine (Reach_h HD 0 rfl B'.out.ok SM.out.2.2.1 SM.out.2.1 SM.out.2.2.2).mono ?_; rintro e v10 ⟨xv10, rfl, H10⟩; obtain ⟨a0, a1, a2, fa⟩ := row3 (H10.get 2 rfl)) | (go_at_call 14; refine (Nodes_s HD 0 rfl B'.out.ok SM.out.1 SM.out.2.1).mono ?_; rw [← HNN.out]; rintro e v9 ⟨rfl, hw⟩; obtain rfl := hw.symm))
    go_wp2_with fail
    have H13 : Has w _ [grC _ gb S' G', rgC _ ⟨.slice ra1 n rc1, rs1, .slice na1 NN nc1, ns1⟩ G', blkC _ wb #[.slice ra1 n rc1, .slice na1 NN nc1, .int .i64 M] 36] := H12
    clear H12 H11 H10 HD H9 x0 x1 x2 fx a0 a1 a2 fa b0 b1 b2 fb c0 c1 c2 fc f0 f1 f2 CR
    go_loopw [21] (fun mv wr => ∃ m : Nat, m ≤ n ∧ mv = .int .i64 m ∧ Has w wr [grC _ gb S' G', rgC _ ⟨.slice ra1 n rc1, rs1, .slice na1 NN nc1, ns1⟩ G', blkC _ wb #[.slice ra1 n rc1, .slice na1 NN nc1, .int .i64 M] 36]) (fun mv _ => n - (intOf mv).toNat)
    case atStart => exact ⟨0, by omega, rfl, H13⟩
    case round =>
    obtain ⟨mq, hmq, rfl, H14⟩ := hrel
    clear H13
    by_cases hml : mq < n
    · have hmi : (mq : Int) < (n : Int) := by omega
      have A1 : RgAt _ _ G' := H14.get 1 rfl
      obtain ⟨l, hl⟩ : ∃ l, G'.roots[mq]? = some l := ⟨_, List.getElem?_eq_getElem (by have := B'.out.len; omega)⟩
      have hrt : G'.rts mq = l := by unfold PG.rts PG.L; rw [iget_nat, hl]; rfl
      have hl9 : l.length < 1000000 := by have := B'.out.ok.rl l (List.mem_of_getElem? hl); have := B'.out.most; omega
      have hl' := hl
      rw [rg_roots A1] at hl'
      obtain ⟨rb, roff, c, la, lc, hv, hps, hkl, hcell, hrd⟩ := ll_at A1.r hl'
      dsimp only at hv
      simp only [Value.slice.injEq] at hv
      obtain ⟨rfl, -, rfl⟩ := hv
      have SLF : Hid (∀ (wq : World) (cq : List (Chunk w.heap.size)), Has w wq (grC _ gb S' G' :: rgC _ ⟨.slice (some ⟨rb, roff, none⟩) n rc1, rs1, .slice na1 NN nc1, ns1⟩ G' :: blkC _ wb #[.slice (some ⟨rb, roff, none⟩) n rc1, .slice na1 NN nc1, .int .i64 M] 36 :: cq) → Sl wq [] .i64 (.slice la l.length lc) l ∧ wq.cell? ⟨rb, roff + mq, none⟩ = some (.slice la l.length lc)) := Lib.hid (fun wq cq Hq => by
        have A2 : RgAt wq _ G' := Hq.get 1 rfl
        have h2 := A2.r.2 mq _ hps
        refine ⟨sl_of_rd h2.1 h2.2 fun q hq => (Hq.lt 1 _ rfl q (List.mem_append_left _ (List.mem_append_right _ (List.mem_flatMap.2 ⟨_, List.mem_of_getElem? hps, hq⟩)))).1, ll_cell A2.r hps⟩)
      have HRT := Lib.hid hrt
      have HL9 := Lib.hid hl9
      clear A1 hl hl' hps hkl hcell hrd hrt hl9
      have HD := H14.drew
      obtain ⟨x0, x1, x2, fx⟩ := row3 (H14.get 2 rfl)
      obtain ⟨y0, y1, y2, fy⟩ := row3 (HD.get 2 rfl)
      have hc1 := (SLF.out _ _ HD).2
      go_wp2_with fail
      go_region_held3 (fun w' => w'.cell? ⟨wb, 0, none⟩ = some (.slice (some ⟨rb, roff, none⟩) n rc1) ∧ w'.cell? ⟨rb, roff + mq, none⟩ = some (.slice la l.length lc)) (refine ⟨?_, ?_⟩ <;> (first | (with_reducible assumption) | (simp only [cell_drewN7, cell_drew7]; with_reducible assumption))) (first | (go_at_call 21; refine (Same_c (A := []) (A' := []) _ _ _ _ _ (sl_of_ownN (H15.get 3 rfl)) (SLF.out _ _ H15).1 (by rw [HRT.out]; have := HL9.out; omega)).mono ?_; rw [show (G'.rts mq == l) = true by rw [HRT.out]; simp]; rintro e v16 ⟨rfl, d16, rfl⟩; have H16 := (H15.drewN d16).pick [0, 1, 2] (by decide) (by simp)) | (go_at_call 23; refine (Roots_h HD 0 rfl B'.out.ok SM.out.1 SM.out.2.1 mq).mono ?_; rintro e v15 ⟨xv15, rfl, H15⟩; obtain ⟨a0, a1, a2, fa⟩ := row3 (H15.get 2 rfl); have hc2 := (SLF.out _ _ H15).2))
      go_wp2_with fail
      go_roundw
      case rel => exact ⟨mq + 1, by omega, by go_num, H16⟩
      case measure => simp [intOf]; omega
    · have hge : ¬ (mq : Int) < (n : Int) := by omega
      clear hml hmq
      obtain ⟨x0, x1, x2, fx⟩ := row3 (H14.get 2 rfl)
      go_wp2_with fail
      clear x0 x1 x2 fx
      go_loopw [22] (fun vv wr => ∃ v : Nat, v ≤ NN ∧ vv = .int .i64 v ∧ Has w wr [grC _ gb S' G', rgC _ ⟨.slice ra1 n rc1, rs1, .slice na1 NN nc1, ns1⟩ G', blkC _ wb #[.slice ra1 n rc1, .slice na1 NN nc1, .int .i64 M] 36]) (fun vv _ => NN - (intOf vv).toNat)
      case atStart => exact ⟨0, by omega, rfl, H14⟩
      case round =>
      obtain ⟨vq, hvq, rfl, H17⟩ := hrel
      clear H14
      have hN9 : NN < 1000 := by rw [HNN.out]; exact HN9.out
      by_cases hvl : vq < NN
      · have hvi : (vq : Int) < (NN : Int) := by omega
        have A1 : RgAt _ _ G' := H17.get 1 rfl
        obtain ⟨l, hl⟩ : ∃ l, G'.nodes[vq]? = some l := ⟨_, List.getElem?_eq_getElem (by rw [← HNN.out]; exact hvl)⟩
        have hrt : G'.slots ((vq : Int) + 1) = l := by
          unfold PG.slots
          rw [show (vq : Int) + 1 - 1 = (vq : Int) by omega, iget_nat, hl]; rfl
        have hl9 : l.length < 1000000 := by have := B'.out.ok.nl l (List.mem_of_getElem? hl); omega
        have hl' := hl
        rw [rg_nodes A1] at hl'
        obtain ⟨nb, noff, c, la, lc, hv, hps, hkl, hcell, hrd⟩ := ll_at A1.n hl'
        dsimp only at hv
        simp only [Value.slice.injEq] at hv
        obtain ⟨rfl, -, rfl⟩ := hv
        have SLF : Hid (∀ (wq : World) (cq : List (Chunk w.heap.size)), Has w wq (grC _ gb S' G' :: rgC _ ⟨.slice ra1 n rc1, rs1, .slice (some ⟨nb, noff, none⟩) NN nc1, ns1⟩ G' :: blkC _ wb #[.slice ra1 n rc1, .slice (some ⟨nb, noff, none⟩) NN nc1, .int .i64 M] 36 :: cq) → Sl wq [] .i64 (.slice la l.length lc) l ∧ wq.cell? ⟨nb, noff + vq, none⟩ = some (.slice la l.length lc)) := Lib.hid (fun wq cq Hq => by
          have A2 : RgAt wq _ G' := Hq.get 1 rfl
          have h2 := A2.n.2 vq _ hps
          refine ⟨sl_of_rd h2.1 h2.2 fun q hq => (Hq.lt 1 _ rfl q (List.mem_append_right _ (List.mem_append_right _ (List.mem_flatMap.2 ⟨_, List.mem_of_getElem? hps, hq⟩)))).1, ll_cell A2.n hps⟩)
        have HRT := Lib.hid hrt
        have HL9 := Lib.hid hl9
        have wv : IntKind.i64.wrap ((vq : Int) + 1) = (vq : Int) + 1 := wrapi64_id _ (by omega) (by omega)
        clear A1 hl hl' hps hkl hcell hrd hrt hl9
        have HD := H17.drew
        obtain ⟨x0, x1, x2, fx⟩ := row3 (H17.get 2 rfl)
        obtain ⟨y0, y1, y2, fy⟩ := row3 (HD.get 2 rfl)
        have hc1 := (SLF.out _ _ HD).2
        go_wp2_with fail
        go_region_held3 (fun w' => w'.cell? ⟨wb, 1, none⟩ = some (.slice (some ⟨nb, noff, none⟩) NN nc1) ∧ w'.cell? ⟨nb, noff + vq, none⟩ = some (.slice la l.length lc)) (refine ⟨?_, ?_⟩ <;> (first | (with_reducible assumption) | (simp only [cell_drewN7, cell_drew7]; with_reducible assumption))) (first | (go_at_call 21; refine (Same_c (A := []) (A' := []) _ _ _ _ _ (sl_of_ownN (H15.get 3 rfl)) (SLF.out _ _ H15).1 (by rw [HRT.out]; have := HL9.out; omega)).mono ?_; rw [show (G'.slots ((vq : Int) + 1) == l) = true by rw [HRT.out]; simp]; rintro e v16 ⟨rfl, d16, rfl⟩; have H16 := (H15.drewN d16).pick [0, 1, 2] (by decide) (by simp)) | (go_at_call 24; refine (Slots_h HD 0 rfl B'.out.ok SM.out.1 SM.out.2.1 ((vq : Int) + 1)).mono ?_; rintro e v15 ⟨xv15, rfl, H15⟩; obtain ⟨a0, a1, a2, fa⟩ := row3 (H15.get 2 rfl); have hc2 := (SLF.out _ _ H15).2))
        go_wp2_with fail
        go_roundw
        case rel => exact ⟨vq + 1, by omega, by go_num, H16⟩
        case measure => simp [intOf]; omega
      · have hge : ¬ (vq : Int) < (NN : Int) := by omega
        clear hvl hvq
        obtain ⟨x0, x1, x2, fx⟩ := row3 (H17.get 2 rfl)
        go_wp2_with fail
        clear x0 x1 x2 fx
        go_roundw
        case rel => exact ⟨k + 1, S', G', ra1, rc1, rs1, na1, nc1, ns1, by omega, by go_num, B', by rw [← HNN.out]; exact H17⟩
        case measure => simp [intOf]; omega
  · have hge : ¬ (k : Int) < (na : Int) := by omega
    have sm := B.out.small (by omega) (by omega) (by omega)
    have SM := Lib.hid sm
    have r1 : G.rts (-1) = [] := by unfold PG.rts PG.L; rw [show iget G.roots (-1) = none by unfold iget; rw [if_neg (by omega)]]; rfl
    have r2 : G.rts 17 = [] := by unfold PG.rts PG.L; rw [show iget G.roots 17 = none by unfold iget; rw [if_pos (by omega)]; exact List.getElem?_eq_none (by have := B.out.len; omega)]; rfl
    have r3 : G.slots 0 = [] := by unfold PG.slots; rw [show iget G.nodes (0 - 1) = none by unfold iget; rw [if_neg (by omega)]]; rfl
    have R1 := Lib.hid r1
    have R2 := Lib.hid r2
    have R3 := Lib.hid r3
    have c1 := Roots_h H 0 rfl B.out.ok sm.1 sm.2.1 (-1)
    rw [r1] at c1
    have C1 := Lib.hid c1
    clear sm r1 r2 r3 c1 hlt
    go_wp2_with fail
    refine C1.out.mono ?_
    rintro e v1 ⟨x1, rfl, H1⟩
    obtain ⟨a1, c1, rfl⟩ := own_is (H1.get 3 rfl)
    have c2 := Roots_h H1 0 rfl B.out.ok SM.out.1 SM.out.2.1 17
    rw [R2.out] at c2
    have C2 := Lib.hid c2
    clear c2 C1
    go_wp2_with fail
    refine C2.out.mono ?_
    rintro e v2 ⟨x2, rfl, H2⟩
    obtain ⟨a2, c2, rfl⟩ := own_is (H2.get 4 rfl)
    have c3 := Slots_h H2 0 rfl B.out.ok SM.out.1 SM.out.2.1 0
    rw [R3.out] at c3
    have C3 := Lib.hid c3
    clear c3 C2
    go_wp2_with fail
    refine C3.out.mono ?_
    rintro e v3 ⟨x3, rfl, H3⟩
    obtain ⟨a3, c3, rfl⟩ := own_is (H3.get 5 rfl)
    go_wp2_with fail
    refine (Nodes_nil _).mono ?_
    rintro e v4 ⟨rfl, hw⟩
    obtain rfl := hw.symm
    go_wp2_with fail
    refine (Reach_nil _).mono ?_
    rintro e v5 ⟨rfl, hw⟩
    obtain rfl := hw.symm
    go_wp2_with fail
    go_ret
    exact ⟨rfl, H3.below⟩

set_option maxRecDepth 100000 in
set_option maxHeartbeats 4000000 in
theorem walk_GraphPlays (mm most s0 : Int) (aa : Option Addr) (al ac na : Nat) (w : World) (ha : IsRows actK w (.slice aa al ac) na) :
    Calls Try.prog 4 #[.int .i64 mm, .int .i64 most, .int .i64 s0, .slice aa al ac] w fun e w' => e = .returned (.bool true) ∧ Below w.heap.size w w' := by
  by_cases h60 : (60 : Int) < (na : Int)
  · obtain ⟨a', c', hv⟩ := rows_val ha
    simp only [Value.slice.injEq] at hv
    obtain ⟨rfl, rfl, rfl⟩ := hv
    clear ha
    go_enter Try.func4, Try.ntmps4
    go_wp2_with fail
    refine (awake7 _).mono ?_
    rintro e w1 ⟨rfl, q1⟩
    go_wp2_with fail
    go_ret
    exact ⟨rfl, q1⟩
  · by_cases hm : (1000 : Int) < most
    · obtain ⟨a', c', hv⟩ := rows_val ha
      simp only [Value.slice.injEq] at hv
      obtain ⟨rfl, rfl, rfl⟩ := hv
      have b60 : decide ((60 : Int) < (al : Int)) = false := by simpa using h60
      clear ha
      go_enter Try.func4, Try.ntmps4
      go_wp2_with fail
      refine (awake7 _).mono ?_
      rintro e w1 ⟨rfl, q1⟩
      go_wp2_with fail
      go_ret
      exact ⟨rfl, q1⟩
    · exact plays_ok mm most s0 _ na w ha hm h60

end Go.Proofs.Ytfjkmdhkalbpkaa

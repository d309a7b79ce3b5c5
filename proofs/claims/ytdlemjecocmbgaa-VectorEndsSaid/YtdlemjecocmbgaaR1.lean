/-
  The contract of the root: Newton's guesses, from above, come by an iterator.
-/
import Derived.Test.YtdlemjecocmbgaaW2
import Derived.Test.YtdlemjecocmbgaaRootP
import Derived.RangeFuncNested
import Derived.RangeFuncBound
import Derived.RangeFuncCalls
import Derived.RangeFuncLeaves
import Derived.RangeFuncFrom
import Derived.Shelf.Abstract
import Derived.Shelf.RegionOpen
import Derived.OwnWalkIn
import Derived.TacticsInMore
import Derived.LoopNIn
import Derived.LoopIn
namespace Go.Proofs.Ytdlemjecocmbgaa
set_option linter.unusedVariables false
open Go.RowKit Go.Shelf

theorem half_val (a b : Int) (a0 : 0 ≤ a) (a1 : a ≤ 18446744073709551615) (b0 : 0 ≤ b) (b1 : b ≤ 18446744073709551615) :
    bits .or .u64 (addS a b 0 / 2) (IntKind.u64.wrap (addC a b 0 * 9223372036854775808)) = (a + b) / 2 := by
  obtain ⟨A, rfl⟩ := Int.eq_ofNat_of_zero_le a0
  obtain ⟨B, rfl⟩ := Int.eq_ofNat_of_zero_le b0
  by_cases h : A + B < 18446744073709551616
  · have e1 : addS (A : Int) B 0 / 2 = (((A + B) / 2 : Nat) : Int) := by unfold addS; omega
    have e2 : IntKind.u64.wrap (addC (A : Int) B 0 * 9223372036854775808) = ((0 : Nat) : Int) := by
      unfold addC; rw [if_pos (by omega), IntKind.wrap_u64]; omega
    rw [e1, e2, bits_or_u64_nat _ _ (by omega) (by omega), Nat.or_zero]
    omega
  · have e1 : addS (A : Int) B 0 / 2 = (((A + B - 18446744073709551616) / 2 : Nat) : Int) := by unfold addS; omega
    have e2 : IntKind.u64.wrap (addC (A : Int) B 0 * 9223372036854775808) = ((2 ^ 63 * 1 : Nat) : Int) := by
      unfold addC; rw [if_neg (by omega), IntKind.wrap_u64]; omega
    have hb : (A + B - 18446744073709551616) / 2 < 2 ^ 63 := by omega
    rw [e1, e2, bits_or_u64_nat _ _ (by omega) (by omega), Nat.or_comm, ← Nat.two_pow_add_eq_or_of_lt hb]
    omega

set_option maxHeartbeats 400000 in
theorem half_c (a b : Int) (w : World) (a0 : 0 ≤ a) (a1 : a ≤ 18446744073709551615) (b0 : 0 ≤ b) (b1 : b ≤ 18446744073709551615) :
    Calls Try.prog 75 #[.int .u64 a, .int .u64 b] w fun e w' => e = .returned (.int .u64 ((a + b) / 2)) ∧ w = w' := by
  have u1 : U64 a := by unfold U64; omega
  have u2 : U64 b := by unfold U64; omega
  have e := Lib.hid (half_val a b a0 a1 b0 b1)
  go_enter Try.func75, Try.ntmps75
  go_wp2
  go_ret
  exact ⟨ret_int e.out, rfl⟩

attribute [local go_sem] Oper.semAt_some

/-- two blocks lie as they lay -/
def Same2 (b c : Nat) (W W' : World) : Prop := W'.heap[b]? = W.heap[b]? ∧ W'.heap[c]? = W.heap[c]?
theorem Same2.trans {b c : Nat} {A B C : World} (h : Same2 b c A B) (k : Same2 b c B C) : Same2 b c A C := ⟨k.1.trans h.1, k.2.trans h.2⟩

theorem Later.grown {w : World} (x : Later w) : w.grownBy x.out none := ⟨x.below.os, x.below.tape, x.below.output, x.below.size, fun k hk _ => x.below.block k hk⟩


set_option maxRecDepth 100000 in
set_option maxHeartbeats 2000000 in
theorem guess_a (hi lo r x0 z m n : Int) (k : Nat) (Bh Bl : Nat) (l : Nat) (J Jx : List Int → World → Prop) (N : Nat)
    (hlz : ∀ w', Calls Try.prog 72 #[.int .u64 hi] w' fun e w'' => e = .returned (.int .i64 z) ∧ w' = w'') (hln : ∀ w', Calls Try.prog 73 #[.int .u64 lo] w' fun e w'' => e = .returned (.int .i64 m) ∧ w' = w'') (z0 : 0 ≤ z) (z1 : z ≤ 64)
    (hz : (hi == 0) = false) (hn : 128 - z = n) (hk : (n + 1) / 2 = (k : Int)) (hk2 : bits .and .i64 (k : Int) 63 = (k : Int)) (hk3 : (n + 1) / 128 = 0) (hk4 : k ≤ 63) (hn0 : 0 ≤ n) (hn1 : n < 127) (hx : IntKind.u64.wrap (IntKind.u64.wrap (2 ^ k)) = x0) (hhi0 : 0 ≤ hi) (hlo0 : 0 ≤ lo) (hlo1 : lo ≤ 18446744073709551615) (HR : Hid (IsRoot (hi * 18446744073709551616 + lo) r))
    (hr1 : 1 ≤ r) (hx0 : r ≤ x0) (hx1 : 1 ≤ x0) (hx2 : x0 ≤ 18446744073709551615) (HN : Hid (([] : List Int).length + x0.toNat < N))
    (hJ : ∀ (s : List Int) (W W' : World), J s W → W.grownBy W' none → J s W')
    (hY : ∀ pre x W, J pre W → pre.length < N → YieldAt Fence.wide 2 Try.prog l #[.int .u64 x] W fun e W' =>
      (e = .returned (.bool true) ∧ J (pre ++ [x]) W' ∧ Same2 Bh Bl W W') ∨ (e = .returned (.bool false) ∧ Jx (pre ++ [x]) W'))
    (W : World) (hBh : W.cell? ⟨Bh, 0, none⟩ = some (.int .u64 hi)) (hBl : W.cell? ⟨Bl, 0, none⟩ = some (.int .u64 lo)) (h0 : J [] W) :
    CallsIn Fence.wide 3 Try.prog 71 #[.func (.yield l) #[] #[], .pointer (some ⟨Bh, 0, none⟩), .pointer (some ⟨Bl, 0, none⟩)] W fun e W' => (∃ v, e = .returned v) ∧
      ((∃ ys, (∃ pre, ys = pre ++ [r]) ∧ J ys W') ∨ (∃ pre, Jx pre W')) := by
  have HLZ := Lib.hid hlz
  have HLN := Lib.hid hln
  have HY := Lib.hid hY
  have HJ := Lib.hid hJ
  clear hlz hln hY hJ
  skip
  refine callsIn_of_wp Try.func71 rfl trivial ?_ rfl
  simp only [Try.ntmps71, List.size_toArray, List.length_cons, List.length_nil, Nat.reduceAdd, Nat.reduceSub, Array.replicate_succ, Array.replicate_zero, List.push_toArray, List.append_toArray, List.nil_append, List.cons_append]
  gi_wp2_with (first | (refine ⟨trivial, ?_⟩; gi_at_call 72; refine (callsIn_wide.2 (HLZ.out _)).mono ?_; rintro e _ ⟨rfl, rfl⟩) | (refine ⟨trivial, ?_⟩; gi_at_call 73; refine (callsIn_wide.2 (HLN.out _)).mono ?_; rintro e _ ⟨rfl, rfl⟩))
  gi_loopw [5] (fun x wr => ∃ (pre : List Int) (X : Int), x = .int .u64 X ∧ r ≤ X ∧ 1 ≤ X ∧ X ≤ 18446744073709551615 ∧ Hid (pre.length + X.toNat < N) ∧ J pre wr ∧ wr.cell? ⟨Bh, 0, none⟩ = some (.int .u64 hi) ∧ wr.cell? ⟨Bl, 0, none⟩ = some (.int .u64 lo))
    (fun x _ => (intOf x).toNat)
  case atStart => exact ⟨[], _, rfl, hx0, hx1, hx2, HN, h0, hBh, hBl⟩
  case round =>
    obtain ⟨pre, X, rfl, hX, hX1, hX2, HNX, hJs, c1, c2⟩ := hrel
    obtain ⟨fn, tmps, assign, body, hy, hR⟩ := HY.out pre X wr hJs (by have := HNX.out; omega)
    have l1 := World.block_lt_of_cell? wr _ c1
    have l2 := World.block_lt_of_cell? wr _ c2
    gi_wp2
    refine hR.mono ?_
    rintro e W3 (⟨rfl, hJ3, hk3⟩ | ⟨rfl, hJx3⟩)
    · have d1 : W3.cell? ⟨Bh, 0, none⟩ = some (.int .u64 hi) := (World.cell?_of_block (a := ⟨Bh, 0, none⟩) hk3.1).trans c1
      have d2 : W3.cell? ⟨Bl, 0, none⟩ = some (.int .u64 lo) := (World.cell?_of_block (a := ⟨Bl, 0, none⟩) hk3.2).trans c2
      have m1 := World.block_lt_of_cell? W3 _ d1
      have m2 := World.block_lt_of_cell? W3 _ d2
      dsimp only at m1 m2
      clear c1 c2 l1 l2 hk3 hJs hy hR
      have HJ3 := Lib.hid hJ3
      clear hJ3
      by_cases hle : X ≤ hi
      · have e := newton_high HR.out (by omega) hX2 hlo0 hX hle
        have HE := Lib.hid e
        clear e
        gi_wp2
        refine bodyPost_ret (results_none rfl _ _ _) rfl ?_
        exact ⟨⟨_, rfl⟩, .inl ⟨pre ++ [X], ⟨pre, by rw [HE.out]⟩, HJ3.out⟩⟩
      · have na := newton_above HR.out (show 0 < X by omega) hX
        have ne := newton_end HR.out (show 0 < X by omega) hX
        have hd := fun w' => div64_c hi lo X w' hhi0 (by omega) hlo0 hlo1 hX2
        have hq0 : 0 ≤ (hi * 18446744073709551616 + lo) / X := Int.ediv_nonneg (by omega) (by omega)
        have hq1 : (hi * 18446744073709551616 + lo) / X < 18446744073709551616 := Int.ediv_lt_of_lt_mul (by omega) (by
          have := Int.mul_le_mul_of_nonneg_left (show hi + 1 ≤ X by omega) (show (0 : Int) ≤ 18446744073709551616 by omega)
          omega)
        generalize (hi * 18446744073709551616 + lo) / X = q at *
        generalize (hi * 18446744073709551616 + lo) % X = rr at *
        have hh := fun w' => half_c X q w' (by omega) hX2 hq0 (by omega)
        have nb : (X + q) / 2 ≤ 18446744073709551615 := by omega
        generalize (X + q) / 2 = nx at *
        have HD := Lib.hid hd
        have HH := Lib.hid hh
        clear hd hh hq1
        by_cases hge : X ≤ nx
        · have HE := Lib.hid (ne hge)
          clear ne na
          gi_wp2_with (first | (refine ⟨trivial, ?_⟩; gi_at_call 74; refine (callsIn_wide.2 (HD.out _)).mono ?_; rintro e _ ⟨rfl, x, rfl⟩) | (refine ⟨trivial, ?_⟩; gi_at_call 75; refine (callsIn_wide.2 (HH.out _)).mono ?_; rintro e _ ⟨rfl, rfl⟩))
          refine bodyPost_ret (results_none rfl _ _ _) rfl ?_
          exact ⟨⟨_, rfl⟩, .inl ⟨pre ++ [X], ⟨pre, by rw [HE.out]⟩, HJ.out _ _ _ HJ3.out (Later.grown x)⟩⟩
        · clear ne
          have h1 : 1 ≤ nx := by omega
          gi_wp2_with (first | (refine ⟨trivial, ?_⟩; gi_at_call 74; refine (callsIn_wide.2 (HD.out _)).mono ?_; rintro e _ ⟨rfl, x, rfl⟩) | (refine ⟨trivial, ?_⟩; gi_at_call 75; refine (callsIn_wide.2 (HH.out _)).mono ?_; rintro e _ ⟨rfl, rfl⟩))
          go_roundw
          case rel =>
            exact ⟨pre ++ [X], nx, rfl, na, h1, nb, Lib.hid (by have := HNX.out; simp; omega), HJ.out _ _ _ HJ3.out (Later.grown x), by simp [go_sem, *], by simp [go_sem, *]⟩
          case measure => simp [intOf]; omega
    · gi_wp2
      go_end0
      exact ⟨⟨_, rfl⟩, .inr ⟨pre ++ [X], hJx3⟩⟩


set_option maxRecDepth 100000 in
set_option maxHeartbeats 2000000 in
theorem guess_b1 (hi lo r x0 z m n : Int) (k : Nat) (Bh Bl : Nat) (l : Nat) (J Jx : List Int → World → Prop) (N : Nat)
    (hlz : ∀ w', Calls Try.prog 72 #[.int .u64 hi] w' fun e w'' => e = .returned (.int .i64 z) ∧ w' = w'') (hln : ∀ w', Calls Try.prog 73 #[.int .u64 lo] w' fun e w'' => e = .returned (.int .i64 m) ∧ w' = w'') (z0 : 0 ≤ z) (z1 : z ≤ 64)
    (hz : (hi == 0) = false) (hn : z = 1) (hx : x0 = 18446744073709551615) (hhi0 : 0 ≤ hi) (hlo0 : 0 ≤ lo) (hlo1 : lo ≤ 18446744073709551615) (HR : Hid (IsRoot (hi * 18446744073709551616 + lo) r))
    (hr1 : 1 ≤ r) (hx0 : r ≤ x0) (hx1 : 1 ≤ x0) (hx2 : x0 ≤ 18446744073709551615) (HN : Hid (([] : List Int).length + x0.toNat < N))
    (hJ : ∀ (s : List Int) (W W' : World), J s W → W.grownBy W' none → J s W')
    (hY : ∀ pre x W, J pre W → pre.length < N → YieldAt Fence.wide 2 Try.prog l #[.int .u64 x] W fun e W' =>
      (e = .returned (.bool true) ∧ J (pre ++ [x]) W' ∧ Same2 Bh Bl W W') ∨ (e = .returned (.bool false) ∧ Jx (pre ++ [x]) W'))
    (W : World) (hBh : W.cell? ⟨Bh, 0, none⟩ = some (.int .u64 hi)) (hBl : W.cell? ⟨Bl, 0, none⟩ = some (.int .u64 lo)) (h0 : J [] W) :
    CallsIn Fence.wide 3 Try.prog 71 #[.func (.yield l) #[] #[], .pointer (some ⟨Bh, 0, none⟩), .pointer (some ⟨Bl, 0, none⟩)] W fun e W' => (∃ v, e = .returned v) ∧
      ((∃ ys, (∃ pre, ys = pre ++ [r]) ∧ J ys W') ∨ (∃ pre, Jx pre W')) := by
  have HLZ := Lib.hid hlz
  have HLN := Lib.hid hln
  have HY := Lib.hid hY
  have HJ := Lib.hid hJ
  clear hlz hln hY hJ
  subst hx; subst hn; have hb1 : bits .and .i64 64 63 = 0 := by decide +kernel
  refine callsIn_of_wp Try.func71 rfl trivial ?_ rfl
  simp only [Try.ntmps71, List.size_toArray, List.length_cons, List.length_nil, Nat.reduceAdd, Nat.reduceSub, Array.replicate_succ, Array.replicate_zero, List.push_toArray, List.append_toArray, List.nil_append, List.cons_append]
  gi_wp2_with (first | (refine ⟨trivial, ?_⟩; gi_at_call 72; refine (callsIn_wide.2 (HLZ.out _)).mono ?_; rintro e _ ⟨rfl, rfl⟩) | (refine ⟨trivial, ?_⟩; gi_at_call 73; refine (callsIn_wide.2 (HLN.out _)).mono ?_; rintro e _ ⟨rfl, rfl⟩))
  gi_loopw [5] (fun x wr => ∃ (pre : List Int) (X : Int), x = .int .u64 X ∧ r ≤ X ∧ 1 ≤ X ∧ X ≤ 18446744073709551615 ∧ Hid (pre.length + X.toNat < N) ∧ J pre wr ∧ wr.cell? ⟨Bh, 0, none⟩ = some (.int .u64 hi) ∧ wr.cell? ⟨Bl, 0, none⟩ = some (.int .u64 lo))
    (fun x _ => (intOf x).toNat)
  case atStart => exact ⟨[], _, rfl, hx0, hx1, hx2, HN, h0, hBh, hBl⟩
  case round =>
    obtain ⟨pre, X, rfl, hX, hX1, hX2, HNX, hJs, c1, c2⟩ := hrel
    obtain ⟨fn, tmps, assign, body, hy, hR⟩ := HY.out pre X wr hJs (by have := HNX.out; omega)
    have l1 := World.block_lt_of_cell? wr _ c1
    have l2 := World.block_lt_of_cell? wr _ c2
    gi_wp2
    refine hR.mono ?_
    rintro e W3 (⟨rfl, hJ3, hk3⟩ | ⟨rfl, hJx3⟩)
    · have d1 : W3.cell? ⟨Bh, 0, none⟩ = some (.int .u64 hi) := (World.cell?_of_block (a := ⟨Bh, 0, none⟩) hk3.1).trans c1
      have d2 : W3.cell? ⟨Bl, 0, none⟩ = some (.int .u64 lo) := (World.cell?_of_block (a := ⟨Bl, 0, none⟩) hk3.2).trans c2
      have m1 := World.block_lt_of_cell? W3 _ d1
      have m2 := World.block_lt_of_cell? W3 _ d2
      dsimp only at m1 m2
      clear c1 c2 l1 l2 hk3 hJs hy hR
      have HJ3 := Lib.hid hJ3
      clear hJ3
      by_cases hle : X ≤ hi
      · have e := newton_high HR.out (by omega) hX2 hlo0 hX hle
        have HE := Lib.hid e
        clear e
        gi_wp2
        refine bodyPost_ret (results_none rfl _ _ _) rfl ?_
        exact ⟨⟨_, rfl⟩, .inl ⟨pre ++ [X], ⟨pre, by rw [HE.out]⟩, HJ3.out⟩⟩
      · have na := newton_above HR.out (show 0 < X by omega) hX
        have ne := newton_end HR.out (show 0 < X by omega) hX
        have hd := fun w' => div64_c hi lo X w' hhi0 (by omega) hlo0 hlo1 hX2
        have hq0 : 0 ≤ (hi * 18446744073709551616 + lo) / X := Int.ediv_nonneg (by omega) (by omega)
        have hq1 : (hi * 18446744073709551616 + lo) / X < 18446744073709551616 := Int.ediv_lt_of_lt_mul (by omega) (by
          have := Int.mul_le_mul_of_nonneg_left (show hi + 1 ≤ X by omega) (show (0 : Int) ≤ 18446744073709551616 by omega)
          omega)
        generalize (hi * 18446744073709551616 + lo) / X = q at *
        generalize (hi * 18446744073709551616 + lo) % X = rr at *
        have hh := fun w' => half_c X q w' (by omega) hX2 hq0 (by omega)
        have nb : (X + q) / 2 ≤ 18446744073709551615 := by omega
        generalize (X + q) / 2 = nx at *
        have HD := Lib.hid hd
        have HH := Lib.hid hh
        clear hd hh hq1
        by_cases hge : X ≤ nx
        · have HE := Lib.hid (ne hge)
          clear ne na
          gi_wp2_with (first | (refine ⟨trivial, ?_⟩; gi_at_call 74; refine (callsIn_wide.2 (HD.out _)).mono ?_; rintro e _ ⟨rfl, x, rfl⟩) | (refine ⟨trivial, ?_⟩; gi_at_call 75; refine (callsIn_wide.2 (HH.out _)).mono ?_; rintro e _ ⟨rfl, rfl⟩))
          refine bodyPost_ret (results_none rfl _ _ _) rfl ?_
          exact ⟨⟨_, rfl⟩, .inl ⟨pre ++ [X], ⟨pre, by rw [HE.out]⟩, HJ.out _ _ _ HJ3.out (Later.grown x)⟩⟩
        · clear ne
          have h1 : 1 ≤ nx := by omega
          gi_wp2_with (first | (refine ⟨trivial, ?_⟩; gi_at_call 74; refine (callsIn_wide.2 (HD.out _)).mono ?_; rintro e _ ⟨rfl, x, rfl⟩) | (refine ⟨trivial, ?_⟩; gi_at_call 75; refine (callsIn_wide.2 (HH.out _)).mono ?_; rintro e _ ⟨rfl, rfl⟩))
          go_roundw
          case rel =>
            exact ⟨pre ++ [X], nx, rfl, na, h1, nb, Lib.hid (by have := HNX.out; simp; omega), HJ.out _ _ _ HJ3.out (Later.grown x), by simp [go_sem, *], by simp [go_sem, *]⟩
          case measure => simp [intOf]; omega
    · gi_wp2
      go_end0
      exact ⟨⟨_, rfl⟩, .inr ⟨pre ++ [X], hJx3⟩⟩


set_option maxRecDepth 100000 in
set_option maxHeartbeats 2000000 in
theorem guess_b2 (hi lo r x0 z m n : Int) (k : Nat) (Bh Bl : Nat) (l : Nat) (J Jx : List Int → World → Prop) (N : Nat)
    (hlz : ∀ w', Calls Try.prog 72 #[.int .u64 hi] w' fun e w'' => e = .returned (.int .i64 z) ∧ w' = w'') (hln : ∀ w', Calls Try.prog 73 #[.int .u64 lo] w' fun e w'' => e = .returned (.int .i64 m) ∧ w' = w'') (z0 : 0 ≤ z) (z1 : z ≤ 64)
    (hz : (hi == 0) = false) (hn : z = 0) (hx : x0 = 18446744073709551615) (hhi0 : 0 ≤ hi) (hlo0 : 0 ≤ lo) (hlo1 : lo ≤ 18446744073709551615) (HR : Hid (IsRoot (hi * 18446744073709551616 + lo) r))
    (hr1 : 1 ≤ r) (hx0 : r ≤ x0) (hx1 : 1 ≤ x0) (hx2 : x0 ≤ 18446744073709551615) (HN : Hid (([] : List Int).length + x0.toNat < N))
    (hJ : ∀ (s : List Int) (W W' : World), J s W → W.grownBy W' none → J s W')
    (hY : ∀ pre x W, J pre W → pre.length < N → YieldAt Fence.wide 2 Try.prog l #[.int .u64 x] W fun e W' =>
      (e = .returned (.bool true) ∧ J (pre ++ [x]) W' ∧ Same2 Bh Bl W W') ∨ (e = .returned (.bool false) ∧ Jx (pre ++ [x]) W'))
    (W : World) (hBh : W.cell? ⟨Bh, 0, none⟩ = some (.int .u64 hi)) (hBl : W.cell? ⟨Bl, 0, none⟩ = some (.int .u64 lo)) (h0 : J [] W) :
    CallsIn Fence.wide 3 Try.prog 71 #[.func (.yield l) #[] #[], .pointer (some ⟨Bh, 0, none⟩), .pointer (some ⟨Bl, 0, none⟩)] W fun e W' => (∃ v, e = .returned v) ∧
      ((∃ ys, (∃ pre, ys = pre ++ [r]) ∧ J ys W') ∨ (∃ pre, Jx pre W')) := by
  have HLZ := Lib.hid hlz
  have HLN := Lib.hid hln
  have HY := Lib.hid hY
  have HJ := Lib.hid hJ
  clear hlz hln hY hJ
  subst hx; subst hn; have hb1 : bits .and .i64 64 63 = 0 := by decide +kernel
  refine callsIn_of_wp Try.func71 rfl trivial ?_ rfl
  simp only [Try.ntmps71, List.size_toArray, List.length_cons, List.length_nil, Nat.reduceAdd, Nat.reduceSub, Array.replicate_succ, Array.replicate_zero, List.push_toArray, List.append_toArray, List.nil_append, List.cons_append]
  gi_wp2_with (first | (refine ⟨trivial, ?_⟩; gi_at_call 72; refine (callsIn_wide.2 (HLZ.out _)).mono ?_; rintro e _ ⟨rfl, rfl⟩) | (refine ⟨trivial, ?_⟩; gi_at_call 73; refine (callsIn_wide.2 (HLN.out _)).mono ?_; rintro e _ ⟨rfl, rfl⟩))
  gi_loopw [5] (fun x wr => ∃ (pre : List Int) (X : Int), x = .int .u64 X ∧ r ≤ X ∧ 1 ≤ X ∧ X ≤ 18446744073709551615 ∧ Hid (pre.length + X.toNat < N) ∧ J pre wr ∧ wr.cell? ⟨Bh, 0, none⟩ = some (.int .u64 hi) ∧ wr.cell? ⟨Bl, 0, none⟩ = some (.int .u64 lo))
    (fun x _ => (intOf x).toNat)
  case atStart => exact ⟨[], _, rfl, hx0, hx1, hx2, HN, h0, hBh, hBl⟩
  case round =>
    obtain ⟨pre, X, rfl, hX, hX1, hX2, HNX, hJs, c1, c2⟩ := hrel
    obtain ⟨fn, tmps, assign, body, hy, hR⟩ := HY.out pre X wr hJs (by have := HNX.out; omega)
    have l1 := World.block_lt_of_cell? wr _ c1
    have l2 := World.block_lt_of_cell? wr _ c2
    gi_wp2
    refine hR.mono ?_
    rintro e W3 (⟨rfl, hJ3, hk3⟩ | ⟨rfl, hJx3⟩)
    · have d1 : W3.cell? ⟨Bh, 0, none⟩ = some (.int .u64 hi) := (World.cell?_of_block (a := ⟨Bh, 0, none⟩) hk3.1).trans c1
      have d2 : W3.cell? ⟨Bl, 0, none⟩ = some (.int .u64 lo) := (World.cell?_of_block (a := ⟨Bl, 0, none⟩) hk3.2).trans c2
      have m1 := World.block_lt_of_cell? W3 _ d1
      have m2 := World.block_lt_of_cell? W3 _ d2
      dsimp only at m1 m2
      clear c1 c2 l1 l2 hk3 hJs hy hR
      have HJ3 := Lib.hid hJ3
      clear hJ3
      by_cases hle : X ≤ hi
      · have e := newton_high HR.out (by omega) hX2 hlo0 hX hle
        have HE := Lib.hid e
        clear e
        gi_wp2
        refine bodyPost_ret (results_none rfl _ _ _) rfl ?_
        exact ⟨⟨_, rfl⟩, .inl ⟨pre ++ [X], ⟨pre, by rw [HE.out]⟩, HJ3.out⟩⟩
      · have na := newton_above HR.out (show 0 < X by omega) hX
        have ne := newton_end HR.out (show 0 < X by omega) hX
        have hd := fun w' => div64_c hi lo X w' hhi0 (by omega) hlo0 hlo1 hX2
        have hq0 : 0 ≤ (hi * 18446744073709551616 + lo) / X := Int.ediv_nonneg (by omega) (by omega)
        have hq1 : (hi * 18446744073709551616 + lo) / X < 18446744073709551616 := Int.ediv_lt_of_lt_mul (by omega) (by
          have := Int.mul_le_mul_of_nonneg_left (show hi + 1 ≤ X by omega) (show (0 : Int) ≤ 18446744073709551616 by omega)
          omega)
        generalize (hi * 18446744073709551616 + lo) / X = q at *
        generalize (hi * 18446744073709551616 + lo) % X = rr at *
        have hh := fun w' => half_c X q w' (by omega) hX2 hq0 (by omega)
        have nb : (X + q) / 2 ≤ 18446744073709551615 := by omega
        generalize (X + q) / 2 = nx at *
        have HD := Lib.hid hd
        have HH := Lib.hid hh
        clear hd hh hq1
        by_cases hge : X ≤ nx
        · have HE := Lib.hid (ne hge)
          clear ne na
          gi_wp2_with (first | (refine ⟨trivial, ?_⟩; gi_at_call 74; refine (callsIn_wide.2 (HD.out _)).mono ?_; rintro e _ ⟨rfl, x, rfl⟩) | (refine ⟨trivial, ?_⟩; gi_at_call 75; refine (callsIn_wide.2 (HH.out _)).mono ?_; rintro e _ ⟨rfl, rfl⟩))
          refine bodyPost_ret (results_none rfl _ _ _) rfl ?_
          exact ⟨⟨_, rfl⟩, .inl ⟨pre ++ [X], ⟨pre, by rw [HE.out]⟩, HJ.out _ _ _ HJ3.out (Later.grown x)⟩⟩
        · clear ne
          have h1 : 1 ≤ nx := by omega
          gi_wp2_with (first | (refine ⟨trivial, ?_⟩; gi_at_call 74; refine (callsIn_wide.2 (HD.out _)).mono ?_; rintro e _ ⟨rfl, x, rfl⟩) | (refine ⟨trivial, ?_⟩; gi_at_call 75; refine (callsIn_wide.2 (HH.out _)).mono ?_; rintro e _ ⟨rfl, rfl⟩))
          go_roundw
          case rel =>
            exact ⟨pre ++ [X], nx, rfl, na, h1, nb, Lib.hid (by have := HNX.out; simp; omega), HJ.out _ _ _ HJ3.out (Later.grown x), by simp [go_sem, *], by simp [go_sem, *]⟩
          case measure => simp [intOf]; omega
    · gi_wp2
      go_end0
      exact ⟨⟨_, rfl⟩, .inr ⟨pre ++ [X], hJx3⟩⟩


set_option maxRecDepth 100000 in
set_option maxHeartbeats 2000000 in
theorem guess_c (hi lo r x0 z m n : Int) (k : Nat) (Bh Bl : Nat) (l : Nat) (J Jx : List Int → World → Prop) (N : Nat)
    (hlz : ∀ w', Calls Try.prog 72 #[.int .u64 hi] w' fun e w'' => e = .returned (.int .i64 z) ∧ w' = w'') (hln : ∀ w', Calls Try.prog 73 #[.int .u64 lo] w' fun e w'' => e = .returned (.int .i64 m) ∧ w' = w'') (z0 : 0 ≤ z) (z1 : z ≤ 64)
    (hz : (hi == 0) = true) (hm : m = n) (hk : (n + 1) / 2 = (k : Int)) (hk2 : bits .and .i64 (k : Int) 63 = (k : Int)) (hk3 : (n + 1) / 128 = 0) (hk4 : k ≤ 63) (hn0 : 0 ≤ n) (hn1 : n < 127) (hx : IntKind.u64.wrap (IntKind.u64.wrap (2 ^ k)) = x0) (hhi0 : 0 ≤ hi) (hlo0 : 0 ≤ lo) (hlo1 : lo ≤ 18446744073709551615) (HR : Hid (IsRoot (hi * 18446744073709551616 + lo) r))
    (hr1 : 1 ≤ r) (hx0 : r ≤ x0) (hx1 : 1 ≤ x0) (hx2 : x0 ≤ 18446744073709551615) (HN : Hid (([] : List Int).length + x0.toNat < N))
    (hJ : ∀ (s : List Int) (W W' : World), J s W → W.grownBy W' none → J s W')
    (hY : ∀ pre x W, J pre W → pre.length < N → YieldAt Fence.wide 2 Try.prog l #[.int .u64 x] W fun e W' =>
      (e = .returned (.bool true) ∧ J (pre ++ [x]) W' ∧ Same2 Bh Bl W W') ∨ (e = .returned (.bool false) ∧ Jx (pre ++ [x]) W'))
    (W : World) (hBh : W.cell? ⟨Bh, 0, none⟩ = some (.int .u64 hi)) (hBl : W.cell? ⟨Bl, 0, none⟩ = some (.int .u64 lo)) (h0 : J [] W) :
    CallsIn Fence.wide 3 Try.prog 71 #[.func (.yield l) #[] #[], .pointer (some ⟨Bh, 0, none⟩), .pointer (some ⟨Bl, 0, none⟩)] W fun e W' => (∃ v, e = .returned v) ∧
      ((∃ ys, (∃ pre, ys = pre ++ [r]) ∧ J ys W') ∨ (∃ pre, Jx pre W')) := by
  have HLZ := Lib.hid hlz
  have HLN := Lib.hid hln
  have HY := Lib.hid hY
  have HJ := Lib.hid hJ
  clear hlz hln hY hJ
  subst hm
  refine callsIn_of_wp Try.func71 rfl trivial ?_ rfl
  simp only [Try.ntmps71, List.size_toArray, List.length_cons, List.length_nil, Nat.reduceAdd, Nat.reduceSub, Array.replicate_succ, Array.replicate_zero, List.push_toArray, List.append_toArray, List.nil_append, List.cons_append]
  gi_wp2_with (first | (refine ⟨trivial, ?_⟩; gi_at_call 72; refine (callsIn_wide.2 (HLZ.out _)).mono ?_; rintro e _ ⟨rfl, rfl⟩) | (refine ⟨trivial, ?_⟩; gi_at_call 73; refine (callsIn_wide.2 (HLN.out _)).mono ?_; rintro e _ ⟨rfl, rfl⟩))
  gi_loopw [5] (fun x wr => ∃ (pre : List Int) (X : Int), x = .int .u64 X ∧ r ≤ X ∧ 1 ≤ X ∧ X ≤ 18446744073709551615 ∧ Hid (pre.length + X.toNat < N) ∧ J pre wr ∧ wr.cell? ⟨Bh, 0, none⟩ = some (.int .u64 hi) ∧ wr.cell? ⟨Bl, 0, none⟩ = some (.int .u64 lo))
    (fun x _ => (intOf x).toNat)
  case atStart => exact ⟨[], _, rfl, hx0, hx1, hx2, HN, h0, hBh, hBl⟩
  case round =>
    obtain ⟨pre, X, rfl, hX, hX1, hX2, HNX, hJs, c1, c2⟩ := hrel
    obtain ⟨fn, tmps, assign, body, hy, hR⟩ := HY.out pre X wr hJs (by have := HNX.out; omega)
    have l1 := World.block_lt_of_cell? wr _ c1
    have l2 := World.block_lt_of_cell? wr _ c2
    gi_wp2
    refine hR.mono ?_
    rintro e W3 (⟨rfl, hJ3, hk3⟩ | ⟨rfl, hJx3⟩)
    · have d1 : W3.cell? ⟨Bh, 0, none⟩ = some (.int .u64 hi) := (World.cell?_of_block (a := ⟨Bh, 0, none⟩) hk3.1).trans c1
      have d2 : W3.cell? ⟨Bl, 0, none⟩ = some (.int .u64 lo) := (World.cell?_of_block (a := ⟨Bl, 0, none⟩) hk3.2).trans c2
      have m1 := World.block_lt_of_cell? W3 _ d1
      have m2 := World.block_lt_of_cell? W3 _ d2
      dsimp only at m1 m2
      clear c1 c2 l1 l2 hk3 hJs hy hR
      have HJ3 := Lib.hid hJ3
      clear hJ3
      by_cases hle : X ≤ hi
      · have e := newton_high HR.out (by omega) hX2 hlo0 hX hle
        have HE := Lib.hid e
        clear e
        gi_wp2
        refine bodyPost_ret (results_none rfl _ _ _) rfl ?_
        exact ⟨⟨_, rfl⟩, .inl ⟨pre ++ [X], ⟨pre, by rw [HE.out]⟩, HJ3.out⟩⟩
      · have na := newton_above HR.out (show 0 < X by omega) hX
        have ne := newton_end HR.out (show 0 < X by omega) hX
        have hd := fun w' => div64_c hi lo X w' hhi0 (by omega) hlo0 hlo1 hX2
        have hq0 : 0 ≤ (hi * 18446744073709551616 + lo) / X := Int.ediv_nonneg (by omega) (by omega)
        have hq1 : (hi * 18446744073709551616 + lo) / X < 18446744073709551616 := Int.ediv_lt_of_lt_mul (by omega) (by
          have := Int.mul_le_mul_of_nonneg_left (show hi + 1 ≤ X by omega) (show (0 : Int) ≤ 18446744073709551616 by omega)
          omega)
        generalize (hi * 18446744073709551616 + lo) / X = q at *
        generalize (hi * 18446744073709551616 + lo) % X = rr at *
        have hh := fun w' => half_c X q w' (by omega) hX2 hq0 (by omega)
        have nb : (X + q) / 2 ≤ 18446744073709551615 := by omega
        generalize (X + q) / 2 = nx at *
        have HD := Lib.hid hd
        have HH := Lib.hid hh
        clear hd hh hq1
        by_cases hge : X ≤ nx
        · have HE := Lib.hid (ne hge)
          clear ne na
          gi_wp2_with (first | (refine ⟨trivial, ?_⟩; gi_at_call 74; refine (callsIn_wide.2 (HD.out _)).mono ?_; rintro e _ ⟨rfl, x, rfl⟩) | (refine ⟨trivial, ?_⟩; gi_at_call 75; refine (callsIn_wide.2 (HH.out _)).mono ?_; rintro e _ ⟨rfl, rfl⟩))
          refine bodyPost_ret (results_none rfl _ _ _) rfl ?_
          exact ⟨⟨_, rfl⟩, .inl ⟨pre ++ [X], ⟨pre, by rw [HE.out]⟩, HJ.out _ _ _ HJ3.out (Later.grown x)⟩⟩
        · clear ne
          have h1 : 1 ≤ nx := by omega
          gi_wp2_with (first | (refine ⟨trivial, ?_⟩; gi_at_call 74; refine (callsIn_wide.2 (HD.out _)).mono ?_; rintro e _ ⟨rfl, x, rfl⟩) | (refine ⟨trivial, ?_⟩; gi_at_call 75; refine (callsIn_wide.2 (HH.out _)).mono ?_; rintro e _ ⟨rfl, rfl⟩))
          go_roundw
          case rel =>
            exact ⟨pre ++ [X], nx, rfl, na, h1, nb, Lib.hid (by have := HNX.out; simp; omega), HJ.out _ _ _ HJ3.out (Later.grown x), by simp [go_sem, *], by simp [go_sem, *]⟩
          case measure => simp [intOf]; omega
    · gi_wp2
      go_end0
      exact ⟨⟨_, rfl⟩, .inr ⟨pre ++ [X], hJx3⟩⟩

end Go.Proofs.Ytdlemjecocmbgaa

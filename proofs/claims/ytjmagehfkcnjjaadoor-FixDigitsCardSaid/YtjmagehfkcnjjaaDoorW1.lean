/-
  Contracts of the functions of the layer of wide numbers: each returns what plain arithmetic says, and keeps what lay in memory.
-/
import Derived.Test.YtjmagehfkcnjjaaDoorRows
import Derived.Test.YtjmagehfkcnjjaaDoorLater
import Derived.Test.YtjmagehfkcnjjaaDoorWideP
import Derived.Shelf.Spec.BitsCarry
namespace Go.Proofs.YtjmagehfkcnjjaaDoor
set_option linter.unusedVariables false
open Go.RowKit

/-! ### sums and differences with a carry -/
def Bit (n : Int) : Prop := n = 0 ∨ n = 1
def addS (x y c : Int) : Int := (x + y + c) % 18446744073709551616
def addC (x y c : Int) : Int := if x + y + c < 18446744073709551616 then 0 else 1
def subS (x y c : Int) : Int := (x - y - c) % 18446744073709551616
def subC (x y c : Int) : Int := if x < y + c then 1 else 0
@[go_sem] theorem U64_lo (n : Int) : U64 (loW n) := by unfold U64 loW; omega
@[go_sem] theorem U64_wrap (n : Int) : U64 (IntKind.u64.wrap n) := by rw [IntKind.wrap_u64]; unfold U64; omega
@[go_sem] theorem U64_addS (x y c : Int) : U64 (addS x y c) := by unfold U64 addS; omega
@[go_sem] theorem U64_subS (x y c : Int) : U64 (subS x y c) := by unfold U64 subS; omega
@[go_sem] theorem U64_zero : U64 0 := by unfold U64; omega
@[go_sem] theorem Bit_zero : Bit 0 := .inl rfl
@[go_sem] theorem Bit_addC (x y c : Int) : Bit (addC x y c) := by unfold Bit addC; split <;> simp
@[go_sem] theorem Bit_subC (x y c : Int) : Bit (subC x y c) := by unfold Bit subC; split <;> simp

@[go_sem] theorem run_bits_add (x y c : Int) (hx : U64 x) (hy : U64 y) (hc : Bit c) (w : World) :
    (callFunc 84 #[.int .u64 x, .int .u64 y, .int .u64 c]).run Tryd.prog w = .ok (.value (.tuple #[.int .u64 (addS x y c), .int .u64 (addC x y c)])) w := by
  unfold U64 at hx hy
  unfold Bit at hc
  rw [run_callFunc_extern Tryd.func84 (by kernel_rfl) (by kernel_rfl) (by kernel_rfl) (e := add64Entry) (by kernel_rfl), run_add64 x y c (by omega) (by omega) (by omega) (by omega)]
  have e : (x + y + c) / 18446744073709551616 = addC x y c := by unfold addC; split <;> omega
  rw [e]
  rfl

@[go_sem] theorem run_bits_sub (x y c : Int) (hx : U64 x) (hy : U64 y) (hc : Bit c) (w : World) :
    (callFunc 105 #[.int .u64 x, .int .u64 y, .int .u64 c]).run Tryd.prog w = .ok (.value (.tuple #[.int .u64 (subS x y c), .int .u64 (subC x y c)])) w := by
  unfold U64 at hx hy
  unfold Bit at hc
  obtain ⟨X, rfl⟩ := Int.eq_ofNat_of_zero_le hx.1
  obtain ⟨Y, rfl⟩ := Int.eq_ofNat_of_zero_le hy.1
  obtain ⟨C, rfl⟩ := Int.eq_ofNat_of_zero_le (show 0 ≤ c by omega)
  rw [run_callFunc_extern Tryd.func105 (by kernel_rfl) (by kernel_rfl) (by kernel_rfl) (e := sub64Entry) (by kernel_rfl), run_sub64 X Y C (by omega)]
  have e1 : (((X + 18446744073709551616 - Y - C) % 18446744073709551616 : Nat) : Int) = subS X Y C := by unfold subS; omega
  have e2 : ((if X < Y + C then 1 else 0 : Nat) : Int) = subC X Y C := by unfold subC; split <;> split <;> omega
  rw [e1, e2]
  rfl

theorem add_lo' (n m : Int) : addS (loW n) (loW m) 0 = loW (n + m) := by unfold addS loW; omega
theorem sub_lo' (n m : Int) : subS (loW n) (loW m) 0 = loW (n - m) := by unfold subS loW; omega
theorem add_hi' (n m : Int) : wrap64 (addS (IntKind.u64.wrap (hiW n)) (IntKind.u64.wrap (hiW m)) (addC (loW n) (loW m) 0)) = hiW (n + m) := by
  rw [IntKind.wrap_u64, IntKind.wrap_u64]; unfold wrap64 addS addC hiW loW; split <;> omega
theorem sub_hi' (n m : Int) : wrap64 (subS (IntKind.u64.wrap (hiW n)) (IntKind.u64.wrap (hiW m)) (subC (loW n) (loW m) 0)) = hiW (n - m) := by
  rw [IntKind.wrap_u64, IntKind.wrap_u64]; unfold wrap64 subS subC hiW loW; split <;> omega

/-! ### the layer itself -/
set_option maxHeartbeats 400000 in
theorem of_c (n : Int) (w : World) (h : R64 n) :
    Calls Tryd.prog 54 #[.int .i64 n] w fun e w' => e = .returned (.agg #[.int .i64 (hiW n), .int .u64 (loW n)]) ∧ ∃ x : Later w, w' = x.out := by
  have e1 := hiW_small n h
  have e2 : IntKind.u64.wrap n = loW n := by rw [IntKind.wrap_u64]; rfl
  rw [e1, ← e2]
  clear e1 e2
  go_enter Tryd.func54, Tryd.ntmps54
  go_wp2
  exact bodyPost_ret (v := .agg #[.int .i64 (n / 9223372036854775808), .int .u64 (IntKind.u64.wrap n)]) (by simp [results, Tryd.results54, go_sem, *]) rfl ⟨rfl, (Later.mk_of (by repeat (first | (with_reducible assumption) | (with_reducible exact Below.refl _ _) | (with_reducible refine Later.after ?_ _) | (with_reducible refine Later.newer ?_ _) | (with_reducible refine Below.drew ?_) | (with_reducible refine Below.setCell ?_ (by first | exact Nat.le_refl _ | exact Nat.le_add_right _ _ | omega | (simp [go_sem]; done) | (simp [go_sem]; omega)) _))))⟩

set_option maxHeartbeats 400000 in
theorem add_c (n m : Int) (w : World) :
    Calls Tryd.prog 53 #[.agg #[.int .i64 (hiW n), .int .u64 (loW n)], .agg #[.int .i64 (hiW m), .int .u64 (loW m)]] w fun e w' => e = .returned (.agg #[.int .i64 (hiW (n + m)), .int .u64 (loW (n + m))]) ∧ ∃ x : Later w, w' = x.out := by
  go_enter Tryd.func53, Tryd.ntmps53
  go_wp2
  rw [add_hi' n m, add_lo' n m]
  exact bodyPost_ret (v := .agg #[.int .i64 (hiW (n + m)), .int .u64 (loW (n + m))]) (by simp [results, Tryd.results53, go_sem, *]) rfl ⟨rfl, (Later.mk_of (by repeat (first | (with_reducible assumption) | (with_reducible exact Below.refl _ _) | (with_reducible refine Later.after ?_ _) | (with_reducible refine Later.newer ?_ _) | (with_reducible refine Below.drew ?_) | (with_reducible refine Below.setCell ?_ (by first | exact Nat.le_refl _ | exact Nat.le_add_right _ _ | omega | (simp [go_sem]; done) | (simp [go_sem]; omega)) _))))⟩

set_option maxHeartbeats 400000 in
theorem sub_c (n m : Int) (w : World) :
    Calls Tryd.prog 81 #[.agg #[.int .i64 (hiW n), .int .u64 (loW n)], .agg #[.int .i64 (hiW m), .int .u64 (loW m)]] w fun e w' => e = .returned (.agg #[.int .i64 (hiW (n - m)), .int .u64 (loW (n - m))]) ∧ ∃ x : Later w, w' = x.out := by
  go_enter Tryd.func81, Tryd.ntmps81
  go_wp2
  rw [sub_hi' n m, sub_lo' n m]
  exact bodyPost_ret (v := .agg #[.int .i64 (hiW (n - m)), .int .u64 (loW (n - m))]) (by simp [results, Tryd.results81, go_sem, *]) rfl ⟨rfl, (Later.mk_of (by repeat (first | (with_reducible assumption) | (with_reducible exact Below.refl _ _) | (with_reducible refine Later.after ?_ _) | (with_reducible refine Later.newer ?_ _) | (with_reducible refine Below.drew ?_) | (with_reducible refine Below.setCell ?_ (by first | exact Nat.le_refl _ | exact Nat.le_add_right _ _ | omega | (simp [go_sem]; done) | (simp [go_sem]; omega)) _))))⟩


theorem halves_lt (n m : Int) (hn : R128 n) (hm : R128 m) : n < m ↔ hiW n < hiW m ∨ (hiW n = hiW m ∧ loW n < loW m) := by
  have h1 := halves n hn; have h2 := halves m hm; have h3 := loW_bd n; have h4 := loW_bd m; omega
set_option maxHeartbeats 400000 in
theorem cmp_eq (n : Int) (w : World) :
    Calls Tryd.prog 104 #[.agg #[.int .i64 (hiW n), .int .u64 (loW n)], .agg #[.int .i64 (hiW n), .int .u64 (loW n)]] w fun e w' => e = .returned (.int .i64 0) ∧ ∃ x : Later w, w' = x.out := by
    go_enter Tryd.func104, Tryd.ntmps104
    go_wp2
    all_goals (go_ret; exact ⟨rfl, (Later.mk_of (by repeat (first | (with_reducible assumption) | (with_reducible exact Below.refl _ _) | (with_reducible refine Later.after ?_ _) | (with_reducible refine Later.newer ?_ _) | (with_reducible refine Below.drew ?_) | (with_reducible refine Below.setCell ?_ (by first | exact Nat.le_refl _ | exact Nat.le_add_right _ _ | omega | (simp [go_sem]; done) | (simp [go_sem]; omega)) _))))⟩)
set_option maxHeartbeats 400000 in
theorem cmp_lt (a b c d : Int) (w : World) (h : a < c ∨ (a = c ∧ b < d)) :
    Calls Tryd.prog 104 #[.agg #[.int .i64 a, .int .u64 b], .agg #[.int .i64 c, .int .u64 d]] w fun e w' => e = .returned (.int .i64 (-1)) ∧ ∃ x : Later w, w' = x.out := by
  rcases h with h | ⟨rfl, h⟩
  · have h2 : (a == c) = false := by simp; omega
    go_enter Tryd.func104, Tryd.ntmps104
    go_wp2
    all_goals (go_ret; exact ⟨rfl, (Later.mk_of (by repeat (first | (with_reducible assumption) | (with_reducible exact Below.refl _ _) | (with_reducible refine Later.after ?_ _) | (with_reducible refine Later.newer ?_ _) | (with_reducible refine Below.drew ?_) | (with_reducible refine Below.setCell ?_ (by first | exact Nat.le_refl _ | exact Nat.le_add_right _ _ | omega | (simp [go_sem]; done) | (simp [go_sem]; omega)) _))))⟩)
  · have h2 : (b == d) = false := by simp; omega
    go_enter Tryd.func104, Tryd.ntmps104
    go_wp2
    all_goals (go_ret; exact ⟨rfl, (Later.mk_of (by repeat (first | (with_reducible assumption) | (with_reducible exact Below.refl _ _) | (with_reducible refine Later.after ?_ _) | (with_reducible refine Later.newer ?_ _) | (with_reducible refine Below.drew ?_) | (with_reducible refine Below.setCell ?_ (by first | exact Nat.le_refl _ | exact Nat.le_add_right _ _ | omega | (simp [go_sem]; done) | (simp [go_sem]; omega)) _))))⟩)
set_option maxHeartbeats 400000 in
theorem cmp_gt (a b c d : Int) (w : World) (h : c < a ∨ (c = a ∧ d < b)) :
    Calls Tryd.prog 104 #[.agg #[.int .i64 a, .int .u64 b], .agg #[.int .i64 c, .int .u64 d]] w fun e w' => e = .returned (.int .i64 1) ∧ ∃ x : Later w, w' = x.out := by
  rcases h with h | ⟨rfl, h⟩
  · have h2 : (a == c) = false := by simp; omega
    have h3 : decide (a < c) = false := by simp; omega
    go_enter Tryd.func104, Tryd.ntmps104
    go_wp2
    all_goals (go_ret; exact ⟨rfl, (Later.mk_of (by repeat (first | (with_reducible assumption) | (with_reducible exact Below.refl _ _) | (with_reducible refine Later.after ?_ _) | (with_reducible refine Later.newer ?_ _) | (with_reducible refine Below.drew ?_) | (with_reducible refine Below.setCell ?_ (by first | exact Nat.le_refl _ | exact Nat.le_add_right _ _ | omega | (simp [go_sem]; done) | (simp [go_sem]; omega)) _))))⟩)
  · have h2 : (b == d) = false := by simp; omega
    have h3 : decide (b < d) = false := by simp; omega
    go_enter Tryd.func104, Tryd.ntmps104
    go_wp2
    all_goals (go_ret; exact ⟨rfl, (Later.mk_of (by repeat (first | (with_reducible assumption) | (with_reducible exact Below.refl _ _) | (with_reducible refine Later.after ?_ _) | (with_reducible refine Later.newer ?_ _) | (with_reducible refine Below.drew ?_) | (with_reducible refine Below.setCell ?_ (by first | exact Nat.le_refl _ | exact Nat.le_add_right _ _ | omega | (simp [go_sem]; done) | (simp [go_sem]; omega)) _))))⟩)
theorem cmp_c (n m : Int) (w : World) (hn : R128 n) (hm : R128 m) :
    Calls Tryd.prog 104 #[.agg #[.int .i64 (hiW n), .int .u64 (loW n)], .agg #[.int .i64 (hiW m), .int .u64 (loW m)]] w fun e w' => e = .returned (.int .i64 (ordW n m)) ∧ ∃ x : Later w, w' = x.out := by
  unfold ordW
  by_cases h1 : n = m
  · subst h1
    rw [if_pos rfl]
    exact cmp_eq n w
  · rw [if_neg h1]
    by_cases h2 : n < m
    · rw [if_pos h2]
      exact cmp_lt _ _ _ _ w ((halves_lt n m hn hm).1 h2)
    · rw [if_neg h2]
      exact cmp_gt _ _ _ _ w ((halves_lt m n hm hn).1 (by omega))


theorem W_zero : hiW 0 = 0 ∧ loW 0 = 0 := by unfold hiW loW; omega
set_option maxHeartbeats 400000 in
theorem sign_c (n : Int) (w : World) (hn : R128 n) :
    Calls Tryd.prog 80 #[.agg #[.int .i64 (hiW n), .int .u64 (loW n)]] w fun e w' => e = .returned (.int .i64 (ordW n 0)) ∧ ∃ x : Later w, w' = x.out := by
  have hc := fun w' => cmp_c n 0 w' hn (by unfold R128; omega)
  rw [W_zero.1, W_zero.2] at hc
  have HC := Lib.hid hc
  clear hc
  go_enter Tryd.func80, Tryd.ntmps80
  go_wp2_with (first | (go_at_call 104; refine (HC.out _).mono ?_; rintro e _ ⟨rfl, x, rfl⟩))
  go_ret
  exact ⟨rfl, (Later.mk_of (by repeat (first | (with_reducible assumption) | (with_reducible exact Below.refl _ _) | (with_reducible refine Later.after ?_ _) | (with_reducible refine Later.newer ?_ _) | (with_reducible refine Below.drew ?_) | (with_reducible refine Below.setCell ?_ (by first | exact Nat.le_refl _ | exact Nat.le_add_right _ _ | omega | (simp [go_sem]; done) | (simp [go_sem]; omega)) _))))⟩


theorem w64_lo (n : Int) : wrap64 (loW n) = (n + 9223372036854775808) % 18446744073709551616 - 9223372036854775808 := by unfold wrap64 loW; omega
set_option maxHeartbeats 400000 in
theorem narrow_yes (n : Int) (w : World) (hn : R64 n) :
    Calls Tryd.prog 55 #[.agg #[.int .i64 (hiW n), .int .u64 (loW n)]] w fun e w' => e = .returned (.tuple #[.int .i64 n, .bool true]) ∧ ∃ x : Later w, w' = x.out := by
  have hc := fun w' => of_c n w' hn
  have e : wrap64 (loW n) = n := by rw [w64_lo]; unfold R64 at hn; omega
  have HC := Lib.hid hc
  clear hc
  go_enter Tryd.func55, Tryd.ntmps55
  go_wp2_with (fail)
  refine wp_region_later (by kernel_rfl) (by kernel_rfl) ?_
  repeat (go_big_quiet_step ((first | (go_at_call 54; exact Later.call _ (HC.out _)))))
  refine wpQuiet_nil ?_
  intro x
  go_wp2
  go_ret2
  exact ⟨by simp [e], (Later.mk_of (by repeat (first | (with_reducible assumption) | (with_reducible exact Below.refl _ _) | (with_reducible refine Later.after ?_ _) | (with_reducible refine Later.newer ?_ _) | (with_reducible refine Below.drew ?_) | (with_reducible refine Below.setCell ?_ (by first | exact Nat.le_refl _ | exact Nat.le_add_right _ _ | omega | (simp [go_sem]; done) | (simp [go_sem]; omega)) _))))⟩
set_option maxHeartbeats 400000 in
theorem narrow_no (n : Int) (w : World) (hr : R128 n) (hn : ¬ R64 n) :
    Calls Tryd.prog 55 #[.agg #[.int .i64 (hiW n), .int .u64 (loW n)]] w fun e w' => e = .returned (.tuple #[.int .i64 0, .bool false]) ∧ ∃ x : Later w, w' = x.out := by
  have hk : R64 (wrap64 (loW n)) := by unfold R64 wrap64; have := loW_bd n; omega
  have hc := fun w' => of_c (wrap64 (loW n)) w' hk
  have e1 : ¬ (hiW n = hiW (wrap64 (loW n)) ∧ loW n = loW (wrap64 (loW n))) := fun h => hn (by
    have := eq_of_halves n _ hr (by unfold R64 at hk; unfold R128; omega) h.1 h.2
    rw [this]; exact hk)
  have e2 : hiW n = hiW (wrap64 (loW n)) ∧ (loW n == loW (wrap64 (loW n))) = false ∨ (hiW n == hiW (wrap64 (loW n))) = false := by
    by_cases h : hiW n = hiW (wrap64 (loW n))
    · exact .inl ⟨h, by simp; exact fun h2 => e1 ⟨h, h2⟩⟩
    · exact .inr (by simp; exact h)
  clear e1 hn hr
  have HC := Lib.hid hc
  clear hc hk
  generalize hk1 : hiW (wrap64 (loW n)) = k1 at *
  generalize hk2 : loW (wrap64 (loW n)) = k2 at *
  have HK1 := Lib.hid hk1
  have HK2 := Lib.hid hk2
  clear hk1 hk2
  rcases e2 with ⟨rfl, e2⟩ | e2
  all_goals
    go_enter Tryd.func55, Tryd.ntmps55
    go_wp2_with (fail)
    refine wp_region_later (by kernel_rfl) (by kernel_rfl) ?_
    repeat (go_big_quiet_step ((first | (go_at_call 54; exact Later.call _ (HC.out _)))))
    refine wpQuiet_nil ?_
    intro x
    go_wp2
    go_ret2
    exact ⟨rfl, (Later.mk_of (by repeat (first | (with_reducible assumption) | (with_reducible exact Below.refl _ _) | (with_reducible refine Later.after ?_ _) | (with_reducible refine Later.newer ?_ _) | (with_reducible refine Below.drew ?_) | (with_reducible refine Below.setCell ?_ (by first | exact Nat.le_refl _ | exact Nat.le_add_right _ _ | omega | (simp [go_sem]; done) | (simp [go_sem]; omega)) _))))⟩
end Go.Proofs.YtjmagehfkcnjjaaDoor

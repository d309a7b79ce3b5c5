/-
  The contracts of products and quotients of wide numbers.
-/
import Derived.Test.YtjmagehfkcnjjaaDoorW3
namespace Go.Proofs.YtjmagehfkcnjjaaDoor
set_option linter.unusedVariables false
open Go.RowKit


set_option maxHeartbeats 200000 in
theorem div_bad (nh nl b s : Int) (w : World) (hb : b ≤ 0) (hs : ∀ w', Calls Tryd.prog 80 #[.agg #[.int .i64 nh, .int .u64 nl]] w' fun e w'' => e = .returned (.int .i64 s) ∧ ∃ x : Later w', w'' = x.out) :
    Calls Tryd.prog 51 #[.agg #[.int .i64 nh, .int .u64 nl], .int .i64 b] w fun e w' => e = .returned (.tuple #[.agg #[.int .i64 0, .int .u64 0], .int .i64 0, .int .i64 1]) ∧ ∃ x : Later w, w' = x.out := by
  have Hhs := Lib.hid hs; clear hs
  go_enter Tryd.func51, Tryd.ntmps51
  go_wp2_with (first | (go_at_call 80; refine (Hhs.out _).mono ?_; rintro e _ ⟨rfl, x, rfl⟩))
  exact bodyPost_ret (v := .tuple #[.agg #[.int .i64 0, .int .u64 0], .int .i64 0, .int .i64 1]) (by simp [results, Tryd.results51, go_sem, *]) rfl ⟨rfl, (Later.mk_of (by repeat (first | (with_reducible assumption) | (with_reducible exact Below.refl _ _) | (with_reducible refine Later.after ?_ _) | (with_reducible refine Later.newer ?_ _) | (with_reducible refine Below.drew ?_) | (with_reducible refine Below.setCell ?_ (by first | exact Nat.le_refl _ | exact Nat.le_add_right _ _ | omega | (simp [go_sem]; done) | (simp [go_sem]; omega)) _))))⟩


set_option maxHeartbeats 200000 in
theorem div_pos (nh nl b s h o q1 q0 r Qh : Int) (w : World) (hb : 0 < b) (hb1 : b ≤ 9223372036854775807) (hs : ∀ w', Calls Tryd.prog 80 #[.agg #[.int .i64 nh, .int .u64 nl]] w' fun e w'' => e = .returned (.int .i64 s) ∧ ∃ x : Later w', w'' = x.out) (hs0 : 0 ≤ s)
    (e1 : IntKind.u64.wrap nh = h) (hd1 : ∀ w', Calls Tryd.prog 82 #[.int .u64 0, .int .u64 h, .int .u64 b] w' fun e w'' => e = .returned (.tuple #[.int .u64 q1, .int .u64 o]) ∧ ∃ x : Later w', w'' = x.out) (hd2 : ∀ w', Calls Tryd.prog 82 #[.int .u64 o, .int .u64 nl, .int .u64 b] w' fun e w'' => e = .returned (.tuple #[.int .u64 q0, .int .u64 r]) ∧ ∃ x : Later w', w'' = x.out)
    (e2 : wrap64 q1 = Qh) (r0 : 0 ≤ r) (r1 : r < b) (q10 : 0 ≤ q1) :
    Calls Tryd.prog 51 #[.agg #[.int .i64 nh, .int .u64 nl], .int .i64 b] w fun e w' => e = .returned (.tuple #[.agg #[.int .i64 Qh, .int .u64 q0], .int .i64 r, .int .i64 0]) ∧ ∃ x : Later w, w' = x.out := by
  have Hhs := Lib.hid hs; clear hs
  have Hhd1 := Lib.hid hd1; clear hd1
  have Hhd2 := Lib.hid hd2; clear hd2
  go_enter Tryd.func51, Tryd.ntmps51
  go_wp2_with (first | (go_at_call 80; refine (Hhs.out _).mono ?_; rintro e _ ⟨rfl, x, rfl⟩) | (go_at_call_of 82 (Value.int .u64 h); refine (Hhd1.out _).mono ?_; rintro e _ ⟨rfl, x, rfl⟩) | (go_at_call_of 82 (Value.int .u64 nl); refine (Hhd2.out _).mono ?_; rintro e _ ⟨rfl, x, rfl⟩))
  exact bodyPost_ret (v := .tuple #[.agg #[.int .i64 Qh, .int .u64 q0], .int .i64 r, .int .i64 0]) (by simp [results, Tryd.results51, go_sem, *]) rfl ⟨rfl, (Later.mk_of (by repeat (first | (with_reducible assumption) | (with_reducible exact Below.refl _ _) | (with_reducible refine Later.after ?_ _) | (with_reducible refine Later.newer ?_ _) | (with_reducible refine Below.drew ?_) | (with_reducible refine Below.setCell ?_ (by first | exact Nat.le_refl _ | exact Nat.le_add_right _ _ | omega | (simp [go_sem]; done) | (simp [go_sem]; omega)) _))))⟩


set_option maxHeartbeats 400000 in
theorem div_neg0 (nh nl mh ml b s h o q1 q0 r Qh Ph pl th tl : Int) (w : World) (hb : 0 < b) (hb1 : b ≤ 9223372036854775807) (hs : ∀ w', Calls Tryd.prog 80 #[.agg #[.int .i64 nh, .int .u64 nl]] w' fun e w'' => e = .returned (.int .i64 s) ∧ ∃ x : Later w', w'' = x.out) (hs0 : s < 0)
    (hn : ∀ w', Calls Tryd.prog 81 #[.agg #[.int .i64 0, .int .u64 0], .agg #[.int .i64 nh, .int .u64 nl]] w' fun e w'' => e = .returned (.agg #[.int .i64 mh, .int .u64 ml]) ∧ ∃ x : Later w', w'' = x.out) (e1 : IntKind.u64.wrap mh = h) (hd1 : ∀ w', Calls Tryd.prog 82 #[.int .u64 0, .int .u64 h, .int .u64 b] w' fun e w'' => e = .returned (.tuple #[.int .u64 q1, .int .u64 o]) ∧ ∃ x : Later w', w'' = x.out) (hd2 : ∀ w', Calls Tryd.prog 82 #[.int .u64 o, .int .u64 ml, .int .u64 b] w' fun e w'' => e = .returned (.tuple #[.int .u64 q0, .int .u64 r]) ∧ ∃ x : Later w', w'' = x.out)
    (e2 : wrap64 q1 = Qh) (r1 : r < b) (q10 : 0 ≤ q1) (hn2 : ∀ w', Calls Tryd.prog 81 #[.agg #[.int .i64 0, .int .u64 0], .agg #[.int .i64 Qh, .int .u64 q0]] w' fun e w'' => e = .returned (.agg #[.int .i64 Ph, .int .u64 pl]) ∧ ∃ x : Later w', w'' = x.out) (r0 : r = 0) :
    Calls Tryd.prog 51 #[.agg #[.int .i64 nh, .int .u64 nl], .int .i64 b] w fun e w' => e = .returned (.tuple #[.agg #[.int .i64 Ph, .int .u64 pl], .int .i64 0, .int .i64 0]) ∧ ∃ x : Later w, w' = x.out := by
  have Hhs := Lib.hid hs; clear hs
  have Hhn := Lib.hid hn; clear hn
  have Hhd1 := Lib.hid hd1; clear hd1
  have Hhd2 := Lib.hid hd2; clear hd2
  have Hhn2 := Lib.hid hn2; clear hn2
  subst r0
  go_enter Tryd.func51, Tryd.ntmps51
  go_wp2_with (first | (go_at_call 80; refine (Hhs.out _).mono ?_; rintro e _ ⟨rfl, x, rfl⟩) | (go_at_call_of 81 (Value.int .i64 nh); refine (Hhn.out _).mono ?_; rintro e _ ⟨rfl, x, rfl⟩) | (go_at_call_of 82 (Value.int .u64 h); refine (Hhd1.out _).mono ?_; rintro e _ ⟨rfl, x, rfl⟩) | (go_at_call_of 82 (Value.int .u64 ml); refine (Hhd2.out _).mono ?_; rintro e _ ⟨rfl, x, rfl⟩) | (go_at_call_of 81 (Value.int .i64 Qh); refine (Hhn2.out _).mono ?_; rintro e _ ⟨rfl, x, rfl⟩))
  exact bodyPost_ret (v := .tuple #[.agg #[.int .i64 Ph, .int .u64 pl], .int .i64 0, .int .i64 0]) (by simp [results, Tryd.results51, go_sem, *]) rfl ⟨rfl, (Later.mk_of (by repeat (first | (with_reducible assumption) | (with_reducible exact Below.refl _ _) | (with_reducible refine Later.after ?_ _) | (with_reducible refine Later.newer ?_ _) | (with_reducible refine Below.drew ?_) | (with_reducible refine Below.setCell ?_ (by first | exact Nat.le_refl _ | exact Nat.le_add_right _ _ | omega | (simp [go_sem]; done) | (simp [go_sem]; omega)) _))))⟩

set_option maxHeartbeats 400000 in
theorem div_neg1 (nh nl mh ml b s h o q1 q0 r Qh Ph pl th tl : Int) (w : World) (hb : 0 < b) (hb1 : b ≤ 9223372036854775807) (hs : ∀ w', Calls Tryd.prog 80 #[.agg #[.int .i64 nh, .int .u64 nl]] w' fun e w'' => e = .returned (.int .i64 s) ∧ ∃ x : Later w', w'' = x.out) (hs0 : s < 0)
    (hn : ∀ w', Calls Tryd.prog 81 #[.agg #[.int .i64 0, .int .u64 0], .agg #[.int .i64 nh, .int .u64 nl]] w' fun e w'' => e = .returned (.agg #[.int .i64 mh, .int .u64 ml]) ∧ ∃ x : Later w', w'' = x.out) (e1 : IntKind.u64.wrap mh = h) (hd1 : ∀ w', Calls Tryd.prog 82 #[.int .u64 0, .int .u64 h, .int .u64 b] w' fun e w'' => e = .returned (.tuple #[.int .u64 q1, .int .u64 o]) ∧ ∃ x : Later w', w'' = x.out) (hd2 : ∀ w', Calls Tryd.prog 82 #[.int .u64 o, .int .u64 ml, .int .u64 b] w' fun e w'' => e = .returned (.tuple #[.int .u64 q0, .int .u64 r]) ∧ ∃ x : Later w', w'' = x.out)
    (e2 : wrap64 q1 = Qh) (r1 : r < b) (q10 : 0 ≤ q1) (hn2 : ∀ w', Calls Tryd.prog 81 #[.agg #[.int .i64 0, .int .u64 0], .agg #[.int .i64 Qh, .int .u64 q0]] w' fun e w'' => e = .returned (.agg #[.int .i64 Ph, .int .u64 pl]) ∧ ∃ x : Later w', w'' = x.out) (r0 : 0 < r) (ho : ∀ w', Calls Tryd.prog 54 #[.int .i64 1] w' fun e w'' => e = .returned (.agg #[.int .i64 0, .int .u64 1]) ∧ ∃ x : Later w', w'' = x.out) (hn3 : ∀ w', Calls Tryd.prog 81 #[.agg #[.int .i64 Ph, .int .u64 pl], .agg #[.int .i64 0, .int .u64 1]] w' fun e w'' => e = .returned (.agg #[.int .i64 th, .int .u64 tl]) ∧ ∃ x : Later w', w'' = x.out) :
    Calls Tryd.prog 51 #[.agg #[.int .i64 nh, .int .u64 nl], .int .i64 b] w fun e w' => e = .returned (.tuple #[.agg #[.int .i64 th, .int .u64 tl], .int .i64 (b - r), .int .i64 0]) ∧ ∃ x : Later w, w' = x.out := by
  have Hhs := Lib.hid hs; clear hs
  have Hhn := Lib.hid hn; clear hn
  have Hhd1 := Lib.hid hd1; clear hd1
  have Hhd2 := Lib.hid hd2; clear hd2
  have Hhn2 := Lib.hid hn2; clear hn2
  have Hho := Lib.hid ho; clear ho
  have Hhn3 := Lib.hid hn3; clear hn3
  go_enter Tryd.func51, Tryd.ntmps51
  go_wp2_with (first | (go_at_call 80; refine (Hhs.out _).mono ?_; rintro e _ ⟨rfl, x, rfl⟩) | (go_at_call_of 81 (Value.int .i64 nh); refine (Hhn.out _).mono ?_; rintro e _ ⟨rfl, x, rfl⟩) | (go_at_call_of 82 (Value.int .u64 h); refine (Hhd1.out _).mono ?_; rintro e _ ⟨rfl, x, rfl⟩) | (go_at_call_of 82 (Value.int .u64 ml); refine (Hhd2.out _).mono ?_; rintro e _ ⟨rfl, x, rfl⟩) | (go_at_call_of 81 (Value.int .i64 Qh); refine (Hhn2.out _).mono ?_; rintro e _ ⟨rfl, x, rfl⟩))
  go_region_with (first | (go_at_call 54; refine (Hho.out _).mono ?_; rintro e _ ⟨rfl, x, rfl⟩) | (go_at_call_of 81 (Value.int .i64 Ph); refine (Hhn3.out _).mono ?_; rintro e _ ⟨rfl, x, rfl⟩))
  all_goals go_wp2
  all_goals (exact bodyPost_ret (v := .tuple #[.agg #[.int .i64 th, .int .u64 tl], .int .i64 (b - r), .int .i64 0]) (by simp [results, Tryd.results51, go_sem, *]) rfl ⟨rfl, (Later.mk_of (by repeat (first | (with_reducible assumption) | (with_reducible exact Below.refl _ _) | (with_reducible refine Later.after ?_ _) | (with_reducible refine Later.newer ?_ _) | (with_reducible refine Below.drew ?_) | (with_reducible refine Below.setCell ?_ (by first | exact Nat.le_refl _ | exact Nat.le_add_right _ _ | omega | (simp [go_sem]; done) | (simp [go_sem]; omega)) _))))⟩)

/-! ### the plain side -/
theorem long_div (h l b : Int) (hb : 0 < b) (h0 : 0 ≤ h) (l0 : 0 ≤ l) (l1 : l ≤ 18446744073709551615) :
    (h * 18446744073709551616 + l) / b = h / b * 18446744073709551616 + (h % b * 18446744073709551616 + l) / b ∧ (h * 18446744073709551616 + l) % b = (h % b * 18446744073709551616 + l) % b ∧
    0 ≤ (h % b * 18446744073709551616 + l) / b ∧ (h % b * 18446744073709551616 + l) / b ≤ 18446744073709551615 := by
  have e := Int.mul_ediv_add_emod h b
  have m0 := Int.emod_nonneg h (show b ≠ 0 by omega)
  have m1 := Int.emod_lt_of_pos h hb
  have k : h * 18446744073709551616 + l = (h % b * 18446744073709551616 + l) + b * (h / b * 18446744073709551616) := by
    rw [← Int.mul_assoc]
    omega
  have d : (h % b * 18446744073709551616 + l) / b < 18446744073709551616 := Int.ediv_lt_of_lt_mul hb (by omega)
  refine ⟨?_, ?_, Int.ediv_nonneg (by omega) (by omega), by omega⟩
  · rw [k, Int.add_mul_ediv_left _ _ (by omega), Int.add_comm]
  · rw [k, Int.add_mul_emod_self_left]

theorem hi_wrap (m : Int) (h0 : 0 ≤ m) (h1 : m < 340282366920938463463374607431768211456) : IntKind.u64.wrap (hiW m) = m / 18446744073709551616 := by rw [IntKind.wrap_u64]; unfold hiW; omega
theorem wrap_hi (q h l : Int) (e : q = h * 18446744073709551616 + l) (l0 : 0 ≤ l) (l1 : l ≤ 18446744073709551615) : wrap64 h = hiW q ∧ l = loW q := by unfold wrap64 hiW loW; omega
theorem halves_pos (m : Int) : m = m / 18446744073709551616 * 18446744073709551616 + loW m := by unfold loW; omega

theorem div_c_bad (n b : Int) (w : World) (hn : R128 n) (hb : b ≤ 0) :
    Calls Tryd.prog 51 #[.agg #[.int .i64 (hiW n), .int .u64 (loW n)], .int .i64 b] w fun e w' => e = .returned (.tuple #[.agg #[.int .i64 0, .int .u64 0], .int .i64 0, .int .i64 1]) ∧ ∃ x : Later w, w' = x.out :=
  div_bad _ _ b _ w hb fun w' => sign_c n w' hn

theorem div_c (n b : Int) (w : World) (hn : R128 n) (hb : 0 < b) (hb1 : b ≤ 9223372036854775807) :
    Calls Tryd.prog 51 #[.agg #[.int .i64 (hiW n), .int .u64 (loW n)], .int .i64 b] w fun e w' => e = .returned (.tuple #[.agg #[.int .i64 (hiW (n / b)), .int .u64 (loW (n / b))], .int .i64 (n % b), .int .i64 0]) ∧ ∃ x : Later w, w' = x.out := by
  have hz := W_zero
  have g : ∀ m : Int, 0 ≤ m → m < 340282366920938463463374607431768211456 → ∃ q1 o q0 r : Int, m / b = q1 * 18446744073709551616 + q0 ∧ m % b = r ∧ 0 ≤ q1 ∧ 0 ≤ q0 ∧ q0 ≤ 18446744073709551615 ∧ 0 ≤ r ∧ r < b ∧ wrap64 q1 = hiW (m / b) ∧ q0 = loW (m / b) ∧
      (∀ w', Calls Tryd.prog 82 #[.int .u64 0, .int .u64 (m / 18446744073709551616), .int .u64 b] w' fun e w'' => e = .returned (.tuple #[.int .u64 q1, .int .u64 o]) ∧ ∃ x : Later w', w'' = x.out) ∧
      (∀ w', Calls Tryd.prog 82 #[.int .u64 o, .int .u64 (loW m), .int .u64 b] w' fun e w'' => e = .returned (.tuple #[.int .u64 q0, .int .u64 r]) ∧ ∃ x : Later w', w'' = x.out) := by
    intro m m0 m1
    have lb := loW_bd m
    have L := long_div (m / 18446744073709551616) (loW m) b hb (by omega) lb.1 lb.2
    rw [← halves_pos m] at L
    have n0 := Int.emod_nonneg (m / 18446744073709551616) (show b ≠ 0 by omega)
    have n1 := Int.emod_lt_of_pos (m / 18446744073709551616) hb
    have r0 := Int.emod_nonneg m (show b ≠ 0 by omega)
    have r1 := Int.emod_lt_of_pos m hb
    have wh := wrap_hi _ _ _ L.1 L.2.2.1 L.2.2.2
    refine ⟨m / 18446744073709551616 / b, m / 18446744073709551616 % b, (m / 18446744073709551616 % b * 18446744073709551616 + loW m) / b, m % b, L.1, rfl, Int.ediv_nonneg (by omega) (by omega), L.2.2.1, L.2.2.2, r0, r1, wh.1, wh.2, fun w' => ?_, fun w' => ?_⟩
    · have := div64_c 0 (m / 18446744073709551616) b w' (by omega) hb (by omega) (by omega) (by omega)
      rwa [show (0 : Int) * 18446744073709551616 + m / 18446744073709551616 = m / 18446744073709551616 by omega] at this
    · have := div64_c (m / 18446744073709551616 % b) (loW m) b w' n0 n1 lb.1 lb.2 (by omega)
      rwa [← L.2.1] at this
  unfold R128 at hn
  rcases Int.lt_or_le n 0 with h | h
  · obtain ⟨q1, o, q0, r, hq, hr, q10, q00, q01, r0, r1, eh, el, c1, c2⟩ := g (-n) (by omega) (by omega)
    have s1 := fun w' => sub_c 0 n w'
    have s2 := fun w' => sub_c 0 (-n / b) w'
    rw [hz.1, hz.2, show (0 : Int) - n = -n by omega] at s1
    rw [hz.1, hz.2, ← el, show (0 : Int) - -n / b = -(-n / b) by omega] at s2
    have e0 := Int.mul_ediv_add_emod (-n) b
    have hs : ordW n 0 < 0 := by unfold ordW; rw [if_neg (by omega), if_pos h]; omega
    rcases Int.lt_or_eq_of_le r0 with hp | hp
    · have s3 := fun w' => sub_c (-(-n / b)) 1 w'
      have o1 := fun w' => of_c 1 w' (by unfold R64; omega)
      have h1 : hiW 1 = 0 ∧ loW 1 = 1 := by unfold hiW loW; omega
      rw [h1.1, h1.2] at s3 o1
      have k : n = (b - r) + b * (-(-n / b) - 1) := by rw [Int.mul_sub, Int.mul_neg]; omega
      have e1 : n / b = -(-n / b) - 1 := by rw [k, Int.add_mul_ediv_left _ _ (by omega), Int.ediv_eq_zero_of_lt (by omega) (by omega), ← k]; omega
      have e2 : n % b = b - r := by rw [k, Int.add_mul_emod_self_left, Int.emod_eq_of_lt (by omega) (by omega)]
      rw [e1, e2]
      exact div_neg1 _ _ _ _ b _ _ o q1 q0 r _ _ _ _ _ w hb hb1 (fun w' => sign_c n w' hn) hs s1 (hi_wrap _ (by omega) (by omega)) c1 c2 eh r1 q10 s2 hp o1 s3
    · have k : n = b * (-(-n / b)) := by rw [Int.mul_neg]; omega
      have e1 : n / b = -(-n / b) := by
        have := Int.mul_ediv_cancel_left (-(-n / b)) (show b ≠ 0 by omega)
        rwa [← k] at this
      have e2 : n % b = 0 := by
        have := Int.mul_emod_right b (-(-n / b))
        rwa [← k] at this
      rw [e1, e2]
      exact div_neg0 _ _ _ _ b _ _ o q1 q0 r _ _ _ 0 0 w hb hb1 (fun w' => sign_c n w' hn) hs s1 (hi_wrap _ (by omega) (by omega)) c1 c2 eh r1 q10 s2 hp.symm
  · obtain ⟨q1, o, q0, r, hq, hr, q10, q00, q01, r0, r1, eh, el, c1, c2⟩ := g n h (by omega)
    have hs : 0 ≤ ordW n 0 := by unfold ordW; split <;> (try split) <;> omega
    rw [hr, ← el]
    exact div_pos _ _ b _ _ o q1 q0 r _ w hb hb1 (fun w' => sign_c n w' hn) hs (hi_wrap n h (by omega)) c1 c2 eh r0 r1 q10
end Go.Proofs.YtjmagehfkcnjjaaDoor

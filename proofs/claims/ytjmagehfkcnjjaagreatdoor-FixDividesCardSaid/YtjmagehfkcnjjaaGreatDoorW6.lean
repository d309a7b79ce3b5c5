/-
  The contracts of the reference's product and of what is narrow.
-/
import Derived.Test.YtjmagehfkcnjjaaGreatDoorW5
namespace Go.Proofs.YtjmagehfkcnjjaaGreatDoor
set_option linter.unusedVariables false
open Go.RowKit

set_option maxHeartbeats 400000 in
theorem narrow_r_yes (n : Int) (w : World) (hn : R64 n) :
    Calls Tryz.prog 52 #[.agg #[.int .i64 (hiW n), .int .u64 (loW n)]] w fun e w' => e = .returned (.tuple #[.int .i64 n, .bool true]) ∧ ∃ x : Later w, w' = x.out := by
  have hc := fun w' => of_r n w' hn
  have e : wrap64 (loW n) = n := by rw [w64_lo]; unfold R64 at hn; omega
  have HC := Lib.hid hc
  clear hc
  go_enter Tryz.func52, Tryz.ntmps52
  go_wp2_with (fail)
  refine wp_region_later (by kernel_rfl) (by kernel_rfl) ?_
  repeat (go_big_quiet_step ((first | (go_at_call 30; exact Later.call _ (HC.out _)))))
  refine wpQuiet_nil ?_
  intro x
  go_wp2
  go_ret2
  exact ⟨by simp [e], (Later.mk_of (by repeat (first | (with_reducible assumption) | (with_reducible exact Below.refl _ _) | (with_reducible refine Later.after ?_ _) | (with_reducible refine Later.newer ?_ _) | (with_reducible refine Below.drew ?_) | (with_reducible refine Below.setCell ?_ (by first | exact Nat.le_refl _ | exact Nat.le_add_right _ _ | omega | (simp [go_sem]; done) | (simp [go_sem]; omega)) _))))⟩
set_option maxHeartbeats 400000 in
theorem narrow_r_no (n : Int) (w : World) (hr : R128 n) (hn : ¬ R64 n) :
    Calls Tryz.prog 52 #[.agg #[.int .i64 (hiW n), .int .u64 (loW n)]] w fun e w' => e = .returned (.tuple #[.int .i64 0, .bool false]) ∧ ∃ x : Later w, w' = x.out := by
  have hk : R64 (wrap64 (loW n)) := by unfold R64 wrap64; have := loW_bd n; omega
  have hc := fun w' => of_r (wrap64 (loW n)) w' hk
  have e1 : ¬ (hiW n = hiW (wrap64 (loW n)) ∧ loW n = loW (wrap64 (loW n))) := fun h => hn (by
    have := eq_of_halves n _ hr (by unfold R64 at hk; unfold R128; omega) h.1 h.2
    rw [this]; exact hk)
  have e2 : hiW n = hiW (wrap64 (loW n)) ∧ (loW n == loW (wrap64 (loW n))) = false ∨ (hiW n == hiW (wrap64 (loW n))) = false := by
    by_cases h : hiW n = hiW (wrap64 (loW n))
    · exact .inl ⟨h, by simp; exact fun h2 => e1 ⟨h, h2⟩⟩
    · exact .inr (by simp; exact h)
  clear e1 hn hr
  have HC := Lib.hid hc
  clear hc hk
  generalize hk1 : hiW (wrap64 (loW n)) = k1 at *
  generalize hk2 : loW (wrap64 (loW n)) = k2 at *
  have HK1 := Lib.hid hk1
  have HK2 := Lib.hid hk2
  clear hk1 hk2
  rcases e2 with ⟨rfl, e2⟩ | e2
  all_goals
    go_enter Tryz.func52, Tryz.ntmps52
    go_wp2_with (fail)
    refine wp_region_later (by kernel_rfl) (by kernel_rfl) ?_
    repeat (go_big_quiet_step ((first | (go_at_call 30; exact Later.call _ (HC.out _)))))
    refine wpQuiet_nil ?_
    intro x
    go_wp2
    go_ret2
    exact ⟨rfl, (Later.mk_of (by repeat (first | (with_reducible assumption) | (with_reducible exact Below.refl _ _) | (with_reducible refine Later.after ?_ _) | (with_reducible refine Later.newer ?_ _) | (with_reducible refine Below.drew ?_) | (with_reducible refine Below.setCell ?_ (by first | exact Nat.le_refl _ | exact Nat.le_add_right _ _ | omega | (simp [go_sem]; done) | (simp [go_sem]; omega)) _))))⟩


set_option maxHeartbeats 600000 in
theorem mul_r_0 (a b x y p q r s H1 pr qs ps qr h1 l1 h2 l2 h3 l3 h4 l4 h5 l5 h6 l6 : Int) (w : World) (ha : 0 ≤ a) (hb : 0 ≤ b)
    (ex : IntKind.u64.wrap a = x) (ey : IntKind.u64.wrap b = y) (hx : 0 ≤ x) (hx1 : x ≤ 18446744073709551615) (hy : 0 ≤ y) (hy1 : y ≤ 18446744073709551615)
    (ep : x / 4294967296 = p) (eq : x % 4294967296 = q) (er : y / 4294967296 = r) (es : y % 4294967296 = s)
    (e1 : IntKind.u64.wrap (p * r) = pr) (e2 : wrap64 pr = H1) (e3 : IntKind.u64.wrap (q * s) = qs) (e4 : IntKind.u64.wrap (p * s) = ps) (e5 : IntKind.u64.wrap (q * r) = qr)
    (s1 : ∀ w', Calls Tryz.prog 29 #[.agg #[.int .i64 H1, .int .u64 0], .agg #[.int .i64 0, .int .u64 qs]] w' fun e w'' => e = .returned (.agg #[.int .i64 h1, .int .u64 l1]) ∧ ∃ x : Later w', w'' = x.out) (ra1 : ∀ w', Calls Tryz.prog 51 #[.int .u64 ps] w' fun e w'' => e = .returned (.agg #[.int .i64 h2, .int .u64 l2]) ∧ ∃ x : Later w', w'' = x.out) (s2 : ∀ w', Calls Tryz.prog 29 #[.agg #[.int .i64 h1, .int .u64 l1], .agg #[.int .i64 h2, .int .u64 l2]] w' fun e w'' => e = .returned (.agg #[.int .i64 h3, .int .u64 l3]) ∧ ∃ x : Later w', w'' = x.out) (ra2 : ∀ w', Calls Tryz.prog 51 #[.int .u64 qr] w' fun e w'' => e = .returned (.agg #[.int .i64 h4, .int .u64 l4]) ∧ ∃ x : Later w', w'' = x.out) (s3 : ∀ w', Calls Tryz.prog 29 #[.agg #[.int .i64 h3, .int .u64 l3], .agg #[.int .i64 h4, .int .u64 l4]] w' fun e w'' => e = .returned (.agg #[.int .i64 h5, .int .u64 l5]) ∧ ∃ x : Later w', w'' = x.out)  :
    Calls Tryz.prog 27 #[.int .i64 a, .int .i64 b] w fun e w' => e = .returned (.agg #[.int .i64 h5, .int .u64 l5]) ∧ ∃ x : Later w, w' = x.out := by
  have Hs1 := Lib.hid s1; clear s1
  have Hra1 := Lib.hid ra1; clear ra1
  have Hs2 := Lib.hid s2; clear s2
  have Hra2 := Lib.hid ra2; clear ra2
  have Hs3 := Lib.hid s3; clear s3
  have da : decide (a < 0) = false := by simp; omega
  have db : decide (b < 0) = false := by simp; omega
  go_enter Tryz.func27, Tryz.ntmps27
  go_wp2_with (first | (go_at_call 29; refine (Hs1.out _).mono ?_; rintro e _ ⟨rfl, x, rfl⟩))
  refine wp_region_later_tail 11 (by kernel_rfl) (by kernel_rfl) ?_
  simp only [List.take_succ_cons, List.take_zero, List.drop_succ_cons, List.drop_zero]
  repeat (go_big_quiet_step ((first | (go_at_call_of 51 (Value.int .u64 ps); exact Later.call _ (Hra1.out _)) | (go_at_call_of 51 (Value.int .u64 qr); exact Later.call _ (Hra2.out _)) | (go_at_call_of 29 (Value.int .i64 h1); exact Later.call _ (Hs2.out _)) | (go_at_call_of 29 (Value.int .i64 h3); exact Later.call _ (Hs3.out _)))))
  refine wpQuiet_nil ?_
  intro x
  go_wp2
  exact bodyPost_ret (v := .agg #[.int .i64 h5, .int .u64 l5]) (by simp [results, Tryz.results27, go_sem, *]) rfl ⟨rfl, (Later.mk_of (by repeat (first | (with_reducible assumption) | (with_reducible exact Below.refl _ _) | (with_reducible refine Later.after ?_ _) | (with_reducible refine Later.newer ?_ _) | (with_reducible refine Below.drew ?_) | (with_reducible refine Below.setCell ?_ (by first | exact Nat.le_refl _ | exact Nat.le_add_right _ _ | omega | (simp [go_sem]; done) | (simp [go_sem]; omega)) _))))⟩


set_option maxHeartbeats 600000 in
theorem mul_r_1 (a b x y p q r s H1 pr qs ps qr h1 l1 h2 l2 h3 l3 h4 l4 h5 l5 h6 l6 : Int) (w : World) (ha : 0 ≤ a) (hb : b < 0)
    (ex : IntKind.u64.wrap a = x) (ey : IntKind.u64.wrap (-IntKind.u64.wrap b) = y) (hx : 0 ≤ x) (hx1 : x ≤ 18446744073709551615) (hy : 0 ≤ y) (hy1 : y ≤ 18446744073709551615)
    (ep : x / 4294967296 = p) (eq : x % 4294967296 = q) (er : y / 4294967296 = r) (es : y % 4294967296 = s)
    (e1 : IntKind.u64.wrap (p * r) = pr) (e2 : wrap64 pr = H1) (e3 : IntKind.u64.wrap (q * s) = qs) (e4 : IntKind.u64.wrap (p * s) = ps) (e5 : IntKind.u64.wrap (q * r) = qr)
    (s1 : ∀ w', Calls Tryz.prog 29 #[.agg #[.int .i64 H1, .int .u64 0], .agg #[.int .i64 0, .int .u64 qs]] w' fun e w'' => e = .returned (.agg #[.int .i64 h1, .int .u64 l1]) ∧ ∃ x : Later w', w'' = x.out) (ra1 : ∀ w', Calls Tryz.prog 51 #[.int .u64 ps] w' fun e w'' => e = .returned (.agg #[.int .i64 h2, .int .u64 l2]) ∧ ∃ x : Later w', w'' = x.out) (s2 : ∀ w', Calls Tryz.prog 29 #[.agg #[.int .i64 h1, .int .u64 l1], .agg #[.int .i64 h2, .int .u64 l2]] w' fun e w'' => e = .returned (.agg #[.int .i64 h3, .int .u64 l3]) ∧ ∃ x : Later w', w'' = x.out) (ra2 : ∀ w', Calls Tryz.prog 51 #[.int .u64 qr] w' fun e w'' => e = .returned (.agg #[.int .i64 h4, .int .u64 l4]) ∧ ∃ x : Later w', w'' = x.out) (s3 : ∀ w', Calls Tryz.prog 29 #[.agg #[.int .i64 h3, .int .u64 l3], .agg #[.int .i64 h4, .int .u64 l4]] w' fun e w'' => e = .returned (.agg #[.int .i64 h5, .int .u64 l5]) ∧ ∃ x : Later w', w'' = x.out) (n1 : ∀ w', Calls Tryz.prog 49 #[.agg #[.int .i64 h5, .int .u64 l5]] w' fun e w'' => e = .returned (.agg #[.int .i64 h6, .int .u64 l6]) ∧ ∃ x : Later w', w'' = x.out) :
    Calls Tryz.prog 27 #[.int .i64 a, .int .i64 b] w fun e w' => e = .returned (.agg #[.int .i64 h6, .int .u64 l6]) ∧ ∃ x : Later w, w' = x.out := by
  have Hs1 := Lib.hid s1; clear s1
  have Hra1 := Lib.hid ra1; clear ra1
  have Hs2 := Lib.hid s2; clear s2
  have Hra2 := Lib.hid ra2; clear ra2
  have Hs3 := Lib.hid s3; clear s3
  have Hn1 := Lib.hid n1; clear n1
  have da : decide (a < 0) = false := by simp; omega
  have db : decide (b < 0) = true := by simp; omega
  go_enter Tryz.func27, Tryz.ntmps27
  go_wp2_with (first | (go_at_call 29; refine (Hs1.out _).mono ?_; rintro e _ ⟨rfl, x, rfl⟩))
  refine wp_region_later_tail 11 (by kernel_rfl) (by kernel_rfl) ?_
  simp only [List.take_succ_cons, List.take_zero, List.drop_succ_cons, List.drop_zero]
  repeat (go_big_quiet_step ((first | (go_at_call_of 51 (Value.int .u64 ps); exact Later.call _ (Hra1.out _)) | (go_at_call_of 51 (Value.int .u64 qr); exact Later.call _ (Hra2.out _)) | (go_at_call_of 29 (Value.int .i64 h1); exact Later.call _ (Hs2.out _)) | (go_at_call_of 29 (Value.int .i64 h3); exact Later.call _ (Hs3.out _)))))
  refine wpQuiet_nil ?_
  intro x
  go_wp2_with (first | (go_at_call 49; refine (Hn1.out _).mono ?_; rintro e _ ⟨rfl, x, rfl⟩))
  exact bodyPost_ret (v := .agg #[.int .i64 h6, .int .u64 l6]) (by simp [results, Tryz.results27, go_sem, *]) rfl ⟨rfl, (Later.mk_of (by repeat (first | (with_reducible assumption) | (with_reducible exact Below.refl _ _) | (with_reducible refine Later.after ?_ _) | (with_reducible refine Later.newer ?_ _) | (with_reducible refine Below.drew ?_) | (with_reducible refine Below.setCell ?_ (by first | exact Nat.le_refl _ | exact Nat.le_add_right _ _ | omega | (simp [go_sem]; done) | (simp [go_sem]; omega)) _))))⟩


set_option maxHeartbeats 600000 in
theorem mul_r_2 (a b x y p q r s H1 pr qs ps qr h1 l1 h2 l2 h3 l3 h4 l4 h5 l5 h6 l6 : Int) (w : World) (ha : a < 0) (hb : 0 ≤ b)
    (ex : IntKind.u64.wrap (-IntKind.u64.wrap a) = x) (ey : IntKind.u64.wrap b = y) (hx : 0 ≤ x) (hx1 : x ≤ 18446744073709551615) (hy : 0 ≤ y) (hy1 : y ≤ 18446744073709551615)
    (ep : x / 4294967296 = p) (eq : x % 4294967296 = q) (er : y / 4294967296 = r) (es : y % 4294967296 = s)
    (e1 : IntKind.u64.wrap (p * r) = pr) (e2 : wrap64 pr = H1) (e3 : IntKind.u64.wrap (q * s) = qs) (e4 : IntKind.u64.wrap (p * s) = ps) (e5 : IntKind.u64.wrap (q * r) = qr)
    (s1 : ∀ w', Calls Tryz.prog 29 #[.agg #[.int .i64 H1, .int .u64 0], .agg #[.int .i64 0, .int .u64 qs]] w' fun e w'' => e = .returned (.agg #[.int .i64 h1, .int .u64 l1]) ∧ ∃ x : Later w', w'' = x.out) (ra1 : ∀ w', Calls Tryz.prog 51 #[.int .u64 ps] w' fun e w'' => e = .returned (.agg #[.int .i64 h2, .int .u64 l2]) ∧ ∃ x : Later w', w'' = x.out) (s2 : ∀ w', Calls Tryz.prog 29 #[.agg #[.int .i64 h1, .int .u64 l1], .agg #[.int .i64 h2, .int .u64 l2]] w' fun e w'' => e = .returned (.agg #[.int .i64 h3, .int .u64 l3]) ∧ ∃ x : Later w', w'' = x.out) (ra2 : ∀ w', Calls Tryz.prog 51 #[.int .u64 qr] w' fun e w'' => e = .returned (.agg #[.int .i64 h4, .int .u64 l4]) ∧ ∃ x : Later w', w'' = x.out) (s3 : ∀ w', Calls Tryz.prog 29 #[.agg #[.int .i64 h3, .int .u64 l3], .agg #[.int .i64 h4, .int .u64 l4]] w' fun e w'' => e = .returned (.agg #[.int .i64 h5, .int .u64 l5]) ∧ ∃ x : Later w', w'' = x.out) (n1 : ∀ w', Calls Tryz.prog 49 #[.agg #[.int .i64 h5, .int .u64 l5]] w' fun e w'' => e = .returned (.agg #[.int .i64 h6, .int .u64 l6]) ∧ ∃ x : Later w', w'' = x.out) :
    Calls Tryz.prog 27 #[.int .i64 a, .int .i64 b] w fun e w' => e = .returned (.agg #[.int .i64 h6, .int .u64 l6]) ∧ ∃ x : Later w, w' = x.out := by
  have Hs1 := Lib.hid s1; clear s1
  have Hra1 := Lib.hid ra1; clear ra1
  have Hs2 := Lib.hid s2; clear s2
  have Hra2 := Lib.hid ra2; clear ra2
  have Hs3 := Lib.hid s3; clear s3
  have Hn1 := Lib.hid n1; clear n1
  have da : decide (a < 0) = true := by simp; omega
  have db : decide (b < 0) = false := by simp; omega
  go_enter Tryz.func27, Tryz.ntmps27
  go_wp2_with (first | (go_at_call 29; refine (Hs1.out _).mono ?_; rintro e _ ⟨rfl, x, rfl⟩))
  refine wp_region_later_tail 11 (by kernel_rfl) (by kernel_rfl) ?_
  simp only [List.take_succ_cons, List.take_zero, List.drop_succ_cons, List.drop_zero]
  repeat (go_big_quiet_step ((first | (go_at_call_of 51 (Value.int .u64 ps); exact Later.call _ (Hra1.out _)) | (go_at_call_of 51 (Value.int .u64 qr); exact Later.call _ (Hra2.out _)) | (go_at_call_of 29 (Value.int .i64 h1); exact Later.call _ (Hs2.out _)) | (go_at_call_of 29 (Value.int .i64 h3); exact Later.call _ (Hs3.out _)))))
  refine wpQuiet_nil ?_
  intro x
  go_wp2_with (first | (go_at_call 49; refine (Hn1.out _).mono ?_; rintro e _ ⟨rfl, x, rfl⟩))
  exact bodyPost_ret (v := .agg #[.int .i64 h6, .int .u64 l6]) (by simp [results, Tryz.results27, go_sem, *]) rfl ⟨rfl, (Later.mk_of (by repeat (first | (with_reducible assumption) | (with_reducible exact Below.refl _ _) | (with_reducible refine Later.after ?_ _) | (with_reducible refine Later.newer ?_ _) | (with_reducible refine Below.drew ?_) | (with_reducible refine Below.setCell ?_ (by first | exact Nat.le_refl _ | exact Nat.le_add_right _ _ | omega | (simp [go_sem]; done) | (simp [go_sem]; omega)) _))))⟩


set_option maxHeartbeats 600000 in
theorem mul_r_3 (a b x y p q r s H1 pr qs ps qr h1 l1 h2 l2 h3 l3 h4 l4 h5 l5 h6 l6 : Int) (w : World) (ha : a < 0) (hb : b < 0)
    (ex : IntKind.u64.wrap (-IntKind.u64.wrap a) = x) (ey : IntKind.u64.wrap (-IntKind.u64.wrap b) = y) (hx : 0 ≤ x) (hx1 : x ≤ 18446744073709551615) (hy : 0 ≤ y) (hy1 : y ≤ 18446744073709551615)
    (ep : x / 4294967296 = p) (eq : x % 4294967296 = q) (er : y / 4294967296 = r) (es : y % 4294967296 = s)
    (e1 : IntKind.u64.wrap (p * r) = pr) (e2 : wrap64 pr = H1) (e3 : IntKind.u64.wrap (q * s) = qs) (e4 : IntKind.u64.wrap (p * s) = ps) (e5 : IntKind.u64.wrap (q * r) = qr)
    (s1 : ∀ w', Calls Tryz.prog 29 #[.agg #[.int .i64 H1, .int .u64 0], .agg #[.int .i64 0, .int .u64 qs]] w' fun e w'' => e = .returned (.agg #[.int .i64 h1, .int .u64 l1]) ∧ ∃ x : Later w', w'' = x.out) (ra1 : ∀ w', Calls Tryz.prog 51 #[.int .u64 ps] w' fun e w'' => e = .returned (.agg #[.int .i64 h2, .int .u64 l2]) ∧ ∃ x : Later w', w'' = x.out) (s2 : ∀ w', Calls Tryz.prog 29 #[.agg #[.int .i64 h1, .int .u64 l1], .agg #[.int .i64 h2, .int .u64 l2]] w' fun e w'' => e = .returned (.agg #[.int .i64 h3, .int .u64 l3]) ∧ ∃ x : Later w', w'' = x.out) (ra2 : ∀ w', Calls Tryz.prog 51 #[.int .u64 qr] w' fun e w'' => e = .returned (.agg #[.int .i64 h4, .int .u64 l4]) ∧ ∃ x : Later w', w'' = x.out) (s3 : ∀ w', Calls Tryz.prog 29 #[.agg #[.int .i64 h3, .int .u64 l3], .agg #[.int .i64 h4, .int .u64 l4]] w' fun e w'' => e = .returned (.agg #[.int .i64 h5, .int .u64 l5]) ∧ ∃ x : Later w', w'' = x.out)  :
    Calls Tryz.prog 27 #[.int .i64 a, .int .i64 b] w fun e w' => e = .returned (.agg #[.int .i64 h5, .int .u64 l5]) ∧ ∃ x : Later w, w' = x.out := by
  have Hs1 := Lib.hid s1; clear s1
  have Hra1 := Lib.hid ra1; clear ra1
  have Hs2 := Lib.hid s2; clear s2
  have Hra2 := Lib.hid ra2; clear ra2
  have Hs3 := Lib.hid s3; clear s3
  have da : decide (a < 0) = true := by simp; omega
  have db : decide (b < 0) = true := by simp; omega
  go_enter Tryz.func27, Tryz.ntmps27
  go_wp2_with (first | (go_at_call 29; refine (Hs1.out _).mono ?_; rintro e _ ⟨rfl, x, rfl⟩))
  refine wp_region_later_tail 11 (by kernel_rfl) (by kernel_rfl) ?_
  simp only [List.take_succ_cons, List.take_zero, List.drop_succ_cons, List.drop_zero]
  repeat (go_big_quiet_step ((first | (go_at_call_of 51 (Value.int .u64 ps); exact Later.call _ (Hra1.out _)) | (go_at_call_of 51 (Value.int .u64 qr); exact Later.call _ (Hra2.out _)) | (go_at_call_of 29 (Value.int .i64 h1); exact Later.call _ (Hs2.out _)) | (go_at_call_of 29 (Value.int .i64 h3); exact Later.call _ (Hs3.out _)))))
  refine wpQuiet_nil ?_
  intro x
  go_wp2
  exact bodyPost_ret (v := .agg #[.int .i64 h5, .int .u64 l5]) (by simp [results, Tryz.results27, go_sem, *]) rfl ⟨rfl, (Later.mk_of (by repeat (first | (with_reducible assumption) | (with_reducible exact Below.refl _ _) | (with_reducible refine Later.after ?_ _) | (with_reducible refine Later.newer ?_ _) | (with_reducible refine Below.drew ?_) | (with_reducible refine Below.setCell ?_ (by first | exact Nat.le_refl _ | exact Nat.le_add_right _ _ | omega | (simp [go_sem]; done) | (simp [go_sem]; omega)) _))))⟩


theorem mul_parts (x y : Int) (hx : 0 ≤ x) (hx1 : x ≤ 9223372036854775808) (hy : 0 ≤ y) (hy1 : y ≤ 9223372036854775808) :
    ∃ p q r s pr qs ps qr : Int, x / 4294967296 = p ∧ x % 4294967296 = q ∧ y / 4294967296 = r ∧ y % 4294967296 = s ∧
      IntKind.u64.wrap (p * r) = pr ∧ IntKind.u64.wrap (q * s) = qs ∧ IntKind.u64.wrap (p * s) = ps ∧ IntKind.u64.wrap (q * r) = qr ∧
      (0 ≤ qs ∧ qs ≤ 18446744073709551615) ∧ (0 ≤ ps ∧ ps ≤ 18446744073709551615) ∧ (0 ≤ qr ∧ qr ≤ 18446744073709551615) ∧ pr * 18446744073709551616 + qs + ps * 4294967296 + qr * 4294967296 = x * y := by
  have b1 := prod_bound (x / 4294967296) (y / 4294967296) (by omega) (by omega) (by omega) (by omega)
  have b2 := prod_bound (x % 4294967296) (y % 4294967296) (by omega) (by omega) (by omega) (by omega)
  have b3 := prod_bound (x / 4294967296) (y % 4294967296) (by omega) (by omega) (by omega) (by omega)
  have b4 := prod_bound (x % 4294967296) (y / 4294967296) (by omega) (by omega) (by omega) (by omega)
  have k := split_mul (x / 4294967296) (x % 4294967296) (y / 4294967296) (y % 4294967296)
  rw [show x / 4294967296 * 4294967296 + x % 4294967296 = x by omega, show y / 4294967296 * 4294967296 + y % 4294967296 = y by omega] at k
  refine ⟨_, _, _, _, _, _, _, _, rfl, rfl, rfl, rfl, IntWalk.u64_in _ (by omega), IntWalk.u64_in _ (by omega), IntWalk.u64_in _ (by omega), IntWalk.u64_in _ (by omega), ⟨b2.1, by omega⟩, ⟨b3.1, by omega⟩, ⟨b4.1, by omega⟩, ?_⟩
  rw [k, Int.add_mul]
  omega
theorem hi_of_up (n : Int) : hiW (n * 18446744073709551616) = wrap64 n := by unfold hiW wrap64; omega
theorem lo_of_up (n : Int) : loW (n * 18446744073709551616) = 0 := by unfold loW; omega
theorem hi_of_small (n : Int) (h : 0 ≤ n ∧ n ≤ 18446744073709551615) : hiW n = 0 := by unfold hiW; omega
theorem lo_of_small (n : Int) (h : 0 ≤ n ∧ n ≤ 18446744073709551615) : loW n = n := by unfold loW; omega


theorem mul_rc_0 (a b : Int) (w : World) (ha : 0 ≤ a) (hb : 0 ≤ b) (ra : R64 a) (rb : R64 b) :
    Calls Tryz.prog 27 #[.int .i64 a, .int .i64 b] w fun e w' => e = .returned (.agg #[.int .i64 (hiW (a * b)), .int .u64 (loW (a * b))]) ∧ ∃ x : Later w, w' = x.out := by
  obtain ⟨p, q, r, s, pr, qs, ps, qr, ep, eq, er, es, e1, e3, e4, e5, b1, b2, b3, hk⟩ := mul_parts a b (by omega) (by unfold R64 at ra; omega) (by omega) (by unfold R64 at rb; omega)
  have s1 := fun w' => add_r (pr * 18446744073709551616) qs w'
  rw [hi_of_up, lo_of_up, hi_of_small qs b1, lo_of_small qs b1] at s1
  have s3 := fun w' => add_r (pr * 18446744073709551616 + qs + ps * 4294967296) (qr * 4294967296) w'
  rw [hk] at s3
  have this := mul_r_0 a b a b p q r s _ pr qs ps qr _ _ _ _ _ _ _ _ _ _ 0 0 w ha hb (by simp only [IntKind.wrap_u64]; unfold R64 at ra; omega) (by simp only [IntKind.wrap_u64]; unfold R64 at rb; omega) (by omega) (by unfold R64 at ra; omega) (by omega) (by unfold R64 at rb; omega) ep eq er es e1 rfl e3 e4 e5
    s1 (fun w' => raised_r ps w' b2.1 b2.2) (fun w' => add_r _ _ w') (fun w' => raised_r qr w' b3.1 b3.2) s3 
  exact this


theorem mul_rc_1 (a b : Int) (w : World) (ha : 0 ≤ a) (hb : b < 0) (ra : R64 a) (rb : R64 b) :
    Calls Tryz.prog 27 #[.int .i64 a, .int .i64 b] w fun e w' => e = .returned (.agg #[.int .i64 (hiW (a * b)), .int .u64 (loW (a * b))]) ∧ ∃ x : Later w, w' = x.out := by
  obtain ⟨p, q, r, s, pr, qs, ps, qr, ep, eq, er, es, e1, e3, e4, e5, b1, b2, b3, hk⟩ := mul_parts a (-b) (by omega) (by unfold R64 at ra; omega) (by omega) (by unfold R64 at rb; omega)
  have s1 := fun w' => add_r (pr * 18446744073709551616) qs w'
  rw [hi_of_up, lo_of_up, hi_of_small qs b1, lo_of_small qs b1] at s1
  have s3 := fun w' => add_r (pr * 18446744073709551616 + qs + ps * 4294967296) (qr * 4294967296) w'
  rw [hk] at s3
  have this := mul_r_1 a b a (-b) p q r s _ pr qs ps qr _ _ _ _ _ _ _ _ _ _ _ _ w ha hb (by simp only [IntKind.wrap_u64]; unfold R64 at ra; omega) (by simp only [IntKind.wrap_u64]; unfold R64 at rb; omega) (by omega) (by unfold R64 at ra; omega) (by omega) (by unfold R64 at rb; omega) ep eq er es e1 rfl e3 e4 e5
    s1 (fun w' => raised_r ps w' b2.1 b2.2) (fun w' => add_r _ _ w') (fun w' => raised_r qr w' b3.1 b3.2) s3 (fun w' => neg_r _ w')
  rw [show -(a * -b) = a * b by rw [Int.mul_neg, Int.neg_neg]] at this
  exact this


theorem mul_rc_2 (a b : Int) (w : World) (ha : a < 0) (hb : 0 ≤ b) (ra : R64 a) (rb : R64 b) :
    Calls Tryz.prog 27 #[.int .i64 a, .int .i64 b] w fun e w' => e = .returned (.agg #[.int .i64 (hiW (a * b)), .int .u64 (loW (a * b))]) ∧ ∃ x : Later w, w' = x.out := by
  obtain ⟨p, q, r, s, pr, qs, ps, qr, ep, eq, er, es, e1, e3, e4, e5, b1, b2, b3, hk⟩ := mul_parts (-a) b (by omega) (by unfold R64 at ra; omega) (by omega) (by unfold R64 at rb; omega)
  have s1 := fun w' => add_r (pr * 18446744073709551616) qs w'
  rw [hi_of_up, lo_of_up, hi_of_small qs b1, lo_of_small qs b1] at s1
  have s3 := fun w' => add_r (pr * 18446744073709551616 + qs + ps * 4294967296) (qr * 4294967296) w'
  rw [hk] at s3
  have this := mul_r_2 a b (-a) b p q r s _ pr qs ps qr _ _ _ _ _ _ _ _ _ _ _ _ w ha hb (by simp only [IntKind.wrap_u64]; unfold R64 at ra; omega) (by simp only [IntKind.wrap_u64]; unfold R64 at rb; omega) (by omega) (by unfold R64 at ra; omega) (by omega) (by unfold R64 at rb; omega) ep eq er es e1 rfl e3 e4 e5
    s1 (fun w' => raised_r ps w' b2.1 b2.2) (fun w' => add_r _ _ w') (fun w' => raised_r qr w' b3.1 b3.2) s3 (fun w' => neg_r _ w')
  rw [show -(-a * b) = a * b by rw [Int.neg_mul, Int.neg_neg]] at this
  exact this


theorem mul_rc_3 (a b : Int) (w : World) (ha : a < 0) (hb : b < 0) (ra : R64 a) (rb : R64 b) :
    Calls Tryz.prog 27 #[.int .i64 a, .int .i64 b] w fun e w' => e = .returned (.agg #[.int .i64 (hiW (a * b)), .int .u64 (loW (a * b))]) ∧ ∃ x : Later w, w' = x.out := by
  obtain ⟨p, q, r, s, pr, qs, ps, qr, ep, eq, er, es, e1, e3, e4, e5, b1, b2, b3, hk⟩ := mul_parts (-a) (-b) (by omega) (by unfold R64 at ra; omega) (by omega) (by unfold R64 at rb; omega)
  have s1 := fun w' => add_r (pr * 18446744073709551616) qs w'
  rw [hi_of_up, lo_of_up, hi_of_small qs b1, lo_of_small qs b1] at s1
  have s3 := fun w' => add_r (pr * 18446744073709551616 + qs + ps * 4294967296) (qr * 4294967296) w'
  rw [hk] at s3
  have this := mul_r_3 a b (-a) (-b) p q r s _ pr qs ps qr _ _ _ _ _ _ _ _ _ _ 0 0 w ha hb (by simp only [IntKind.wrap_u64]; unfold R64 at ra; omega) (by simp only [IntKind.wrap_u64]; unfold R64 at rb; omega) (by omega) (by unfold R64 at ra; omega) (by omega) (by unfold R64 at rb; omega) ep eq er es e1 rfl e3 e4 e5
    s1 (fun w' => raised_r ps w' b2.1 b2.2) (fun w' => add_r _ _ w') (fun w' => raised_r qr w' b3.1 b3.2) s3 
  rw [show -a * -b = a * b by rw [Int.neg_mul_neg]] at this
  exact this


theorem mul_r (a b : Int) (w : World) (ra : R64 a) (rb : R64 b) :
    Calls Tryz.prog 27 #[.int .i64 a, .int .i64 b] w fun e w' => e = .returned (.agg #[.int .i64 (hiW (a * b)), .int .u64 (loW (a * b))]) ∧ ∃ x : Later w, w' = x.out := by
  rcases Int.lt_or_le a 0 with ha | ha <;> rcases Int.lt_or_le b 0 with hb | hb
  · exact mul_rc_3 a b w ha hb ra rb
  · exact mul_rc_2 a b w ha hb ra rb
  · exact mul_rc_1 a b w ha hb ra rb
  · exact mul_rc_0 a b w ha hb ra rb
end Go.Proofs.YtjmagehfkcnjjaaGreatDoor

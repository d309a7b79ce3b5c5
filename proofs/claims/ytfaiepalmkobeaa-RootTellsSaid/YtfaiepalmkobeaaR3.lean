/-
  The contracts of the layer's calls: Sqrt, Long, Square.
-/
import Derived.Test.YtfaiepalmkobeaaR2
import Derived.Test.YtfaiepalmkobeaaW8
namespace Go.Proofs.Ytfaiepalmkobeaa
set_option linter.unusedVariables false
open Go.RowKit

/-- the root of a number of any sign -/
noncomputable def lng (n : Int) : Int := if n < 0 then 0 else isq n

theorem root_one {N r : Int} (h : IsRoot N r) (hN : 1 ≤ N) : 1 ≤ r := root_mono h (by omega) (by omega)

theorem root_c (hi lo r : Int) (w : World) (hhi0 : 0 ≤ hi) (hhi1 : hi ≤ 18446744073709551615) (hlo0 : 0 ≤ lo) (hlo1 : lo ≤ 18446744073709551615) (HR : IsRoot (hi * 18446744073709551616 + lo) r) :
    Calls Try.prog 45 #[.int .u64 hi, .int .u64 lo] w fun e w' => e = .returned (.int .u64 r) ∧ ∃ x : Later w, w' = x.out := by
  by_cases h : hi = 0
  · by_cases l : lo = 0
    · subst h l
      obtain rfl : r = 0 := root_unique HR ⟨by omega, by simp, by simp⟩
      exact root_zero w
    · exact root_pos hi lo r w hhi0 hhi1 hlo0 hlo1 HR (root_one HR (by omega)) (.inr ⟨by simp [h], by simp [l]⟩)
  · exact root_pos hi lo r w hhi0 hhi1 hlo0 hlo1 HR (root_one HR (by omega)) (.inl (by simp [h]))

set_option maxHeartbeats 400000 in
theorem sqrt_c (n r : Int) (w : World) (h0 : 0 ≤ n) (h1 : n ≤ 18446744073709551615) (HR : IsRoot n r) :
    Calls Try.prog 32 #[.int .u64 n] w fun e w' => e = .returned (.int .u64 r) ∧ ∃ x : Later w, w' = x.out := by
  have c := fun w' => root_c 0 n r w' (by omega) (by omega) h0 h1 (by simpa using HR)
  have Hc := Lib.hid c; clear c
  go_enter Try.func32, Try.ntmps32
  go_wp2_with (first | (go_at_call 45; (with_reducible refine (Hc.out _).mono ?_); rintro e _ ⟨rfl, x, rfl⟩))
  exact bodyPost_ret (v := .int .u64 r) (by simp [results, Try.results32, go_sem, *]) rfl ⟨rfl, (Later.mk_of (by repeat (first | (with_reducible assumption) | (with_reducible exact Below.refl _ _) | (with_reducible refine Later.after ?_ _) | (with_reducible refine Later.newer ?_ _) | (with_reducible refine Below.drew ?_) | (with_reducible refine Below.setCell ?_ (by first | exact Nat.le_refl _ | exact Nat.le_add_right _ _ | omega | (simp [go_sem]; done) | (simp [go_sem]; omega)) _))))⟩

set_option maxHeartbeats 400000 in
theorem square_c (n r : Int) (w : World) (h0 : 0 ≤ n) (h1 : n ≤ 18446744073709551615) (HR : IsRoot n r) :
    Calls Try.prog 36 #[.int .u64 n] w fun e w' => e = .returned (.bool (r * r == n)) ∧ ∃ x : Later w, w' = x.out := by
  have c := fun w' => sqrt_c n r w' h0 h1 HR
  have e : IntKind.u64.wrap (r * r) = r * r := IntWalk.u64_in _ (by have := HR.le; have := Int.mul_nonneg HR.r0 HR.r0; omega)
  have Hc := Lib.hid c; clear c
  go_enter Try.func36, Try.ntmps36
  go_wp2_with (first | (go_at_call 32; (with_reducible refine (Hc.out _).mono ?_); rintro e _ ⟨rfl, x, rfl⟩))
  exact bodyPost_ret (v := .bool (r * r == n)) (by simp [results, Try.results36, go_sem, *]) rfl ⟨rfl, (Later.mk_of (by repeat (first | (with_reducible assumption) | (with_reducible exact Below.refl _ _) | (with_reducible refine Later.after ?_ _) | (with_reducible refine Later.newer ?_ _) | (with_reducible refine Below.drew ?_) | (with_reducible refine Below.setCell ?_ (by first | exact Nat.le_refl _ | exact Nat.le_add_right _ _ | omega | (simp [go_sem]; done) | (simp [go_sem]; omega)) _))))⟩

set_option maxHeartbeats 400000 in
theorem long_c (n r : Int) (w : World) (hn : R128 n) (h0 : 0 ≤ n) (HR : IsRoot n r) :
    Calls Try.prog 34 #[.agg #[.int .i64 (hiW n), .int .u64 (loW n)]] w fun e w' => e = .returned (.int .u64 r) ∧ ∃ x : Later w, w' = x.out := by
  have s := fun w' => sign_c n w' hn
  have hh := halves n hn
  have lb := loW_bd n
  have k : hiW n = n / 18446744073709551616 := by omega
  have hb : 0 ≤ hiW n ∧ hiW n ≤ 9223372036854775807 := by have := hiW_bd n; omega
  have e : IntKind.u64.wrap (hiW n) = hiW n := IntWalk.u64_in _ (by omega)
  have c := fun w' => root_c (hiW n) (loW n) r w' hb.1 (by omega) lb.1 lb.2 (by rw [hh]; exact HR)
  rw [← e] at c
  have o : decide (ordW n 0 < 0) = false := by unfold ordW; by_cases h : n = 0 <;> simp [h]; omega
  clear k hh hb lb e
  have Hs := Lib.hid s; clear s
  have Hc := Lib.hid c; clear c
  go_enter Try.func34, Try.ntmps34
  go_wp2_with (first | (go_at_call 20; (with_reducible refine (Hs.out _).mono ?_); rintro e _ ⟨rfl, x, rfl⟩) | (go_at_call 45; (with_reducible refine (Hc.out _).mono ?_); rintro e _ ⟨rfl, x, rfl⟩))
  exact bodyPost_ret (v := .int .u64 r) (by simp [results, Try.results34, go_sem, *]) rfl ⟨rfl, (Later.mk_of (by repeat (first | (with_reducible assumption) | (with_reducible exact Below.refl _ _) | (with_reducible refine Later.after ?_ _) | (with_reducible refine Later.newer ?_ _) | (with_reducible refine Below.drew ?_) | (with_reducible refine Below.setCell ?_ (by first | exact Nat.le_refl _ | exact Nat.le_add_right _ _ | omega | (simp [go_sem]; done) | (simp [go_sem]; omega)) _))))⟩

set_option maxHeartbeats 400000 in
theorem long_neg (n : Int) (w : World) (hn : R128 n) (h0 : n < 0) :
    Calls Try.prog 34 #[.agg #[.int .i64 (hiW n), .int .u64 (loW n)]] w fun e w' => e = .returned (.int .u64 0) ∧ ∃ x : Later w, w' = x.out := by
  have s := fun w' => sign_c n w' hn
  have o : decide (ordW n 0 < 0) = true := by unfold ordW; rw [if_neg (by omega), if_pos h0]; decide
  have Hs := Lib.hid s; clear s
  go_enter Try.func34, Try.ntmps34
  go_wp2_with (first | (go_at_call 20; (with_reducible refine (Hs.out _).mono ?_); rintro e _ ⟨rfl, x, rfl⟩))
  exact bodyPost_ret (v := .int .u64 0) (by simp [results, Try.results34, go_sem, *]) rfl ⟨rfl, (Later.mk_of (by repeat (first | (with_reducible assumption) | (with_reducible exact Below.refl _ _) | (with_reducible refine Later.after ?_ _) | (with_reducible refine Later.newer ?_ _) | (with_reducible refine Below.drew ?_) | (with_reducible refine Below.setCell ?_ (by first | exact Nat.le_refl _ | exact Nat.le_add_right _ _ | omega | (simp [go_sem]; done) | (simp [go_sem]; omega)) _))))⟩
end Go.Proofs.Ytfaiepalmkobeaa

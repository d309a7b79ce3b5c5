/-
  The contracts of the layer's calls: Sqrt, Long, Square.
-/
import Derived.Test.YtdlemjecocmbgaaR2
import Derived.Test.YtdlemjecocmbgaaW8
namespace Go.Proofs.Ytdlemjecocmbgaa
set_option linter.unusedVariables false
open Go.RowKit

/-- the root of a number of any sign -/
noncomputable def lng (n : Int) : Int := if n < 0 then 0 else isq n

theorem root_one {N r : Int} (h : IsRoot N r) (hN : 1 ≤ N) : 1 ≤ r := root_mono h (by omega) (by omega)

theorem root_c (hi lo r : Int) (w : World) (hhi0 : 0 ≤ hi) (hhi1 : hi ≤ 18446744073709551615) (hlo0 : 0 ≤ lo) (hlo1 : lo ≤ 18446744073709551615) (HR : IsRoot (hi * 18446744073709551616 + lo) r) :
    Calls Try.prog 55 #[.int .u64 hi, .int .u64 lo] w fun e w' => e = .returned (.int .u64 r) ∧ ∃ x : Later w, w' = x.out := by
  by_cases h : hi = 0
  · by_cases l : lo = 0
    · subst h l
      obtain rfl : r = 0 := root_unique HR ⟨by omega, by simp, by simp⟩
      exact root_zero w
    · exact root_pos hi lo r w hhi0 hhi1 hlo0 hlo1 HR (root_one HR (by omega)) (.inr ⟨by simp [h], by simp [l]⟩)
  · exact root_pos hi lo r w hhi0 hhi1 hlo0 hlo1 HR (root_one HR (by omega)) (.inl (by simp [h]))

set_option maxHeartbeats 400000 in
theorem sqrt_c (n r : Int) (w : World) (h0 : 0 ≤ n) (h1 : n ≤ 18446744073709551615) (HR : IsRoot n r) :
    Calls Try.prog 40 #[.int .u64 n] w fun e w' => e = .returned (.int .u64 r) ∧ ∃ x : Later w, w' = x.out := by
  have c := fun w' => root_c 0 n r w' (by omega) (by omega) h0 h1 (by simpa using HR)
  have Hc := Lib.hid c; clear c
  go_enter Try.func40, Try.ntmps40
  go_wp2_with (first | (go_at_call 55; (with_reducible refine (Hc.out _).mono ?_); rintro e _ ⟨rfl, x, rfl⟩))
  exact bodyPost_ret (v := .int .u64 r) (by simp [results, Try.results40, go_sem, *]) rfl ⟨rfl, (Later.mk_of (by repeat (first | (with_reducible assumption) | (with_reducible exact Below.refl _ _) | (with_reducible refine Later.after ?_ _) | (with_reducible refine Later.newer ?_ _) | (with_reducible refine Below.drew ?_) | (with_reducible refine Below.setCell ?_ (by first | exact Nat.le_refl _ | exact Nat.le_add_right _ _ | omega | (simp [go_sem]; done) | (simp [go_sem]; omega)) _))))⟩

end Go.Proofs.Ytdlemjecocmbgaa

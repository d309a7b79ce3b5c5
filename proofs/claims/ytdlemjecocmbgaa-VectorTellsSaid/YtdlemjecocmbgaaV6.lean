/-
  What is far; a vector of another length; a place on any way.
-/
import Derived.Test.YtdlemjecocmbgaaV5
namespace Go.Proofs.Ytdlemjecocmbgaa
set_option linter.unusedVariables false
open Go.RowKit


set_option maxRecDepth 100000 in
set_option maxHeartbeats 400000 in
theorem far_no (n : Int) (w : World)
    (h1 : -1073741824 ≤ n) (h2 : n ≤ 1073741824) :
    Calls Try.prog 21 #[.int .i64 n] w fun e w' => e = .returned (.bool false) ∧ ∃ x : Later w, w' = x.out := by
  skip
  go_enter Try.func21, Try.ntmps21
  go_wp2_with (fail)
  exact bodyPost_ret (v := .bool false) (by simp [results, Try.results21, go_sem, *]) rfl ⟨rfl, (Later.mk_of (by repeat (first | (with_reducible assumption) | (with_reducible exact Below.refl _ _) | (with_reducible refine Later.after ?_ _) | (with_reducible refine Later.newer ?_ _) | (with_reducible refine Below.drew ?_) | (with_reducible refine Below.setCell ?_ (by first | exact Nat.le_refl _ | exact Nat.le_add_right _ _ | omega | (simp [go_sem]; done) | (simp [go_sem]; omega)) _))))⟩


set_option maxRecDepth 100000 in
set_option maxHeartbeats 400000 in
theorem far_lo (n : Int) (w : World)
    (h1 : n < -1073741824) :
    Calls Try.prog 21 #[.int .i64 n] w fun e w' => e = .returned (.bool true) ∧ ∃ x : Later w, w' = x.out := by
  skip
  go_enter Try.func21, Try.ntmps21
  go_wp2_with (fail)
  exact bodyPost_ret (v := .bool true) (by simp [results, Try.results21, go_sem, *]) rfl ⟨rfl, (Later.mk_of (by repeat (first | (with_reducible assumption) | (with_reducible exact Below.refl _ _) | (with_reducible refine Later.after ?_ _) | (with_reducible refine Later.newer ?_ _) | (with_reducible refine Below.drew ?_) | (with_reducible refine Below.setCell ?_ (by first | exact Nat.le_refl _ | exact Nat.le_add_right _ _ | omega | (simp [go_sem]; done) | (simp [go_sem]; omega)) _))))⟩


set_option maxRecDepth 100000 in
set_option maxHeartbeats 400000 in
theorem far_hi (n : Int) (w : World)
    (h1 : -1073741824 ≤ n) (h2 : 1073741824 < n) :
    Calls Try.prog 21 #[.int .i64 n] w fun e w' => e = .returned (.bool true) ∧ ∃ x : Later w, w' = x.out := by
  skip
  go_enter Try.func21, Try.ntmps21
  go_wp2_with (fail)
  exact bodyPost_ret (v := .bool true) (by simp [results, Try.results21, go_sem, *]) rfl ⟨rfl, (Later.mk_of (by repeat (first | (with_reducible assumption) | (with_reducible exact Below.refl _ _) | (with_reducible refine Later.after ?_ _) | (with_reducible refine Later.newer ?_ _) | (with_reducible refine Below.drew ?_) | (with_reducible refine Below.setCell ?_ (by first | exact Nat.le_refl _ | exact Nat.le_add_right _ _ | omega | (simp [go_sem]; done) | (simp [go_sem]; omega)) _))))⟩


theorem far_c (n : Int) (w : World) : Calls Try.prog 21 #[.int .i64 n] w fun e w' => e = .returned (.bool (!btw n)) ∧ ∃ x : Later w, w' = x.out := by
  unfold btw
  by_cases h1 : -1073741824 ≤ n
  · by_cases h2 : n ≤ 1073741824
    · simpa [h1, h2] using far_no n w h1 h2
    · simpa [h1, h2] using far_hi n w h1 (by omega)
  · simpa [h1] using far_lo n w (by omega)
/-- a vector made as long as k -/
noncomputable def nrmd (p r k : Int) : Int := if r = 0 then 0 else nrst (p * k) r


theorem norm_c (p q k r : Int) (w : World) (h1 : -1073741824 ≤ p) (h2 : p ≤ 1073741824) (h3 : -1073741824 ≤ q) (h4 : q ≤ 1073741824) (k0 : -1073741824 ≤ k) (k9 : k ≤ 1073741824) (HR : IsRoot (p * p + q * q) r) :
    Calls Try.prog 29 #[.agg #[.int .i64 p, .int .i64 q], .int .i64 k] w fun e w' => e = .returned (.agg #[.int .i64 (nrmd p r k), .int .i64 (nrmd q r k)]) ∧ ∃ x : Later w, w' = x.out := by
  have s1 := near_sq p h1 h2
  have s2 := near_sq q h3 h4
  have lt := root_near HR (by omega)
  have r0 := HR.r0
  have e1 : wrap64 (wrap64 (p * p) + wrap64 (q * q)) = p * p + q * q := by rw [w64_add, w64_in _ (by unfold R64; omega)]
  have cl := fun v => ptLen_r p q r v h1 h2 h3 h4 HR
  unfold nrmd
  by_cases hz : r = 0
  · subst hz
    rw [if_pos rfl, if_pos rfl]
    exact ptNorm_c0 p q k _ w (by rw [e1, IntWalk.u64_in _ (by omega)]) (fun v => sqrt_c _ 0 v (by omega) (by omega) HR)
  · rw [if_neg hz, if_neg hz]
    have y1 := way_nrst p k r (by omega) (by omega) (by omega) k0 k9
    have y2 := way_nrst q k r (by omega) (by omega) (by omega) k0 k9
    have c1 := fun v => near_c p k r v (by unfold R64; omega) (by unfold R64; omega) (by omega) (by omega) (by unfold R64; omega)
    have c2 := fun v => near_c q k r v (by unfold R64; omega) (by unfold R64; omega) (by omega) (by omega) (by unfold R64; omega)
    exact ptNorm_c1 p q k _ r _ _ w (by rw [e1, IntWalk.u64_in _ (by omega)]) (w64_in _ (by unfold R64; omega)) (by simp [hz]) (fun v => sqrt_c _ r v (by omega) (by omega) HR) (fun v => scaled_c p q k r _ _ v c1 c2)


theorem norm_r (p q k r : Int) (w : World) (h1 : -1073741824 ≤ p) (h2 : p ≤ 1073741824) (h3 : -1073741824 ≤ q) (h4 : q ≤ 1073741824) (k0 : -1073741824 ≤ k) (k9 : k ≤ 1073741824) (HR : IsRoot (p * p + q * q) r) :
    Calls Try.prog 30 #[.agg #[.int .i64 p, .int .i64 q], .int .i64 k] w fun e w' => e = .returned (.agg #[.int .i64 (nrmd p r k), .int .i64 (nrmd q r k)]) ∧ ∃ x : Later w, w' = x.out := by
  have s1 := near_sq p h1 h2
  have s2 := near_sq q h3 h4
  have lt := root_near HR (by omega)
  have r0 := HR.r0
  have e1 : wrap64 (wrap64 (p * p) + wrap64 (q * q)) = p * p + q * q := by rw [w64_add, w64_in _ (by unfold R64; omega)]
  have cl := fun v => ptLen_r p q r v h1 h2 h3 h4 HR
  unfold nrmd
  by_cases hz : r = 0
  · subst hz
    rw [if_pos rfl, if_pos rfl]
    exact ptNorm_r0 p q k w cl
  · rw [if_neg hz, if_neg hz]
    have y1 := way_nrst p k r (by omega) (by omega) (by omega) k0 k9
    have y2 := way_nrst q k r (by omega) (by omega) (by omega) k0 k9
    have c1 := fun v => near_r p k r v (by unfold R64; omega) (by unfold R64; omega) (by omega) (by omega) (by unfold R64; omega)
    have c2 := fun v => near_r q k r v (by unfold R64; omega) (by unfold R64; omega) (by omega) (by omega) (by unfold R64; omega)
    exact ptNorm_r1 p q k r _ _ w (by simp [hz]) cl c1 c2

end Go.Proofs.Ytdlemjecocmbgaa

/-
  Texts that stand as one.
-/
import Derived.Test.YtjmagehfkcnjjaaGreatDoorSQ
import Derived.Test.YtjmagehfkcnjjaaGreatDoorKS
import Derived.Test.YtjmagehfkcnjjaaGreatDoorRSM
/-
  The reference's Takes, far; the document's blank.
-/
namespace Go.Proofs.YtjmagehfkcnjjaaGreatDoor
set_option linter.unusedVariables false
open Go.RowKit

set_option maxRecDepth 100000 in
set_option maxHeartbeats 400000 in
theorem rtk_1   (w : World) : Calls Tryz.prog 37 #[.int .i64 1] w fun e w' => e = .returned (.int .i64 1) ∧ ∃ x : Later w, w' = x.out := by
  skip
  go_enter Tryz.func37, Tryz.ntmps37
  go_wp2_with (fail)
  exact bodyPost_ret (v := .int .i64 1) (by simp [results, Tryz.results37, go_sem, *]) rfl ⟨rfl, (Later.mk_of (by repeat (first | (with_reducible assumption) | (with_reducible exact Below.refl _ _) | (with_reducible refine Later.after ?_ _) | (with_reducible refine Later.newer ?_ _) | (with_reducible refine Below.drew ?_) | (with_reducible refine Below.setCell ?_ (by first | exact Nat.le_refl _ | exact Nat.le_add_right _ _ | omega | (simp [go_sem]; done) | (simp [go_sem]; omega)) _))))⟩

set_option maxRecDepth 100000 in
set_option maxHeartbeats 400000 in
theorem rtk_2   (w : World) : Calls Tryz.prog 37 #[.int .i64 2] w fun e w' => e = .returned (.int .i64 1) ∧ ∃ x : Later w, w' = x.out := by
  skip
  go_enter Tryz.func37, Tryz.ntmps37
  go_wp2_with (fail)
  exact bodyPost_ret (v := .int .i64 1) (by simp [results, Tryz.results37, go_sem, *]) rfl ⟨rfl, (Later.mk_of (by repeat (first | (with_reducible assumption) | (with_reducible exact Below.refl _ _) | (with_reducible refine Later.after ?_ _) | (with_reducible refine Later.newer ?_ _) | (with_reducible refine Below.drew ?_) | (with_reducible refine Below.setCell ?_ (by first | exact Nat.le_refl _ | exact Nat.le_add_right _ _ | omega | (simp [go_sem]; done) | (simp [go_sem]; omega)) _))))⟩

set_option maxRecDepth 100000 in
set_option maxHeartbeats 400000 in
theorem rtk_3   (w : World) : Calls Tryz.prog 37 #[.int .i64 3] w fun e w' => e = .returned (.int .i64 2) ∧ ∃ x : Later w, w' = x.out := by
  skip
  go_enter Tryz.func37, Tryz.ntmps37
  go_wp2_with (fail)
  exact bodyPost_ret (v := .int .i64 2) (by simp [results, Tryz.results37, go_sem, *]) rfl ⟨rfl, (Later.mk_of (by repeat (first | (with_reducible assumption) | (with_reducible exact Below.refl _ _) | (with_reducible refine Later.after ?_ _) | (with_reducible refine Later.newer ?_ _) | (with_reducible refine Below.drew ?_) | (with_reducible refine Below.setCell ?_ (by first | exact Nat.le_refl _ | exact Nat.le_add_right _ _ | omega | (simp [go_sem]; done) | (simp [go_sem]; omega)) _))))⟩

set_option maxRecDepth 100000 in
set_option maxHeartbeats 400000 in
theorem rtk_4   (w : World) : Calls Tryz.prog 37 #[.int .i64 4] w fun e w' => e = .returned (.int .i64 3) ∧ ∃ x : Later w, w' = x.out := by
  skip
  go_enter Tryz.func37, Tryz.ntmps37
  go_wp2_with (fail)
  exact bodyPost_ret (v := .int .i64 3) (by simp [results, Tryz.results37, go_sem, *]) rfl ⟨rfl, (Later.mk_of (by repeat (first | (with_reducible assumption) | (with_reducible exact Below.refl _ _) | (with_reducible refine Later.after ?_ _) | (with_reducible refine Later.newer ?_ _) | (with_reducible refine Below.drew ?_) | (with_reducible refine Below.setCell ?_ (by first | exact Nat.le_refl _ | exact Nat.le_add_right _ _ | omega | (simp [go_sem]; done) | (simp [go_sem]; omega)) _))))⟩

set_option maxRecDepth 100000 in
set_option maxHeartbeats 400000 in
theorem rtk_5   (w : World) : Calls Tryz.prog 37 #[.int .i64 5] w fun e w' => e = .returned (.int .i64 0) ∧ ∃ x : Later w, w' = x.out := by
  skip
  go_enter Tryz.func37, Tryz.ntmps37
  go_wp2_with (fail)
  exact bodyPost_ret (v := .int .i64 0) (by simp [results, Tryz.results37, go_sem, *]) rfl ⟨rfl, (Later.mk_of (by repeat (first | (with_reducible assumption) | (with_reducible exact Below.refl _ _) | (with_reducible refine Later.after ?_ _) | (with_reducible refine Later.newer ?_ _) | (with_reducible refine Below.drew ?_) | (with_reducible refine Below.setCell ?_ (by first | exact Nat.le_refl _ | exact Nat.le_add_right _ _ | omega | (simp [go_sem]; done) | (simp [go_sem]; omega)) _))))⟩

set_option maxRecDepth 100000 in
set_option maxHeartbeats 400000 in
theorem rtk_no (v : Int) (h1 : v ≠ 1) (h2 : v ≠ 2) (h3 : v ≠ 3) (h4 : v ≠ 4) (h5 : v ≠ 5) (w : World) : Calls Tryz.prog 37 #[.int .i64 v] w fun e w' => e = .returned (.int .i64 (-1)) ∧ ∃ x : Later w, w' = x.out := by
  have g1 : (v == 1) = false := by simpa using h1
  have g2 : (v == 2) = false := by simpa using h2
  have g3 : (v == 3) = false := by simpa using h3
  have g4 : (v == 4) = false := by simpa using h4
  have g5 : (v == 5) = false := by simpa using h5
  go_enter Tryz.func37, Tryz.ntmps37
  go_wp2_with (fail)
  exact bodyPost_ret (v := .int .i64 (-1)) (by simp [results, Tryz.results37, go_sem, *]) rfl ⟨rfl, (Later.mk_of (by repeat (first | (with_reducible assumption) | (with_reducible exact Below.refl _ _) | (with_reducible refine Later.after ?_ _) | (with_reducible refine Later.newer ?_ _) | (with_reducible refine Below.drew ?_) | (with_reducible refine Below.setCell ?_ (by first | exact Nat.le_refl _ | exact Nat.le_add_right _ _ | omega | (simp [go_sem]; done) | (simp [go_sem]; omega)) _))))⟩

theorem rtk_c (v : Int) (w : World) : Calls Tryz.prog 37 #[.int .i64 v] w fun e w' => e = .returned (.int .i64 (tkV v)) ∧ ∃ x : Later w, w' = x.out := by
  by_cases h1 : v = 1
  · subst h1; exact rtk_1 w
  by_cases h2 : v = 2
  · subst h2; exact rtk_2 w
  by_cases h3 : v = 3
  · subst h3; exact rtk_3 w
  by_cases h4 : v = 4
  · subst h4; exact rtk_4 w
  by_cases h5 : v = 5
  · subst h5; exact rtk_5 w
  have e : tkV v = -1 := by unfold tkV; rw [if_neg h1, if_neg h2, if_neg h3, if_neg h4, if_neg h5]
  rw [e]
  exact rtk_no v h1 h2 h3 h4 h5 w

set_option maxRecDepth 100000 in
set_option maxHeartbeats 400000 in
theorem rfar_1 (X Y : Int) (h : X < -268435456) (w : World) : Calls Tryz.prog 68 #[.agg #[.int .i64 X, .int .i64 Y]] w fun e w' => e = .returned (.bool true) ∧ ∃ x : Later w, w' = x.out := by
  have d1 : decide (X < -268435456) = true := by simp; omega
  go_enter Tryz.func68, Tryz.ntmps68
  go_wp2_with (fail)
  exact bodyPost_ret (v := .bool true) (by simp [results, Tryz.results68, go_sem, *]) rfl ⟨rfl, (Later.mk_of (by repeat (first | (with_reducible assumption) | (with_reducible exact Below.refl _ _) | (with_reducible refine Later.after ?_ _) | (with_reducible refine Later.newer ?_ _) | (with_reducible refine Below.drew ?_) | (with_reducible refine Below.setCell ?_ (by first | exact Nat.le_refl _ | exact Nat.le_add_right _ _ | omega | (simp [go_sem]; done) | (simp [go_sem]; omega)) _))))⟩

set_option maxRecDepth 100000 in
set_option maxHeartbeats 400000 in
theorem rfar_2 (X Y : Int) (h1 : ¬ X < -268435456) (h : 268435456 < X) (w : World) : Calls Tryz.prog 68 #[.agg #[.int .i64 X, .int .i64 Y]] w fun e w' => e = .returned (.bool true) ∧ ∃ x : Later w, w' = x.out := by
  have d1 : decide (X < -268435456) = false := by simp; omega
  have d2 : decide (268435456 < X) = true := by simp; omega
  go_enter Tryz.func68, Tryz.ntmps68
  go_wp2_with (fail)
  exact bodyPost_ret (v := .bool true) (by simp [results, Tryz.results68, go_sem, *]) rfl ⟨rfl, (Later.mk_of (by repeat (first | (with_reducible assumption) | (with_reducible exact Below.refl _ _) | (with_reducible refine Later.after ?_ _) | (with_reducible refine Later.newer ?_ _) | (with_reducible refine Below.drew ?_) | (with_reducible refine Below.setCell ?_ (by first | exact Nat.le_refl _ | exact Nat.le_add_right _ _ | omega | (simp [go_sem]; done) | (simp [go_sem]; omega)) _))))⟩

set_option maxRecDepth 100000 in
set_option maxHeartbeats 400000 in
theorem rfar_3 (X Y : Int) (h1 : ¬ X < -268435456) (h2 : ¬ 268435456 < X) (h : Y < -268435456) (w : World) : Calls Tryz.prog 68 #[.agg #[.int .i64 X, .int .i64 Y]] w fun e w' => e = .returned (.bool true) ∧ ∃ x : Later w, w' = x.out := by
  have d1 : decide (X < -268435456) = false := by simp; omega
  have d2 : decide (268435456 < X) = false := by simp; omega
  have d3 : decide (Y < -268435456) = true := by simp; omega
  go_enter Tryz.func68, Tryz.ntmps68
  go_wp2_with (fail)
  exact bodyPost_ret (v := .bool true) (by simp [results, Tryz.results68, go_sem, *]) rfl ⟨rfl, (Later.mk_of (by repeat (first | (with_reducible assumption) | (with_reducible exact Below.refl _ _) | (with_reducible refine Later.after ?_ _) | (with_reducible refine Later.newer ?_ _) | (with_reducible refine Below.drew ?_) | (with_reducible refine Below.setCell ?_ (by first | exact Nat.le_refl _ | exact Nat.le_add_right _ _ | omega | (simp [go_sem]; done) | (simp [go_sem]; omega)) _))))⟩

set_option maxRecDepth 100000 in
set_option maxHeartbeats 400000 in
theorem rfar_4 (X Y : Int) (h1 : ¬ X < -268435456) (h2 : ¬ 268435456 < X) (h3 : ¬ Y < -268435456) (h : 268435456 < Y) (w : World) : Calls Tryz.prog 68 #[.agg #[.int .i64 X, .int .i64 Y]] w fun e w' => e = .returned (.bool true) ∧ ∃ x : Later w, w' = x.out := by
  have d1 : decide (X < -268435456) = false := by simp; omega
  have d2 : decide (268435456 < X) = false := by simp; omega
  have d3 : decide (Y < -268435456) = false := by simp; omega
  have d4 : decide (268435456 < Y) = true := by simp; omega
  go_enter Tryz.func68, Tryz.ntmps68
  go_wp2_with (fail)
  exact bodyPost_ret (v := .bool true) (by simp [results, Tryz.results68, go_sem, *]) rfl ⟨rfl, (Later.mk_of (by repeat (first | (with_reducible assumption) | (with_reducible exact Below.refl _ _) | (with_reducible refine Later.after ?_ _) | (with_reducible refine Later.newer ?_ _) | (with_reducible refine Below.drew ?_) | (with_reducible refine Below.setCell ?_ (by first | exact Nat.le_refl _ | exact Nat.le_add_right _ _ | omega | (simp [go_sem]; done) | (simp [go_sem]; omega)) _))))⟩

set_option maxRecDepth 100000 in
set_option maxHeartbeats 400000 in
theorem rfar_5 (X Y : Int) (h1 : ¬ X < -268435456) (h2 : ¬ 268435456 < X) (h3 : ¬ Y < -268435456) (h : ¬ 268435456 < Y) (w : World) : Calls Tryz.prog 68 #[.agg #[.int .i64 X, .int .i64 Y]] w fun e w' => e = .returned (.bool false) ∧ ∃ x : Later w, w' = x.out := by
  have d1 : decide (X < -268435456) = false := by simp; omega
  have d2 : decide (268435456 < X) = false := by simp; omega
  have d3 : decide (Y < -268435456) = false := by simp; omega
  have d4 : decide (268435456 < Y) = false := by simp; omega
  go_enter Tryz.func68, Tryz.ntmps68
  go_wp2_with (fail)
  exact bodyPost_ret (v := .bool false) (by simp [results, Tryz.results68, go_sem, *]) rfl ⟨rfl, (Later.mk_of (by repeat (first | (with_reducible assumption) | (with_reducible exact Below.refl _ _) | (with_reducible refine Later.after ?_ _) | (with_reducible refine Later.newer ?_ _) | (with_reducible refine Below.drew ?_) | (with_reducible refine Below.setCell ?_ (by first | exact Nat.le_refl _ | exact Nat.le_add_right _ _ | omega | (simp [go_sem]; done) | (simp [go_sem]; omega)) _))))⟩

theorem rfar_c (X Y : Int) (w : World) : Calls Tryz.prog 68 #[.agg #[.int .i64 X, .int .i64 Y]] w fun e w' => e = .returned (.bool (farB (X, Y))) ∧ ∃ x : Later w, w' = x.out := by
  have e : farB (X, Y) = !(decide (-268435456 ≤ X ∧ X ≤ 268435456) && decide (-268435456 ≤ Y ∧ Y ≤ 268435456)) := by
    unfold farB nrB
    by_cases a : -268435456 ≤ X <;> by_cases b : X ≤ 268435456 <;> by_cases c : -268435456 ≤ Y <;> by_cases d : Y ≤ 268435456 <;> simp [a, b, c, d]
  by_cases h1 : X < -268435456
  · rw [e, show decide (-268435456 ≤ X ∧ X ≤ 268435456) = false by simp; omega]; exact rfar_1 X Y h1 w
  by_cases h2 : 268435456 < X
  · rw [e, show decide (-268435456 ≤ X ∧ X ≤ 268435456) = false by simp; omega]; exact rfar_2 X Y h1 h2 w
  by_cases h3 : Y < -268435456
  · rw [e, show decide (-268435456 ≤ Y ∧ Y ≤ 268435456) = false by simp; omega, Bool.and_false]; exact rfar_3 X Y h1 h2 h3 w
  by_cases h4 : 268435456 < Y
  · rw [e, show decide (-268435456 ≤ Y ∧ Y ≤ 268435456) = false by simp; omega, Bool.and_false]; exact rfar_4 X Y h1 h2 h3 h4 w
  · rw [e, show decide (-268435456 ≤ X ∧ X ≤ 268435456) = true by simp; omega, show decide (-268435456 ≤ Y ∧ Y ≤ 268435456) = true by simp; omega]; exact rfar_5 X Y h1 h2 h3 h4 w

set_option maxRecDepth 100000 in
set_option maxHeartbeats 400000 in
theorem rbl_9   (w : World) : Calls Tryz.prog 74 #[.int .u8 9] w fun e w' => e = .returned (.bool true) ∧ ∃ x : Later w, w' = x.out := by
  skip
  go_enter Tryz.func74, Tryz.ntmps74
  go_wp2_with (fail)
  exact bodyPost_ret (v := .bool true) (by simp [results, Tryz.results74, go_sem, *]) rfl ⟨rfl, (Later.mk_of (by repeat (first | (with_reducible assumption) | (with_reducible exact Below.refl _ _) | (with_reducible refine Later.after ?_ _) | (with_reducible refine Later.newer ?_ _) | (with_reducible refine Below.drew ?_) | (with_reducible refine Below.setCell ?_ (by first | exact Nat.le_refl _ | exact Nat.le_add_right _ _ | omega | (simp [go_sem]; done) | (simp [go_sem]; omega)) _))))⟩

set_option maxRecDepth 100000 in
set_option maxHeartbeats 400000 in
theorem rbl_10   (w : World) : Calls Tryz.prog 74 #[.int .u8 10] w fun e w' => e = .returned (.bool true) ∧ ∃ x : Later w, w' = x.out := by
  skip
  go_enter Tryz.func74, Tryz.ntmps74
  go_wp2_with (fail)
  exact bodyPost_ret (v := .bool true) (by simp [results, Tryz.results74, go_sem, *]) rfl ⟨rfl, (Later.mk_of (by repeat (first | (with_reducible assumption) | (with_reducible exact Below.refl _ _) | (with_reducible refine Later.after ?_ _) | (with_reducible refine Later.newer ?_ _) | (with_reducible refine Below.drew ?_) | (with_reducible refine Below.setCell ?_ (by first | exact Nat.le_refl _ | exact Nat.le_add_right _ _ | omega | (simp [go_sem]; done) | (simp [go_sem]; omega)) _))))⟩

set_option maxRecDepth 100000 in
set_option maxHeartbeats 400000 in
theorem rbl_13   (w : World) : Calls Tryz.prog 74 #[.int .u8 13] w fun e w' => e = .returned (.bool true) ∧ ∃ x : Later w, w' = x.out := by
  skip
  go_enter Tryz.func74, Tryz.ntmps74
  go_wp2_with (fail)
  exact bodyPost_ret (v := .bool true) (by simp [results, Tryz.results74, go_sem, *]) rfl ⟨rfl, (Later.mk_of (by repeat (first | (with_reducible assumption) | (with_reducible exact Below.refl _ _) | (with_reducible refine Later.after ?_ _) | (with_reducible refine Later.newer ?_ _) | (with_reducible refine Below.drew ?_) | (with_reducible refine Below.setCell ?_ (by first | exact Nat.le_refl _ | exact Nat.le_add_right _ _ | omega | (simp [go_sem]; done) | (simp [go_sem]; omega)) _))))⟩

set_option maxRecDepth 100000 in
set_option maxHeartbeats 400000 in
theorem rbl_32   (w : World) : Calls Tryz.prog 74 #[.int .u8 32] w fun e w' => e = .returned (.bool true) ∧ ∃ x : Later w, w' = x.out := by
  skip
  go_enter Tryz.func74, Tryz.ntmps74
  go_wp2_with (fail)
  exact bodyPost_ret (v := .bool true) (by simp [results, Tryz.results74, go_sem, *]) rfl ⟨rfl, (Later.mk_of (by repeat (first | (with_reducible assumption) | (with_reducible exact Below.refl _ _) | (with_reducible refine Later.after ?_ _) | (with_reducible refine Later.newer ?_ _) | (with_reducible refine Below.drew ?_) | (with_reducible refine Below.setCell ?_ (by first | exact Nat.le_refl _ | exact Nat.le_add_right _ _ | omega | (simp [go_sem]; done) | (simp [go_sem]; omega)) _))))⟩

set_option maxRecDepth 100000 in
set_option maxHeartbeats 400000 in
theorem rbl_44   (w : World) : Calls Tryz.prog 74 #[.int .u8 44] w fun e w' => e = .returned (.bool true) ∧ ∃ x : Later w, w' = x.out := by
  skip
  go_enter Tryz.func74, Tryz.ntmps74
  go_wp2_with (fail)
  exact bodyPost_ret (v := .bool true) (by simp [results, Tryz.results74, go_sem, *]) rfl ⟨rfl, (Later.mk_of (by repeat (first | (with_reducible assumption) | (with_reducible exact Below.refl _ _) | (with_reducible refine Later.after ?_ _) | (with_reducible refine Later.newer ?_ _) | (with_reducible refine Below.drew ?_) | (with_reducible refine Below.setCell ?_ (by first | exact Nat.le_refl _ | exact Nat.le_add_right _ _ | omega | (simp [go_sem]; done) | (simp [go_sem]; omega)) _))))⟩

set_option maxRecDepth 100000 in
set_option maxHeartbeats 400000 in
theorem rbl_no (v : Int) (h9 : v ≠ 9) (h10 : v ≠ 10) (h13 : v ≠ 13) (h32 : v ≠ 32) (h44 : v ≠ 44) (w : World) : Calls Tryz.prog 74 #[.int .u8 v] w fun e w' => e = .returned (.bool false) ∧ ∃ x : Later w, w' = x.out := by
  have g9 : (v == 9) = false := by simpa using h9
  have g10 : (v == 10) = false := by simpa using h10
  have g13 : (v == 13) = false := by simpa using h13
  have g32 : (v == 32) = false := by simpa using h32
  have g44 : (v == 44) = false := by simpa using h44
  go_enter Tryz.func74, Tryz.ntmps74
  go_wp2_with (fail)
  exact bodyPost_ret (v := .bool false) (by simp [results, Tryz.results74, go_sem, *]) rfl ⟨rfl, (Later.mk_of (by repeat (first | (with_reducible assumption) | (with_reducible exact Below.refl _ _) | (with_reducible refine Later.after ?_ _) | (with_reducible refine Later.newer ?_ _) | (with_reducible refine Below.drew ?_) | (with_reducible refine Below.setCell ?_ (by first | exact Nat.le_refl _ | exact Nat.le_add_right _ _ | omega | (simp [go_sem]; done) | (simp [go_sem]; omega)) _))))⟩

theorem rbl_c (c : UInt8) (w : World) : Calls Tryz.prog 74 #[.int .u8 (c.toNat : Int)] w fun e w' => e = .returned (.bool (isB c)) ∧ ∃ x : Later w, w' = x.out := by
  have key : ∀ k : UInt8, c ≠ k → (c.toNat : Int) ≠ (k.toNat : Int) := fun k h e => h (by rw [← UInt8.toNat_inj]; omega)
  by_cases h1 : c = 9
  · subst h1; exact rbl_9 w
  by_cases h2 : c = 10
  · subst h2; exact rbl_10 w
  by_cases h3 : c = 13
  · subst h3; exact rbl_13 w
  by_cases h4 : c = 32
  · subst h4; exact rbl_32 w
  by_cases h5 : c = 44
  · subst h5; exact rbl_44 w
  have e : isB c = false := by unfold isB blks; simp [h1, h2, h3, h4, h5]
  rw [e]
  exact rbl_no _ (key 9 h1) (key 10 h2) (key 13 h3) (key 32 h4) (key 44 h5) w
end Go.Proofs.YtjmagehfkcnjjaaGreatDoor

/-
  The reference's Check.
-/
namespace Go.Proofs.YtjmagehfkcnjjaaGreatDoor
set_option linter.unusedVariables false
open Go.RowKit

/-- the verb before verb k -/
def prevV (vs : List Int) : Nat → Int
  | 0 => 5
  | k + 1 => (vs[k]?).getD 0
set_option maxRecDepth 100000 in
set_option maxHeartbeats 400000 in
theorem rcheck_many (n : Nat) (av : Option Addr) (cv : Nat) (sv : Value) (ap : Option Addr) (m cp : Nat) (hs : sv = .slice ap m cp) (w : World) (h : 512 < n) :
    Calls Tryz.prog 36 #[.agg #[.slice av n cv, sv]] w fun e w' => e = .returned (.int .i64 74) ∧ ∃ x : Later w, w' = x.out := by
  subst hs
  have hd : decide ((512 : Int) < (n : Int)) = true := by simp; omega
  have hd2 : decide (512 < n) = true := by simp; omega
  go_enter Tryz.func36, Tryz.ntmps36
  go_wp2_with (fail)
  exact bodyPost_ret (v := .int .i64 74) (by simp [results, Tryz.results36, go_sem, *]) rfl ⟨rfl, (Later.mk_of (by repeat (first | (with_reducible assumption) | (with_reducible exact Below.refl _ _) | (with_reducible refine Later.after ?_ _) | (with_reducible refine Later.newer ?_ _) | (with_reducible refine Below.drew ?_) | (with_reducible refine Below.setCell ?_ (by first | exact Nat.le_refl _ | exact Nat.le_add_right _ _ | omega | (simp [go_sem]; done) | (simp [go_sem]; omega)) _))))⟩
set_option maxRecDepth 100000 in
set_option maxHeartbeats 4000000 in
theorem rcheck_in (vs : List Int) (pts : List (Int × Int)) (n m : Nat) (av ap : Option Addr) (cv cp : Nat) (w : World) (h : n ≤ 512) (hv : IntsAt w (.slice av n cv) vs) (hp : PtsAt w (.slice ap m cp) pts) :
    Calls Tryz.prog 36 #[.agg #[.slice av n cv, .slice ap m cp]] w fun e w' => e = .returned (.int .i64 (chk vs pts)) ∧ ∃ x : Later w, w' = x.out := by
  obtain ⟨hn, _, hcv⟩ := ints_cell hv
  obtain ⟨hm, m9, hcp⟩ := pts_cell hp
  have hd : decide ((512 : Int) < (n : Int)) = false := by simp; omega
  have hd2 : decide (512 < n) = false := by simp; omega
  have HC : Hid (chk vs pts = match chkL vs m 5 with | .error e => e | .ok left => if left ≠ 0 then 71 else if pts.any farB then 72 else 0) := Lib.hid (by unfold chk; rw [if_neg (by omega), hm]; rfl)
  have HV := Lib.hid hcv
  have HP := Lib.hid hcp
  have HN := Lib.hid hn.symm
  have HM := Lib.hid hm.symm
  clear hv hp hn hm hcv hcp
  go_enter Tryz.func36, Tryz.ntmps36
  go_wp2_with (fail)
  go_loopw [3, 4] (fun s3 s4 wr => ∃ (k : Nat) (N : Int), k ≤ n ∧ s4 = .int .i64 (k : Int) ∧ s3 = .int .i64 N ∧ 0 ≤ N ∧ N ≤ 3 * k ∧ Hid (chkL vs m 5 = chkL (vs.drop k) (m - N) (prevV vs k)) ∧ Blk wr w.heap.size 35 #[.slice av n cv, .slice ap m cp] ∧ Below w.heap.size w wr) (fun _ s4 _ => n - (intOf s4).toNat)
  case atStart => exact ⟨0, 0, Nat.zero_le _, rfl, rfl, by omega, by omega, Lib.hid (by simp [prevV]), Blk.new _ _ _, (by repeat (first | (with_reducible exact Below.refl _ _) | (with_reducible refine Later.newer ?_ _)))⟩
  case round =>
    obtain ⟨k, N, hk, rfl, rfl, N0, N9, hpre, hb, hB⟩ := hrel
    obtain ⟨z1, z2, z3⟩ := hb.all
    have HK := Lib.hid hb
    have HB := Lib.hid hB
    clear hb hB
    by_cases hlt : k < n
    · have hdk : decide ((k : Int) < (n : Int)) = true := by simp [hlt]
      have hdk2 : decide (k < n) = true := by simp [hlt]
      obtain ⟨v, hvk⟩ : ∃ p, vs[k]? = some p := ⟨_, List.getElem?_eq_getElem (by rw [HN.out]; exact hlt)⟩
      have hdr : vs.drop k = v :: vs.drop (k + 1) := by
        obtain ⟨hk', e⟩ := List.getElem?_eq_some_iff.1 hvk
        rw [List.drop_eq_getElem_cons hk', e]
      obtain ⟨Bp, o, rfl, hbp, hcells⟩ := HV.out (by omega)
      have q0 := (HB.out.cell (p := ⟨Bp, o + k, none⟩) hbp).trans (hcells k _ hvk)
      have lp : Bp < wr.heap.size := Nat.lt_of_lt_of_le hbp HB.out.size
      have ht := fun x => rtk_c v x
      have t0 := tkV_lo v
      have t9 := tkV_hi v
      have HN1 : Hid (chkL (vs.drop k) (m - N) (prevV vs k) = if tkV v < 0 then .error 1 else if prevV vs k = 5 ∧ v ≠ 1 then .error 70 else chkL (vs.drop (k + 1)) (m - N - tkV v) v) := Lib.hid (by rw [hdr, chkL])
      have HPV : Hid (prevV vs (k + 1) = v) := Lib.hid (by show (vs[k]?).getD 0 = v; rw [hvk]; rfl)
      clear hdr hvk
      generalize tkV v = t at *
      have HT := Lib.hid ht
      clear ht
      by_cases tn : t < 0
      · have hdt : decide (t < 0) = true := by simp [tn]
        have HR : Hid (chk vs pts = 1) := Lib.hid (by rw [HC.out, hpre.out, HN1.out, if_pos tn])
        have hB := HB.out
        clear HN1 hpre HC hcells
        go_wp2_with (first | (go_at_call 37; (with_reducible refine (HT.out _).mono ?_); rintro e _ ⟨rfl, xt, rfl⟩))
        exact bodyPost_ret (v := .int .i64 1) (by simp [results, Tryz.results36, go_sem, *]) rfl ⟨by rw [HR.out], (Later.mk_of (by repeat (first | (with_reducible assumption) | (with_reducible exact Below.refl _ _) | (with_reducible refine Later.after ?_ _) | (with_reducible refine Later.newer ?_ _) | (with_reducible refine Below.drew ?_) | (with_reducible refine Below.setCell ?_ (by first | exact Nat.le_refl _ | exact Nat.le_add_right _ _ | omega | (simp [go_sem]; done) | (simp [go_sem]; omega)) _))))⟩
      · have hdt : decide (t < 0) = false := by simp; omega
        rw [if_neg tn] at HN1
        have s1 : -10 ≤ N + t := by omega
        have s2 : N + t ≤ 3000 := by omega
        by_cases v1 : v = 1
        · subst v1
          rw [if_neg (by simp)] at HN1
          clear hcells
          go_wp2_with (first | (go_at_call 37; (with_reducible refine (HT.out _).mono ?_); rintro e _ ⟨rfl, xt, rfl⟩))
          go_roundw
          case rel => exact ⟨k + 1, _, by omega, by go_num, rfl, by omega, by omega, Lib.hid (by rw [hpre.out, HN1.out, HPV.out]; congr 1; omega), (by first | exact HK.out | exact HK.out.later _ | exact (HK.out.later _).later _), (by first | exact HB.out | exact Later.after HB.out _)⟩
          case measure => simp [intOf]; omega
        · have hv1 : (v != 1) = true := by simp [v1]
          have hv2 : (v == 1) = false := by simp [v1]
          cases k with
          | zero =>
            have HR : Hid (chk vs pts = 70) := Lib.hid (by rw [HC.out, hpre.out, HN1.out, if_pos ⟨rfl, v1⟩])
            have hB := HB.out
            clear HN1 hpre HC hcells
            simp only [Nat.add_zero] at q0
            go_wp2_with (first | (go_at_call 37; (with_reducible refine (HT.out _).mono ?_); rintro e _ ⟨rfl, xt, rfl⟩))
            exact bodyPost_ret (v := .int .i64 70) (by simp [results, Tryz.results36, go_sem, *]) rfl ⟨by rw [HR.out], (Later.mk_of (by repeat (first | (with_reducible assumption) | (with_reducible exact Below.refl _ _) | (with_reducible refine Later.after ?_ _) | (with_reducible refine Later.newer ?_ _) | (with_reducible refine Below.drew ?_) | (with_reducible refine Below.setCell ?_ (by first | exact Nat.le_refl _ | exact Nat.le_add_right _ _ | omega | (simp [go_sem]; done) | (simp [go_sem]; omega)) _))))⟩
          | succ k1 =>
            obtain ⟨u, huk⟩ : ∃ p, vs[k1]? = some p := ⟨_, List.getElem?_eq_getElem (by rw [HN.out]; omega)⟩
            have hpu : prevV vs (k1 + 1) = u := by show (vs[k1]?).getD 0 = u; rw [huk]; rfl
            rw [hpu] at HN1 hpre
            have q1 := (HB.out.cell (p := ⟨Bp, o + k1, none⟩) hbp).trans (hcells k1 _ huk)
            obtain ⟨K, hK⟩ : ∃ K, k1 + 1 = K := ⟨_, rfl⟩
            rw [hK] at hk hlt hdk hdk2 N9 q0 hpre HN1 HPV ⊢
            have w1 : IntKind.i64.wrap ((K : Int) - 1) = (k1 : Int) := by rw [IntWalk.i64_in _ (by omega)]; omega
            have w2 : wrap64 ((K : Int) - 1) = (k1 : Int) := by unfold wrap64; omega
            have w3 : (k1 : Int) < (n : Int) := by omega
            have w4 : k1 < n := by omega
            have w5 : ((K : Int) == 0) = false := by simp; omega
            have w6 : (K == 0) = false := by simp; omega
            have w7 : (K : Int) ≤ 600 := by omega
            clear hcells huk hpu
            by_cases b5 : u = 5
            · have hb5 : (u == 5) = true := by simp [b5]
              have HR : Hid (chk vs pts = 70) := Lib.hid (by rw [HC.out, hpre.out, HN1.out, if_pos ⟨b5, v1⟩])
              have hB := HB.out
              clear HN1 hpre HC hK
              go_wp2_with (first | (go_at_call 37; (with_reducible refine (HT.out _).mono ?_); rintro e _ ⟨rfl, xt, rfl⟩))
              exact bodyPost_ret (v := .int .i64 70) (by simp [results, Tryz.results36, go_sem, *]) rfl ⟨by rw [HR.out], (Later.mk_of (by repeat (first | (with_reducible assumption) | (with_reducible exact Below.refl _ _) | (with_reducible refine Later.after ?_ _) | (with_reducible refine Later.newer ?_ _) | (with_reducible refine Below.drew ?_) | (with_reducible refine Below.setCell ?_ (by first | exact Nat.le_refl _ | exact Nat.le_add_right _ _ | omega | (simp [go_sem]; done) | (simp [go_sem]; omega)) _))))⟩
            · have hb5 : (u == 5) = false := by simp [b5]
              rw [if_neg (fun e => b5 e.1)] at HN1
              clear hK
              go_wp2_with (first | (go_at_call 37; (with_reducible refine (HT.out _).mono ?_); rintro e _ ⟨rfl, xt, rfl⟩))
              go_roundw
              case rel => exact ⟨K + 1, _, by omega, by go_num, rfl, by omega, by omega, Lib.hid (by rw [hpre.out, HN1.out, HPV.out]; congr 1; omega), (by first | exact HK.out | exact HK.out.later _ | exact (HK.out.later _).later _), (by first | exact HB.out | exact Later.after HB.out _)⟩
              case measure => simp [intOf]; omega
    · obtain rfl : k = n := by omega
      have hdk : decide ((k : Int) < (k : Int)) = false := by simp
      have hdk2 : decide (k < k) = false := by simp
      have e9 : vs.drop k = [] := List.drop_of_length_le (by rw [HN.out]; exact Nat.le_refl _)
      have hE : chkL vs m 5 = .ok (m - N) := by rw [hpre.out, e9]; rfl
      have HR0 : Hid (chk vs pts = if (m : Int) - N ≠ 0 then 71 else if pts.any farB then 72 else 0) := Lib.hid (by rw [HC.out, hE])
      clear e9 hE HC hpre
      have hB := HB.out
      by_cases l0 : N = (m : Int)
      · subst l0
        have hnm : ((m : Int) != (m : Int)) = false := by simp
        go_wp2_with (fail)
        go_loopw [6] (fun s6 wr2 => ∃ j : Nat, j ≤ m ∧ s6 = .int .i64 (j : Int) ∧ Hid ((pts.take j).any farB = false) ∧ ∃ y : Later wr, wr2 = y.out) (fun s6 _ => m - (intOf s6).toNat)
        case atStart => exact ⟨0, Nat.zero_le _, rfl, Lib.hid rfl, Later.mk_of (Below.refl _ _)⟩
        case round =>
          obtain ⟨j, hj, rfl, hnf, y, rfl⟩ := hrel
          clear z1 z2 z3
          obtain ⟨z1, z2, z3⟩ := (HK.out.later y).all
          by_cases hjl : j < m
          · have hdj : decide ((j : Int) < (m : Int)) = true := by simp [hjl]
            have hdj2 : decide (j < m) = true := by simp [hjl]
            obtain ⟨⟨X, Y⟩, hq⟩ : ∃ p, pts[j]? = some p := ⟨_, List.getElem?_eq_getElem (by rw [HM.out]; exact hjl)⟩
            obtain ⟨Bq, oq, rfl, hbq, hcq⟩ := HP.out (by omega)
            obtain ⟨c1, c2⟩ := hcq j _ hq
            have r1 := ((HB.out.trans (y.below.mono HB.out.size)).cell (p := ⟨Bq, oq + j * 2, none⟩) hbq).trans c1
            have r2 := ((HB.out.trans (y.below.mono HB.out.size)).cell (p := ⟨Bq, oq + j * 2 + 1, none⟩) hbq).trans c2
            simp only [] at r1 r2
            have lq : Bq < y.out.heap.size := Nat.lt_of_lt_of_le hbq (Nat.le_trans HB.out.size y.size_le)
            have hfar := fun x => rfar_c X Y x
            have htk : pts.take (j + 1) = pts.take j ++ [(X, Y)] := by rw [List.take_add_one, hq]; rfl
            have HA : Hid ((pts.take (j + 1)).any farB = farB (X, Y)) := Lib.hid (by rw [htk, List.any_append, hnf.out]; simp)
            have HA2 : Hid (farB (X, Y) = true → pts.any farB = true) := Lib.hid fun k => List.any_eq_true.2 ⟨_, List.mem_of_getElem? hq, k⟩
            clear htk hq hcq c1 c2
            generalize farB (X, Y) = fb at *
            have HF := Lib.hid hfar
            clear hfar
            cases fb
            · go_wp2_with (first | (go_at_call 68; (with_reducible refine (HF.out _).mono ?_); rintro e _ ⟨rfl, xf, rfl⟩))
              go_roundw
              case rel => exact ⟨j + 1, by omega, by go_num, HA, (Later.mk_of (by repeat (first | (with_reducible assumption) | (with_reducible exact Below.refl _ _) | (with_reducible refine Later.after ?_ _) | (with_reducible refine Later.newer ?_ _) | (with_reducible refine Below.drew ?_) | (with_reducible refine Below.setCell ?_ (by first | exact Nat.le_refl _ | exact Nat.le_add_right _ _ | omega | (simp [go_sem]; done) | (simp [go_sem]; omega)) _))))⟩
              case measure => simp [intOf]; omega
            · have HR : Hid (chk vs pts = 72) := Lib.hid (by rw [HR0.out, if_neg (by simp), if_pos (HA2.out rfl)])
              go_wp2_with (first | (go_at_call 68; (with_reducible refine (HF.out _).mono ?_); rintro e _ ⟨rfl, xf, rfl⟩))
              exact bodyPost_ret (v := .int .i64 72) (by simp [results, Tryz.results36, go_sem, *]) rfl ⟨by rw [HR.out], (Later.mk_of (by repeat (first | (with_reducible assumption) | (with_reducible exact Below.refl _ _) | (with_reducible refine Later.after ?_ _) | (with_reducible refine Later.newer ?_ _) | (with_reducible refine Below.drew ?_) | (with_reducible refine Below.setCell ?_ (by first | exact Nat.le_refl _ | exact Nat.le_add_right _ _ | omega | (simp [go_sem]; done) | (simp [go_sem]; omega)) _))))⟩
          · obtain rfl : j = m := by omega
            have hdj : decide ((j : Int) < (j : Int)) = false := by simp
            have hdj2 : decide (j < j) = false := by simp
            have hna : pts.any farB = false := by
              have := hnf.out
              rwa [List.take_of_length_le (by rw [HM.out]; exact Nat.le_refl _)] at this
            have HR : Hid (chk vs pts = 0) := Lib.hid (by rw [HR0.out, if_neg (by simp), hna]; rfl)
            clear hna
            go_wp2_with (fail)
            exact bodyPost_ret (v := .int .i64 0) (by simp [results, Tryz.results36, go_sem, *]) rfl ⟨by rw [HR.out], (Later.mk_of (by repeat (first | (with_reducible assumption) | (with_reducible exact Below.refl _ _) | (with_reducible refine Later.after ?_ _) | (with_reducible refine Later.newer ?_ _) | (with_reducible refine Below.drew ?_) | (with_reducible refine Below.setCell ?_ (by first | exact Nat.le_refl _ | exact Nat.le_add_right _ _ | omega | (simp [go_sem]; done) | (simp [go_sem]; omega)) _))))⟩
      · have hnm : (N != (m : Int)) = true := by simp [l0]
        have HR : Hid (chk vs pts = 71) := Lib.hid (by rw [HR0.out, if_pos (by omega)])
        go_wp2_with (fail)
        exact bodyPost_ret (v := .int .i64 71) (by simp [results, Tryz.results36, go_sem, *]) rfl ⟨by rw [HR.out], (Later.mk_of (by repeat (first | (with_reducible assumption) | (with_reducible exact Below.refl _ _) | (with_reducible refine Later.after ?_ _) | (with_reducible refine Later.newer ?_ _) | (with_reducible refine Below.drew ?_) | (with_reducible refine Below.setCell ?_ (by first | exact Nat.le_refl _ | exact Nat.le_add_right _ _ | omega | (simp [go_sem]; done) | (simp [go_sem]; omega)) _))))⟩
theorem rcheck_c (vs : List Int) (pts : List (Int × Int)) (vv sv : Value) (w : World) (hv : IntsAt w vv vs) (hp : PtsAt w sv pts) :
    Calls Tryz.prog 36 #[.agg #[vv, sv]] w fun e w' => e = .returned (.int .i64 (chk vs pts)) ∧ ∃ x : Later w, w' = x.out := by
  obtain ⟨av, cv, rfl⟩ := hv.form
  obtain ⟨ap, cp, rfl⟩ := ptsAt_form hp
  by_cases h : 512 < vs.length
  · have e : chk vs pts = 74 := by unfold chk; rw [if_pos h]
    rw [e]
    exact rcheck_many _ av cv _ ap _ cp rfl w h
  · exact rcheck_in vs pts _ _ av ap cv cp w (by omega) hv hp
end Go.Proofs.YtjmagehfkcnjjaaGreatDoor

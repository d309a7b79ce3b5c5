/-
  What layer 3's laws show first.
-/
import Derived.Test.YtjmagehfkcnjjaaGreatDoorFA
import Derived.Test.YtjmagehfkcnjjaaGreatDoorFH
namespace Go.Proofs.YtjmagehfkcnjjaaGreatDoor
set_option linter.unusedVariables false
open Go.RowKit Go.Sort

theorem round_shown (w : World) : Calls Tryz.prog 10 #[.int .i64 (-3), .int .i64 2] w fun e w' => e = .returned (.tuple #[.int .i64 (-1), .int .i64 0]) ∧ ∃ x : Later w, w' = x.out := by
  have h := round_all (-3) 2 w (by unfold R64; omega) (by unfold R64; omega)
  rw [show dvV (-3) 2 true = -1 by decide, show dvE (-3) 2 true = 0 by decide] at h
  exact h
theorem dec_1 : Lib.decDigits 1 = [49] := by simp [Lib.decDigits]
theorem dec_0 : Lib.decDigits 0 = [48] := by simp [Lib.decDigits]
theorem dec_a : Lib.decDigits 150000000 = [49, 53, 48, 48, 48, 48, 48, 48, 48] := by simp [Lib.decDigits]
theorem dec_b : Lib.decDigits 100390625 = [49, 48, 48, 51, 57, 48, 54, 50, 53] := by simp [Lib.decDigits]
theorem print_a (w : World) (htab : Lib.TabIs Tryz.prog w "internal/strconv.uint64pow10" .u64 Lib.pow10Tab) : Calls Tryz.prog 32 #[.int .i64 (-384)] w fun e w' => e = .returned (.string ⟨#[45, 49, 46, 53]⟩) ∧ ∃ x : Later w, w' = x.out := by
  have h := print_n1 384 1 128 150000000 (by omega) (by omega) (by omega) (by omega) (by omega) (by omega) w htab
  rw [dec_1, dec_a] at h
  exact h
theorem print_b (w : World) (htab : Lib.TabIs Tryz.prog w "internal/strconv.uint64pow10" .u64 Lib.pow10Tab) : Calls Tryz.prog 32 #[.int .i64 1] w fun e w' => e = .returned (.string ⟨#[48, 46, 48, 48, 51, 57, 48, 54, 50, 53]⟩) ∧ ∃ x : Later w, w' = x.out := by
  have h := print_p1 1 0 1 100390625 (by omega) (by omega) (by omega) (by omega) (by omega) w htab
  rw [dec_0, dec_b] at h
  exact h
set_option maxRecDepth 100000 in
set_option maxHeartbeats 1000000 in
theorem shown_3 (w : World) (htab : Lib.TabIs Tryz.prog w "internal/strconv.uint64pow10" .u64 Lib.pow10Tab) : Calls Tryz.prog 16 #[] w fun e w' => e = .returned (.bool true) ∧ ∃ x : Later w, w' = x.out := by
  have ha := fun v hb => print_a v (Lib.tabBelow_of_tabIs htab v hb)
  have hb := fun v hb => print_b v (Lib.tabBelow_of_tabIs htab v hb)
  have HA := Lib.hid ha
  have HB := Lib.hid hb
  clear ha hb htab
  go_enter Tryz.func16, Tryz.ntmps16
  go_wp2_with (first | (go_at_call 31; (with_reducible refine (parse_shown _).mono ?_); rintro e _ ⟨rfl, x1, rfl⟩) | (go_at_call 10; (with_reducible refine (round_shown _).mono ?_); rintro e _ ⟨rfl, x2, rfl⟩) | (go_at_call 32; (with_reducible refine (HA.out _ (x1.below.trans (x2.below.mono x1.size_le))).mono ?_); rintro e _ ⟨rfl, x3, rfl⟩) | (go_at_call 32; (with_reducible refine (HB.out _ ((x1.below.trans (x2.below.mono x1.size_le)).trans (x3.below.mono (Nat.le_trans x1.size_le x2.size_le)))).mono ?_); rintro e _ ⟨rfl, x4, rfl⟩))
  exact bodyPost_ret (v := .bool true) (by simp [results, Tryz.results16, go_sem, *]) rfl ⟨rfl, (Later.mk_of (by repeat (first | (with_reducible assumption) | (with_reducible exact Below.refl _ _) | (with_reducible refine Later.after ?_ _) | (with_reducible refine Later.newer ?_ _) | (with_reducible refine Below.drew ?_) | (with_reducible refine Below.setCell ?_ (by first | exact Nat.le_refl _ | exact Nat.le_add_right _ _ | omega | (simp [go_sem]; done) | (simp [go_sem]; omega)) _))))⟩
end Go.Proofs.YtjmagehfkcnjjaaGreatDoor

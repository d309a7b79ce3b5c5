/-
  Any number divided, rounded down or to the nearest, also of a product: walked.
-/
import Derived.Test.YtjmagehfkcnjjaaGreatDoorFI
namespace Go.Proofs.YtjmagehfkcnjjaaGreatDoor
set_option linter.unusedVariables false
open Go.RowKit Go.Sort

set_option maxRecDepth 100000 in
set_option maxHeartbeats 1000000 in
theorem divides_any (a b c xv xve p pe s se u ue : Int) (w : World) (htab : Lib.TabIs Tryz.prog w "internal/strconv.uint64pow10" .u64 Lib.pow10Tab) (c0 : ∀ w', Calls Tryz.prog 8 #[.int .i64 a, .int .i64 c] w' fun e w'' => e = .returned (.tuple #[.int .i64 xv, .int .i64 xve]) ∧ ∃ x : Later w', w'' = x.out) (c1 : ∀ w', Calls Tryz.prog 9 #[.int .i64 a, .int .i64 c] w' fun e w'' => e = .returned (.tuple #[.int .i64 xv, .int .i64 xve]) ∧ ∃ x : Later w', w'' = x.out) (c2 : ∀ w', Calls Tryz.prog 10 #[.int .i64 a, .int .i64 c] w' fun e w'' => e = .returned (.tuple #[.int .i64 p, .int .i64 pe]) ∧ ∃ x : Later w', w'' = x.out) (c3 : ∀ w', Calls Tryz.prog 11 #[.int .i64 a, .int .i64 c] w' fun e w'' => e = .returned (.tuple #[.int .i64 p, .int .i64 pe]) ∧ ∃ x : Later w', w'' = x.out) (c4 : ∀ w', Calls Tryz.prog 12 #[.int .i64 a, .int .i64 b, .int .i64 c] w' fun e w'' => e = .returned (.tuple #[.int .i64 s, .int .i64 se]) ∧ ∃ x : Later w', w'' = x.out) (c5 : ∀ w', Calls Tryz.prog 13 #[.int .i64 a, .int .i64 b, .int .i64 c] w' fun e w'' => e = .returned (.tuple #[.int .i64 s, .int .i64 se]) ∧ ∃ x : Later w', w'' = x.out) (c6 : ∀ w', Calls Tryz.prog 14 #[.int .i64 a, .int .i64 b, .int .i64 c] w' fun e w'' => e = .returned (.tuple #[.int .i64 u, .int .i64 ue]) ∧ ∃ x : Later w', w'' = x.out) (c7 : ∀ w', Calls Tryz.prog 15 #[.int .i64 a, .int .i64 b, .int .i64 c] w' fun e w'' => e = .returned (.tuple #[.int .i64 u, .int .i64 ue]) ∧ ∃ x : Later w', w'' = x.out) :
    Calls Tryz.prog 3 #[.int .i64 a, .int .i64 b, .int .i64 c] w fun e w' => e = .returned (.bool true) ∧ ∃ x : Later w, w' = x.out := by
  have hs := fun v hb => shown_3 v (Lib.tabBelow_of_tabIs htab v hb)
  have HS := Lib.hid hs
  have Hc0 := Lib.hid c0; clear c0
  have Hc1 := Lib.hid c1; clear c1
  have Hc2 := Lib.hid c2; clear c2
  have Hc3 := Lib.hid c3; clear c3
  have Hc4 := Lib.hid c4; clear c4
  have Hc5 := Lib.hid c5; clear c5
  have Hc6 := Lib.hid c6; clear c6
  have Hc7 := Lib.hid c7; clear c7
  clear hs htab
  go_enter Tryz.func3, Tryz.ntmps3
  go_wp2_with (first | (go_at_call 16; (with_reducible refine (HS.out _ (by repeat (first | (with_reducible assumption) | (with_reducible exact Below.refl _ _) | (with_reducible refine Later.after ?_ _) | (with_reducible refine Later.newer ?_ _) | (with_reducible refine Below.drew ?_) | (with_reducible refine Below.setCell ?_ (by first | exact Nat.le_refl _ | exact Nat.le_add_right _ _ | omega | (simp [go_sem]; done) | (simp [go_sem]; omega)) _)))).mono ?_); rintro e _ ⟨rfl, x, rfl⟩) | (go_at_call 8; (with_reducible refine (Hc0.out _).mono ?_); rintro e _ ⟨rfl, x, rfl⟩) | (go_at_call 9; (with_reducible refine (Hc1.out _).mono ?_); rintro e _ ⟨rfl, x, rfl⟩) | (go_at_call 10; (with_reducible refine (Hc2.out _).mono ?_); rintro e _ ⟨rfl, x, rfl⟩) | (go_at_call 11; (with_reducible refine (Hc3.out _).mono ?_); rintro e _ ⟨rfl, x, rfl⟩) | (go_at_call 12; (with_reducible refine (Hc4.out _).mono ?_); rintro e _ ⟨rfl, x, rfl⟩) | (go_at_call 13; (with_reducible refine (Hc5.out _).mono ?_); rintro e _ ⟨rfl, x, rfl⟩) | (go_at_call 14; (with_reducible refine (Hc6.out _).mono ?_); rintro e _ ⟨rfl, x, rfl⟩) | (go_at_call 15; (with_reducible refine (Hc7.out _).mono ?_); rintro e _ ⟨rfl, x, rfl⟩))
  exact bodyPost_ret (v := .bool true) (by simp [results, Tryz.results3, go_sem, *]) rfl ⟨rfl, (Later.mk_of (by repeat (first | (with_reducible assumption) | (with_reducible exact Below.refl _ _) | (with_reducible refine Later.after ?_ _) | (with_reducible refine Later.newer ?_ _) | (with_reducible refine Below.drew ?_) | (with_reducible refine Below.setCell ?_ (by first | exact Nat.le_refl _ | exact Nat.le_add_right _ _ | omega | (simp [go_sem]; done) | (simp [go_sem]; omega)) _))))⟩
theorem divides_walk (a b c : Int) (ra : R64 a) (rb : R64 b) (rc : R64 c) (w : World) (htab : Lib.TabIs Tryz.prog w "internal/strconv.uint64pow10" .u64 Lib.pow10Tab) : Calls Tryz.prog 3 #[.int .i64 a, .int .i64 b, .int .i64 c] w fun e w' => e = .returned (.bool true) ∧ ∃ x : Later w, w' = x.out :=
  divides_any a b c _ _ _ _ _ _ _ _ w htab (fun v => floor_all a c v ra rc) (fun v => rfloor_all a c v ra rc) (fun v => round_all a c v ra rc) (fun v => rround_all a c v ra rc)
    (fun v => scale_all a b c v ra rb rc) (fun v => rscale_all a b c v ra rb rc) (fun v => nearA_all a b c v ra rb rc) (fun v => rnear_all a b c v ra rb rc)
end Go.Proofs.YtjmagehfkcnjjaaGreatDoor

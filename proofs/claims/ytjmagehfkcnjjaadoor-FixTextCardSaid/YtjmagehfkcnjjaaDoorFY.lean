/-
  The text of any number, and the number of any text: walked.
-/
import Derived.Test.YtjmagehfkcnjjaaDoorFV
namespace Go.Proofs.YtjmagehfkcnjjaaDoor
set_option linter.unusedVariables false
open Go.RowKit Go.Sort

set_option maxRecDepth 100000 in
set_option maxHeartbeats 1000000 in
theorem text_far (n : Int) (S : ByteArray) (h : 100 < S.size) (w : World) (htab : Lib.TabIs Tryd.prog w "internal/strconv.uint64pow10" .u64 Lib.pow10Tab) : Calls Tryd.prog 3 #[.int .i64 n, .string S] w fun e w' => e = .returned (.bool true) ∧ ∃ x : Later w, w' = x.out := by
  have hs := fun v hb => shown_3 v (Lib.tabBelow_of_tabIs htab v hb)
  have HS := Lib.hid hs
  clear hs htab
  have d1 : decide ((100 : Int) < (S.size : Int)) = true := by simp; omega
  go_enter Tryd.func3, Tryd.ntmps3
  go_wp2_with (go_at_call 9; (with_reducible refine (HS.out _ (by repeat (first | (with_reducible assumption) | (with_reducible exact Below.refl _ _) | (with_reducible refine Later.after ?_ _) | (with_reducible refine Later.newer ?_ _) | (with_reducible refine Below.drew ?_) | (with_reducible refine Below.setCell ?_ (by first | exact Nat.le_refl _ | exact Nat.le_add_right _ _ | omega | (simp [go_sem]; done) | (simp [go_sem]; omega)) _)))).mono ?_); rintro e _ ⟨rfl, y0, rfl⟩)
  exact bodyPost_ret (v := .bool true) (by simp [results, Tryd.results3, go_sem, *]) rfl ⟨rfl, (Later.mk_of (by repeat (first | (with_reducible assumption) | (with_reducible exact Below.refl _ _) | (with_reducible refine Later.after ?_ _) | (with_reducible refine Later.newer ?_ _) | (with_reducible refine Below.drew ?_) | (with_reducible refine Below.setCell ?_ (by first | exact Nat.le_refl _ | exact Nat.le_add_right _ _ | omega | (simp [go_sem]; done) | (simp [go_sem]; omega)) _))))⟩
set_option maxRecDepth 100000 in
set_option maxHeartbeats 1000000 in
theorem text_any (n V E : Int) (S P : ByteArray) (h : ¬ 100 < S.size) (w : World) (htab : Lib.TabIs Tryd.prog w "internal/strconv.uint64pow10" .u64 Lib.pow10Tab)
    (c1 : ∀ w', Below w.heap.size w w' → Calls Tryd.prog 12 #[.int .i64 n] w' fun e w'' => e = .returned (.string P) ∧ ∃ x : Later w', w'' = x.out)
    (c2 : ∀ w', Calls Tryd.prog 10 #[.string S] w' fun e w'' => e = .returned (.tuple #[.int .i64 V, .int .i64 E]) ∧ ∃ x : Later w', w'' = x.out)
    (c3 : ∀ w', Calls Tryd.prog 11 #[.string S] w' fun e w'' => e = .returned (.tuple #[.int .i64 V, .int .i64 E]) ∧ ∃ x : Later w', w'' = x.out)
    (c4 : ∀ w', Calls Tryd.prog 13 #[.int .i64 n] w' fun e w'' => e = .returned (.string P) ∧ ∃ x : Later w', w'' = x.out) : Calls Tryd.prog 3 #[.int .i64 n, .string S] w fun e w' => e = .returned (.bool true) ∧ ∃ x : Later w, w' = x.out := by
  have hs := fun v hb => shown_3 v (Lib.tabBelow_of_tabIs htab v hb)
  have HS := Lib.hid hs
  have Hc1 := Lib.hid c1; clear c1
  have Hc2 := Lib.hid c2; clear c2
  have Hc3 := Lib.hid c3; clear c3
  have Hc4 := Lib.hid c4; clear c4
  clear hs htab
  have d1 : decide ((100 : Int) < (S.size : Int)) = false := by simp; omega
  go_enter Tryd.func3, Tryd.ntmps3
  go_wp2_with (first | (go_at_call 9; (with_reducible refine (HS.out _ (by repeat (first | (with_reducible assumption) | (with_reducible exact Below.refl _ _) | (with_reducible refine Later.after ?_ _) | (with_reducible refine Later.newer ?_ _) | (with_reducible refine Below.drew ?_) | (with_reducible refine Below.setCell ?_ (by first | exact Nat.le_refl _ | exact Nat.le_add_right _ _ | omega | (simp [go_sem]; done) | (simp [go_sem]; omega)) _)))).mono ?_); rintro e _ ⟨rfl, y0, rfl⟩) | (go_at_call 12; (with_reducible refine (Hc1.out _ (by repeat (first | (with_reducible assumption) | (with_reducible exact Below.refl _ _) | (with_reducible refine Later.after ?_ _) | (with_reducible refine Later.newer ?_ _) | (with_reducible refine Below.drew ?_) | (with_reducible refine Below.setCell ?_ (by first | exact Nat.le_refl _ | exact Nat.le_add_right _ _ | omega | (simp [go_sem]; done) | (simp [go_sem]; omega)) _)))).mono ?_); rintro e _ ⟨rfl, y1, rfl⟩) | (go_at_call 10; (with_reducible refine (Hc2.out _).mono ?_); rintro e _ ⟨rfl, x, rfl⟩) | (go_at_call 11; (with_reducible refine (Hc3.out _).mono ?_); rintro e _ ⟨rfl, x, rfl⟩) | (go_at_call 13; (with_reducible refine (Hc4.out _).mono ?_); rintro e _ ⟨rfl, x, rfl⟩))
  exact bodyPost_ret (v := .bool true) (by simp [results, Tryd.results3, go_sem, *]) rfl ⟨rfl, (Later.mk_of (by repeat (first | (with_reducible assumption) | (with_reducible exact Below.refl _ _) | (with_reducible refine Later.after ?_ _) | (with_reducible refine Later.newer ?_ _) | (with_reducible refine Below.drew ?_) | (with_reducible refine Below.setCell ?_ (by first | exact Nat.le_refl _ | exact Nat.le_add_right _ _ | omega | (simp [go_sem]; done) | (simp [go_sem]; omega)) _))))⟩
theorem text_walk (n : Int) (n0 : -9223372036854775808 ≤ n) (n9 : n ≤ 9223372036854775807) (S : ByteArray) (w : World) (htab : Lib.TabIs Tryd.prog w "internal/strconv.uint64pow10" .u64 Lib.pow10Tab) : Calls Tryd.prog 3 #[.int .i64 n, .string S] w fun e w' => e = .returned (.bool true) ∧ ∃ x : Later w, w' = x.out := by
  by_cases h : 100 < S.size
  · exact text_far n S h w htab
  · obtain ⟨l, hl⟩ : ∃ l : List UInt8, S = ⟨l.toArray⟩ := ⟨S.data.toList, by simp⟩
    subst hl
    exact text_any n _ _ _ _ h w htab (fun v hb => print_l n n0 n9 v (Lib.tabBelow_of_tabIs htab v hb)) (fun v => parse_l l v) (fun v => rparse_l l v) (fun v => rprint_l n n0 n9 v)
end Go.Proofs.YtjmagehfkcnjjaaDoor

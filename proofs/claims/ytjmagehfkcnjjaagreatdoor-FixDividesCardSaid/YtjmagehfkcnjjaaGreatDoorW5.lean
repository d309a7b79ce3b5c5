/-
  The contracts of the reference's functions on wide numbers.
-/
import Derived.Test.YtjmagehfkcnjjaaGreatDoorW4
namespace Go.Proofs.YtjmagehfkcnjjaaGreatDoor
set_option linter.unusedVariables false
open Go.RowKit

set_option maxHeartbeats 400000 in
theorem of_r (n : Int) (w : World) (h : R64 n) :
    Calls Tryz.prog 30 #[.int .i64 n] w fun e w' => e = .returned (.agg #[.int .i64 (hiW n), .int .u64 (loW n)]) ∧ ∃ x : Later w, w' = x.out := by
  have e2 : IntKind.u64.wrap n = loW n := by rw [IntKind.wrap_u64]; rfl
  by_cases hn : n < 0
  · have e1 : hiW n = -1 := by unfold R64 at h; unfold hiW; omega
    rw [e1, ← e2]
    clear e1 e2
    go_enter Tryz.func30, Tryz.ntmps30
    go_wp2
    exact bodyPost_ret (v := .agg #[.int .i64 (-1), .int .u64 (IntKind.u64.wrap n)]) (by simp [results, Tryz.results30, go_sem, *]) rfl ⟨rfl, (Later.mk_of (by repeat (first | (with_reducible assumption) | (with_reducible exact Below.refl _ _) | (with_reducible refine Later.after ?_ _) | (with_reducible refine Later.newer ?_ _) | (with_reducible refine Below.drew ?_) | (with_reducible refine Below.setCell ?_ (by first | exact Nat.le_refl _ | exact Nat.le_add_right _ _ | omega | (simp [go_sem]; done) | (simp [go_sem]; omega)) _))))⟩
  · have e1 : hiW n = 0 := by unfold R64 at h; unfold hiW; omega
    rw [e1, ← e2]
    clear e1 e2
    go_enter Tryz.func30, Tryz.ntmps30
    go_wp2
    exact bodyPost_ret (v := .agg #[.int .i64 0, .int .u64 (IntKind.u64.wrap n)]) (by simp [results, Tryz.results30, go_sem, *]) rfl ⟨rfl, (Later.mk_of (by repeat (first | (with_reducible assumption) | (with_reducible exact Below.refl _ _) | (with_reducible refine Later.after ?_ _) | (with_reducible refine Later.newer ?_ _) | (with_reducible refine Below.drew ?_) | (with_reducible refine Below.setCell ?_ (by first | exact Nat.le_refl _ | exact Nat.le_add_right _ _ | omega | (simp [go_sem]; done) | (simp [go_sem]; omega)) _))))⟩

set_option maxHeartbeats 400000 in
theorem add_r (n m : Int) (w : World) :
    Calls Tryz.prog 29 #[.agg #[.int .i64 (hiW n), .int .u64 (loW n)], .agg #[.int .i64 (hiW m), .int .u64 (loW m)]] w fun e w' => e = .returned (.agg #[.int .i64 (hiW (n + m)), .int .u64 (loW (n + m))]) ∧ ∃ x : Later w, w' = x.out := by
  have e1 : IntKind.u64.wrap (loW n + loW m) = loW (n + m) := by rw [IntKind.wrap_u64]; unfold loW; omega
  have bn := loW_bd n
  have bm := loW_bd m
  by_cases h : loW (n + m) < loW n
  · have E : Hid (wrap64 (IntKind.u64.wrap (IntKind.u64.wrap (IntKind.u64.wrap (hiW n) + IntKind.u64.wrap (hiW m)) + 1)) = hiW (n + m)) := by
      refine Lib.hid ?_
      clear e1
      simp only [IntKind.wrap_u64]
      unfold wrap64 hiW
      unfold loW at *
      omega
    clear bn bm
    go_enter Tryz.func29, Tryz.ntmps29
    go_wp2
    rw [E.out]
    exact bodyPost_ret (v := .agg #[.int .i64 (hiW (n + m)), .int .u64 (loW (n + m))]) (by simp [results, Tryz.results29, go_sem, *]) rfl ⟨rfl, (Later.mk_of (by repeat (first | (with_reducible assumption) | (with_reducible exact Below.refl _ _) | (with_reducible refine Later.after ?_ _) | (with_reducible refine Later.newer ?_ _) | (with_reducible refine Below.drew ?_) | (with_reducible refine Below.setCell ?_ (by first | exact Nat.le_refl _ | exact Nat.le_add_right _ _ | omega | (simp [go_sem]; done) | (simp [go_sem]; omega)) _))))⟩
  · have E : Hid (wrap64 (IntKind.u64.wrap (IntKind.u64.wrap (hiW n) + IntKind.u64.wrap (hiW m))) = hiW (n + m)) := by
      refine Lib.hid ?_
      clear e1
      simp only [IntKind.wrap_u64]
      unfold wrap64 hiW
      unfold loW at *
      omega
    clear bn bm
    go_enter Tryz.func29, Tryz.ntmps29
    go_wp2
    rw [E.out]
    exact bodyPost_ret (v := .agg #[.int .i64 (hiW (n + m)), .int .u64 (loW (n + m))]) (by simp [results, Tryz.results29, go_sem, *]) rfl ⟨rfl, (Later.mk_of (by repeat (first | (with_reducible assumption) | (with_reducible exact Below.refl _ _) | (with_reducible refine Later.after ?_ _) | (with_reducible refine Later.newer ?_ _) | (with_reducible refine Below.drew ?_) | (with_reducible refine Below.setCell ?_ (by first | exact Nat.le_refl _ | exact Nat.le_add_right _ _ | omega | (simp [go_sem]; done) | (simp [go_sem]; omega)) _))))⟩

set_option maxHeartbeats 400000 in
theorem neg_r (n : Int) (w : World) :
    Calls Tryz.prog 49 #[.agg #[.int .i64 (hiW n), .int .u64 (loW n)]] w fun e w' => e = .returned (.agg #[.int .i64 (hiW (-n)), .int .u64 (loW (-n))]) ∧ ∃ x : Later w, w' = x.out := by
  have e1 : wrap64 (-1 - hiW n) = hiW (-1 - n) := by unfold wrap64 hiW; omega
  have e2 : IntKind.u64.wrap (18446744073709551615 - loW n) = loW (-1 - n) := by rw [IntKind.wrap_u64]; unfold loW; omega
  have o1 := fun w' => of_r 1 w' (by unfold R64; omega)
  have s1 := fun w' => add_r (-1 - n) 1 w'
  rw [show (-1 - n + 1) = -n by omega] at s1
  have Ho1 := Lib.hid o1; clear o1
  have Hs1 := Lib.hid s1; clear s1
  go_enter Tryz.func49, Tryz.ntmps49
  go_wp2_with (fail)
  refine wp_region_later_tail 9 (by kernel_rfl) (by kernel_rfl) ?_
  simp only [List.take_succ_cons, List.take_zero, List.drop_succ_cons, List.drop_zero]
  repeat (go_big_quiet_step ((first | (go_at_call 30; exact Later.call _ (Ho1.out _)) | (go_at_call 29; exact Later.call _ (Hs1.out _)))))
  refine wpQuiet_nil ?_
  intro x
  go_wp2
  exact bodyPost_ret (v := .agg #[.int .i64 (hiW (-n)), .int .u64 (loW (-n))]) (by simp [results, Tryz.results49, go_sem, *]) rfl ⟨rfl, (Later.mk_of (by repeat (first | (with_reducible assumption) | (with_reducible exact Below.refl _ _) | (with_reducible refine Later.after ?_ _) | (with_reducible refine Later.newer ?_ _) | (with_reducible refine Below.drew ?_) | (with_reducible refine Below.setCell ?_ (by first | exact Nat.le_refl _ | exact Nat.le_add_right _ _ | omega | (simp [go_sem]; done) | (simp [go_sem]; omega)) _))))⟩

set_option maxHeartbeats 400000 in
theorem sub_r (n m : Int) (w : World) :
    Calls Tryz.prog 50 #[.agg #[.int .i64 (hiW n), .int .u64 (loW n)], .agg #[.int .i64 (hiW m), .int .u64 (loW m)]] w fun e w' => e = .returned (.agg #[.int .i64 (hiW (n - m)), .int .u64 (loW (n - m))]) ∧ ∃ x : Later w, w' = x.out := by
  have o1 := fun w' => neg_r m w'
  have s1 := fun w' => add_r n (-m) w'
  rw [show (n + -m) = n - m by omega] at s1
  have Ho1 := Lib.hid o1; clear o1
  have Hs1 := Lib.hid s1; clear s1
  go_enter Tryz.func50, Tryz.ntmps50
  go_wp2_with (fail)
  refine wp_region_later_tail 4 (by kernel_rfl) (by kernel_rfl) ?_
  simp only [List.take_succ_cons, List.take_zero, List.drop_succ_cons, List.drop_zero]
  repeat (go_big_quiet_step ((first | (go_at_call 49; exact Later.call _ (Ho1.out _)) | (go_at_call 29; exact Later.call _ (Hs1.out _)))))
  refine wpQuiet_nil ?_
  intro x
  go_wp2
  exact bodyPost_ret (v := .agg #[.int .i64 (hiW (n - m)), .int .u64 (loW (n - m))]) (by simp [results, Tryz.results50, go_sem, *]) rfl ⟨rfl, (Later.mk_of (by repeat (first | (with_reducible assumption) | (with_reducible exact Below.refl _ _) | (with_reducible refine Later.after ?_ _) | (with_reducible refine Later.newer ?_ _) | (with_reducible refine Below.drew ?_) | (with_reducible refine Below.setCell ?_ (by first | exact Nat.le_refl _ | exact Nat.le_add_right _ _ | omega | (simp [go_sem]; done) | (simp [go_sem]; omega)) _))))⟩

set_option maxHeartbeats 400000 in
theorem raised_r (n : Int) (w : World) (h0 : 0 ≤ n) (h1 : n ≤ 18446744073709551615) :
    Calls Tryz.prog 51 #[.int .u64 n] w fun e w' => e = .returned (.agg #[.int .i64 (hiW (n * 4294967296)), .int .u64 (loW (n * 4294967296))]) ∧ ∃ x : Later w, w' = x.out := by
  have e1 : n / 4294967296 = hiW (n * 4294967296) := by unfold hiW; omega
  have e2 : n % 4294967296 * 4294967296 = loW (n * 4294967296) := by unfold loW; omega
  have E1 := Lib.hid e1
  have E2 := Lib.hid e2
  clear e1 e2
  go_enter Tryz.func51, Tryz.ntmps51
  go_wp2
  rw [E1.out, E2.out]
  exact bodyPost_ret (v := .agg #[.int .i64 (hiW (n * 4294967296)), .int .u64 (loW (n * 4294967296))]) (by simp [results, Tryz.results51, go_sem, *]) rfl ⟨rfl, (Later.mk_of (by repeat (first | (with_reducible assumption) | (with_reducible exact Below.refl _ _) | (with_reducible refine Later.after ?_ _) | (with_reducible refine Later.newer ?_ _) | (with_reducible refine Below.drew ?_) | (with_reducible refine Below.setCell ?_ (by first | exact Nat.le_refl _ | exact Nat.le_add_right _ _ | omega | (simp [go_sem]; done) | (simp [go_sem]; omega)) _))))⟩

end Go.Proofs.YtjmagehfkcnjjaaGreatDoor

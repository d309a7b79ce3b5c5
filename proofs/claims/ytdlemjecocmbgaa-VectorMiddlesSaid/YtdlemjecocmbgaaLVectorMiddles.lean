/-
  The statement of VectorMiddles, for every input: its walk, and the row round it.
-/
import Derived.Test.YtdlemjecocmbgaaV5
import Derived.Test.YtdlemjecocmbgaaRow
import Derived.ProofKit
import Derived.OpenShut
namespace Go.Proofs.Ytdlemjecocmbgaa.vectorMiddles
open Go.ChangeShapes Go.WideShapes Go.ChangeAt Go.RowKit Go.Joins
set_option linter.unusedVariables false

theorem cells23 : Try.prog.cellsOf 23 = 2 := by kernel_rfl

set_option maxRecDepth 100000 in
set_option maxHeartbeats 600000 in
theorem walk_far1 (p q z u k n : Int) (w : World) 
    (c1 : ∀ w', Calls Try.prog 10 #[.agg #[.int .i64 p, .int .i64 q]] w' fun e w'' => e = .returned (.bool false) ∧ ∃ x : Later w', w'' = x.out) :
    Calls Try.prog 6 #[.agg #[.int .i64 p, .int .i64 q], .agg #[.int .i64 z, .int .i64 u], .int .u16 k, .int .u16 n] w fun e w' => e = .returned (.bool true) ∧ ∃ x : Later w, w' = x.out := by
  have Hc1 := Lib.hid c1; clear c1
  go_enter Try.func6, Try.ntmps6
  go_wp2_with (first | (go_at_call 10; (with_reducible refine (Hc1.out _).mono ?_); rintro e _ ⟨rfl, x, rfl⟩) | (go_at_call 11; (with_reducible refine (shown_4 _).mono ?_); rintro e _ ⟨rfl, x, rfl⟩))
  go_ret
  exact ⟨rfl, (Later.mk_of (by repeat (first | (with_reducible assumption) | (with_reducible exact Below.refl _ _) | (with_reducible refine Later.after ?_ _) | (with_reducible refine Later.newer ?_ _) | (with_reducible refine Below.drew ?_) | (with_reducible refine Below.setCell ?_ (by first | exact Nat.le_refl _ | exact Nat.le_add_right _ _ | omega | (simp [go_sem]; done) | (simp [go_sem]; omega)) _))))⟩

set_option maxRecDepth 100000 in
set_option maxHeartbeats 600000 in
theorem walk_far2 (p q z u k n : Int) (w : World) 
    (c1 : ∀ w', Calls Try.prog 10 #[.agg #[.int .i64 p, .int .i64 q]] w' fun e w'' => e = .returned (.bool true) ∧ ∃ x : Later w', w'' = x.out) (c2 : ∀ w', Calls Try.prog 10 #[.agg #[.int .i64 z, .int .i64 u]] w' fun e w'' => e = .returned (.bool false) ∧ ∃ x : Later w', w'' = x.out) :
    Calls Try.prog 6 #[.agg #[.int .i64 p, .int .i64 q], .agg #[.int .i64 z, .int .i64 u], .int .u16 k, .int .u16 n] w fun e w' => e = .returned (.bool true) ∧ ∃ x : Later w, w' = x.out := by
  have Hc1 := Lib.hid c1; clear c1
  have Hc2 := Lib.hid c2; clear c2
  go_enter Try.func6, Try.ntmps6
  go_wp2_with (first | (go_at_call 10; (with_reducible refine (Hc1.out _).mono ?_); rintro e _ ⟨rfl, x, rfl⟩) | (go_at_call 10; (with_reducible refine (Hc2.out _).mono ?_); rintro e _ ⟨rfl, x, rfl⟩) | (go_at_call 11; (with_reducible refine (shown_4 _).mono ?_); rintro e _ ⟨rfl, x, rfl⟩))
  go_ret
  exact ⟨rfl, (Later.mk_of (by repeat (first | (with_reducible assumption) | (with_reducible exact Below.refl _ _) | (with_reducible refine Later.after ?_ _) | (with_reducible refine Later.newer ?_ _) | (with_reducible refine Below.drew ?_) | (with_reducible refine Below.setCell ?_ (by first | exact Nat.le_refl _ | exact Nat.le_add_right _ _ | omega | (simp [go_sem]; done) | (simp [go_sem]; omega)) _))))⟩

set_option maxRecDepth 100000 in
set_option maxHeartbeats 600000 in
theorem walk_none (p q z u k n : Int) (w : World) (h : (n == 0) = true)
    (c1 : ∀ w', Calls Try.prog 10 #[.agg #[.int .i64 p, .int .i64 q]] w' fun e w'' => e = .returned (.bool true) ∧ ∃ x : Later w', w'' = x.out) (c2 : ∀ w', Calls Try.prog 10 #[.agg #[.int .i64 z, .int .i64 u]] w' fun e w'' => e = .returned (.bool true) ∧ ∃ x : Later w', w'' = x.out) :
    Calls Try.prog 6 #[.agg #[.int .i64 p, .int .i64 q], .agg #[.int .i64 z, .int .i64 u], .int .u16 k, .int .u16 n] w fun e w' => e = .returned (.bool true) ∧ ∃ x : Later w, w' = x.out := by
  have Hc1 := Lib.hid c1; clear c1
  have Hc2 := Lib.hid c2; clear c2
  go_enter Try.func6, Try.ntmps6
  go_wp2_with (first | (go_at_call 10; (with_reducible refine (Hc1.out _).mono ?_); rintro e _ ⟨rfl, x, rfl⟩) | (go_at_call 10; (with_reducible refine (Hc2.out _).mono ?_); rintro e _ ⟨rfl, x, rfl⟩) | (go_at_call 11; (with_reducible refine (shown_4 _).mono ?_); rintro e _ ⟨rfl, x, rfl⟩))
  go_ret
  exact ⟨rfl, (Later.mk_of (by repeat (first | (with_reducible assumption) | (with_reducible exact Below.refl _ _) | (with_reducible refine Later.after ?_ _) | (with_reducible refine Later.newer ?_ _) | (with_reducible refine Below.drew ?_) | (with_reducible refine Below.setCell ?_ (by first | exact Nat.le_refl _ | exact Nat.le_add_right _ _ | omega | (simp [go_sem]; done) | (simp [go_sem]; omega)) _))))⟩

set_option maxRecDepth 100000 in
set_option maxHeartbeats 2000000 in
theorem walk_at (p q z u k n n1 K L P Q B1 B2 C D S T E G P1 Q1 : Int) (w : World) (hn0 : (n == 0) = false) (k0 : 0 ≤ k) (hn1 : 0 < n1)
    (e1 : wrap64 k = k) (e2 : wrap64 n = n) (e3 : wrap64 (n + 1) = n1) (e4 : k % n1 = K) (e5 : wrap64 (n - K) = L) (e5' : IntKind.i64.wrap (n - K) = L)
    (e6 : B1.tdiv 2 = C) (e7 : B2.tdiv 2 = D) (e8 : wrap64 C = C) (e9 : wrap64 D = D)
    (c1 : ∀ w', Calls Try.prog 10 #[.agg #[.int .i64 p, .int .i64 q]] w' fun e w'' => e = .returned (.bool true) ∧ ∃ x : Later w', w'' = x.out)
    (c2 : ∀ w', Calls Try.prog 10 #[.agg #[.int .i64 z, .int .i64 u]] w' fun e w'' => e = .returned (.bool true) ∧ ∃ x : Later w', w'' = x.out)
    (c3 : ∀ w', Calls Try.prog 19 #[.agg #[.int .i64 p, .int .i64 q], .agg #[.int .i64 z, .int .i64 u], .int .i64 K, .int .i64 n] w' fun e w'' => e = .returned (.agg #[.int .i64 P, .int .i64 Q]) ∧ ∃ x : Later w', w'' = x.out)
    (c4 : ∀ w', Calls Try.prog 17 #[.agg #[.int .i64 z, .int .i64 u], .agg #[.int .i64 p, .int .i64 q]] w' fun e w'' => e = .returned (.agg #[.int .i64 B1, .int .i64 B2]) ∧ ∃ x : Later w', w'' = x.out)
    (c5 : ∀ w', Calls Try.prog 19 #[.agg #[.int .i64 0, .int .i64 0], .agg #[.int .i64 C, .int .i64 D], .int .i64 K, .int .i64 n] w' fun e w'' => e = .returned (.agg #[.int .i64 S, .int .i64 T]) ∧ ∃ x : Later w', w'' = x.out)
    (c6 : ∀ w', Calls Try.prog 19 #[.agg #[.int .i64 z, .int .i64 u], .agg #[.int .i64 p, .int .i64 q], .int .i64 L, .int .i64 n] w' fun e w'' => e = .returned (.agg #[.int .i64 P, .int .i64 Q]) ∧ ∃ x : Later w', w'' = x.out)
    (c7 : ∀ w', Calls Try.prog 16 #[.agg #[.int .i64 p, .int .i64 q], .agg #[.int .i64 C, .int .i64 D]] w' fun e w'' => e = .returned (.agg #[.int .i64 E, .int .i64 G]) ∧ ∃ x : Later w', w'' = x.out)
    (c8 : ∀ w', Calls Try.prog 19 #[.agg #[.int .i64 p, .int .i64 q], .agg #[.int .i64 E, .int .i64 G], .int .i64 K, .int .i64 n] w' fun e w'' => e = .returned (.agg #[.int .i64 P1, .int .i64 Q1]) ∧ ∃ x : Later w', w'' = x.out)
    (c9 : ∀ w', Calls Try.prog 16 #[.agg #[.int .i64 p, .int .i64 q], .agg #[.int .i64 S, .int .i64 T]] w' fun e w'' => e = .returned (.agg #[.int .i64 P1, .int .i64 Q1]) ∧ ∃ x : Later w', w'' = x.out) :
    Calls Try.prog 6 #[.agg #[.int .i64 p, .int .i64 q], .agg #[.int .i64 z, .int .i64 u], .int .u16 k, .int .u16 n] w fun e w' => e = .returned (.bool true) ∧ ∃ x : Later w, w' = x.out := by
  have Hc1 := Lib.hid c1; clear c1
  have Hc2 := Lib.hid c2; clear c2
  have Hc3 := Lib.hid c3; clear c3
  have Hc4 := Lib.hid c4; clear c4
  have Hc5 := Lib.hid c5; clear c5
  have Hc6 := Lib.hid c6; clear c6
  have Hc7 := Lib.hid c7; clear c7
  have Hc8 := Lib.hid c8; clear c8
  have Hc9 := Lib.hid c9; clear c9
  go_enter Try.func6, Try.ntmps6
  go_wp2_with (first | (go_at_call 10; (with_reducible refine (Hc1.out _).mono ?_); rintro e _ ⟨rfl, x, rfl⟩) | (go_at_call 10; (with_reducible refine (Hc2.out _).mono ?_); rintro e _ ⟨rfl, x, rfl⟩) | (go_at_call 11; (with_reducible refine (shown_4 _).mono ?_); rintro e _ ⟨rfl, x, rfl⟩) | (go_at_call 19; (with_reducible refine (Hc3.out _).mono ?_); rintro e _ ⟨rfl, x, rfl⟩) | (go_at_call 17; (with_reducible refine (Hc4.out _).mono ?_); rintro e _ ⟨rfl, x, rfl⟩) | (go_at_call 19; (with_reducible refine (Hc5.out _).mono ?_); rintro e _ ⟨rfl, x, rfl⟩))
  have lf0 : w.heap.size < x.out.heap.size := by (simp [go_sem])
  refine wp_region_later (by kernel_rfl) (by kernel_rfl) ?_
  repeat (go_big_quiet_step ((first | (go_at_call 19; with_reducible exact Later.call _ (Hc6.out _)) | (go_at_call 19; with_reducible exact Later.call _ (Hc8.out _)) | (go_at_call 16; with_reducible exact Later.call _ (Hc7.out _)) | (go_at_call 16; with_reducible exact Later.call _ (Hc9.out _)))))
  refine wpQuiet_nil ?_
  intro x
  go_wp2
  go_ret
  exact ⟨rfl, (Later.mk_of (by repeat (first | (with_reducible assumption) | (with_reducible exact Below.refl _ _) | (with_reducible refine Later.after ?_ _) | (with_reducible refine Later.newer ?_ _) | (with_reducible refine Below.drew ?_) | (with_reducible refine Below.setCell ?_ (by first | exact Nat.le_refl _ | exact Nat.le_add_right _ _ | omega | (simp [go_sem]; done) | (simp [go_sem]; omega)) _))))⟩
theorem walk (a0 b0 a1 b1 a2 a3 : Int) (w0 : (Lit.int .i64 a0).wf = true) (u0 : (Lit.int .i64 b0).wf = true) (w1 : (Lit.int .i64 a1).wf = true) (u1 : (Lit.int .i64 b1).wf = true) (w2 : (Lit.int .u16 a2).wf = true) (w3 : (Lit.int .u16 a3).wf = true) (w : World) :
    Calls Try.prog 6 #[.agg #[.int .i64 a0, .int .i64 b0], .agg #[.int .i64 a1, .int .i64 b1], .int .u16 a2, .int .u16 a3] w fun e w' => e = .returned (.bool true) ∧ ∃ x : Later w, w' = x.out := by
  have hn := fun v => ptNear_r a0 b0 v
  have hm := fun v => ptNear_r a1 b1 v
  have b2 := bounds_u16 w2
  have b3 := bounds_u16 w3
  cases h : (btw a0 && btw b0)
  · rw [h] at hn
    exact walk_far1 a0 b0 a1 b1 _ _ w hn
  rw [h] at hn
  cases h' : (btw a1 && btw b1)
  · rw [h'] at hm
    exact walk_far2 a0 b0 a1 b1 _ _ w hn hm
  rw [h'] at hm
  by_cases hz : a3 = 0
  · exact walk_none a0 b0 a1 b1 _ _ w (by simp [hz]) hn hm
  simp only [Bool.and_eq_true, btw_iff] at h h'
  obtain ⟨⟨h1, h2⟩, h3, h4⟩ := h
  obtain ⟨⟨k1, k2⟩, k3, k4⟩ := h'
  have m0 := Int.emod_nonneg a2 (show a3 + 1 ≠ 0 by omega)
  have m1 := Int.emod_lt_of_pos a2 (show 0 < a3 + 1 by omega)
  obtain ⟨K, hK⟩ : ∃ K, a2 % (a3 + 1) = K := ⟨_, rfl⟩
  rw [hK] at m0 m1
  have t1 : (a1 - a0).tdiv 2 = if 0 ≤ a1 - a0 then (a1 - a0) / 2 else -((a0 - a1) / 2) := by
    split
    · exact Int.tdiv_eq_ediv_of_nonneg (by omega)
    · have := Int.neg_tdiv (a0 - a1) 2
      rw [show -(a0 - a1) = a1 - a0 by omega, Int.tdiv_eq_ediv_of_nonneg (a := a0 - a1) (by omega)] at this
      exact this
  have t2 : (b1 - b0).tdiv 2 = if 0 ≤ b1 - b0 then (b1 - b0) / 2 else -((b0 - b1) / 2) := by
    split
    · exact Int.tdiv_eq_ediv_of_nonneg (by omega)
    · have := Int.neg_tdiv (b0 - b1) 2
      rw [show -(b0 - b1) = b1 - b0 by omega, Int.tdiv_eq_ediv_of_nonneg (a := b0 - b1) (by omega)] at this
      exact this
  have c4 := fun v => ptSub_c a1 b1 a0 b0 v
  rw [w64_in (a1 - a0) (by unfold R64; omega), w64_in (b1 - b0) (by unfold R64; omega)] at c4
  obtain ⟨C, hC⟩ : ∃ C, (a1 - a0).tdiv 2 = C := ⟨_, rfl⟩
  obtain ⟨D, hD⟩ : ∃ D, (b1 - b0).tdiv 2 = D := ⟨_, rfl⟩
  rw [hC] at t1
  rw [hD] at t2
  have C0 : -1073741824 ≤ C ∧ C ≤ 1073741824 ∧ -1073741824 ≤ a0 + C ∧ a0 + C ≤ 1073741824 := by split at t1 <;> omega
  have D0 : -1073741824 ≤ D ∧ D ≤ 1073741824 ∧ -1073741824 ≤ b0 + D ∧ b0 + D ≤ 1073741824 := by split at t2 <;> omega
  clear t1 t2
  have c := fun p q z u h1 h2 h3 h4 k1 k2 k3 k4 k k0 k9 v => along_c p q z u k a3 v h1 h2 h3 h4 k1 k2 k3 k4 (by omega) (by omega) k0 k9
  have c3 := c a0 b0 a1 b1 h1 h2 h3 h4 k1 k2 k3 k4 K (by omega) (by omega)
  have c5 := c 0 0 C D (by omega) (by omega) (by omega) (by omega) (by omega) (by omega) (by omega) (by omega) K (by omega) (by omega)
  have c6 := c a1 b1 a0 b0 k1 k2 k3 k4 h1 h2 h3 h4 (a3 - K) (by omega) (by omega)
  have c8 := c a0 b0 (a0 + C) (b0 + D) h1 h2 h3 h4 (by omega) (by omega) (by omega) (by omega) K (by omega) (by omega)
  have bk : ∀ x y : Int, y + nrst ((x - y) * (a3 - K)) a3 = x + nrst ((y - x) * K) a3 := fun x y => by
    have e : (x - y) * (a3 - K) = (y - x) * K + (x - y) * a3 := by rw [Int.mul_sub, Int.sub_mul y x, Int.sub_mul x y K]; omega
    rw [e, nrst_shift _ _ _ (by omega)]
    omega
  rw [bk, bk] at c6
  rw [show a0 + C - a0 = C by omega, show b0 + D - b0 = D by omega] at c8
  rw [Int.sub_zero, Int.sub_zero, Int.zero_add, Int.zero_add] at c5
  have y1 := way_nrst C K a3 (by omega) (by omega) (by omega) (by omega) (by omega)
  have y2 := way_nrst D K a3 (by omega) (by omega) (by omega) (by omega) (by omega)
  have c7 := fun v => ptAdd_c a0 b0 C D v
  have c9 := fun v => ptAdd_c a0 b0 (nrst (C * K) a3) (nrst (D * K) a3) v
  rw [w64_in (a0 + C) (by unfold R64; omega), w64_in (b0 + D) (by unfold R64; omega)] at c7
  rw [w64_in (a0 + nrst (C * K) a3) (by unfold R64; omega), w64_in (b0 + nrst (D * K) a3) (by unfold R64; omega)] at c9
  exact walk_at a0 b0 a1 b1 a2 a3 (a3 + 1) K (a3 - K) _ _ _ _ C D _ _ _ _ _ _ w (by simp [hz]) b2.1 (by omega) (w64_in _ (by unfold R64; omega)) (w64_in _ (by unfold R64; omega)) (w64_in _ (by unfold R64; omega)) hK (w64_in _ (by unfold R64; omega)) (IntWalk.i64_in _ (by omega)) hC hD (w64_in _ (by unfold R64; omega)) (w64_in _ (by unfold R64; omega)) hn hm c3 c4 c5 c6 c7 c8 c9


set_option maxRecDepth 100000 in
theorem lifted (os : Os) (started : os.Started) (H : Type) (enc : TypeId × Value → H) :
    ReturnsInHanded {} Try.checked os 6 .any (Rows.vectorMiddlesSpec.pre6 enc Try.prog Try.f6 Rows.vectorMiddlesRow.domain false) (Rows.vectorMiddlesSpec.post enc Try.prog Try.f6 false true false false) := by
  refine returnsInHanded_of_change (C := Try.checked) own started (by kernel_rfl) Try.func6
    (ChangeSpec.witness6 (enc := enc) (C := Try.checked) false ⟨#[], #[.agg #[.int .i64 0, .int .i64 0], .agg #[.int .i64 0, .int .i64 0], .int .u16 0, .int .u16 0], []⟩ 8 (by kernel_rfl) (by kernel_rfl) (by kernel_rfl) (by kernel_rfl)) ?_
  intro W base args ds gs before hval0 hW hcnd _
  have hval : ∀ (j : Nat) t v, Try.f6.params[j]? = some t → args[j]? = some v → Value.okWide Try.prog W .any base t v := hval0
  have hW' := hW
  obtain ⟨p, q, hA0, hV, rfl, hfz, hnd⟩ := hW
  have hA : DataW.TrodAll enc Try.prog W 0 (fun _ => true) true Try.f6.params.toList args.toList ds p := hA0
  rw [Try.params6] at hA hval
  obtain ⟨v0, vs0, d0, ds0, p0, q0, hargs, rfl, rfl, h0, r0⟩ := trodAll_cons hA
  obtain ⟨v1, vs1, d1, ds1, p1, q1, rfl, rfl, rfl, h1, r1⟩ := trodAll_cons r0
  obtain ⟨v2, vs2, d2, ds2, p2, q2, rfl, rfl, rfl, h2, r2⟩ := trodAll_cons r1
  obtain ⟨v3, vs3, d3, ds3, p3, q3, rfl, rfl, rfl, h3, r3⟩ := trodAll_cons r2
  obtain ⟨rfl, rfl, rfl⟩ := trodAll_nil r3
  obtain rfl : args = #[v0, v1, v2, v3] := by cases args; simp_all
  obtain ⟨rfl, rfl⟩ := trodVars_none hV
  obtain ⟨a0, b0, rfl, rfl, rfl, w0, u0⟩ := open_two Try.underlying23 (by kernel_rfl) cells23 Try.underlying3 Try.underlying3 (hval 0 23 v0 rfl rfl) h0
  obtain ⟨a1, b1, rfl, rfl, rfl, w1, u1⟩ := open_two Try.underlying23 (by kernel_rfl) cells23 Try.underlying3 Try.underlying3 (hval 1 23 v1 rfl rfl) h1
  obtain ⟨a2, rfl, rfl, rfl, w2⟩ := open_int Try.underlying31 (hval 2 31 v2 rfl rfl) h2
  obtain ⟨a3, rfl, rfl, rfl, w3⟩ := open_int Try.underlying31 (hval 3 31 v3 rfl rfl) h3
  clear hA0 hval0
  simp only [List.append_nil] at hW'
  refine (walk a0 b0 a1 b1 a2 a3 w0 u0 w1 u1 w2 w3 W).mono fun e W' ⟨he, hg⟩ => ?_
  subst he
  exact ⟨_, rfl, post_later (pa := []) hW' (fun _ _ _ => (trodAll_cons_mk (shut_bool Try.underlying4 _) trodAll_mk0)) (fun sp _ => (trodAll_cons_mk (shut_two Try.underlying23 (by kernel_rfl) cells23 Try.underlying3 Try.underlying3 w0 u0) (trodAll_cons_mk (shut_two Try.underlying23 (by kernel_rfl) cells23 Try.underlying3 Try.underlying3 w1 u1) (trodAll_cons_mk (shut_int Try.underlying31 w2) (trodAll_cons_mk (shut_int Try.underlying31 w3) trodAll_mk0))))) (fun _ _ => rfl) rfl
    hg (ok_one (by kernel_rfl) rfl (okWide_bool_mk Try.underlying4 _))⟩

theorem over : Rows.vectorMiddlesRow.holds Try.pinned (OpenSpec.ofChange Rows.vectorMiddlesSpec) :=
  OpenClaim.holds_of_wide 6 Try.f6 rfl rfl rfl rfl rfl rfl rfl ⟨rfl, rfl, rfl, rfl, rfl⟩ rfl rfl rfl rfl rfl (by kernel_rfl) Try.func6 (by kernel_rfl)
    (of_decide_eq_true (by kernel_rfl)) (by unfold Func.isWrapper; first | (rw [if_pos (by decide +kernel)]; kernel_rfl) | (rw [if_neg (by decide +kernel)]; exact ⟨rfl, rfl⟩))
    (fun os started H enc _ => lifted os started H enc)

theorem proved : Rows.VectorMiddlesSaid :=
  over
#print axioms proved
end Go.Proofs.Ytdlemjecocmbgaa.vectorMiddles


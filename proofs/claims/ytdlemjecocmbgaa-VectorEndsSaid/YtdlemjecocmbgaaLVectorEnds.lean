/-
  The statement of VectorEnds, for every input: its walk, and the row round it.
-/
import Derived.Test.YtdlemjecocmbgaaV5
import Derived.Test.YtdlemjecocmbgaaRow
import Derived.ProofKit
import Derived.OpenShut
namespace Go.Proofs.Ytdlemjecocmbgaa.vectorEnds
open Go.ChangeShapes Go.WideShapes Go.ChangeAt Go.RowKit Go.Joins
set_option linter.unusedVariables false

theorem cells23 : Try.prog.cellsOf 23 = 2 := by kernel_rfl

set_option maxRecDepth 100000 in
set_option maxHeartbeats 600000 in
theorem walk_far1 (p q z u k n : Int) (w : World) 
    (c1 : ∀ w', Calls Try.prog 10 #[.agg #[.int .i64 p, .int .i64 q]] w' fun e w'' => e = .returned (.bool false) ∧ ∃ x : Later w', w'' = x.out) :
    Calls Try.prog 5 #[.agg #[.int .i64 p, .int .i64 q], .agg #[.int .i64 z, .int .i64 u], .int .u16 k, .int .u16 n] w fun e w' => e = .returned (.bool true) ∧ ∃ x : Later w, w' = x.out := by
  have Hc1 := Lib.hid c1; clear c1
  go_enter Try.func5, Try.ntmps5
  go_wp2_with (first | (go_at_call 10; (with_reducible refine (Hc1.out _).mono ?_); rintro e _ ⟨rfl, x, rfl⟩) | (go_at_call 11; (with_reducible refine (shown_4 _).mono ?_); rintro e _ ⟨rfl, x, rfl⟩))
  go_ret
  exact ⟨rfl, (Later.mk_of (by repeat (first | (with_reducible assumption) | (with_reducible exact Below.refl _ _) | (with_reducible refine Later.after ?_ _) | (with_reducible refine Later.newer ?_ _) | (with_reducible refine Below.drew ?_) | (with_reducible refine Below.setCell ?_ (by first | exact Nat.le_refl _ | exact Nat.le_add_right _ _ | omega | (simp [go_sem]; done) | (simp [go_sem]; omega)) _))))⟩

set_option maxRecDepth 100000 in
set_option maxHeartbeats 600000 in
theorem walk_far2 (p q z u k n : Int) (w : World) 
    (c1 : ∀ w', Calls Try.prog 10 #[.agg #[.int .i64 p, .int .i64 q]] w' fun e w'' => e = .returned (.bool true) ∧ ∃ x : Later w', w'' = x.out) (c2 : ∀ w', Calls Try.prog 10 #[.agg #[.int .i64 z, .int .i64 u]] w' fun e w'' => e = .returned (.bool false) ∧ ∃ x : Later w', w'' = x.out) :
    Calls Try.prog 5 #[.agg #[.int .i64 p, .int .i64 q], .agg #[.int .i64 z, .int .i64 u], .int .u16 k, .int .u16 n] w fun e w' => e = .returned (.bool true) ∧ ∃ x : Later w, w' = x.out := by
  have Hc1 := Lib.hid c1; clear c1
  have Hc2 := Lib.hid c2; clear c2
  go_enter Try.func5, Try.ntmps5
  go_wp2_with (first | (go_at_call 10; (with_reducible refine (Hc1.out _).mono ?_); rintro e _ ⟨rfl, x, rfl⟩) | (go_at_call 10; (with_reducible refine (Hc2.out _).mono ?_); rintro e _ ⟨rfl, x, rfl⟩) | (go_at_call 11; (with_reducible refine (shown_4 _).mono ?_); rintro e _ ⟨rfl, x, rfl⟩))
  go_ret
  exact ⟨rfl, (Later.mk_of (by repeat (first | (with_reducible assumption) | (with_reducible exact Below.refl _ _) | (with_reducible refine Later.after ?_ _) | (with_reducible refine Later.newer ?_ _) | (with_reducible refine Below.drew ?_) | (with_reducible refine Below.setCell ?_ (by first | exact Nat.le_refl _ | exact Nat.le_add_right _ _ | omega | (simp [go_sem]; done) | (simp [go_sem]; omega)) _))))⟩

set_option maxRecDepth 100000 in
set_option maxHeartbeats 600000 in
theorem walk_none (p q z u k n : Int) (w : World) (h : (n == 0) = true)
    (c1 : ∀ w', Calls Try.prog 10 #[.agg #[.int .i64 p, .int .i64 q]] w' fun e w'' => e = .returned (.bool true) ∧ ∃ x : Later w', w'' = x.out) (c2 : ∀ w', Calls Try.prog 10 #[.agg #[.int .i64 z, .int .i64 u]] w' fun e w'' => e = .returned (.bool true) ∧ ∃ x : Later w', w'' = x.out) :
    Calls Try.prog 5 #[.agg #[.int .i64 p, .int .i64 q], .agg #[.int .i64 z, .int .i64 u], .int .u16 k, .int .u16 n] w fun e w' => e = .returned (.bool true) ∧ ∃ x : Later w, w' = x.out := by
  have Hc1 := Lib.hid c1; clear c1
  have Hc2 := Lib.hid c2; clear c2
  go_enter Try.func5, Try.ntmps5
  go_wp2_with (first | (go_at_call 10; (with_reducible refine (Hc1.out _).mono ?_); rintro e _ ⟨rfl, x, rfl⟩) | (go_at_call 10; (with_reducible refine (Hc2.out _).mono ?_); rintro e _ ⟨rfl, x, rfl⟩) | (go_at_call 11; (with_reducible refine (shown_4 _).mono ?_); rintro e _ ⟨rfl, x, rfl⟩))
  go_ret
  exact ⟨rfl, (Later.mk_of (by repeat (first | (with_reducible assumption) | (with_reducible exact Below.refl _ _) | (with_reducible refine Later.after ?_ _) | (with_reducible refine Later.newer ?_ _) | (with_reducible refine Below.drew ?_) | (with_reducible refine Below.setCell ?_ (by first | exact Nat.le_refl _ | exact Nat.le_add_right _ _ | omega | (simp [go_sem]; done) | (simp [go_sem]; omega)) _))))⟩

set_option maxRecDepth 100000 in
set_option maxHeartbeats 2000000 in
theorem walk_at (p q z u k n K P Q X0 X1 Y0 Y1 : Int) (w : World) (hn0 : (n == 0) = false) (k0 : 0 ≤ k) (k9 : k ≤ 65535) (n0 : 0 ≤ n) (n9 : n ≤ 65535) (e4 : k % (n + 1) = K) (e4' : k.tmod (n + 1) = K) (e3' : IntKind.i64.wrap (n + 1) = n + 1) (e5' : (n + 1 == 0) = false)
    (e5 : min p z = X0) (e6 : max p z = X1) (e7 : min q u = Y0) (e8 : max q u = Y1)
    (g1 : X0 ≤ P) (g2 : P ≤ X1) (g3 : Y0 ≤ Q) (g4 : Q ≤ Y1)
    (c1 : ∀ w', Calls Try.prog 10 #[.agg #[.int .i64 p, .int .i64 q]] w' fun e w'' => e = .returned (.bool true) ∧ ∃ x : Later w', w'' = x.out)
    (c2 : ∀ w', Calls Try.prog 10 #[.agg #[.int .i64 z, .int .i64 u]] w' fun e w'' => e = .returned (.bool true) ∧ ∃ x : Later w', w'' = x.out)
    (c3 : ∀ w', Calls Try.prog 19 #[.agg #[.int .i64 p, .int .i64 q], .agg #[.int .i64 z, .int .i64 u], .int .i64 K, .int .i64 n] w' fun e w'' => e = .returned (.agg #[.int .i64 P, .int .i64 Q]) ∧ ∃ x : Later w', w'' = x.out)
    (c4 : ∀ w', Calls Try.prog 19 #[.agg #[.int .i64 p, .int .i64 q], .agg #[.int .i64 z, .int .i64 u], .int .i64 0, .int .i64 n] w' fun e w'' => e = .returned (.agg #[.int .i64 p, .int .i64 q]) ∧ ∃ x : Later w', w'' = x.out)
    (c5 : ∀ w', Calls Try.prog 19 #[.agg #[.int .i64 p, .int .i64 q], .agg #[.int .i64 z, .int .i64 u], .int .i64 n, .int .i64 n] w' fun e w'' => e = .returned (.agg #[.int .i64 z, .int .i64 u]) ∧ ∃ x : Later w', w'' = x.out) :
    Calls Try.prog 5 #[.agg #[.int .i64 p, .int .i64 q], .agg #[.int .i64 z, .int .i64 u], .int .u16 k, .int .u16 n] w fun e w' => e = .returned (.bool true) ∧ ∃ x : Later w, w' = x.out := by
  have Hc1 := Lib.hid c1; clear c1
  have Hc2 := Lib.hid c2; clear c2
  have Hc3 := Lib.hid c3; clear c3
  have Hc4 := Lib.hid c4; clear c4
  have Hc5 := Lib.hid c5; clear c5
  go_enter Try.func5, Try.ntmps5
  go_upto_region 4 with (first | (go_at_call 10; (with_reducible refine (Hc1.out _).mono ?_); rintro e _ ⟨rfl, x, rfl⟩) | (go_at_call 10; (with_reducible refine (Hc2.out _).mono ?_); rintro e _ ⟨rfl, x, rfl⟩) | (go_at_call 11; (with_reducible refine (shown_4 _).mono ?_); rintro e _ ⟨rfl, x, rfl⟩))
  go_cut [10] (fun s10 wx => ∃ g : Nat, s10 = .pointer (some ⟨g, 0, none⟩) ∧ g < wx.heap.size ∧ wx.cell? ⟨g, 0, none⟩ = some (.int .i64 P) ∧ wx.cell? ⟨g, 1, none⟩ = some (.int .i64 Q) ∧
    w.heap.size + 1 < wx.heap.size ∧ wx.cell? ⟨w.heap.size, 0, none⟩ = some (.int .i64 p) ∧ wx.cell? ⟨w.heap.size, 1, none⟩ = some (.int .i64 q) ∧ wx.cell? ⟨w.heap.size + 1, 0, none⟩ = some (.int .i64 z) ∧ wx.cell? ⟨w.heap.size + 1, 1, none⟩ = some (.int .i64 u) ∧ Below w.heap.size w wx)
  case first =>
    go_region_with (first | (go_at_call 19; (with_reducible refine (Hc3.out _).mono ?_); rintro e _ ⟨rfl, x, rfl⟩))
    all_goals (go_wp2_with fail; go_meet; exact ⟨_, rfl, by simp [go_sem], by simp [go_sem], by simp [go_sem], by simp [go_sem], by simp [go_sem], by simp [go_sem], by simp [go_sem], by simp [go_sem], by repeat (first | (with_reducible assumption) | (with_reducible exact Below.refl _ _) | (with_reducible refine Later.after ?_ _) | (with_reducible refine Later.newer ?_ _) | (with_reducible refine Below.drew ?_) | (with_reducible refine Below.setCell ?_ (by first | exact Nat.le_refl _ | exact Nat.le_add_right _ _ | omega | (simp [go_sem]; done) | (simp [go_sem]; omega)) _))⟩)
  case rest =>
    obtain ⟨g, rfl, hg, hg0, hg1, hw0, hwa, hwb, hwc, hwd, hB⟩ := hcut
    have HB := Lib.hid hB
    clear hB
    have hw1 := Nat.lt_of_succ_lt hw0
    go_wp2_with (fail)
    refine wp_region_later (by kernel_rfl) (by kernel_rfl) ?_
    repeat (go_big_quiet_step ((first | (go_at_call 19; with_reducible exact Later.call _ (Hc4.out _)) | (go_at_call 19; with_reducible exact Later.call _ (Hc5.out _)))))
    refine wpQuiet_nil ?_
    intro x
    go_wp2
    have hB := HB.out
    go_ret
    exact ⟨rfl, (Later.mk_of (by repeat (first | (with_reducible assumption) | (with_reducible exact Below.refl _ _) | (with_reducible refine Later.after ?_ _) | (with_reducible refine Later.newer ?_ _) | (with_reducible refine Below.drew ?_) | (with_reducible refine Below.setCell ?_ (by first | exact Nat.le_refl _ | exact Nat.le_add_right _ _ | omega | (simp [go_sem]; done) | (simp [go_sem]; omega)) _))))⟩
/-- a place on a way lies between its ends -/
theorem way_mid (p z k n : Int) (hn : 1 ≤ n) (k0 : 0 ≤ k) (k1 : k ≤ n) : min p z ≤ p + nrst ((z - p) * k) n ∧ p + nrst ((z - p) * k) n ≤ max p z := by
  have e := nrst_mul (z - p) n (by omega)
  have e0 := nrst_zero n (by omega)
  rcases Int.le_total p z with h | h
  · have a := nrst_mono 0 ((z - p) * k) n (by omega) (Int.mul_nonneg (by omega) k0)
    have b := nrst_mono ((z - p) * k) ((z - p) * n) n (by omega) (Int.mul_le_mul_of_nonneg_left k1 (by omega))
    omega
  · have a := nrst_mono ((z - p) * k) 0 n (by omega) (Int.mul_nonpos_of_nonpos_of_nonneg (by omega) k0)
    have b := nrst_mono ((z - p) * n) ((z - p) * k) n (by omega) (Int.mul_le_mul_of_nonpos_left (by omega) k1)
    omega
theorem walk (a0 b0 a1 b1 a2 a3 : Int) (w0 : (Lit.int .i64 a0).wf = true) (u0 : (Lit.int .i64 b0).wf = true) (w1 : (Lit.int .i64 a1).wf = true) (u1 : (Lit.int .i64 b1).wf = true) (w2 : (Lit.int .u16 a2).wf = true) (w3 : (Lit.int .u16 a3).wf = true) (w : World) :
    Calls Try.prog 5 #[.agg #[.int .i64 a0, .int .i64 b0], .agg #[.int .i64 a1, .int .i64 b1], .int .u16 a2, .int .u16 a3] w fun e w' => e = .returned (.bool true) ∧ ∃ x : Later w, w' = x.out := by
  have hn := fun v => ptNear_r a0 b0 v
  have hm := fun v => ptNear_r a1 b1 v
  have b2 := bounds_u16 w2
  have b3 := bounds_u16 w3
  cases h : (btw a0 && btw b0)
  · rw [h] at hn
    exact walk_far1 a0 b0 a1 b1 _ _ w hn
  rw [h] at hn
  cases h' : (btw a1 && btw b1)
  · rw [h'] at hm
    exact walk_far2 a0 b0 a1 b1 _ _ w hn hm
  rw [h'] at hm
  by_cases hz : a3 = 0
  · exact walk_none a0 b0 a1 b1 _ _ w (by simp [hz]) hn hm
  simp only [Bool.and_eq_true, btw_iff] at h h'
  obtain ⟨⟨h1, h2⟩, h3, h4⟩ := h
  obtain ⟨⟨k1, k2⟩, k3, k4⟩ := h'
  have m0 := Int.emod_nonneg a2 (show a3 + 1 ≠ 0 by omega)
  have m1 := Int.emod_lt_of_pos a2 (show 0 < a3 + 1 by omega)
  have y1 := way_mid a0 a1 (a2 % (a3 + 1)) a3 (by omega) m0 (by omega)
  have y2 := way_mid b0 b1 (a2 % (a3 + 1)) a3 (by omega) m0 (by omega)
  have c := fun k k0 k9 v => along_c a0 b0 a1 b1 k a3 v h1 h2 h3 h4 k1 k2 k3 k4 (by omega) (by omega) k0 k9
  have c4 := c 0 (by omega) (by omega)
  have c5 := c a3 (by omega) (by omega)
  rw [Int.mul_zero, Int.mul_zero, nrst_zero a3 (by omega), Int.add_zero, Int.add_zero] at c4
  rw [nrst_mul _ a3 (by omega), nrst_mul _ a3 (by omega), show a0 + (a1 - a0) = a1 by omega, show b0 + (b1 - b0) = b1 by omega] at c5
  exact walk_at a0 b0 a1 b1 a2 a3 _ _ _ _ _ _ _ w (by simp [hz]) b2.1 b2.2 b3.1 b3.2 rfl (Int.tmod_eq_emod_of_nonneg b2.1) (IntWalk.i64_in _ (by omega)) (by simp; omega) rfl rfl rfl rfl y1.1 y1.2 y2.1 y2.2 hn hm (c _ (by omega) (by omega)) c4 c5


set_option maxRecDepth 100000 in
theorem lifted (os : Os) (started : os.Started) (H : Type) (enc : TypeId × Value → H) :
    ReturnsInHanded {} Try.checked os 5 .any (Rows.vectorEndsSpec.pre6 enc Try.prog Try.f5 Rows.vectorEndsRow.domain false) (Rows.vectorEndsSpec.post enc Try.prog Try.f5 false true false false) := by
  refine returnsInHanded_of_change (C := Try.checked) own started (by kernel_rfl) Try.func5
    (ChangeSpec.witness6 (enc := enc) (C := Try.checked) false ⟨#[], #[.agg #[.int .i64 0, .int .i64 0], .agg #[.int .i64 0, .int .i64 0], .int .u16 0, .int .u16 0], []⟩ 8 (by kernel_rfl) (by kernel_rfl) (by kernel_rfl) (by kernel_rfl)) ?_
  intro W base args ds gs before hval0 hW hcnd _
  have hval : ∀ (j : Nat) t v, Try.f5.params[j]? = some t → args[j]? = some v → Value.okWide Try.prog W .any base t v := hval0
  have hW' := hW
  obtain ⟨p, q, hA0, hV, rfl, hfz, hnd⟩ := hW
  have hA : DataW.TrodAll enc Try.prog W 0 (fun _ => true) true Try.f5.params.toList args.toList ds p := hA0
  rw [Try.params5] at hA hval
  obtain ⟨v0, vs0, d0, ds0, p0, q0, hargs, rfl, rfl, h0, r0⟩ := trodAll_cons hA
  obtain ⟨v1, vs1, d1, ds1, p1, q1, rfl, rfl, rfl, h1, r1⟩ := trodAll_cons r0
  obtain ⟨v2, vs2, d2, ds2, p2, q2, rfl, rfl, rfl, h2, r2⟩ := trodAll_cons r1
  obtain ⟨v3, vs3, d3, ds3, p3, q3, rfl, rfl, rfl, h3, r3⟩ := trodAll_cons r2
  obtain ⟨rfl, rfl, rfl⟩ := trodAll_nil r3
  obtain rfl : args = #[v0, v1, v2, v3] := by cases args; simp_all
  obtain ⟨rfl, rfl⟩ := trodVars_none hV
  obtain ⟨a0, b0, rfl, rfl, rfl, w0, u0⟩ := open_two Try.underlying23 (by kernel_rfl) cells23 Try.underlying3 Try.underlying3 (hval 0 23 v0 rfl rfl) h0
  obtain ⟨a1, b1, rfl, rfl, rfl, w1, u1⟩ := open_two Try.underlying23 (by kernel_rfl) cells23 Try.underlying3 Try.underlying3 (hval 1 23 v1 rfl rfl) h1
  obtain ⟨a2, rfl, rfl, rfl, w2⟩ := open_int Try.underlying31 (hval 2 31 v2 rfl rfl) h2
  obtain ⟨a3, rfl, rfl, rfl, w3⟩ := open_int Try.underlying31 (hval 3 31 v3 rfl rfl) h3
  clear hA0 hval0
  simp only [List.append_nil] at hW'
  refine (walk a0 b0 a1 b1 a2 a3 w0 u0 w1 u1 w2 w3 W).mono fun e W' ⟨he, hg⟩ => ?_
  subst he
  exact ⟨_, rfl, post_later (pa := []) hW' (fun _ _ _ => (trodAll_cons_mk (shut_bool Try.underlying4 _) trodAll_mk0)) (fun sp _ => (trodAll_cons_mk (shut_two Try.underlying23 (by kernel_rfl) cells23 Try.underlying3 Try.underlying3 w0 u0) (trodAll_cons_mk (shut_two Try.underlying23 (by kernel_rfl) cells23 Try.underlying3 Try.underlying3 w1 u1) (trodAll_cons_mk (shut_int Try.underlying31 w2) (trodAll_cons_mk (shut_int Try.underlying31 w3) trodAll_mk0))))) (fun _ _ => rfl) rfl
    hg (ok_one (by kernel_rfl) rfl (okWide_bool_mk Try.underlying4 _))⟩

theorem over : Rows.vectorEndsRow.holds Try.pinned (OpenSpec.ofChange Rows.vectorEndsSpec) :=
  OpenClaim.holds_of_wide 5 Try.f5 rfl rfl rfl rfl rfl rfl rfl ⟨rfl, rfl, rfl, rfl, rfl⟩ rfl rfl rfl rfl rfl (by kernel_rfl) Try.func5 (by kernel_rfl)
    (of_decide_eq_true (by kernel_rfl)) (by unfold Func.isWrapper; first | (rw [if_pos (by decide +kernel)]; kernel_rfl) | (rw [if_neg (by decide +kernel)]; exact ⟨rfl, rfl⟩))
    (fun os started H enc _ => lifted os started H enc)

theorem proved : Rows.VectorEndsSaid :=
  over
#print axioms proved
end Go.Proofs.Ytdlemjecocmbgaa.vectorEnds


/-
  The statement of WideOrder, for every input: its walk, and the row round it.
-/
import Derived.Test.YtfaiepalmkobeaaW8
import Derived.Test.YtfaiepalmkobeaaRow
import Derived.ProofKit
import Derived.OpenShut
namespace Go.Proofs.Ytfaiepalmkobeaa.wideOrder
open Go.ChangeShapes Go.WideShapes Go.ChangeAt Go.RowKit Go.Joins
set_option linter.unusedVariables false

theorem cells24 : Try.prog.cellsOf 24 = 2 := by kernel_rfl
set_option maxRecDepth 100000 in
set_option maxHeartbeats 2000000 in
theorem order_far1 (ah al n nh nl sh sl o : Int) (w : World) (h1 : ∀ w', Calls Try.prog 21 #[.int .i64 n] w' fun e w'' => e = .returned (.agg #[.int .i64 nh, .int .u64 nl]) ∧ ∃ x : Later w', w'' = x.out) (h2 : ∀ w', Calls Try.prog 24 #[.agg #[.int .i64 ah, .int .u64 al], .agg #[.int .i64 nh, .int .u64 nl]] w' fun e w'' => e = .returned (.agg #[.int .i64 sh, .int .u64 sl]) ∧ ∃ x : Later w', w'' = x.out) (h3 : ∀ w', Calls Try.prog 26 #[.agg #[.int .i64 sh, .int .u64 sl], .agg #[.int .i64 nh, .int .u64 nl]] w' fun e w'' => e = .returned (.agg #[.int .i64 ah, .int .u64 al]) ∧ ∃ x : Later w', w'' = x.out) (h4 : ∀ w', Calls Try.prog 26 #[.agg #[.int .i64 ah, .int .u64 al], .agg #[.int .i64 ah, .int .u64 al]] w' fun e w'' => e = .returned (.agg #[.int .i64 0, .int .u64 0]) ∧ ∃ x : Later w', w'' = x.out) (h5 : ∀ w', Calls Try.prog 24 #[.agg #[.int .i64 0, .int .u64 0], .agg #[.int .i64 ah, .int .u64 al]] w' fun e w'' => e = .returned (.agg #[.int .i64 ah, .int .u64 al]) ∧ ∃ x : Later w', w'' = x.out) (d1 : decide (4611686018427387904 < ah) = true) :
    Calls Try.prog 7 #[.agg #[.int .i64 ah, .int .u64 al], .int .i64 n] w fun e w' => e = .returned (.bool true) ∧ ∃ x : Later w, w' = x.out := by
  have Hh1 := Lib.hid h1; clear h1
  have Hh2 := Lib.hid h2; clear h2
  have Hh3 := Lib.hid h3; clear h3
  have Hh4 := Lib.hid h4; clear h4
  have Hh5 := Lib.hid h5; clear h5
  go_enter Try.func7, Try.ntmps7
  go_upto_region 1 with fail
  go_cut [5] (fun s5 wx => ∃ g : Nat, s5 = .pointer (some ⟨g, 0, none⟩) ∧ g < wx.heap.size ∧ wx.cell? ⟨g, 0, none⟩ = some (.int .i64 sh) ∧ wx.cell? ⟨g, 1, none⟩ = some (.int .u64 sl) ∧
    w.heap.size < wx.heap.size ∧ wx.cell? ⟨w.heap.size, 0, none⟩ = some (.int .i64 ah) ∧ wx.cell? ⟨w.heap.size, 1, none⟩ = some (.int .u64 al) ∧ Below w.heap.size w wx)
  case first =>
    go_region_with (first | (go_at_call 21; (with_reducible refine (Hh1.out _).mono ?_); rintro e _ ⟨rfl, x, rfl⟩) | (go_at_call 24; (with_reducible refine (Hh2.out _).mono ?_); rintro e _ ⟨rfl, x, rfl⟩))
    all_goals (go_wp2_with fail; go_meet; exact ⟨_, rfl, by simp [go_sem], by simp [go_sem], by simp [go_sem], by simp [go_sem], by simp [go_sem], by simp [go_sem], by repeat (first | (with_reducible assumption) | (with_reducible exact Below.refl _ _) | (with_reducible refine Later.after ?_ _) | (with_reducible refine Later.newer ?_ _) | (with_reducible refine Below.drew ?_) | (with_reducible refine Below.setCell ?_ (by first | exact Nat.le_refl _ | exact Nat.le_add_right _ _ | omega | (simp [go_sem]; done) | (simp [go_sem]; omega)) _))⟩)
  case rest =>
    obtain ⟨g, rfl, hg, hg0, hg1, hw0, hwa, hwb, hB⟩ := hcut
    have HB := Lib.hid hB
    clear hB
    go_wp2_with (fail)
    refine wp_region_later (by kernel_rfl) (by kernel_rfl) ?_
    repeat (go_big_quiet_step ((first | (go_at_call 21; with_reducible exact Later.call _ (Hh1.out _)) | (go_at_call 26; with_reducible exact Later.call _ (Hh3.out _)) | (go_at_call 26; with_reducible exact Later.call _ (Hh4.out _)) | (go_at_call 24; with_reducible exact Later.call _ (Hh5.out _)))))
    refine wpQuiet_nil ?_
    intro x
    go_wp2_with (first | (go_at_call 19; (with_reducible refine (shown_c _).mono ?_); rintro e _ ⟨rfl, x, rfl⟩))
    have hB := HB.out
    go_ret
    exact ⟨rfl, (Later.mk_of (by repeat (first | (with_reducible assumption) | (with_reducible exact Below.refl _ _) | (with_reducible refine Later.after ?_ _) | (with_reducible refine Later.newer ?_ _) | (with_reducible refine Below.drew ?_) | (with_reducible refine Below.setCell ?_ (by first | exact Nat.le_refl _ | exact Nat.le_add_right _ _ | omega | (simp [go_sem]; done) | (simp [go_sem]; omega)) _))))⟩

set_option maxRecDepth 100000 in
set_option maxHeartbeats 2000000 in
theorem order_far2 (ah al n nh nl sh sl o : Int) (w : World) (h1 : ∀ w', Calls Try.prog 21 #[.int .i64 n] w' fun e w'' => e = .returned (.agg #[.int .i64 nh, .int .u64 nl]) ∧ ∃ x : Later w', w'' = x.out) (h2 : ∀ w', Calls Try.prog 24 #[.agg #[.int .i64 ah, .int .u64 al], .agg #[.int .i64 nh, .int .u64 nl]] w' fun e w'' => e = .returned (.agg #[.int .i64 sh, .int .u64 sl]) ∧ ∃ x : Later w', w'' = x.out) (h3 : ∀ w', Calls Try.prog 26 #[.agg #[.int .i64 sh, .int .u64 sl], .agg #[.int .i64 nh, .int .u64 nl]] w' fun e w'' => e = .returned (.agg #[.int .i64 ah, .int .u64 al]) ∧ ∃ x : Later w', w'' = x.out) (h4 : ∀ w', Calls Try.prog 26 #[.agg #[.int .i64 ah, .int .u64 al], .agg #[.int .i64 ah, .int .u64 al]] w' fun e w'' => e = .returned (.agg #[.int .i64 0, .int .u64 0]) ∧ ∃ x : Later w', w'' = x.out) (h5 : ∀ w', Calls Try.prog 24 #[.agg #[.int .i64 0, .int .u64 0], .agg #[.int .i64 ah, .int .u64 al]] w' fun e w'' => e = .returned (.agg #[.int .i64 ah, .int .u64 al]) ∧ ∃ x : Later w', w'' = x.out) (d1 : decide (4611686018427387904 < ah) = false) (d2 : decide (ah < -4611686018427387904) = true) :
    Calls Try.prog 7 #[.agg #[.int .i64 ah, .int .u64 al], .int .i64 n] w fun e w' => e = .returned (.bool true) ∧ ∃ x : Later w, w' = x.out := by
  have Hh1 := Lib.hid h1; clear h1
  have Hh2 := Lib.hid h2; clear h2
  have Hh3 := Lib.hid h3; clear h3
  have Hh4 := Lib.hid h4; clear h4
  have Hh5 := Lib.hid h5; clear h5
  go_enter Try.func7, Try.ntmps7
  go_upto_region 1 with fail
  go_cut [5] (fun s5 wx => ∃ g : Nat, s5 = .pointer (some ⟨g, 0, none⟩) ∧ g < wx.heap.size ∧ wx.cell? ⟨g, 0, none⟩ = some (.int .i64 sh) ∧ wx.cell? ⟨g, 1, none⟩ = some (.int .u64 sl) ∧
    w.heap.size < wx.heap.size ∧ wx.cell? ⟨w.heap.size, 0, none⟩ = some (.int .i64 ah) ∧ wx.cell? ⟨w.heap.size, 1, none⟩ = some (.int .u64 al) ∧ Below w.heap.size w wx)
  case first =>
    go_region_with (first | (go_at_call 21; (with_reducible refine (Hh1.out _).mono ?_); rintro e _ ⟨rfl, x, rfl⟩) | (go_at_call 24; (with_reducible refine (Hh2.out _).mono ?_); rintro e _ ⟨rfl, x, rfl⟩))
    all_goals (go_wp2_with fail; go_meet; exact ⟨_, rfl, by simp [go_sem], by simp [go_sem], by simp [go_sem], by simp [go_sem], by simp [go_sem], by simp [go_sem], by repeat (first | (with_reducible assumption) | (with_reducible exact Below.refl _ _) | (with_reducible refine Later.after ?_ _) | (with_reducible refine Later.newer ?_ _) | (with_reducible refine Below.drew ?_) | (with_reducible refine Below.setCell ?_ (by first | exact Nat.le_refl _ | exact Nat.le_add_right _ _ | omega | (simp [go_sem]; done) | (simp [go_sem]; omega)) _))⟩)
  case rest =>
    obtain ⟨g, rfl, hg, hg0, hg1, hw0, hwa, hwb, hB⟩ := hcut
    have HB := Lib.hid hB
    clear hB
    go_wp2_with (fail)
    refine wp_region_later (by kernel_rfl) (by kernel_rfl) ?_
    repeat (go_big_quiet_step ((first | (go_at_call 21; with_reducible exact Later.call _ (Hh1.out _)) | (go_at_call 26; with_reducible exact Later.call _ (Hh3.out _)) | (go_at_call 26; with_reducible exact Later.call _ (Hh4.out _)) | (go_at_call 24; with_reducible exact Later.call _ (Hh5.out _)))))
    refine wpQuiet_nil ?_
    intro x
    go_wp2_with (first | (go_at_call 19; (with_reducible refine (shown_c _).mono ?_); rintro e _ ⟨rfl, x, rfl⟩))
    have hB := HB.out
    go_ret
    exact ⟨rfl, (Later.mk_of (by repeat (first | (with_reducible assumption) | (with_reducible exact Below.refl _ _) | (with_reducible refine Later.after ?_ _) | (with_reducible refine Later.newer ?_ _) | (with_reducible refine Below.drew ?_) | (with_reducible refine Below.setCell ?_ (by first | exact Nat.le_refl _ | exact Nat.le_add_right _ _ | omega | (simp [go_sem]; done) | (simp [go_sem]; omega)) _))))⟩

set_option maxRecDepth 100000 in
set_option maxHeartbeats 2000000 in
theorem order_near (ah al n nh nl sh sl o : Int) (w : World) (h1 : ∀ w', Calls Try.prog 21 #[.int .i64 n] w' fun e w'' => e = .returned (.agg #[.int .i64 nh, .int .u64 nl]) ∧ ∃ x : Later w', w'' = x.out) (h2 : ∀ w', Calls Try.prog 24 #[.agg #[.int .i64 ah, .int .u64 al], .agg #[.int .i64 nh, .int .u64 nl]] w' fun e w'' => e = .returned (.agg #[.int .i64 sh, .int .u64 sl]) ∧ ∃ x : Later w', w'' = x.out) (h3 : ∀ w', Calls Try.prog 26 #[.agg #[.int .i64 sh, .int .u64 sl], .agg #[.int .i64 nh, .int .u64 nl]] w' fun e w'' => e = .returned (.agg #[.int .i64 ah, .int .u64 al]) ∧ ∃ x : Later w', w'' = x.out) (h4 : ∀ w', Calls Try.prog 26 #[.agg #[.int .i64 ah, .int .u64 al], .agg #[.int .i64 ah, .int .u64 al]] w' fun e w'' => e = .returned (.agg #[.int .i64 0, .int .u64 0]) ∧ ∃ x : Later w', w'' = x.out) (h5 : ∀ w', Calls Try.prog 24 #[.agg #[.int .i64 0, .int .u64 0], .agg #[.int .i64 ah, .int .u64 al]] w' fun e w'' => e = .returned (.agg #[.int .i64 ah, .int .u64 al]) ∧ ∃ x : Later w', w'' = x.out) (d1 : decide (4611686018427387904 < ah) = false) (d2 : decide (ah < -4611686018427387904) = false) (h6 : ∀ w', Calls Try.prog 22 #[.agg #[.int .i64 sh, .int .u64 sl], .agg #[.int .i64 ah, .int .u64 al]] w' fun e w'' => e = .returned (.int .i64 o) ∧ ∃ x : Later w', w'' = x.out) (h7 : ∀ w', Calls Try.prog 22 #[.agg #[.int .i64 ah, .int .u64 al], .agg #[.int .i64 sh, .int .u64 sl]] w' fun e w'' => e = .returned (.int .i64 (-o)) ∧ ∃ x : Later w', w'' = x.out) (h8 : ∀ w', Calls Try.prog 20 #[.agg #[.int .i64 nh, .int .u64 nl]] w' fun e w'' => e = .returned (.int .i64 o) ∧ ∃ x : Later w', w'' = x.out) (o0 : -1 ≤ o) (o1 : o ≤ 1) :
    Calls Try.prog 7 #[.agg #[.int .i64 ah, .int .u64 al], .int .i64 n] w fun e w' => e = .returned (.bool true) ∧ ∃ x : Later w, w' = x.out := by
  have Hh1 := Lib.hid h1; clear h1
  have Hh2 := Lib.hid h2; clear h2
  have Hh3 := Lib.hid h3; clear h3
  have Hh4 := Lib.hid h4; clear h4
  have Hh5 := Lib.hid h5; clear h5
  have Hh6 := Lib.hid h6; clear h6
  have Hh7 := Lib.hid h7; clear h7
  have Hh8 := Lib.hid h8; clear h8
  go_enter Try.func7, Try.ntmps7
  go_upto_region 1 with fail
  go_cut [5] (fun s5 wx => ∃ g : Nat, s5 = .pointer (some ⟨g, 0, none⟩) ∧ g < wx.heap.size ∧ wx.cell? ⟨g, 0, none⟩ = some (.int .i64 sh) ∧ wx.cell? ⟨g, 1, none⟩ = some (.int .u64 sl) ∧
    w.heap.size < wx.heap.size ∧ wx.cell? ⟨w.heap.size, 0, none⟩ = some (.int .i64 ah) ∧ wx.cell? ⟨w.heap.size, 1, none⟩ = some (.int .u64 al) ∧ Below w.heap.size w wx)
  case first =>
    go_region_with (first | (go_at_call 21; (with_reducible refine (Hh1.out _).mono ?_); rintro e _ ⟨rfl, x, rfl⟩) | (go_at_call 24; (with_reducible refine (Hh2.out _).mono ?_); rintro e _ ⟨rfl, x, rfl⟩))
    all_goals (go_wp2_with fail; go_meet; exact ⟨_, rfl, by simp [go_sem], by simp [go_sem], by simp [go_sem], by simp [go_sem], by simp [go_sem], by simp [go_sem], by repeat (first | (with_reducible assumption) | (with_reducible exact Below.refl _ _) | (with_reducible refine Later.after ?_ _) | (with_reducible refine Later.newer ?_ _) | (with_reducible refine Below.drew ?_) | (with_reducible refine Below.setCell ?_ (by first | exact Nat.le_refl _ | exact Nat.le_add_right _ _ | omega | (simp [go_sem]; done) | (simp [go_sem]; omega)) _))⟩)
  case rest =>
    obtain ⟨g, rfl, hg, hg0, hg1, hw0, hwa, hwb, hB⟩ := hcut
    have HB := Lib.hid hB
    clear hB
    go_wp2_with (fail)
    refine wp_region_later (by kernel_rfl) (by kernel_rfl) ?_
    repeat (go_big_quiet_step ((first | (go_at_call 21; with_reducible exact Later.call _ (Hh1.out _)) | (go_at_call 26; with_reducible exact Later.call _ (Hh3.out _)) | (go_at_call 26; with_reducible exact Later.call _ (Hh4.out _)) | (go_at_call 24; with_reducible exact Later.call _ (Hh5.out _)))))
    refine wpQuiet_nil ?_
    intro x
    go_wp2_with (first | (go_at_call 19; (with_reducible refine (shown_c _).mono ?_); rintro e _ ⟨rfl, x, rfl⟩))
    refine wp_region_later (by kernel_rfl) (by kernel_rfl) ?_
    repeat (go_big_quiet_step ((first | (go_at_call 21; with_reducible exact Later.call _ (Hh1.out _)) | (go_at_call 22; with_reducible exact Later.call _ (Hh6.out _)) | (go_at_call 22; with_reducible exact Later.call _ (Hh7.out _)) | (go_at_call 20; with_reducible exact Later.call _ (Hh8.out _)))))
    refine wpQuiet_nil ?_
    intro x
    go_wp2
    have hB := HB.out
    go_ret
    exact ⟨rfl, (Later.mk_of (by repeat (first | (with_reducible assumption) | (with_reducible exact Below.refl _ _) | (with_reducible refine Later.after ?_ _) | (with_reducible refine Later.newer ?_ _) | (with_reducible refine Below.drew ?_) | (with_reducible refine Below.setCell ?_ (by first | exact Nat.le_refl _ | exact Nat.le_add_right _ _ | omega | (simp [go_sem]; done) | (simp [go_sem]; omega)) _))))⟩

theorem walk (a0 b0 a1 : Int) (w0 : (Lit.int .i64 a0).wf = true) (u0 : (Lit.int .u64 b0).wf = true) (w1 : (Lit.int .i64 a1).wf = true) (w : World) :
    Calls Try.prog 7 #[.agg #[.int .i64 a0, .int .u64 b0], .int .i64 a1] w fun e w' => e = .returned (.bool true) ∧ ∃ x : Later w, w' = x.out := by
  obtain ⟨n, hn, rfl, rfl⟩ := both_of a0 b0 (bounds_i64 w0) (bounds_u64 u0)
  have hb := bounds_i64 w1
  have hh := halves n hn
  have lb := loW_bd n
  have h3 := fun v => sub_c (n + a1) a1 v
  rw [show n + a1 - a1 = n by omega] at h3
  have h4 := fun v => sub_c n n v
  rw [show n - n = 0 by omega, W_zero.1, W_zero.2] at h4
  have h5 := fun v => add_c 0 n v
  rw [show 0 + n = n by omega, W_zero.1, W_zero.2] at h5
  have rb := R64_of w1
  by_cases d1 : 4611686018427387904 < hiW n
  · exact order_far1 _ _ a1 _ _ _ _ 0 w (fun v => of_c a1 v rb) (fun v => add_c n a1 v) h3 h4 h5 (by simpa using d1)
  · by_cases d2 : hiW n < -4611686018427387904
    · exact order_far2 _ _ a1 _ _ _ _ 0 w (fun v => of_c a1 v rb) (fun v => add_c n a1 v) h3 h4 h5 (by simpa using d1) (by simpa using d2)
    · have r2 : R128 (n + a1) := by unfold R128; omega
      have h6 := fun v => cmp_c (n + a1) n v r2 hn
      rw [show ordW (n + a1) n = ordW a1 0 by unfold ordW; split <;> split <;> (try split) <;> (try split) <;> omega] at h6
      have h7 := fun v => cmp_c n (n + a1) v hn r2
      rw [show ordW n (n + a1) = -ordW a1 0 by unfold ordW; split <;> split <;> (try split) <;> (try split) <;> omega] at h7
      have o : -1 ≤ ordW a1 0 ∧ ordW a1 0 ≤ 1 := by unfold ordW; split <;> (try split) <;> omega
      exact order_near _ _ a1 _ _ _ _ (ordW a1 0) w (fun v => of_c a1 v rb) (fun v => add_c n a1 v) h3 h4 h5 (by simpa using d1) (by simpa using d2) h6 h7 (fun v => sign_c a1 v (by unfold R128; omega)) o.1 o.2


set_option maxRecDepth 100000 in
theorem lifted (os : Os) (started : os.Started) (H : Type) (enc : TypeId × Value → H) :
    ReturnsInHanded {} Try.checked os 7 .any (Rows.wideOrderSpec.pre6 enc Try.prog Try.f7 Rows.wideOrderRow.domain false) (Rows.wideOrderSpec.post enc Try.prog Try.f7 false true false false) := by
  refine returnsInHanded_of_change (C := Try.checked) own started (by kernel_rfl) Try.func7
    (ChangeSpec.witness6 (enc := enc) (C := Try.checked) false ⟨#[], #[.agg #[.int .i64 0, .int .u64 0], .int .i64 0], []⟩ 8 (by kernel_rfl) (by kernel_rfl) (by kernel_rfl) (by kernel_rfl)) ?_
  intro W base args ds gs before hval0 hW hcnd _
  have hval : ∀ (j : Nat) t v, Try.f7.params[j]? = some t → args[j]? = some v → Value.okWide Try.prog W .any base t v := hval0
  have hW' := hW
  obtain ⟨p, q, hA0, hV, rfl, hfz, hnd⟩ := hW
  have hA : DataW.TrodAll enc Try.prog W 0 (fun _ => true) true Try.f7.params.toList args.toList ds p := hA0
  rw [Try.params7] at hA hval
  obtain ⟨v0, vs0, d0, ds0, p0, q0, hargs, rfl, rfl, h0, r0⟩ := trodAll_cons hA
  obtain ⟨v1, vs1, d1, ds1, p1, q1, rfl, rfl, rfl, h1, r1⟩ := trodAll_cons r0
  obtain ⟨rfl, rfl, rfl⟩ := trodAll_nil r1
  obtain rfl : args = #[v0, v1] := by cases args; simp_all
  obtain ⟨rfl, rfl⟩ := trodVars_none hV
  obtain ⟨a0, b0, rfl, rfl, rfl, w0, u0⟩ := open_two Try.underlying24 (by kernel_rfl) cells24 Try.underlying2 Try.underlying22 (hval 0 24 v0 rfl rfl) h0
  obtain ⟨a1, rfl, rfl, rfl, w1⟩ := open_int Try.underlying2 (hval 1 2 v1 rfl rfl) h1
  clear hA0 hval0
  simp only [List.append_nil] at hW'
  refine (walk a0 b0 a1 w0 u0 w1 W).mono fun e W' ⟨he, hg⟩ => ?_
  subst he
  exact ⟨_, rfl, post_later (pa := []) hW' (fun _ _ _ => (trodAll_cons_mk (shut_bool Try.underlying4 _) trodAll_mk0)) (fun sp _ => (trodAll_cons_mk (shut_two Try.underlying24 (by kernel_rfl) cells24 Try.underlying2 Try.underlying22 w0 u0) (trodAll_cons_mk (shut_int Try.underlying2 w1) trodAll_mk0))) (fun _ _ => rfl) rfl
    hg (ok_one (by kernel_rfl) rfl (okWide_bool_mk Try.underlying4 _))⟩

theorem over : Rows.wideOrderRow.holds Try.pinned (OpenSpec.ofChange Rows.wideOrderSpec) :=
  OpenClaim.holds_of_wide 7 Try.f7 rfl rfl rfl rfl rfl rfl rfl ⟨rfl, rfl, rfl, rfl, rfl⟩ rfl rfl rfl rfl rfl (by kernel_rfl) Try.func7 (by kernel_rfl)
    (of_decide_eq_true (by kernel_rfl)) (by unfold Func.isWrapper; first | (rw [if_pos (by decide +kernel)]; kernel_rfl) | (rw [if_neg (by decide +kernel)]; exact ⟨rfl, rfl⟩))
    (fun os started H enc _ => lifted os started H enc)

theorem proved : Rows.WideOrderSaid :=
  over
#print axioms proved
end Go.Proofs.Ytfaiepalmkobeaa.wideOrder


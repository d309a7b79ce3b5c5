/-
  The reference's own small functions of layers 9 and 10: the same points, half, the middle.
-/
import Derived.Test.YtcdnekhpeghkiaaC1
namespace Go.Proofs.Ytcdnekhpeghkiaa
set_option linter.unusedVariables false
open Go.RowKit

/-- these points lie in block g, from its beginning -/
def PtsIn (W : World) (g : Nat) (l : List (Int × Int)) : Prop := g < W.heap.size ∧ ∀ (i : Nat) (p : Int × Int), l[i]? = some p → W.cell? ⟨g, i * 2, none⟩ = some (.int .i64 p.1) ∧ W.cell? ⟨g, i * 2 + 1, none⟩ = some (.int .i64 p.2)
theorem PtsIn.later {W : World} {g : Nat} {l : List (Int × Int)} (h : PtsIn W g l) (x : Later W) : PtsIn x.out g l :=
  ⟨Nat.lt_of_lt_of_le h.1 x.size_le, fun i p hp => by
    have := h.2 i p hp
    exact ⟨(x.below.cell (p := ⟨g, i * 2, none⟩) h.1).trans this.1, (x.below.cell (p := ⟨g, i * 2 + 1, none⟩) h.1).trans this.2⟩⟩
theorem PtsIn.own {W : World} {base g n cap : Nat} {l : List (Int × Int)} (h : W.ownsRow base 23 2 (.slice (some ⟨g, 0, none⟩) n cap) n (fl l)) : PtsIn W g l :=
  ⟨(h.lt g rfl).2, fun i p hp => by
    have hi : i < l.length := (List.getElem?_eq_some_iff.1 hp).1
    have hl := h.1
    rw [fl_len] at hl
    rw [h.cellAt (i * 2) (by omega), h.cellAt (i * 2 + 1) (by omega)]
    exact fl_at l i p hp⟩
set_option maxRecDepth 100000 in
set_option maxHeartbeats 2000000 in
theorem same_c (W : World) (g g' n c c' : Nat) (l : List (Int × Int)) (hn : l.length = n) (h9 : n ≤ 1073741824) (h : PtsIn W g l) (h' : PtsIn W g' l) :
    Calls Try.prog 13 #[.slice (some ⟨g, 0, none⟩) n c, .slice (some ⟨g', 0, none⟩) n c'] W fun e w' => e = .returned (.bool true) ∧ ∃ x : Later W, w' = x.out := by
  have H := Lib.hid h
  have H' := Lib.hid h'
  have HN := Lib.hid hn
  have lg := h.1
  have lg' := h'.1
  clear h h' hn
  go_enter Try.func13, Try.ntmps13
  go_wp2
  go_loopw [5] (fun u wr => ∃ k : Nat, k ≤ n ∧ u = .int .i64 k ∧ ∃ y : Later W, wr = y.out) (fun u _ => n - (intOf u).toNat)
  case atStart => exact ⟨0, by omega, rfl, ⟨W, Below.refl _ _⟩, rfl⟩
  case round =>
    obtain ⟨k, hk, rfl, y, rfl⟩ := hrel
    by_cases hlt : k < n
    · obtain ⟨⟨p, q⟩, e⟩ : ∃ p, l[k]? = some p := ⟨_, List.getElem?_eq_getElem (by rw [HN.out]; exact hlt)⟩
      obtain ⟨r0, r1⟩ := H.out.2 k _ e
      obtain ⟨r2, r3⟩ := H'.out.2 k _ e
      have hd : decide (k < n) = true := by simp [hlt]
      clear e
      go_wp2_with (fail)
      refine wp_region_later (by kernel_rfl) (by kernel_rfl) ?_
      repeat (go_big_quiet_step ((first | fail)))
      refine wpQuiet_nil ?_
      intro x
      go_wp2_with (fail)
      go_roundw
      case rel => exact ⟨k + 1, by omega, by go_num, ⟨x.out, y.below.trans (x.below.mono y.below.size)⟩, rfl⟩
      case measure => simp [intOf]; omega
    · obtain rfl : k = n := by omega
      go_wp2_with (fail)
      exact bodyPost_ret (v := .bool true) (by simp [results, Try.results13, go_sem, *]) rfl ⟨rfl, (Later.mk_of (by repeat (first | (with_reducible assumption) | (with_reducible exact Below.refl _ _) | (with_reducible refine Later.after ?_ _) | (with_reducible refine Later.newer ?_ _) | (with_reducible refine Below.drew ?_) | (with_reducible refine Below.setCell ?_ (by first | exact Nat.le_refl _ | exact Nat.le_add_right _ _ | omega | (simp [go_sem]; done) | (simp [go_sem]; omega)) _))))⟩


theorem tdiv_two (n : Int) : (n.tmod 2 = 0 ∨ 0 ≤ n → n.tdiv 2 = n / 2) ∧ (n.tmod 2 ≠ 0 → n < 0 → n.tdiv 2 - 1 = n / 2) := by
  rcases Int.le_total 0 n with h | h
  · rw [Int.tdiv_eq_ediv_of_nonneg h, Int.tmod_eq_emod_of_nonneg h]
    exact ⟨fun _ => rfl, fun _ _ => by omega⟩
  · obtain ⟨m, rfl⟩ : ∃ m, n = -m := ⟨-n, by omega⟩
    rw [Int.neg_tdiv, Int.neg_tmod, Int.tdiv_eq_ediv_of_nonneg (by omega), Int.tmod_eq_emod_of_nonneg (by omega)]
    exact ⟨fun k => by rcases k with k | k <;> omega, fun k _ => by omega⟩


set_option maxRecDepth 100000 in
set_option maxHeartbeats 400000 in
theorem rhalf_p0 (n : Int) (w : World)
    (n0 : -4611686018427387904 ≤ n) (n9 : n ≤ 4611686018427387904) (e3 : 0 ≤ n) (e : (n % 2 != 0) = false) :
    Calls Try.prog 88 #[.int .i64 n] w fun e w' => e = .returned (.int .i64 (n / 2)) ∧ ∃ x : Later w, w' = x.out := by
  skip
  go_enter Try.func88, Try.ntmps88
  go_wp2_with (fail)
  exact bodyPost_ret (v := .int .i64 (n / 2)) (by simp [results, Try.results88, go_sem, *]) rfl ⟨rfl, (Later.mk_of (by repeat (first | (with_reducible assumption) | (with_reducible exact Below.refl _ _) | (with_reducible refine Later.after ?_ _) | (with_reducible refine Later.newer ?_ _) | (with_reducible refine Below.drew ?_) | (with_reducible refine Below.setCell ?_ (by first | exact Nat.le_refl _ | exact Nat.le_add_right _ _ | omega | (simp [go_sem]; done) | (simp [go_sem]; omega)) _))))⟩


set_option maxRecDepth 100000 in
set_option maxHeartbeats 400000 in
theorem rhalf_p1 (n : Int) (w : World)
    (n0 : -4611686018427387904 ≤ n) (n9 : n ≤ 4611686018427387904) (e3 : 0 ≤ n) (e : (n % 2 != 0) = true) (d : decide (n < 0) = false) :
    Calls Try.prog 88 #[.int .i64 n] w fun e w' => e = .returned (.int .i64 (n / 2)) ∧ ∃ x : Later w, w' = x.out := by
  skip
  go_enter Try.func88, Try.ntmps88
  go_wp2_with (fail)
  exact bodyPost_ret (v := .int .i64 (n / 2)) (by simp [results, Try.results88, go_sem, *]) rfl ⟨rfl, (Later.mk_of (by repeat (first | (with_reducible assumption) | (with_reducible exact Below.refl _ _) | (with_reducible refine Later.after ?_ _) | (with_reducible refine Later.newer ?_ _) | (with_reducible refine Below.drew ?_) | (with_reducible refine Below.setCell ?_ (by first | exact Nat.le_refl _ | exact Nat.le_add_right _ _ | omega | (simp [go_sem]; done) | (simp [go_sem]; omega)) _))))⟩


set_option maxRecDepth 100000 in
set_option maxHeartbeats 400000 in
theorem rhalf_n0 (n h : Int) (w : World)
    (n0 : -4611686018427387904 ≤ n) (n9 : n ≤ 4611686018427387904) (e3 : n < 0) (e : (n.tmod 2 != 0) = false) (e2 : n.tdiv 2 = h) (h0 : -4611686018427387904 ≤ h) (h9 : h ≤ 4611686018427387904) :
    Calls Try.prog 88 #[.int .i64 n] w fun e w' => e = .returned (.int .i64 h) ∧ ∃ x : Later w, w' = x.out := by
  skip
  go_enter Try.func88, Try.ntmps88
  go_wp2_with (fail)
  exact bodyPost_ret (v := .int .i64 h) (by simp [results, Try.results88, go_sem, *]) rfl ⟨rfl, (Later.mk_of (by repeat (first | (with_reducible assumption) | (with_reducible exact Below.refl _ _) | (with_reducible refine Later.after ?_ _) | (with_reducible refine Later.newer ?_ _) | (with_reducible refine Below.drew ?_) | (with_reducible refine Below.setCell ?_ (by first | exact Nat.le_refl _ | exact Nat.le_add_right _ _ | omega | (simp [go_sem]; done) | (simp [go_sem]; omega)) _))))⟩


set_option maxRecDepth 100000 in
set_option maxHeartbeats 400000 in
theorem rhalf_n1 (n h : Int) (w : World)
    (n0 : -4611686018427387904 ≤ n) (n9 : n ≤ 4611686018427387904) (e3 : n < 0) (d : decide (n < 0) = true) (e : (n.tmod 2 != 0) = true) (e2 : n.tdiv 2 = h) (h0 : -4611686018427387904 ≤ h) (h9 : h ≤ 4611686018427387904) :
    Calls Try.prog 88 #[.int .i64 n] w fun e w' => e = .returned (.int .i64 (h - 1)) ∧ ∃ x : Later w, w' = x.out := by
  skip
  go_enter Try.func88, Try.ntmps88
  go_wp2_with (fail)
  exact bodyPost_ret (v := .int .i64 (h - 1)) (by simp [results, Try.results88, go_sem, *]) rfl ⟨rfl, (Later.mk_of (by repeat (first | (with_reducible assumption) | (with_reducible exact Below.refl _ _) | (with_reducible refine Later.after ?_ _) | (with_reducible refine Later.newer ?_ _) | (with_reducible refine Below.drew ?_) | (with_reducible refine Below.setCell ?_ (by first | exact Nat.le_refl _ | exact Nat.le_add_right _ _ | omega | (simp [go_sem]; done) | (simp [go_sem]; omega)) _))))⟩


theorem rhalf_c (n : Int) (w : World) (n0 : -4611686018427387904 ≤ n) (n9 : n ≤ 4611686018427387904) : Calls Try.prog 88 #[.int .i64 n] w fun e w' => e = .returned (.int .i64 (n / 2)) ∧ ∃ x : Later w, w' = x.out := by
  by_cases h : 0 ≤ n
  · by_cases e : n % 2 = 0
    · exact rhalf_p0 n w n0 n9 h (by simp [e])
    · exact rhalf_p1 n w n0 n9 h (by simp [e]) (by simp; omega)
  · obtain ⟨t1, t2⟩ := tdiv_two n
    by_cases e : n.tmod 2 = 0
    · have e2 := t1 (.inl e)
      exact rhalf_n0 n (n / 2) w n0 n9 (by omega) (by simp [e]) e2 (by omega) (by omega)
    · have e2 := t2 e (by omega)
      rw [← e2]
      exact rhalf_n1 n (n.tdiv 2) w n0 n9 (by omega) (by simp; omega) (by simp [e]) rfl (by omega) (by omega)


set_option maxRecDepth 100000 in
set_option maxHeartbeats 400000 in
theorem rmid_c0 (p q z u a b X Y : Int) (w : World)
    (e1 : wrap64 (p + z) = a) (e2 : wrap64 (q + u) = b) (e3 : IntKind.i64.wrap (p + z) = a) (e4 : IntKind.i64.wrap (q + u) = b) (c1 : ∀ w', Calls Try.prog 88 #[.int .i64 a] w' fun e w'' => e = .returned (.int .i64 X) ∧ ∃ x : Later w', w'' = x.out) (c2 : ∀ w', Calls Try.prog 88 #[.int .i64 b] w' fun e w'' => e = .returned (.int .i64 Y) ∧ ∃ x : Later w', w'' = x.out) :
    Calls Try.prog 77 #[.agg #[.int .i64 p, .int .i64 q], .agg #[.int .i64 z, .int .i64 u]] w fun e w' => e = .returned (.agg #[.int .i64 X, .int .i64 Y]) ∧ ∃ x : Later w, w' = x.out := by
  have Hc1 := Lib.hid c1; clear c1
  have Hc2 := Lib.hid c2; clear c2
  go_enter Try.func77, Try.ntmps77
  go_wp2_with (fail)
  refine wp_region_later_tail 13 (by kernel_rfl) (by kernel_rfl) ?_
  simp only [List.take_succ_cons, List.take_zero, List.drop_succ_cons, List.drop_zero]
  repeat (go_big_quiet_step ((first | (go_at_call 88; with_reducible exact Later.call _ (Hc1.out _)) | (go_at_call 88; with_reducible exact Later.call _ (Hc2.out _)))))
  refine wpQuiet_nil ?_
  intro x
  go_wp2_with (fail)
  exact bodyPost_ret (v := .agg #[.int .i64 X, .int .i64 Y]) (by simp [results, Try.results77, go_sem, *]) rfl ⟨rfl, (Later.mk_of (by repeat (first | (with_reducible assumption) | (with_reducible exact Below.refl _ _) | (with_reducible refine Later.after ?_ _) | (with_reducible refine Later.newer ?_ _) | (with_reducible refine Below.drew ?_) | (with_reducible refine Below.setCell ?_ (by first | exact Nat.le_refl _ | exact Nat.le_add_right _ _ | omega | (simp [go_sem]; done) | (simp [go_sem]; omega)) _))))⟩


theorem rmid_c (p q z u : Int) (w : World) (p0 : -2147483648 ≤ p) (p9 : p ≤ 2147483648) (q0 : -2147483648 ≤ q) (q9 : q ≤ 2147483648) (z0 : -2147483648 ≤ z) (z9 : z ≤ 2147483648) (u0 : -2147483648 ≤ u) (u9 : u ≤ 2147483648) :
    Calls Try.prog 77 #[.agg #[.int .i64 p, .int .i64 q], .agg #[.int .i64 z, .int .i64 u]] w fun e w' => e = .returned (.agg #[.int .i64 (((p + z) / 2)), .int .i64 (((q + u) / 2))]) ∧ ∃ x : Later w, w' = x.out :=
  rmid_c0 p q z u _ _ _ _ w (w64_in (p + z) (by unfold R64; omega)) (w64_in (q + u) (by unfold R64; omega)) (IntWalk.i64_in _ (by omega)) (IntWalk.i64_in _ (by omega)) (fun v => rhalf_c (p + z) v (by omega) (by omega)) (fun v => rhalf_c (q + u) v (by omega) (by omega))

end Go.Proofs.Ytcdnekhpeghkiaa

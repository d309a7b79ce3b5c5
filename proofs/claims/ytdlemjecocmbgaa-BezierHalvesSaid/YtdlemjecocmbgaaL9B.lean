/-
  The halves of a segment: where they begin and end, and that none leaves the box of its points: walked.
-/
import Derived.Test.YtdlemjecocmbgaaL9A
namespace Go.Proofs.Ytdlemjecocmbgaa
set_option linter.unusedVariables false
open Go.RowKit

/-- the least, and the greatest, of the first points -/
def mnk (s : En) (c : Nat) : Nat → Int
  | 0 => s c
  | k + 1 => min (mnk s c k) (s (2 * k + c))
def mxk (s : En) (c : Nat) : Nat → Int
  | 0 => s c
  | k + 1 => max (mxk s c k) (s (2 * k + c))
theorem mnk_le (s : En) (c : Nat) : ∀ (k i : Nat), i < k → mnk s c k ≤ s (2 * i + c)
  | 0, i, h => by omega
  | k + 1, i, h => by
    unfold mnk
    by_cases e : i = k
    · subst e; omega
    · have := mnk_le s c k i (by omega); omega
theorem mxk_ge (s : En) (c : Nat) : ∀ (k i : Nat), i < k → s (2 * i + c) ≤ mxk s c k
  | 0, i, h => by omega
  | k + 1, i, h => by
    unfold mxk
    by_cases e : i = k
    · subst e; omega
    · have := mxk_ge s c k i (by omega); omega
theorem half_in (s : En) (g : GoodE s) (j c : Nat) (hj : j < nn s) (hc : c < 2) : (mnk s c (nn s) ≤ hlfA s (2 * j + c) ∧ hlfA s (2 * j + c) ≤ mxk s c (nn s)) ∧ (mnk s c (nn s) ≤ hlfB s (2 * j + c) ∧ hlfB s (2 * j + c) ≤ mxk s c (nn s)) := by
  have n4 : nn s ≤ 4 ∧ 2 ≤ nn s := by rcases nn_of g with k | k | k <;> omega
  have hb : ∀ i, i < nn s → mnk s c (nn s) ≤ cx s c i ∧ cx s c i ≤ mxk s c (nn s) := fun i hi => ⟨mnk_le s c _ i hi, mxk_ge s c _ i hi⟩
  have q1 : (2 * j + c) / 2 = j := by omega
  have q2 : (2 * j + c) % 2 = c := by omega
  unfold hlfA hlfB
  rw [if_pos (show 2 * j + c < 8 by omega), q1, q2, if_pos hj, if_pos (show 2 * j + c < 8 by omega), if_pos hj]
  exact ⟨mdn_bd j 1 (cx s c) (fun i hi => hb i (by omega)) 0 (by omega), mdn_bd (nn s - 1 - j) (j + 1) (cx s c) (fun i hi => hb i (by omega)) j (by omega)⟩
theorem half_ends (s : En) (g : GoodE s) : hlfA s 8 = s 8 ∧ hlfB s 8 = s 8 ∧ hlfA s 0 = s 0 ∧ hlfA s 1 = s 1 ∧ enP (hlfB s) = enP s ∧ enP (hlfA s) = (hlfB s 0, hlfB s 1) := by
  refine ⟨by simp [hlfA], by simp [hlfB], ?_, ?_, enP_B s g, ?_⟩
  · rcases nn_of g with ⟨h, h8⟩ | ⟨h, h8⟩ | ⟨h, h8⟩ <;> simp [hlfA, h, mdn, cx]
  · rcases nn_of g with ⟨h, h8⟩ | ⟨h, h8⟩ | ⟨h, h8⟩ <;> simp [hlfA, h, mdn, cx]
  · rcases nn_of g with ⟨h, h8⟩ | ⟨h, h8⟩ | ⟨h, h8⟩ <;> simp [enP, hlfA, hlfB, nn, h8, mdn, cx]


set_option maxRecDepth 100000 in
set_option maxHeartbeats 400000 in
theorem bhalves_no (s : En) (w : World) (e1 : goodB s = false) : Calls Try.prog 8 #[.agg #[.int .i64 (s 0), .int .i64 (s 1), .int .i64 (s 2), .int .i64 (s 3), .int .i64 (s 4), .int .i64 (s 5), .int .i64 (s 6), .int .i64 (s 7), .int .i64 (s 8)]] w fun e w' => e = .returned (.bool true) ∧ ∃ x : Later w, w' = x.out := by
  have cg := fun v => gd9_c s v
  rw [e1] at cg
  have Hg := Lib.hid cg
  clear cg e1
  go_enter Try.func8, Try.ntmps8
  go_wp2_with (first | (go_at_call 32; (with_reducible refine (Hg.out _).mono ?_); rintro e _ ⟨rfl, x, rfl⟩) | (go_at_call 33; (with_reducible refine (shown_9 _).mono ?_); rintro e _ ⟨rfl, x, rfl⟩))
  exact bodyPost_ret (v := .bool true) (by simp [results, Try.results8, go_sem, *]) rfl ⟨rfl, (Later.mk_of (by repeat (first | (with_reducible assumption) | (with_reducible exact Below.refl _ _) | (with_reducible refine Later.after ?_ _) | (with_reducible refine Later.newer ?_ _) | (with_reducible refine Below.drew ?_) | (with_reducible refine Below.setCell ?_ (by first | exact Nat.le_refl _ | exact Nat.le_add_right _ _ | omega | (simp [go_sem]; done) | (simp [go_sem]; omega)) _))))⟩

set_option maxRecDepth 100000 in
set_option maxHeartbeats 4000000 in
theorem bhalves_yes (s : En) (h9 : s 9 = 0) (w : World) (eg : goodB s = true) : Calls Try.prog 8 #[.agg #[.int .i64 (s 0), .int .i64 (s 1), .int .i64 (s 2), .int .i64 (s 3), .int .i64 (s 4), .int .i64 (s 5), .int .i64 (s 6), .int .i64 (s 7), .int .i64 (s 8)]] w fun e w' => e = .returned (.bool true) ∧ ∃ x : Later w, w' = x.out := by
  have cg := fun v => gd9_c s v
  rw [eg] at cg
  have G := goodB_good s eg h9
  have n4 : nn s ≤ 4 ∧ 2 ≤ nn s ∧ (nn s : Int) = s 8 := by rcases nn_of G with k | k | k <;> omega
  have HN4 := Lib.hid n4
  have s9 : s 9 < 10 := by rw [h9]; omega
  have ch := fun v => halves_E s G v
  obtain ⟨t1, t2, t3, t4, t5, t6⟩ := half_ends s G
  have p1 := fun v => end_E s G v
  have p2 := fun v => end_E (hlfA s) (good_A G s9) v
  have p3 := fun v => end_E (hlfB s) (good_B G s9) v
  rw [t6, t1, t3, t4] at p2
  rw [t5, t2] at p3
  have HIN : Hid (∀ j, j < nn s → ((mnk s 0 (nn s) ≤ hlfA s (2 * j) ∧ hlfA s (2 * j) ≤ mxk s 0 (nn s)) ∧ (mnk s 0 (nn s) ≤ hlfB s (2 * j) ∧ hlfB s (2 * j) ≤ mxk s 0 (nn s))) ∧ ((mnk s 1 (nn s) ≤ hlfA s (2 * j + 1) ∧ hlfA s (2 * j + 1) ≤ mxk s 1 (nn s)) ∧ (mnk s 1 (nn s) ≤ hlfB s (2 * j + 1) ∧ hlfB s (2 * j + 1) ≤ mxk s 1 (nn s)))) :=
    Lib.hid (fun j hj => ⟨half_in s G j 0 hj (by omega), half_in s G j 1 hj (by omega)⟩)
  have HT := Lib.hid (And.intro t1 (And.intro t2 (And.intro t3 t4)))
  have Hcg := Lib.hid cg; clear cg
  have Hch := Lib.hid ch; clear ch
  have Hp1 := Lib.hid p1; clear p1
  have Hp2 := Lib.hid p2; clear p2
  have Hp3 := Lib.hid p3; clear p3
  clear t1 t2 t3 t4 t5 t6 eg G n4 s9
  go_enter Try.func8, Try.ntmps8
  go_wp2_with (first | (go_at_call 32; (with_reducible refine (Hcg.out _).mono ?_); rintro e _ ⟨rfl, x1, rfl⟩) | (go_at_call 33; (with_reducible refine (shown_9 _).mono ?_); rintro e _ ⟨rfl, x2, rfl⟩) | (go_at_call 34; (with_reducible refine (Hch.out _).mono ?_); rintro e _ ⟨rfl, y1, rfl⟩))
  obtain ⟨t1, t2, t3, t4⟩ := HT.out
  refine wp_region_later (by kernel_rfl) (by kernel_rfl) ?_
  repeat (go_big_quiet_step ((first | (go_at_call 35; with_reducible exact Later.call _ (Hp1.out _)) | (go_at_call 35; with_reducible exact Later.call _ (Hp2.out _)) | (go_at_call 35; with_reducible exact Later.call _ (Hp3.out _)))))
  refine wpQuiet_nil ?_
  intro x
  go_wp2_with (fail)
  clear t1 t2 t3 t4
  have gs1 := x1.size_le
  have gs2 := x2.size_le
  have gs3 := y1.size_le
  have gs4 := x.size_le
  simp only [World.size_alloc, World.size_drew, World.size_setCell] at gs1 gs2 gs3 gs4
  have HGS := Lib.hid (show w.heap.size < y1.out.heap.size ∧ y1.out.heap.size + 1 < x.out.heap.size by omega)
  clear gs1 gs2 gs3 gs4
  go_loopw [7] (fun i wr => ∃ j : Nat, j ≤ 4 ∧ (j : Int) ≤ s 8 ∧ i = .int .i64 j ∧ Blk wr w.heap.size 39 #[.int .i64 (s 0), .int .i64 (s 1), .int .i64 (s 2), .int .i64 (s 3), .int .i64 (s 4), .int .i64 (s 5), .int .i64 (s 6), .int .i64 (s 7), .int .i64 (s 8)] ∧ Blk wr y1.out.heap.size 39 #[.int .i64 (hlfA s 0), .int .i64 (hlfA s 1), .int .i64 (hlfA s 2), .int .i64 (hlfA s 3), .int .i64 (hlfA s 4), .int .i64 (hlfA s 5), .int .i64 (hlfA s 6), .int .i64 (hlfA s 7), .int .i64 (hlfA s 8)] ∧ Blk wr (y1.out.heap.size + 1) 39 #[.int .i64 (hlfB s 0), .int .i64 (hlfB s 1), .int .i64 (hlfB s 2), .int .i64 (hlfB s 3), .int .i64 (hlfB s 4), .int .i64 (hlfB s 5), .int .i64 (hlfB s 6), .int .i64 (hlfB s 7), .int .i64 (hlfB s 8)] ∧ Blk wr x.out.heap.size 23 #[.int .i64 (mnk s 0 j), .int .i64 (mnk s 1 j)] ∧ Blk wr (x.out.heap.size + 1) 23 #[.int .i64 (mxk s 0 j), .int .i64 (mxk s 1 j)] ∧ Below w.heap.size w wr) (fun i _ => 4 - (intOf i).toNat)
  case atStart =>
    have n4 := HN4.out
    exact ⟨0, by omega, by omega, rfl, (by repeat (first | (with_reducible assumption) | (with_reducible refine Blk.later ?_ _) | (with_reducible refine Blk.drew ?_) | ((with_reducible refine Blk.new' ?_); (simp only [World.size_alloc, World.size_setCell, World.size_drew]; done)) | (with_reducible refine Blk.alloc ?_ _))), (by repeat (first | (with_reducible assumption) | (with_reducible refine Blk.later ?_ _) | (with_reducible refine Blk.drew ?_) | ((with_reducible refine Blk.new' ?_); (simp only [World.size_alloc, World.size_setCell, World.size_drew]; done)) | (with_reducible refine Blk.alloc ?_ _))), (by repeat (first | (with_reducible assumption) | (with_reducible refine Blk.later ?_ _) | (with_reducible refine Blk.drew ?_) | ((with_reducible refine Blk.new' ?_); (simp only [World.size_alloc, World.size_setCell, World.size_drew]; done)) | (with_reducible refine Blk.alloc ?_ _))), (by show Blk _ _ 23 #[.int .i64 (s 0), .int .i64 (s 1)]; exact (by repeat (first | (with_reducible assumption) | (with_reducible refine Blk.later ?_ _) | (with_reducible refine Blk.drew ?_) | ((with_reducible refine Blk.new' ?_); (simp only [World.size_alloc, World.size_setCell, World.size_drew]; done)) | (with_reducible refine Blk.alloc ?_ _)))), (by show Blk _ _ 23 #[.int .i64 (s 0), .int .i64 (s 1)]; exact (by repeat (first | (with_reducible assumption) | (with_reducible refine Blk.later ?_ _) | (with_reducible refine Blk.drew ?_) | ((with_reducible refine Blk.new' ?_); (simp only [World.size_alloc, World.size_setCell, World.size_drew]; done)) | (with_reducible refine Blk.alloc ?_ _)))), (by repeat (first | (with_reducible assumption) | (with_reducible exact Below.refl _ _) | (with_reducible refine Later.after ?_ _) | (with_reducible refine Later.newer ?_ _) | (with_reducible refine Below.drew ?_) | (with_reducible refine Below.setCell ?_ (by first | exact Nat.le_refl _ | exact Nat.le_add_right _ _ | omega | (simp [go_sem]; done) | (simp [go_sem]; omega)) _)))⟩
  case round =>
    obtain ⟨j, hj4, hj8, rfl, b0, b3, b4, b5, b6, hB⟩ := hrel
    have n4 := HN4.out
    have hN4 : s 8 ≤ 4 := by omega
    have l0 := b0.lt
    have l3 := b3.lt
    have l4 := b4.lt
    obtain ⟨c5, z5, l5⟩ := b5.all
    obtain ⟨c6, z6, l6⟩ := b6.all
    have f8 : wr.cell? ⟨w.heap.size, 8, none⟩ = some (.int .i64 (s 8)) := by rw [b0.cell]; rfl
    have K0 := Lib.hid b0
    have K3 := Lib.hid b3
    have K4 := Lib.hid b4
    have K5 := Lib.hid b5
    have K6 := Lib.hid b6
    have KB := Lib.hid hB
    by_cases hlt : (j : Int) < s 8
    · have hj : j < 4 := by omega
      obtain ⟨r1, r2⟩ := seg_pt s b0 j hj
      clear b0 b3 b4 b5 b6 hB n4
      go_wp2_with (fail)
      refine wp_region_later_tail 17 (by kernel_rfl) (by kernel_rfl) ?_
      simp only [List.take_succ_cons, List.take_zero, List.drop_succ_cons, List.drop_zero]
      repeat (go_big_quiet_step ((first | fail)))
      refine wpQuiet_nil ?_
      intro x3
      go_wp2_with (fail)
      refine wp_region_later_tail 17 (by kernel_rfl) (by kernel_rfl) ?_
      simp only [List.take_succ_cons, List.take_zero, List.drop_succ_cons, List.drop_zero]
      repeat (go_big_quiet_step ((first | fail)))
      refine wpQuiet_nil ?_
      intro x
      go_wp2_with (fail)
      have hB := KB.out
      obtain ⟨g1, g2⟩ := HGS.out
      go_roundw
      case rel => exact ⟨j + 1, by omega, by omega, by go_num, (((((K0.out.later x3).other _ _ (by omega)).other _ _ (by omega)).later x).other _ _ (by omega)).other _ _ (by omega), (((((K3.out.later x3).other _ _ (by omega)).other _ _ (by omega)).later x).other _ _ (by omega)).other _ _ (by omega), (((((K4.out.later x3).other _ _ (by omega)).other _ _ (by omega)).later x).other _ _ (by omega)).other _ _ (by omega), (((((K5.out.later x3).set _ _).set _ _).later x).other _ _ (by omega)).other _ _ (by omega) |>.eq (by simp [mnk]), ((((((K6.out.later x3).other _ _ (by omega)).other _ _ (by omega)).later x).set _ _).set _ _).eq (by simp [mxk]), (by repeat (first | (with_reducible assumption) | (with_reducible exact Below.refl _ _) | (with_reducible refine Later.after ?_ _) | (with_reducible refine Later.newer ?_ _) | (with_reducible refine Below.drew ?_) | (with_reducible refine Below.setCell ?_ (by first | exact Nat.le_refl _ | exact Nat.le_add_right _ _ | omega | (simp [go_sem]; done) | (simp [go_sem]; omega)) _)))⟩
      case measure => simp [intOf]; omega
    · have hjn : j = nn s := by omega
      subst hjn
      clear b0 b3 b4 b5 b6 hB n4
      go_wp2_with (fail)
      go_loopw [8] (fun i wr => ∃ j : Nat, j ≤ 4 ∧ (j : Int) ≤ s 8 ∧ i = .int .i64 j ∧ Blk wr w.heap.size 39 #[.int .i64 (s 0), .int .i64 (s 1), .int .i64 (s 2), .int .i64 (s 3), .int .i64 (s 4), .int .i64 (s 5), .int .i64 (s 6), .int .i64 (s 7), .int .i64 (s 8)] ∧ Blk wr y1.out.heap.size 39 #[.int .i64 (hlfA s 0), .int .i64 (hlfA s 1), .int .i64 (hlfA s 2), .int .i64 (hlfA s 3), .int .i64 (hlfA s 4), .int .i64 (hlfA s 5), .int .i64 (hlfA s 6), .int .i64 (hlfA s 7), .int .i64 (hlfA s 8)] ∧ Blk wr (y1.out.heap.size + 1) 39 #[.int .i64 (hlfB s 0), .int .i64 (hlfB s 1), .int .i64 (hlfB s 2), .int .i64 (hlfB s 3), .int .i64 (hlfB s 4), .int .i64 (hlfB s 5), .int .i64 (hlfB s 6), .int .i64 (hlfB s 7), .int .i64 (hlfB s 8)] ∧ Blk wr x.out.heap.size 23 #[.int .i64 (mnk s 0 (nn s)), .int .i64 (mnk s 1 (nn s))] ∧ Blk wr (x.out.heap.size + 1) 23 #[.int .i64 (mxk s 0 (nn s)), .int .i64 (mxk s 1 (nn s))] ∧ Below w.heap.size w wr) (fun i _ => 4 - (intOf i).toNat)
      case atStart => exact ⟨0, by omega, by omega, rfl, K0.out, K3.out, K4.out, K5.out, K6.out, KB.out⟩
      case round =>
        clear c5 z5 l5 c6 z6 l6 l0 l3 l4 f8
        clear K0 K3 K4 K5 K6 KB
        obtain ⟨j, hj4, hj8, rfl, b0, b3, b4, b5, b6, hB⟩ := hrel
        have l0 := b0.lt
        have l3 := b3.lt
        have l4 := b4.lt
        obtain ⟨c5, z5, l5⟩ := b5.all
        obtain ⟨c6, z6, l6⟩ := b6.all
        have f8 : wr.cell? ⟨w.heap.size, 8, none⟩ = some (.int .i64 (s 8)) := by rw [b0.cell]; rfl
        have K0 := Lib.hid b0
        have K3 := Lib.hid b3
        have K4 := Lib.hid b4
        have K5 := Lib.hid b5
        have K6 := Lib.hid b6
        have KB := Lib.hid hB
        by_cases hlt : (j : Int) < s 8
        · have hj : j < 4 := by omega
          have hjn : j < nn s := by have := HN4.out; omega
          obtain ⟨r3, r3'⟩ := seg_pt (hlfA s) b3 j hj
          obtain ⟨r4, r4'⟩ := seg_pt (hlfB s) b4 j hj
          obtain ⟨⟨⟨i1, i2⟩, ⟨i3, i4⟩⟩, ⟨⟨i5, i6⟩, ⟨i7, i8⟩⟩⟩ := HIN.out j hjn
          generalize hlfA s (2 * j) = q1 at r3 i1 i2
          generalize hlfA s (2 * j + 1) = q2 at r3' i5 i6
          generalize hlfB s (2 * j) = q3 at r4 i3 i4
          generalize hlfB s (2 * j + 1) = q4 at r4' i7 i8
          have d0 : decide (q1 < mnk s 0 (nn s)) = false := by simp; omega
          have d1 : decide (mxk s 0 (nn s) < q1) = false := by simp; omega
          have d2 : decide (q2 < mnk s 1 (nn s)) = false := by simp; omega
          have d3 : decide (mxk s 1 (nn s) < q2) = false := by simp; omega
          have d4 : decide (q3 < mnk s 0 (nn s)) = false := by simp; omega
          have d5 : decide (mxk s 0 (nn s) < q3) = false := by simp; omega
          have d6 : decide (q4 < mnk s 1 (nn s)) = false := by simp; omega
          have d7 : decide (mxk s 1 (nn s) < q4) = false := by simp; omega
          clear b0 b3 b4 b5 b6 hB hjn i1 i2 i3 i4 i5 i6 i7 i8
          go_wp2_with (fail)
          refine wp_region_later (by kernel_rfl) (by kernel_rfl) ?_
          repeat (go_big_quiet_step ((first | fail)))
          refine wpQuiet_nil ?_
          intro x
          go_wp2_with (fail)
          go_roundw
          case rel => exact ⟨j + 1, by omega, by omega, by go_num, K0.out.later x, K3.out.later x, K4.out.later x, K5.out.later x, K6.out.later x, by have hB := KB.out; (repeat (first | (with_reducible assumption) | (with_reducible refine Later.after ?_ _)))⟩
          case measure => simp [intOf]; omega
        · clear b0 b3 b4 b5 b6
          go_wp2_with (fail)
          exact bodyPost_ret (v := .bool true) (by simp [results, Try.results8, go_sem, *]) rfl ⟨rfl, (Later.mk_of (by repeat (first | (with_reducible assumption) | (with_reducible exact Below.refl _ _) | (with_reducible refine Later.after ?_ _) | (with_reducible refine Later.newer ?_ _) | (with_reducible refine Below.drew ?_) | (with_reducible refine Below.setCell ?_ (by first | exact Nat.le_refl _ | exact Nat.le_add_right _ _ | omega | (simp [go_sem]; done) | (simp [go_sem]; omega)) _))))⟩


theorem bhalves_walk (s : En) (h9 : s 9 = 0) (w : World) : Calls Try.prog 8 #[.agg #[.int .i64 (s 0), .int .i64 (s 1), .int .i64 (s 2), .int .i64 (s 3), .int .i64 (s 4), .int .i64 (s 5), .int .i64 (s 6), .int .i64 (s 7), .int .i64 (s 8)]] w fun e w' => e = .returned (.bool true) ∧ ∃ x : Later w, w' = x.out := by
  cases e : goodB s
  · exact bhalves_no s w e
  · exact bhalves_yes s h9 w e
end Go.Proofs.Ytdlemjecocmbgaa

/-
  The ends of the chords of a segment are the document's: walked.
-/
import Derived.Test.YtcdnekhpeghkiaaP7
import Derived.Test.YtcdnekhpeghkiaaS1
namespace Go.Proofs.Ytcdnekhpeghkiaa
set_option linter.unusedVariables false
open Go.RowKit

set_option maxRecDepth 100000 in
set_option maxHeartbeats 1000000 in
theorem fpts_no (s : En) (t : Int) (w : World) (b : Bool) (cg : ∀ v, Calls Try.prog 11 #[.agg #[.int .i64 (s 0), .int .i64 (s 1), .int .i64 (s 2), .int .i64 (s 3), .int .i64 (s 4), .int .i64 (s 5), .int .i64 (s 6), .int .i64 (s 7), .int .i64 (s 8)]] v fun e w' => e = .returned (.bool b) ∧ ∃ x : Later v, w' = x.out) (h : b = false ∨ t < 0 ∨ 268435456 < t) : Calls Try.prog 3 #[.agg #[.int .i64 (s 0), .int .i64 (s 1), .int .i64 (s 2), .int .i64 (s 3), .int .i64 (s 4), .int .i64 (s 5), .int .i64 (s 6), .int .i64 (s 7), .int .i64 (s 8)], .int .i64 t] w fun e w' => e = .returned (.bool true) ∧ ∃ x : Later w, w' = x.out := by
  have Hg := Lib.hid cg
  clear cg
  rcases h with rfl | h | h
  · go_enter Try.func3, Try.ntmps3
    go_wp2_with (first | (go_at_call 11; (with_reducible refine (Hg.out _).mono ?_); rintro e _ ⟨rfl, x, rfl⟩) | (go_at_call 12; (with_reducible refine (shown_10 _).mono ?_); rintro e _ ⟨rfl, x, rfl⟩))
    exact bodyPost_ret (v := .bool true) (by simp [results, Try.results3, go_sem, *]) rfl ⟨rfl, (Later.mk_of (by repeat (first | (with_reducible assumption) | (with_reducible exact Below.refl _ _) | (with_reducible refine Later.after ?_ _) | (with_reducible refine Later.newer ?_ _) | (with_reducible refine Below.drew ?_) | (with_reducible refine Below.setCell ?_ (by first | exact Nat.le_refl _ | exact Nat.le_add_right _ _ | omega | (simp [go_sem]; done) | (simp [go_sem]; omega)) _))))⟩
  · have d : decide (t < 0) = true := by simp [h]
    cases b
    all_goals
      go_enter Try.func3, Try.ntmps3
      go_wp2_with (first | (go_at_call 11; (with_reducible refine (Hg.out _).mono ?_); rintro e _ ⟨rfl, x, rfl⟩) | (go_at_call 12; (with_reducible refine (shown_10 _).mono ?_); rintro e _ ⟨rfl, x, rfl⟩))
      exact bodyPost_ret (v := .bool true) (by simp [results, Try.results3, go_sem, *]) rfl ⟨rfl, (Later.mk_of (by repeat (first | (with_reducible assumption) | (with_reducible exact Below.refl _ _) | (with_reducible refine Later.after ?_ _) | (with_reducible refine Later.newer ?_ _) | (with_reducible refine Below.drew ?_) | (with_reducible refine Below.setCell ?_ (by first | exact Nat.le_refl _ | exact Nat.le_add_right _ _ | omega | (simp [go_sem]; done) | (simp [go_sem]; omega)) _))))⟩
  · have d : decide (t < 0) = false := by simp; omega
    have d2 : decide (268435456 < t) = true := by simp [h]
    cases b
    all_goals
      go_enter Try.func3, Try.ntmps3
      go_wp2_with (first | (go_at_call 11; (with_reducible refine (Hg.out _).mono ?_); rintro e _ ⟨rfl, x, rfl⟩) | (go_at_call 12; (with_reducible refine (shown_10 _).mono ?_); rintro e _ ⟨rfl, x, rfl⟩))
      exact bodyPost_ret (v := .bool true) (by simp [results, Try.results3, go_sem, *]) rfl ⟨rfl, (Later.mk_of (by repeat (first | (with_reducible assumption) | (with_reducible exact Below.refl _ _) | (with_reducible refine Later.after ?_ _) | (with_reducible refine Later.newer ?_ _) | (with_reducible refine Below.drew ?_) | (with_reducible refine Below.setCell ?_ (by first | exact Nat.le_refl _ | exact Nat.le_add_right _ _ | omega | (simp [go_sem]; done) | (simp [go_sem]; omega)) _))))⟩
set_option maxRecDepth 100000 in
set_option maxHeartbeats 4000000 in
theorem fpts_yes (s : En) (t : Int) (w : World) (t0 : 0 ≤ t) (t9 : t ≤ 268435456) (L : List (Int × Int)) (n : Nat) (hn : L.length = n) (n1 : 1 ≤ n) (n9 : n ≤ 1024) (cg : ∀ v, Calls Try.prog 11 #[.agg #[.int .i64 (s 0), .int .i64 (s 1), .int .i64 (s 2), .int .i64 (s 3), .int .i64 (s 4), .int .i64 (s 5), .int .i64 (s 6), .int .i64 (s 7), .int .i64 (s 8)]] v fun e w' => e = .returned (.bool true) ∧ ∃ x : Later v, w' = x.out)
    (p1 : ∀ v, Calls Try.prog 14 #[.agg #[.int .i64 (s 0), .int .i64 (s 1), .int .i64 (s 2), .int .i64 (s 3), .int .i64 (s 4), .int .i64 (s 5), .int .i64 (s 6), .int .i64 (s 7), .int .i64 (s 8)], .int .i64 t] v (SliceRet v 23 2 n (fl L)))
    (p2 : ∀ v, Calls Try.prog 15 #[.agg #[.int .i64 (s 0), .int .i64 (s 1), .int .i64 (s 2), .int .i64 (s 3), .int .i64 (s 4), .int .i64 (s 5), .int .i64 (s 6), .int .i64 (s 7), .int .i64 (s 8)], .int .i64 t] v (SliceRet v 23 2 n (fl L))) : Calls Try.prog 3 #[.agg #[.int .i64 (s 0), .int .i64 (s 1), .int .i64 (s 2), .int .i64 (s 3), .int .i64 (s 4), .int .i64 (s 5), .int .i64 (s 6), .int .i64 (s 7), .int .i64 (s 8)], .int .i64 t] w fun e w' => e = .returned (.bool true) ∧ ∃ x : Later w, w' = x.out := by
  have Hg := Lib.hid cg
  have HA := Lib.hid p1
  have HB := Lib.hid p2
  have HN := Lib.hid hn
  have d : decide (t < 0) = false := by simp; omega
  have d2 : decide (268435456 < t) = false := by simp; omega
  clear cg p1 p2 hn
  go_enter Try.func3, Try.ntmps3
  go_upto_region 3 with (first | (go_at_call 11; (with_reducible refine (Hg.out _).mono ?_); rintro e _ ⟨rfl, x, rfl⟩) | (go_at_call 12; (with_reducible refine (shown_10 _).mono ?_); rintro e _ ⟨rfl, x, rfl⟩))
  have bS : Blk x.out w.heap.size 26 #[.int .i64 (s 0), .int .i64 (s 1), .int .i64 (s 2), .int .i64 (s 3), .int .i64 (s 4), .int .i64 (s 5), .int .i64 (s 6), .int .i64 (s 7), .int .i64 (s 8)] := (by repeat (first | (with_reducible assumption) | (with_reducible refine Blk.later ?_ _) | (with_reducible refine Blk.drew ?_) | ((with_reducible refine Blk.new' ?_); (simp; done)) | (with_reducible refine Blk.alloc ?_ _)))
  have bW : Below w.heap.size w x.out := (by repeat (first | (with_reducible assumption) | (with_reducible exact Below.refl _ _) | (with_reducible refine Later.after ?_ _) | (with_reducible refine Later.newer ?_ _) | (with_reducible refine Below.drew ?_) | (with_reducible refine Below.setCell ?_ (by first | exact Nat.le_refl _ | exact Nat.le_add_right _ _ | omega | (simp [go_sem]; done) | (simp [go_sem]; omega)) _)))
  generalize x.out = V at *
  clear x
  have u0 : V.cell? ⟨w.heap.size, 0, none⟩ = some (.int .i64 (s 0)) := by rw [bS.cell]; rfl
  have u1 : V.cell? ⟨w.heap.size, 1, none⟩ = some (.int .i64 (s 1)) := by rw [bS.cell]; rfl
  have u2 : V.cell? ⟨w.heap.size, 2, none⟩ = some (.int .i64 (s 2)) := by rw [bS.cell]; rfl
  have u3 : V.cell? ⟨w.heap.size, 3, none⟩ = some (.int .i64 (s 3)) := by rw [bS.cell]; rfl
  have u4 : V.cell? ⟨w.heap.size, 4, none⟩ = some (.int .i64 (s 4)) := by rw [bS.cell]; rfl
  have u5 : V.cell? ⟨w.heap.size, 5, none⟩ = some (.int .i64 (s 5)) := by rw [bS.cell]; rfl
  have u6 : V.cell? ⟨w.heap.size, 6, none⟩ = some (.int .i64 (s 6)) := by rw [bS.cell]; rfl
  have u7 : V.cell? ⟨w.heap.size, 7, none⟩ = some (.int .i64 (s 7)) := by rw [bS.cell]; rfl
  have u8 : V.cell? ⟨w.heap.size, 8, none⟩ = some (.int .i64 (s 8)) := by rw [bS.cell]; rfl
  have l7 := bS.lt
  have HW := Lib.hid bW
  clear bS bW
  go_region_held3 (fun w' => w'.cell? ⟨w.heap.size, 0, none⟩ = some (.int .i64 (s 0)) ∧ w'.cell? ⟨w.heap.size, 1, none⟩ = some (.int .i64 (s 1)) ∧ w'.cell? ⟨w.heap.size, 2, none⟩ = some (.int .i64 (s 2)) ∧ w'.cell? ⟨w.heap.size, 3, none⟩ = some (.int .i64 (s 3)) ∧ w'.cell? ⟨w.heap.size, 4, none⟩ = some (.int .i64 (s 4)) ∧ w'.cell? ⟨w.heap.size, 5, none⟩ = some (.int .i64 (s 5)) ∧ w'.cell? ⟨w.heap.size, 6, none⟩ = some (.int .i64 (s 6)) ∧ w'.cell? ⟨w.heap.size, 7, none⟩ = some (.int .i64 (s 7)) ∧ w'.cell? ⟨w.heap.size, 8, none⟩ = some (.int .i64 (s 8))) ((simp [go_sem, *]; done))
    (first | (go_at_call 14; (with_reducible refine (HA.out _).mono ?_); intro _ _ hsr; obtain ⟨o1, rfl, own1, y1, rfl⟩ := hsr; obtain ⟨g1, c1, rfl⟩ := Go.Joins.ownsRow_form own1 (by omega); have HO1 := Lib.hid own1; clear own1) | (go_at_call 15; (with_reducible refine (HB.out _).mono ?_); intro _ _ hsr; obtain ⟨o2, rfl, own2, y2, rfl⟩ := hsr; obtain ⟨g2, c2, rfl⟩ := Go.Joins.ownsRow_form own2 (by omega); have HO2 := Lib.hid own2; clear own2) | (go_at_call 13; have s1 : PtsIn y2.out g1 L := (PtsIn.own HO1.out).later y2; have s2 : PtsIn y2.out g2 L := PtsIn.own HO2.out; (with_reducible refine (same_c _ _ _ _ _ _ L HN.out (by omega) s1 s2).mono ?_); rintro _ _ ⟨rfl, y3, rfl⟩))
  go_wp2_with (fail)
  have hB3 : Below w.heap.size w y3.out := ((HW.out.drew.trans (y1.below.mono HW.out.drew.size)).trans (y2.below.mono (HW.out.drew.trans (y1.below.mono HW.out.drew.size)).size)).trans (y3.below.mono ((HW.out.drew.trans (y1.below.mono HW.out.drew.size)).trans (y2.below.mono (HW.out.drew.trans (y1.below.mono HW.out.drew.size)).size)).size)
  exact bodyPost_ret (v := .bool true) (by simp [results, Try.results3, go_sem, *]) rfl ⟨rfl, (Later.mk_of (by repeat (first | (with_reducible assumption) | (with_reducible exact Below.refl _ _) | (with_reducible refine Later.after ?_ _) | (with_reducible refine Later.newer ?_ _) | (with_reducible refine Below.drew ?_) | (with_reducible refine Below.setCell ?_ (by first | exact Nat.le_refl _ | exact Nat.le_add_right _ _ | omega | (simp [go_sem]; done) | (simp [go_sem]; omega)) _))))⟩
theorem fpts_walk (s : En) (h9 : s 9 = 0) (t : Int) (w : World) : Calls Try.prog 3 #[.agg #[.int .i64 (s 0), .int .i64 (s 1), .int .i64 (s 2), .int .i64 (s 3), .int .i64 (s 4), .int .i64 (s 5), .int .i64 (s 6), .int .i64 (s 7), .int .i64 (s 8)], .int .i64 t] w fun e w' => e = .returned (.bool true) ∧ ∃ x : Later w, w' = x.out := by
  have cg := fun v => gd_c s v
  by_cases h : goodB s = false ∨ t < 0 ∨ 268435456 < t
  · exact fpts_no s t w _ cg h
  · cases e1 : goodB s
    · exact absurd (.inl e1) h
    · have G := goodB_good s e1 h9
      rw [e1] at cg
      have hl := flat_len t s G
      exact fpts_yes s t w (by omega) (by omega) _ _ rfl hl.1 hl.2 cg (fun v => points_E s G h9 t (by omega) (by omega) v) (fun v => rPoints_E s G h9 t (by omega) v)
end Go.Proofs.Ytcdnekhpeghkiaa

/-
  The laws' own small case, of layer 12.
-/
import Derived.Test.YtcdnekhpeghkiaaD8
import Derived.Test.YtcdnekhpeghkiaaE1
namespace Go.Proofs.Ytcdnekhpeghkiaa
set_option linter.unusedVariables false
open Go.RowKit

def pts0 : List (Int × Int) := [(0, 0), (10, 0), (10, 10)]
theorem g0 : GoodC false pts0 where
  n1 := by decide
  n9 := by decide
  near := fun p hp => by
    simp only [pts0, List.mem_cons, List.not_mem_nil, or_false] at hp
    unfold nearP
    rcases hp with rfl | rfl | rfl <;> simp
  apart := fun i a b ha hb => by
    have : i = 0 ∨ i = 1 ∨ 2 ≤ i := by omega
    rcases this with rfl | rfl | h
    · simp [pts0] at ha hb; subst ha; subst hb; decide
    · simp [pts0] at ha hb; subst ha; subst hb; decide
    · rw [List.getElem?_eq_none (by simp [pts0]; omega)] at hb; cases hb
  shut := fun h => by cases h
theorem dst0 : dst (0, 0) (10, 0) = 10 := root_unique (dst_root _ _) ⟨by decide, by decide, by decide⟩
theorem dst1 : dst (10, 0) (10, 10) = 10 := root_unique (dst_root _ _) ⟨by decide, by decide, by decide⟩
theorem g0_d0 : g0.ch.d 0 = 10 := dst0
theorem g0_d1 : g0.ch.d 1 = 10 := dst1
theorem g0_m : g0.ch.m = 2 := rfl
theorem g0_l0 : g0.ch.ln 0 = 0 := rfl
theorem g0_l1 : g0.ch.ln 1 = 10 := by rw [Ch.ln_s, g0_d0]; rfl
theorem g0_l2 : g0.ch.ln 2 = 20 := by rw [Ch.ln_s, g0_d1, g0_l1]; rfl
theorem g0_held (x : Int) (h0 : 0 ≤ x) (h1 : x ≤ 20) : g0.ch.held x = x := Ch.held_id _ _ h0 (by rw [g0_m, g0_l2]; exact h1)
theorem g0_at5 : g0.ch.at 5 = (5, 0) := by
  rw [Ch.at_in g0.ch 5 0 (by rw [g0_m]; omega) (by rw [g0_l0]; omega) (by rw [g0_l1]; omega), g0_l0, g0_d0]
  decide
theorem g0_at15 : g0.ch.at 15 = (10, 5) := by
  rw [Ch.at_in g0.ch 15 1 (by rw [g0_m]; omega) (by rw [g0_l1]; omega) (by rw [g0_l2]; omega), g0_l1, g0_d1]
  decide
theorem g0_ix : g0.ch.ix 15 = 1 := by
  unfold Ch.ix
  rw [if_neg (by rw [g0_m]; omega)]
  exact Ch.idx_eq _ _ 1 (by rw [g0_m]; omega) (by rw [g0_l2]; omega) (.inr (by rw [g0_l1]; omega))
theorem g0_cut : g0.ch.cut 5 15 = [(5, 0), (10, 0), (10, 5)] := by
  unfold Ch.cut Ch.mid
  have hr : List.range' 1 g0.ch.m = [1, 2] := rfl
  rw [hr, g0_at5, g0_at15]
  have hf : [1, 2].filter (fun i => decide ((5 : Int) < g0.ch.ln i) && decide (g0.ch.ln i < 15)) = [1] := by
    simp [List.filter, g0_l1, g0_l2]
  rw [hf]
  decide
theorem pts0_at {W : World} {b : Nat} (h : Blk W b 23 #[.int .i64 0, .int .i64 0, .int .i64 10, .int .i64 0, .int .i64 10, .int .i64 10]) : PtsAt W (.slice (some ⟨b, 0, none⟩) 3 3) pts0 := by
  refine .inr (.inr ⟨b, 0, 3, rfl, h.lt, by decide, by unfold maxLen; omega, fun i p hp => ?_⟩)
  rw [h.cell, h.cell]
  have : i = 0 ∨ i = 1 ∨ i = 2 ∨ 3 ≤ i := by omega
  rcases this with rfl | rfl | rfl | h
  · simp [pts0] at hp; subst hp; exact ⟨rfl, rfl⟩
  · simp [pts0] at hp; subst hp; exact ⟨rfl, rfl⟩
  · simp [pts0] at hp; subst hp; exact ⟨rfl, rfl⟩
  · rw [List.getElem?_eq_none (by simp [pts0]; omega)] at hp; cases hp
theorem at_sh (v : Value) (w : World) (h : PtsAt w v pts0) : Calls Try.prog 19 #[.agg #[v, .bool false], .int .i64 15] w fun e w' => e = .returned (.tuple #[.int .i64 1, .agg #[.int .i64 10, .int .i64 5]]) ∧ ∃ x : Later w, w' = x.out := by
  have c := at_c false pts0 g0 v 15 w h
  rw [g0_held 15 (by omega) (by omega), g0_ix, g0_at15] at c
  exact c
theorem total_sh (v : Value) (w : World) (h : PtsAt w v pts0) : Calls Try.prog 20 #[.agg #[v, .bool false]] w fun e w' => e = .returned (.int .i64 20) ∧ ∃ x : Later w, w' = x.out := by
  have c := total_c false pts0 g0 v w h
  rw [g0_m, g0_l2] at c
  exact c
theorem cut_sh (v : Value) (w : World) (h : PtsAt w v pts0) : Calls Try.prog 18 #[.agg #[v, .bool false], .int .i64 5, .int .i64 15] w (KRet w [(5, 0), (10, 0), (10, 5)]) := by
  have c := cut_c false pts0 g0 v 5 15 w h
  rw [g0_held 15 (by omega) (by omega), g0_held 5 (by omega) (by omega)] at c
  have e : min (5 : Int) 15 = 5 := by omega
  rw [e, g0_cut] at c
  exact c
set_option maxRecDepth 100000 in
set_option maxHeartbeats 4000000 in
theorem shown_12 (w : World) : Calls Try.prog 17 #[] w fun e w' => e = .returned (.bool true) ∧ ∃ x : Later w, w' = x.out := by
  go_enter Try.func17, Try.ntmps17
  go_wp2_with (first | (go_at_call 19; (with_reducible refine (at_sh _ _ (pts0_at (by repeat (first | (with_reducible assumption) | (with_reducible refine Blk.later ?_ _) | (with_reducible refine Blk.drew ?_) | ((with_reducible refine Blk.new' ?_); (simp; done)) | (with_reducible refine Blk.alloc ?_ _))))).mono ?_); rintro e _ ⟨rfl, x, rfl⟩) | (go_at_call 20; (with_reducible refine (total_sh _ _ (pts0_at (by repeat (first | (with_reducible assumption) | (with_reducible refine Blk.later ?_ _) | (with_reducible refine Blk.drew ?_) | ((with_reducible refine Blk.new' ?_); (simp; done)) | (with_reducible refine Blk.alloc ?_ _))))).mono ?_); rintro e _ ⟨rfl, x, rfl⟩) | (go_at_call 21; (with_reducible refine (lensM_c false pts0 g0 _ _ 3 rfl (pts0_at (by repeat (first | (with_reducible assumption) | (with_reducible refine Blk.later ?_ _) | (with_reducible refine Blk.drew ?_) | ((with_reducible refine Blk.new' ?_); (simp; done)) | (with_reducible refine Blk.alloc ?_ _))))).mono ?_); rintro _ _ ⟨gl, cap, rfl, hgl, hlb, hcap, x, rfl⟩) | (go_at_call 18; (with_reducible refine (cut_sh _ _ (pts0_at (by repeat (first | (with_reducible assumption) | (with_reducible refine Blk.later ?_ _) | (with_reducible refine Blk.drew ?_) | ((with_reducible refine Blk.new' ?_); (simp; done)) | (with_reducible refine Blk.alloc ?_ _))))).mono ?_); rintro _ _ ⟨gk, capk, rfl, hok, x, rfl⟩; have k0 := hok.cellAt 0 (by simp); have k1 := hok.cellAt 1 (by simp); have kl := (hok.lt gk rfl).2; have HOK := Lib.hid hok; clear hok; simp [fl] at k0 k1))
  exact bodyPost_ret (v := .bool true) (by simp [results, Try.results17, go_sem, *]) rfl ⟨rfl, (Later.mk_of (by repeat (first | (with_reducible assumption) | (with_reducible exact Below.refl _ _) | (with_reducible refine Later.after ?_ _) | (with_reducible refine Later.newer ?_ _) | (with_reducible refine Below.drew ?_) | (with_reducible refine Below.setCell ?_ (by first | exact Nat.le_refl _ | exact Nat.le_add_right _ _ | omega | (simp [go_sem]; done) | (simp [go_sem]; omega)) _))))⟩
end Go.Proofs.Ytcdnekhpeghkiaa

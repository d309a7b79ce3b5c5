/-
  What is asked more of has the ends of what is asked less of among its own: walked.
-/
import Derived.Test.YtfgppkiioinphaaS1
namespace Go.Proofs.Ytfgppkiioinphaa
set_option linter.unusedVariables false
open Go.RowKit

theorem sub_ne {α : Type} {l1 l2 : List α} {i k : Nat} (hi : i < l2.length) (h : (l2.drop i).Sublist (l1.drop k)) : k < l1.length := by
  have := h.length_le
  simp only [List.length_drop] at this
  omega
theorem sub_hit {α : Type} {l1 l2 : List α} {i k : Nat} (hi : i < l2.length) (h : (l2.drop i).Sublist (l1.drop k)) : (l2.drop (i + 1)).Sublist (l1.drop k) := by
  rw [List.drop_eq_getElem_cons hi] at h
  exact (List.sublist_cons_self _ _).trans h
theorem cons_sub {α : Type} {x y : α} {us vs : List α} (h : (x :: us).Sublist (y :: vs)) (hne : y ≠ x) : (x :: us).Sublist vs := by
  cases h with
  | cons _ h => exact h
  | cons_cons _ h => exact absurd rfl hne
theorem sub_miss {α : Type} {l1 l2 : List α} {i k : Nat} {a b : α} (ha : l1[k]? = some a) (hb : l2[i]? = some b) (hne : a ≠ b) (h : (l2.drop i).Sublist (l1.drop k)) : (l2.drop i).Sublist (l1.drop (k + 1)) := by
  obtain ⟨hk, rfl⟩ := List.getElem?_eq_some_iff.1 ha
  obtain ⟨hi, rfl⟩ := List.getElem?_eq_some_iff.1 hb
  rw [List.drop_eq_getElem_cons hi, List.drop_eq_getElem_cons hk] at h
  rw [List.drop_eq_getElem_cons hi]
  exact cons_sub h hne


set_option maxRecDepth 100000 in
set_option maxHeartbeats 400000 in
theorem finer_no (s : En) (a b : Int) (w : World) (e1 : goodB s = false) : Calls Try.prog 6 #[.agg #[.int .i64 (s 0), .int .i64 (s 1), .int .i64 (s 2), .int .i64 (s 3), .int .i64 (s 4), .int .i64 (s 5), .int .i64 (s 6), .int .i64 (s 7), .int .i64 (s 8)], .int .u16 a, .int .u16 b] w fun e w' => e = .returned (.bool true) ∧ ∃ x : Later w, w' = x.out := by
  have cg := fun v => gd_c s v
  rw [e1] at cg
  have Hg := Lib.hid cg
  clear cg e1
  go_enter Try.func6, Try.ntmps6
  go_wp2_with (first | (go_at_call 10; (with_reducible refine (Hg.out _).mono ?_); rintro e _ ⟨rfl, x, rfl⟩) | (go_at_call 11; (with_reducible refine (shown_10 _).mono ?_); rintro e _ ⟨rfl, x, rfl⟩))
  exact bodyPost_ret (v := .bool true) (by simp [results, Try.results6, go_sem, *]) rfl ⟨rfl, (Later.mk_of (by repeat (first | (with_reducible assumption) | (with_reducible exact Below.refl _ _) | (with_reducible refine Later.after ?_ _) | (with_reducible refine Later.newer ?_ _) | (with_reducible refine Below.drew ?_) | (with_reducible refine Below.setCell ?_ (by first | exact Nat.le_refl _ | exact Nat.le_add_right _ _ | omega | (simp [go_sem]; done) | (simp [go_sem]; omega)) _))))⟩

set_option maxRecDepth 100000 in
set_option maxHeartbeats 4000000 in
theorem finer_yes (s : En) (a b lo hi : Int) (w : World) (emin : min a b = lo) (emax : max a b = hi) (a0 : 0 ≤ a) (a9 : a ≤ 65535) (b0 : 0 ≤ b) (b9 : b ≤ 65535) (l1 l2 : List (Int × Int)) (M1 M2 : Nat) (hM1 : l1.length = M1) (hM2 : l2.length = M2) (hs : l2.Sublist l1) (m0 : 1 ≤ M2) (m9 : M1 ≤ 1024)
    (cg : ∀ v, Calls Try.prog 10 #[.agg #[.int .i64 (s 0), .int .i64 (s 1), .int .i64 (s 2), .int .i64 (s 3), .int .i64 (s 4), .int .i64 (s 5), .int .i64 (s 6), .int .i64 (s 7), .int .i64 (s 8)]] v fun e w' => e = .returned (.bool true) ∧ ∃ x : Later v, w' = x.out)
    (p1 : ∀ v, Calls Try.prog 13 #[.agg #[.int .i64 (s 0), .int .i64 (s 1), .int .i64 (s 2), .int .i64 (s 3), .int .i64 (s 4), .int .i64 (s 5), .int .i64 (s 6), .int .i64 (s 7), .int .i64 (s 8)], .int .i64 lo] v (SliceRet v 23 2 M1 (fl l1)))
    (p2 : ∀ v, Calls Try.prog 13 #[.agg #[.int .i64 (s 0), .int .i64 (s 1), .int .i64 (s 2), .int .i64 (s 3), .int .i64 (s 4), .int .i64 (s 5), .int .i64 (s 6), .int .i64 (s 7), .int .i64 (s 8)], .int .i64 hi] v (SliceRet v 23 2 M2 (fl l2))) :
    Calls Try.prog 6 #[.agg #[.int .i64 (s 0), .int .i64 (s 1), .int .i64 (s 2), .int .i64 (s 3), .int .i64 (s 4), .int .i64 (s 5), .int .i64 (s 6), .int .i64 (s 7), .int .i64 (s 8)], .int .u16 a, .int .u16 b] w fun e w' => e = .returned (.bool true) ∧ ∃ x : Later w, w' = x.out := by
  have m12 : M2 ≤ M1 := by rw [← hM1, ← hM2]; exact hs.length_le
  have Hg := Lib.hid cg
  have Hp1 := Lib.hid p1
  have Hp2 := Lib.hid p2
  have HS := Lib.hid hs
  have HM1 := Lib.hid hM1
  have HM2 := Lib.hid hM2
  have lo0 : 0 ≤ lo := by omega
  have lo9 : lo ≤ 65535 := by omega
  have hi0 : 0 ≤ hi := by omega
  have hi9 : hi ≤ 65535 := by omega
  clear cg p1 p2 hs hM1 hM2
  go_enter Try.func6, Try.ntmps6
  go_wp2_with (first | (go_at_call 10; (with_reducible refine (Hg.out _).mono ?_); rintro e _ ⟨rfl, x, rfl⟩) | (go_at_call 11; (with_reducible refine (shown_10 _).mono ?_); rintro e _ ⟨rfl, x, rfl⟩) | (go_at_call 13; (with_reducible refine (Hp1.out _).mono ?_); intro _ _ hs; obtain ⟨g1, cap1, x1, rfl, rfl, hg1, hl1, hc1⟩ := hs.opens (by omega); have HC1 := Lib.hid hc1; clear hc1 hs hg1) | (go_at_call 13; (with_reducible refine (Hp2.out _).mono ?_); intro _ _ hs; obtain ⟨g2, cap2, x2, rfl, rfl, hg2, hl2, hc2⟩ := hs.opens (by omega); have HC2 := Lib.hid hc2; clear hc2 hs hg2))
  clear emin emax
  go_loopw [9, 10] (fun u v wr => ∃ k i : Nat, k ≤ M1 ∧ i ≤ M2 ∧ u = .int .i64 k ∧ v = .int .i64 i ∧ Hid ((l2.drop i).Sublist (l1.drop k)) ∧ ∃ y : Later x2.out, wr = y.out) (fun _ v _ => M2 - (intOf v).toNat)
  case atStart => exact ⟨0, 0, by omega, by omega, rfl, rfl, Lib.hid (by simpa using HS.out), ⟨x2.out, Below.refl _ _⟩, rfl⟩
  case round =>
    obtain ⟨k0, i, hk0, hi', rfl, rfl, hsub, y, rfl⟩ := hrel
    by_cases hiM : i < M2
    · have hd2 : decide (i < M2) = true := by simp [hiM]
      go_wp2_with (fail)
      go_loopw [9] (fun u wr => ∃ k : Nat, k ≤ M1 ∧ u = .int .i64 k ∧ Hid ((l2.drop i).Sublist (l1.drop k)) ∧ ∃ z : Later x2.out, wr = z.out) (fun u _ => M1 - (intOf u).toNat)
      case atStart => exact ⟨k0, hk0, rfl, hsub, y, rfl⟩
      case round =>
        obtain ⟨k, hk, rfl, hsub2, z, rfl⟩ := hrel
        have hkM : k < M1 := by
          have := sub_ne (by rw [HM2.out]; exact hiM) hsub2.out
          rwa [HM1.out] at this
        have hd1 : decide (k < M1) = true := by simp [hkM]
        obtain ⟨⟨u, v⟩, h1⟩ : ∃ p, l1[k]? = some p := ⟨_, List.getElem?_eq_getElem (by rw [HM1.out]; exact hkM)⟩
        obtain ⟨⟨p, q⟩, h2⟩ : ∃ p, l2[i]? = some p := ⟨_, List.getElem?_eq_getElem (by rw [HM2.out]; exact hiM)⟩
        have r0 := HC1.out (k * 2) (by omega)
        have r1 := HC1.out (k * 2 + 1) (by omega)
        have r2 := HC2.out (i * 2) (by omega)
        have r3 := HC2.out (i * 2 + 1) (by omega)
        rw [(fl_x l1 k _ h1).1] at r0
        rw [(fl_x l1 k _ h1).2] at r1
        rw [(fl_x l2 i _ h2).1] at r2
        rw [(fl_x l2 i _ h2).2] at r3
        have H1 := Lib.hid h1
        have H2 := Lib.hid h2
        clear h1 h2
        by_cases ex : u = p
        · subst ex
          by_cases ey : v = q
          · subst ey
            have hne : (k == M1) = false := by simp; omega
            have hne' : ((k : Int) == M1) = false := by simp; omega
            go_wp2_with (fail)
            refine wp_region_later (by kernel_rfl) (by kernel_rfl) ?_
            repeat (go_big_quiet_step ((first | fail)))
            refine wpQuiet_nil ?_
            intro x
            go_wp2_with (fail)
            go_roundw
            case rel => exact ⟨k, i + 1, by omega, by omega, rfl, by go_num, Lib.hid (sub_hit (by rw [HM2.out]; exact hiM) hsub2.out), ⟨x.out, z.below.trans (x.below.mono z.below.size)⟩, rfl⟩
            case measure => simp [intOf]; omega
          · have ey' : (v == q) = false := by simp [ey]
            have HN : Hid (v ≠ q) := Lib.hid ey
            clear ey
            go_wp2_with (fail)
            refine wp_region_later (by kernel_rfl) (by kernel_rfl) ?_
            repeat (go_big_quiet_step ((first | fail)))
            refine wpQuiet_nil ?_
            intro x
            go_wp2_with (fail)
            go_roundw
            case rel => exact ⟨k + 1, by omega, by go_num, Lib.hid (sub_miss H1.out H2.out (fun e => HN.out (congrArg Prod.snd e)) hsub2.out), ⟨x.out, z.below.trans (x.below.mono z.below.size)⟩, rfl⟩
            case measure => simp [intOf]; omega
        · have ex' : (u == p) = false := by simp [ex]
          have HN : Hid (u ≠ p) := Lib.hid ex
          clear ex
          go_wp2_with (fail)
          refine wp_region_later (by kernel_rfl) (by kernel_rfl) ?_
          repeat (go_big_quiet_step ((first | fail)))
          refine wpQuiet_nil ?_
          intro x
          go_wp2_with (fail)
          go_roundw
          case rel => exact ⟨k + 1, by omega, by go_num, Lib.hid (sub_miss H1.out H2.out (fun e => HN.out (congrArg Prod.fst e)) hsub2.out), ⟨x.out, z.below.trans (x.below.mono z.below.size)⟩, rfl⟩
          case measure => simp [intOf]; omega
    · obtain rfl : i = M2 := by omega
      have d1 : decide (i ≤ M1) = true := by simp; omega
      have d2 : decide (1 ≤ i) = true := by simp; omega
      have d3 : (1 : Int) ≤ i := by omega
      have d4 : (i : Int) ≤ M1 := by omega
      go_wp2_with (fail)
      exact bodyPost_ret (v := .bool true) (by simp [results, Try.results6, go_sem, *]) rfl ⟨rfl, (Later.mk_of (by repeat (first | (with_reducible assumption) | (with_reducible exact Below.refl _ _) | (with_reducible refine Later.after ?_ _) | (with_reducible refine Later.newer ?_ _) | (with_reducible refine Below.drew ?_) | (with_reducible refine Below.setCell ?_ (by first | exact Nat.le_refl _ | exact Nat.le_add_right _ _ | omega | (simp [go_sem]; done) | (simp [go_sem]; omega)) _))))⟩

theorem finer_walk (s : En) (h9 : s 9 = 0) (a b : Int) (a0 : 0 ≤ a) (a9 : a ≤ 65535) (b0 : 0 ≤ b) (b9 : b ≤ 65535) (w : World) : Calls Try.prog 6 #[.agg #[.int .i64 (s 0), .int .i64 (s 1), .int .i64 (s 2), .int .i64 (s 3), .int .i64 (s 4), .int .i64 (s 5), .int .i64 (s 6), .int .i64 (s 7), .int .i64 (s 8)], .int .u16 a, .int .u16 b] w fun e w' => e = .returned (.bool true) ∧ ∃ x : Later w, w' = x.out := by
  cases e1 : goodB s
  · exact finer_no s a b w e1
  · have G := goodB_good s e1 h9
    have cg := fun v => gd_c s v
    rw [e1] at cg
    have h1 := flat_len (min a b) s G
    have h2 := flat_len (max a b) s G
    exact finer_yes s a b _ _ w rfl rfl a0 a9 b0 b9 ((flat (min a b)).all s) ((flat (max a b)).all s) _ _ rfl rfl (flat_sub _ _ (by omega) s G) h2.1 h1.2 cg
      (fun v => points_E s G h9 (min a b) (by omega) (by omega) v) (fun v => points_E s G h9 (max a b) (by omega) (by omega) v)
end Go.Proofs.Ytfgppkiioinphaa

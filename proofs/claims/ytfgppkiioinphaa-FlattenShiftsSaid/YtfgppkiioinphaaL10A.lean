/-
  The shifted segment that a law makes, in a loop over its points; the law of shifted chords, walked.
-/
import Derived.Test.YtfgppkiioinphaaS1
namespace Go.Proofs.Ytfgppkiioinphaa
set_option linter.unusedVariables false
open Go.RowKit

/-- the first k points shifted -/
def shk (a b : Int) (k : Nat) (s : En) : En := fun i => if i < 2 * k then wrap64 (s i + (if i % 2 = 0 then a else b)) else s i
/-- all of them -/
def shw (a b : Int) (s : En) : En := fun i => if i < 8 ∧ ((i / 2 : Nat) : Int) < s 8 then wrap64 (s i + (if i % 2 = 0 then a else b)) else s i
theorem shk_shw (a b : Int) (s : En) (k : Nat) (hk : k ≤ 4) (h0 : k = 0 ∨ (k : Int) ≤ s 8) (h1 : k = 4 ∨ s 8 ≤ (k : Int)) : shk a b k s = shw a b s := by
  funext i
  unfold shk shw
  by_cases h : i < 2 * k
  · rw [if_pos h, if_pos (show i < 8 ∧ ((i / 2 : Nat) : Int) < s 8 from ⟨by omega, by omega⟩)]
  · rw [if_neg h, if_neg (by omega)]
theorem shk_0 (a b : Int) (s : En) : shk a b 0 s = s := by funext i; simp [shk]
theorem shw_shf (a b : Int) (s : En) (g : GoodE s) (a1 : -536870912 ≤ a) (a2 : a ≤ 536870912) (b1 : -536870912 ≤ b) (b2 : b ≤ 536870912) : shw a b s = shf a b s := by
  funext i
  have hn : (nn s : Int) = s 8 := by rcases nn_of g with k | k | k <;> omega
  unfold shw shf
  by_cases h : i < 8 ∧ i / 2 < nn s
  · rw [if_pos h, if_pos (show i < 8 ∧ ((i / 2 : Nat) : Int) < s 8 from ⟨h.1, by omega⟩)]
    have := g.bd i h.1
    exact w64_in _ (by unfold R64; split <;> omega)
  · rw [if_neg h, if_neg (by omega)]
/-- the ends of the chords, and those of the shifted ones, side by side -/
theorem flat_at (t a b : Int) (s : En) (g : GoodE s) (k : Nat) (hk : k < ((flat t).all s).length) : ∃ p q : Int, ((flat t).all s)[k]? = some (p, q) ∧ ((flat t).all (shf a b s))[k]? = some (p + a, q + b) ∧ -268435456 ≤ p ∧ p ≤ 268435456 ∧ -268435456 ≤ q ∧ q ≤ 268435456 := by
  have h := flat_bd t s g _ (List.getElem_mem hk)
  refine ⟨((flat t).all s)[k].1, ((flat t).all s)[k].2, by rw [List.getElem?_eq_getElem hk], ?_, h.1.1, h.1.2, h.2.1, h.2.2⟩
  rw [flat_shf t a b s g, List.getElem?_map, List.getElem?_eq_getElem hk]
  rfl
theorem flat_lastk (t : Int) (s : En) (g : GoodE s) (m : Nat) (hm : ((flat t).all s).length = m + 1) : ((flat t).all s)[m]? = some (enP s) := by
  have := flat_last t s g
  rw [List.getLast?_eq_getElem?, hm] at this
  simpa using this


set_option maxRecDepth 100000 in
set_option maxHeartbeats 4000000 in
theorem shifts_walk (s : En) (h9 : s 9 = 0) (a b t : Int) (t0 : 0 ≤ t) (t9 : t ≤ 65535) (w : World) : Calls Try.prog 4 #[.agg #[.int .i64 (s 0), .int .i64 (s 1), .int .i64 (s 2), .int .i64 (s 3), .int .i64 (s 4), .int .i64 (s 5), .int .i64 (s 6), .int .i64 (s 7), .int .i64 (s 8)], .agg #[.int .i64 a, .int .i64 b], .int .u16 t] w fun e w' => e = .returned (.bool true) ∧ ∃ x : Later w, w' = x.out := by
  go_enter Try.func4, Try.ntmps4
  go_wp2
  go_loopw [8] (fun i wr => ∃ k : Nat, k ≤ 4 ∧ (k = 0 ∨ (k : Int) ≤ s 8) ∧ i = .int .i64 k ∧ Blk wr w.heap.size 26 #[.int .i64 (s 0), .int .i64 (s 1), .int .i64 (s 2), .int .i64 (s 3), .int .i64 (s 4), .int .i64 (s 5), .int .i64 (s 6), .int .i64 (s 7), .int .i64 (s 8)] ∧ Blk wr (w.heap.size + 1) 23 #[.int .i64 a, .int .i64 b] ∧ Blk wr (w.heap.size + 1 + 1) 26 #[.int .i64 (shk a b k s 0), .int .i64 (shk a b k s 1), .int .i64 (shk a b k s 2), .int .i64 (shk a b k s 3), .int .i64 (shk a b k s 4), .int .i64 (shk a b k s 5), .int .i64 (shk a b k s 6), .int .i64 (shk a b k s 7), .int .i64 (shk a b k s 8)] ∧ Below w.heap.size w wr) (fun i _ => 4 - (intOf i).toNat)
  case atStart => exact ⟨0, by omega, .inl rfl, rfl, ((Blk.new _ _ _).alloc _).alloc _, (Blk.new' (by simp)).alloc _, by rw [shk_0]; exact Blk.new' (by simp), (by repeat (first | (with_reducible assumption) | (with_reducible exact Below.refl _ _) | (with_reducible refine Later.after ?_ _) | (with_reducible refine Later.newer ?_ _) | (with_reducible refine Below.drew ?_) | (with_reducible refine Below.setCell ?_ (by first | exact Nat.le_refl _ | exact Nat.le_add_right _ _ | omega | (simp [go_sem]; done) | (simp [go_sem]; omega)) _)))⟩
  case round =>
    obtain ⟨k, hk, hk0, rfl, b0, b1, b2, hB⟩ := hrel
    by_cases hgo : k < 4 ∧ (k : Int) < s 8
    · obtain ⟨hlt, hl8⟩ := hgo
      have HB := Lib.hid hB
      clear hB
      have : k = 0 ∨ k = 1 ∨ k = 2 ∨ k = 3 := by omega
      rcases this with rfl | rfl | rfl | rfl
      all_goals
        obtain ⟨c0, z0, l0⟩ := b0.all
        obtain ⟨c1, z1, l1⟩ := b1.all
        obtain ⟨c2, z2, l2⟩ := b2.all
        have Hb0 := Lib.hid b0
        have Hb1 := Lib.hid b1
        have Hb2 := Lib.hid b2
        clear b0 b1 b2
        go_wp2_with (fail)
        refine wp_region_later_tail 20 (by kernel_rfl) (by kernel_rfl) ?_
        simp only [List.take_succ_cons, List.take_zero, List.drop_succ_cons, List.drop_zero]
        repeat (go_big_quiet_step ((first | fail)))
        refine wpQuiet_nil ?_
        intro x
        go_wp2_with (fail)
        go_roundw
        case rel =>
          have hB := HB.out
          first
          | exact ⟨1, by omega, .inr (by omega), rfl, ((Hb0.out.later x).other _ _ (by omega)).other _ _ (by omega), ((Hb1.out.later x).other _ _ (by omega)).other _ _ (by omega), (((Hb2.out.later x).set _ _).set _ _).eq (by simp [shk]), (by repeat (first | (with_reducible assumption) | (with_reducible exact Below.refl _ _) | (with_reducible refine Later.after ?_ _) | (with_reducible refine Later.newer ?_ _) | (with_reducible refine Below.drew ?_) | (with_reducible refine Below.setCell ?_ (by first | exact Nat.le_refl _ | exact Nat.le_add_right _ _ | omega | (simp [go_sem]; done) | (simp [go_sem]; omega)) _)))⟩
          | exact ⟨2, by omega, .inr (by omega), rfl, ((Hb0.out.later x).other _ _ (by omega)).other _ _ (by omega), ((Hb1.out.later x).other _ _ (by omega)).other _ _ (by omega), (((Hb2.out.later x).set _ _).set _ _).eq (by simp [shk]), (by repeat (first | (with_reducible assumption) | (with_reducible exact Below.refl _ _) | (with_reducible refine Later.after ?_ _) | (with_reducible refine Later.newer ?_ _) | (with_reducible refine Below.drew ?_) | (with_reducible refine Below.setCell ?_ (by first | exact Nat.le_refl _ | exact Nat.le_add_right _ _ | omega | (simp [go_sem]; done) | (simp [go_sem]; omega)) _)))⟩
          | exact ⟨3, by omega, .inr (by omega), rfl, ((Hb0.out.later x).other _ _ (by omega)).other _ _ (by omega), ((Hb1.out.later x).other _ _ (by omega)).other _ _ (by omega), (((Hb2.out.later x).set _ _).set _ _).eq (by simp [shk]), (by repeat (first | (with_reducible assumption) | (with_reducible exact Below.refl _ _) | (with_reducible refine Later.after ?_ _) | (with_reducible refine Later.newer ?_ _) | (with_reducible refine Below.drew ?_) | (with_reducible refine Below.setCell ?_ (by first | exact Nat.le_refl _ | exact Nat.le_add_right _ _ | omega | (simp [go_sem]; done) | (simp [go_sem]; omega)) _)))⟩
          | exact ⟨4, by omega, .inr (by omega), rfl, ((Hb0.out.later x).other _ _ (by omega)).other _ _ (by omega), ((Hb1.out.later x).other _ _ (by omega)).other _ _ (by omega), (((Hb2.out.later x).set _ _).set _ _).eq (by simp [shk]), (by repeat (first | (with_reducible assumption) | (with_reducible exact Below.refl _ _) | (with_reducible refine Later.after ?_ _) | (with_reducible refine Later.newer ?_ _) | (with_reducible refine Below.drew ?_) | (with_reducible refine Below.setCell ?_ (by first | exact Nat.le_refl _ | exact Nat.le_add_right _ _ | omega | (simp [go_sem]; done) | (simp [go_sem]; omega)) _)))⟩
        case measure => simp [intOf]
    · rw [shk_shw a b s k hk hk0 (by omega)] at b2
      obtain ⟨c0, z0, l0⟩ := b0.all
      obtain ⟨c1, z1, l1⟩ := b1.all
      obtain ⟨c2, z2, l2⟩ := b2.all
      have HB := Lib.hid hB
      clear hB b0 b1 b2
      have cg := fun v => gd_c s v
      have ct := fun v => gd_c (shw a b s) v
      by_cases hs : s 8 ≤ (k : Int)
      · cases e1 : goodB s
        · rw [e1] at cg
          have Hg := Lib.hid cg
          have Ht := Lib.hid ct
          clear cg ct
          go_wp2_with (first | (go_at_call 10; (with_reducible refine (Hg.out _).mono ?_); rintro e _ ⟨rfl, x, rfl⟩) | (go_at_call 10; (with_reducible refine (Ht.out _).mono ?_); rintro e _ ⟨rfl, x, rfl⟩) | (go_at_call 11; (with_reducible refine (shown_10 _).mono ?_); rintro e _ ⟨rfl, x, rfl⟩))
          have hB := HB.out
          exact bodyPost_ret (v := .bool true) (by simp [results, Try.results4, go_sem, *]) rfl ⟨rfl, (Later.mk_of (by repeat (first | (with_reducible assumption) | (with_reducible exact Below.refl _ _) | (with_reducible refine Later.after ?_ _) | (with_reducible refine Later.newer ?_ _) | (with_reducible refine Below.drew ?_) | (with_reducible refine Below.setCell ?_ (by first | exact Nat.le_refl _ | exact Nat.le_add_right _ _ | omega | (simp [go_sem]; done) | (simp [go_sem]; omega)) _))))⟩
        rw [e1] at cg
        cases e2 : goodB (shw a b s)
        · rw [e2] at ct
          have Hg := Lib.hid cg
          have Ht := Lib.hid ct
          clear cg ct
          go_wp2_with (first | (go_at_call 10; (with_reducible refine (Hg.out _).mono ?_); rintro e _ ⟨rfl, x, rfl⟩) | (go_at_call 10; (with_reducible refine (Ht.out _).mono ?_); rintro e _ ⟨rfl, x, rfl⟩) | (go_at_call 11; (with_reducible refine (shown_10 _).mono ?_); rintro e _ ⟨rfl, x, rfl⟩))
          have hB := HB.out
          exact bodyPost_ret (v := .bool true) (by simp [results, Try.results4, go_sem, *]) rfl ⟨rfl, (Later.mk_of (by repeat (first | (with_reducible assumption) | (with_reducible exact Below.refl _ _) | (with_reducible refine Later.after ?_ _) | (with_reducible refine Later.newer ?_ _) | (with_reducible refine Below.drew ?_) | (with_reducible refine Below.setCell ?_ (by first | exact Nat.le_refl _ | exact Nat.le_add_right _ _ | omega | (simp [go_sem]; done) | (simp [go_sem]; omega)) _))))⟩
        rw [e2] at ct
        cases a1 : decide (536870912 < a)
        rotate_left
        · have Hg := Lib.hid cg
          have Ht := Lib.hid ct
          clear cg ct
          go_wp2_with (first | (go_at_call 10; (with_reducible refine (Hg.out _).mono ?_); rintro e _ ⟨rfl, x, rfl⟩) | (go_at_call 10; (with_reducible refine (Ht.out _).mono ?_); rintro e _ ⟨rfl, x, rfl⟩) | (go_at_call 11; (with_reducible refine (shown_10 _).mono ?_); rintro e _ ⟨rfl, x, rfl⟩))
          have hB := HB.out
          exact bodyPost_ret (v := .bool true) (by simp [results, Try.results4, go_sem, *]) rfl ⟨rfl, (Later.mk_of (by repeat (first | (with_reducible assumption) | (with_reducible exact Below.refl _ _) | (with_reducible refine Later.after ?_ _) | (with_reducible refine Later.newer ?_ _) | (with_reducible refine Below.drew ?_) | (with_reducible refine Below.setCell ?_ (by first | exact Nat.le_refl _ | exact Nat.le_add_right _ _ | omega | (simp [go_sem]; done) | (simp [go_sem]; omega)) _))))⟩
        cases a2 : decide (a < -536870912)
        rotate_left
        · have Hg := Lib.hid cg
          have Ht := Lib.hid ct
          clear cg ct
          go_wp2_with (first | (go_at_call 10; (with_reducible refine (Hg.out _).mono ?_); rintro e _ ⟨rfl, x, rfl⟩) | (go_at_call 10; (with_reducible refine (Ht.out _).mono ?_); rintro e _ ⟨rfl, x, rfl⟩) | (go_at_call 11; (with_reducible refine (shown_10 _).mono ?_); rintro e _ ⟨rfl, x, rfl⟩))
          have hB := HB.out
          exact bodyPost_ret (v := .bool true) (by simp [results, Try.results4, go_sem, *]) rfl ⟨rfl, (Later.mk_of (by repeat (first | (with_reducible assumption) | (with_reducible exact Below.refl _ _) | (with_reducible refine Later.after ?_ _) | (with_reducible refine Later.newer ?_ _) | (with_reducible refine Below.drew ?_) | (with_reducible refine Below.setCell ?_ (by first | exact Nat.le_refl _ | exact Nat.le_add_right _ _ | omega | (simp [go_sem]; done) | (simp [go_sem]; omega)) _))))⟩
        cases a3 : decide (536870912 < b)
        rotate_left
        · have Hg := Lib.hid cg
          have Ht := Lib.hid ct
          clear cg ct
          go_wp2_with (first | (go_at_call 10; (with_reducible refine (Hg.out _).mono ?_); rintro e _ ⟨rfl, x, rfl⟩) | (go_at_call 10; (with_reducible refine (Ht.out _).mono ?_); rintro e _ ⟨rfl, x, rfl⟩) | (go_at_call 11; (with_reducible refine (shown_10 _).mono ?_); rintro e _ ⟨rfl, x, rfl⟩))
          have hB := HB.out
          exact bodyPost_ret (v := .bool true) (by simp [results, Try.results4, go_sem, *]) rfl ⟨rfl, (Later.mk_of (by repeat (first | (with_reducible assumption) | (with_reducible exact Below.refl _ _) | (with_reducible refine Later.after ?_ _) | (with_reducible refine Later.newer ?_ _) | (with_reducible refine Below.drew ?_) | (with_reducible refine Below.setCell ?_ (by first | exact Nat.le_refl _ | exact Nat.le_add_right _ _ | omega | (simp [go_sem]; done) | (simp [go_sem]; omega)) _))))⟩
        cases a4 : decide (b < -536870912)
        rotate_left
        · have Hg := Lib.hid cg
          have Ht := Lib.hid ct
          clear cg ct
          go_wp2_with (first | (go_at_call 10; (with_reducible refine (Hg.out _).mono ?_); rintro e _ ⟨rfl, x, rfl⟩) | (go_at_call 10; (with_reducible refine (Ht.out _).mono ?_); rintro e _ ⟨rfl, x, rfl⟩) | (go_at_call 11; (with_reducible refine (shown_10 _).mono ?_); rintro e _ ⟨rfl, x, rfl⟩))
          have hB := HB.out
          exact bodyPost_ret (v := .bool true) (by simp [results, Try.results4, go_sem, *]) rfl ⟨rfl, (Later.mk_of (by repeat (first | (with_reducible assumption) | (with_reducible exact Below.refl _ _) | (with_reducible refine Later.after ?_ _) | (with_reducible refine Later.newer ?_ _) | (with_reducible refine Below.drew ?_) | (with_reducible refine Below.setCell ?_ (by first | exact Nat.le_refl _ | exact Nat.le_add_right _ _ | omega | (simp [go_sem]; done) | (simp [go_sem]; omega)) _))))⟩
        have a1' := of_decide_eq_false a1
        have a2' := of_decide_eq_false a2
        have a3' := of_decide_eq_false a3
        have a4' := of_decide_eq_false a4
        have G := goodB_good s e1 h9
        have hl := flat_len t s G
        have b1' : -536870912 ≤ a := by omega
        have b2' : a ≤ 536870912 := by omega
        have b3' : -536870912 ≤ b := by omega
        have b4' : b ≤ 536870912 := by omega
        have G' := goodB_good (shw a b s) e2 (by simpa [shw] using h9)
        have esh := shw_shf a b s G b1' b2' b3' b4'
        have p1 := fun v => points_E s G h9 t t0 (by omega) v
        have p2 := fun v => points_E (shw a b s) G' (by simpa [shw] using h9) t t0 (by omega) v
        have pe := fun v => end_E s G v
        have hL2 : ((flat t).all (shw a b s)).length = ((flat t).all s).length := by rw [esh, flat_shf t a b s G]; simp
        rw [hL2] at p2
        have at_ := fun k hk => flat_at t a b s G k hk
        rw [← esh] at at_
        have last := fun m hm => flat_lastk t s G m hm
        generalize hM : ((flat t).all s).length = M at *
        obtain ⟨m, hm⟩ : ∃ m, M = m + 1 := ⟨M - 1, by omega⟩
        have last' := last m hm
        have eM1 : IntKind.i64.wrap ((M : Int) - 1) = (m : Int) := by rw [IntWalk.i64_in _ (by omega)]; omega
        have eM2 : wrap64 ((M : Int) - 1) = (m : Int) := by unfold wrap64; omega
        have eM3 : (M : Int) - 1 = (m : Int) := by omega
        have M1 : (1 : Int) ≤ M := by omega
        have M9 : (M : Int) ≤ 1024 := by omega
        have m0 : (0 : Int) ≤ m := by omega
        have mM : m < M := by omega
        have M0 : ((M : Int) == 0) = false := by simp; omega
        have M0' : (M == 0) = false := by simp; omega
        have M2 : decide ((1024 : Int) < M) = false := by simp; omega
        have M2' : decide (1024 < M) = false := by simp; omega
        have HA := Lib.hid (And.intro b1' (And.intro b2' (And.intro b3' b4')))
        have HX := Lib.hid at_
        have HL := Lib.hid last'
        have Hm := Lib.hid hm
        have HhM := Lib.hid hM
        have Hp1 := Lib.hid p1
        have Hp2 := Lib.hid p2
        have Hpe := Lib.hid pe
        have Hg := Lib.hid cg
        have Ht := Lib.hid ct
        clear a1' a2' a3' a4' b1' b2' b3' b4' at_ last last' hm hM p1 p2 pe cg ct esh hL2 e1 e2 G G' hl
        generalize hl1 : (flat t).all s = l1 at *
        generalize hl2 : (flat t).all (shw a b s) = l2 at *
        clear hl1 hl2
        go_wp2_with (first | (go_at_call 10; (with_reducible refine (Hg.out _).mono ?_); rintro e _ ⟨rfl, x, rfl⟩) | (go_at_call 10; (with_reducible refine (Ht.out _).mono ?_); rintro e _ ⟨rfl, x, rfl⟩) | (go_at_call 11; (with_reducible refine (shown_10 _).mono ?_); rintro e _ ⟨rfl, x, rfl⟩) | (go_at_call 13; (with_reducible refine (Hp1.out _).mono ?_); intro _ _ hs; obtain ⟨g1, cap1, x1, rfl, rfl, hg1, hl1, hc1⟩ := hs.opens (by omega); have HC1 := Lib.hid hc1; clear hc1 hs) | (go_at_call 13; (with_reducible refine (Hp2.out _).mono ?_); intro _ _ hs; obtain ⟨g2, cap2, x2, rfl, rfl, hg2, hl2, hc2⟩ := hs.opens (by omega); have HC2 := Lib.hid hc2; clear hc2 hs))
        have q0 := HC1.out (m * 2) (by omega)
        have q1 := HC1.out (m * 2 + 1) (by omega)
        rw [(fl_x l1 m _ HL.out).1] at q0
        rw [(fl_x l1 m _ HL.out).2] at q1
        refine wp_region_later (by kernel_rfl) (by kernel_rfl) ?_
        repeat (go_big_quiet_step ((first | (go_at_call 15; with_reducible exact Later.call _ (Hpe.out _)))))
        refine wpQuiet_nil ?_
        intro x
        go_wp2_with (fail)
        go_loopw [11] (fun i wr => ∃ j : Nat, j ≤ M ∧ i = .int .i64 j ∧ ∃ y : Later x.out, wr = y.out) (fun i _ => M - (intOf i).toNat)
        case atStart => exact ⟨0, by omega, rfl, ⟨x.out, Below.refl _ _⟩, rfl⟩
        case round =>
          obtain ⟨j, hj, rfl, y, rfl⟩ := hrel
          by_cases hjM : j < M
          · obtain ⟨p, q, hp, hq, p0, p9, q0, q9⟩ := HX.out j hjM
            have r0 := HC1.out (j * 2) (by omega)
            have r1 := HC1.out (j * 2 + 1) (by omega)
            have r2 := HC2.out (j * 2) (by omega)
            have r3 := HC2.out (j * 2 + 1) (by omega)
            rw [(fl_x l1 j _ hp).1] at r0
            rw [(fl_x l1 j _ hp).2] at r1
            rw [(fl_x l2 j _ hq).1] at r2
            rw [(fl_x l2 j _ hq).2] at r3
            have hd : decide (j < M) = true := by simp [hjM]
            have hi : decide ((j : Int) < M) = true := by simp; omega
            obtain ⟨A1, A2, A3, A4⟩ := HA.out
            have w1 : IntKind.i64.wrap (p + a) = p + a := IntWalk.i64_in _ (by omega)
            have w2 : IntKind.i64.wrap (q + b) = q + b := IntWalk.i64_in _ (by omega)
            have w3 : wrap64 (p + a) = p + a := w64_in _ (by unfold R64; omega)
            have w4 : wrap64 (q + b) = q + b := w64_in _ (by unfold R64; omega)
            clear hp hq A1 A2 A3 A4 p0 p9 q0 q9
            go_wp2_with (fail)
            refine wp_region_later (by kernel_rfl) (by kernel_rfl) ?_
            repeat (go_big_quiet_step ((first | fail)))
            refine wpQuiet_nil ?_
            intro x
            go_wp2_with (fail)
            go_roundw
            case rel => exact ⟨j + 1, by omega, by go_num, ⟨x.out, y.below.trans (x.below.mono y.below.size)⟩, rfl⟩
            case measure => simp [intOf]; omega
          · obtain rfl : j = M := by omega
            go_wp2_with (fail)
            have hB := HB.out
            exact bodyPost_ret (v := .bool true) (by simp [results, Try.results4, go_sem, *]) rfl ⟨rfl, (Later.mk_of (by repeat (first | (with_reducible assumption) | (with_reducible exact Below.refl _ _) | (with_reducible refine Later.after ?_ _) | (with_reducible refine Later.newer ?_ _) | (with_reducible refine Below.drew ?_) | (with_reducible refine Below.setCell ?_ (by first | exact Nat.le_refl _ | exact Nat.le_add_right _ _ | omega | (simp [go_sem]; done) | (simp [go_sem]; omega)) _))))⟩
      · obtain rfl : k = 4 := by omega
        have e1 : goodB s = false := by
          have : ¬ s 8 ≤ 4 := by omega
          simp [goodB, this]
        rw [e1] at cg
        have Hg := Lib.hid cg
        have Ht := Lib.hid ct
        clear cg ct
        go_wp2_with (first | (go_at_call 10; (with_reducible refine (Hg.out _).mono ?_); rintro e _ ⟨rfl, x, rfl⟩) | (go_at_call 10; (with_reducible refine (Ht.out _).mono ?_); rintro e _ ⟨rfl, x, rfl⟩) | (go_at_call 11; (with_reducible refine (shown_10 _).mono ?_); rintro e _ ⟨rfl, x, rfl⟩))
        have hB := HB.out
        exact bodyPost_ret (v := .bool true) (by simp [results, Try.results4, go_sem, *]) rfl ⟨rfl, (Later.mk_of (by repeat (first | (with_reducible assumption) | (with_reducible exact Below.refl _ _) | (with_reducible refine Later.after ?_ _) | (with_reducible refine Later.newer ?_ _) | (with_reducible refine Below.drew ?_) | (with_reducible refine Below.setCell ?_ (by first | exact Nat.le_refl _ | exact Nat.le_add_right _ _ | omega | (simp [go_sem]; done) | (simp [go_sem]; omega)) _))))⟩

end Go.Proofs.Ytfgppkiioinphaa

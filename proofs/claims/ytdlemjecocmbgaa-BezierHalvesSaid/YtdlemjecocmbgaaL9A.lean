/-
  Halves of a segment that is shifted, each point of it, how flat it is, and how long: walked.
-/
import Derived.Test.YtdlemjecocmbgaaS9
import Derived.Test.YtdlemjecocmbgaaL10A
namespace Go.Proofs.Ytdlemjecocmbgaa
set_option linter.unusedVariables false
open Go.RowKit

theorem shw_shf' (a b : Int) (s : En) (g : GoodE s) (a1 : -1073741824 ≤ a) (a2 : a ≤ 1073741824) (b1 : -1073741824 ≤ b) (b2 : b ≤ 1073741824) : shw a b s = shf a b s := by
  funext i
  have hn : (nn s : Int) = s 8 := by rcases nn_of g with k | k | k <;> omega
  unfold shw shf
  by_cases h : i < 8 ∧ i / 2 < nn s
  · rw [if_pos h, if_pos (show i < 8 ∧ ((i / 2 : Nat) : Int) < s 8 from ⟨h.1, by omega⟩)]
    have := g.bd i h.1
    exact w64_in _ (by unfold R64; split <;> omega)
  · rw [if_neg h, if_neg (by omega)]
/-- the cells of a segment's box, point by point -/
theorem seg_pt {W : World} {g : Nat} (s : En) (h : Blk W g 39 #[.int .i64 (s 0), .int .i64 (s 1), .int .i64 (s 2), .int .i64 (s 3), .int .i64 (s 4), .int .i64 (s 5), .int .i64 (s 6), .int .i64 (s 7), .int .i64 (s 8)]) (j : Nat) (hj : j < 4) : W.cell? ⟨g, j * 2, none⟩ = some (.int .i64 (s (2 * j))) ∧ W.cell? ⟨g, j * 2 + 1, none⟩ = some (.int .i64 (s (2 * j + 1))) := by
  rw [h.cell, h.cell]
  have : j = 0 ∨ j = 1 ∨ j = 2 ∨ j = 3 := by omega
  rcases this with rfl | rfl | rfl | rfl <;> exact ⟨rfl, rfl⟩
theorem fltB_shf (t a b : Int) (s : En) (g : GoodE s) : fltB (shf a b s) t = fltB s t := by
  have n4 : nn s ≤ 4 ∧ 2 ≤ nn s := by rcases nn_of g with k | k | k <;> omega
  have p := fun j hj => shf_pt a b s n4.1 j hj
  have p0 := p 0 (by omega)
  have pl := p (nn s - 1) (by omega)
  simp only [Nat.mul_zero, Nat.zero_add] at p0
  have s8 : shf a b s 8 = s 8 := by simp [shf]
  have sub : ∀ x y d : Int, x + d - (y + d) = x - y := fun x y d => by omega
  have o0 : ∀ i, i < nn s → offX (shf a b s) 0 i = offX s 0 i := fun i hi => by
    have pi := p i hi
    unfold offX
    rw [nn_shf, s8, p0.1, Nat.add_zero, Nat.add_zero, pl.1, pi.1, sub]
    omega
  have o1 : ∀ i, i < nn s → offX (shf a b s) 1 i = offX s 1 i := fun i hi => by
    have pi := p i hi
    unfold offX
    rw [nn_shf, s8, p0.2, pl.2, pi.2, sub]
    omega
  unfold fltB
  rw [nn_shf]
  rcases nn_of g with k | k | k
  · rw [if_pos k.1, if_pos k.1]
  · rw [if_neg (by omega), if_pos k.1, if_neg (by omega), if_pos k.1, o0 1 (by omega), o1 1 (by omega)]
  · rw [if_neg (by omega), if_neg (by omega), if_neg (by omega), if_neg (by omega), o0 1 (by omega), o1 1 (by omega), o0 2 (by omega), o1 2 (by omega)]


set_option maxRecDepth 100000 in
set_option maxHeartbeats 4000000 in
theorem bshifts_walk (s : En) (h9 : s 9 = 0) (a b k8 t : Int) (a0 : R64 a) (b0 : R64 b) (k80 : 0 ≤ k8) (k89 : k8 ≤ 255) (t0 : 0 ≤ t) (t9 : t ≤ 65535) (w : World) : Calls Try.prog 9 #[.agg #[.int .i64 (s 0), .int .i64 (s 1), .int .i64 (s 2), .int .i64 (s 3), .int .i64 (s 4), .int .i64 (s 5), .int .i64 (s 6), .int .i64 (s 7), .int .i64 (s 8)], .agg #[.int .i64 a, .int .i64 b], .int .u8 k8, .int .u16 t] w fun e w' => e = .returned (.bool true) ∧ ∃ x : Later w, w' = x.out := by
  have HR := Lib.hid (And.intro a0 b0)
  clear a0 b0
  go_enter Try.func9, Try.ntmps9
  go_wp2
  go_loopw [10] (fun i wr => ∃ k : Nat, k ≤ 4 ∧ (k = 0 ∨ (k : Int) ≤ s 8) ∧ i = .int .i64 k ∧ Blk wr w.heap.size 39 #[.int .i64 (s 0), .int .i64 (s 1), .int .i64 (s 2), .int .i64 (s 3), .int .i64 (s 4), .int .i64 (s 5), .int .i64 (s 6), .int .i64 (s 7), .int .i64 (s 8)] ∧ Blk wr (w.heap.size + 1) 23 #[.int .i64 a, .int .i64 b] ∧ Blk wr (w.heap.size + 1 + 1) 39 #[.int .i64 (shk a b k s 0), .int .i64 (shk a b k s 1), .int .i64 (shk a b k s 2), .int .i64 (shk a b k s 3), .int .i64 (shk a b k s 4), .int .i64 (shk a b k s 5), .int .i64 (shk a b k s 6), .int .i64 (shk a b k s 7), .int .i64 (shk a b k s 8)] ∧ Below w.heap.size w wr) (fun i _ => 4 - (intOf i).toNat)
  case atStart => exact ⟨0, by omega, .inl rfl, rfl, ((Blk.new _ _ _).alloc _).alloc _, (Blk.new' (by simp)).alloc _, by rw [shk_0]; exact Blk.new' (by simp), (by repeat (first | (with_reducible assumption) | (with_reducible exact Below.refl _ _) | (with_reducible refine Later.after ?_ _) | (with_reducible refine Later.newer ?_ _) | (with_reducible refine Below.drew ?_) | (with_reducible refine Below.setCell ?_ (by first | exact Nat.le_refl _ | exact Nat.le_add_right _ _ | omega | (simp [go_sem]; done) | (simp [go_sem]; omega)) _)))⟩
  case round =>
    obtain ⟨k, hk, hk0, rfl, b0, b1, b2, hB⟩ := hrel
    by_cases hgo : k < 4 ∧ (k : Int) < s 8
    · obtain ⟨hlt, hl8⟩ := hgo
      have HB := Lib.hid hB
      clear hB
      have : k = 0 ∨ k = 1 ∨ k = 2 ∨ k = 3 := by omega
      rcases this with rfl | rfl | rfl | rfl
      all_goals
        obtain ⟨c0, z0, l0⟩ := b0.all
        obtain ⟨c1, z1, l1⟩ := b1.all
        obtain ⟨c2, z2, l2⟩ := b2.all
        have Hb0 := Lib.hid b0
        have Hb1 := Lib.hid b1
        have Hb2 := Lib.hid b2
        clear b0 b1 b2
        go_wp2_with (fail)
        refine wp_region_later_tail 20 (by kernel_rfl) (by kernel_rfl) ?_
        simp only [List.take_succ_cons, List.take_zero, List.drop_succ_cons, List.drop_zero]
        repeat (go_big_quiet_step ((first | fail)))
        refine wpQuiet_nil ?_
        intro x
        go_wp2_with (fail)
        go_roundw
        case rel =>
          have hB := HB.out
          first
          | exact ⟨1, by omega, .inr (by omega), rfl, ((Hb0.out.later x).other _ _ (by omega)).other _ _ (by omega), ((Hb1.out.later x).other _ _ (by omega)).other _ _ (by omega), (((Hb2.out.later x).set _ _).set _ _).eq (by simp [shk]), (by repeat (first | (with_reducible assumption) | (with_reducible exact Below.refl _ _) | (with_reducible refine Later.after ?_ _) | (with_reducible refine Later.newer ?_ _) | (with_reducible refine Below.drew ?_) | (with_reducible refine Below.setCell ?_ (by first | exact Nat.le_refl _ | exact Nat.le_add_right _ _ | omega | (simp [go_sem]; done) | (simp [go_sem]; omega)) _)))⟩
          | exact ⟨2, by omega, .inr (by omega), rfl, ((Hb0.out.later x).other _ _ (by omega)).other _ _ (by omega), ((Hb1.out.later x).other _ _ (by omega)).other _ _ (by omega), (((Hb2.out.later x).set _ _).set _ _).eq (by simp [shk]), (by repeat (first | (with_reducible assumption) | (with_reducible exact Below.refl _ _) | (with_reducible refine Later.after ?_ _) | (with_reducible refine Later.newer ?_ _) | (with_reducible refine Below.drew ?_) | (with_reducible refine Below.setCell ?_ (by first | exact Nat.le_refl _ | exact Nat.le_add_right _ _ | omega | (simp [go_sem]; done) | (simp [go_sem]; omega)) _)))⟩
          | exact ⟨3, by omega, .inr (by omega), rfl, ((Hb0.out.later x).other _ _ (by omega)).other _ _ (by omega), ((Hb1.out.later x).other _ _ (by omega)).other _ _ (by omega), (((Hb2.out.later x).set _ _).set _ _).eq (by simp [shk]), (by repeat (first | (with_reducible assumption) | (with_reducible exact Below.refl _ _) | (with_reducible refine Later.after ?_ _) | (with_reducible refine Later.newer ?_ _) | (with_reducible refine Below.drew ?_) | (with_reducible refine Below.setCell ?_ (by first | exact Nat.le_refl _ | exact Nat.le_add_right _ _ | omega | (simp [go_sem]; done) | (simp [go_sem]; omega)) _)))⟩
          | exact ⟨4, by omega, .inr (by omega), rfl, ((Hb0.out.later x).other _ _ (by omega)).other _ _ (by omega), ((Hb1.out.later x).other _ _ (by omega)).other _ _ (by omega), (((Hb2.out.later x).set _ _).set _ _).eq (by simp [shk]), (by repeat (first | (with_reducible assumption) | (with_reducible exact Below.refl _ _) | (with_reducible refine Later.after ?_ _) | (with_reducible refine Later.newer ?_ _) | (with_reducible refine Below.drew ?_) | (with_reducible refine Below.setCell ?_ (by first | exact Nat.le_refl _ | exact Nat.le_add_right _ _ | omega | (simp [go_sem]; done) | (simp [go_sem]; omega)) _)))⟩
        case measure => simp [intOf]
    · rw [shk_shw a b s k hk hk0 (by omega)] at b2
      have Hb0 := Lib.hid b0
      have Hb1 := Lib.hid b1
      have Hb2 := Lib.hid b2
      obtain ⟨c0, z0, l0⟩ := b0.all
      obtain ⟨c1, z1, l1⟩ := b1.all
      obtain ⟨c2, z2, l2⟩ := b2.all
      have HB := Lib.hid hB
      clear hB b0 b1 b2
      have cg := fun v => gd9_c s v
      have ct := fun v => gd9_c (shw a b s) v
      have cn := fun v => ptNear_r a b v
      by_cases hs : s 8 ≤ (k : Int)
      · cases e1 : goodB s
        · rw [e1] at cg
          have Hg := Lib.hid cg
          have Ht := Lib.hid ct
          have Hn := Lib.hid cn
          clear cg ct cn
          go_wp2_with (first | (go_at_call 32; (with_reducible refine (Hg.out _).mono ?_); rintro e _ ⟨rfl, x, rfl⟩) | (go_at_call 32; (with_reducible refine (Ht.out _).mono ?_); rintro e _ ⟨rfl, x, rfl⟩) | (go_at_call 10; (with_reducible refine (Hn.out _).mono ?_); rintro e _ ⟨rfl, x, rfl⟩) | (go_at_call 33; (with_reducible refine (shown_9 _).mono ?_); rintro e _ ⟨rfl, x, rfl⟩))
          have hB := HB.out
          exact bodyPost_ret (v := .bool true) (by simp [results, Try.results9, go_sem, *]) rfl ⟨rfl, (Later.mk_of (by repeat (first | (with_reducible assumption) | (with_reducible exact Below.refl _ _) | (with_reducible refine Later.after ?_ _) | (with_reducible refine Later.newer ?_ _) | (with_reducible refine Below.drew ?_) | (with_reducible refine Below.setCell ?_ (by first | exact Nat.le_refl _ | exact Nat.le_add_right _ _ | omega | (simp [go_sem]; done) | (simp [go_sem]; omega)) _))))⟩
        rw [e1] at cg
        cases e2 : goodB (shw a b s)
        · rw [e2] at ct
          have Hg := Lib.hid cg
          have Ht := Lib.hid ct
          have Hn := Lib.hid cn
          clear cg ct cn
          go_wp2_with (first | (go_at_call 32; (with_reducible refine (Hg.out _).mono ?_); rintro e _ ⟨rfl, x, rfl⟩) | (go_at_call 32; (with_reducible refine (Ht.out _).mono ?_); rintro e _ ⟨rfl, x, rfl⟩) | (go_at_call 10; (with_reducible refine (Hn.out _).mono ?_); rintro e _ ⟨rfl, x, rfl⟩) | (go_at_call 33; (with_reducible refine (shown_9 _).mono ?_); rintro e _ ⟨rfl, x, rfl⟩))
          have hB := HB.out
          exact bodyPost_ret (v := .bool true) (by simp [results, Try.results9, go_sem, *]) rfl ⟨rfl, (Later.mk_of (by repeat (first | (with_reducible assumption) | (with_reducible exact Below.refl _ _) | (with_reducible refine Later.after ?_ _) | (with_reducible refine Later.newer ?_ _) | (with_reducible refine Below.drew ?_) | (with_reducible refine Below.setCell ?_ (by first | exact Nat.le_refl _ | exact Nat.le_add_right _ _ | omega | (simp [go_sem]; done) | (simp [go_sem]; omega)) _))))⟩
        rw [e2] at ct
        cases e3 : (btw a && btw b)
        · rw [e3] at cn
          have Hg := Lib.hid cg
          have Ht := Lib.hid ct
          have Hn := Lib.hid cn
          clear cg ct cn
          go_wp2_with (first | (go_at_call 32; (with_reducible refine (Hg.out _).mono ?_); rintro e _ ⟨rfl, x, rfl⟩) | (go_at_call 32; (with_reducible refine (Ht.out _).mono ?_); rintro e _ ⟨rfl, x, rfl⟩) | (go_at_call 10; (with_reducible refine (Hn.out _).mono ?_); rintro e _ ⟨rfl, x, rfl⟩) | (go_at_call 33; (with_reducible refine (shown_9 _).mono ?_); rintro e _ ⟨rfl, x, rfl⟩))
          have hB := HB.out
          exact bodyPost_ret (v := .bool true) (by simp [results, Try.results9, go_sem, *]) rfl ⟨rfl, (Later.mk_of (by repeat (first | (with_reducible assumption) | (with_reducible exact Below.refl _ _) | (with_reducible refine Later.after ?_ _) | (with_reducible refine Later.newer ?_ _) | (with_reducible refine Below.drew ?_) | (with_reducible refine Below.setCell ?_ (by first | exact Nat.le_refl _ | exact Nat.le_add_right _ _ | omega | (simp [go_sem]; done) | (simp [go_sem]; omega)) _))))⟩
        rw [e3] at cn
        have G := goodB_good s e1 h9
        have G' := goodB_good (shw a b s) e2 (by simpa [shw] using h9)
        simp only [Bool.and_eq_true, btw_iff] at e3
        obtain ⟨⟨b1', b2'⟩, b3', b4'⟩ := e3
        have esh := shw_shf' a b s G b1' b2' b3' b4'
        have n4 : nn s ≤ 4 ∧ 2 ≤ nn s ∧ (nn s : Int) = s 8 := by rcases nn_of G with k | k | k <;> omega
        have ch1 := fun v => halves_E s G v
        have ch2 := fun v => halves_E (shw a b s) G' v
        have ca1 := fun v => at_E s G k8 255 (by omega) (by omega) k80 k89 v
        have ca2 := fun v => at_E (shw a b s) G' k8 255 (by omega) (by omega) k80 k89 v
        have cf1 := fun v => flat_E s G t t0 (by omega) v
        have cf2 := fun v => flat_E (shw a b s) G' t t0 (by omega) v
        have cl1 := fun v => legs_E s G v
        have cl2 := fun v => legs_E (shw a b s) G' v
        have cc1 := fun v => chord_E s G v
        have cc2 := fun v => chord_E (shw a b s) G' v
        have eA : hlfA (shw a b s) = shf a b (hlfA s) := by rw [esh]; exact hlfA_shf a b s n4.1
        have eB : hlfB (shw a b s) = shf a b (hlfB s) := by rw [esh]; exact hlfB_shf a b s n4.1
        rw [esh, atE_shf k8 255 a b s G 0 (by omega), atE_shf k8 255 a b s G 1 (by omega), ← esh] at ca2
        rw [esh, fltB_shf t a b s G, ← esh] at cf2
        rw [esh, lgsE_shf a b s G, ← esh] at cl2
        rw [esh, chdE_shf a b s G, ← esh] at cc2
        simp only [if_true, Nat.one_ne_zero, if_false] at ca2
        have bA0 := atE_bd k8 255 s G (by omega) k80 k89 0 (by omega)
        have bA1 := atE_bd k8 255 s G (by omega) k80 k89 1 (by omega)
        have HAT := Lib.hid (And.intro bA0 bA1)
        have HEA : Hid (∀ j, j < nn s → hlfA (shw a b s) (2 * j) = hlfA s (2 * j) + a ∧ hlfA (shw a b s) (2 * j + 1) = hlfA s (2 * j + 1) + b ∧ hlfB (shw a b s) (2 * j) = hlfB s (2 * j) + a ∧ hlfB (shw a b s) (2 * j + 1) = hlfB s (2 * j + 1) + b) := Lib.hid (fun j hj => by
          have hA : nn (hlfA s) = nn s := by simp [nn, hlfA]
          have hB' : nn (hlfB s) = nn s := by simp [nn, hlfB]
          rw [eA, eB]
          have pA := shf_pt a b (hlfA s) (by omega) j (by omega)
          have pB := shf_pt a b (hlfB s) (by omega) j (by omega)
          exact ⟨pA.1, pA.2, pB.1, pB.2⟩)
        have HGB : Hid (∀ i, i < 8 → (-268435456 ≤ hlfA s i ∧ hlfA s i ≤ 268435456) ∧ (-268435456 ≤ hlfB s i ∧ hlfB s i ≤ 268435456)) := Lib.hid (by
          have s9 : s 9 < 10 := by rw [h9]; omega
          exact fun i hi => ⟨(good_A G s9).bd i hi, (good_B G s9).bd i hi⟩)
        have HAB := Lib.hid (And.intro b1' (And.intro b2' (And.intro b3' b4')))
        have Hg := Lib.hid cg
        have Ht := Lib.hid ct
        have Hn := Lib.hid cn
        have HN4 := Lib.hid n4
        have Hch1 := Lib.hid ch1; clear ch1
        have Hch2 := Lib.hid ch2; clear ch2
        have Hca1 := Lib.hid ca1; clear ca1
        have Hca2 := Lib.hid ca2; clear ca2
        have Hcf1 := Lib.hid cf1; clear cf1
        have Hcf2 := Lib.hid cf2; clear cf2
        have Hcl1 := Lib.hid cl1; clear cl1
        have Hcl2 := Lib.hid cl2; clear cl2
        have Hcc1 := Lib.hid cc1; clear cc1
        have Hcc2 := Lib.hid cc2; clear cc2
        clear cg ct cn esh eA eB e1 e2 G G' n4 bA0 bA1 b1' b2' b3' b4'
        go_wp2_with (first | (go_at_call 32; (with_reducible refine (Hg.out _).mono ?_); rintro e _ ⟨rfl, x, rfl⟩) | (go_at_call 32; (with_reducible refine (Ht.out _).mono ?_); rintro e _ ⟨rfl, x, rfl⟩) | (go_at_call 10; (with_reducible refine (Hn.out _).mono ?_); rintro e _ ⟨rfl, x, rfl⟩) | (go_at_call 33; (with_reducible refine (shown_9 _).mono ?_); rintro e _ ⟨rfl, x, rfl⟩) | (go_at_call 34; (with_reducible refine (Hch1.out _).mono ?_); rintro e _ ⟨rfl, y1, rfl⟩) | (go_at_call 34; (with_reducible refine (Hch2.out _).mono ?_); rintro e _ ⟨rfl, y2, rfl⟩))
        go_loopw [15] (fun i wr => ∃ j : Nat, j ≤ 4 ∧ (j : Int) ≤ s 8 ∧ i = .int .i64 j ∧ Blk wr w.heap.size 39 #[.int .i64 (s 0), .int .i64 (s 1), .int .i64 (s 2), .int .i64 (s 3), .int .i64 (s 4), .int .i64 (s 5), .int .i64 (s 6), .int .i64 (s 7), .int .i64 (s 8)] ∧ Blk wr (w.heap.size + 1) 23 #[.int .i64 a, .int .i64 b] ∧ Blk wr (w.heap.size + 1 + 1) 39 #[.int .i64 (shw a b s 0), .int .i64 (shw a b s 1), .int .i64 (shw a b s 2), .int .i64 (shw a b s 3), .int .i64 (shw a b s 4), .int .i64 (shw a b s 5), .int .i64 (shw a b s 6), .int .i64 (shw a b s 7), .int .i64 (shw a b s 8)] ∧
          Blk wr y1.out.heap.size 39 #[.int .i64 (hlfA s 0), .int .i64 (hlfA s 1), .int .i64 (hlfA s 2), .int .i64 (hlfA s 3), .int .i64 (hlfA s 4), .int .i64 (hlfA s 5), .int .i64 (hlfA s 6), .int .i64 (hlfA s 7), .int .i64 (hlfA s 8)] ∧ Blk wr (y1.out.heap.size + 1) 39 #[.int .i64 (hlfB s 0), .int .i64 (hlfB s 1), .int .i64 (hlfB s 2), .int .i64 (hlfB s 3), .int .i64 (hlfB s 4), .int .i64 (hlfB s 5), .int .i64 (hlfB s 6), .int .i64 (hlfB s 7), .int .i64 (hlfB s 8)] ∧ Blk wr y2.out.heap.size 39 #[.int .i64 (hlfA (shw a b s) 0), .int .i64 (hlfA (shw a b s) 1), .int .i64 (hlfA (shw a b s) 2), .int .i64 (hlfA (shw a b s) 3), .int .i64 (hlfA (shw a b s) 4), .int .i64 (hlfA (shw a b s) 5), .int .i64 (hlfA (shw a b s) 6), .int .i64 (hlfA (shw a b s) 7), .int .i64 (hlfA (shw a b s) 8)] ∧ Blk wr (y2.out.heap.size + 1) 39 #[.int .i64 (hlfB (shw a b s) 0), .int .i64 (hlfB (shw a b s) 1), .int .i64 (hlfB (shw a b s) 2), .int .i64 (hlfB (shw a b s) 3), .int .i64 (hlfB (shw a b s) 4), .int .i64 (hlfB (shw a b s) 5), .int .i64 (hlfB (shw a b s) 6), .int .i64 (hlfB (shw a b s) 7), .int .i64 (hlfB (shw a b s) 8)] ∧ Below w.heap.size w wr) (fun i _ => 4 - (intOf i).toNat)
        case atStart =>
          have b0 := Hb0.out
          have b1 := Hb1.out
          have b2 := Hb2.out
          have hB := HB.out
          have n4 := HN4.out
          exact ⟨0, by omega, by omega, rfl, (by repeat (first | (with_reducible assumption) | (with_reducible refine Blk.later ?_ _) | (with_reducible refine Blk.drew ?_) | ((with_reducible refine Blk.new' ?_); (simp only [World.size_alloc, World.size_setCell, World.size_drew]; done)) | (with_reducible refine Blk.alloc ?_ _))), (by repeat (first | (with_reducible assumption) | (with_reducible refine Blk.later ?_ _) | (with_reducible refine Blk.drew ?_) | ((with_reducible refine Blk.new' ?_); (simp only [World.size_alloc, World.size_setCell, World.size_drew]; done)) | (with_reducible refine Blk.alloc ?_ _))), (by repeat (first | (with_reducible assumption) | (with_reducible refine Blk.later ?_ _) | (with_reducible refine Blk.drew ?_) | ((with_reducible refine Blk.new' ?_); (simp only [World.size_alloc, World.size_setCell, World.size_drew]; done)) | (with_reducible refine Blk.alloc ?_ _))), (by repeat (first | (with_reducible assumption) | (with_reducible refine Blk.later ?_ _) | (with_reducible refine Blk.drew ?_) | ((with_reducible refine Blk.new' ?_); (simp only [World.size_alloc, World.size_setCell, World.size_drew]; done)) | (with_reducible refine Blk.alloc ?_ _))), (by repeat (first | (with_reducible assumption) | (with_reducible refine Blk.later ?_ _) | (with_reducible refine Blk.drew ?_) | ((with_reducible refine Blk.new' ?_); (simp only [World.size_alloc, World.size_setCell, World.size_drew]; done)) | (with_reducible refine Blk.alloc ?_ _))), (by repeat (first | (with_reducible assumption) | (with_reducible refine Blk.later ?_ _) | (with_reducible refine Blk.drew ?_) | ((with_reducible refine Blk.new' ?_); (simp only [World.size_alloc, World.size_setCell, World.size_drew]; done)) | (with_reducible refine Blk.alloc ?_ _))), (by repeat (first | (with_reducible assumption) | (with_reducible refine Blk.later ?_ _) | (with_reducible refine Blk.drew ?_) | ((with_reducible refine Blk.new' ?_); (simp only [World.size_alloc, World.size_setCell, World.size_drew]; done)) | (with_reducible refine Blk.alloc ?_ _))), (by repeat (first | (with_reducible assumption) | (with_reducible exact Below.refl _ _) | (with_reducible refine Later.after ?_ _) | (with_reducible refine Later.newer ?_ _) | (with_reducible refine Below.drew ?_) | (with_reducible refine Below.setCell ?_ (by first | exact Nat.le_refl _ | exact Nat.le_add_right _ _ | omega | (simp [go_sem]; done) | (simp [go_sem]; omega)) _)))⟩
        case round =>
          clear c0 z0 l0 c1 z1 l1 c2 z2 l2
          obtain ⟨j, hj4, hj8, rfl, b0, b1, b2, b3, b4, b5, b6, hB⟩ := hrel
          have n4 := HN4.out
          have hN4 : s 8 ≤ 4 := by omega
          obtain ⟨c1, z1, l1⟩ := b1.all
          have l0 := b0.lt
          have l2 := b2.lt
          have l3 := b3.lt
          have l4 := b4.lt
          have l5 := b5.lt
          have l6 := b6.lt
          have f8 : wr.cell? ⟨w.heap.size, 8, none⟩ = some (.int .i64 (s 8)) := by rw [b0.cell]; rfl
          by_cases hlt : (j : Int) < s 8
          · have hj : j < 4 := by omega
            have hjn : j < nn s := by omega
            obtain ⟨r1, r2⟩ := seg_pt (hlfA s) b3 j hj
            obtain ⟨r3, r4⟩ := seg_pt (hlfB s) b4 j hj
            obtain ⟨r5, r6⟩ := seg_pt (hlfA (shw a b s)) b5 j hj
            obtain ⟨r7, r8⟩ := seg_pt (hlfB (shw a b s)) b6 j hj
            obtain ⟨q1, q2, q3, q4⟩ := HEA.out j hjn
            rw [q1] at r5
            rw [q2] at r6
            rw [q3] at r7
            rw [q4] at r8
            obtain ⟨A1, A2, A3, A4⟩ := HAB.out
            obtain ⟨⟨u1, u2⟩, ⟨u3, u4⟩⟩ := HGB.out (2 * j) (by omega)
            obtain ⟨⟨u5, u6⟩, ⟨u7, u8⟩⟩ := HGB.out (2 * j + 1) (by omega)
            have wa : ∀ p d : Int, -268435456 ≤ p → p ≤ 268435456 → -1073741824 ≤ d → d ≤ 1073741824 → IntKind.i64.wrap (p + d) = p + d ∧ wrap64 (p + d) = p + d := fun p d h1 h2 h3 h4 => ⟨IntWalk.i64_in _ (by omega), w64_in _ (by unfold R64; omega)⟩
            obtain ⟨v1, v1'⟩ := wa (hlfA s (2 * j)) a u1 u2 A1 A2
            obtain ⟨v2, v2'⟩ := wa (hlfA s (2 * j + 1)) b u5 u6 A3 A4
            obtain ⟨v3, v3'⟩ := wa (hlfB s (2 * j)) a u3 u4 A1 A2
            obtain ⟨v4, v4'⟩ := wa (hlfB s (2 * j + 1)) b u7 u8 A3 A4
            have K0 := Lib.hid b0
            have K1 := Lib.hid b1
            have K2 := Lib.hid b2
            have K3 := Lib.hid b3
            have K4 := Lib.hid b4
            have K5 := Lib.hid b5
            have K6 := Lib.hid b6
            have HB2 := Lib.hid hB
            clear q1 q2 q3 q4 A1 A2 A3 A4 u1 u2 u3 u4 u5 u6 u7 u8 wa b0 b1 b2 b3 b4 b5 b6 hB n4
            go_wp2_with (fail)
            refine wp_region_later (by kernel_rfl) (by kernel_rfl) ?_
            repeat (go_big_quiet_step ((first | fail)))
            refine wpQuiet_nil ?_
            intro x
            go_wp2_with (fail)
            go_roundw
            case rel => exact ⟨j + 1, by omega, by omega, by go_num, K0.out.later x, K1.out.later x, K2.out.later x, K3.out.later x, K4.out.later x, K5.out.later x, K6.out.later x, by have hB := HB2.out; (repeat (first | (with_reducible assumption) | (with_reducible refine Later.after ?_ _)))⟩
            case measure => simp [intOf]; omega
          · obtain ⟨A1, A2, A3, A4⟩ := HAB.out
            obtain ⟨⟨u1, u2⟩, ⟨u3, u4⟩⟩ := HAT.out
            have v1 : IntKind.i64.wrap (atE k8 255 s 0 + a) = atE k8 255 s 0 + a := IntWalk.i64_in _ (by omega)
            have v2 : IntKind.i64.wrap (atE k8 255 s 1 + b) = atE k8 255 s 1 + b := IntWalk.i64_in _ (by omega)
            have v3 : wrap64 (atE k8 255 s 0 + a) = atE k8 255 s 0 + a := w64_in _ (by unfold R64; omega)
            have v4 : wrap64 (atE k8 255 s 1 + b) = atE k8 255 s 1 + b := w64_in _ (by unfold R64; omega)
            obtain ⟨c0, z0, l0⟩ := b0.all
            obtain ⟨c2, z2, l2⟩ := b2.all
            have HB2 := Lib.hid hB
            clear A1 A2 A3 A4 u1 u2 u3 u4 b0 b1 b2 b3 b4 b5 b6 hB n4 f8
            go_wp2_with (first | (go_at_call 36; (with_reducible refine (Hca1.out _).mono ?_); rintro e _ ⟨rfl, x, rfl⟩) | (go_at_call 36; (with_reducible refine (Hca2.out _).mono ?_); rintro e _ ⟨rfl, x, rfl⟩))
            refine wp_region_later (by kernel_rfl) (by kernel_rfl) ?_
            repeat (go_big_quiet_step ((first | (go_at_call 37; with_reducible exact Later.call _ (Hcf1.out _)) | (go_at_call 37; with_reducible exact Later.call _ (Hcf2.out _)) | (go_at_call 38; with_reducible exact Later.call _ (Hcl1.out _)) | (go_at_call 38; with_reducible exact Later.call _ (Hcl2.out _)) | (go_at_call 39; with_reducible exact Later.call _ (Hcc1.out _)) | (go_at_call 39; with_reducible exact Later.call _ (Hcc2.out _)))))
            refine wpQuiet_nil ?_
            intro x
            go_wp2_with (fail)
            have hB := HB2.out
            exact bodyPost_ret (v := .bool true) (by simp [results, Try.results9, go_sem, *]) rfl ⟨rfl, (Later.mk_of (by repeat (first | (with_reducible assumption) | (with_reducible exact Below.refl _ _) | (with_reducible refine Later.after ?_ _) | (with_reducible refine Later.newer ?_ _) | (with_reducible refine Below.drew ?_) | (with_reducible refine Below.setCell ?_ (by first | exact Nat.le_refl _ | exact Nat.le_add_right _ _ | omega | (simp [go_sem]; done) | (simp [go_sem]; omega)) _))))⟩
      · obtain rfl : k = 4 := by omega
        have e1 : goodB s = false := by
          have : ¬ s 8 ≤ 4 := by omega
          simp [goodB, this]
        rw [e1] at cg
        have Hg := Lib.hid cg
        have Ht := Lib.hid ct
        have Hn := Lib.hid cn
        clear cg ct cn
        go_wp2_with (first | (go_at_call 32; (with_reducible refine (Hg.out _).mono ?_); rintro e _ ⟨rfl, x, rfl⟩) | (go_at_call 32; (with_reducible refine (Ht.out _).mono ?_); rintro e _ ⟨rfl, x, rfl⟩) | (go_at_call 10; (with_reducible refine (Hn.out _).mono ?_); rintro e _ ⟨rfl, x, rfl⟩) | (go_at_call 33; (with_reducible refine (shown_9 _).mono ?_); rintro e _ ⟨rfl, x, rfl⟩))
        have hB := HB.out
        exact bodyPost_ret (v := .bool true) (by simp [results, Try.results9, go_sem, *]) rfl ⟨rfl, (Later.mk_of (by repeat (first | (with_reducible assumption) | (with_reducible exact Below.refl _ _) | (with_reducible refine Later.after ?_ _) | (with_reducible refine Later.newer ?_ _) | (with_reducible refine Below.drew ?_) | (with_reducible refine Below.setCell ?_ (by first | exact Nat.le_refl _ | exact Nat.le_add_right _ _ | omega | (simp [go_sem]; done) | (simp [go_sem]; omega)) _))))⟩

end Go.Proofs.Ytdlemjecocmbgaa

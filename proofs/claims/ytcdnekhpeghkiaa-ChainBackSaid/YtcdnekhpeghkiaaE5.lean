/-
  A chain that is turned back: walked.
-/
import Derived.Test.YtcdnekhpeghkiaaE3
namespace Go.Proofs.Ytcdnekhpeghkiaa
set_option linter.unusedVariables false
open Go.RowKit

/-- the state of the turned chain, k points on -/
structure BI (w : World) (sv : Value) (cl : Bool) (pts : List (Int × Int)) (k : Nat) (v : Value) (W : World) : Prop where
  own : W.ownsRow w.heap.size 23 2 v k (fl (pts.reverse.take k))
  cbox : Blk W w.heap.size 36 #[sv, .bool cl]
  bbox : Blk W (w.heap.size + 1) 36 #[v, .bool false]
  below : Below w.heap.size w W
theorem ownForm {W : World} {base n : Nat} {v : Value} {xs : List Value} (h : W.ownsRow base 23 2 v n xs) : ∃ a c, v = .slice a n c := by
  rcases Go.Joins.ownsRow_forms h with ⟨h1, h2⟩ | ⟨g, cap, h⟩
  · exact ⟨_, _, by rw [h1, h2]⟩
  · exact ⟨_, _, h⟩
theorem PtsAt.own {W : World} {base n : Nat} {v : Value} {l : List (Int × Int)} (h : W.ownsRow base 23 2 v n (fl l)) (hn : l.length = n) (n1 : 1 ≤ n) : PtsAt W v l := by
  obtain ⟨g, cap, rfl⟩ := Go.Joins.ownsRow_form h (by omega)
  have hp := own_ptsB h
  have hc := own_cap h
  have hm : cap ≤ maxLen := by
    rcases h.2 with ⟨h', _⟩ | ⟨g', cap', cur, h', _, _, _, hcm, _⟩
    · simp at h'
    · simp only [Value.slice.injEq] at h'
      omega
  refine .inr (.inr ⟨g, 0, cap, by rw [hn], hp.lt, by omega, hm, hp.cell⟩)
theorem PtsAt.form {W : World} {v : Value} {l : List (Int × Int)} (h : PtsAt W v l) : ∃ a c, v = .slice a l.length c := by
  rcases h with ⟨rfl, rfl⟩ | ⟨a, c, rfl, rfl⟩ | ⟨b, o, c, rfl, _⟩ <;> exact ⟨_, _, rfl⟩
set_option maxRecDepth 100000 in
set_option maxHeartbeats 4000000 in
theorem back_walk (d : Int) (sv : Value) (cl : Bool) (pts : List (Int × Int)) (d0 : 0 ≤ d) (d9 : d ≤ 4294967295) (w : World) (h : PtsAt w sv pts) :
    Calls Try.prog 8 #[.agg #[sv, .bool cl], .int .u32 d] w fun e w' => e = .returned (.bool true) ∧ ∃ x : Later w, w' = x.out := by
  have hg := fun w' h' => good12_c false pts sv w' h'
  have HPA0 := Lib.hid h
  obtain ⟨av, cv, hsv⟩ := h.form
  have hn9 : pts.length ≤ maxLen := by
    rcases h with ⟨h1, rfl⟩ | ⟨a, c, h1, rfl⟩ | ⟨b, o, c, h1, _, h2, h3, _⟩
    · simp
    · simp
    · omega
  unfold maxLen at hn9
  obtain ⟨n, hn⟩ : ∃ n, pts.length = n := ⟨_, rfl⟩
  rw [hn] at hsv hn9
  subst hsv
  obtain ⟨i0, hi0, hz0, hz1, hz2⟩ := infoPt
  have HN := Lib.hid hn
  have HG0 := Lib.hid hg
  clear hg h hn
  go_enter Try.func8, Try.ntmps8
  go_wp2_with (fail)
  go_loopw [6] (fun u wr => ∃ (k : Nat) (z : Int) (v : Value), k ≤ n ∧ (n ≤ 100 ∨ k = 0) ∧ z = (n : Int) - 1 - k ∧ u = .int .i64 z ∧ Hid (BI w (.slice av n cv) cl pts k v wr)) (fun u _ => (intOf u + 1).toNat)
  case atStart => exact ⟨0, (n : Int) - 1, .slice none 0 0, by omega, .inr rfl, by omega, rfl, Lib.hid ⟨by simpa [fl] using World.ownsRow_nil _ _ _ _, (Blk.new _ _ _).alloc _, Blk.new' (by simp), (by repeat (first | (with_reducible assumption) | (with_reducible exact Below.refl _ _) | (with_reducible refine Later.after ?_ _) | (with_reducible refine Later.newer ?_ _) | (with_reducible refine Below.drew ?_) | (with_reducible refine Below.setCell ?_ (by first | exact Nat.le_refl _ | exact Nat.le_add_right _ _ | omega | (simp [go_sem]; done) | (simp [go_sem]; omega)) _)))⟩⟩
  case round =>
    obtain ⟨k, z, v, hk, hk9, hz, rfl, hI⟩ := hrel
    obtain ⟨c1, c2, c3⟩ := hI.out.cbox.all
    obtain ⟨b1, b2, b3⟩ := hI.out.bbox.all
    by_cases n9 : n ≤ 100
    · have f1 : decide (n ≤ 100) = true := by simp [n9]
      have f2 : decide ((n : Int) ≤ 100) = true := by simp; omega
      by_cases hkn : k < n
      · obtain ⟨j, hj⟩ : ∃ j, j + 1 + k = n := ⟨n - 1 - k, by omega⟩
        have hzj : z = (j : Int) := by omega
        subst hzj
        clear hz
        obtain ⟨⟨p0, p1⟩, hp0⟩ : ∃ p, pts[j]? = some p := ⟨_, List.getElem?_eq_getElem (by rw [HN.out]; omega)⟩
        obtain ⟨Bp, o, c, hv, hc, hm, hp⟩ := HPA0.out.ptsB (by rw [HN.out]; omega)
        rw [HN.out] at hv hc
        simp only [Value.slice.injEq, true_and] at hv
        obtain ⟨rfl, rfl⟩ := hv
        have hpk := hp.below hI.out.below hp.lt
        obtain ⟨q0, q1⟩ := hpk.cell j _ hp0
        have lp := hpk.lt
        simp only [] at q0 q1
        have hrev : pts.reverse.take (k + 1) = pts.reverse.take k ++ [(p0, p1)] := by
          rw [List.take_add_one, List.getElem?_reverse (by rw [HN.out]; exact hkn), HN.out, show n - 1 - k = j by omega, hp0]
          rfl
        have HREV := Lib.hid hrev
        have jn : j < n := by omega
        have j0 : (0 : Int) ≤ j := by omega
        have f3 : decide ((0 : Int) ≤ j) = true := by simp
        obtain ⟨va, vc, rfl⟩ := ownForm hI.out.own
        have HI := hI
        have sz := HI.out.bbox.lt
        clear hrev hp0 hpk hp
        go_wp2_with (fail)
        refine wp_region_one [0, 1, 2, 3, 4, 5, 6] 7 [8, 9, 10] (fun g => .slice (some ⟨g, 0, none⟩) 1 1) (.cells #[.int .i64 p0, .int .i64 p1] 23) (by kernel_rfl) (by kernel_rfl) (by kernel_rfl) (by kernel_rfl) (by kernel_rfl) (noInit_of (by kernel_rfl)) (fun y => ?_)
        simp only [pick, List.getElem?_cons_zero, List.getElem?_cons_succ]
        repeat (go_big_quiet_step ((first | fail)))
        refine wpQuiet_nil ?_
        refine ⟨(by intro o ho; obtain rfl := Option.some.inj ho; refine ⟨rfl, fun wc => ?_⟩; simp [execOp, go_sem]; done), ?_⟩
        intro gq x hgq hx
        simp only [dstOf, List.getElem?_toArray, List.getElem?_cons_succ, List.getElem?_cons_zero, Option.bind_some, Act.put, List.setIfInBounds_toArray, List.set_cons_succ, List.set_cons_zero]
        have bg : Blk x.out gq 23 #[.int .i64 p0, .int .i64 p1] := hx
        have HG := Lib.hid bg
        clear hx bg
        gi_wp2_with (gi_at_builtin; refine wpListIn_append_own _ rfl _ _ 30 rfl w.heap.size 23 i0 (.agg #[.int .i64 0, .int .i64 0]) 2 16 Try.underlying30 hi0 hz0 hz1 hz2 rfl (by decide) _ _ _ rfl (own_later HI.out.own x) ⟨gq, 0, none⟩ 1 1 [.int .i64 p0, .int .i64 p1] rfl rfl (two_at HG.out) (two_cell _ _) (by unfold maxLen; omega) (by omega) (by have := x.size_le; omega) ?_; intro v' w3 hown hgrow hnil; obtain ⟨g', cap', rfl⟩ := Go.Joins.ownsRow_form hown (by omega); have bx3 := (HI.out.bbox.later x).apart (own_later HI.out.own x) (by decide) hgrow; have cb3 := (HI.out.cbox.later x).apart (own_later HI.out.own x) (by decide) hgrow; have HB3 := Lib.hid bx3; have HC3 := Lib.hid cb3; obtain ⟨u1, u2, u3⟩ := bx3.all; have HO := Lib.hid hown; have HW := Lib.hid hgrow; clear hown hgrow hnil cb3 bx3)
        go_wp2_with (fail)
        have hne : g' ≠ w.heap.size + 1 := fun e => own_ne HO.out HB3.out (by decide) (by rw [e]; rfl)
        have hb3 : Below w.heap.size w w3 := Below.grown (HI.out.below.trans (x.below.mono HI.out.below.size)) HW.out (by have := x.size_le; omega) (fun r hr => ((own_later HI.out.own x).lt r hr).1)
        go_roundw
        case rel => exact ⟨k + 1, (j : Int) - 1, .slice (some ⟨g', 0, none⟩) (k + 1) cap', by omega, by omega, by omega, by go_num, Lib.hid ⟨Go.ownsRow_setCell_other (by have h := HO.out; rw [show ([.int .i64 p0, .int .i64 p1] : List Value) = fl [(p0, p1)] from rfl, ← fl_app, ← HREV.out] at h; exact h) (by simp only [Value.ownBlock, ne_eq, Option.some.injEq]; exact hne) _, HC3.out.other _ _ (by omega), (HB3.out.set _ _).eq (by simp), (by repeat (first | (with_reducible assumption) | (with_reducible exact Below.refl _ _) | (with_reducible refine Later.after ?_ _) | (with_reducible refine Later.newer ?_ _) | (with_reducible refine Below.drew ?_) | (with_reducible refine Below.setCell ?_ (by first | exact Nat.le_refl _ | exact Nat.le_add_right _ _ | omega | (simp [go_sem]; done) | (simp [go_sem]; omega)) _)))⟩⟩
        case measure => simp [intOf] <;> omega
      · obtain rfl : k = n := by omega
        have f3 : decide (0 ≤ z) = false := by simp; omega
        have hrv : pts.reverse.take k = pts.reverse := List.take_of_length_le (by rw [List.length_reverse, HN.out]; omega)
        have HRV := Lib.hid hrv
        have HI := hI
        have sz := HI.out.bbox.lt
        clear hrv
        cases e : gdB false pts
        · rw [e] at HG0
          have hpa := HPA0.out.below HI.out.below (Nat.le_refl _)
          clear e
          go_upto_region 7 with (fail)
          have bS : Blk (wr.setCell ⟨w.heap.size, 1, none⟩ (.bool false)) w.heap.size 36 #[.slice av k cv, .bool false] := (HI.out.cbox.set _ _).eq (by simp)
          have hB : Below w.heap.size w (wr.setCell ⟨w.heap.size, 1, none⟩ (.bool false)) := by have hB := HI.out.below; (repeat (first | (with_reducible assumption) | (with_reducible exact Below.refl _ _) | (with_reducible refine Later.after ?_ _) | (with_reducible refine Later.newer ?_ _) | (with_reducible refine Below.drew ?_) | (with_reducible refine Below.setCell ?_ (by first | exact Nat.le_refl _ | exact Nat.le_add_right _ _ | omega | (simp [go_sem]; done) | (simp [go_sem]; omega)) _)))
          have hpa2 : PtsAt (wr.setCell ⟨w.heap.size, 1, none⟩ (.bool false)) (.slice av k cv) pts := HPA0.out.below hB (Nat.le_refl _)
          generalize wr.setCell ⟨w.heap.size, 1, none⟩ (.bool false) = V at *
          have HPA := Lib.hid hpa2
          obtain ⟨y1, y2, y3⟩ := bS.all
          go_wp2_with (first | (go_at_call 16; (with_reducible refine (HG0.out _ (by repeat (first | (with_reducible exact HPA.out) | (with_reducible refine PtsAt.later ?_ _) | (with_reducible refine PtsAt.alloc ?_ _)))).mono ?_); rintro e _ ⟨rfl, x, rfl⟩) | (go_at_call 17; (with_reducible refine (shown_12 _).mono ?_); rintro e _ ⟨rfl, x, rfl⟩))
          exact bodyPost_ret (v := .bool true) (by simp [results, Try.results8, go_sem, *]) rfl ⟨rfl, (Later.mk_of (by repeat (first | (with_reducible assumption) | (with_reducible exact Below.refl _ _) | (with_reducible refine Later.after ?_ _) | (with_reducible refine Later.newer ?_ _) | (with_reducible refine Below.drew ?_) | (with_reducible refine Below.setCell ?_ (by first | exact Nat.le_refl _ | exact Nat.le_add_right _ _ | omega | (simp [go_sem]; done) | (simp [go_sem]; omega)) _))))⟩
        · have g := gdB_is e
          rw [e] at HG0
          have n1 := g.n1
          rw [HN.out] at n1
          obtain ⟨gb, capb, rfl⟩ := Go.Joins.ownsRow_form HI.out.own (by omega)
          have hown := HI.out.own
          rw [HRV.out] at hown
          have T0 := g.ch.ln_pos g.ch.m (Nat.le_refl _)
          have T9 := g.ln_le g.ch.m
          have m9 := g.m_le
          have hi := g.ch.held_in d
          obtain ⟨ba, bt⟩ := g.back_at (g.ch.held d) hi.1 hi.2
          have eh : g.back.ch.held (g.ch.ln g.ch.m - d) = g.ch.ln g.ch.m - g.ch.held d := by
            unfold Ch.held
            rw [bt]
            omega
          have ht1 := fun w' h' => total_c false pts g (.slice av k cv) w' h'
          have ht2 := fun w' h' => total_c false pts.reverse g.back (.slice (some ⟨gb, 0, none⟩) k capb) w' h'
          have ha1 := fun w' h' => at_c false pts g (.slice av k cv) d w' h'
          have ha2 := fun w' h' => at_c false pts.reverse g.back (.slice (some ⟨gb, 0, none⟩) k capb) (g.ch.ln g.ch.m - d) w' h'
          rw [eh, ba] at ha2
          rw [bt] at ht2
          have T9' : g.ch.ln g.ch.m ≤ 214748364800 := by
            have : (g.ch.m : Int) ≤ 100 := by omega
            omega
          generalize g.ch.ln g.ch.m = T at *
          generalize g.back.ch.ix (T - g.ch.held d) = i2 at *
          generalize g.ch.ix (g.ch.held d) = i1 at *
          generalize g.ch.at (g.ch.held d) = p at *
          obtain ⟨p0, p1⟩ := p
          obtain ⟨D, hD⟩ : ∃ D, T - d = D := ⟨_, rfl⟩
          rw [hD] at ha2
          have e2 : IntKind.i64.wrap (T - d) = D := by rw [IntWalk.i64_in _ (by omega)]; exact hD
          have e3 : wrap64 (T - d) = D := by unfold wrap64; omega
          have HT1 := Lib.hid ht1
          have HT2 := Lib.hid ht2
          have HA1 := Lib.hid ha1
          have HA2 := Lib.hid ha2
          have HOWN := Lib.hid hown
          clear ht1 ht2 ha1 ha2 e hown ba bt eh hi T9
          go_upto_region 7 with (fail)
          have bS : Blk (wr.setCell ⟨w.heap.size, 1, none⟩ (.bool false)) w.heap.size 36 #[.slice av k cv, .bool false] := (HI.out.cbox.set _ _).eq (by simp)
          have bB : Blk (wr.setCell ⟨w.heap.size, 1, none⟩ (.bool false)) (w.heap.size + 1) 36 #[.slice (some ⟨gb, 0, none⟩) k capb, .bool false] := HI.out.bbox.other _ _ (by omega)
          have hB : Below w.heap.size w (wr.setCell ⟨w.heap.size, 1, none⟩ (.bool false)) := by have hB := HI.out.below; (repeat (first | (with_reducible assumption) | (with_reducible exact Below.refl _ _) | (with_reducible refine Later.after ?_ _) | (with_reducible refine Later.newer ?_ _) | (with_reducible refine Below.drew ?_) | (with_reducible refine Below.setCell ?_ (by first | exact Nat.le_refl _ | exact Nat.le_add_right _ _ | omega | (simp [go_sem]; done) | (simp [go_sem]; omega)) _)))
          have hpa2 : PtsAt (wr.setCell ⟨w.heap.size, 1, none⟩ (.bool false)) (.slice av k cv) pts := HPA0.out.below hB (Nat.le_refl _)
          have hpb2 : PtsAt (wr.setCell ⟨w.heap.size, 1, none⟩ (.bool false)) (.slice (some ⟨gb, 0, none⟩) k capb) pts.reverse := PtsAt.own (Go.ownsRow_setCell_other HOWN.out (own_ne HOWN.out HI.out.cbox (by decide)) _) (by rw [List.length_reverse, HN.out]) n1
          generalize wr.setCell ⟨w.heap.size, 1, none⟩ (.bool false) = V at *
          have HPA := Lib.hid hpa2
          have HPB := Lib.hid hpb2
          obtain ⟨y1, y2, y3⟩ := bS.all
          obtain ⟨z1, z2, z3⟩ := bB.all
          have sV := hB.size
          clear hpa2 hpb2
          go_wp2_with (first | (go_at_call 16; (with_reducible refine (HG0.out _ (by repeat (first | (with_reducible exact HPA.out) | (with_reducible refine PtsAt.later ?_ _) | (with_reducible refine PtsAt.alloc ?_ _)))).mono ?_); rintro e _ ⟨rfl, x, rfl⟩) | (go_at_call 17; (with_reducible refine (shown_12 _).mono ?_); rintro e _ ⟨rfl, x, rfl⟩) | (go_at_call 20; (with_reducible refine (HT1.out _ (by repeat (first | (with_reducible exact HPA.out) | (with_reducible refine PtsAt.later ?_ _) | (with_reducible refine PtsAt.alloc ?_ _)))).mono ?_); rintro e _ ⟨rfl, x, rfl⟩) | (go_at_call 20; (with_reducible refine (HT2.out _ (by repeat (first | (with_reducible exact HPB.out) | (with_reducible refine PtsAt.later ?_ _) | (with_reducible refine PtsAt.alloc ?_ _)))).mono ?_); rintro e _ ⟨rfl, x, rfl⟩) | (go_at_call 19; (with_reducible refine (HA1.out _ (by repeat (first | (with_reducible exact HPA.out) | (with_reducible refine PtsAt.later ?_ _) | (with_reducible refine PtsAt.alloc ?_ _)))).mono ?_); rintro e _ ⟨rfl, x, rfl⟩) | (go_at_call 19; (with_reducible refine (HA2.out _ (by repeat (first | (with_reducible exact HPB.out) | (with_reducible refine PtsAt.later ?_ _) | (with_reducible refine PtsAt.alloc ?_ _)))).mono ?_); rintro e _ ⟨rfl, x, rfl⟩))
          exact bodyPost_ret (v := .bool true) (by simp [results, Try.results8, go_sem, *]) rfl ⟨rfl, (Later.mk_of (by repeat (first | (with_reducible assumption) | (with_reducible exact Below.refl _ _) | (with_reducible refine Later.after ?_ _) | (with_reducible refine Later.newer ?_ _) | (with_reducible refine Below.drew ?_) | (with_reducible refine Below.setCell ?_ (by first | exact Nat.le_refl _ | exact Nat.le_add_right _ _ | omega | (simp [go_sem]; done) | (simp [go_sem]; omega)) _))))⟩
    · have f1 : decide (n ≤ 100) = false := by simp; omega
      have f2 : decide ((n : Int) ≤ 100) = false := by simp; omega
      have e : gdB false pts = false := gdB_no (fun g => by have := g.n9; rw [HN.out] at this; omega)
      rw [e] at HG0
      have sz := hI.out.bbox.lt
      have HI := hI
      have z0 : 0 ≤ z := by omega
      have f3 : decide (0 ≤ z) = true := by simp; omega
      clear e
      go_upto_region 7 with (fail)
      have bS : Blk (wr.setCell ⟨w.heap.size, 1, none⟩ (.bool false)) w.heap.size 36 #[.slice av n cv, .bool false] := (HI.out.cbox.set _ _).eq (by simp)
      have hB : Below w.heap.size w (wr.setCell ⟨w.heap.size, 1, none⟩ (.bool false)) := by have hB := HI.out.below; (repeat (first | (with_reducible assumption) | (with_reducible exact Below.refl _ _) | (with_reducible refine Later.after ?_ _) | (with_reducible refine Later.newer ?_ _) | (with_reducible refine Below.drew ?_) | (with_reducible refine Below.setCell ?_ (by first | exact Nat.le_refl _ | exact Nat.le_add_right _ _ | omega | (simp [go_sem]; done) | (simp [go_sem]; omega)) _)))
      have hpa2 : PtsAt (wr.setCell ⟨w.heap.size, 1, none⟩ (.bool false)) (.slice av n cv) pts := HPA0.out.below hB (Nat.le_refl _)
      generalize wr.setCell ⟨w.heap.size, 1, none⟩ (.bool false) = V at *
      have HPA := Lib.hid hpa2
      obtain ⟨y1, y2, y3⟩ := bS.all
      go_wp2_with (first | (go_at_call 16; (with_reducible refine (HG0.out _ (by repeat (first | (with_reducible exact HPA.out) | (with_reducible refine PtsAt.later ?_ _) | (with_reducible refine PtsAt.alloc ?_ _)))).mono ?_); rintro e _ ⟨rfl, x, rfl⟩) | (go_at_call 17; (with_reducible refine (shown_12 _).mono ?_); rintro e _ ⟨rfl, x, rfl⟩))
      exact bodyPost_ret (v := .bool true) (by simp [results, Try.results8, go_sem, *]) rfl ⟨rfl, (Later.mk_of (by repeat (first | (with_reducible assumption) | (with_reducible exact Below.refl _ _) | (with_reducible refine Later.after ?_ _) | (with_reducible refine Later.newer ?_ _) | (with_reducible refine Below.drew ?_) | (with_reducible refine Below.setCell ?_ (by first | exact Nat.le_refl _ | exact Nat.le_add_right _ _ | omega | (simp [go_sem]; done) | (simp [go_sem]; omega)) _))))⟩
end Go.Proofs.Ytcdnekhpeghkiaa

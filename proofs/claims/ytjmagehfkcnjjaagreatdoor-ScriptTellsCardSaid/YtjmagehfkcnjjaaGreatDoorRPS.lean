/-
  The document's Parse: walked.
-/
import Derived.Test.YtjmagehfkcnjjaaGreatDoorKV
import Derived.Test.YtjmagehfkcnjjaaGreatDoorRPR
import Derived.Test.YtjmagehfkcnjjaaGreatDoorFV
namespace Go.Proofs.YtjmagehfkcnjjaaGreatDoor
set_option linter.unusedVariables false
open Go.RowKit

theorem vrb_one (w : List UInt8) (h : 0 < vrb w) : w.length = 1 := by
  unfold vrb at h
  repeat (first | (split at h; · rename_i e; rw [e]; rfl) | (exact absurd h (by decide)))
theorem PSt.num_a (vb : List Int) (pt : List (Int × Int)) (nw r : Nat) (x n : Int) : (⟨vb, pt, nw, 2 * (r + 1), x⟩ : PSt).num n = ⟨vb, pt, nw, 2 * r + 1, n⟩ := by
  unfold PSt.num
  rw [if_pos (show (2 * (r + 1) - 1) % 2 = 1 by omega)]
  rfl
theorem PSt.num_b (vb : List Int) (pt : List (Int × Int)) (nw r : Nat) (x n : Int) : (⟨vb, pt, nw, 2 * r + 1, x⟩ : PSt).num n = ⟨vb, pt ++ [(x, n)], nw, 2 * r, x⟩ := by
  unfold PSt.num
  rw [if_neg (show ¬ (2 * r + 1 - 1) % 2 = 1 by omega)]
  rfl
theorem QAt.other {w W : World} {vv pv : Value} {vb : List Int} {pt : List (Int × Int)} {b : Nat} {T : TypeId} {c : Array Value} (h : QAt w vv pv vb pt W) (hb : Blk W b T c) (hT : T ≠ 3 ∧ T ≠ 48) (i : Nat) (u : Value) (hlt : w.heap.size + 2 ≤ b) : QAt w vv pv vb pt (W.setCell ⟨b, i, none⟩ u) :=
  ⟨h.res.other _ _ (by omega), h.box.other _ _ (by omega), Go.ownsRow_setCell_other h.vown (a := ⟨b, i, none⟩) (own_ne h.vown hb hT.1) _, Go.ownsRow_setCell_other h.pown (a := ⟨b, i, none⟩) (own_ne h.pown hb hT.2) _, Below.setCell h.below (by show w.heap.size ≤ b; omega) _, by have := h.size; simp only [World.size_setCell]; omega⟩
theorem wrap_small3 (k : Nat) (h : k ≤ 3) : wrap64 ((k : Int) + 1) = ((k + 1 : Nat) : Int) := by unfold wrap64; omega
theorem agm_later {W : World} {v : Value} {l : List (Int × Int)} (h : PtsAt W v l) (x : Later W) : PtsAt x.out v l := ptsAt_under h x.below (Nat.le_refl _)
set_option maxRecDepth 100000 in
set_option maxHeartbeats 4000000 in
theorem rparse8_c (l : List UInt8) (hl : l.length ≤ 1000) (w : World) : Calls Tryz.prog 22 #[.string ⟨l.toArray⟩] w (RSR w (spR l)) := by
  obtain ⟨i0, hi0, hz0, hz1, hz2⟩ := infoI
  obtain ⟨j0, hj0, hy0, hy1, hy2⟩ := infoPt
  obtain ⟨S, hS⟩ : ∃ S : ByteArray, S = ⟨l.toArray⟩ := ⟨_, rfl⟩
  have hwd0 : ∀ (p : Nat), p ≤ l.length → ∀ v, Calls Tryz.prog 40 #[.string S, .int .i64 (p : Int)] v fun e w' => e = .returned (.tuple #[.string ⟨(wrd (l.drop (skp l p))).toArray⟩, .int .i64 ((skp l p : Nat) : Int)]) ∧ ∃ x : Later v, w' = x.out := fun p hp v => by rw [hS]; exact rword_c l p hp (by omega) v
  have HWD0 := Lib.hid hwd0
  rw [← hS]
  obtain ⟨G0, hG0⟩ : ∃ G0, G0 = goW PSt.zero (wds 0 l) := ⟨_, rfl⟩
  have HG0 := Lib.hid hG0
  clear hwd0 hS hG0
  generalize hL : l.length = L at *
  have HL := Lib.hid hL
  clear hL
  go_enter Tryz.func22, Tryz.ntmps22
  go_wp2_with (fail)
  go_loopw [6, 7] (fun u6 u7 wr => ∃ (now at_ : Nat) (x : Int) (vb : List Int) (pt : List (Int × Int)) (vv pv : Value), u6 = .int .i64 (now : Int) ∧ u7 = .int .i64 (at_ : Int) ∧ at_ ≤ L ∧ now ≤ 5 ∧ vb.length ≤ at_ ∧ pt.length ≤ at_ ∧ Hid (G0 = goW ⟨vb, pt, now, 0, x⟩ (wds at_ (l.drop at_))) ∧ Hid (QAt w vv pv vb pt wr)) (fun _ u7 _ => L - (intOf u7).toNat)
  case atStart =>
    refine ⟨0, 0, 0, [], [], .slice none 0 0, .slice none 0 0, rfl, rfl, Nat.zero_le _, by decide, by simp, by simp, Lib.hid HG0.out, Lib.hid ⟨(Blk.new' (by simp)).alloc _, Blk.new' (by simp), World.ownsRow_nil _ _ _ _, World.ownsRow_nil _ _ _ _, (by repeat (first | (with_reducible assumption) | (with_reducible exact Below.refl _ _) | (with_reducible refine Later.after ?_ _) | (with_reducible refine Later.newer ?_ _) | (with_reducible refine Below.drew ?_) | (with_reducible refine Below.setCell ?_ (by first | exact Nat.le_refl _ | exact Nat.le_add_right _ _ | omega | (simp [go_sem]; done) | (simp [go_sem]; omega)) _))), by simp⟩⟩
  case round =>
    obtain ⟨now, at_, x, vb, pt, vv, pv, rfl, rfl, hat, hnow, hvb, hpt, HG, HQ⟩ := hrel
    have hwd := HWD0.out at_ hat
    obtain ⟨wa, wb⟩ := word_at l at_ (by rw [HL.out]; exact hat)
    obtain ⟨sk1, sk2⟩ := skp_le l at_ (by rw [HL.out]; exact hat)
    rw [HL.out] at wa wb sk2
    obtain ⟨q, hq⟩ : ∃ q, q = skp l at_ := ⟨_, rfl⟩
    obtain ⟨wl, hwl⟩ : ∃ wl, wl = wrd (l.drop q) := ⟨_, rfl⟩
    have hq2 := (wds_skp l _ at_ rfl).1
    rw [← hq] at hq2
    rw [← hq, ← hwl] at hwd wa wb
    rw [← hq] at sk1 sk2
    rw [← hwl] at sk2
    obtain ⟨W, hW⟩ : ∃ W : ByteArray, W = ⟨wl.toArray⟩ := ⟨_, rfl⟩
    have HWL : Hid (W.toList = wl) := Lib.hid (by rw [hW, Lib.toList_data])
    have HWZ : Hid (W.size = wl.length) := Lib.hid (by rw [hW, ba_size])
    rw [← hW] at hwd
    have HWD := Lib.hid hwd
    have HW := Lib.hid hW
    obtain ⟨z1, z2, z3⟩ := HQ.out.res.all
    obtain ⟨z4, z5, z6⟩ := HQ.out.box.all
    obtain ⟨a1, n1, c1, rfl⟩ := own_slice HQ.out.vown
    obtain ⟨a2, n2, c2, rfl⟩ := own_slice HQ.out.pown
    clear hwd hW hq hwl
    by_cases hw0 : wl = []
    · obtain ⟨_, wn⟩ := wa hw0
      have g1 : W.toList.isEmpty = true := by rw [HWL.out, hw0]; rfl
      have g2 : (W.toList == []) = true := by rw [HWL.out, hw0]; rfl
      have hr : spR l = (if chk vb pt ≠ 0 then ([], [], 0, chk vb pt) else (vb, pt, 0, 0)) := by
        have e := HG.out
        rw [wn] at e
        have e2 := spR_inr (HG0.out.symm.trans e)
        rw [if_neg (show ¬ 0 < (⟨vb, pt, now, 0, x⟩ : PSt).left from Nat.lt_irrefl 0)] at e2
        exact e2
      have HR := Lib.hid hr
      have HI := Lib.hid (intsAt_own HQ.out.vown)
      have HP := Lib.hid (ptsAt_own HQ.out.pown)
      have hck := fun v hv hp => rcheck_c vb pt (.slice a1 n1 c1) (.slice a2 n2 c2) v hv hp
      have hbw := HQ.out.below
      clear wa wb wn hr hw0
      by_cases hE : chk vb pt = 0
      · rw [hE] at hck
        have HCK := Lib.hid hck
        have HE := Lib.hid hE
        clear hck hE
        go_wp2_with (first | (go_at_call 40; (with_reducible refine (HWD.out _).mono ?_); rintro e _ ⟨rfl, xw, rfl⟩) | (go_at_call 36; (with_reducible refine (HCK.out _ (by repeat (first | (with_reducible exact HI.out) | (with_reducible refine IntsAt.later ?_ _))) (by repeat (first | (with_reducible exact HP.out) | (with_reducible refine agm_later ?_ _)))).mono ?_); rintro e _ ⟨rfl, xc, rfl⟩))
        obtain ⟨rb, i1, p1, hx⟩ := QAt.fin ((HQ.out.later xw).later xc) (.slice a1 n1 c1) (.slice a2 n2 c2)
        generalize ((xc.out).setCell ⟨w.heap.size, 0, none⟩ (.slice a1 n1 c1)).setCell ⟨w.heap.size, 1, none⟩ (.slice a2 n2 c2) = Wf at *
        obtain ⟨y1, y2, y3⟩ := rb.all
        exact bodyPost_ret (v := .tuple #[.agg #[.slice a1 n1 c1, .slice a2 n2 c2], .int .i64 0, .int .i64 0]) (by simp [results, Tryz.results22, go_sem, *]) rfl (by rw [HR.out, if_neg (fun k => k HE.out)]; exact ⟨_, _, _, _, _, _, rfl, i1, p1, hx⟩)
      · have HE := Lib.hid hE
        generalize hEe : chk vb pt = E at *
        have HCK := Lib.hid hck
        have e1 : (E != 0) = true := by simpa using hE
        have e2 : (E == 0) = false := by simpa using hE
        clear hck hE
        go_wp2_with (first | (go_at_call 40; (with_reducible refine (HWD.out _).mono ?_); rintro e _ ⟨rfl, xw, rfl⟩) | (go_at_call 36; (with_reducible refine (HCK.out _ (by repeat (first | (with_reducible exact HI.out) | (with_reducible refine IntsAt.later ?_ _))) (by repeat (first | (with_reducible exact HP.out) | (with_reducible refine agm_later ?_ _)))).mono ?_); rintro e _ ⟨rfl, xc, rfl⟩))
        obtain ⟨rb, i1, p1, hx⟩ := QAt.fin ((HQ.out.later xw).later xc) (.slice none 0 0) (.slice none 0 0)
        generalize ((xc.out).setCell ⟨w.heap.size, 0, none⟩ (.slice none 0 0)).setCell ⟨w.heap.size, 1, none⟩ (.slice none 0 0) = Wf at *
        obtain ⟨y1, y2, y3⟩ := rb.all
        exact bodyPost_ret (v := .tuple #[.agg #[.slice none 0 0, .slice none 0 0], .int .i64 0, .int .i64 E]) (by simp [results, Tryz.results22, go_sem, *]) rfl (by rw [HR.out, if_pos HE.out]; exact RSR.bad rfl hx)
    · obtain ⟨wn, hql⟩ := wb hw0
      have g1 : W.toList.isEmpty = false := by
        rw [HWL.out]
        cases wl with
        | nil => exact absurd rfl hw0
        | cons _ _ => rfl
      have g2 : (W.toList == []) = false := by rw [HWL.out]; simpa using hw0
      rw [wn] at HG
      have hvc := fun v => rverb_c wl v
      rw [← HW.out] at hvc
      obtain ⟨V, hV⟩ : ∃ V, V = vrb wl := ⟨_, rfl⟩
      rw [← hV] at hvc
      have HVB := Lib.hid hvc
      have hvle : V ≤ 5 := by rw [hV]; exact vrb_le5 wl
      have HVV := Lib.hid hV
      have HWQ : Hid (wds q (l.drop q) = (q, wl) :: wds (q + wl.length) (l.drop (q + wl.length))) := Lib.hid (by rw [hq2] at wn; exact wn)
      clear wa wb wn hvc hV hq2
      by_cases hV0 : 0 < V
      · have k1 : decide ((0 : Int) < (V : Int)) = true := by simp; exact hV0
        have hq9 : (q : Int) ≤ 1000 := by omega
        have hone : wl.length = 1 := vrb_one wl (by rw [← HVV.out]; exact hV0)
        obtain ⟨nw, hnw⟩ : ∃ nw, nw = V := ⟨_, rfl⟩
        obtain ⟨T, hT⟩ : ∃ T, T = tkN nw := ⟨_, rfl⟩
        obtain ⟨at2, hat2e⟩ : ∃ at2, at2 = q + 1 := ⟨_, rfl⟩
        have hat2 : at2 ≤ L := by omega
        have htk := fun v => rtk_c (V : Int) v
        have hTT : T ≤ 3 := by rw [hT, hnw]; exact (tkV_tkN V (by omega)).2
        rw [(tkV_tkN V (by omega)).1, ← hnw, ← hT] at htk
        have HTK := Lib.hid htk
        have hg2 := HG.out
        rw [stage_v _ _ _ _ rfl (by rw [← HVV.out]; exact hV0), ← HVV.out, hone, ← hat2e] at hg2
        have HG2 : Hid (G0 = goW ⟨vb ++ [(nw : Int)], pt, nw, 2 * T, x⟩ (wds at2 (l.drop at2))) := Lib.hid (by rw [hT, hnw]; exact hg2)
        have hprog : at_ < at2 ∨ (1 ≤ T ∧ at_ ≤ at2) := .inl (by omega)
        have HAT2 : Hid ((at2 : Int) = (q : Int) + 1) := Lib.hid (by rw [hat2e]; rfl)
        clear hg2 htk hT HG
        subst hnw
        clear hat2e
        have hn5 : nw ≤ 5 := hvle
        have hT3 : T ≤ 3 := hTT
        go_upto_region 15 with (first | (go_at_call 40; (with_reducible refine (HWD.out _).mono ?_); rintro e _ ⟨rfl, xw, rfl⟩) | (go_at_call 41; (with_reducible refine (HVB.out _).mono ?_); rintro e _ ⟨rfl, xv, rfl⟩))
        have HQ2 := Lib.hid ((HQ.out.later xw).later xv)
        have hs2 := HQ2.out.size
        generalize xv.out = W1 at *
        clear z1 z2 z3 z4 z5 z6
        obtain ⟨z1, z2, z3⟩ := HQ2.out.res.all
        obtain ⟨z4, z5, z6⟩ := HQ2.out.box.all
        have hvn9 : vb.length ≤ 1000 := by omega
        go_wp2_with (at_builtin; go_loud (refine wpList_append_own _ rfl _ _ 28 rfl (w.heap.size + 2) 3 i0 (.int .i64 0) 1 8 Tryz.underlying28 hi0 hz0 hz1 hz2 rfl (by decide) _ _ _ rfl (HQ2.out.alloc (.cells #[.int .i64 (nw : Int)] 3)).vown ⟨W1.heap.size, 0, none⟩ 1 1 [.int .i64 (nw : Int)] rfl rfl (one_int_at _ _ _ _ (by simp)) (one_int _) (by unfold maxLen; omega) (by omega) (by simp only [World.size_alloc]; omega) ?_); intro v3 w3 hown hgrow hnil; obtain ⟨g, cap, rfl⟩ := Go.Joins.ownsRow_form hown (by omega); have q3 := QAt.addV (HQ2.out.alloc (.cells #[.int .i64 (nw : Int)] 3)) hown hgrow; have HQ3 := Lib.hid q3; obtain ⟨y4, y5, y6⟩ := (Blk.apart (HQ2.out.alloc (.cells #[.int .i64 (nw : Int)] 3)).box (HQ2.out.alloc (.cells #[.int .i64 (nw : Int)] 3)).vown (by decide) hgrow).all; clear hown hgrow hnil q3)
        generalize w3.setCell ⟨w.heap.size + 1, 0, none⟩ (.slice (some ⟨g, 0, none⟩) (vb.length + 1) cap) = W3 at *
        clear z1 z2 z3 z4 z5 z6 y4 y5 y6
        go_loopw [7, 11] (fun u7 u11 wr => ∃ (k at3 : Nat) (x3 : Int) (pt3 : List (Int × Int)) (pv3 : Value), u11 = .int .i64 (k : Int) ∧ k ≤ T ∧ u7 = .int .i64 (at3 : Int) ∧ at3 ≤ L ∧ (at_ < at3 ∨ (k = 0 ∧ 1 ≤ T ∧ at_ ≤ at3)) ∧ pt3.length ≤ at3 ∧ Hid (G0 = goW ⟨vb ++ [(nw : Int)], pt3, nw, 2 * (T - k), x3⟩ (wds at3 (l.drop at3))) ∧ Hid (QAt w (.slice (some ⟨g, 0, none⟩) (vb.length + 1) cap) pv3 (vb ++ [(nw : Int)]) pt3 wr)) (fun _ u11 _ => T - (intOf u11).toNat)
        case atStart => exact ⟨0, at2, x, pt, .slice a2 n2 c2, rfl, Nat.zero_le _, by rw [HAT2.out], hat2, hprog.imp id (fun h => ⟨rfl, h.1, h.2⟩), by omega, HG2, HQ3⟩
        case round =>
          clear HQ3 HG2 HQ HQ2
          obtain ⟨k, at3, x3, pt3, pv3, rfl, hk, rfl, hat3, hpr3, hpt3, HG3, HQ⟩ := hrel
          obtain ⟨z1, z2, z3⟩ := HQ.out.res.all
          obtain ⟨z4, z5, z6⟩ := HQ.out.box.all
          obtain ⟨a3, n3, c3, rfl⟩ := own_slice HQ.out.pown
          by_cases hkT : k < T
          · have hd1 : decide ((k : Int) < (T : Int)) = true := by simp; exact hkT
            obtain ⟨r, hr⟩ : ∃ r, T - k = r + 1 := ⟨T - k - 1, by omega⟩
            rw [hr] at HG3
            have HRR := Lib.hid hr
            clear hr
            go_wp2_with (first | (go_at_call 37; (with_reducible refine (HTK.out _).mono ?_); rintro e _ ⟨rfl, xt, rfl⟩))
            have hbq := Blk.new xt.out 74 #[.int .i64 0, .int .i64 0]
            have hq4 := (HQ.out.later xt).alloc (.cells #[.int .i64 0, .int .i64 0] 74)
            have hbs : w.heap.size + 2 ≤ xt.out.heap.size := by have := HQ.out.size; have := xt.size_le; omega
            have HBQ0 := Lib.hid hbq
            have HQ40 := Lib.hid hq4
            clear hbq hq4 z1 z2 z3 z4 z5 z6
            generalize xt.out.alloc (.cells #[.int .i64 0, .int .i64 0] 74) = W4a at *
            generalize xt.out.heap.size = Bq at *
            go_loopw [7, 13] (fun u7 u13 wr => ∃ (j at4 : Nat) (q0 q1 x4 : Int), j ≤ 2 ∧ u13 = .int .i64 (j : Int) ∧ u7 = .int .i64 (at4 : Int) ∧ at4 ≤ L ∧ at3 ≤ at4 ∧ (1 ≤ j → at3 < at4) ∧ Hid (Blk wr Bq 74 #[.int .i64 q0, .int .i64 q1]) ∧ Hid (QAt w (.slice (some ⟨g, 0, none⟩) (vb.length + 1) cap) (.slice a3 n3 c3) (vb ++ [(nw : Int)]) pt3 wr) ∧ (j = 0 → Hid (G0 = goW ⟨vb ++ [(nw : Int)], pt3, nw, 2 * (r + 1), x4⟩ (wds at4 (l.drop at4)))) ∧ (j = 1 → Hid (G0 = goW ⟨vb ++ [(nw : Int)], pt3, nw, 2 * r + 1, q0⟩ (wds at4 (l.drop at4)))) ∧ (j = 2 → Hid (G0 = goW ⟨vb ++ [(nw : Int)], pt3 ++ [(q0, q1)], nw, 2 * r, x4⟩ (wds at4 (l.drop at4))))) (fun _ u13 _ => 2 - (intOf u13).toNat)
            case atStart => exact ⟨0, at3, 0, 0, x3, by decide, rfl, rfl, hat3, Nat.le_refl _, fun h => absurd h (by decide), HBQ0, HQ40, fun _ => HG3, fun h => absurd h (by decide), fun h => absurd h (by decide)⟩
            case round =>
              clear HQ HG3 HBQ0 HQ40
              obtain ⟨j, at4, q0, q1, x4, hj, rfl, rfl, hat4, ha34, hp4, HBQ, HQ4, g0, g1, g2⟩ := hrel
              rcases (show j = 0 ∨ j = 1 ∨ j = 2 by omega) with rfl | rfl | rfl
              · have HGJ := g0 rfl
                clear g0 g1 g2
                have hwd := HWD0.out at4 hat4
                obtain ⟨wa, wb⟩ := word_at l at4 (by rw [HL.out]; exact hat4)
                obtain ⟨sk1, sk2⟩ := skp_le l at4 (by rw [HL.out]; exact hat4)
                rw [HL.out] at wa wb sk2
                obtain ⟨q4, hq4⟩ : ∃ q, q = skp l at4 := ⟨_, rfl⟩
                obtain ⟨wl4, hwl4⟩ : ∃ wl, wl = wrd (l.drop q4) := ⟨_, rfl⟩
                rw [← hq4, ← hwl4] at hwd wa wb
                rw [← hq4] at sk1 sk2
                rw [← hwl4] at sk2
                have hrp := fun v => rparse_l wl4 v
                obtain ⟨W4, hW4⟩ : ∃ W : ByteArray, W = ⟨wl4.toArray⟩ := ⟨_, rfl⟩
                have hwz : W4.size = wl4.length := by rw [hW4, ba_size]
                rw [← hW4] at hwd hrp
                have HWD := Lib.hid hwd
                have hg4 := HGJ.out
                obtain ⟨z1, z2, z3⟩ := HQ4.out.res.all
                obtain ⟨z4, z5, z6⟩ := HQ4.out.box.all
                obtain ⟨z7, z8, z9⟩ := HBQ.out.all
                have hq9 : (q4 : Int) ≤ 1000 := by omega
                have hw9 : (W4.size : Int) ≤ 1000 := by omega
                clear hwd hW4 hq4 hwl4
                cases hps : ps wl4 with
                | none =>
                  rw [(ps_none hps).1, (ps_none hps).2] at hrp
                  have HRP := Lib.hid hrp
                  have hr : spR l = ([], [], (q4 : Int), 80) := by
                    by_cases hw0 : wl4 = []
                    · obtain ⟨e1, e2⟩ := wa hw0
                      rw [e2] at hg4
                      have e3 := spR_inr (HG0.out.symm.trans hg4)
                      rw [if_pos (show 0 < (⟨vb ++ [(nw : Int)], pt3, nw, 2 * (r + 1), x4⟩ : PSt).left from by show 0 < 2 * (r + 1); omega), HL.out, ← e1] at e3
                      exact e3
                    · obtain ⟨e1, _⟩ := wb hw0
                      rw [e1, num_none _ _ _ _ (by show 0 < 2 * (r + 1); omega) hps] at hg4
                      exact spR_inl (HG0.out.symm.trans hg4)
                  have HR := Lib.hid hr
                  clear wa wb hg4 hrp hr hps hwz
                  go_wp2_with (first | (go_at_call 40; (with_reducible refine (HWD.out _).mono ?_); rintro e _ ⟨rfl, xw, rfl⟩) | (go_at_call 42; (with_reducible refine (HRP.out _).mono ?_); rintro e _ ⟨rfl, xp, rfl⟩))
                  obtain ⟨rb, i1, p1, hx⟩ := QAt.fin (((HQ4.out.later xw).later xp)) (.slice none 0 0) (.slice none 0 0)
                  generalize ((xp.out).setCell ⟨w.heap.size, 0, none⟩ (.slice none 0 0)).setCell ⟨w.heap.size, 1, none⟩ (.slice none 0 0) = Wf at *
                  obtain ⟨y1, y2, y3⟩ := rb.all
                  exact bodyPost_ret (v := .tuple #[.agg #[.slice none 0 0, .slice none 0 0], .int .i64 (q4 : Int), .int .i64 80]) (by simp [results, Tryz.results22, go_sem, *]) rfl (by rw [HR.out]; exact RSR.bad rfl hx)
                | some n =>
                  rw [(ps_some hps).1, (ps_some hps).2] at hrp
                  have HRP := Lib.hid hrp
                  have hw0 : wl4 ≠ [] := fun k => by rw [k, ps_empty] at hps; cases hps
                  obtain ⟨e1, e9⟩ := wb hw0
                  rw [e1, num_some _ _ _ _ n (by show 0 < 2 * (r + 1); omega) hps] at hg4
                  have hlp : 1 ≤ wl4.length := by
                    cases wl4 with
                    | nil => exact absurd rfl hw0
                    | cons _ _ => rw [List.length_cons]; omega
                  have HGN := Lib.hid hg4
                  have HWZ := Lib.hid hwz
                  clear wa wb hg4 hrp hps hw0 e1
                  go_wp2_with (first | (go_at_call 40; (with_reducible refine (HWD.out _).mono ?_); rintro e _ ⟨rfl, xw, rfl⟩) | (go_at_call 42; (with_reducible refine (HRP.out _).mono ?_); rintro e _ ⟨rfl, xp, rfl⟩))
                  have bq := ((HBQ.out.later xw).later xp).set 0 (.int .i64 n)
                  have hq5 := QAt.other ((HQ4.out.later xw).later xp) ((HBQ.out.later xw).later xp) (by decide) 0 (.int .i64 n) (by omega)
                  go_roundw
                  case rel => exact ⟨1, q4 + wl4.length, n, q1, x4, by decide, rfl, by rw [← HWZ.out]; go_num, by omega, by omega, fun _ => by omega, Lib.hid (bq.eq (by simp)), Lib.hid hq5, fun k => absurd k (by decide), fun _ => Lib.hid (HGN.out.trans (by rw [PSt.num_a])), fun k => absurd k (by decide)⟩
                  case measure => simp [intOf]
              · have HGJ := g1 rfl
                clear g0 g1 g2
                have hwd := HWD0.out at4 hat4
                obtain ⟨wa, wb⟩ := word_at l at4 (by rw [HL.out]; exact hat4)
                obtain ⟨sk1, sk2⟩ := skp_le l at4 (by rw [HL.out]; exact hat4)
                rw [HL.out] at wa wb sk2
                obtain ⟨q4, hq4⟩ : ∃ q, q = skp l at4 := ⟨_, rfl⟩
                obtain ⟨wl4, hwl4⟩ : ∃ wl, wl = wrd (l.drop q4) := ⟨_, rfl⟩
                rw [← hq4, ← hwl4] at hwd wa wb
                rw [← hq4] at sk1 sk2
                rw [← hwl4] at sk2
                have hrp := fun v => rparse_l wl4 v
                obtain ⟨W4, hW4⟩ : ∃ W : ByteArray, W = ⟨wl4.toArray⟩ := ⟨_, rfl⟩
                have hwz : W4.size = wl4.length := by rw [hW4, ba_size]
                rw [← hW4] at hwd hrp
                have HWD := Lib.hid hwd
                have hg4 := HGJ.out
                obtain ⟨z1, z2, z3⟩ := HQ4.out.res.all
                obtain ⟨z4, z5, z6⟩ := HQ4.out.box.all
                obtain ⟨z7, z8, z9⟩ := HBQ.out.all
                have hq9 : (q4 : Int) ≤ 1000 := by omega
                have hw9 : (W4.size : Int) ≤ 1000 := by omega
                clear hwd hW4 hq4 hwl4
                cases hps : ps wl4 with
                | none =>
                  rw [(ps_none hps).1, (ps_none hps).2] at hrp
                  have HRP := Lib.hid hrp
                  have hr : spR l = ([], [], (q4 : Int), 80) := by
                    by_cases hw0 : wl4 = []
                    · obtain ⟨e1, e2⟩ := wa hw0
                      rw [e2] at hg4
                      have e3 := spR_inr (HG0.out.symm.trans hg4)
                      rw [if_pos (show 0 < (⟨vb ++ [(nw : Int)], pt3, nw, 2 * r + 1, q0⟩ : PSt).left from by show 0 < 2 * r + 1; omega), HL.out, ← e1] at e3
                      exact e3
                    · obtain ⟨e1, _⟩ := wb hw0
                      rw [e1, num_none _ _ _ _ (by show 0 < 2 * r + 1; omega) hps] at hg4
                      exact spR_inl (HG0.out.symm.trans hg4)
                  have HR := Lib.hid hr
                  clear wa wb hg4 hrp hr hps hwz
                  go_wp2_with (first | (go_at_call 40; (with_reducible refine (HWD.out _).mono ?_); rintro e _ ⟨rfl, xw, rfl⟩) | (go_at_call 42; (with_reducible refine (HRP.out _).mono ?_); rintro e _ ⟨rfl, xp, rfl⟩))
                  obtain ⟨rb, i1, p1, hx⟩ := QAt.fin (((HQ4.out.later xw).later xp)) (.slice none 0 0) (.slice none 0 0)
                  generalize ((xp.out).setCell ⟨w.heap.size, 0, none⟩ (.slice none 0 0)).setCell ⟨w.heap.size, 1, none⟩ (.slice none 0 0) = Wf at *
                  obtain ⟨y1, y2, y3⟩ := rb.all
                  exact bodyPost_ret (v := .tuple #[.agg #[.slice none 0 0, .slice none 0 0], .int .i64 (q4 : Int), .int .i64 80]) (by simp [results, Tryz.results22, go_sem, *]) rfl (by rw [HR.out]; exact RSR.bad rfl hx)
                | some n =>
                  rw [(ps_some hps).1, (ps_some hps).2] at hrp
                  have HRP := Lib.hid hrp
                  have hw0 : wl4 ≠ [] := fun k => by rw [k, ps_empty] at hps; cases hps
                  obtain ⟨e1, e9⟩ := wb hw0
                  rw [e1, num_some _ _ _ _ n (by show 0 < 2 * r + 1; omega) hps] at hg4
                  have hlp : 1 ≤ wl4.length := by
                    cases wl4 with
                    | nil => exact absurd rfl hw0
                    | cons _ _ => rw [List.length_cons]; omega
                  have HGN := Lib.hid hg4
                  have HWZ := Lib.hid hwz
                  clear wa wb hg4 hrp hps hw0 e1
                  go_wp2_with (first | (go_at_call 40; (with_reducible refine (HWD.out _).mono ?_); rintro e _ ⟨rfl, xw, rfl⟩) | (go_at_call 42; (with_reducible refine (HRP.out _).mono ?_); rintro e _ ⟨rfl, xp, rfl⟩))
                  have bq := ((HBQ.out.later xw).later xp).set 1 (.int .i64 n)
                  have hq5 := QAt.other ((HQ4.out.later xw).later xp) ((HBQ.out.later xw).later xp) (by decide) 1 (.int .i64 n) (by omega)
                  go_roundw
                  case rel => exact ⟨2, q4 + wl4.length, q0, n, q0, by decide, rfl, by rw [← HWZ.out]; go_num, by omega, by omega, fun _ => by omega, Lib.hid (bq.eq (by simp)), Lib.hid hq5, fun k => absurd k (by decide), fun k => absurd k (by decide), fun _ => Lib.hid (HGN.out.trans (by rw [PSt.num_b]))⟩
                  case measure => simp [intOf]
              · have HGJ := g2 rfl
                have hp5 := hp4 (by decide)
                clear g0 g1 g2 hp4
                obtain ⟨z1, z2, z3⟩ := HQ4.out.res.all
                obtain ⟨z4, z5, z6⟩ := HQ4.out.box.all
                obtain ⟨z7, z8, z9⟩ := HBQ.out.all
                have hs4 := HQ4.out.size
                have hpn9 : pt3.length ≤ 1000 := by omega
                go_wp2_with (at_builtin; go_loud (refine wpList_append_own _ rfl _ _ 29 rfl (w.heap.size + 2) 48 j0 (.agg #[.int .i64 0, .int .i64 0]) 2 16 Tryz.underlying29 hj0 hy0 hy1 hy2 rfl (by decide) _ _ _ rfl (HQ4.out.alloc (.cells #[.int .i64 q0, .int .i64 q1] 48)).pown ⟨wr.heap.size, 0, none⟩ 1 1 [.int .i64 q0, .int .i64 q1] rfl rfl (blk_two (Blk.new _ _ _)) (two_int _ _) (by unfold maxLen; omega) (by omega) (by simp only [World.size_alloc]; omega) ?_); intro v5 w5 hown hgrow hnil; obtain ⟨g5, cap5, rfl⟩ := Go.Joins.ownsRow_form hown (by omega); have q5 := QAt.addP (q := (q0, q1)) (HQ4.out.alloc (.cells #[.int .i64 q0, .int .i64 q1] 48)) hown hgrow; have HQ5 := Lib.hid q5; obtain ⟨y4, y5, y6⟩ := (Blk.apart (HQ4.out.alloc (.cells #[.int .i64 q0, .int .i64 q1] 48)).box (HQ4.out.alloc (.cells #[.int .i64 q0, .int .i64 q1] 48)).pown (by decide) hgrow).all; clear hown hgrow hnil q5)
                have hr9 := HRR.out
                have b1 : k + 1 ≤ T := hkT
                have b2 : at_ < at4 := by omega
                have b3 : (pt3 ++ [(q0, q1)]).length ≤ at4 := by rw [List.length_append]; simp only [List.length_cons, List.length_nil]; omega
                have b4 : T - (k + 1) = r := by omega
                have b5 : T - (k + 1) < T - k := by omega
                exact ⟨⟨k + 1, at4, x4, pt3 ++ [(q0, q1)], .slice (some ⟨g5, 0, none⟩) (pt3.length + 1) cap5, by go_num, b1, rfl, hat4, .inl b2, b3, Lib.hid (HGJ.out.trans (by rw [b4])), HQ5⟩, by simp [intOf]; omega⟩
          · obtain rfl : k = T := by omega
            have hd1 : decide ((k : Int) < (k : Int)) = false := by simp
            have hlt3 : at_ < at3 := by omega
            go_wp2_with (first | (go_at_call 37; (with_reducible refine (HTK.out _).mono ?_); rintro e _ ⟨rfl, xt, rfl⟩))
            refine ⟨⟨nw, at3, x3, vb ++ [(nw : Int)], pt3, .slice (some ⟨g, 0, none⟩) (vb.length + 1) cap, .slice a3 n3 c3, rfl, rfl, hat3, hn5, by rw [List.length_append]; simp only [List.length_cons, List.length_nil]; omega, hpt3, Lib.hid (by have h := HG3.out; rw [Nat.sub_self] at h; exact h), Lib.hid (HQ.out.later xt)⟩, by simp [intOf]; omega⟩
      · have k1 : decide ((0 : Int) < (V : Int)) = false := by simp; omega
        have hv0 : vrb wl = 0 := by rw [← HVV.out]; omega
        have hg := HG.out
        have hqe : wds q (l.drop q) = (q, wl) :: wds (q + wl.length) (l.drop (q + wl.length)) := HWQ.out
        by_cases hbad : now = 0 ∨ now = 5
        · have hr : spR l = ([], [], (q : Int), 80) := by
            rw [stage_bad _ _ _ _ rfl hv0 hbad] at hg
            exact spR_inl (HG0.out.symm.trans hg)
          have HR := Lib.hid hr
          clear hg hr hqe hv0
          rcases hbad with rfl | rfl
          · go_wp2_with (first | (go_at_call 40; (with_reducible refine (HWD.out _).mono ?_); rintro e _ ⟨rfl, xw, rfl⟩) | (go_at_call 41; (with_reducible refine (HVB.out _).mono ?_); rintro e _ ⟨rfl, xv, rfl⟩))
            obtain ⟨rb, i1, p1, hx⟩ := QAt.fin ((HQ.out.later xw).later xv) (.slice none 0 0) (.slice none 0 0)
            generalize ((xv.out).setCell ⟨w.heap.size, 0, none⟩ (.slice none 0 0)).setCell ⟨w.heap.size, 1, none⟩ (.slice none 0 0) = Wf at *
            obtain ⟨y1, y2, y3⟩ := rb.all
            exact bodyPost_ret (v := .tuple #[.agg #[.slice none 0 0, .slice none 0 0], .int .i64 (q : Int), .int .i64 80]) (by simp [results, Tryz.results22, go_sem, *]) rfl (by rw [HR.out]; exact RSR.bad rfl hx)
          · go_wp2_with (first | (go_at_call 40; (with_reducible refine (HWD.out _).mono ?_); rintro e _ ⟨rfl, xw, rfl⟩) | (go_at_call 41; (with_reducible refine (HVB.out _).mono ?_); rintro e _ ⟨rfl, xv, rfl⟩))
            obtain ⟨rb, i1, p1, hx⟩ := QAt.fin ((HQ.out.later xw).later xv) (.slice none 0 0) (.slice none 0 0)
            generalize ((xv.out).setCell ⟨w.heap.size, 0, none⟩ (.slice none 0 0)).setCell ⟨w.heap.size, 1, none⟩ (.slice none 0 0) = Wf at *
            obtain ⟨y1, y2, y3⟩ := rb.all
            exact bodyPost_ret (v := .tuple #[.agg #[.slice none 0 0, .slice none 0 0], .int .i64 (q : Int), .int .i64 80]) (by simp [results, Tryz.results22, go_sem, *]) rfl (by rw [HR.out]; exact RSR.bad rfl hx)
        · by_cases hn1 : now = 1
          · subst hn1
            obtain ⟨T, hT⟩ : ∃ T, T = 1 := ⟨_, rfl⟩
            obtain ⟨at2, hat2e⟩ : ∃ at2, at2 = q := ⟨_, rfl⟩
            have hat2 : at2 ≤ L := by omega
            have htk := fun v => rtk_c 2 v
            rw [show tkV 2 = ((1 : Nat) : Int) from rfl, ← hT] at htk
            have HTK := Lib.hid htk
            rw [stage_n _ _ _ _ rfl hv0 (.inl rfl), ← hqe, ← hat2e] at hg
            have HG2 : Hid (G0 = goW ⟨vb ++ [(2 : Int)], pt, 2, 2 * T, x⟩ (wds at2 (l.drop at2))) := Lib.hid (by rw [hT]; exact hg)
            have hprog : at_ < at2 ∨ (1 ≤ T ∧ at_ ≤ at2) := .inr ⟨by omega, by omega⟩
            have HAT2 : Hid ((at2 : Int) = (q : Int)) := Lib.hid (by rw [hat2e])
            have hn5 : 2 ≤ 5 := by decide
            have hT3 : T ≤ 3 := by omega
            clear hg htk hT HG hqe hat2e hv0
            go_upto_region 15 with (first | (go_at_call 40; (with_reducible refine (HWD.out _).mono ?_); rintro e _ ⟨rfl, xw, rfl⟩) | (go_at_call 41; (with_reducible refine (HVB.out _).mono ?_); rintro e _ ⟨rfl, xv, rfl⟩))
            have HQ2 := Lib.hid ((HQ.out.later xw).later xv)
            have hs2 := HQ2.out.size
            generalize xv.out = W1 at *
            clear z1 z2 z3 z4 z5 z6
            obtain ⟨z1, z2, z3⟩ := HQ2.out.res.all
            obtain ⟨z4, z5, z6⟩ := HQ2.out.box.all
            have hvn9 : vb.length ≤ 1000 := by omega
            go_wp2_with (at_builtin; go_loud (refine wpList_append_own _ rfl _ _ 28 rfl (w.heap.size + 2) 3 i0 (.int .i64 0) 1 8 Tryz.underlying28 hi0 hz0 hz1 hz2 rfl (by decide) _ _ _ rfl (HQ2.out.alloc (.cells #[.int .i64 2] 3)).vown ⟨W1.heap.size, 0, none⟩ 1 1 [.int .i64 2] rfl rfl (one_int_at _ _ _ _ (by simp)) (one_int _) (by unfold maxLen; omega) (by omega) (by simp only [World.size_alloc]; omega) ?_); intro v3 w3 hown hgrow hnil; obtain ⟨g, cap, rfl⟩ := Go.Joins.ownsRow_form hown (by omega); have q3 := QAt.addV (HQ2.out.alloc (.cells #[.int .i64 2] 3)) hown hgrow; have HQ3 := Lib.hid q3; obtain ⟨y4, y5, y6⟩ := (Blk.apart (HQ2.out.alloc (.cells #[.int .i64 2] 3)).box (HQ2.out.alloc (.cells #[.int .i64 2] 3)).vown (by decide) hgrow).all; clear hown hgrow hnil q3)
            generalize w3.setCell ⟨w.heap.size + 1, 0, none⟩ (.slice (some ⟨g, 0, none⟩) (vb.length + 1) cap) = W3 at *
            clear z1 z2 z3 z4 z5 z6 y4 y5 y6
            go_loopw [7, 11] (fun u7 u11 wr => ∃ (k at3 : Nat) (x3 : Int) (pt3 : List (Int × Int)) (pv3 : Value), u11 = .int .i64 (k : Int) ∧ k ≤ T ∧ u7 = .int .i64 (at3 : Int) ∧ at3 ≤ L ∧ (at_ < at3 ∨ (k = 0 ∧ 1 ≤ T ∧ at_ ≤ at3)) ∧ pt3.length ≤ at3 ∧ Hid (G0 = goW ⟨vb ++ [2], pt3, 2, 2 * (T - k), x3⟩ (wds at3 (l.drop at3))) ∧ Hid (QAt w (.slice (some ⟨g, 0, none⟩) (vb.length + 1) cap) pv3 (vb ++ [2]) pt3 wr)) (fun _ u11 _ => T - (intOf u11).toNat)
            case atStart => exact ⟨0, at2, x, pt, .slice a2 n2 c2, rfl, Nat.zero_le _, by rw [HAT2.out], hat2, hprog.imp id (fun h => ⟨rfl, h.1, h.2⟩), by omega, HG2, HQ3⟩
            case round =>
              clear HQ3 HG2 HQ HQ2
              obtain ⟨k, at3, x3, pt3, pv3, rfl, hk, rfl, hat3, hpr3, hpt3, HG3, HQ⟩ := hrel
              obtain ⟨z1, z2, z3⟩ := HQ.out.res.all
              obtain ⟨z4, z5, z6⟩ := HQ.out.box.all
              obtain ⟨a3, n3, c3, rfl⟩ := own_slice HQ.out.pown
              by_cases hkT : k < T
              · have hd1 : decide ((k : Int) < (T : Int)) = true := by simp; exact hkT
                obtain ⟨r, hr⟩ : ∃ r, T - k = r + 1 := ⟨T - k - 1, by omega⟩
                rw [hr] at HG3
                have HRR := Lib.hid hr
                clear hr
                go_wp2_with (first | (go_at_call 37; (with_reducible refine (HTK.out _).mono ?_); rintro e _ ⟨rfl, xt, rfl⟩))
                have hbq := Blk.new xt.out 74 #[.int .i64 0, .int .i64 0]
                have hq4 := (HQ.out.later xt).alloc (.cells #[.int .i64 0, .int .i64 0] 74)
                have hbs : w.heap.size + 2 ≤ xt.out.heap.size := by have := HQ.out.size; have := xt.size_le; omega
                have HBQ0 := Lib.hid hbq
                have HQ40 := Lib.hid hq4
                clear hbq hq4 z1 z2 z3 z4 z5 z6
                generalize xt.out.alloc (.cells #[.int .i64 0, .int .i64 0] 74) = W4a at *
                generalize xt.out.heap.size = Bq at *
                go_loopw [7, 13] (fun u7 u13 wr => ∃ (j at4 : Nat) (q0 q1 x4 : Int), j ≤ 2 ∧ u13 = .int .i64 (j : Int) ∧ u7 = .int .i64 (at4 : Int) ∧ at4 ≤ L ∧ at3 ≤ at4 ∧ (1 ≤ j → at3 < at4) ∧ Hid (Blk wr Bq 74 #[.int .i64 q0, .int .i64 q1]) ∧ Hid (QAt w (.slice (some ⟨g, 0, none⟩) (vb.length + 1) cap) (.slice a3 n3 c3) (vb ++ [2]) pt3 wr) ∧ (j = 0 → Hid (G0 = goW ⟨vb ++ [2], pt3, 2, 2 * (r + 1), x4⟩ (wds at4 (l.drop at4)))) ∧ (j = 1 → Hid (G0 = goW ⟨vb ++ [2], pt3, 2, 2 * r + 1, q0⟩ (wds at4 (l.drop at4)))) ∧ (j = 2 → Hid (G0 = goW ⟨vb ++ [2], pt3 ++ [(q0, q1)], 2, 2 * r, x4⟩ (wds at4 (l.drop at4))))) (fun _ u13 _ => 2 - (intOf u13).toNat)
                case atStart => exact ⟨0, at3, 0, 0, x3, by decide, rfl, rfl, hat3, Nat.le_refl _, fun h => absurd h (by decide), HBQ0, HQ40, fun _ => HG3, fun h => absurd h (by decide), fun h => absurd h (by decide)⟩
                case round =>
                  clear HQ HG3 HBQ0 HQ40
                  obtain ⟨j, at4, q0, q1, x4, hj, rfl, rfl, hat4, ha34, hp4, HBQ, HQ4, g0, g1, g2⟩ := hrel
                  rcases (show j = 0 ∨ j = 1 ∨ j = 2 by omega) with rfl | rfl | rfl
                  · have HGJ := g0 rfl
                    clear g0 g1 g2
                    have hwd := HWD0.out at4 hat4
                    obtain ⟨wa, wb⟩ := word_at l at4 (by rw [HL.out]; exact hat4)
                    obtain ⟨sk1, sk2⟩ := skp_le l at4 (by rw [HL.out]; exact hat4)
                    rw [HL.out] at wa wb sk2
                    obtain ⟨q4, hq4⟩ : ∃ q, q = skp l at4 := ⟨_, rfl⟩
                    obtain ⟨wl4, hwl4⟩ : ∃ wl, wl = wrd (l.drop q4) := ⟨_, rfl⟩
                    rw [← hq4, ← hwl4] at hwd wa wb
                    rw [← hq4] at sk1 sk2
                    rw [← hwl4] at sk2
                    have hrp := fun v => rparse_l wl4 v
                    obtain ⟨W4, hW4⟩ : ∃ W : ByteArray, W = ⟨wl4.toArray⟩ := ⟨_, rfl⟩
                    have hwz : W4.size = wl4.length := by rw [hW4, ba_size]
                    rw [← hW4] at hwd hrp
                    have HWD := Lib.hid hwd
                    have hg4 := HGJ.out
                    obtain ⟨z1, z2, z3⟩ := HQ4.out.res.all
                    obtain ⟨z4, z5, z6⟩ := HQ4.out.box.all
                    obtain ⟨z7, z8, z9⟩ := HBQ.out.all
                    have hq9 : (q4 : Int) ≤ 1000 := by omega
                    have hw9 : (W4.size : Int) ≤ 1000 := by omega
                    clear hwd hW4 hq4 hwl4
                    cases hps : ps wl4 with
                    | none =>
                      rw [(ps_none hps).1, (ps_none hps).2] at hrp
                      have HRP := Lib.hid hrp
                      have hr : spR l = ([], [], (q4 : Int), 80) := by
                        by_cases hw0 : wl4 = []
                        · obtain ⟨e1, e2⟩ := wa hw0
                          rw [e2] at hg4
                          have e3 := spR_inr (HG0.out.symm.trans hg4)
                          rw [if_pos (show 0 < (⟨vb ++ [2], pt3, 2, 2 * (r + 1), x4⟩ : PSt).left from by show 0 < 2 * (r + 1); omega), HL.out, ← e1] at e3
                          exact e3
                        · obtain ⟨e1, _⟩ := wb hw0
                          rw [e1, num_none _ _ _ _ (by show 0 < 2 * (r + 1); omega) hps] at hg4
                          exact spR_inl (HG0.out.symm.trans hg4)
                      have HR := Lib.hid hr
                      clear wa wb hg4 hrp hr hps hwz
                      go_wp2_with (first | (go_at_call 40; (with_reducible refine (HWD.out _).mono ?_); rintro e _ ⟨rfl, xw, rfl⟩) | (go_at_call 42; (with_reducible refine (HRP.out _).mono ?_); rintro e _ ⟨rfl, xp, rfl⟩))
                      obtain ⟨rb, i1, p1, hx⟩ := QAt.fin (((HQ4.out.later xw).later xp)) (.slice none 0 0) (.slice none 0 0)
                      generalize ((xp.out).setCell ⟨w.heap.size, 0, none⟩ (.slice none 0 0)).setCell ⟨w.heap.size, 1, none⟩ (.slice none 0 0) = Wf at *
                      obtain ⟨y1, y2, y3⟩ := rb.all
                      exact bodyPost_ret (v := .tuple #[.agg #[.slice none 0 0, .slice none 0 0], .int .i64 (q4 : Int), .int .i64 80]) (by simp [results, Tryz.results22, go_sem, *]) rfl (by rw [HR.out]; exact RSR.bad rfl hx)
                    | some n =>
                      rw [(ps_some hps).1, (ps_some hps).2] at hrp
                      have HRP := Lib.hid hrp
                      have hw0 : wl4 ≠ [] := fun k => by rw [k, ps_empty] at hps; cases hps
                      obtain ⟨e1, e9⟩ := wb hw0
                      rw [e1, num_some _ _ _ _ n (by show 0 < 2 * (r + 1); omega) hps] at hg4
                      have hlp : 1 ≤ wl4.length := by
                        cases wl4 with
                        | nil => exact absurd rfl hw0
                        | cons _ _ => rw [List.length_cons]; omega
                      have HGN := Lib.hid hg4
                      have HWZ := Lib.hid hwz
                      clear wa wb hg4 hrp hps hw0 e1
                      go_wp2_with (first | (go_at_call 40; (with_reducible refine (HWD.out _).mono ?_); rintro e _ ⟨rfl, xw, rfl⟩) | (go_at_call 42; (with_reducible refine (HRP.out _).mono ?_); rintro e _ ⟨rfl, xp, rfl⟩))
                      have bq := ((HBQ.out.later xw).later xp).set 0 (.int .i64 n)
                      have hq5 := QAt.other ((HQ4.out.later xw).later xp) ((HBQ.out.later xw).later xp) (by decide) 0 (.int .i64 n) (by omega)
                      go_roundw
                      case rel => exact ⟨1, q4 + wl4.length, n, q1, x4, by decide, rfl, by rw [← HWZ.out]; go_num, by omega, by omega, fun _ => by omega, Lib.hid (bq.eq (by simp)), Lib.hid hq5, fun k => absurd k (by decide), fun _ => Lib.hid (HGN.out.trans (by rw [PSt.num_a])), fun k => absurd k (by decide)⟩
                      case measure => simp [intOf]
                  · have HGJ := g1 rfl
                    clear g0 g1 g2
                    have hwd := HWD0.out at4 hat4
                    obtain ⟨wa, wb⟩ := word_at l at4 (by rw [HL.out]; exact hat4)
                    obtain ⟨sk1, sk2⟩ := skp_le l at4 (by rw [HL.out]; exact hat4)
                    rw [HL.out] at wa wb sk2
                    obtain ⟨q4, hq4⟩ : ∃ q, q = skp l at4 := ⟨_, rfl⟩
                    obtain ⟨wl4, hwl4⟩ : ∃ wl, wl = wrd (l.drop q4) := ⟨_, rfl⟩
                    rw [← hq4, ← hwl4] at hwd wa wb
                    rw [← hq4] at sk1 sk2
                    rw [← hwl4] at sk2
                    have hrp := fun v => rparse_l wl4 v
                    obtain ⟨W4, hW4⟩ : ∃ W : ByteArray, W = ⟨wl4.toArray⟩ := ⟨_, rfl⟩
                    have hwz : W4.size = wl4.length := by rw [hW4, ba_size]
                    rw [← hW4] at hwd hrp
                    have HWD := Lib.hid hwd
                    have hg4 := HGJ.out
                    obtain ⟨z1, z2, z3⟩ := HQ4.out.res.all
                    obtain ⟨z4, z5, z6⟩ := HQ4.out.box.all
                    obtain ⟨z7, z8, z9⟩ := HBQ.out.all
                    have hq9 : (q4 : Int) ≤ 1000 := by omega
                    have hw9 : (W4.size : Int) ≤ 1000 := by omega
                    clear hwd hW4 hq4 hwl4
                    cases hps : ps wl4 with
                    | none =>
                      rw [(ps_none hps).1, (ps_none hps).2] at hrp
                      have HRP := Lib.hid hrp
                      have hr : spR l = ([], [], (q4 : Int), 80) := by
                        by_cases hw0 : wl4 = []
                        · obtain ⟨e1, e2⟩ := wa hw0
                          rw [e2] at hg4
                          have e3 := spR_inr (HG0.out.symm.trans hg4)
                          rw [if_pos (show 0 < (⟨vb ++ [2], pt3, 2, 2 * r + 1, q0⟩ : PSt).left from by show 0 < 2 * r + 1; omega), HL.out, ← e1] at e3
                          exact e3
                        · obtain ⟨e1, _⟩ := wb hw0
                          rw [e1, num_none _ _ _ _ (by show 0 < 2 * r + 1; omega) hps] at hg4
                          exact spR_inl (HG0.out.symm.trans hg4)
                      have HR := Lib.hid hr
                      clear wa wb hg4 hrp hr hps hwz
                      go_wp2_with (first | (go_at_call 40; (with_reducible refine (HWD.out _).mono ?_); rintro e _ ⟨rfl, xw, rfl⟩) | (go_at_call 42; (with_reducible refine (HRP.out _).mono ?_); rintro e _ ⟨rfl, xp, rfl⟩))
                      obtain ⟨rb, i1, p1, hx⟩ := QAt.fin (((HQ4.out.later xw).later xp)) (.slice none 0 0) (.slice none 0 0)
                      generalize ((xp.out).setCell ⟨w.heap.size, 0, none⟩ (.slice none 0 0)).setCell ⟨w.heap.size, 1, none⟩ (.slice none 0 0) = Wf at *
                      obtain ⟨y1, y2, y3⟩ := rb.all
                      exact bodyPost_ret (v := .tuple #[.agg #[.slice none 0 0, .slice none 0 0], .int .i64 (q4 : Int), .int .i64 80]) (by simp [results, Tryz.results22, go_sem, *]) rfl (by rw [HR.out]; exact RSR.bad rfl hx)
                    | some n =>
                      rw [(ps_some hps).1, (ps_some hps).2] at hrp
                      have HRP := Lib.hid hrp
                      have hw0 : wl4 ≠ [] := fun k => by rw [k, ps_empty] at hps; cases hps
                      obtain ⟨e1, e9⟩ := wb hw0
                      rw [e1, num_some _ _ _ _ n (by show 0 < 2 * r + 1; omega) hps] at hg4
                      have hlp : 1 ≤ wl4.length := by
                        cases wl4 with
                        | nil => exact absurd rfl hw0
                        | cons _ _ => rw [List.length_cons]; omega
                      have HGN := Lib.hid hg4
                      have HWZ := Lib.hid hwz
                      clear wa wb hg4 hrp hps hw0 e1
                      go_wp2_with (first | (go_at_call 40; (with_reducible refine (HWD.out _).mono ?_); rintro e _ ⟨rfl, xw, rfl⟩) | (go_at_call 42; (with_reducible refine (HRP.out _).mono ?_); rintro e _ ⟨rfl, xp, rfl⟩))
                      have bq := ((HBQ.out.later xw).later xp).set 1 (.int .i64 n)
                      have hq5 := QAt.other ((HQ4.out.later xw).later xp) ((HBQ.out.later xw).later xp) (by decide) 1 (.int .i64 n) (by omega)
                      go_roundw
                      case rel => exact ⟨2, q4 + wl4.length, q0, n, q0, by decide, rfl, by rw [← HWZ.out]; go_num, by omega, by omega, fun _ => by omega, Lib.hid (bq.eq (by simp)), Lib.hid hq5, fun k => absurd k (by decide), fun k => absurd k (by decide), fun _ => Lib.hid (HGN.out.trans (by rw [PSt.num_b]))⟩
                      case measure => simp [intOf]
                  · have HGJ := g2 rfl
                    have hp5 := hp4 (by decide)
                    clear g0 g1 g2 hp4
                    obtain ⟨z1, z2, z3⟩ := HQ4.out.res.all
                    obtain ⟨z4, z5, z6⟩ := HQ4.out.box.all
                    obtain ⟨z7, z8, z9⟩ := HBQ.out.all
                    have hs4 := HQ4.out.size
                    have hpn9 : pt3.length ≤ 1000 := by omega
                    go_wp2_with (at_builtin; go_loud (refine wpList_append_own _ rfl _ _ 29 rfl (w.heap.size + 2) 48 j0 (.agg #[.int .i64 0, .int .i64 0]) 2 16 Tryz.underlying29 hj0 hy0 hy1 hy2 rfl (by decide) _ _ _ rfl (HQ4.out.alloc (.cells #[.int .i64 q0, .int .i64 q1] 48)).pown ⟨wr.heap.size, 0, none⟩ 1 1 [.int .i64 q0, .int .i64 q1] rfl rfl (blk_two (Blk.new _ _ _)) (two_int _ _) (by unfold maxLen; omega) (by omega) (by simp only [World.size_alloc]; omega) ?_); intro v5 w5 hown hgrow hnil; obtain ⟨g5, cap5, rfl⟩ := Go.Joins.ownsRow_form hown (by omega); have q5 := QAt.addP (q := (q0, q1)) (HQ4.out.alloc (.cells #[.int .i64 q0, .int .i64 q1] 48)) hown hgrow; have HQ5 := Lib.hid q5; obtain ⟨y4, y5, y6⟩ := (Blk.apart (HQ4.out.alloc (.cells #[.int .i64 q0, .int .i64 q1] 48)).box (HQ4.out.alloc (.cells #[.int .i64 q0, .int .i64 q1] 48)).pown (by decide) hgrow).all; clear hown hgrow hnil q5)
                    have hr9 := HRR.out
                    have b1 : k + 1 ≤ T := hkT
                    have b2 : at_ < at4 := by omega
                    have b3 : (pt3 ++ [(q0, q1)]).length ≤ at4 := by rw [List.length_append]; simp only [List.length_cons, List.length_nil]; omega
                    have b4 : T - (k + 1) = r := by omega
                    have b5 : T - (k + 1) < T - k := by omega
                    exact ⟨⟨k + 1, at4, x4, pt3 ++ [(q0, q1)], .slice (some ⟨g5, 0, none⟩) (pt3.length + 1) cap5, by go_num, b1, rfl, hat4, .inl b2, b3, Lib.hid (HGJ.out.trans (by rw [b4])), HQ5⟩, by simp [intOf]; omega⟩
              · obtain rfl : k = T := by omega
                have hd1 : decide ((k : Int) < (k : Int)) = false := by simp
                have hlt3 : at_ < at3 := by omega
                go_wp2_with (first | (go_at_call 37; (with_reducible refine (HTK.out _).mono ?_); rintro e _ ⟨rfl, xt, rfl⟩))
                refine ⟨⟨2, at3, x3, vb ++ [2], pt3, .slice (some ⟨g, 0, none⟩) (vb.length + 1) cap, .slice a3 n3 c3, rfl, rfl, hat3, hn5, by rw [List.length_append]; simp only [List.length_cons, List.length_nil]; omega, hpt3, Lib.hid (by have h := HG3.out; rw [Nat.sub_self] at h; exact h), Lib.hid (HQ.out.later xt)⟩, by simp [intOf]; omega⟩
          · obtain ⟨nw, hnw⟩ : ∃ nw, nw = now := ⟨_, rfl⟩
            subst hnw
            have u0 : ((nw : Int) == 0) = false := by simp; omega
            have u1 : ((nw : Int) == 1) = false := by simp; omega
            have u5 : ((nw : Int) == 5) = false := by simp; omega
            obtain ⟨T, hT⟩ : ∃ T, T = tkN nw := ⟨_, rfl⟩
            obtain ⟨at2, hat2e⟩ : ∃ at2, at2 = q := ⟨_, rfl⟩
            have hat2 : at2 ≤ L := by omega
            have htk := fun v => rtk_c (nw : Int) v
            have hT3 : T ≤ 3 := by rw [hT]; exact (tkV_tkN nw (by omega)).2
            have hT1 : 1 ≤ T := by
              rw [hT]
              rcases (show nw = 2 ∨ nw = 3 ∨ nw = 4 by omega) with h | h | h <;> rw [h] <;> decide
            rw [(tkV_tkN nw (by omega)).1, ← hT] at htk
            have HTK := Lib.hid htk
            rw [stage_n _ _ _ _ rfl hv0 (show nw = 1 ∨ nw = 2 ∨ nw = 3 ∨ nw = 4 by omega), ← hqe, ← hat2e] at hg
            have HG2 : Hid (G0 = goW ⟨vb ++ [(nw : Int)], pt, nw, 2 * T, x⟩ (wds at2 (l.drop at2))) := Lib.hid (by
              have e : (if (⟨vb, pt, nw, 0, x⟩ : PSt).now = 1 then 2 else (⟨vb, pt, nw, 0, x⟩ : PSt).now) = nw := if_neg hn1
              rw [e] at hg
              rw [hT]; exact hg)
            have hprog : at_ < at2 ∨ (1 ≤ T ∧ at_ ≤ at2) := .inr ⟨hT1, by omega⟩
            have HAT2 : Hid ((at2 : Int) = (q : Int)) := Lib.hid (by rw [hat2e])
            have hn5 : nw ≤ 5 := hnow
            clear hg htk hT HG hqe hat2e hv0
            go_upto_region 15 with (first | (go_at_call 40; (with_reducible refine (HWD.out _).mono ?_); rintro e _ ⟨rfl, xw, rfl⟩) | (go_at_call 41; (with_reducible refine (HVB.out _).mono ?_); rintro e _ ⟨rfl, xv, rfl⟩))
            have HQ2 := Lib.hid ((HQ.out.later xw).later xv)
            have hs2 := HQ2.out.size
            generalize xv.out = W1 at *
            clear z1 z2 z3 z4 z5 z6
            obtain ⟨z1, z2, z3⟩ := HQ2.out.res.all
            obtain ⟨z4, z5, z6⟩ := HQ2.out.box.all
            have hvn9 : vb.length ≤ 1000 := by omega
            go_wp2_with (at_builtin; go_loud (refine wpList_append_own _ rfl _ _ 28 rfl (w.heap.size + 2) 3 i0 (.int .i64 0) 1 8 Tryz.underlying28 hi0 hz0 hz1 hz2 rfl (by decide) _ _ _ rfl (HQ2.out.alloc (.cells #[.int .i64 (nw : Int)] 3)).vown ⟨W1.heap.size, 0, none⟩ 1 1 [.int .i64 (nw : Int)] rfl rfl (one_int_at _ _ _ _ (by simp)) (one_int _) (by unfold maxLen; omega) (by omega) (by simp only [World.size_alloc]; omega) ?_); intro v3 w3 hown hgrow hnil; obtain ⟨g, cap, rfl⟩ := Go.Joins.ownsRow_form hown (by omega); have q3 := QAt.addV (HQ2.out.alloc (.cells #[.int .i64 (nw : Int)] 3)) hown hgrow; have HQ3 := Lib.hid q3; obtain ⟨y4, y5, y6⟩ := (Blk.apart (HQ2.out.alloc (.cells #[.int .i64 (nw : Int)] 3)).box (HQ2.out.alloc (.cells #[.int .i64 (nw : Int)] 3)).vown (by decide) hgrow).all; clear hown hgrow hnil q3)
            generalize w3.setCell ⟨w.heap.size + 1, 0, none⟩ (.slice (some ⟨g, 0, none⟩) (vb.length + 1) cap) = W3 at *
            clear z1 z2 z3 z4 z5 z6 y4 y5 y6
            go_loopw [7, 11] (fun u7 u11 wr => ∃ (k at3 : Nat) (x3 : Int) (pt3 : List (Int × Int)) (pv3 : Value), u11 = .int .i64 (k : Int) ∧ k ≤ T ∧ u7 = .int .i64 (at3 : Int) ∧ at3 ≤ L ∧ (at_ < at3 ∨ (k = 0 ∧ 1 ≤ T ∧ at_ ≤ at3)) ∧ pt3.length ≤ at3 ∧ Hid (G0 = goW ⟨vb ++ [(nw : Int)], pt3, nw, 2 * (T - k), x3⟩ (wds at3 (l.drop at3))) ∧ Hid (QAt w (.slice (some ⟨g, 0, none⟩) (vb.length + 1) cap) pv3 (vb ++ [(nw : Int)]) pt3 wr)) (fun _ u11 _ => T - (intOf u11).toNat)
            case atStart => exact ⟨0, at2, x, pt, .slice a2 n2 c2, rfl, Nat.zero_le _, by rw [HAT2.out], hat2, hprog.imp id (fun h => ⟨rfl, h.1, h.2⟩), by omega, HG2, HQ3⟩
            case round =>
              clear HQ3 HG2 HQ HQ2
              obtain ⟨k, at3, x3, pt3, pv3, rfl, hk, rfl, hat3, hpr3, hpt3, HG3, HQ⟩ := hrel
              obtain ⟨z1, z2, z3⟩ := HQ.out.res.all
              obtain ⟨z4, z5, z6⟩ := HQ.out.box.all
              obtain ⟨a3, n3, c3, rfl⟩ := own_slice HQ.out.pown
              by_cases hkT : k < T
              · have hd1 : decide ((k : Int) < (T : Int)) = true := by simp; exact hkT
                obtain ⟨r, hr⟩ : ∃ r, T - k = r + 1 := ⟨T - k - 1, by omega⟩
                rw [hr] at HG3
                have HRR := Lib.hid hr
                clear hr
                go_wp2_with (first | (go_at_call 37; (with_reducible refine (HTK.out _).mono ?_); rintro e _ ⟨rfl, xt, rfl⟩))
                have hbq := Blk.new xt.out 74 #[.int .i64 0, .int .i64 0]
                have hq4 := (HQ.out.later xt).alloc (.cells #[.int .i64 0, .int .i64 0] 74)
                have hbs : w.heap.size + 2 ≤ xt.out.heap.size := by have := HQ.out.size; have := xt.size_le; omega
                have HBQ0 := Lib.hid hbq
                have HQ40 := Lib.hid hq4
                clear hbq hq4 z1 z2 z3 z4 z5 z6
                generalize xt.out.alloc (.cells #[.int .i64 0, .int .i64 0] 74) = W4a at *
                generalize xt.out.heap.size = Bq at *
                go_loopw [7, 13] (fun u7 u13 wr => ∃ (j at4 : Nat) (q0 q1 x4 : Int), j ≤ 2 ∧ u13 = .int .i64 (j : Int) ∧ u7 = .int .i64 (at4 : Int) ∧ at4 ≤ L ∧ at3 ≤ at4 ∧ (1 ≤ j → at3 < at4) ∧ Hid (Blk wr Bq 74 #[.int .i64 q0, .int .i64 q1]) ∧ Hid (QAt w (.slice (some ⟨g, 0, none⟩) (vb.length + 1) cap) (.slice a3 n3 c3) (vb ++ [(nw : Int)]) pt3 wr) ∧ (j = 0 → Hid (G0 = goW ⟨vb ++ [(nw : Int)], pt3, nw, 2 * (r + 1), x4⟩ (wds at4 (l.drop at4)))) ∧ (j = 1 → Hid (G0 = goW ⟨vb ++ [(nw : Int)], pt3, nw, 2 * r + 1, q0⟩ (wds at4 (l.drop at4)))) ∧ (j = 2 → Hid (G0 = goW ⟨vb ++ [(nw : Int)], pt3 ++ [(q0, q1)], nw, 2 * r, x4⟩ (wds at4 (l.drop at4))))) (fun _ u13 _ => 2 - (intOf u13).toNat)
                case atStart => exact ⟨0, at3, 0, 0, x3, by decide, rfl, rfl, hat3, Nat.le_refl _, fun h => absurd h (by decide), HBQ0, HQ40, fun _ => HG3, fun h => absurd h (by decide), fun h => absurd h (by decide)⟩
                case round =>
                  clear HQ HG3 HBQ0 HQ40
                  obtain ⟨j, at4, q0, q1, x4, hj, rfl, rfl, hat4, ha34, hp4, HBQ, HQ4, g0, g1, g2⟩ := hrel
                  rcases (show j = 0 ∨ j = 1 ∨ j = 2 by omega) with rfl | rfl | rfl
                  · have HGJ := g0 rfl
                    clear g0 g1 g2
                    have hwd := HWD0.out at4 hat4
                    obtain ⟨wa, wb⟩ := word_at l at4 (by rw [HL.out]; exact hat4)
                    obtain ⟨sk1, sk2⟩ := skp_le l at4 (by rw [HL.out]; exact hat4)
                    rw [HL.out] at wa wb sk2
                    obtain ⟨q4, hq4⟩ : ∃ q, q = skp l at4 := ⟨_, rfl⟩
                    obtain ⟨wl4, hwl4⟩ : ∃ wl, wl = wrd (l.drop q4) := ⟨_, rfl⟩
                    rw [← hq4, ← hwl4] at hwd wa wb
                    rw [← hq4] at sk1 sk2
                    rw [← hwl4] at sk2
                    have hrp := fun v => rparse_l wl4 v
                    obtain ⟨W4, hW4⟩ : ∃ W : ByteArray, W = ⟨wl4.toArray⟩ := ⟨_, rfl⟩
                    have hwz : W4.size = wl4.length := by rw [hW4, ba_size]
                    rw [← hW4] at hwd hrp
                    have HWD := Lib.hid hwd
                    have hg4 := HGJ.out
                    obtain ⟨z1, z2, z3⟩ := HQ4.out.res.all
                    obtain ⟨z4, z5, z6⟩ := HQ4.out.box.all
                    obtain ⟨z7, z8, z9⟩ := HBQ.out.all
                    have hq9 : (q4 : Int) ≤ 1000 := by omega
                    have hw9 : (W4.size : Int) ≤ 1000 := by omega
                    clear hwd hW4 hq4 hwl4
                    cases hps : ps wl4 with
                    | none =>
                      rw [(ps_none hps).1, (ps_none hps).2] at hrp
                      have HRP := Lib.hid hrp
                      have hr : spR l = ([], [], (q4 : Int), 80) := by
                        by_cases hw0 : wl4 = []
                        · obtain ⟨e1, e2⟩ := wa hw0
                          rw [e2] at hg4
                          have e3 := spR_inr (HG0.out.symm.trans hg4)
                          rw [if_pos (show 0 < (⟨vb ++ [(nw : Int)], pt3, nw, 2 * (r + 1), x4⟩ : PSt).left from by show 0 < 2 * (r + 1); omega), HL.out, ← e1] at e3
                          exact e3
                        · obtain ⟨e1, _⟩ := wb hw0
                          rw [e1, num_none _ _ _ _ (by show 0 < 2 * (r + 1); omega) hps] at hg4
                          exact spR_inl (HG0.out.symm.trans hg4)
                      have HR := Lib.hid hr
                      clear wa wb hg4 hrp hr hps hwz
                      go_wp2_with (first | (go_at_call 40; (with_reducible refine (HWD.out _).mono ?_); rintro e _ ⟨rfl, xw, rfl⟩) | (go_at_call 42; (with_reducible refine (HRP.out _).mono ?_); rintro e _ ⟨rfl, xp, rfl⟩))
                      obtain ⟨rb, i1, p1, hx⟩ := QAt.fin (((HQ4.out.later xw).later xp)) (.slice none 0 0) (.slice none 0 0)
                      generalize ((xp.out).setCell ⟨w.heap.size, 0, none⟩ (.slice none 0 0)).setCell ⟨w.heap.size, 1, none⟩ (.slice none 0 0) = Wf at *
                      obtain ⟨y1, y2, y3⟩ := rb.all
                      exact bodyPost_ret (v := .tuple #[.agg #[.slice none 0 0, .slice none 0 0], .int .i64 (q4 : Int), .int .i64 80]) (by simp [results, Tryz.results22, go_sem, *]) rfl (by rw [HR.out]; exact RSR.bad rfl hx)
                    | some n =>
                      rw [(ps_some hps).1, (ps_some hps).2] at hrp
                      have HRP := Lib.hid hrp
                      have hw0 : wl4 ≠ [] := fun k => by rw [k, ps_empty] at hps; cases hps
                      obtain ⟨e1, e9⟩ := wb hw0
                      rw [e1, num_some _ _ _ _ n (by show 0 < 2 * (r + 1); omega) hps] at hg4
                      have hlp : 1 ≤ wl4.length := by
                        cases wl4 with
                        | nil => exact absurd rfl hw0
                        | cons _ _ => rw [List.length_cons]; omega
                      have HGN := Lib.hid hg4
                      have HWZ := Lib.hid hwz
                      clear wa wb hg4 hrp hps hw0 e1
                      go_wp2_with (first | (go_at_call 40; (with_reducible refine (HWD.out _).mono ?_); rintro e _ ⟨rfl, xw, rfl⟩) | (go_at_call 42; (with_reducible refine (HRP.out _).mono ?_); rintro e _ ⟨rfl, xp, rfl⟩))
                      have bq := ((HBQ.out.later xw).later xp).set 0 (.int .i64 n)
                      have hq5 := QAt.other ((HQ4.out.later xw).later xp) ((HBQ.out.later xw).later xp) (by decide) 0 (.int .i64 n) (by omega)
                      go_roundw
                      case rel => exact ⟨1, q4 + wl4.length, n, q1, x4, by decide, rfl, by rw [← HWZ.out]; go_num, by omega, by omega, fun _ => by omega, Lib.hid (bq.eq (by simp)), Lib.hid hq5, fun k => absurd k (by decide), fun _ => Lib.hid (HGN.out.trans (by rw [PSt.num_a])), fun k => absurd k (by decide)⟩
                      case measure => simp [intOf]
                  · have HGJ := g1 rfl
                    clear g0 g1 g2
                    have hwd := HWD0.out at4 hat4
                    obtain ⟨wa, wb⟩ := word_at l at4 (by rw [HL.out]; exact hat4)
                    obtain ⟨sk1, sk2⟩ := skp_le l at4 (by rw [HL.out]; exact hat4)
                    rw [HL.out] at wa wb sk2
                    obtain ⟨q4, hq4⟩ : ∃ q, q = skp l at4 := ⟨_, rfl⟩
                    obtain ⟨wl4, hwl4⟩ : ∃ wl, wl = wrd (l.drop q4) := ⟨_, rfl⟩
                    rw [← hq4, ← hwl4] at hwd wa wb
                    rw [← hq4] at sk1 sk2
                    rw [← hwl4] at sk2
                    have hrp := fun v => rparse_l wl4 v
                    obtain ⟨W4, hW4⟩ : ∃ W : ByteArray, W = ⟨wl4.toArray⟩ := ⟨_, rfl⟩
                    have hwz : W4.size = wl4.length := by rw [hW4, ba_size]
                    rw [← hW4] at hwd hrp
                    have HWD := Lib.hid hwd
                    have hg4 := HGJ.out
                    obtain ⟨z1, z2, z3⟩ := HQ4.out.res.all
                    obtain ⟨z4, z5, z6⟩ := HQ4.out.box.all
                    obtain ⟨z7, z8, z9⟩ := HBQ.out.all
                    have hq9 : (q4 : Int) ≤ 1000 := by omega
                    have hw9 : (W4.size : Int) ≤ 1000 := by omega
                    clear hwd hW4 hq4 hwl4
                    cases hps : ps wl4 with
                    | none =>
                      rw [(ps_none hps).1, (ps_none hps).2] at hrp
                      have HRP := Lib.hid hrp
                      have hr : spR l = ([], [], (q4 : Int), 80) := by
                        by_cases hw0 : wl4 = []
                        · obtain ⟨e1, e2⟩ := wa hw0
                          rw [e2] at hg4
                          have e3 := spR_inr (HG0.out.symm.trans hg4)
                          rw [if_pos (show 0 < (⟨vb ++ [(nw : Int)], pt3, nw, 2 * r + 1, q0⟩ : PSt).left from by show 0 < 2 * r + 1; omega), HL.out, ← e1] at e3
                          exact e3
                        · obtain ⟨e1, _⟩ := wb hw0
                          rw [e1, num_none _ _ _ _ (by show 0 < 2 * r + 1; omega) hps] at hg4
                          exact spR_inl (HG0.out.symm.trans hg4)
                      have HR := Lib.hid hr
                      clear wa wb hg4 hrp hr hps hwz
                      go_wp2_with (first | (go_at_call 40; (with_reducible refine (HWD.out _).mono ?_); rintro e _ ⟨rfl, xw, rfl⟩) | (go_at_call 42; (with_reducible refine (HRP.out _).mono ?_); rintro e _ ⟨rfl, xp, rfl⟩))
                      obtain ⟨rb, i1, p1, hx⟩ := QAt.fin (((HQ4.out.later xw).later xp)) (.slice none 0 0) (.slice none 0 0)
                      generalize ((xp.out).setCell ⟨w.heap.size, 0, none⟩ (.slice none 0 0)).setCell ⟨w.heap.size, 1, none⟩ (.slice none 0 0) = Wf at *
                      obtain ⟨y1, y2, y3⟩ := rb.all
                      exact bodyPost_ret (v := .tuple #[.agg #[.slice none 0 0, .slice none 0 0], .int .i64 (q4 : Int), .int .i64 80]) (by simp [results, Tryz.results22, go_sem, *]) rfl (by rw [HR.out]; exact RSR.bad rfl hx)
                    | some n =>
                      rw [(ps_some hps).1, (ps_some hps).2] at hrp
                      have HRP := Lib.hid hrp
                      have hw0 : wl4 ≠ [] := fun k => by rw [k, ps_empty] at hps; cases hps
                      obtain ⟨e1, e9⟩ := wb hw0
                      rw [e1, num_some _ _ _ _ n (by show 0 < 2 * r + 1; omega) hps] at hg4
                      have hlp : 1 ≤ wl4.length := by
                        cases wl4 with
                        | nil => exact absurd rfl hw0
                        | cons _ _ => rw [List.length_cons]; omega
                      have HGN := Lib.hid hg4
                      have HWZ := Lib.hid hwz
                      clear wa wb hg4 hrp hps hw0 e1
                      go_wp2_with (first | (go_at_call 40; (with_reducible refine (HWD.out _).mono ?_); rintro e _ ⟨rfl, xw, rfl⟩) | (go_at_call 42; (with_reducible refine (HRP.out _).mono ?_); rintro e _ ⟨rfl, xp, rfl⟩))
                      have bq := ((HBQ.out.later xw).later xp).set 1 (.int .i64 n)
                      have hq5 := QAt.other ((HQ4.out.later xw).later xp) ((HBQ.out.later xw).later xp) (by decide) 1 (.int .i64 n) (by omega)
                      go_roundw
                      case rel => exact ⟨2, q4 + wl4.length, q0, n, q0, by decide, rfl, by rw [← HWZ.out]; go_num, by omega, by omega, fun _ => by omega, Lib.hid (bq.eq (by simp)), Lib.hid hq5, fun k => absurd k (by decide), fun k => absurd k (by decide), fun _ => Lib.hid (HGN.out.trans (by rw [PSt.num_b]))⟩
                      case measure => simp [intOf]
                  · have HGJ := g2 rfl
                    have hp5 := hp4 (by decide)
                    clear g0 g1 g2 hp4
                    obtain ⟨z1, z2, z3⟩ := HQ4.out.res.all
                    obtain ⟨z4, z5, z6⟩ := HQ4.out.box.all
                    obtain ⟨z7, z8, z9⟩ := HBQ.out.all
                    have hs4 := HQ4.out.size
                    have hpn9 : pt3.length ≤ 1000 := by omega
                    go_wp2_with (at_builtin; go_loud (refine wpList_append_own _ rfl _ _ 29 rfl (w.heap.size + 2) 48 j0 (.agg #[.int .i64 0, .int .i64 0]) 2 16 Tryz.underlying29 hj0 hy0 hy1 hy2 rfl (by decide) _ _ _ rfl (HQ4.out.alloc (.cells #[.int .i64 q0, .int .i64 q1] 48)).pown ⟨wr.heap.size, 0, none⟩ 1 1 [.int .i64 q0, .int .i64 q1] rfl rfl (blk_two (Blk.new _ _ _)) (two_int _ _) (by unfold maxLen; omega) (by omega) (by simp only [World.size_alloc]; omega) ?_); intro v5 w5 hown hgrow hnil; obtain ⟨g5, cap5, rfl⟩ := Go.Joins.ownsRow_form hown (by omega); have q5 := QAt.addP (q := (q0, q1)) (HQ4.out.alloc (.cells #[.int .i64 q0, .int .i64 q1] 48)) hown hgrow; have HQ5 := Lib.hid q5; obtain ⟨y4, y5, y6⟩ := (Blk.apart (HQ4.out.alloc (.cells #[.int .i64 q0, .int .i64 q1] 48)).box (HQ4.out.alloc (.cells #[.int .i64 q0, .int .i64 q1] 48)).pown (by decide) hgrow).all; clear hown hgrow hnil q5)
                    have hr9 := HRR.out
                    have b1 : k + 1 ≤ T := hkT
                    have b2 : at_ < at4 := by omega
                    have b3 : (pt3 ++ [(q0, q1)]).length ≤ at4 := by rw [List.length_append]; simp only [List.length_cons, List.length_nil]; omega
                    have b4 : T - (k + 1) = r := by omega
                    have b5 : T - (k + 1) < T - k := by omega
                    exact ⟨⟨k + 1, at4, x4, pt3 ++ [(q0, q1)], .slice (some ⟨g5, 0, none⟩) (pt3.length + 1) cap5, by go_num, b1, rfl, hat4, .inl b2, b3, Lib.hid (HGJ.out.trans (by rw [b4])), HQ5⟩, by simp [intOf]; omega⟩
              · obtain rfl : k = T := by omega
                have hd1 : decide ((k : Int) < (k : Int)) = false := by simp
                have hlt3 : at_ < at3 := by omega
                go_wp2_with (first | (go_at_call 37; (with_reducible refine (HTK.out _).mono ?_); rintro e _ ⟨rfl, xt, rfl⟩))
                refine ⟨⟨nw, at3, x3, vb ++ [(nw : Int)], pt3, .slice (some ⟨g, 0, none⟩) (vb.length + 1) cap, .slice a3 n3 c3, rfl, rfl, hat3, hn5, by rw [List.length_append]; simp only [List.length_cons, List.length_nil]; omega, hpt3, Lib.hid (by have h := HG3.out; rw [Nat.sub_self] at h; exact h), Lib.hid (HQ.out.later xt)⟩, by simp [intOf]; omega⟩
end Go.Proofs.YtjmagehfkcnjjaaGreatDoor

/-
  The document's Print.
-/
import Derived.Test.YtjmagehfkcnjjaaGreatDoorKU
import Derived.Test.YtjmagehfkcnjjaaGreatDoorKZ
import Derived.Test.YtjmagehfkcnjjaaGreatDoorFT
namespace Go.Proofs.YtjmagehfkcnjjaaGreatDoor
set_option linter.unusedVariables false
open Go.RowKit

theorem join_snoc (w : List UInt8) : ∀ P : List (List UInt8), P ≠ [] → joinB (P ++ [w]) = joinB P ++ 32 :: w := by
  intro P
  induction P with
  | nil => intro h; exact absurd rfl h
  | cons p r ih =>
    intro _
    by_cases hr : r = []
    · subst hr; rfl
    · rw [List.cons_append, joinB_cons p (r ++ [w]) (by simp), ih hr, joinB_cons p r hr, List.append_assoc]
      rfl
theorem tot_app8 (a b : List Int) : tot (a ++ b) = tot a + tot b := by simp [tot]
theorem pwords_ne (vs : List Int) (pts : List (Int × Int)) (h : vs ≠ []) : pwords vs pts ≠ [] := by
  cases vs with
  | nil => exact absurd rfl h
  | cons _ _ => unfold pwords; simp
set_option maxRecDepth 100000 in
set_option maxHeartbeats 1000000 in
theorem rprint8_bad (vs : List Int) (pts : List (Int × Int)) (vv sv : Value) (E : Int) (hE : chk vs pts = E) (h0 : E ≠ 0) (w : World) (hv : IntsAt w vv vs) (hp : PtsAt w sv pts) :
    Calls Tryz.prog 19 #[.agg #[vv, sv]] w fun e w' => e = .returned (.tuple #[.string ⟨#[]⟩, .int .i64 E]) ∧ ∃ x : Later w, w' = x.out := by
  have hck := fun v hv hp => rcheck_c vs pts vv sv v hv hp
  rw [hE] at hck
  have HCK := Lib.hid hck
  have HV := Lib.hid hv
  have HP := Lib.hid hp
  have e1 : (E != 0) = true := by simpa using h0
  have e2 : (E == 0) = false := by simpa using h0
  obtain ⟨av, cv, rfl⟩ := hv.form
  obtain ⟨ap, cp, rfl⟩ := ptsAt_form hp
  clear hck hE h0 hv hp
  go_enter Tryz.func19, Tryz.ntmps19
  go_wp2_with (go_at_call 36; refine (HCK.out _ (HV.out.alloc _) (ptsAt_under HP.out ((Below.refl _ w).alloc (Nat.le_refl _) _) (Nat.le_refl _))).mono ?_; rintro e _ ⟨rfl, x, rfl⟩)
  exact bodyPost_ret (v := .tuple #[.string ⟨#[]⟩, .int .i64 E]) (by simp [results, Tryz.results19, go_sem, *]) rfl ⟨rfl, (Later.mk_of (by repeat (first | (with_reducible assumption) | (with_reducible exact Below.refl _ _) | (with_reducible refine Later.after ?_ _) | (with_reducible refine Later.newer ?_ _) | (with_reducible refine Below.drew ?_) | (with_reducible refine Below.setCell ?_ (by first | exact Nat.le_refl _ | exact Nat.le_add_right _ _ | omega | (simp [go_sem]; done) | (simp [go_sem]; omega)) _))))⟩
set_option maxRecDepth 100000 in
set_option maxHeartbeats 4000000 in
theorem rprint8_ok (vs : List Int) (pts : List (Int × Int)) (vv sv : Value) (hE : chk vs pts = 0) (w : World) (hv : IntsAt w vv vs) (hp : PtsAt w sv pts) :
    Calls Tryz.prog 19 #[.agg #[vv, sv]] w fun e w' => e = .returned (.tuple #[.string ⟨(joinB (pwords vs pts)).toArray⟩, .int .i64 0]) ∧ ∃ x : Later w, w' = x.out := by
  obtain ⟨g512, gv, gt, gf⟩ := chk_ok hE
  have hck := fun v hv hp => rcheck_c vs pts vv sv v hv hp
  rw [hE] at hck
  have HCK := Lib.hid hck
  have HV := Lib.hid hv
  have HP := Lib.hid hp
  obtain ⟨av, cv, rfl⟩ := hv.form
  obtain ⟨ap, cp, rfl⟩ := ptsAt_form hp
  have HKV := Lib.hid (ints_cell hv).2.2
  have HKP := Lib.hid (pts_cell hp).2.2
  have HGT := Lib.hid gt
  have HGV := Lib.hid gv
  have HGF := Lib.hid gf
  have hsz : ∀ (V : List Int) (q : List (List UInt8)), (∀ v ∈ V, 1 ≤ v ∧ v ≤ 5) → tot V ≤ pts.length → V.length ≤ 512 → (∀ u ∈ q, PWord u) → q.length ≤ 10 → (joinB (pwords V pts ++ q)).length ≤ 200000 := fun V q k1 k2 k3 k4 k5 => by
    have a1 := pwords_len V pts k2
    have a2 := tot_le V
    have a3 := wlen_le (pwords V pts ++ q) (fun u hu => by
      rcases List.mem_append.1 hu with hu | hu
      · exact pwords_pw V pts k1 gf u hu
      · exact k4 u hu)
    rw [List.length_append] at a3
    have a4 := joinB_len (pwords V pts ++ q)
    omega
  have HSZ := Lib.hid hsz
  clear hck hE hv hp gt gv gf hsz
  generalize hn : vs.length = n at *
  have HN := Lib.hid hn
  clear hn
  generalize hmm : pts.length = m at *
  have HM := Lib.hid hmm
  clear hmm
  have hm3 : m ≤ 1536 := by have h1 := tot_le vs; rw [HN.out, HGT.out] at h1; omega
  go_enter Tryz.func19, Tryz.ntmps19
  go_wp2_with (go_at_call 36; refine (HCK.out _ (HV.out.alloc _) (ptsAt_under HP.out ((Below.refl _ w).alloc (Nat.le_refl _) _) (Nat.le_refl _))).mono ?_; rintro e _ ⟨rfl, x, rfl⟩)
  have q1 : Blk x.out w.heap.size 35 #[.slice av n cv, .slice ap m cp] := (by repeat (first | (with_reducible assumption) | (with_reducible refine Blk.later ?_ _) | (with_reducible refine Blk.drew ?_) | ((with_reducible refine Blk.new' ?_); (simp; done)) | (with_reducible refine Blk.alloc ?_ _)))
  have hB0 : Below w.heap.size w x.out := by repeat (first | (with_reducible assumption) | (with_reducible exact Below.refl _ _) | (with_reducible refine Later.after ?_ _) | (with_reducible refine Later.newer ?_ _) | (with_reducible refine Below.drew ?_) | (with_reducible refine Below.setCell ?_ (by first | exact Nat.le_refl _ | exact Nat.le_add_right _ _ | omega | (simp [go_sem]; done) | (simp [go_sem]; omega)) _))
  have Q1 := Lib.hid q1
  have HB0 := Lib.hid hB0
  clear q1 hB0
  generalize x.out = W0 at *
  clear x
  go_loopw [5, 6, 7] (fun s5 s6 s7 wr => ∃ k : Nat, k ≤ n ∧ s7 = .int .i64 (k : Int) ∧ s5 = .string ⟨(joinB (pwords (vs.take k) pts)).toArray⟩ ∧ s6 = .int .i64 ((tot (vs.take k) : Nat) : Int) ∧ ∃ y : Later W0, wr = y.out) (fun _ _ s7 _ => n - (intOf s7).toNat)
  case atStart => exact ⟨0, Nat.zero_le _, rfl, rfl, rfl, Later.mk_of (Below.refl _ _)⟩
  case round =>
    obtain ⟨k, hk, rfl, rfl, rfl, y, rfl⟩ := hrel
    obtain ⟨z1, z2, z3⟩ := (Q1.out.later y).all
    by_cases hlt : k < n
    · have hd1 : decide ((k : Int) < (n : Int)) = true := by simp; exact hlt
      have hd2 : decide (k < n) = true := by simp; exact hlt
      obtain ⟨b, o, rfl, hbl, hcell⟩ := HKV.out (by omega)
      obtain ⟨v, hvk⟩ : ∃ v, vs[k]? = some v := ⟨_, List.getElem?_eq_getElem (by rw [HN.out]; exact hlt)⟩
      have hvc := (HB0.out.cell (p := ⟨b, o + k, none⟩) hbl).trans (hcell k v hvk)
      have hvc0 := (y.below.cell (p := ⟨b, o + k, none⟩) (Nat.lt_of_lt_of_le hbl HB0.out.size)).trans hvc
      have lb := Nat.lt_of_lt_of_le hbl (Nat.le_trans HB0.out.size y.size_le)
      have hv15 := HGV.out v (List.mem_of_getElem? hvk)
      obtain ⟨t1, ht1⟩ : ∃ t1, t1 = tot (vs.take k) := ⟨_, rfl⟩
      obtain ⟨T, hT⟩ : ∃ T, T = tkI v := ⟨_, rfl⟩
      have htake : vs.take (k + 1) = vs.take k ++ [v] := by rw [List.take_add_one, hvk]; rfl
      have htot : tot (vs.take (k + 1)) = t1 + T := by rw [htake, tot_snoc, ht1, hT]
      have htm : t1 + T ≤ m := by
        have h2 := List.take_append_drop (k + 1) vs
        have h3 := tot_app8 (vs.take (k + 1)) (vs.drop (k + 1))
        rw [h2, HGT.out, htot] at h3
        omega
      have hT3 : T ≤ 3 := by rw [hT]; exact tkI_le v
      have hTv : tkV v = (T : Int) := by rw [hT]; unfold tkI tkV; repeat (first | split | rfl | omega)
      have htk := fun u => rtk_c v u
      rw [hTv] at htk
      have HTK := Lib.hid htk
      have hpw : pwords (vs.take (k + 1)) pts = pwords (vs.take k) pts ++ ([lett v] :: ptW ((pts.drop t1).take T)) := by rw [htake, pwords_snoc, ht1, hT]
      have hsub : ∀ u ∈ vs.take k, 1 ≤ u ∧ u ≤ 5 := fun u hu => HGV.out u (List.mem_of_mem_take hu)
      have hP9 : ∀ q : List (List UInt8), (∀ u ∈ q, PWord u) → q.length ≤ 10 → (joinB (pwords (vs.take k) pts ++ q)).length ≤ 200000 := fun q k4 k5 => HSZ.out _ q hsub (by rw [← ht1]; omega) (by rw [List.length_take]; have := HN.out; omega) k4 k5
      have hne : k ≠ 0 → pwords (vs.take k) pts ≠ [] := fun h0 => pwords_ne _ _ (fun e => by have := congrArg List.length e; rw [List.length_take, HN.out, List.length_nil] at this; omega)
      have hnil : k = 0 → pwords (vs.take k) pts = [] := fun h0 => by subst h0; rfl
      rw [← ht1]
      have hlw : PWord [lett v] := lett_pw v hv15
      obtain ⟨P, hP⟩ : ∃ P, P = pwords (vs.take k) pts := ⟨_, rfl⟩
      rw [← hP] at hpw hP9 hne hnil ⊢
      have hs0 := hP9 [] (by simp) (by decide)
      rw [List.append_nil] at hs0
      obtain ⟨S, hS⟩ : ∃ S : ByteArray, S = ⟨(joinB P).toArray⟩ := ⟨_, rfl⟩
      have hS9 : S.size ≤ 200000 := by rw [hS, ba_size]; exact hs0
      rw [← hS]
      have hcut : ∃ i j : Nat, v - 1 = (i : Int) ∧ v = (j : Int) ∧ i ≤ j ∧ j ≤ 5 ∧ 1 ≤ j ∧ (⟨#[77, 76, 81, 67, 90]⟩ : ByteArray).extract i j = ⟨#[lett v]⟩ := by
        rcases (show v = 1 ∨ v = 2 ∨ v = 3 ∨ v = 4 ∨ v = 5 by omega) with rfl | rfl | rfl | rfl | rfl
        · exact ⟨0, 1, rfl, rfl, by decide, by decide, by decide, rfl⟩
        · exact ⟨1, 2, rfl, rfl, by decide, by decide, by decide, rfl⟩
        · exact ⟨2, 3, rfl, rfl, by decide, by decide, by decide, rfl⟩
        · exact ⟨3, 4, rfl, rfl, by decide, by decide, by decide, rfl⟩
        · exact ⟨4, 5, rfl, rfl, by decide, by decide, by decide, rfl⟩
      obtain ⟨i, j, hi, hj, hij, hj5, hj1, hex⟩ := hcut
      subst hj
      have hj6 : (j : Int) ≤ 5 := by omega
      have hi6 : (i : Int) ≤ (j : Int) := by omega
      have FA : Hid (k = 0 → S ++ ⟨#[lett (j : Int)]⟩ = ⟨(joinB (P ++ [[lett (j : Int)]])).toArray⟩) := Lib.hid fun h0 => by
        rw [hS, hnil h0]; exact ba_app [] [lett (j : Int)]
      have FB : Hid (k ≠ 0 → S ++ ⟨#[32]⟩ ++ ⟨#[lett (j : Int)]⟩ = ⟨(joinB (P ++ [[lett (j : Int)]])).toArray⟩) := Lib.hid fun h0 => by
        rw [hS, join_snoc _ _ (hne h0)]
        apply ByteArray.ext
        simp
      have HPW := Lib.hid hpw
      have HP9 := Lib.hid hP9
      have HLW := Lib.hid hlw
      have HTOT := Lib.hid htot
      have HVC := Lib.hid hvc
      clear htk hpw hP9 hlw htot hsub hne hnil hs0 hcell hvk htake hv15 hTv hT ht1 hP hS hvc
      by_cases h0 : k = 0
      · subst h0
        simp only [Nat.add_zero] at hvc0
        go_wp2_with (fail)
        refine wp_region_later (by kernel_rfl) (by kernel_rfl) ?_
        repeat (go_big_quiet_step ((first | fail)))
        refine wpQuiet_nil ?_
        intro x
        have hby : Below W0.heap.size W0 x.out := by repeat (first | (with_reducible assumption) | (with_reducible exact Below.refl _ _) | (with_reducible refine Later.after ?_ _) | (with_reducible refine Later.newer ?_ _) | (with_reducible refine Below.drew ?_) | (with_reducible refine Below.setCell ?_ (by first | exact Nat.le_refl _ | exact Nat.le_add_right _ _ | omega | (simp [go_sem]; done) | (simp [go_sem]; omega)) _))
        obtain ⟨y8, hy8⟩ : ∃ y8 : Later W0, x.out = y8.out := Later.mk_of hby
        clear hby
        go_wp2_with (fail)
        rw [hy8]
        clear hy8 x
        go_loopw [5, 6, 8] (fun s5 s6 s8 wr => ∃ q : Nat, q ≤ T ∧ s8 = .int .i64 (q : Int) ∧ s6 = .int .i64 ((t1 + q : Nat) : Int) ∧ s5 = .string ⟨(joinB (P ++ ([lett (j : Int)] :: ptW ((pts.drop t1).take q)))).toArray⟩ ∧ ∃ y : Later W0, wr = y.out) (fun _ _ s8 _ => T - (intOf s8).toNat)
        case atStart => exact ⟨0, Nat.zero_le _, rfl, rfl, by rw [FA.out (by trivial)]; rfl, y8, rfl⟩
        case round =>
          clear z1 z2 z3 hvc0 lb hS9
          obtain ⟨q, hq, rfl, rfl, rfl, y2, rfl⟩ := hrel
          obtain ⟨z1, z2, z3⟩ := (Q1.out.later y2).all
          have hvc2 := (y2.below.cell (p := ⟨b, o + 0, none⟩) (Nat.lt_of_lt_of_le hbl HB0.out.size)).trans HVC.out
          have lb := Nat.lt_of_lt_of_le hbl (Nat.le_trans HB0.out.size y2.size_le)
          simp only [Nat.add_zero] at hvc2
          by_cases hqT : q < T
          · have hd3 : decide ((q : Int) < (T : Int)) = true := by simp; exact hqT
            obtain ⟨tq, htq⟩ : ∃ tq, tq = t1 + q := ⟨_, rfl⟩
            obtain ⟨⟨X, Y⟩, hXY⟩ : ∃ p, pts[tq]? = some p := ⟨_, List.getElem?_eq_getElem (by rw [HM.out]; omega)⟩
            obtain ⟨b2, o2, rfl, hb2, hc2⟩ := HKP.out (by omega)
            obtain ⟨c1, c2⟩ := hc2 tq _ hXY
            have r1 := ((HB0.out.trans (y2.below.mono HB0.out.size)).cell (p := ⟨b2, o2 + tq * 2, none⟩) hb2).trans c1
            have r2 := ((HB0.out.trans (y2.below.mono HB0.out.size)).cell (p := ⟨b2, o2 + tq * 2 + 1, none⟩) hb2).trans c2
            simp only [] at r1 r2
            have lb2 := Nat.lt_of_lt_of_le hb2 (Nat.le_trans HB0.out.size y2.size_le)
            obtain ⟨⟨x0, x9⟩, ⟨y0, y9⟩⟩ := farB_no (HGF.out (X, Y) (List.mem_of_getElem? hXY))
            simp only [] at x0 x9 y0 y9
            have hpx := fun v => rprint_l X (by omega) (by omega) v
            have hpy := fun v => rprint_l Y (by omega) (by omega) v
            have hpts : ∀ u ∈ [lett (j : Int)] :: ptW ((pts.drop t1).take q), PWord u := fun u hu => by
              rcases List.mem_cons.1 hu with rfl | hu
              · exact HLW.out
              · exact ptW_pw _ (fun p hp => HGF.out p (List.mem_of_mem_drop (List.mem_of_mem_take hp))) u hu
            have hs2 := HP9.out _ hpts (by rw [List.length_cons, ptW_len, List.length_take]; omega)
            have hx30 := prn_len30 X (by omega)
            have hy30 := prn_len30 Y (by omega)
            have hnx : joinB (P ++ ([lett (j : Int)] :: ptW ((pts.drop t1).take (q + 1)))) = joinB (P ++ ([lett (j : Int)] :: ptW ((pts.drop t1).take q))) ++ (32 :: prn X ++ 32 :: prn Y) := by
              have e1 : (pts.drop t1).take (q + 1) = (pts.drop t1).take q ++ [(X, Y)] := by rw [List.take_add_one, List.getElem?_drop, ← htq, hXY]; rfl
              rw [e1, ptW_snoc]
              have e2 : P ++ ([lett (j : Int)] :: (ptW ((pts.drop t1).take q) ++ [prn X, prn Y])) = ((P ++ ([lett (j : Int)] :: ptW ((pts.drop t1).take q))) ++ [prn X]) ++ [prn Y] := by simp
              rw [e2, join_snoc _ _ (by simp), join_snoc _ _ (by simp)]
              simp
            obtain ⟨S2, hS2⟩ : ∃ S : ByteArray, S = ⟨(joinB (P ++ ([lett (j : Int)] :: ptW ((pts.drop t1).take q)))).toArray⟩ := ⟨_, rfl⟩
            obtain ⟨PX, hPX⟩ : ∃ S : ByteArray, S = ⟨(prn X).toArray⟩ := ⟨_, rfl⟩
            obtain ⟨PY, hPY⟩ : ∃ S : ByteArray, S = ⟨(prn Y).toArray⟩ := ⟨_, rfl⟩
            have s2 : S2.size ≤ 200000 := by rw [hS2, ba_size]; exact hs2
            have sx : PX.size ≤ 30 := by rw [hPX, ba_size]; exact hx30
            have sy : PY.size ≤ 30 := by rw [hPY, ba_size]; exact hy30
            have HNX : Hid (S2 ++ ⟨#[32]⟩ ++ PX ++ ⟨#[32]⟩ ++ PY = ⟨(joinB (P ++ ([lett (j : Int)] :: ptW ((pts.drop t1).take (q + 1))))).toArray⟩) := Lib.hid (by
              rw [hnx, hS2, hPX, hPY]
              apply ByteArray.ext
              simp)
            rw [← hS2, ← htq]
            rw [← hPX] at hpx
            rw [← hPY] at hpy
            have HPX := Lib.hid hpx
            have HPY := Lib.hid hpy
            have t9 : (tq : Int) ≤ 3000 := by omega
            have t8 : tq < m := by omega
            have t7 : (tq : Int) < (m : Int) := by omega
            clear hpx hpy hnx hpts hs2 hx30 hy30 hXY hc2 c1 c2 hS2 hPX hPY
            have HTQ := Lib.hid htq
            clear htq
            go_wp2_with (first | (go_at_call 37; (with_reducible refine (HTK.out _).mono ?_); rintro e _ ⟨rfl, xt, rfl⟩))
            refine wp_region_later (by kernel_rfl) (by kernel_rfl) ?_
            repeat (go_big_quiet_step ((first | (go_at_call 24; with_reducible exact Later.call _ (HPX.out _)) | (go_at_call 24; with_reducible exact Later.call _ (HPY.out _)))))
            refine wpQuiet_nil ?_
            intro x
            go_wp2_with (fail)
            go_roundw
            case rel => exact ⟨q + 1, by omega, by go_num, by rw [HTQ.out]; go_num, by rw [HNX.out], (Later.mk_of (by repeat (first | (with_reducible assumption) | (with_reducible exact Below.refl _ _) | (with_reducible refine Later.after ?_ _) | (with_reducible refine Later.newer ?_ _) | (with_reducible refine Below.drew ?_) | (with_reducible refine Below.setCell ?_ (by first | exact Nat.le_refl _ | exact Nat.le_add_right _ _ | omega | (simp [go_sem]; done) | (simp [go_sem]; omega)) _))))⟩
            case measure => simp [intOf]; omega
          · obtain rfl : q = T := by omega
            have hd3 : decide ((q : Int) < (q : Int)) = false := by simp
            go_wp2_with (first | (go_at_call 37; (with_reducible refine (HTK.out _).mono ?_); rintro e _ ⟨rfl, xt, rfl⟩))
            refine ⟨⟨0 + 1, by omega, by first | rfl | go_num, by rw [HPW.out], by rw [HTOT.out]; go_num, (Later.mk_of (by repeat (first | (with_reducible assumption) | (with_reducible exact Below.refl _ _) | (with_reducible refine Later.after ?_ _) | (with_reducible refine Later.newer ?_ _) | (with_reducible refine Below.drew ?_) | (with_reducible refine Below.setCell ?_ (by first | exact Nat.le_refl _ | exact Nat.le_add_right _ _ | omega | (simp [go_sem]; done) | (simp [go_sem]; omega)) _))))⟩, by simp [intOf]; omega⟩
      · have h0' : decide ((0 : Int) < (k : Int)) = true := by simp; omega
        have h0'' : decide (0 < k) = true := by simp; omega
        go_wp2_with (fail)
        refine wp_region_later (by kernel_rfl) (by kernel_rfl) ?_
        repeat (go_big_quiet_step ((first | fail)))
        refine wpQuiet_nil ?_
        intro x
        have hby : Below W0.heap.size W0 x.out := by repeat (first | (with_reducible assumption) | (with_reducible exact Below.refl _ _) | (with_reducible refine Later.after ?_ _) | (with_reducible refine Later.newer ?_ _) | (with_reducible refine Below.drew ?_) | (with_reducible refine Below.setCell ?_ (by first | exact Nat.le_refl _ | exact Nat.le_add_right _ _ | omega | (simp [go_sem]; done) | (simp [go_sem]; omega)) _))
        obtain ⟨y8, hy8⟩ : ∃ y8 : Later W0, x.out = y8.out := Later.mk_of hby
        clear hby
        go_wp2_with (fail)
        rw [hy8]
        clear hy8 x
        go_loopw [5, 6, 8] (fun s5 s6 s8 wr => ∃ q : Nat, q ≤ T ∧ s8 = .int .i64 (q : Int) ∧ s6 = .int .i64 ((t1 + q : Nat) : Int) ∧ s5 = .string ⟨(joinB (P ++ ([lett (j : Int)] :: ptW ((pts.drop t1).take q)))).toArray⟩ ∧ ∃ y : Later W0, wr = y.out) (fun _ _ s8 _ => T - (intOf s8).toNat)
        case atStart => exact ⟨0, Nat.zero_le _, rfl, rfl, by rw [FB.out h0]; rfl, y8, rfl⟩
        case round =>
          clear z1 z2 z3 hvc0 lb hS9
          obtain ⟨q, hq, rfl, rfl, rfl, y2, rfl⟩ := hrel
          obtain ⟨z1, z2, z3⟩ := (Q1.out.later y2).all
          have hvc2 := (y2.below.cell (p := ⟨b, o + k, none⟩) (Nat.lt_of_lt_of_le hbl HB0.out.size)).trans HVC.out
          have lb := Nat.lt_of_lt_of_le hbl (Nat.le_trans HB0.out.size y2.size_le)
          skip
          by_cases hqT : q < T
          · have hd3 : decide ((q : Int) < (T : Int)) = true := by simp; exact hqT
            obtain ⟨tq, htq⟩ : ∃ tq, tq = t1 + q := ⟨_, rfl⟩
            obtain ⟨⟨X, Y⟩, hXY⟩ : ∃ p, pts[tq]? = some p := ⟨_, List.getElem?_eq_getElem (by rw [HM.out]; omega)⟩
            obtain ⟨b2, o2, rfl, hb2, hc2⟩ := HKP.out (by omega)
            obtain ⟨c1, c2⟩ := hc2 tq _ hXY
            have r1 := ((HB0.out.trans (y2.below.mono HB0.out.size)).cell (p := ⟨b2, o2 + tq * 2, none⟩) hb2).trans c1
            have r2 := ((HB0.out.trans (y2.below.mono HB0.out.size)).cell (p := ⟨b2, o2 + tq * 2 + 1, none⟩) hb2).trans c2
            simp only [] at r1 r2
            have lb2 := Nat.lt_of_lt_of_le hb2 (Nat.le_trans HB0.out.size y2.size_le)
            obtain ⟨⟨x0, x9⟩, ⟨y0, y9⟩⟩ := farB_no (HGF.out (X, Y) (List.mem_of_getElem? hXY))
            simp only [] at x0 x9 y0 y9
            have hpx := fun v => rprint_l X (by omega) (by omega) v
            have hpy := fun v => rprint_l Y (by omega) (by omega) v
            have hpts : ∀ u ∈ [lett (j : Int)] :: ptW ((pts.drop t1).take q), PWord u := fun u hu => by
              rcases List.mem_cons.1 hu with rfl | hu
              · exact HLW.out
              · exact ptW_pw _ (fun p hp => HGF.out p (List.mem_of_mem_drop (List.mem_of_mem_take hp))) u hu
            have hs2 := HP9.out _ hpts (by rw [List.length_cons, ptW_len, List.length_take]; omega)
            have hx30 := prn_len30 X (by omega)
            have hy30 := prn_len30 Y (by omega)
            have hnx : joinB (P ++ ([lett (j : Int)] :: ptW ((pts.drop t1).take (q + 1)))) = joinB (P ++ ([lett (j : Int)] :: ptW ((pts.drop t1).take q))) ++ (32 :: prn X ++ 32 :: prn Y) := by
              have e1 : (pts.drop t1).take (q + 1) = (pts.drop t1).take q ++ [(X, Y)] := by rw [List.take_add_one, List.getElem?_drop, ← htq, hXY]; rfl
              rw [e1, ptW_snoc]
              have e2 : P ++ ([lett (j : Int)] :: (ptW ((pts.drop t1).take q) ++ [prn X, prn Y])) = ((P ++ ([lett (j : Int)] :: ptW ((pts.drop t1).take q))) ++ [prn X]) ++ [prn Y] := by simp
              rw [e2, join_snoc _ _ (by simp), join_snoc _ _ (by simp)]
              simp
            obtain ⟨S2, hS2⟩ : ∃ S : ByteArray, S = ⟨(joinB (P ++ ([lett (j : Int)] :: ptW ((pts.drop t1).take q)))).toArray⟩ := ⟨_, rfl⟩
            obtain ⟨PX, hPX⟩ : ∃ S : ByteArray, S = ⟨(prn X).toArray⟩ := ⟨_, rfl⟩
            obtain ⟨PY, hPY⟩ : ∃ S : ByteArray, S = ⟨(prn Y).toArray⟩ := ⟨_, rfl⟩
            have s2 : S2.size ≤ 200000 := by rw [hS2, ba_size]; exact hs2
            have sx : PX.size ≤ 30 := by rw [hPX, ba_size]; exact hx30
            have sy : PY.size ≤ 30 := by rw [hPY, ba_size]; exact hy30
            have HNX : Hid (S2 ++ ⟨#[32]⟩ ++ PX ++ ⟨#[32]⟩ ++ PY = ⟨(joinB (P ++ ([lett (j : Int)] :: ptW ((pts.drop t1).take (q + 1))))).toArray⟩) := Lib.hid (by
              rw [hnx, hS2, hPX, hPY]
              apply ByteArray.ext
              simp)
            rw [← hS2, ← htq]
            rw [← hPX] at hpx
            rw [← hPY] at hpy
            have HPX := Lib.hid hpx
            have HPY := Lib.hid hpy
            have t9 : (tq : Int) ≤ 3000 := by omega
            have t8 : tq < m := by omega
            have t7 : (tq : Int) < (m : Int) := by omega
            clear hpx hpy hnx hpts hs2 hx30 hy30 hXY hc2 c1 c2 hS2 hPX hPY
            have HTQ := Lib.hid htq
            clear htq
            go_wp2_with (first | (go_at_call 37; (with_reducible refine (HTK.out _).mono ?_); rintro e _ ⟨rfl, xt, rfl⟩))
            refine wp_region_later (by kernel_rfl) (by kernel_rfl) ?_
            repeat (go_big_quiet_step ((first | (go_at_call 24; with_reducible exact Later.call _ (HPX.out _)) | (go_at_call 24; with_reducible exact Later.call _ (HPY.out _)))))
            refine wpQuiet_nil ?_
            intro x
            go_wp2_with (fail)
            go_roundw
            case rel => exact ⟨q + 1, by omega, by go_num, by rw [HTQ.out]; go_num, by rw [HNX.out], (Later.mk_of (by repeat (first | (with_reducible assumption) | (with_reducible exact Below.refl _ _) | (with_reducible refine Later.after ?_ _) | (with_reducible refine Later.newer ?_ _) | (with_reducible refine Below.drew ?_) | (with_reducible refine Below.setCell ?_ (by first | exact Nat.le_refl _ | exact Nat.le_add_right _ _ | omega | (simp [go_sem]; done) | (simp [go_sem]; omega)) _))))⟩
            case measure => simp [intOf]; omega
          · obtain rfl : q = T := by omega
            have hd3 : decide ((q : Int) < (q : Int)) = false := by simp
            go_wp2_with (first | (go_at_call 37; (with_reducible refine (HTK.out _).mono ?_); rintro e _ ⟨rfl, xt, rfl⟩))
            refine ⟨⟨k + 1, by omega, by first | rfl | go_num, by rw [HPW.out], by rw [HTOT.out]; go_num, (Later.mk_of (by repeat (first | (with_reducible assumption) | (with_reducible exact Below.refl _ _) | (with_reducible refine Later.after ?_ _) | (with_reducible refine Later.newer ?_ _) | (with_reducible refine Below.drew ?_) | (with_reducible refine Below.setCell ?_ (by first | exact Nat.le_refl _ | exact Nat.le_add_right _ _ | omega | (simp [go_sem]; done) | (simp [go_sem]; omega)) _))))⟩, by simp [intOf]; omega⟩
    · obtain rfl : k = n := by omega
      have hd1 : decide ((k : Int) < (k : Int)) = false := by simp
      have hd2 : decide (k < k) = false := by simp
      rw [List.take_of_length_le (by rw [HN.out]; exact Nat.le_refl _)]
      have hb0 := HB0.out
      go_wp2_with (fail)
      exact bodyPost_ret (v := .tuple #[.string ⟨(joinB (pwords vs pts)).toArray⟩, .int .i64 0]) (by simp [results, Tryz.results19, go_sem, *]) rfl ⟨rfl, (Later.mk_of (by repeat (first | (with_reducible assumption) | (with_reducible exact Below.refl _ _) | (with_reducible refine Later.after ?_ _) | (with_reducible refine Later.newer ?_ _) | (with_reducible refine Below.drew ?_) | (with_reducible refine Below.setCell ?_ (by first | exact Nat.le_refl _ | exact Nat.le_add_right _ _ | omega | (simp [go_sem]; done) | (simp [go_sem]; omega)) _))))⟩
theorem rprint8_c (vs : List Int) (pts : List (Int × Int)) (vv sv : Value) (w : World) (hv : IntsAt w vv vs) (hp : PtsAt w sv pts) :
    Calls Tryz.prog 19 #[.agg #[vv, sv]] w fun e w' => e = .returned (.tuple #[.string ⟨(if chk vs pts = 0 then joinB (pwords vs pts) else []).toArray⟩, .int .i64 (chk vs pts)]) ∧ ∃ x : Later w, w' = x.out := by
  by_cases h : chk vs pts = 0
  · rw [if_pos h, h]
    exact rprint8_ok vs pts vv sv h w hv hp
  · rw [if_neg h]
    exact rprint8_bad vs pts vv sv _ rfl h w hv hp
end Go.Proofs.YtjmagehfkcnjjaaGreatDoor

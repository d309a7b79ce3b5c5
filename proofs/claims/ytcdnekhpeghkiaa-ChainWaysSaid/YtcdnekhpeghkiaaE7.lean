/-
  Lengths rise, at each corner's way is the corner, and what lies ahead and behind: walked.
-/
import Derived.Test.YtcdnekhpeghkiaaE6
import Derived.Test.YtcdnekhpeghkiaaTwo
namespace Go.Proofs.Ytcdnekhpeghkiaa
set_option linter.unusedVariables false
open Go.RowKit

theorem sub_near_r (a b : Int × Int) (ha : nearP a) (hb : nearP b) (w : World) : Calls Try.prog 23 #[.agg #[.int .i64 b.1, .int .i64 b.2], .agg #[.int .i64 a.1, .int .i64 a.2]] w fun e w' => e = .returned (.agg #[.int .i64 (b.1 - a.1), .int .i64 (b.2 - a.2)]) ∧ ∃ x : Later w, w' = x.out := by
  unfold nearP at ha hb
  have h := ptSub_r b.1 b.2 a.1 a.2 w
  rw [w64_in (b.1 - a.1) (by unfold R64; omega), w64_in (b.2 - a.2) (by unfold R64; omega)] at h
  exact h
theorem len_near_r (a b : Int × Int) (ha : nearP a) (hb : nearP b) (w : World) : Calls Try.prog 22 #[.agg #[.int .i64 (b.1 - a.1), .int .i64 (b.2 - a.2)]] w fun e w' => e = .returned (.int .i64 (dst a b)) ∧ ∃ x : Later w, w' = x.out := by
  unfold nearP at ha hb
  exact ptLen_r (b.1 - a.1) (b.2 - a.2) (dst a b) w (by omega) (by omega) (by omega) (by omega) (dst_root a b)
set_option maxRecDepth 100000 in
set_option maxHeartbeats 4000000 in
theorem ways_walk (far : Int) (sv : Value) (cl : Bool) (pts : List (Int × Int)) (f0 : 0 ≤ far) (f9 : far ≤ 4294967295) (w : World) (h : PtsAt w sv pts) :
    Calls Try.prog 6 #[.agg #[sv, .bool cl], .int .u32 far] w fun e w' => e = .returned (.bool true) ∧ ∃ x : Later w, w' = x.out := by
  have hg := fun w' h' => good12_c cl pts sv w' h'
  have HPA := Lib.hid h
  cases e : gdB cl pts
  · rw [e] at hg
    have HG := Lib.hid hg
    clear hg h e
    go_enter Try.func6, Try.ntmps6
    go_wp2_with (first | (go_at_call 16; (with_reducible refine (HG.out _ (by repeat (first | (with_reducible exact HPA.out) | (with_reducible refine PtsAt.later ?_ _) | (with_reducible refine PtsAt.alloc ?_ _)))).mono ?_); rintro e _ ⟨rfl, x, rfl⟩) | (go_at_call 17; (with_reducible refine (shown_12 _).mono ?_); rintro e _ ⟨rfl, x, rfl⟩))
    exact bodyPost_ret (v := .bool true) (by simp [results, Try.results6, go_sem, *]) rfl ⟨rfl, (Later.mk_of (by repeat (first | (with_reducible assumption) | (with_reducible exact Below.refl _ _) | (with_reducible refine Later.after ?_ _) | (with_reducible refine Later.newer ?_ _) | (with_reducible refine Below.drew ?_) | (with_reducible refine Below.setCell ?_ (by first | exact Nat.le_refl _ | exact Nat.le_add_right _ _ | omega | (simp [go_sem]; done) | (simp [go_sem]; omega)) _))))⟩
  have g := gdB_is e
  rw [e] at hg
  obtain ⟨m, hm⟩ : ∃ m, g.ch.m = m := ⟨_, rfl⟩
  obtain ⟨M, hM⟩ : ∃ M, g.ch.m + 1 = M := ⟨_, rfl⟩
  have hlen := fun w' h' => lensM_c cl pts g sv w' M hM h'
  have htot := fun w' h' => total_c cl pts g sv w' h'
  have hat := fun d w' h' => at_c cl pts g sv d w' h'
  have T0 := g.ch.ln_pos g.ch.m (Nat.le_refl _)
  have T9 := g.ln_le g.ch.m
  have m9 := g.m_le
  have n1 := g.n1
  have n9 := g.n9
  have hmch : g.ch.m = mch cl pts := rfl
  rw [hm] at hmch m9 T9 T0 htot
  obtain ⟨T, hT⟩ : ∃ T, g.ch.ln m = T := ⟨_, rfl⟩
  have hT' := hT
  rw [hT] at T0 T9 htot
  have ha0 := fun w' h' => hat (-far) w' h'
  have ha9 := fun w' h' => hat (T + far) w' h'
  have eh0 : g.ch.held (-far) = 0 := by unfold Ch.held; rw [hm, hT]; omega
  have eh9 : g.ch.held (T + far) = T := by unfold Ch.held; rw [hm, hT]; omega
  have ea0 : g.ch.at 0 = cor pts 0 := g.ch.at_ln 0 (by omega)
  have ea9 : g.ch.at T = cor pts m := by rw [← hT]; exact g.ch.at_ln m (by omega)
  rw [eh0, ea0] at ha0
  rw [eh9, ea9] at ha9
  generalize g.ch.ix 0 = ix0 at *
  generalize g.ch.ix T = ix9 at *
  obtain ⟨n, hn⟩ : ∃ n, pts.length = n := ⟨_, rfl⟩
  rw [hn] at n1 n9
  have hmn : m = if cl = true ∧ 1 < n then n else n - 1 := by rw [hmch]; unfold mch; rw [hn]
  have hak : ∀ k, k ≤ m → ∃ ix : Nat, ∀ w', PtsAt w' sv pts → Calls Try.prog 19 #[.agg #[sv, .bool cl], .int .i64 (g.ch.ln k)] w' fun e w'' => e = .returned (.tuple #[.int .i64 ix, .agg #[.int .i64 (cor pts k).1, .int .i64 (cor pts k).2]]) ∧ ∃ x : Later w', w'' = x.out := fun k hk => by
    have hin : 0 ≤ g.ch.ln k ∧ g.ch.ln k ≤ g.ch.ln g.ch.m := ⟨g.ch.ln_pos k (by omega), g.ch.ln_mono _ _ (by omega) (by omega)⟩
    refine ⟨g.ch.ix (g.ch.ln k), fun w' h' => ?_⟩
    have c := hat (g.ch.ln k) w' h'
    rw [Ch.held_id g.ch _ hin.1 hin.2, g.ch.at_ln k (by omega)] at c
    exact c
  have T9' : T ≤ 214748364800 := by
    have : (m : Int) ≤ 100 := by omega
    omega
  have G := Lib.hid g
  have HG := Lib.hid hg
  have HLEN := Lib.hid hlen
  have HTOT := Lib.hid htot
  have HA0 := Lib.hid ha0
  have HA9 := Lib.hid ha9
  have HAK := Lib.hid hak
  have Hm := Lib.hid hm
  have HMM := Lib.hid hM
  have HMN := Lib.hid hmn
  have HN := Lib.hid hn
  have hMm : M = m + 1 := by omega
  have HMm := Lib.hid hMm
  have M1 : 1 ≤ M := by omega
  have hnM : n ≤ M := by rw [hMm, hmn]; split <;> omega
  clear hg hlen htot hat ha0 ha9 hak e h hmn hmch hT hT' eh0 eh9 ea0 ea9 T9 hn hM hMm
  go_enter Try.func6, Try.ntmps6
  go_upto_region 4 with (first | (go_at_call 16; (with_reducible refine (HG.out _ (by repeat (first | (with_reducible exact HPA.out) | (with_reducible refine PtsAt.later ?_ _) | (with_reducible refine PtsAt.alloc ?_ _)))).mono ?_); rintro e _ ⟨rfl, x, rfl⟩) | (go_at_call 17; (with_reducible refine (shown_12 _).mono ?_); rintro e _ ⟨rfl, x, rfl⟩) | (go_at_call 21; (with_reducible refine (HLEN.out _ (by repeat (first | (with_reducible exact HPA.out) | (with_reducible refine PtsAt.later ?_ _) | (with_reducible refine PtsAt.alloc ?_ _)))).mono ?_); rintro _ _ ⟨gl, cap, rfl, hgl, hlb, hcap, x, rfl⟩))
  have hPA : PA w sv cl pts x.out := ⟨(by repeat (first | (with_reducible assumption) | (with_reducible refine Blk.later ?_ _) | (with_reducible refine Blk.drew ?_) | ((with_reducible refine Blk.new' ?_); (simp; done)) | (with_reducible refine Blk.alloc ?_ _))), (by repeat (first | (with_reducible exact HPA.out) | (with_reducible refine PtsAt.later ?_ _) | (with_reducible refine PtsAt.alloc ?_ _))), (by repeat (first | (with_reducible assumption) | (with_reducible exact Below.refl _ _) | (with_reducible refine Later.after ?_ _) | (with_reducible refine Later.newer ?_ _) | (with_reducible refine Below.drew ?_) | (with_reducible refine Below.setCell ?_ (by first | exact Nat.le_refl _ | exact Nat.le_add_right _ _ | omega | (simp [go_sem]; done) | (simp [go_sem]; omega)) _)))⟩
  clear HPA hgl
  generalize x.out = V at *
  clear x
  obtain ⟨Bp, o, c, hsv, hc, hcm, hp⟩ := hPA.pts.ptsB (by rw [HN.out]; exact n1)
  rw [HN.out] at hsv hc
  subst hsv
  have sV := hPA.below.size
  have HPA1 := Lib.hid hPA
  have HPV := Lib.hid hPA.pts
  have HLB := Lib.hid hlb
  have HPB := Lib.hid hp
  obtain ⟨y1, y2, y3⟩ := hPA.box.all
  have lgl := hlb.lt
  have lbp := hp.lt
  clear hPA hlb hp
  go_wp2_with (fail)
  go_loopw [6] (fun u wr => ∃ k : Nat, k ≤ n ∧ u = .int .i64 k ∧ ∃ y : Later V, wr = y.out) (fun u _ => n - (intOf u).toNat)
  case atStart => exact ⟨0, by omega, rfl, ⟨V, Below.refl _ _⟩, rfl⟩
  case round =>
    obtain ⟨k, hk, rfl, y, rfl⟩ := hrel
    by_cases hkn : k < n
    · have hkM : k < M := by omega
      have d1 : decide (k < n) = true := by simp [hkn]
      have d2 : decide (k < M) = true := by simp [hkM]
      have d3 : decide ((k : Int) < n) = true := by simp; omega
      have d4 : decide ((k : Int) < M) = true := by simp; omega
      obtain ⟨ix, hax⟩ := HAK.out k (by have := HMm.out; omega)
      have q0 := HLB.out.cell k (by have := HMm.out; have := Hm.out; omega)
      rw [Nat.zero_add] at q0
      obtain ⟨Lk, hLk⟩ : ∃ L, G.out.ch.ln k = L := ⟨_, rfl⟩
      rw [hLk] at q0 hax
      obtain ⟨⟨p0, p1⟩, hpk⟩ : ∃ p, cor pts k = p := ⟨_, rfl⟩
      rw [hpk] at hax
      have HAX := Lib.hid hax
      have HLK := Lib.hid hLk
      have HPK := Lib.hid hpk
      clear hax hLk hpk
      have pty := HPV.out.later y
      go_wp2_with (fail)
      refine wp_region_two [0, 1, 2, 3, 4, 5, 6, 7, 8] 9 [10] [11] (fun g => .pointer (some ⟨g, 0, none⟩)) (.cells #[.int .i64 0, .int .i64 0] 23) (by kernel_rfl) (by kernel_rfl) (by kernel_rfl) (by kernel_rfl) (noInit_of (by kernel_rfl)) (fun y9 => ?_)
      simp only [pick, List.getElem?_cons_zero, List.getElem?_cons_succ]
      repeat (go_big_quiet_step ((first | (go_at_call 19; with_reducible exact Later.call _ (HAX.out _ (PtsAt.later (PtsAt.later pty _) _))))))
      refine wpQuiet_nil ?_
      refine ⟨(by intro o ho; obtain rfl := Option.some.inj ho; refine ⟨rfl, fun wc => ?_⟩; simp [execOp, allocPt, ptrAt]; done), ?_⟩
      intro g1
      simp only [dstOf, List.getElem?_toArray, List.getElem?_cons_succ, List.getElem?_cons_zero, Option.bind_some, Act.put, List.setIfInBounds_toArray, List.set_cons_succ, List.set_cons_zero]
      repeat (go_big_quiet_step ((first | (go_at_call 19; with_reducible exact Later.call _ (HAX.out _ (PtsAt.later (PtsAt.later pty _) _))))))
      refine wpQuiet_nil ?_
      intro x hg hx
      have hgV : V.heap.size ≤ g1 := Nat.le_trans y.size_le hg
      have gn1 : (gl = g1) = False := eq_false (by omega)
      have gn2 : (w.heap.size = g1) = False := eq_false (by omega)
      have bx0 : Blk x.out g1 23 #[.int .i64 0, .int .i64 0] := hx
      have hB6 : Below V.heap.size V x.out := y.below.trans (x.below.mono y.below.size)
      clear hx hg pty q0
      generalize x.out = W6 at *
      clear x
      obtain ⟨gg1, gg2, gg3⟩ := bx0.all
      gi_wp2
      go_wp2_with (fail)
      clear gg1 gg2 gg3
      have bg : Blk ((W6.setCell ⟨g1, 0, none⟩ (.int .i64 p0)).setCell ⟨g1, 1, none⟩ (.int .i64 p1)) g1 23 #[.int .i64 p0, .int .i64 p1] := (bx0.set 0 _).set 1 _ |>.eq (by simp)
      have hB7 : Below V.heap.size V ((W6.setCell ⟨g1, 0, none⟩ (.int .i64 p0)).setCell ⟨g1, 1, none⟩ (.int .i64 p1)) := Below.setCell (Below.setCell hB6 hgV _) hgV _
      generalize ((W6.setCell ⟨g1, 0, none⟩ (.int .i64 p0)).setCell ⟨g1, 1, none⟩ (.int .i64 p1)) = W7 at *
      clear bx0 hB6
      have hPA := HPA1.out.below' hB7
      have hlb := HLB.out.below hB7 lgl
      have hp := HPB.out.below hB7 lbp
      obtain ⟨z1, z2, z3⟩ := hPA.box.all
      obtain ⟨v1, v2, v3⟩ := bg.all
      obtain ⟨r0, r1⟩ := hp.cell k _ (cor_at pts k (by rw [HN.out]; exact hkn))
      rw [HPK.out] at r0 r1
      simp only [] at r0 r1
      have t0 := hlb.cell k (by have := HMm.out; have := Hm.out; omega)
      rw [Nat.zero_add, HLK.out] at t0
      have l1 := hlb.lt
      have l2 := hp.lt
      have HB7 := Lib.hid hB7
      clear hB7
      by_cases hk0 : k = 0
      · have k1 : decide (0 < k) = false := by simp [hk0]
        have k2 : decide ((0 : Int) < k) = false := by simp [hk0]
        clear hPA hlb hp bg hk0
        go_wp2_with (fail)
        refine wp_region_later (by kernel_rfl) (by kernel_rfl) ?_
        repeat (go_big_quiet_step ((first | fail)))
        refine wpQuiet_nil ?_
        intro x8
        go_wp2_with (fail)
        go_roundw
        case rel => exact ⟨k + 1, by omega, by go_num, Later.mk_of (HB7.out.trans (x8.below.mono HB7.out.size))⟩
        case measure => simp [intOf]; omega
      · obtain ⟨j, hj⟩ : ∃ j, k = j + 1 := ⟨k - 1, by omega⟩
        have k1 : decide (0 < k) = true := by simp; omega
        have k2 : decide ((0 : Int) < k) = true := by simp; omega
        obtain ⟨Lj, hLj⟩ : ∃ L, G.out.ch.ln j = L := ⟨_, rfl⟩
        have hjm : j < m := by have := HMm.out; omega
        have hdj : Lk = Lj + dst (cor pts j) (cor pts k) := by rw [← HLK.out, ← hLj, hj]; rfl
        have hd1 := g.ch.dp j (by have := Hm.out; omega)
        have hd2 : g.ch.d j = dst (cor pts j) (cor pts k) := by rw [hj]; rfl
        have na := G.out.near _ (cor_mem pts j (by rw [HN.out]; exact n1))
        have nb := G.out.near _ (cor_mem pts k (by rw [HN.out]; exact n1))
        have hs := fun v => sub_near_r _ _ na nb v
        have hl := fun v => len_near_r _ _ na nb v
        have hL9 : Lk ≤ 214748364800 ∧ 0 ≤ Lj := by
          have h1 := G.out.ln_le k
          have h2 := G.out.ch.ln_pos j (by have := Hm.out; omega)
          have h3 : (k : Int) ≤ 100 := by omega
          rw [HLK.out] at h1
          rw [hLj] at h2
          omega
        obtain ⟨r2, r3⟩ := hp.cell j _ (cor_at pts j (by rw [HN.out]; omega))
        have t1 := hlb.cell j (by have := HMm.out; have := Hm.out; omega)
        rw [Nat.zero_add, hLj] at t1
        rw [hd2] at hd1
        rw [HPK.out] at hs hl hdj hd1
        generalize dst (cor pts j) (p0, p1) = D at *
        generalize cor pts j = u at *
        obtain ⟨u0, u1⟩ := u
        simp only [] at r2 r3 hs hl
        have e1 : (k : Int) - 1 = (j : Int) := by omega
        have e2 : IntKind.i64.wrap ((k : Int) - 1) = (j : Int) := by rw [IntWalk.i64_in _ (by omega)]; omega
        have e3 : wrap64 ((k : Int) - 1) = (j : Int) := by unfold wrap64; omega
        have e4 : Lk - Lj = D := by omega
        have e5 : IntKind.i64.wrap (Lk - Lj) = D := by rw [IntWalk.i64_in _ (by omega)]; exact e4
        have e6 : wrap64 (Lk - Lj) = D := by unfold wrap64; omega
        have e7 : wrap64 D = D := by unfold wrap64; omega
        have e8 : IntKind.i64.wrap D = D := by rw [IntWalk.i64_in _ (by omega)]
        have e9 : decide (Lk ≤ Lj) = false := by simp; omega
        have jn : j < n := by omega
        have jM : j < M := by omega
        have j0 : (0 : Int) ≤ j := by omega
        have HS := Lib.hid hs
        have HL := Lib.hid hl
        clear hPA hlb hp bg hk0 hj hs hl hdj hd1 hd2 na nb hL9 hLj hjm
        go_wp2_with (fail)
        refine wp_region_later (by kernel_rfl) (by kernel_rfl) ?_
        repeat (go_big_quiet_step ((first | (go_at_call 23; with_reducible exact Later.call _ (HS.out _)) | (go_at_call 22; with_reducible exact Later.call _ (HL.out _)))))
        refine wpQuiet_nil ?_
        intro x8
        go_wp2_with (fail)
        go_roundw
        case rel => exact ⟨k + 1, by omega, by go_num, Later.mk_of (HB7.out.trans (x8.below.mono HB7.out.size))⟩
        case measure => simp [intOf]; omega
    · obtain rfl : k = n := by omega
      have d1 : decide (k < k) = false := by simp
      obtain ⟨j, hj⟩ : ∃ j, k = j + 1 := ⟨k - 1, by omega⟩
      have hPA := HPA1.out.below' y.below
      have hlb := HLB.out.later y
      have hpy := HPB.out.later y
      clear y1 y2 y3
      generalize y.out = U at *
      clear y
      obtain ⟨⟨c0, c1⟩, hc0⟩ : ∃ p, cor pts 0 = p := ⟨_, rfl⟩
      obtain ⟨⟨s0, s1⟩, hcj⟩ : ∃ p, cor pts j = p := ⟨_, rfl⟩
      obtain ⟨r0, r1⟩ := hpy.cell j _ (cor_at pts j (by rw [HN.out]; omega))
      obtain ⟨r2, r3⟩ := hpy.cell 0 _ (cor_at pts 0 (by rw [HN.out]; omega))
      rw [hcj] at r0 r1
      rw [hc0] at r2 r3
      simp only [Nat.zero_mul, Nat.add_zero] at r0 r1 r2 r3
      have lby := hpy.lt
      have e1 : (k : Int) - 1 = (j : Int) := by omega
      have e2 : IntKind.i64.wrap ((k : Int) - 1) = (j : Int) := by rw [IntWalk.i64_in _ (by omega)]; omega
      have e3 : wrap64 ((k : Int) - 1) = (j : Int) := by unfold wrap64; omega
      have jk : j < k := by omega
      have j0 : (0 : Int) ≤ j := by omega
      have k0 : 0 < k := by omega
      have e4 : IntKind.i64.wrap (T + far) = T + far := by rw [IntWalk.i64_in _ (by omega)]
      have e5 : wrap64 (T + far) = T + far := by unfold wrap64; omega
      have e6 : IntKind.i64.wrap (-far) = -far := by rw [IntWalk.i64_in _ (by omega)]
      have e7 : wrap64 (-far) = -far := by unfold wrap64; omega
      have g5 : decide (1 ≤ M) = true := by simp; omega
      have g6 : decide ((1 : Int) ≤ M) = true := by simp; omega
      have M0 : 0 < M := by omega
      have ha0 := HA0.out
      have ha9 := HA9.out
      rw [hc0] at ha0
      have hlast : cor pts m = if cl = true then (c0, c1) else (s0, s1) := by
        rw [HMN.out]
        cases cl
        · simp; rw [show k - 1 = j by omega]; exact hcj
        · by_cases h1 : 1 < k
          · simp [h1]; rw [← hc0, ← HN.out]; exact cor_len pts
          · simp [h1]; rw [show k - 1 = 0 by omega]; exact hc0
      rw [hlast] at ha9
      have HA0' := Lib.hid ha0
      have hpu := hPA.pts
      have hBw := hPA.below
      have HPA2 := Lib.hid hPA
      have HLB2 := Lib.hid hlb
      have HPB2 := Lib.hid hpy
      have HPV2 := Lib.hid hpu
      obtain ⟨z1, z2, z3⟩ := hPA.box.all
      have HJ := Lib.hid hj
      clear hPA hlb hpy ha0 hpu hcj hlast hj HA0
      have hd2 : (decide (k < M) = true ∧ decide ((k : Int) < M) = true) ∨ (decide (k < M) = false ∧ decide ((k : Int) < M) = false) := by
        by_cases h : k < M
        · exact .inl ⟨by simp [h], by simp; omega⟩
        · exact .inr ⟨by simp [h], by simp; omega⟩
      rcases hd2 with ⟨d2, d3⟩ | ⟨d2, d3⟩
      · cases cl
        · have HA9 := Lib.hid ha9
          clear ha9
          simp only [Bool.false_eq_true, if_false, if_true] at HA9
          go_upto_region 14 with (first | (go_at_call 19; (with_reducible refine (HA0'.out _ (by repeat (first | (with_reducible exact HPV2.out) | (with_reducible refine PtsAt.later ?_ _) | (with_reducible refine PtsAt.alloc ?_ _) | (with_reducible refine PtsAt.set ?_ _ _ (by simp))))).mono ?_); rintro e _ ⟨rfl, x, rfl⟩))
          have hBU : Below U.heap.size U (x.out.alloc (.cells #[.int .i64 c0, .int .i64 c1] 23)) := (by repeat (first | (with_reducible assumption) | (with_reducible exact Below.refl _ _) | (with_reducible refine Later.after ?_ _) | (with_reducible refine Later.newer ?_ _) | (with_reducible refine Below.drew ?_) | (with_reducible refine Below.setCell ?_ (by first | exact Nat.le_refl _ | exact Nat.le_add_right _ _ | omega | (simp [go_sem]; done) | (simp [go_sem]; omega)) _)))
          have b90 : (x.out.alloc (.cells #[.int .i64 c0, .int .i64 c1] 23)).cell? ⟨U.heap.size, 0, none⟩ = some (.int .i64 s0) := by simp [go_sem, *]
          have b91 : (x.out.alloc (.cells #[.int .i64 c0, .int .i64 c1] 23)).cell? ⟨U.heap.size, 1, none⟩ = some (.int .i64 s1) := by simp [go_sem, *]
          have b11 : Blk (x.out.alloc (.cells #[.int .i64 c0, .int .i64 c1] 23)) x.out.heap.size 23 #[.int .i64 c0, .int .i64 c1] := Blk.new _ _ _
          have lb9 : U.heap.size < (x.out.alloc (.cells #[.int .i64 c0, .int .i64 c1] 23)).heap.size := by have := x.size_le; simp only [World.size_alloc, World.size_setCell] at this ⊢; omega
          clear z1 z2 z3 r0 r1 r2 r3
          generalize x.out.heap.size = a11 at *
          generalize (x.out.alloc (.cells #[.int .i64 c0, .int .i64 c1] 23)) = V14 at *
          clear x
          have hP14 := HPA2.out.below' hBU
          have pt14 := hP14.pts
          obtain ⟨z1, z2, z3⟩ := hP14.box.all
          have HB14 := Lib.hid hBU
          have H11 := Lib.hid b11
          have HC90 := Lib.hid b90
          have HC91 := Lib.hid b91
          clear hP14 hBU b11 b90 b91
          refine wp_region_two [0, 1, 2, 3, 4, 5, 6, 7, 8, 9] 10 [11] [12] (fun g => .pointer (some ⟨g, 0, none⟩)) (.cells #[.int .i64 0, .int .i64 0] 23) (by kernel_rfl) (by kernel_rfl) (by kernel_rfl) (by kernel_rfl) (noInit_of (by kernel_rfl)) (fun y9 => ?_)
          simp only [pick, List.getElem?_cons_zero, List.getElem?_cons_succ]
          repeat (go_big_quiet_step ((first | (go_at_call 20; with_reducible exact Later.call _ (HTOT.out _ (PtsAt.later (PtsAt.later pt14 _) _))) | (go_at_call 19; with_reducible exact Later.call _ (HA9.out _ (PtsAt.later (PtsAt.later pt14 _) _))))))
          refine wpQuiet_nil ?_
          refine ⟨(by intro o ho; obtain rfl := Option.some.inj ho; refine ⟨rfl, fun wc => ?_⟩; simp [execOp, allocPt, ptrAt]; done), ?_⟩
          intro gq
          simp only [dstOf, List.getElem?_toArray, List.getElem?_cons_succ, List.getElem?_cons_zero, Option.bind_some, Act.put, List.setIfInBounds_toArray, List.set_cons_succ, List.set_cons_zero]
          repeat (go_big_quiet_step ((first | (go_at_call 20; with_reducible exact Later.call _ (HTOT.out _ (PtsAt.later (PtsAt.later pt14 _) _))) | (go_at_call 19; with_reducible exact Later.call _ (HA9.out _ (PtsAt.later (PtsAt.later pt14 _) _))))))
          refine wpQuiet_nil ?_
          intro x hgq hx
          have bx0 : Blk x.out gq 23 #[.int .i64 0, .int .i64 0] := hx
          have hB15 : Below V14.heap.size V14 x.out := x.below
          clear hx pt14 z1 z2 z3
          generalize x.out = W15 at *
          clear x
          obtain ⟨gg1, gg2, gg3⟩ := bx0.all
          gi_wp2
          go_upto_region 15 with (fail)
          clear gg1 gg2 gg3
          have bg : Blk ((W15.setCell ⟨gq, 0, none⟩ (.int .i64 s0)).setCell ⟨gq, 1, none⟩ (.int .i64 s1)) gq 23 #[.int .i64 s0, .int .i64 s1] := (bx0.set 0 _).set 1 _ |>.eq (by simp)
          have hB16 : Below V14.heap.size V14 ((W15.setCell ⟨gq, 0, none⟩ (.int .i64 s0)).setCell ⟨gq, 1, none⟩ (.int .i64 s1)) := Below.setCell (Below.setCell hB15 hgq _) hgq _
          clear bx0 hB15
          generalize ((W15.setCell ⟨gq, 0, none⟩ (.int .i64 s0)).setCell ⟨gq, 1, none⟩ (.int .i64 s1)) = W16 at *
          have hBU : Below U.heap.size U W16 := HB14.out.trans (hB16.mono HB14.out.size)
          have hP16 := HPA2.out.below' hBU
          have hl16 := HLB2.out.below hBU HLB2.out.lt
          have hp16 := HPB2.out.below hBU HPB2.out.lt
          have h11 := H11.out.below hB16 H11.out.lt
          have t90 : W16.cell? ⟨U.heap.size, 0, none⟩ = some (.int .i64 s0) := (hB16.cell (p := ⟨U.heap.size, 0, none⟩) lb9).trans HC90.out
          have t91 : W16.cell? ⟨U.heap.size, 1, none⟩ = some (.int .i64 s1) := (hB16.cell (p := ⟨U.heap.size, 1, none⟩) lb9).trans HC91.out
          obtain ⟨z1, z2, z3⟩ := hP16.box.all
          obtain ⟨v1, v2, v3⟩ := bg.all
          obtain ⟨u1, u2, u3⟩ := h11.all
          obtain ⟨r2, r3⟩ := hp16.cell 0 _ (cor_at pts 0 (by rw [HN.out]; omega))
          rw [hc0] at r2 r3
          simp only [Nat.zero_mul, Nat.add_zero] at r2 r3
          have t0 := hl16.cell 0 (by omega)
          have hl0 : G.out.ch.ln 0 = 0 := rfl
          rw [Nat.zero_add] at t0
          rw [show g.ch.ln 0 = 0 from rfl] at t0
          have l1 := hl16.lt
          have l2 := hp16.lt
          have l3 : U.heap.size < W16.heap.size := Nat.lt_of_lt_of_le lb9 hB16.size
          have hBB := hP16.below
          clear hP16 hl16 hp16 h11 bg hB16 hBU
          refine wp_region_later (by kernel_rfl) (by kernel_rfl) ?_
          repeat (go_big_quiet_step ((first | fail)))
          refine wpQuiet_nil ?_
          intro x9
          go_wp2_with (fail)
          exact bodyPost_ret (v := .bool true) (by simp [results, Try.results6, go_sem, *]) rfl ⟨rfl, (Later.mk_of (by repeat (first | (with_reducible assumption) | (with_reducible exact Below.refl _ _) | (with_reducible refine Later.after ?_ _) | (with_reducible refine Later.newer ?_ _) | (with_reducible refine Below.drew ?_) | (with_reducible refine Below.setCell ?_ (by first | exact Nat.le_refl _ | exact Nat.le_add_right _ _ | omega | (simp [go_sem]; done) | (simp [go_sem]; omega)) _))))⟩
        · have HA9 := Lib.hid ha9
          clear ha9
          simp only [Bool.false_eq_true, if_false, if_true] at HA9
          go_upto_region 14 with (first | (go_at_call 19; (with_reducible refine (HA0'.out _ (by repeat (first | (with_reducible exact HPV2.out) | (with_reducible refine PtsAt.later ?_ _) | (with_reducible refine PtsAt.alloc ?_ _) | (with_reducible refine PtsAt.set ?_ _ _ (by simp))))).mono ?_); rintro e _ ⟨rfl, x, rfl⟩))
          have hBU : Below U.heap.size U (x.out.alloc (.cells #[.int .i64 c0, .int .i64 c1] 23)) := (by repeat (first | (with_reducible assumption) | (with_reducible exact Below.refl _ _) | (with_reducible refine Later.after ?_ _) | (with_reducible refine Later.newer ?_ _) | (with_reducible refine Below.drew ?_) | (with_reducible refine Below.setCell ?_ (by first | exact Nat.le_refl _ | exact Nat.le_add_right _ _ | omega | (simp [go_sem]; done) | (simp [go_sem]; omega)) _)))
          have b90 : (x.out.alloc (.cells #[.int .i64 c0, .int .i64 c1] 23)).cell? ⟨U.heap.size, 0, none⟩ = some (.int .i64 c0) := by simp [go_sem, *]
          have b91 : (x.out.alloc (.cells #[.int .i64 c0, .int .i64 c1] 23)).cell? ⟨U.heap.size, 1, none⟩ = some (.int .i64 c1) := by simp [go_sem, *]
          have b11 : Blk (x.out.alloc (.cells #[.int .i64 c0, .int .i64 c1] 23)) x.out.heap.size 23 #[.int .i64 c0, .int .i64 c1] := Blk.new _ _ _
          have lb9 : U.heap.size < (x.out.alloc (.cells #[.int .i64 c0, .int .i64 c1] 23)).heap.size := by have := x.size_le; simp only [World.size_alloc, World.size_setCell] at this ⊢; omega
          clear z1 z2 z3 r0 r1 r2 r3
          generalize x.out.heap.size = a11 at *
          generalize (x.out.alloc (.cells #[.int .i64 c0, .int .i64 c1] 23)) = V14 at *
          clear x
          have hP14 := HPA2.out.below' hBU
          have pt14 := hP14.pts
          obtain ⟨z1, z2, z3⟩ := hP14.box.all
          have HB14 := Lib.hid hBU
          have H11 := Lib.hid b11
          have HC90 := Lib.hid b90
          have HC91 := Lib.hid b91
          clear hP14 hBU b11 b90 b91
          refine wp_region_two [0, 1, 2, 3, 4, 5, 6, 7, 8, 9] 10 [11] [12] (fun g => .pointer (some ⟨g, 0, none⟩)) (.cells #[.int .i64 0, .int .i64 0] 23) (by kernel_rfl) (by kernel_rfl) (by kernel_rfl) (by kernel_rfl) (noInit_of (by kernel_rfl)) (fun y9 => ?_)
          simp only [pick, List.getElem?_cons_zero, List.getElem?_cons_succ]
          repeat (go_big_quiet_step ((first | (go_at_call 20; with_reducible exact Later.call _ (HTOT.out _ (PtsAt.later (PtsAt.later pt14 _) _))) | (go_at_call 19; with_reducible exact Later.call _ (HA9.out _ (PtsAt.later (PtsAt.later pt14 _) _))))))
          refine wpQuiet_nil ?_
          refine ⟨(by intro o ho; obtain rfl := Option.some.inj ho; refine ⟨rfl, fun wc => ?_⟩; simp [execOp, allocPt, ptrAt]; done), ?_⟩
          intro gq
          simp only [dstOf, List.getElem?_toArray, List.getElem?_cons_succ, List.getElem?_cons_zero, Option.bind_some, Act.put, List.setIfInBounds_toArray, List.set_cons_succ, List.set_cons_zero]
          repeat (go_big_quiet_step ((first | (go_at_call 20; with_reducible exact Later.call _ (HTOT.out _ (PtsAt.later (PtsAt.later pt14 _) _))) | (go_at_call 19; with_reducible exact Later.call _ (HA9.out _ (PtsAt.later (PtsAt.later pt14 _) _))))))
          refine wpQuiet_nil ?_
          intro x hgq hx
          have bx0 : Blk x.out gq 23 #[.int .i64 0, .int .i64 0] := hx
          have hB15 : Below V14.heap.size V14 x.out := x.below
          clear hx pt14 z1 z2 z3
          generalize x.out = W15 at *
          clear x
          obtain ⟨gg1, gg2, gg3⟩ := bx0.all
          gi_wp2
          go_upto_region 15 with (fail)
          clear gg1 gg2 gg3
          have bg : Blk ((W15.setCell ⟨gq, 0, none⟩ (.int .i64 c0)).setCell ⟨gq, 1, none⟩ (.int .i64 c1)) gq 23 #[.int .i64 c0, .int .i64 c1] := (bx0.set 0 _).set 1 _ |>.eq (by simp)
          have hB16 : Below V14.heap.size V14 ((W15.setCell ⟨gq, 0, none⟩ (.int .i64 c0)).setCell ⟨gq, 1, none⟩ (.int .i64 c1)) := Below.setCell (Below.setCell hB15 hgq _) hgq _
          clear bx0 hB15
          generalize ((W15.setCell ⟨gq, 0, none⟩ (.int .i64 c0)).setCell ⟨gq, 1, none⟩ (.int .i64 c1)) = W16 at *
          have hBU : Below U.heap.size U W16 := HB14.out.trans (hB16.mono HB14.out.size)
          have hP16 := HPA2.out.below' hBU
          have hl16 := HLB2.out.below hBU HLB2.out.lt
          have hp16 := HPB2.out.below hBU HPB2.out.lt
          have h11 := H11.out.below hB16 H11.out.lt
          have t90 : W16.cell? ⟨U.heap.size, 0, none⟩ = some (.int .i64 c0) := (hB16.cell (p := ⟨U.heap.size, 0, none⟩) lb9).trans HC90.out
          have t91 : W16.cell? ⟨U.heap.size, 1, none⟩ = some (.int .i64 c1) := (hB16.cell (p := ⟨U.heap.size, 1, none⟩) lb9).trans HC91.out
          obtain ⟨z1, z2, z3⟩ := hP16.box.all
          obtain ⟨v1, v2, v3⟩ := bg.all
          obtain ⟨u1, u2, u3⟩ := h11.all
          obtain ⟨r2, r3⟩ := hp16.cell 0 _ (cor_at pts 0 (by rw [HN.out]; omega))
          rw [hc0] at r2 r3
          simp only [Nat.zero_mul, Nat.add_zero] at r2 r3
          have t0 := hl16.cell 0 (by omega)
          have hl0 : G.out.ch.ln 0 = 0 := rfl
          rw [Nat.zero_add] at t0
          rw [show g.ch.ln 0 = 0 from rfl] at t0
          have l1 := hl16.lt
          have l2 := hp16.lt
          have l3 : U.heap.size < W16.heap.size := Nat.lt_of_lt_of_le lb9 hB16.size
          have hBB := hP16.below
          clear hP16 hl16 hp16 h11 bg hB16 hBU
          refine wp_region_later (by kernel_rfl) (by kernel_rfl) ?_
          repeat (go_big_quiet_step ((first | fail)))
          refine wpQuiet_nil ?_
          intro x9
          go_wp2_with (fail)
          exact bodyPost_ret (v := .bool true) (by simp [results, Try.results6, go_sem, *]) rfl ⟨rfl, (Later.mk_of (by repeat (first | (with_reducible assumption) | (with_reducible exact Below.refl _ _) | (with_reducible refine Later.after ?_ _) | (with_reducible refine Later.newer ?_ _) | (with_reducible refine Below.drew ?_) | (with_reducible refine Below.setCell ?_ (by first | exact Nat.le_refl _ | exact Nat.le_add_right _ _ | omega | (simp [go_sem]; done) | (simp [go_sem]; omega)) _))))⟩
      · cases cl
        · have HA9 := Lib.hid ha9
          clear ha9
          simp only [Bool.false_eq_true, if_false, if_true] at HA9
          go_upto_region 14 with (first | (go_at_call 19; (with_reducible refine (HA0'.out _ (by repeat (first | (with_reducible exact HPV2.out) | (with_reducible refine PtsAt.later ?_ _) | (with_reducible refine PtsAt.alloc ?_ _) | (with_reducible refine PtsAt.set ?_ _ _ (by simp))))).mono ?_); rintro e _ ⟨rfl, x, rfl⟩))
          have hBU : Below U.heap.size U (x.out.alloc (.cells #[.int .i64 c0, .int .i64 c1] 23)) := (by repeat (first | (with_reducible assumption) | (with_reducible exact Below.refl _ _) | (with_reducible refine Later.after ?_ _) | (with_reducible refine Later.newer ?_ _) | (with_reducible refine Below.drew ?_) | (with_reducible refine Below.setCell ?_ (by first | exact Nat.le_refl _ | exact Nat.le_add_right _ _ | omega | (simp [go_sem]; done) | (simp [go_sem]; omega)) _)))
          have b90 : (x.out.alloc (.cells #[.int .i64 c0, .int .i64 c1] 23)).cell? ⟨U.heap.size, 0, none⟩ = some (.int .i64 s0) := by simp [go_sem, *]
          have b91 : (x.out.alloc (.cells #[.int .i64 c0, .int .i64 c1] 23)).cell? ⟨U.heap.size, 1, none⟩ = some (.int .i64 s1) := by simp [go_sem, *]
          have b11 : Blk (x.out.alloc (.cells #[.int .i64 c0, .int .i64 c1] 23)) x.out.heap.size 23 #[.int .i64 c0, .int .i64 c1] := Blk.new _ _ _
          have lb9 : U.heap.size < (x.out.alloc (.cells #[.int .i64 c0, .int .i64 c1] 23)).heap.size := by have := x.size_le; simp only [World.size_alloc, World.size_setCell] at this ⊢; omega
          clear z1 z2 z3 r0 r1 r2 r3
          generalize x.out.heap.size = a11 at *
          generalize (x.out.alloc (.cells #[.int .i64 c0, .int .i64 c1] 23)) = V14 at *
          clear x
          have hP14 := HPA2.out.below' hBU
          have pt14 := hP14.pts
          obtain ⟨z1, z2, z3⟩ := hP14.box.all
          have HB14 := Lib.hid hBU
          have H11 := Lib.hid b11
          have HC90 := Lib.hid b90
          have HC91 := Lib.hid b91
          clear hP14 hBU b11 b90 b91
          refine wp_region_two [0, 1, 2, 3, 4, 5, 6, 7, 8, 9] 10 [11] [12] (fun g => .pointer (some ⟨g, 0, none⟩)) (.cells #[.int .i64 0, .int .i64 0] 23) (by kernel_rfl) (by kernel_rfl) (by kernel_rfl) (by kernel_rfl) (noInit_of (by kernel_rfl)) (fun y9 => ?_)
          simp only [pick, List.getElem?_cons_zero, List.getElem?_cons_succ]
          repeat (go_big_quiet_step ((first | (go_at_call 20; with_reducible exact Later.call _ (HTOT.out _ (PtsAt.later (PtsAt.later pt14 _) _))) | (go_at_call 19; with_reducible exact Later.call _ (HA9.out _ (PtsAt.later (PtsAt.later pt14 _) _))))))
          refine wpQuiet_nil ?_
          refine ⟨(by intro o ho; obtain rfl := Option.some.inj ho; refine ⟨rfl, fun wc => ?_⟩; simp [execOp, allocPt, ptrAt]; done), ?_⟩
          intro gq
          simp only [dstOf, List.getElem?_toArray, List.getElem?_cons_succ, List.getElem?_cons_zero, Option.bind_some, Act.put, List.setIfInBounds_toArray, List.set_cons_succ, List.set_cons_zero]
          repeat (go_big_quiet_step ((first | (go_at_call 20; with_reducible exact Later.call _ (HTOT.out _ (PtsAt.later (PtsAt.later pt14 _) _))) | (go_at_call 19; with_reducible exact Later.call _ (HA9.out _ (PtsAt.later (PtsAt.later pt14 _) _))))))
          refine wpQuiet_nil ?_
          intro x hgq hx
          have bx0 : Blk x.out gq 23 #[.int .i64 0, .int .i64 0] := hx
          have hB15 : Below V14.heap.size V14 x.out := x.below
          clear hx pt14 z1 z2 z3
          generalize x.out = W15 at *
          clear x
          obtain ⟨gg1, gg2, gg3⟩ := bx0.all
          gi_wp2
          go_upto_region 15 with (fail)
          clear gg1 gg2 gg3
          have bg : Blk ((W15.setCell ⟨gq, 0, none⟩ (.int .i64 s0)).setCell ⟨gq, 1, none⟩ (.int .i64 s1)) gq 23 #[.int .i64 s0, .int .i64 s1] := (bx0.set 0 _).set 1 _ |>.eq (by simp)
          have hB16 : Below V14.heap.size V14 ((W15.setCell ⟨gq, 0, none⟩ (.int .i64 s0)).setCell ⟨gq, 1, none⟩ (.int .i64 s1)) := Below.setCell (Below.setCell hB15 hgq _) hgq _
          clear bx0 hB15
          generalize ((W15.setCell ⟨gq, 0, none⟩ (.int .i64 s0)).setCell ⟨gq, 1, none⟩ (.int .i64 s1)) = W16 at *
          have hBU : Below U.heap.size U W16 := HB14.out.trans (hB16.mono HB14.out.size)
          have hP16 := HPA2.out.below' hBU
          have hl16 := HLB2.out.below hBU HLB2.out.lt
          have hp16 := HPB2.out.below hBU HPB2.out.lt
          have h11 := H11.out.below hB16 H11.out.lt
          have t90 : W16.cell? ⟨U.heap.size, 0, none⟩ = some (.int .i64 s0) := (hB16.cell (p := ⟨U.heap.size, 0, none⟩) lb9).trans HC90.out
          have t91 : W16.cell? ⟨U.heap.size, 1, none⟩ = some (.int .i64 s1) := (hB16.cell (p := ⟨U.heap.size, 1, none⟩) lb9).trans HC91.out
          obtain ⟨z1, z2, z3⟩ := hP16.box.all
          obtain ⟨v1, v2, v3⟩ := bg.all
          obtain ⟨u1, u2, u3⟩ := h11.all
          obtain ⟨r2, r3⟩ := hp16.cell 0 _ (cor_at pts 0 (by rw [HN.out]; omega))
          rw [hc0] at r2 r3
          simp only [Nat.zero_mul, Nat.add_zero] at r2 r3
          have t0 := hl16.cell 0 (by omega)
          have hl0 : G.out.ch.ln 0 = 0 := rfl
          rw [Nat.zero_add] at t0
          rw [show g.ch.ln 0 = 0 from rfl] at t0
          have l1 := hl16.lt
          have l2 := hp16.lt
          have l3 : U.heap.size < W16.heap.size := Nat.lt_of_lt_of_le lb9 hB16.size
          have hBB := hP16.below
          clear hP16 hl16 hp16 h11 bg hB16 hBU
          refine wp_region_later (by kernel_rfl) (by kernel_rfl) ?_
          repeat (go_big_quiet_step ((first | fail)))
          refine wpQuiet_nil ?_
          intro x9
          go_wp2_with (fail)
          exact bodyPost_ret (v := .bool true) (by simp [results, Try.results6, go_sem, *]) rfl ⟨rfl, (Later.mk_of (by repeat (first | (with_reducible assumption) | (with_reducible exact Below.refl _ _) | (with_reducible refine Later.after ?_ _) | (with_reducible refine Later.newer ?_ _) | (with_reducible refine Below.drew ?_) | (with_reducible refine Below.setCell ?_ (by first | exact Nat.le_refl _ | exact Nat.le_add_right _ _ | omega | (simp [go_sem]; done) | (simp [go_sem]; omega)) _))))⟩
        · have HA9 := Lib.hid ha9
          clear ha9
          simp only [Bool.false_eq_true, if_false, if_true] at HA9
          go_upto_region 14 with (first | (go_at_call 19; (with_reducible refine (HA0'.out _ (by repeat (first | (with_reducible exact HPV2.out) | (with_reducible refine PtsAt.later ?_ _) | (with_reducible refine PtsAt.alloc ?_ _) | (with_reducible refine PtsAt.set ?_ _ _ (by simp))))).mono ?_); rintro e _ ⟨rfl, x, rfl⟩))
          have hBU : Below U.heap.size U (x.out.alloc (.cells #[.int .i64 c0, .int .i64 c1] 23)) := (by repeat (first | (with_reducible assumption) | (with_reducible exact Below.refl _ _) | (with_reducible refine Later.after ?_ _) | (with_reducible refine Later.newer ?_ _) | (with_reducible refine Below.drew ?_) | (with_reducible refine Below.setCell ?_ (by first | exact Nat.le_refl _ | exact Nat.le_add_right _ _ | omega | (simp [go_sem]; done) | (simp [go_sem]; omega)) _)))
          have b90 : (x.out.alloc (.cells #[.int .i64 c0, .int .i64 c1] 23)).cell? ⟨U.heap.size, 0, none⟩ = some (.int .i64 c0) := by simp [go_sem, *]
          have b91 : (x.out.alloc (.cells #[.int .i64 c0, .int .i64 c1] 23)).cell? ⟨U.heap.size, 1, none⟩ = some (.int .i64 c1) := by simp [go_sem, *]
          have b11 : Blk (x.out.alloc (.cells #[.int .i64 c0, .int .i64 c1] 23)) x.out.heap.size 23 #[.int .i64 c0, .int .i64 c1] := Blk.new _ _ _
          have lb9 : U.heap.size < (x.out.alloc (.cells #[.int .i64 c0, .int .i64 c1] 23)).heap.size := by have := x.size_le; simp only [World.size_alloc, World.size_setCell] at this ⊢; omega
          clear z1 z2 z3 r0 r1 r2 r3
          generalize x.out.heap.size = a11 at *
          generalize (x.out.alloc (.cells #[.int .i64 c0, .int .i64 c1] 23)) = V14 at *
          clear x
          have hP14 := HPA2.out.below' hBU
          have pt14 := hP14.pts
          obtain ⟨z1, z2, z3⟩ := hP14.box.all
          have HB14 := Lib.hid hBU
          have H11 := Lib.hid b11
          have HC90 := Lib.hid b90
          have HC91 := Lib.hid b91
          clear hP14 hBU b11 b90 b91
          refine wp_region_two [0, 1, 2, 3, 4, 5, 6, 7, 8, 9] 10 [11] [12] (fun g => .pointer (some ⟨g, 0, none⟩)) (.cells #[.int .i64 0, .int .i64 0] 23) (by kernel_rfl) (by kernel_rfl) (by kernel_rfl) (by kernel_rfl) (noInit_of (by kernel_rfl)) (fun y9 => ?_)
          simp only [pick, List.getElem?_cons_zero, List.getElem?_cons_succ]
          repeat (go_big_quiet_step ((first | (go_at_call 20; with_reducible exact Later.call _ (HTOT.out _ (PtsAt.later (PtsAt.later pt14 _) _))) | (go_at_call 19; with_reducible exact Later.call _ (HA9.out _ (PtsAt.later (PtsAt.later pt14 _) _))))))
          refine wpQuiet_nil ?_
          refine ⟨(by intro o ho; obtain rfl := Option.some.inj ho; refine ⟨rfl, fun wc => ?_⟩; simp [execOp, allocPt, ptrAt]; done), ?_⟩
          intro gq
          simp only [dstOf, List.getElem?_toArray, List.getElem?_cons_succ, List.getElem?_cons_zero, Option.bind_some, Act.put, List.setIfInBounds_toArray, List.set_cons_succ, List.set_cons_zero]
          repeat (go_big_quiet_step ((first | (go_at_call 20; with_reducible exact Later.call _ (HTOT.out _ (PtsAt.later (PtsAt.later pt14 _) _))) | (go_at_call 19; with_reducible exact Later.call _ (HA9.out _ (PtsAt.later (PtsAt.later pt14 _) _))))))
          refine wpQuiet_nil ?_
          intro x hgq hx
          have bx0 : Blk x.out gq 23 #[.int .i64 0, .int .i64 0] := hx
          have hB15 : Below V14.heap.size V14 x.out := x.below
          clear hx pt14 z1 z2 z3
          generalize x.out = W15 at *
          clear x
          obtain ⟨gg1, gg2, gg3⟩ := bx0.all
          gi_wp2
          go_upto_region 15 with (fail)
          clear gg1 gg2 gg3
          have bg : Blk ((W15.setCell ⟨gq, 0, none⟩ (.int .i64 c0)).setCell ⟨gq, 1, none⟩ (.int .i64 c1)) gq 23 #[.int .i64 c0, .int .i64 c1] := (bx0.set 0 _).set 1 _ |>.eq (by simp)
          have hB16 : Below V14.heap.size V14 ((W15.setCell ⟨gq, 0, none⟩ (.int .i64 c0)).setCell ⟨gq, 1, none⟩ (.int .i64 c1)) := Below.setCell (Below.setCell hB15 hgq _) hgq _
          clear bx0 hB15
          generalize ((W15.setCell ⟨gq, 0, none⟩ (.int .i64 c0)).setCell ⟨gq, 1, none⟩ (.int .i64 c1)) = W16 at *
          have hBU : Below U.heap.size U W16 := HB14.out.trans (hB16.mono HB14.out.size)
          have hP16 := HPA2.out.below' hBU
          have hl16 := HLB2.out.below hBU HLB2.out.lt
          have hp16 := HPB2.out.below hBU HPB2.out.lt
          have h11 := H11.out.below hB16 H11.out.lt
          have t90 : W16.cell? ⟨U.heap.size, 0, none⟩ = some (.int .i64 c0) := (hB16.cell (p := ⟨U.heap.size, 0, none⟩) lb9).trans HC90.out
          have t91 : W16.cell? ⟨U.heap.size, 1, none⟩ = some (.int .i64 c1) := (hB16.cell (p := ⟨U.heap.size, 1, none⟩) lb9).trans HC91.out
          obtain ⟨z1, z2, z3⟩ := hP16.box.all
          obtain ⟨v1, v2, v3⟩ := bg.all
          obtain ⟨u1, u2, u3⟩ := h11.all
          obtain ⟨r2, r3⟩ := hp16.cell 0 _ (cor_at pts 0 (by rw [HN.out]; omega))
          rw [hc0] at r2 r3
          simp only [Nat.zero_mul, Nat.add_zero] at r2 r3
          have t0 := hl16.cell 0 (by omega)
          have hl0 : G.out.ch.ln 0 = 0 := rfl
          rw [Nat.zero_add] at t0
          rw [show g.ch.ln 0 = 0 from rfl] at t0
          have l1 := hl16.lt
          have l2 := hp16.lt
          have l3 : U.heap.size < W16.heap.size := Nat.lt_of_lt_of_le lb9 hB16.size
          have hBB := hP16.below
          clear hP16 hl16 hp16 h11 bg hB16 hBU
          refine wp_region_later (by kernel_rfl) (by kernel_rfl) ?_
          repeat (go_big_quiet_step ((first | fail)))
          refine wpQuiet_nil ?_
          intro x9
          go_wp2_with (fail)
          exact bodyPost_ret (v := .bool true) (by simp [results, Try.results6, go_sem, *]) rfl ⟨rfl, (Later.mk_of (by repeat (first | (with_reducible assumption) | (with_reducible exact Below.refl _ _) | (with_reducible refine Later.after ?_ _) | (with_reducible refine Later.newer ?_ _) | (with_reducible refine Below.drew ?_) | (with_reducible refine Below.setCell ?_ (by first | exact Nat.le_refl _ | exact Nat.le_add_right _ _ | omega | (simp [go_sem]; done) | (simp [go_sem]; omega)) _))))⟩
end Go.Proofs.Ytcdnekhpeghkiaa

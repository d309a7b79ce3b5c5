/-
  A taker takes a verb: a subpath is closed.
-/
import Derived.Test.YtcdnekhpeghkiaaQF
namespace Go.Proofs.Ytcdnekhpeghkiaa
set_option linter.unusedVariables false
open Go.RowKit



set_option maxRecDepth 100000 in
set_option maxHeartbeats 4000000 in
theorem take_close_same (w : World) (t B Bp o m c : Nat) (vv v : Value) (gg cgg : Nat) (a b s0 s1 : Int) (l : List (SubP × Value)) (s : SubP) (n sn : Nat) (hn : l.length = n) (hsn : s.segs.length = sn) (n9 : n ≤ 1000) (sn9 : sn ≤ 1000) (m9 : m ≤ 1000000)
    (hb : Blk w t 93 #[vv, .slice (some ⟨Bp, o, none⟩) m c, (.slice (some ⟨gg, 0, none⟩) (n + 1) cgg), .int .i64 a, .int .i64 b]) (hc : m ≤ c) (c9 : c ≤ maxLen) (tB : t < B) (pt : Bp < t) (Bw : B ≤ w.heap.size)
    (hs : Subs w B (.slice (some ⟨gg, 0, none⟩) (n + 1) cgg) (l ++ [(s, v)])) (hst : s.st = (s0, s1)) (h0 : a = s0) (h1 : b = s1) :
    Calls Try.prog 46 #[.pointer (some ⟨t, 0, none⟩), .int .i64 5] w fun e w' => e = .returned (.tuple #[]) ∧ Blk w' t 93 #[vv, .slice (some ⟨Bp, o, none⟩) m c, (.slice (some ⟨gg, 0, none⟩) (n + 1) cgg), .int .i64 a, .int .i64 b] ∧ Subs w' B (.slice (some ⟨gg, 0, none⟩) (n + 1) cgg) (l ++ [(⟨s.st, s.segs, true⟩, v)]) ∧ Below t w w' := by
  skip
  obtain ⟨i0, hi0, hz0, hz1, hz2⟩ := infoSeg
  have f0 : w.cell? ⟨t, 0, none⟩ = some vv := by rw [hb.cell]; rfl
  have f1 : w.cell? ⟨t, 1, none⟩ = some (.slice (some ⟨Bp, o, none⟩) m c) := by rw [hb.cell]; rfl
  have f2 : w.cell? ⟨t, 2, none⟩ = some (.slice (some ⟨gg, 0, none⟩) (n + 1) cgg) := by rw [hb.cell]; rfl
  have f3 : w.cell? ⟨t, 3, none⟩ = some (.int .i64 a) := by rw [hb.cell]; rfl
  have f4 : w.cell? ⟨t, 4, none⟩ = some (.int .i64 b) := by rw [hb.cell]; rfl
  have g1 : w.frozen? ⟨t, 1, none⟩ = false := hb.frozen 1
  have lt := hb.lt
  have lp : Bp < w.heap.size := by omega
  have ht := fun v => tk_c 5 v
  rw [show tkV 5 = 0 from rfl] at ht
  have hla := fun W' hW' => last_c vv (.slice (some ⟨Bp, o, none⟩) m c) (.int .i64 a) (.int .i64 b) gg n cgg t W' hW' (by omega)
  unfold maxLen at c9
  have HB := Lib.hid hb
  have HS := Lib.hid hs
  have HN := Lib.hid hn
  have HSN := Lib.hid hsn
  have HT := Lib.hid ht
  have HST := Lib.hid hst
  have HLA := Lib.hid hla
  clear hb hs hn ht hsn hst hla
  go_enter Try.func46, Try.ntmps46
  go_wp2_with (fail)
  refine wp_region_later (by kernel_rfl) (by kernel_rfl) ?_
  repeat (go_big_quiet_step ((first | (go_at_call 64; with_reducible exact Later.call _ (HT.out _)))))
  refine wpQuiet_nil ?_
  intro x
  go_upto_region 9 with (fail)
  obtain ⟨W1, hW1⟩ : ∃ W1, W1 = x.out.setCell ⟨t, 1, none⟩ (.slice (some ⟨Bp, o, none⟩) m c) := ⟨_, rfl⟩
  rw [← hW1]
  have k1 : Blk W1 t 93 #[vv, .slice (some ⟨Bp, o, none⟩) m c, (.slice (some ⟨gg, 0, none⟩) (n + 1) cgg), .int .i64 a, .int .i64 b] := by rw [hW1]; exact ((HB.out.later x).set 1 _).eq (by simp)
  have s1' : Subs W1 B (.slice (some ⟨gg, 0, none⟩) (n + 1) cgg) (l ++ [(s, v)]) := by rw [hW1]; exact (HS.out.later x).other tB
  have b1 : Below t w W1 := by rw [hW1]; exact Below.setCell (x.below.mono (Nat.le_of_lt lt)) (Nat.le_refl _) _
  have Bw1 : B ≤ W1.heap.size := by rw [hW1]; have := x.size_le; simp only [World.size_setCell]; omega
  obtain ⟨lc1, lz1, lB1, lg1⟩ := s1'.lastCells
  have e13 : W1.cell? ⟨gg, n * 4 + 3, none⟩ = some (.bool s.cl) := by have := lc1 3 (by omega); rw [HN.out] at this; exact this
  have z13 := lz1 (n * 4 + 3)
  have K1 := Lib.hid k1
  have HS1 := Lib.hid s1'
  have HB1 := Lib.hid b1
  clear k1 s1' b1 hW1 x f0 f1 f2 f3 f4 g1 lc1 lz1
  go_upto_region 11 with (go_at_call 68; (with_reducible refine (HLA.out _ K1.out).mono ?_); rintro e _ ⟨rfl, x, rfl⟩)
  obtain ⟨W2, hW2⟩ : ∃ W2, W2 = x.out.setCell ⟨gg, n * 4 + 3, none⟩ (.bool true) := ⟨_, rfl⟩
  rw [← hW2]
  have tg : t ≠ gg := by omega
  have k2 : Blk W2 t 93 #[vv, .slice (some ⟨Bp, o, none⟩) m c, (.slice (some ⟨gg, 0, none⟩) (n + 1) cgg), .int .i64 a, .int .i64 b] := by rw [hW2]; exact (K1.out.later x).other _ _ tg
  have s2 : Subs W2 B (.slice (some ⟨gg, 0, none⟩) (n + 1) cgg) (l ++ [(⟨s.st, s.segs, true⟩, v)]) := by rw [hW2, ← HN.out]; exact Subs.close (by rw [HN.out]; exact HS1.out.later x) (by rw [HN.out])
  have b2 : Below t w W2 := by rw [hW2]; exact Below.setCell (HB1.out.trans (x.below.mono (by omega))) (by show t ≤ gg; omega) _
  have Bw2 : B ≤ W2.heap.size := by rw [hW2]; have := x.size_le; simp only [World.size_setCell]; omega
  obtain ⟨lc2, lz2, lB2, lg2⟩ := s2.lastCells
  have e20 : W2.cell? ⟨gg, n * 4, none⟩ = some (.int .i64 s0) := by have := lc2 0 (by omega); rw [HN.out] at this; rw [show n * 4 = n * 4 + 0 from rfl, this]; simp [subV, HST.out]
  have e21 : W2.cell? ⟨gg, n * 4 + 1, none⟩ = some (.int .i64 s1) := by have := lc2 1 (by omega); rw [HN.out] at this; rw [this]; simp [subV, HST.out]
  have e22 : W2.cell? ⟨gg, n * 4 + 2, none⟩ = some v := by have := lc2 2 (by omega); rw [HN.out] at this; exact this
  have z22 := lz2 (n * 4 + 2)
  have h23 : W2.cell? ⟨t, 3, none⟩ = some (.int .i64 a) := by rw [k2.cell]; rfl
  have h24 : W2.cell? ⟨t, 4, none⟩ = some (.int .i64 b) := by rw [k2.cell]; rfl
  have lt2 := k2.lt
  have ne2 := s2.rowNe
  have hv2 := s2.rows (⟨s.st, s.segs, true⟩, v) (by simp)
  simp only [] at hv2
  rw [HSN.out] at hv2
  have K2 := Lib.hid k2
  have HS2 := Lib.hid s2
  have HB2 := Lib.hid b2
  have HV2 := Lib.hid hv2
  have NE := Lib.hid ne2
  clear k2 s2 b2 hW2 lc2 lz2 hv2 ne2 x e13 z13
  refine wp_region_later (by kernel_rfl) (by kernel_rfl) ?_
  repeat (go_big_quiet_step ((first | fail)))
  refine wpQuiet_nil ?_
  intro x
  subst h0
  subst h1
  go_wp2_with (fail)
  refine bodyPost_ret (v := .tuple #[]) (by simp [results, Try.results46, go_sem]) rfl ⟨rfl, K2.out.later x, HS2.out.later x, HB2.out.trans (x.below.mono (by omega))⟩


set_option maxRecDepth 100000 in
set_option maxHeartbeats 4000000 in
theorem take_close_d1 (w : World) (t B Bp o m c : Nat) (vv v : Value) (gg cgg : Nat) (a b s0 s1 : Int) (l : List (SubP × Value)) (s : SubP) (n sn : Nat) (hn : l.length = n) (hsn : s.segs.length = sn) (n9 : n ≤ 1000) (sn9 : sn ≤ 1000) (m9 : m ≤ 1000000)
    (hb : Blk w t 93 #[vv, .slice (some ⟨Bp, o, none⟩) m c, (.slice (some ⟨gg, 0, none⟩) (n + 1) cgg), .int .i64 a, .int .i64 b]) (hc : m ≤ c) (c9 : c ≤ maxLen) (tB : t < B) (pt : Bp < t) (Bw : B ≤ w.heap.size)
    (hs : Subs w B (.slice (some ⟨gg, 0, none⟩) (n + 1) cgg) (l ++ [(s, v)])) (hst : s.st = (s0, s1)) (h0 : (a == s0) = false) :
    Calls Try.prog 46 #[.pointer (some ⟨t, 0, none⟩), .int .i64 5] w fun e w' => e = .returned (.tuple #[]) ∧ ∃ v', Blk w' t 93 #[vv, .slice (some ⟨Bp, o, none⟩) m c, (.slice (some ⟨gg, 0, none⟩) (n + 1) cgg), .int .i64 a, .int .i64 b] ∧ Subs w' B (.slice (some ⟨gg, 0, none⟩) (n + 1) cgg) (l ++ [(⟨s.st, s.segs ++ [(sg2 a b s0 s1)], true⟩, v')]) ∧ Below t w w' := by
  skip
  obtain ⟨i0, hi0, hz0, hz1, hz2⟩ := infoSeg
  have f0 : w.cell? ⟨t, 0, none⟩ = some vv := by rw [hb.cell]; rfl
  have f1 : w.cell? ⟨t, 1, none⟩ = some (.slice (some ⟨Bp, o, none⟩) m c) := by rw [hb.cell]; rfl
  have f2 : w.cell? ⟨t, 2, none⟩ = some (.slice (some ⟨gg, 0, none⟩) (n + 1) cgg) := by rw [hb.cell]; rfl
  have f3 : w.cell? ⟨t, 3, none⟩ = some (.int .i64 a) := by rw [hb.cell]; rfl
  have f4 : w.cell? ⟨t, 4, none⟩ = some (.int .i64 b) := by rw [hb.cell]; rfl
  have g1 : w.frozen? ⟨t, 1, none⟩ = false := hb.frozen 1
  have lt := hb.lt
  have lp : Bp < w.heap.size := by omega
  have ht := fun v => tk_c 5 v
  rw [show tkV 5 = 0 from rfl] at ht
  have hla := fun W' hW' => last_c vv (.slice (some ⟨Bp, o, none⟩) m c) (.int .i64 a) (.int .i64 b) gg n cgg t W' hW' (by omega)
  unfold maxLen at c9
  have HB := Lib.hid hb
  have HS := Lib.hid hs
  have HN := Lib.hid hn
  have HSN := Lib.hid hsn
  have HT := Lib.hid ht
  have HST := Lib.hid hst
  have HLA := Lib.hid hla
  clear hb hs hn ht hsn hst hla
  go_enter Try.func46, Try.ntmps46
  go_wp2_with (fail)
  refine wp_region_later (by kernel_rfl) (by kernel_rfl) ?_
  repeat (go_big_quiet_step ((first | (go_at_call 64; with_reducible exact Later.call _ (HT.out _)))))
  refine wpQuiet_nil ?_
  intro x
  go_upto_region 9 with (fail)
  obtain ⟨W1, hW1⟩ : ∃ W1, W1 = x.out.setCell ⟨t, 1, none⟩ (.slice (some ⟨Bp, o, none⟩) m c) := ⟨_, rfl⟩
  rw [← hW1]
  have k1 : Blk W1 t 93 #[vv, .slice (some ⟨Bp, o, none⟩) m c, (.slice (some ⟨gg, 0, none⟩) (n + 1) cgg), .int .i64 a, .int .i64 b] := by rw [hW1]; exact ((HB.out.later x).set 1 _).eq (by simp)
  have s1' : Subs W1 B (.slice (some ⟨gg, 0, none⟩) (n + 1) cgg) (l ++ [(s, v)]) := by rw [hW1]; exact (HS.out.later x).other tB
  have b1 : Below t w W1 := by rw [hW1]; exact Below.setCell (x.below.mono (Nat.le_of_lt lt)) (Nat.le_refl _) _
  have Bw1 : B ≤ W1.heap.size := by rw [hW1]; have := x.size_le; simp only [World.size_setCell]; omega
  obtain ⟨lc1, lz1, lB1, lg1⟩ := s1'.lastCells
  have e13 : W1.cell? ⟨gg, n * 4 + 3, none⟩ = some (.bool s.cl) := by have := lc1 3 (by omega); rw [HN.out] at this; exact this
  have z13 := lz1 (n * 4 + 3)
  have K1 := Lib.hid k1
  have HS1 := Lib.hid s1'
  have HB1 := Lib.hid b1
  clear k1 s1' b1 hW1 x f0 f1 f2 f3 f4 g1 lc1 lz1
  go_upto_region 11 with (go_at_call 68; (with_reducible refine (HLA.out _ K1.out).mono ?_); rintro e _ ⟨rfl, x, rfl⟩)
  obtain ⟨W2, hW2⟩ : ∃ W2, W2 = x.out.setCell ⟨gg, n * 4 + 3, none⟩ (.bool true) := ⟨_, rfl⟩
  rw [← hW2]
  have tg : t ≠ gg := by omega
  have k2 : Blk W2 t 93 #[vv, .slice (some ⟨Bp, o, none⟩) m c, (.slice (some ⟨gg, 0, none⟩) (n + 1) cgg), .int .i64 a, .int .i64 b] := by rw [hW2]; exact (K1.out.later x).other _ _ tg
  have s2 : Subs W2 B (.slice (some ⟨gg, 0, none⟩) (n + 1) cgg) (l ++ [(⟨s.st, s.segs, true⟩, v)]) := by rw [hW2, ← HN.out]; exact Subs.close (by rw [HN.out]; exact HS1.out.later x) (by rw [HN.out])
  have b2 : Below t w W2 := by rw [hW2]; exact Below.setCell (HB1.out.trans (x.below.mono (by omega))) (by show t ≤ gg; omega) _
  have Bw2 : B ≤ W2.heap.size := by rw [hW2]; have := x.size_le; simp only [World.size_setCell]; omega
  obtain ⟨lc2, lz2, lB2, lg2⟩ := s2.lastCells
  have e20 : W2.cell? ⟨gg, n * 4, none⟩ = some (.int .i64 s0) := by have := lc2 0 (by omega); rw [HN.out] at this; rw [show n * 4 = n * 4 + 0 from rfl, this]; simp [subV, HST.out]
  have e21 : W2.cell? ⟨gg, n * 4 + 1, none⟩ = some (.int .i64 s1) := by have := lc2 1 (by omega); rw [HN.out] at this; rw [this]; simp [subV, HST.out]
  have e22 : W2.cell? ⟨gg, n * 4 + 2, none⟩ = some v := by have := lc2 2 (by omega); rw [HN.out] at this; exact this
  have z22 := lz2 (n * 4 + 2)
  have h23 : W2.cell? ⟨t, 3, none⟩ = some (.int .i64 a) := by rw [k2.cell]; rfl
  have h24 : W2.cell? ⟨t, 4, none⟩ = some (.int .i64 b) := by rw [k2.cell]; rfl
  have lt2 := k2.lt
  have ne2 := s2.rowNe
  have hv2 := s2.rows (⟨s.st, s.segs, true⟩, v) (by simp)
  simp only [] at hv2
  rw [HSN.out] at hv2
  have K2 := Lib.hid k2
  have HS2 := Lib.hid s2
  have HB2 := Lib.hid b2
  have HV2 := Lib.hid hv2
  have NE := Lib.hid ne2
  clear k2 s2 b2 hW2 lc2 lz2 hv2 ne2 x e13 z13
  refine wp_region_later (by kernel_rfl) (by kernel_rfl) ?_
  repeat (go_big_quiet_step ((first | fail)))
  refine wpQuiet_nil ?_
  intro x
  go_wp2_with (fail)
  have k3 := K2.out.later x
  have s3 := HS2.out.later x
  have b3 : Below t w x.out := HB2.out.trans (x.below.mono (by omega))
  have Bw3 : B ≤ x.out.heap.size := by have := x.size_le; omega
  clear e20 e21 e22 z22 h23 h24 lt2 K2 HS2 HB2 HV2 NE Bw2
  generalize x.out = W3 at *
  obtain ⟨lc2, lz2, _, lg3⟩ := s3.lastCells
  have e20 : W3.cell? ⟨gg, n * 4, none⟩ = some (.int .i64 s0) := by have := lc2 0 (by omega); rw [HN.out] at this; rw [show n * 4 = n * 4 + 0 from rfl, this]; simp [subV, HST.out]
  have e21 : W3.cell? ⟨gg, n * 4 + 1, none⟩ = some (.int .i64 s1) := by have := lc2 1 (by omega); rw [HN.out] at this; rw [this]; simp [subV, HST.out]
  have e22 : W3.cell? ⟨gg, n * 4 + 2, none⟩ = some v := by have := lc2 2 (by omega); rw [HN.out] at this; exact this
  have z22 := lz2 (n * 4 + 2)
  have lt3 := k3.lt
  have ne2 := s3.rowNe
  have hv2 := s3.rows (⟨s.st, s.segs, true⟩, v) (by simp)
  simp only [] at hv2
  rw [HSN.out] at hv2
  have K3 := Lib.hid k3
  have HS3 := Lib.hid s3
  have HB3 := Lib.hid b3
  have HV3 := Lib.hid hv2
  have NE := Lib.hid ne2
  clear k3 s3 b3 lc2 lz2 hv2 ne2
  refine wp_region_oneF 0 _ (.pointer (some ⟨gg, n * 4, none⟩)) [1, 2, 3, 4, 5, 6, 7, 8, 9, 10] 11 [12, 13, 14, 15] (fun g => .slice (some ⟨g, 0, none⟩) 1 1) (.cells #[.int .i64 a, .int .i64 b, .int .i64 s0, .int .i64 s1, .int .i64 0, .int .i64 0, .int .i64 0, .int .i64 0, .int .i64 2] 26) (by kernel_rfl) rfl ⟨.inl ⟨by rfl, fun w => by simp [execOp, go_sem]⟩, fun w => by rfl⟩ (fun _ _ _ h => h) (by kernel_rfl) (by kernel_rfl) (by kernel_rfl) (by kernel_rfl) (noInit_ofN (by kernel_rfl)) (fun y => ?_)
  simp only [pick, List.getElem?_cons_zero, List.getElem?_cons_succ, Act.put, List.setIfInBounds_toArray, List.set_cons_succ, List.set_cons_zero]
  repeat (go_big_quiet_step ((first | (go_at_call 69; with_reducible exact Later.call _ (line_c _ _ _ _ _ _ _ _ _ ((K3.out.later _).later _))))))
  refine wpQuiet_nil ?_
  refine ⟨(by intro o ho; obtain rfl := Option.some.inj ho; refine ⟨rfl, fun wc => ?_⟩; simp [execOp, go_sem]; done), ?_⟩
  intro gz z hgz hz
  simp only [dstOf, List.getElem?_toArray, List.getElem?_cons_succ, List.getElem?_cons_zero, Option.bind_some, Act.put, List.setIfInBounds_toArray, List.set_cons_succ, List.set_cons_zero]
  have bgz : Blk z.out gz 26 (flE [(sg2 a b s0 s1)]).toArray := hz
  have HGZ := Lib.hid bgz
  clear hz bgz
  refine wpListIn_append_at _ rfl _ _ 58 rfl B 26 i0 (.agg #[.int .i64 0, .int .i64 0, .int .i64 0, .int .i64 0, .int .i64 0, .int .i64 0, .int .i64 0, .int .i64 0, .int .i64 0]) 9 72 Try.underlying58 hi0 hz0 hz1 hz2 rfl (by decide) v sn (flE s.segs) rfl (own_later HV3.out z) ⟨gz, 0, none⟩ 1 1 (flE [(sg2 a b s0 s1)]) rfl rfl (blk_at HGZ.out) (flE_one _) (by unfold maxLen; omega) (by omega) (by have := z.size_le; omega) ?_
  intro v' w4 hown hgrow hlies
  obtain ⟨g4, cp4, rfl⟩ := Go.Joins.ownsRow_form hown (by omega)
  have zs := z.size_le
  have d4 := (World.cell?_of_block (a := ⟨gg, n * 4 + 2, none⟩) (hgrow.block gg (by omega) NE.out)).trans ((z.below.cell (p := ⟨gg, n * 4 + 2, none⟩) lg3).trans e22)
  have z4 := (World.frozen?_of_block (a := ⟨gg, n * 4 + 2, none⟩) (hgrow.block gg (by omega) NE.out)).trans ((z.below.frozen (p := ⟨gg, n * 4 + 2, none⟩) lg3).trans z22)
  have lg4 : gg < w4.heap.size := by have := hgrow.size; omega
  have k4 := (K3.out.later z).grown (N := B) hgrow (fun r hr => (HV3.out.lt r hr).1) tB
  have b4 : Below t w w4 := Below.grown (HB3.out.trans (z.below.mono (by omega))) hgrow (by omega) (fun r hr => by have := (HV3.out.lt r hr).1; omega)
  have K4 := Lib.hid k4
  have HO4 := Lib.hid hown
  have HG4 := Lib.hid hgrow
  have HL4 := Lib.hid hlies
  have B4 := Lib.hid b4
  clear k4 hown hgrow hlies b4
  gi_wp2_with (fail)
  go_wp2_with (fail)
  have s4 := Subs.seg (HS3.out.later z) (by rw [HN.out]) (by rw [HSN.out]; exact HO4.out) HG4.out HL4.out
  rw [HN.out] at s4
  refine bodyPost_ret (v := .tuple #[]) (by simp [results, Try.results46, go_sem]) rfl ⟨rfl, .slice (some ⟨g4, 0, none⟩) (sn + 1) cp4, K4.out.other (n * 4 + 2) _ tg, s4, Below.setCell B4.out (by show t ≤ gg; omega) _⟩


set_option maxRecDepth 100000 in
set_option maxHeartbeats 4000000 in
theorem take_close_d2 (w : World) (t B Bp o m c : Nat) (vv v : Value) (gg cgg : Nat) (a b s0 s1 : Int) (l : List (SubP × Value)) (s : SubP) (n sn : Nat) (hn : l.length = n) (hsn : s.segs.length = sn) (n9 : n ≤ 1000) (sn9 : sn ≤ 1000) (m9 : m ≤ 1000000)
    (hb : Blk w t 93 #[vv, .slice (some ⟨Bp, o, none⟩) m c, (.slice (some ⟨gg, 0, none⟩) (n + 1) cgg), .int .i64 a, .int .i64 b]) (hc : m ≤ c) (c9 : c ≤ maxLen) (tB : t < B) (pt : Bp < t) (Bw : B ≤ w.heap.size)
    (hs : Subs w B (.slice (some ⟨gg, 0, none⟩) (n + 1) cgg) (l ++ [(s, v)])) (hst : s.st = (s0, s1)) (h0 : a = s0) (h1 : (b == s1) = false) :
    Calls Try.prog 46 #[.pointer (some ⟨t, 0, none⟩), .int .i64 5] w fun e w' => e = .returned (.tuple #[]) ∧ ∃ v', Blk w' t 93 #[vv, .slice (some ⟨Bp, o, none⟩) m c, (.slice (some ⟨gg, 0, none⟩) (n + 1) cgg), .int .i64 a, .int .i64 b] ∧ Subs w' B (.slice (some ⟨gg, 0, none⟩) (n + 1) cgg) (l ++ [(⟨s.st, s.segs ++ [(sg2 a b s0 s1)], true⟩, v')]) ∧ Below t w w' := by
  subst h0
  obtain ⟨i0, hi0, hz0, hz1, hz2⟩ := infoSeg
  have f0 : w.cell? ⟨t, 0, none⟩ = some vv := by rw [hb.cell]; rfl
  have f1 : w.cell? ⟨t, 1, none⟩ = some (.slice (some ⟨Bp, o, none⟩) m c) := by rw [hb.cell]; rfl
  have f2 : w.cell? ⟨t, 2, none⟩ = some (.slice (some ⟨gg, 0, none⟩) (n + 1) cgg) := by rw [hb.cell]; rfl
  have f3 : w.cell? ⟨t, 3, none⟩ = some (.int .i64 a) := by rw [hb.cell]; rfl
  have f4 : w.cell? ⟨t, 4, none⟩ = some (.int .i64 b) := by rw [hb.cell]; rfl
  have g1 : w.frozen? ⟨t, 1, none⟩ = false := hb.frozen 1
  have lt := hb.lt
  have lp : Bp < w.heap.size := by omega
  have ht := fun v => tk_c 5 v
  rw [show tkV 5 = 0 from rfl] at ht
  have hla := fun W' hW' => last_c vv (.slice (some ⟨Bp, o, none⟩) m c) (.int .i64 a) (.int .i64 b) gg n cgg t W' hW' (by omega)
  unfold maxLen at c9
  have HB := Lib.hid hb
  have HS := Lib.hid hs
  have HN := Lib.hid hn
  have HSN := Lib.hid hsn
  have HT := Lib.hid ht
  have HST := Lib.hid hst
  have HLA := Lib.hid hla
  clear hb hs hn ht hsn hst hla
  go_enter Try.func46, Try.ntmps46
  go_wp2_with (fail)
  refine wp_region_later (by kernel_rfl) (by kernel_rfl) ?_
  repeat (go_big_quiet_step ((first | (go_at_call 64; with_reducible exact Later.call _ (HT.out _)))))
  refine wpQuiet_nil ?_
  intro x
  go_upto_region 9 with (fail)
  obtain ⟨W1, hW1⟩ : ∃ W1, W1 = x.out.setCell ⟨t, 1, none⟩ (.slice (some ⟨Bp, o, none⟩) m c) := ⟨_, rfl⟩
  rw [← hW1]
  have k1 : Blk W1 t 93 #[vv, .slice (some ⟨Bp, o, none⟩) m c, (.slice (some ⟨gg, 0, none⟩) (n + 1) cgg), .int .i64 a, .int .i64 b] := by rw [hW1]; exact ((HB.out.later x).set 1 _).eq (by simp)
  have s1' : Subs W1 B (.slice (some ⟨gg, 0, none⟩) (n + 1) cgg) (l ++ [(s, v)]) := by rw [hW1]; exact (HS.out.later x).other tB
  have b1 : Below t w W1 := by rw [hW1]; exact Below.setCell (x.below.mono (Nat.le_of_lt lt)) (Nat.le_refl _) _
  have Bw1 : B ≤ W1.heap.size := by rw [hW1]; have := x.size_le; simp only [World.size_setCell]; omega
  obtain ⟨lc1, lz1, lB1, lg1⟩ := s1'.lastCells
  have e13 : W1.cell? ⟨gg, n * 4 + 3, none⟩ = some (.bool s.cl) := by have := lc1 3 (by omega); rw [HN.out] at this; exact this
  have z13 := lz1 (n * 4 + 3)
  have K1 := Lib.hid k1
  have HS1 := Lib.hid s1'
  have HB1 := Lib.hid b1
  clear k1 s1' b1 hW1 x f0 f1 f2 f3 f4 g1 lc1 lz1
  go_upto_region 11 with (go_at_call 68; (with_reducible refine (HLA.out _ K1.out).mono ?_); rintro e _ ⟨rfl, x, rfl⟩)
  obtain ⟨W2, hW2⟩ : ∃ W2, W2 = x.out.setCell ⟨gg, n * 4 + 3, none⟩ (.bool true) := ⟨_, rfl⟩
  rw [← hW2]
  have tg : t ≠ gg := by omega
  have k2 : Blk W2 t 93 #[vv, .slice (some ⟨Bp, o, none⟩) m c, (.slice (some ⟨gg, 0, none⟩) (n + 1) cgg), .int .i64 a, .int .i64 b] := by rw [hW2]; exact (K1.out.later x).other _ _ tg
  have s2 : Subs W2 B (.slice (some ⟨gg, 0, none⟩) (n + 1) cgg) (l ++ [(⟨s.st, s.segs, true⟩, v)]) := by rw [hW2, ← HN.out]; exact Subs.close (by rw [HN.out]; exact HS1.out.later x) (by rw [HN.out])
  have b2 : Below t w W2 := by rw [hW2]; exact Below.setCell (HB1.out.trans (x.below.mono (by omega))) (by show t ≤ gg; omega) _
  have Bw2 : B ≤ W2.heap.size := by rw [hW2]; have := x.size_le; simp only [World.size_setCell]; omega
  obtain ⟨lc2, lz2, lB2, lg2⟩ := s2.lastCells
  have e20 : W2.cell? ⟨gg, n * 4, none⟩ = some (.int .i64 a) := by have := lc2 0 (by omega); rw [HN.out] at this; rw [show n * 4 = n * 4 + 0 from rfl, this]; simp [subV, HST.out]
  have e21 : W2.cell? ⟨gg, n * 4 + 1, none⟩ = some (.int .i64 s1) := by have := lc2 1 (by omega); rw [HN.out] at this; rw [this]; simp [subV, HST.out]
  have e22 : W2.cell? ⟨gg, n * 4 + 2, none⟩ = some v := by have := lc2 2 (by omega); rw [HN.out] at this; exact this
  have z22 := lz2 (n * 4 + 2)
  have h23 : W2.cell? ⟨t, 3, none⟩ = some (.int .i64 a) := by rw [k2.cell]; rfl
  have h24 : W2.cell? ⟨t, 4, none⟩ = some (.int .i64 b) := by rw [k2.cell]; rfl
  have lt2 := k2.lt
  have ne2 := s2.rowNe
  have hv2 := s2.rows (⟨s.st, s.segs, true⟩, v) (by simp)
  simp only [] at hv2
  rw [HSN.out] at hv2
  have K2 := Lib.hid k2
  have HS2 := Lib.hid s2
  have HB2 := Lib.hid b2
  have HV2 := Lib.hid hv2
  have NE := Lib.hid ne2
  clear k2 s2 b2 hW2 lc2 lz2 hv2 ne2 x e13 z13
  refine wp_region_later (by kernel_rfl) (by kernel_rfl) ?_
  repeat (go_big_quiet_step ((first | fail)))
  refine wpQuiet_nil ?_
  intro x
  go_wp2_with (fail)
  have k3 := K2.out.later x
  have s3 := HS2.out.later x
  have b3 : Below t w x.out := HB2.out.trans (x.below.mono (by omega))
  have Bw3 : B ≤ x.out.heap.size := by have := x.size_le; omega
  clear e20 e21 e22 z22 h23 h24 lt2 K2 HS2 HB2 HV2 NE Bw2
  generalize x.out = W3 at *
  obtain ⟨lc2, lz2, _, lg3⟩ := s3.lastCells
  have e20 : W3.cell? ⟨gg, n * 4, none⟩ = some (.int .i64 a) := by have := lc2 0 (by omega); rw [HN.out] at this; rw [show n * 4 = n * 4 + 0 from rfl, this]; simp [subV, HST.out]
  have e21 : W3.cell? ⟨gg, n * 4 + 1, none⟩ = some (.int .i64 s1) := by have := lc2 1 (by omega); rw [HN.out] at this; rw [this]; simp [subV, HST.out]
  have e22 : W3.cell? ⟨gg, n * 4 + 2, none⟩ = some v := by have := lc2 2 (by omega); rw [HN.out] at this; exact this
  have z22 := lz2 (n * 4 + 2)
  have lt3 := k3.lt
  have ne2 := s3.rowNe
  have hv2 := s3.rows (⟨s.st, s.segs, true⟩, v) (by simp)
  simp only [] at hv2
  rw [HSN.out] at hv2
  have K3 := Lib.hid k3
  have HS3 := Lib.hid s3
  have HB3 := Lib.hid b3
  have HV3 := Lib.hid hv2
  have NE := Lib.hid ne2
  clear k3 s3 b3 lc2 lz2 hv2 ne2
  refine wp_region_oneF 0 _ (.pointer (some ⟨gg, n * 4, none⟩)) [1, 2, 3, 4, 5, 6, 7, 8, 9, 10] 11 [12, 13, 14, 15] (fun g => .slice (some ⟨g, 0, none⟩) 1 1) (.cells #[.int .i64 a, .int .i64 b, .int .i64 a, .int .i64 s1, .int .i64 0, .int .i64 0, .int .i64 0, .int .i64 0, .int .i64 2] 26) (by kernel_rfl) rfl ⟨.inl ⟨by rfl, fun w => by simp [execOp, go_sem]⟩, fun w => by rfl⟩ (fun _ _ _ h => h) (by kernel_rfl) (by kernel_rfl) (by kernel_rfl) (by kernel_rfl) (noInit_ofN (by kernel_rfl)) (fun y => ?_)
  simp only [pick, List.getElem?_cons_zero, List.getElem?_cons_succ, Act.put, List.setIfInBounds_toArray, List.set_cons_succ, List.set_cons_zero]
  repeat (go_big_quiet_step ((first | (go_at_call 69; with_reducible exact Later.call _ (line_c _ _ _ _ _ _ _ _ _ ((K3.out.later _).later _))))))
  refine wpQuiet_nil ?_
  refine ⟨(by intro o ho; obtain rfl := Option.some.inj ho; refine ⟨rfl, fun wc => ?_⟩; simp [execOp, go_sem]; done), ?_⟩
  intro gz z hgz hz
  simp only [dstOf, List.getElem?_toArray, List.getElem?_cons_succ, List.getElem?_cons_zero, Option.bind_some, Act.put, List.setIfInBounds_toArray, List.set_cons_succ, List.set_cons_zero]
  have bgz : Blk z.out gz 26 (flE [(sg2 a b a s1)]).toArray := hz
  have HGZ := Lib.hid bgz
  clear hz bgz
  refine wpListIn_append_at _ rfl _ _ 58 rfl B 26 i0 (.agg #[.int .i64 0, .int .i64 0, .int .i64 0, .int .i64 0, .int .i64 0, .int .i64 0, .int .i64 0, .int .i64 0, .int .i64 0]) 9 72 Try.underlying58 hi0 hz0 hz1 hz2 rfl (by decide) v sn (flE s.segs) rfl (own_later HV3.out z) ⟨gz, 0, none⟩ 1 1 (flE [(sg2 a b a s1)]) rfl rfl (blk_at HGZ.out) (flE_one _) (by unfold maxLen; omega) (by omega) (by have := z.size_le; omega) ?_
  intro v' w4 hown hgrow hlies
  obtain ⟨g4, cp4, rfl⟩ := Go.Joins.ownsRow_form hown (by omega)
  have zs := z.size_le
  have d4 := (World.cell?_of_block (a := ⟨gg, n * 4 + 2, none⟩) (hgrow.block gg (by omega) NE.out)).trans ((z.below.cell (p := ⟨gg, n * 4 + 2, none⟩) lg3).trans e22)
  have z4 := (World.frozen?_of_block (a := ⟨gg, n * 4 + 2, none⟩) (hgrow.block gg (by omega) NE.out)).trans ((z.below.frozen (p := ⟨gg, n * 4 + 2, none⟩) lg3).trans z22)
  have lg4 : gg < w4.heap.size := by have := hgrow.size; omega
  have k4 := (K3.out.later z).grown (N := B) hgrow (fun r hr => (HV3.out.lt r hr).1) tB
  have b4 : Below t w w4 := Below.grown (HB3.out.trans (z.below.mono (by omega))) hgrow (by omega) (fun r hr => by have := (HV3.out.lt r hr).1; omega)
  have K4 := Lib.hid k4
  have HO4 := Lib.hid hown
  have HG4 := Lib.hid hgrow
  have HL4 := Lib.hid hlies
  have B4 := Lib.hid b4
  clear k4 hown hgrow hlies b4
  gi_wp2_with (fail)
  go_wp2_with (fail)
  have s4 := Subs.seg (HS3.out.later z) (by rw [HN.out]) (by rw [HSN.out]; exact HO4.out) HG4.out HL4.out
  rw [HN.out] at s4
  refine bodyPost_ret (v := .tuple #[]) (by simp [results, Try.results46, go_sem]) rfl ⟨rfl, .slice (some ⟨g4, 0, none⟩) (sn + 1) cp4, K4.out.other (n * 4 + 2) _ tg, s4, Below.setCell B4.out (by show t ≤ gg; omega) _⟩

end Go.Proofs.Ytcdnekhpeghkiaa

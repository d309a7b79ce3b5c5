/-
  A taker takes a verb: a segment more.
-/
import Derived.Test.YtcdnekhpeghkiaaQE
import Derived.Test.YtcdnekhpeghkiaaL10D
import Derived.Deep.RegionHeld3
namespace Go.Proofs.Ytcdnekhpeghkiaa
set_option linter.unusedVariables false
open Go.RowKit

def sg4 (a b c d e f g h : Int) : En := fun i => match i with | 0 => a | 1 => b | 2 => c | 3 => d | 4 => e | 5 => f | 6 => g | 7 => h | 8 => 4 | _ => 0
theorem infoPtS : (Try.prog.info? 23).map (·.size) = some 2 := by
  obtain ⟨i, h, _, h2, _⟩ := infoPt
  rw [h]; simp [h2]
theorem flE_one (l : List En) : ∀ x ∈ flE l, x.oneCell' = true := by
  intro x hx
  unfold flE at hx
  rw [List.mem_flatMap] at hx
  obtain ⟨q, _, hq⟩ := hx
  simp only [List.mem_cons, List.not_mem_nil, or_false] at hq
  rcases hq with rfl | rfl | rfl | rfl | rfl | rfl | rfl | rfl | rfl <;> rfl


set_option maxRecDepth 100000 in
set_option maxHeartbeats 4000000 in
theorem take_seg1 (w : World) (t B Bp o m c : Nat) (vv v : Value) (gg cgg : Nat) (a b p0 p1 : Int) (l : List (SubP × Value)) (s : SubP) (n sn : Nat) (hn : l.length = n) (hsn : s.segs.length = sn) (n9 : n ≤ 1000) (sn9 : sn ≤ 1000) (m9 : m ≤ 1000000)
    (hb : Blk w t 93 #[vv, .slice (some ⟨Bp, o, none⟩) (m + 1) c, .slice (some ⟨gg, 0, none⟩) (n + 1) cgg, .int .i64 a, .int .i64 b]) (hc : m + 1 ≤ c) (c9 : c ≤ maxLen) (tB : t < B) (pt : Bp < t) (Bw : B ≤ w.heap.size)
    (q0 : w.cell? ⟨Bp, o, none⟩ = some (.int .i64 p0)) (q1 : w.cell? ⟨Bp, o + 1, none⟩ = some (.int .i64 p1)) (hs : Subs w B (.slice (some ⟨gg, 0, none⟩) (n + 1) cgg) (l ++ [(s, v)])) (pa : Option Addr) (hpv : (if c = 1 then (some ⟨Bp, o, none⟩ : Option Addr) else some ⟨Bp, o + 2, none⟩) = pa) :
    Calls Try.prog 46 #[.pointer (some ⟨t, 0, none⟩), .int .i64 2] w fun e w' => e = .returned (.tuple #[]) ∧ ∃ v', Blk w' t 93 #[vv, .slice pa m (c - 1), .slice (some ⟨gg, 0, none⟩) (n + 1) cgg, .int .i64 p0, .int .i64 p1] ∧ Subs w' B (.slice (some ⟨gg, 0, none⟩) (n + 1) cgg) (l ++ [(⟨s.st, s.segs ++ [(sg2 a b p0 p1)], s.cl⟩, v')]) ∧ Below t w w' := by
  obtain ⟨i0, hi0, hz0, hz1, hz2⟩ := infoSeg
  have f0 : w.cell? ⟨t, 0, none⟩ = some vv := by rw [hb.cell]; rfl
  have f1 : w.cell? ⟨t, 1, none⟩ = some (.slice (some ⟨Bp, o, none⟩) (m + 1) c) := by rw [hb.cell]; rfl
  have f2 : w.cell? ⟨t, 2, none⟩ = some (.slice (some ⟨gg, 0, none⟩) (n + 1) cgg) := by rw [hb.cell]; rfl
  have f3 : w.cell? ⟨t, 3, none⟩ = some (.int .i64 a) := by rw [hb.cell]; rfl
  have f4 : w.cell? ⟨t, 4, none⟩ = some (.int .i64 b) := by rw [hb.cell]; rfl
  have g1 : w.frozen? ⟨t, 1, none⟩ = false := hb.frozen 1
  have lt := hb.lt
  have lp : Bp < w.heap.size := by omega
  have ht := fun v => tk_c 2 v
  rw [show tkV 2 = 1 from rfl] at ht
  unfold maxLen at c9
  have HB := Lib.hid hb
  have HS := Lib.hid hs
  have HN := Lib.hid hn
  have HSN := Lib.hid hsn
  have HT := Lib.hid ht
  have HPV := Lib.hid hpv
  clear hb hs hn ht hsn hpv
  go_enter Try.func46, Try.ntmps46
  go_wp2_with (fail)
  refine wp_region_later (by kernel_rfl) (by kernel_rfl) ?_
  repeat (go_big_quiet_step ((first | (go_at_call 64; with_reducible exact Later.call _ (HT.out _)))))
  refine wpQuiet_nil ?_
  intro x
  go_upto_region 4 with (fail)
  rw [HPV.out]
  obtain ⟨W0, hW0⟩ : ∃ W0, W0 = x.out.setCell ⟨t, 1, none⟩ (.slice pa m (c - 1)) := ⟨_, rfl⟩
  have hsz : x.out.heap.size = W0.heap.size := by rw [hW0]; simp
  rw [← hW0, hsz]
  have k0 : Blk W0 t 93 #[vv, .slice pa m (c - 1), .slice (some ⟨gg, 0, none⟩) (n + 1) cgg, .int .i64 a, .int .i64 b] := by rw [hW0]; exact ((HB.out.later x).set 1 _).eq (by simp)
  have s0 : Subs W0 B (.slice (some ⟨gg, 0, none⟩) (n + 1) cgg) (l ++ [(s, v)]) := by rw [hW0]; exact (HS.out.later x).other tB
  have b0 : Below t w W0 := by rw [hW0]; exact Below.setCell (x.below.mono (Nat.le_of_lt lt)) (Nat.le_refl _) _
  have Bgb : B ≤ W0.heap.size := by have := x.size_le; omega
  clear hW0 hsz x
  have hgb : Blk (W0.alloc (.cells #[.int .i64 0, .int .i64 0, .int .i64 0, .int .i64 0, .int .i64 0, .int .i64 0, .int .i64 0, .int .i64 0, .int .i64 2] 26)) W0.heap.size 26 [.int .i64 0, .int .i64 0, .int .i64 0, .int .i64 0, .int .i64 0, .int .i64 0, .int .i64 0, .int .i64 0, .int .i64 2].toArray := Blk.new' rfl
  have k1 : Blk (W0.alloc (.cells #[.int .i64 0, .int .i64 0, .int .i64 0, .int .i64 0, .int .i64 0, .int .i64 0, .int .i64 0, .int .i64 0, .int .i64 2] 26)) t 93 #[vv, .slice pa m (c - 1), .slice (some ⟨gg, 0, none⟩) (n + 1) cgg, .int .i64 a, .int .i64 b] := k0.alloc _
  have b1 : Below t w (W0.alloc (.cells #[.int .i64 0, .int .i64 0, .int .i64 0, .int .i64 0, .int .i64 0, .int .i64 0, .int .i64 0, .int .i64 0, .int .i64 2] 26)) := b0.alloc (by omega) _
  have bW : Below W0.heap.size W0 (W0.alloc (.cells #[.int .i64 0, .int .i64 0, .int .i64 0, .int .i64 0, .int .i64 0, .int .i64 0, .int .i64 0, .int .i64 0, .int .i64 2] 26)) := (Below.refl _ _).alloc (Nat.le_refl _) _
  have hsr : ∀ j u, [.int .i64 p0, .int .i64 p1][j]? = some u → (W0.alloc (.cells #[.int .i64 0, .int .i64 0, .int .i64 0, .int .i64 0, .int .i64 0, .int .i64 0, .int .i64 0, .int .i64 0, .int .i64 2] 26)).cell? ((⟨Bp, o, none⟩ : Addr).add j) = some u := by
    have e : ∀ j, (W0.alloc (.cells #[.int .i64 0, .int .i64 0, .int .i64 0, .int .i64 0, .int .i64 0, .int .i64 0, .int .i64 0, .int .i64 0, .int .i64 2] 26)).cell? ⟨Bp, j, none⟩ = w.cell? ⟨Bp, j, none⟩ := fun j => b1.cell (p := ⟨Bp, j, none⟩) pt
    intro j u hu
    rw [Addr.add_mid, e]
    match j, hu with
    | 0, hu => simp at hu; rw [← hu]; exact q0
    | 1, hu => simp at hu; rw [← hu]; exact q1
    | (j + 2), hu => simp at hu
  have HBW := Lib.hid bW
  have HS0 := Lib.hid s0
  clear bW s0 k0 b0
  obtain ⟨gb, hgbe⟩ : ∃ gb, W0.heap.size = gb := ⟨_, rfl⟩
  rw [hgbe] at hgb HBW Bgb ⊢
  have HGE := Lib.hid hgbe
  clear hgbe
  generalize W0.alloc (.cells #[.int .i64 0, .int .i64 0, .int .i64 0, .int .i64 0, .int .i64 0, .int .i64 0, .int .i64 0, .int .i64 0, .int .i64 2] 26) = W1 at *
  have h13 : W1.cell? ⟨t, 3, none⟩ = some (.int .i64 a) := by rw [k1.cell]; rfl
  have h14 : W1.cell? ⟨t, 4, none⟩ = some (.int .i64 b) := by rw [k1.cell]; rfl
  have lt1 := k1.lt
  have lgb := hgb.lt
  have tgb : t < gb := by omega
  have bgb : Bp < gb := by omega
  have KG := Lib.hid hgb
  have K1 := Lib.hid k1
  have HB1 := Lib.hid b1
  have HSRC := Lib.hid hsr
  have QS := Lib.hid (And.intro q0 q1)
  clear hgb k1 b1 hsr q0 q1 f0 f1 f2 f3 f4 g1
  go_region_held3 (fun w' => w'.cell? ⟨t, 3, none⟩ = some (.int .i64 a) ∧ w'.cell? ⟨t, 4, none⟩ = some (.int .i64 b)) ((simp [go_sem, *]; done))
    (first | (refine step_copy_wide rfl _ _ 30 30 rfl 23 2 1 Try.underlying30 infoPtS gb 0 4 4 ⟨W1.heap.size, 0, none⟩ 1 1 rfl rfl [.int .i64 0, .int .i64 0, .int .i64 0, .int .i64 0, .int .i64 0, .int .i64 0, .int .i64 0, .int .i64 0, .int .i64 2] 26 (KG.out.alloc _).drew [.int .i64 a, .int .i64 b] rfl rfl (blk_at (Blk.new' rfl)) (by simp) (fun u hu => by simp only [List.mem_cons, List.not_mem_nil, or_false] at hu; rcases hu with rfl | rfl <;> rfl) ?_; intro w2 hb2 hg2; have kb := (Below.grown (((Below.refl gb W1).alloc (Nat.le_of_lt lgb) _).drew) hg2 (show gb ≤ (W1.alloc _).heap.size by simp only [World.size_alloc]; omega) (fun r hr => by cases hr; exact Nat.le_refl _)); have kt := K1.out.below kb tgb; have h23 : w2.cell? ⟨t, 3, none⟩ = some (.int .i64 a) := (by rw [kt.cell]; rfl); have h24 : w2.cell? ⟨t, 4, none⟩ = some (.int .i64 b) := (by rw [kt.cell]; rfl); have KB2 := Lib.hid kb; have H2 := Lib.hid hb2; clear hb2 hg2 kb kt) | (refine step_copy_wide rfl _ _ 30 30 rfl 23 2 1 Try.underlying30 infoPtS gb 2 3 3 ⟨Bp, o, none⟩ 1 c rfl rfl [.int .i64 a, .int .i64 b, .int .i64 0, .int .i64 0, .int .i64 0, .int .i64 0, .int .i64 0, .int .i64 0, .int .i64 2] 26 (H2.out) [.int .i64 p0, .int .i64 p1] rfl rfl (fun j u hu => (KB2.out.cell (p := (⟨Bp, o, none⟩ : Addr).add j) (by rw [Addr.add_mid]; exact bgb)).trans (HSRC.out j u hu)) (by simp) (fun u hu => by simp only [List.mem_cons, List.not_mem_nil, or_false] at hu; rcases hu with rfl | rfl <;> rfl) ?_; intro w3 hb3 hg3; have kb3 := Below.grown KB2.out hg3 (show gb ≤ w2.heap.size by have := KB2.out.size; omega) (fun r hr => by cases hr; exact Nat.le_refl _); have kt := K1.out.below kb3 tgb; have h33 : w3.cell? ⟨t, 3, none⟩ = some (.int .i64 a) := (by rw [kt.cell]; rfl); have h34 : w3.cell? ⟨t, 4, none⟩ = some (.int .i64 b) := (by rw [kt.cell]; rfl); have KB3 := Lib.hid kb3; have H3 := Lib.hid hb3; clear hb3 hg3 kb3 kt))
  have s3 : Subs w3 B (.slice (some ⟨gg, 0, none⟩) (n + 1) cgg) (l ++ [(s, v)]) := HS0.out.later ⟨w3, by rw [HGE.out]; exact HBW.out.trans KB3.out⟩
  have kg3 : Blk w3 gb 26 [.int .i64 a, .int .i64 b, .int .i64 p0, .int .i64 p1, .int .i64 0, .int .i64 0, .int .i64 0, .int .i64 0, .int .i64 2].toArray := H3.out
  have k3 := K1.out.below KB3.out tgb
  obtain ⟨lc3, lz3, lB3, lg3⟩ := s3.lastCells
  have e3 : w3.cell? ⟨gg, n * 4 + 2, none⟩ = some v := by have := lc3 2 (by omega); rw [HN.out] at this; exact this
  have z3 := lz3 (n * 4 + 2)
  have ne3 := s3.rowNe
  have hv3 := s3.rows (s, v) (by simp)
  simp only [] at hv3
  rw [HSN.out] at hv3
  have hla := fun W' hW' => last_c vv (.slice pa m (c - 1)) (.int .i64 a) (.int .i64 b) gg n cgg t W' hW' (by omega)
  obtain ⟨cg3, zg3, lgb3⟩ := kg3.all
  obtain ⟨ct3, zt3, lt3⟩ := k3.all
  have KG3 := Lib.hid kg3
  have K3 := Lib.hid k3
  have HV3 := Lib.hid hv3
  have NE := Lib.hid ne3
  have HLA := Lib.hid hla
  have HS3 := Lib.hid s3
  have gB : B ≤ gg := lB3
  clear kg3 k3 hv3 ne3 hla s3 lc3 lz3 lB3 h13 h14
  go_wp2_with (fail)
  refine wp_region_one [0, 1, 2, 3, 4, 5, 6, 7] 8 [9, 10, 11, 12] (fun g => .slice (some ⟨g, 0, none⟩) 1 1) (.cells #[.int .i64 a, .int .i64 b, .int .i64 p0, .int .i64 p1, .int .i64 0, .int .i64 0, .int .i64 0, .int .i64 0, .int .i64 2] 26) (by kernel_rfl) (by kernel_rfl) (by kernel_rfl) (by kernel_rfl) (by kernel_rfl) (noInit_ofN (by kernel_rfl)) (fun y => ?_)
  simp only [pick, List.getElem?_cons_zero, List.getElem?_cons_succ]
  repeat (go_big_quiet_step ((first | (go_at_call 68; with_reducible exact Later.call _ (HLA.out _ ((K3.out.later _).later _))))))
  refine wpQuiet_nil ?_
  refine ⟨(by intro o ho; obtain rfl := Option.some.inj ho; refine ⟨rfl, fun wc => ?_⟩; simp [execOp, go_sem]; done), ?_⟩
  intro gz z hgz hz
  simp only [dstOf, List.getElem?_toArray, List.getElem?_cons_succ, List.getElem?_cons_zero, Option.bind_some, Act.put, List.setIfInBounds_toArray, List.set_cons_succ, List.set_cons_zero]
  have bgz : Blk z.out gz 26 (flE [(sg2 a b p0 p1)]).toArray := hz
  have HGZ := Lib.hid bgz
  clear hz bgz cg3 zg3 ct3 zt3
  refine wpListIn_append_at _ rfl _ _ 58 rfl B 26 i0 (.agg #[.int .i64 0, .int .i64 0, .int .i64 0, .int .i64 0, .int .i64 0, .int .i64 0, .int .i64 0, .int .i64 0, .int .i64 0]) 9 72 Try.underlying58 hi0 hz0 hz1 hz2 rfl (by decide) v sn (flE s.segs) rfl (own_later HV3.out z) ⟨gz, 0, none⟩ 1 1 (flE [(sg2 a b p0 p1)]) rfl rfl (blk_at HGZ.out) (flE_one _) (by unfold maxLen; omega) (by omega) (by have := z.size_le; have := KB3.out.size; omega) ?_
  intro v' w4 hown hgrow hlies
  obtain ⟨g4, cp4, rfl⟩ := Go.Joins.ownsRow_form hown (by omega)
  have zs := z.size_le
  have d4 := (World.cell?_of_block (a := ⟨gg, n * 4 + 2, none⟩) (hgrow.block gg (by omega) NE.out)).trans ((z.below.cell (p := ⟨gg, n * 4 + 2, none⟩) lg3).trans e3)
  have z4 := (World.frozen?_of_block (a := ⟨gg, n * 4 + 2, none⟩) (hgrow.block gg (by omega) NE.out)).trans ((z.below.frozen (p := ⟨gg, n * 4 + 2, none⟩) lg3).trans z3)
  have lg4 : gg < w4.heap.size := by have := hgrow.size; omega
  have k4 := (K3.out.later z).grown (N := B) hgrow (fun r hr => (HV3.out.lt r hr).1) tB
  obtain ⟨c4, y4, l4⟩ := k4.all
  have bz : Below gb W1 z.out := KB3.out.trans (z.below.mono (by have := KB3.out.size; omega))
  have b4 : Below t w w4 := Below.grown (HB1.out.trans (bz.mono (by omega))) hgrow (by omega) (fun r hr => by have := (HV3.out.lt r hr).1; omega)
  have eP : ∀ j, w4.cell? ⟨Bp, j, none⟩ = w.cell? ⟨Bp, j, none⟩ := fun j => b4.cell (p := ⟨Bp, j, none⟩) pt
  have r0 := (eP (o)).trans QS.out.1
  have r1 := (eP (o + 1)).trans QS.out.2
  have lp4 : Bp < w4.heap.size := by omega
  have K4 := Lib.hid k4
  have HO4 := Lib.hid hown
  have HG4 := Lib.hid hgrow
  have HL4 := Lib.hid hlies
  have B4 := Lib.hid b4
  clear k4 hown hgrow hlies b4 eP bz
  gi_wp2_with (fail)
  go_wp2_with (fail)
  have s4 := Subs.seg (HS3.out.later z) (by rw [HN.out]) (by rw [HSN.out]; exact HO4.out) HG4.out HL4.out
  rw [HN.out] at s4
  refine bodyPost_end (v := .tuple #[]) (by simp [results, Try.results46, go_sem]) rfl ⟨rfl, .slice (some ⟨g4, 0, none⟩) (sn + 1) cp4, (((K4.out.other (n * 4 + 2) _ (by omega)).set 3 _).set 4 _).eq (by simp), (s4.other tB).other tB, ?_⟩
  exact Below.setCell (Below.setCell (Below.setCell B4.out (by show t ≤ gg; omega) _) (Nat.le_refl _) _) (Nat.le_refl _) _


set_option maxRecDepth 100000 in
set_option maxHeartbeats 4000000 in
theorem take_seg2 (w : World) (t B Bp o m c : Nat) (vv v : Value) (gg cgg : Nat) (a b p0 p1 p2 p3 : Int) (l : List (SubP × Value)) (s : SubP) (n sn : Nat) (hn : l.length = n) (hsn : s.segs.length = sn) (n9 : n ≤ 1000) (sn9 : sn ≤ 1000) (m9 : m ≤ 1000000)
    (hb : Blk w t 93 #[vv, .slice (some ⟨Bp, o, none⟩) (m + 2) c, .slice (some ⟨gg, 0, none⟩) (n + 1) cgg, .int .i64 a, .int .i64 b]) (hc : m + 2 ≤ c) (c9 : c ≤ maxLen) (tB : t < B) (pt : Bp < t) (Bw : B ≤ w.heap.size)
    (q0 : w.cell? ⟨Bp, o, none⟩ = some (.int .i64 p0)) (q1 : w.cell? ⟨Bp, o + 1, none⟩ = some (.int .i64 p1)) (q2 : w.cell? ⟨Bp, o + 2, none⟩ = some (.int .i64 p2)) (q3 : w.cell? ⟨Bp, o + 3, none⟩ = some (.int .i64 p3)) (hs : Subs w B (.slice (some ⟨gg, 0, none⟩) (n + 1) cgg) (l ++ [(s, v)])) (pa : Option Addr) (hpv : (if c = 2 then (some ⟨Bp, o, none⟩ : Option Addr) else some ⟨Bp, o + 4, none⟩) = pa) :
    Calls Try.prog 46 #[.pointer (some ⟨t, 0, none⟩), .int .i64 3] w fun e w' => e = .returned (.tuple #[]) ∧ ∃ v', Blk w' t 93 #[vv, .slice pa m (c - 2), .slice (some ⟨gg, 0, none⟩) (n + 1) cgg, .int .i64 p2, .int .i64 p3] ∧ Subs w' B (.slice (some ⟨gg, 0, none⟩) (n + 1) cgg) (l ++ [(⟨s.st, s.segs ++ [(sg3 a b p0 p1 p2 p3)], s.cl⟩, v')]) ∧ Below t w w' := by
  obtain ⟨i0, hi0, hz0, hz1, hz2⟩ := infoSeg
  have f0 : w.cell? ⟨t, 0, none⟩ = some vv := by rw [hb.cell]; rfl
  have f1 : w.cell? ⟨t, 1, none⟩ = some (.slice (some ⟨Bp, o, none⟩) (m + 2) c) := by rw [hb.cell]; rfl
  have f2 : w.cell? ⟨t, 2, none⟩ = some (.slice (some ⟨gg, 0, none⟩) (n + 1) cgg) := by rw [hb.cell]; rfl
  have f3 : w.cell? ⟨t, 3, none⟩ = some (.int .i64 a) := by rw [hb.cell]; rfl
  have f4 : w.cell? ⟨t, 4, none⟩ = some (.int .i64 b) := by rw [hb.cell]; rfl
  have g1 : w.frozen? ⟨t, 1, none⟩ = false := hb.frozen 1
  have lt := hb.lt
  have lp : Bp < w.heap.size := by omega
  have ht := fun v => tk_c 3 v
  rw [show tkV 3 = 2 from rfl] at ht
  unfold maxLen at c9
  have HB := Lib.hid hb
  have HS := Lib.hid hs
  have HN := Lib.hid hn
  have HSN := Lib.hid hsn
  have HT := Lib.hid ht
  have HPV := Lib.hid hpv
  clear hb hs hn ht hsn hpv
  go_enter Try.func46, Try.ntmps46
  go_wp2_with (fail)
  refine wp_region_later (by kernel_rfl) (by kernel_rfl) ?_
  repeat (go_big_quiet_step ((first | (go_at_call 64; with_reducible exact Later.call _ (HT.out _)))))
  refine wpQuiet_nil ?_
  intro x
  go_upto_region 4 with (fail)
  rw [HPV.out]
  obtain ⟨W0, hW0⟩ : ∃ W0, W0 = x.out.setCell ⟨t, 1, none⟩ (.slice pa m (c - 2)) := ⟨_, rfl⟩
  have hsz : x.out.heap.size = W0.heap.size := by rw [hW0]; simp
  rw [← hW0, hsz]
  have k0 : Blk W0 t 93 #[vv, .slice pa m (c - 2), .slice (some ⟨gg, 0, none⟩) (n + 1) cgg, .int .i64 a, .int .i64 b] := by rw [hW0]; exact ((HB.out.later x).set 1 _).eq (by simp)
  have s0 : Subs W0 B (.slice (some ⟨gg, 0, none⟩) (n + 1) cgg) (l ++ [(s, v)]) := by rw [hW0]; exact (HS.out.later x).other tB
  have b0 : Below t w W0 := by rw [hW0]; exact Below.setCell (x.below.mono (Nat.le_of_lt lt)) (Nat.le_refl _) _
  have Bgb : B ≤ W0.heap.size := by have := x.size_le; omega
  clear hW0 hsz x
  have hgb : Blk (W0.alloc (.cells #[.int .i64 0, .int .i64 0, .int .i64 0, .int .i64 0, .int .i64 0, .int .i64 0, .int .i64 0, .int .i64 0, .int .i64 3] 26)) W0.heap.size 26 [.int .i64 0, .int .i64 0, .int .i64 0, .int .i64 0, .int .i64 0, .int .i64 0, .int .i64 0, .int .i64 0, .int .i64 3].toArray := Blk.new' rfl
  have k1 : Blk (W0.alloc (.cells #[.int .i64 0, .int .i64 0, .int .i64 0, .int .i64 0, .int .i64 0, .int .i64 0, .int .i64 0, .int .i64 0, .int .i64 3] 26)) t 93 #[vv, .slice pa m (c - 2), .slice (some ⟨gg, 0, none⟩) (n + 1) cgg, .int .i64 a, .int .i64 b] := k0.alloc _
  have b1 : Below t w (W0.alloc (.cells #[.int .i64 0, .int .i64 0, .int .i64 0, .int .i64 0, .int .i64 0, .int .i64 0, .int .i64 0, .int .i64 0, .int .i64 3] 26)) := b0.alloc (by omega) _
  have bW : Below W0.heap.size W0 (W0.alloc (.cells #[.int .i64 0, .int .i64 0, .int .i64 0, .int .i64 0, .int .i64 0, .int .i64 0, .int .i64 0, .int .i64 0, .int .i64 3] 26)) := (Below.refl _ _).alloc (Nat.le_refl _) _
  have hsr : ∀ j u, [.int .i64 p0, .int .i64 p1, .int .i64 p2, .int .i64 p3][j]? = some u → (W0.alloc (.cells #[.int .i64 0, .int .i64 0, .int .i64 0, .int .i64 0, .int .i64 0, .int .i64 0, .int .i64 0, .int .i64 0, .int .i64 3] 26)).cell? ((⟨Bp, o, none⟩ : Addr).add j) = some u := by
    have e : ∀ j, (W0.alloc (.cells #[.int .i64 0, .int .i64 0, .int .i64 0, .int .i64 0, .int .i64 0, .int .i64 0, .int .i64 0, .int .i64 0, .int .i64 3] 26)).cell? ⟨Bp, j, none⟩ = w.cell? ⟨Bp, j, none⟩ := fun j => b1.cell (p := ⟨Bp, j, none⟩) pt
    intro j u hu
    rw [Addr.add_mid, e]
    match j, hu with
    | 0, hu => simp at hu; rw [← hu]; exact q0
    | 1, hu => simp at hu; rw [← hu]; exact q1
    | 2, hu => simp at hu; rw [← hu]; exact q2
    | 3, hu => simp at hu; rw [← hu]; exact q3
    | (j + 4), hu => simp at hu
  have HBW := Lib.hid bW
  have HS0 := Lib.hid s0
  clear bW s0 k0 b0
  obtain ⟨gb, hgbe⟩ : ∃ gb, W0.heap.size = gb := ⟨_, rfl⟩
  rw [hgbe] at hgb HBW Bgb ⊢
  have HGE := Lib.hid hgbe
  clear hgbe
  generalize W0.alloc (.cells #[.int .i64 0, .int .i64 0, .int .i64 0, .int .i64 0, .int .i64 0, .int .i64 0, .int .i64 0, .int .i64 0, .int .i64 3] 26) = W1 at *
  have h13 : W1.cell? ⟨t, 3, none⟩ = some (.int .i64 a) := by rw [k1.cell]; rfl
  have h14 : W1.cell? ⟨t, 4, none⟩ = some (.int .i64 b) := by rw [k1.cell]; rfl
  have lt1 := k1.lt
  have lgb := hgb.lt
  have tgb : t < gb := by omega
  have bgb : Bp < gb := by omega
  have KG := Lib.hid hgb
  have K1 := Lib.hid k1
  have HB1 := Lib.hid b1
  have HSRC := Lib.hid hsr
  have QS := Lib.hid (And.intro q0 (And.intro q1 (And.intro q2 q3)))
  clear hgb k1 b1 hsr q0 q1 q2 q3 f0 f1 f2 f3 f4 g1
  go_region_held3 (fun w' => w'.cell? ⟨t, 3, none⟩ = some (.int .i64 a) ∧ w'.cell? ⟨t, 4, none⟩ = some (.int .i64 b)) ((simp [go_sem, *]; done))
    (first | (refine step_copy_wide rfl _ _ 30 30 rfl 23 2 1 Try.underlying30 infoPtS gb 0 4 4 ⟨W1.heap.size, 0, none⟩ 1 1 rfl rfl [.int .i64 0, .int .i64 0, .int .i64 0, .int .i64 0, .int .i64 0, .int .i64 0, .int .i64 0, .int .i64 0, .int .i64 3] 26 (KG.out.alloc _).drew [.int .i64 a, .int .i64 b] rfl rfl (blk_at (Blk.new' rfl)) (by simp) (fun u hu => by simp only [List.mem_cons, List.not_mem_nil, or_false] at hu; rcases hu with rfl | rfl <;> rfl) ?_; intro w2 hb2 hg2; have kb := (Below.grown (((Below.refl gb W1).alloc (Nat.le_of_lt lgb) _).drew) hg2 (show gb ≤ (W1.alloc _).heap.size by simp only [World.size_alloc]; omega) (fun r hr => by cases hr; exact Nat.le_refl _)); have kt := K1.out.below kb tgb; have h23 : w2.cell? ⟨t, 3, none⟩ = some (.int .i64 a) := (by rw [kt.cell]; rfl); have h24 : w2.cell? ⟨t, 4, none⟩ = some (.int .i64 b) := (by rw [kt.cell]; rfl); have KB2 := Lib.hid kb; have H2 := Lib.hid hb2; clear hb2 hg2 kb kt) | (refine step_copy_wide rfl _ _ 30 30 rfl 23 2 2 Try.underlying30 infoPtS gb 2 3 3 ⟨Bp, o, none⟩ 2 c rfl rfl [.int .i64 a, .int .i64 b, .int .i64 0, .int .i64 0, .int .i64 0, .int .i64 0, .int .i64 0, .int .i64 0, .int .i64 3] 26 (H2.out) [.int .i64 p0, .int .i64 p1, .int .i64 p2, .int .i64 p3] rfl rfl (fun j u hu => (KB2.out.cell (p := (⟨Bp, o, none⟩ : Addr).add j) (by rw [Addr.add_mid]; exact bgb)).trans (HSRC.out j u hu)) (by simp) (fun u hu => by simp only [List.mem_cons, List.not_mem_nil, or_false] at hu; rcases hu with rfl | rfl | rfl | rfl <;> rfl) ?_; intro w3 hb3 hg3; have kb3 := Below.grown KB2.out hg3 (show gb ≤ w2.heap.size by have := KB2.out.size; omega) (fun r hr => by cases hr; exact Nat.le_refl _); have kt := K1.out.below kb3 tgb; have h33 : w3.cell? ⟨t, 3, none⟩ = some (.int .i64 a) := (by rw [kt.cell]; rfl); have h34 : w3.cell? ⟨t, 4, none⟩ = some (.int .i64 b) := (by rw [kt.cell]; rfl); have KB3 := Lib.hid kb3; have H3 := Lib.hid hb3; clear hb3 hg3 kb3 kt))
  have s3 : Subs w3 B (.slice (some ⟨gg, 0, none⟩) (n + 1) cgg) (l ++ [(s, v)]) := HS0.out.later ⟨w3, by rw [HGE.out]; exact HBW.out.trans KB3.out⟩
  have kg3 : Blk w3 gb 26 [.int .i64 a, .int .i64 b, .int .i64 p0, .int .i64 p1, .int .i64 p2, .int .i64 p3, .int .i64 0, .int .i64 0, .int .i64 3].toArray := H3.out
  have k3 := K1.out.below KB3.out tgb
  obtain ⟨lc3, lz3, lB3, lg3⟩ := s3.lastCells
  have e3 : w3.cell? ⟨gg, n * 4 + 2, none⟩ = some v := by have := lc3 2 (by omega); rw [HN.out] at this; exact this
  have z3 := lz3 (n * 4 + 2)
  have ne3 := s3.rowNe
  have hv3 := s3.rows (s, v) (by simp)
  simp only [] at hv3
  rw [HSN.out] at hv3
  have hla := fun W' hW' => last_c vv (.slice pa m (c - 2)) (.int .i64 a) (.int .i64 b) gg n cgg t W' hW' (by omega)
  obtain ⟨cg3, zg3, lgb3⟩ := kg3.all
  obtain ⟨ct3, zt3, lt3⟩ := k3.all
  have KG3 := Lib.hid kg3
  have K3 := Lib.hid k3
  have HV3 := Lib.hid hv3
  have NE := Lib.hid ne3
  have HLA := Lib.hid hla
  have HS3 := Lib.hid s3
  have gB : B ≤ gg := lB3
  clear kg3 k3 hv3 ne3 hla s3 lc3 lz3 lB3 h13 h14
  go_wp2_with (fail)
  refine wp_region_one [0, 1, 2, 3, 4, 5, 6, 7] 8 [9, 10, 11, 12] (fun g => .slice (some ⟨g, 0, none⟩) 1 1) (.cells #[.int .i64 a, .int .i64 b, .int .i64 p0, .int .i64 p1, .int .i64 p2, .int .i64 p3, .int .i64 0, .int .i64 0, .int .i64 3] 26) (by kernel_rfl) (by kernel_rfl) (by kernel_rfl) (by kernel_rfl) (by kernel_rfl) (noInit_ofN (by kernel_rfl)) (fun y => ?_)
  simp only [pick, List.getElem?_cons_zero, List.getElem?_cons_succ]
  repeat (go_big_quiet_step ((first | (go_at_call 68; with_reducible exact Later.call _ (HLA.out _ ((K3.out.later _).later _))))))
  refine wpQuiet_nil ?_
  refine ⟨(by intro o ho; obtain rfl := Option.some.inj ho; refine ⟨rfl, fun wc => ?_⟩; simp [execOp, go_sem]; done), ?_⟩
  intro gz z hgz hz
  simp only [dstOf, List.getElem?_toArray, List.getElem?_cons_succ, List.getElem?_cons_zero, Option.bind_some, Act.put, List.setIfInBounds_toArray, List.set_cons_succ, List.set_cons_zero]
  have bgz : Blk z.out gz 26 (flE [(sg3 a b p0 p1 p2 p3)]).toArray := hz
  have HGZ := Lib.hid bgz
  clear hz bgz cg3 zg3 ct3 zt3
  refine wpListIn_append_at _ rfl _ _ 58 rfl B 26 i0 (.agg #[.int .i64 0, .int .i64 0, .int .i64 0, .int .i64 0, .int .i64 0, .int .i64 0, .int .i64 0, .int .i64 0, .int .i64 0]) 9 72 Try.underlying58 hi0 hz0 hz1 hz2 rfl (by decide) v sn (flE s.segs) rfl (own_later HV3.out z) ⟨gz, 0, none⟩ 1 1 (flE [(sg3 a b p0 p1 p2 p3)]) rfl rfl (blk_at HGZ.out) (flE_one _) (by unfold maxLen; omega) (by omega) (by have := z.size_le; have := KB3.out.size; omega) ?_
  intro v' w4 hown hgrow hlies
  obtain ⟨g4, cp4, rfl⟩ := Go.Joins.ownsRow_form hown (by omega)
  have zs := z.size_le
  have d4 := (World.cell?_of_block (a := ⟨gg, n * 4 + 2, none⟩) (hgrow.block gg (by omega) NE.out)).trans ((z.below.cell (p := ⟨gg, n * 4 + 2, none⟩) lg3).trans e3)
  have z4 := (World.frozen?_of_block (a := ⟨gg, n * 4 + 2, none⟩) (hgrow.block gg (by omega) NE.out)).trans ((z.below.frozen (p := ⟨gg, n * 4 + 2, none⟩) lg3).trans z3)
  have lg4 : gg < w4.heap.size := by have := hgrow.size; omega
  have k4 := (K3.out.later z).grown (N := B) hgrow (fun r hr => (HV3.out.lt r hr).1) tB
  obtain ⟨c4, y4, l4⟩ := k4.all
  have bz : Below gb W1 z.out := KB3.out.trans (z.below.mono (by have := KB3.out.size; omega))
  have b4 : Below t w w4 := Below.grown (HB1.out.trans (bz.mono (by omega))) hgrow (by omega) (fun r hr => by have := (HV3.out.lt r hr).1; omega)
  have eP : ∀ j, w4.cell? ⟨Bp, j, none⟩ = w.cell? ⟨Bp, j, none⟩ := fun j => b4.cell (p := ⟨Bp, j, none⟩) pt
  have r0 := (eP (o)).trans QS.out.1
  have r1 := (eP (o + 1)).trans QS.out.2.1
  have r2 := (eP (o + 2)).trans QS.out.2.2.1
  have r3 := (eP (o + 3)).trans QS.out.2.2.2
  have lp4 : Bp < w4.heap.size := by omega
  have K4 := Lib.hid k4
  have HO4 := Lib.hid hown
  have HG4 := Lib.hid hgrow
  have HL4 := Lib.hid hlies
  have B4 := Lib.hid b4
  clear k4 hown hgrow hlies b4 eP bz
  gi_wp2_with (fail)
  go_wp2_with (fail)
  have s4 := Subs.seg (HS3.out.later z) (by rw [HN.out]) (by rw [HSN.out]; exact HO4.out) HG4.out HL4.out
  rw [HN.out] at s4
  refine bodyPost_end (v := .tuple #[]) (by simp [results, Try.results46, go_sem]) rfl ⟨rfl, .slice (some ⟨g4, 0, none⟩) (sn + 1) cp4, (((K4.out.other (n * 4 + 2) _ (by omega)).set 3 _).set 4 _).eq (by simp), (s4.other tB).other tB, ?_⟩
  exact Below.setCell (Below.setCell (Below.setCell B4.out (by show t ≤ gg; omega) _) (Nat.le_refl _) _) (Nat.le_refl _) _


set_option maxRecDepth 100000 in
set_option maxHeartbeats 4000000 in
theorem take_seg3 (w : World) (t B Bp o m c : Nat) (vv v : Value) (gg cgg : Nat) (a b p0 p1 p2 p3 p4 p5 : Int) (l : List (SubP × Value)) (s : SubP) (n sn : Nat) (hn : l.length = n) (hsn : s.segs.length = sn) (n9 : n ≤ 1000) (sn9 : sn ≤ 1000) (m9 : m ≤ 1000000)
    (hb : Blk w t 93 #[vv, .slice (some ⟨Bp, o, none⟩) (m + 3) c, .slice (some ⟨gg, 0, none⟩) (n + 1) cgg, .int .i64 a, .int .i64 b]) (hc : m + 3 ≤ c) (c9 : c ≤ maxLen) (tB : t < B) (pt : Bp < t) (Bw : B ≤ w.heap.size)
    (q0 : w.cell? ⟨Bp, o, none⟩ = some (.int .i64 p0)) (q1 : w.cell? ⟨Bp, o + 1, none⟩ = some (.int .i64 p1)) (q2 : w.cell? ⟨Bp, o + 2, none⟩ = some (.int .i64 p2)) (q3 : w.cell? ⟨Bp, o + 3, none⟩ = some (.int .i64 p3)) (q4 : w.cell? ⟨Bp, o + 4, none⟩ = some (.int .i64 p4)) (q5 : w.cell? ⟨Bp, o + 5, none⟩ = some (.int .i64 p5)) (hs : Subs w B (.slice (some ⟨gg, 0, none⟩) (n + 1) cgg) (l ++ [(s, v)])) (pa : Option Addr) (hpv : (if c = 3 then (some ⟨Bp, o, none⟩ : Option Addr) else some ⟨Bp, o + 6, none⟩) = pa) :
    Calls Try.prog 46 #[.pointer (some ⟨t, 0, none⟩), .int .i64 4] w fun e w' => e = .returned (.tuple #[]) ∧ ∃ v', Blk w' t 93 #[vv, .slice pa m (c - 3), .slice (some ⟨gg, 0, none⟩) (n + 1) cgg, .int .i64 p4, .int .i64 p5] ∧ Subs w' B (.slice (some ⟨gg, 0, none⟩) (n + 1) cgg) (l ++ [(⟨s.st, s.segs ++ [(sg4 a b p0 p1 p2 p3 p4 p5)], s.cl⟩, v')]) ∧ Below t w w' := by
  obtain ⟨i0, hi0, hz0, hz1, hz2⟩ := infoSeg
  have f0 : w.cell? ⟨t, 0, none⟩ = some vv := by rw [hb.cell]; rfl
  have f1 : w.cell? ⟨t, 1, none⟩ = some (.slice (some ⟨Bp, o, none⟩) (m + 3) c) := by rw [hb.cell]; rfl
  have f2 : w.cell? ⟨t, 2, none⟩ = some (.slice (some ⟨gg, 0, none⟩) (n + 1) cgg) := by rw [hb.cell]; rfl
  have f3 : w.cell? ⟨t, 3, none⟩ = some (.int .i64 a) := by rw [hb.cell]; rfl
  have f4 : w.cell? ⟨t, 4, none⟩ = some (.int .i64 b) := by rw [hb.cell]; rfl
  have g1 : w.frozen? ⟨t, 1, none⟩ = false := hb.frozen 1
  have lt := hb.lt
  have lp : Bp < w.heap.size := by omega
  have ht := fun v => tk_c 4 v
  rw [show tkV 4 = 3 from rfl] at ht
  unfold maxLen at c9
  have HB := Lib.hid hb
  have HS := Lib.hid hs
  have HN := Lib.hid hn
  have HSN := Lib.hid hsn
  have HT := Lib.hid ht
  have HPV := Lib.hid hpv
  clear hb hs hn ht hsn hpv
  go_enter Try.func46, Try.ntmps46
  go_wp2_with (fail)
  refine wp_region_later (by kernel_rfl) (by kernel_rfl) ?_
  repeat (go_big_quiet_step ((first | (go_at_call 64; with_reducible exact Later.call _ (HT.out _)))))
  refine wpQuiet_nil ?_
  intro x
  go_upto_region 4 with (fail)
  rw [HPV.out]
  obtain ⟨W0, hW0⟩ : ∃ W0, W0 = x.out.setCell ⟨t, 1, none⟩ (.slice pa m (c - 3)) := ⟨_, rfl⟩
  have hsz : x.out.heap.size = W0.heap.size := by rw [hW0]; simp
  rw [← hW0, hsz]
  have k0 : Blk W0 t 93 #[vv, .slice pa m (c - 3), .slice (some ⟨gg, 0, none⟩) (n + 1) cgg, .int .i64 a, .int .i64 b] := by rw [hW0]; exact ((HB.out.later x).set 1 _).eq (by simp)
  have s0 : Subs W0 B (.slice (some ⟨gg, 0, none⟩) (n + 1) cgg) (l ++ [(s, v)]) := by rw [hW0]; exact (HS.out.later x).other tB
  have b0 : Below t w W0 := by rw [hW0]; exact Below.setCell (x.below.mono (Nat.le_of_lt lt)) (Nat.le_refl _) _
  have Bgb : B ≤ W0.heap.size := by have := x.size_le; omega
  clear hW0 hsz x
  have hgb : Blk (W0.alloc (.cells #[.int .i64 0, .int .i64 0, .int .i64 0, .int .i64 0, .int .i64 0, .int .i64 0, .int .i64 0, .int .i64 0, .int .i64 4] 26)) W0.heap.size 26 [.int .i64 0, .int .i64 0, .int .i64 0, .int .i64 0, .int .i64 0, .int .i64 0, .int .i64 0, .int .i64 0, .int .i64 4].toArray := Blk.new' rfl
  have k1 : Blk (W0.alloc (.cells #[.int .i64 0, .int .i64 0, .int .i64 0, .int .i64 0, .int .i64 0, .int .i64 0, .int .i64 0, .int .i64 0, .int .i64 4] 26)) t 93 #[vv, .slice pa m (c - 3), .slice (some ⟨gg, 0, none⟩) (n + 1) cgg, .int .i64 a, .int .i64 b] := k0.alloc _
  have b1 : Below t w (W0.alloc (.cells #[.int .i64 0, .int .i64 0, .int .i64 0, .int .i64 0, .int .i64 0, .int .i64 0, .int .i64 0, .int .i64 0, .int .i64 4] 26)) := b0.alloc (by omega) _
  have bW : Below W0.heap.size W0 (W0.alloc (.cells #[.int .i64 0, .int .i64 0, .int .i64 0, .int .i64 0, .int .i64 0, .int .i64 0, .int .i64 0, .int .i64 0, .int .i64 4] 26)) := (Below.refl _ _).alloc (Nat.le_refl _) _
  have hsr : ∀ j u, [.int .i64 p0, .int .i64 p1, .int .i64 p2, .int .i64 p3, .int .i64 p4, .int .i64 p5][j]? = some u → (W0.alloc (.cells #[.int .i64 0, .int .i64 0, .int .i64 0, .int .i64 0, .int .i64 0, .int .i64 0, .int .i64 0, .int .i64 0, .int .i64 4] 26)).cell? ((⟨Bp, o, none⟩ : Addr).add j) = some u := by
    have e : ∀ j, (W0.alloc (.cells #[.int .i64 0, .int .i64 0, .int .i64 0, .int .i64 0, .int .i64 0, .int .i64 0, .int .i64 0, .int .i64 0, .int .i64 4] 26)).cell? ⟨Bp, j, none⟩ = w.cell? ⟨Bp, j, none⟩ := fun j => b1.cell (p := ⟨Bp, j, none⟩) pt
    intro j u hu
    rw [Addr.add_mid, e]
    match j, hu with
    | 0, hu => simp at hu; rw [← hu]; exact q0
    | 1, hu => simp at hu; rw [← hu]; exact q1
    | 2, hu => simp at hu; rw [← hu]; exact q2
    | 3, hu => simp at hu; rw [← hu]; exact q3
    | 4, hu => simp at hu; rw [← hu]; exact q4
    | 5, hu => simp at hu; rw [← hu]; exact q5
    | (j + 6), hu => simp at hu
  have HBW := Lib.hid bW
  have HS0 := Lib.hid s0
  clear bW s0 k0 b0
  obtain ⟨gb, hgbe⟩ : ∃ gb, W0.heap.size = gb := ⟨_, rfl⟩
  rw [hgbe] at hgb HBW Bgb ⊢
  have HGE := Lib.hid hgbe
  clear hgbe
  generalize W0.alloc (.cells #[.int .i64 0, .int .i64 0, .int .i64 0, .int .i64 0, .int .i64 0, .int .i64 0, .int .i64 0, .int .i64 0, .int .i64 4] 26) = W1 at *
  have h13 : W1.cell? ⟨t, 3, none⟩ = some (.int .i64 a) := by rw [k1.cell]; rfl
  have h14 : W1.cell? ⟨t, 4, none⟩ = some (.int .i64 b) := by rw [k1.cell]; rfl
  have lt1 := k1.lt
  have lgb := hgb.lt
  have tgb : t < gb := by omega
  have bgb : Bp < gb := by omega
  have KG := Lib.hid hgb
  have K1 := Lib.hid k1
  have HB1 := Lib.hid b1
  have HSRC := Lib.hid hsr
  have QS := Lib.hid (And.intro q0 (And.intro q1 (And.intro q2 (And.intro q3 (And.intro q4 q5)))))
  clear hgb k1 b1 hsr q0 q1 q2 q3 q4 q5 f0 f1 f2 f3 f4 g1
  go_region_held3 (fun w' => w'.cell? ⟨t, 3, none⟩ = some (.int .i64 a) ∧ w'.cell? ⟨t, 4, none⟩ = some (.int .i64 b)) ((simp [go_sem, *]; done))
    (first | (refine step_copy_wide rfl _ _ 30 30 rfl 23 2 1 Try.underlying30 infoPtS gb 0 4 4 ⟨W1.heap.size, 0, none⟩ 1 1 rfl rfl [.int .i64 0, .int .i64 0, .int .i64 0, .int .i64 0, .int .i64 0, .int .i64 0, .int .i64 0, .int .i64 0, .int .i64 4] 26 (KG.out.alloc _).drew [.int .i64 a, .int .i64 b] rfl rfl (blk_at (Blk.new' rfl)) (by simp) (fun u hu => by simp only [List.mem_cons, List.not_mem_nil, or_false] at hu; rcases hu with rfl | rfl <;> rfl) ?_; intro w2 hb2 hg2; have kb := (Below.grown (((Below.refl gb W1).alloc (Nat.le_of_lt lgb) _).drew) hg2 (show gb ≤ (W1.alloc _).heap.size by simp only [World.size_alloc]; omega) (fun r hr => by cases hr; exact Nat.le_refl _)); have kt := K1.out.below kb tgb; have h23 : w2.cell? ⟨t, 3, none⟩ = some (.int .i64 a) := (by rw [kt.cell]; rfl); have h24 : w2.cell? ⟨t, 4, none⟩ = some (.int .i64 b) := (by rw [kt.cell]; rfl); have KB2 := Lib.hid kb; have H2 := Lib.hid hb2; clear hb2 hg2 kb kt) | (refine step_copy_wide rfl _ _ 30 30 rfl 23 2 3 Try.underlying30 infoPtS gb 2 3 3 ⟨Bp, o, none⟩ 3 c rfl rfl [.int .i64 a, .int .i64 b, .int .i64 0, .int .i64 0, .int .i64 0, .int .i64 0, .int .i64 0, .int .i64 0, .int .i64 4] 26 (H2.out) [.int .i64 p0, .int .i64 p1, .int .i64 p2, .int .i64 p3, .int .i64 p4, .int .i64 p5] rfl rfl (fun j u hu => (KB2.out.cell (p := (⟨Bp, o, none⟩ : Addr).add j) (by rw [Addr.add_mid]; exact bgb)).trans (HSRC.out j u hu)) (by simp) (fun u hu => by simp only [List.mem_cons, List.not_mem_nil, or_false] at hu; rcases hu with rfl | rfl | rfl | rfl | rfl | rfl <;> rfl) ?_; intro w3 hb3 hg3; have kb3 := Below.grown KB2.out hg3 (show gb ≤ w2.heap.size by have := KB2.out.size; omega) (fun r hr => by cases hr; exact Nat.le_refl _); have kt := K1.out.below kb3 tgb; have h33 : w3.cell? ⟨t, 3, none⟩ = some (.int .i64 a) := (by rw [kt.cell]; rfl); have h34 : w3.cell? ⟨t, 4, none⟩ = some (.int .i64 b) := (by rw [kt.cell]; rfl); have KB3 := Lib.hid kb3; have H3 := Lib.hid hb3; clear hb3 hg3 kb3 kt))
  have s3 : Subs w3 B (.slice (some ⟨gg, 0, none⟩) (n + 1) cgg) (l ++ [(s, v)]) := HS0.out.later ⟨w3, by rw [HGE.out]; exact HBW.out.trans KB3.out⟩
  have kg3 : Blk w3 gb 26 [.int .i64 a, .int .i64 b, .int .i64 p0, .int .i64 p1, .int .i64 p2, .int .i64 p3, .int .i64 p4, .int .i64 p5, .int .i64 4].toArray := H3.out
  have k3 := K1.out.below KB3.out tgb
  obtain ⟨lc3, lz3, lB3, lg3⟩ := s3.lastCells
  have e3 : w3.cell? ⟨gg, n * 4 + 2, none⟩ = some v := by have := lc3 2 (by omega); rw [HN.out] at this; exact this
  have z3 := lz3 (n * 4 + 2)
  have ne3 := s3.rowNe
  have hv3 := s3.rows (s, v) (by simp)
  simp only [] at hv3
  rw [HSN.out] at hv3
  have hla := fun W' hW' => last_c vv (.slice pa m (c - 3)) (.int .i64 a) (.int .i64 b) gg n cgg t W' hW' (by omega)
  obtain ⟨cg3, zg3, lgb3⟩ := kg3.all
  obtain ⟨ct3, zt3, lt3⟩ := k3.all
  have KG3 := Lib.hid kg3
  have K3 := Lib.hid k3
  have HV3 := Lib.hid hv3
  have NE := Lib.hid ne3
  have HLA := Lib.hid hla
  have HS3 := Lib.hid s3
  have gB : B ≤ gg := lB3
  clear kg3 k3 hv3 ne3 hla s3 lc3 lz3 lB3 h13 h14
  go_wp2_with (fail)
  refine wp_region_one [0, 1, 2, 3, 4, 5, 6, 7] 8 [9, 10, 11, 12] (fun g => .slice (some ⟨g, 0, none⟩) 1 1) (.cells #[.int .i64 a, .int .i64 b, .int .i64 p0, .int .i64 p1, .int .i64 p2, .int .i64 p3, .int .i64 p4, .int .i64 p5, .int .i64 4] 26) (by kernel_rfl) (by kernel_rfl) (by kernel_rfl) (by kernel_rfl) (by kernel_rfl) (noInit_ofN (by kernel_rfl)) (fun y => ?_)
  simp only [pick, List.getElem?_cons_zero, List.getElem?_cons_succ]
  repeat (go_big_quiet_step ((first | (go_at_call 68; with_reducible exact Later.call _ (HLA.out _ ((K3.out.later _).later _))))))
  refine wpQuiet_nil ?_
  refine ⟨(by intro o ho; obtain rfl := Option.some.inj ho; refine ⟨rfl, fun wc => ?_⟩; simp [execOp, go_sem]; done), ?_⟩
  intro gz z hgz hz
  simp only [dstOf, List.getElem?_toArray, List.getElem?_cons_succ, List.getElem?_cons_zero, Option.bind_some, Act.put, List.setIfInBounds_toArray, List.set_cons_succ, List.set_cons_zero]
  have bgz : Blk z.out gz 26 (flE [(sg4 a b p0 p1 p2 p3 p4 p5)]).toArray := hz
  have HGZ := Lib.hid bgz
  clear hz bgz cg3 zg3 ct3 zt3
  refine wpListIn_append_at _ rfl _ _ 58 rfl B 26 i0 (.agg #[.int .i64 0, .int .i64 0, .int .i64 0, .int .i64 0, .int .i64 0, .int .i64 0, .int .i64 0, .int .i64 0, .int .i64 0]) 9 72 Try.underlying58 hi0 hz0 hz1 hz2 rfl (by decide) v sn (flE s.segs) rfl (own_later HV3.out z) ⟨gz, 0, none⟩ 1 1 (flE [(sg4 a b p0 p1 p2 p3 p4 p5)]) rfl rfl (blk_at HGZ.out) (flE_one _) (by unfold maxLen; omega) (by omega) (by have := z.size_le; have := KB3.out.size; omega) ?_
  intro v' w4 hown hgrow hlies
  obtain ⟨g4, cp4, rfl⟩ := Go.Joins.ownsRow_form hown (by omega)
  have zs := z.size_le
  have d4 := (World.cell?_of_block (a := ⟨gg, n * 4 + 2, none⟩) (hgrow.block gg (by omega) NE.out)).trans ((z.below.cell (p := ⟨gg, n * 4 + 2, none⟩) lg3).trans e3)
  have z4 := (World.frozen?_of_block (a := ⟨gg, n * 4 + 2, none⟩) (hgrow.block gg (by omega) NE.out)).trans ((z.below.frozen (p := ⟨gg, n * 4 + 2, none⟩) lg3).trans z3)
  have lg4 : gg < w4.heap.size := by have := hgrow.size; omega
  have k4 := (K3.out.later z).grown (N := B) hgrow (fun r hr => (HV3.out.lt r hr).1) tB
  obtain ⟨c4, y4, l4⟩ := k4.all
  have bz : Below gb W1 z.out := KB3.out.trans (z.below.mono (by have := KB3.out.size; omega))
  have b4 : Below t w w4 := Below.grown (HB1.out.trans (bz.mono (by omega))) hgrow (by omega) (fun r hr => by have := (HV3.out.lt r hr).1; omega)
  have eP : ∀ j, w4.cell? ⟨Bp, j, none⟩ = w.cell? ⟨Bp, j, none⟩ := fun j => b4.cell (p := ⟨Bp, j, none⟩) pt
  have r0 := (eP (o)).trans QS.out.1
  have r1 := (eP (o + 1)).trans QS.out.2.1
  have r2 := (eP (o + 2)).trans QS.out.2.2.1
  have r3 := (eP (o + 3)).trans QS.out.2.2.2.1
  have r4 := (eP (o + 4)).trans QS.out.2.2.2.2.1
  have r5 := (eP (o + 5)).trans QS.out.2.2.2.2.2
  have lp4 : Bp < w4.heap.size := by omega
  have K4 := Lib.hid k4
  have HO4 := Lib.hid hown
  have HG4 := Lib.hid hgrow
  have HL4 := Lib.hid hlies
  have B4 := Lib.hid b4
  clear k4 hown hgrow hlies b4 eP bz
  gi_wp2_with (fail)
  go_wp2_with (fail)
  have s4 := Subs.seg (HS3.out.later z) (by rw [HN.out]) (by rw [HSN.out]; exact HO4.out) HG4.out HL4.out
  rw [HN.out] at s4
  refine bodyPost_end (v := .tuple #[]) (by simp [results, Try.results46, go_sem]) rfl ⟨rfl, .slice (some ⟨g4, 0, none⟩) (sn + 1) cp4, (((K4.out.other (n * 4 + 2) _ (by omega)).set 3 _).set 4 _).eq (by simp), (s4.other tB).other tB, ?_⟩
  exact Below.setCell (Below.setCell (Below.setCell B4.out (by show t ≤ gg; omega) _) (Nat.le_refl _) _) (Nat.le_refl _) _

end Go.Proofs.Ytcdnekhpeghkiaa

/-
  A taker takes a verb: a new subpath.
-/
import Derived.Test.YtcdnekhpeghkiaaQH
import Derived.Test.YtcdnekhpeghkiaaOneF
namespace Go.Proofs.Ytcdnekhpeghkiaa
set_option linter.unusedVariables false
open Go.RowKit

theorem infoSub : ∃ i b, Try.prog.info? 60 = some i ∧ i.zero = some (.agg #[.int .i64 0, .int .i64 0, .slice none 0 0, .bool false]) ∧ i.size = 4 ∧ i.bytes = b ∧ b ≤ 100 := by
  have h : (Try.prog.info? 60).map (fun i => (i.zero, i.size, decide (i.bytes ≤ 100))) = some (some (.agg #[.int .i64 0, .int .i64 0, .slice none 0 0, .bool false]), 4, true) := by kernel_rfl
  cases e : Try.prog.info? 60 with
  | none => rw [e] at h; cases h
  | some i =>
    rw [e] at h
    simp only [Option.map_some, Option.some.injEq, Prod.mk.injEq] at h
    exact ⟨i, i.bytes, rfl, h.1, h.2.1, rfl, of_decide_eq_true h.2.2⟩
set_option maxRecDepth 100000 in
set_option maxHeartbeats 2000000 in
theorem take_move_at (w : World) (t B Bp o m c : Nat) (vv sv : Value) (x0 y0 p0 p1 : Int) (l : List (SubP × Value)) (n : Nat) (hn : l.length = n) (n9 : n ≤ 1000) (m9 : m ≤ 1000000)
    (hb : Blk w t 93 #[vv, .slice (some ⟨Bp, o, none⟩) (m + 1) c, sv, .int .i64 x0, .int .i64 y0]) (hc : m + 1 ≤ c) (c9 : c ≤ maxLen) (tB : t < B) (pt : Bp < t) (Bw : B ≤ w.heap.size)
    (q0 : w.cell? ⟨Bp, o, none⟩ = some (.int .i64 p0)) (q1 : w.cell? ⟨Bp, o + 1, none⟩ = some (.int .i64 p1)) (hs : Subs w B sv l) (pa : Option Addr) (hpv : (if c = 1 then (some ⟨Bp, o, none⟩ : Option Addr) else some ⟨Bp, o + 2, none⟩) = pa) :
    Calls Try.prog 46 #[.pointer (some ⟨t, 0, none⟩), .int .i64 1] w fun e w' => e = .returned (.tuple #[]) ∧ ∃ sv', Blk w' t 93 #[vv, .slice pa m (c - 1), sv', .int .i64 p0, .int .i64 p1] ∧ Subs w' B sv' (l ++ [(⟨(p0, p1), [], false⟩, .slice none 0 0)]) ∧ Below t w w' := by
  obtain ⟨i0, by0, hi0, hz0, hz1, hz2, hz3⟩ := infoSub
  have f0 : w.cell? ⟨t, 0, none⟩ = some vv := by rw [hb.cell]; rfl
  have f1 : w.cell? ⟨t, 1, none⟩ = some (.slice (some ⟨Bp, o, none⟩) (m + 1) c) := by rw [hb.cell]; rfl
  have f2 : w.cell? ⟨t, 2, none⟩ = some sv := by rw [hb.cell]; rfl
  have f3 : w.cell? ⟨t, 3, none⟩ = some (.int .i64 x0) := by rw [hb.cell]; rfl
  have f4 : w.cell? ⟨t, 4, none⟩ = some (.int .i64 y0) := by rw [hb.cell]; rfl
  have g1 : w.frozen? ⟨t, 1, none⟩ = false := hb.frozen 1
  have lt := hb.lt
  have lp : Bp < w.heap.size := by omega
  have ht := fun v => tk_c 1 v
  rw [show tkV 1 = 1 from rfl] at ht
  unfold maxLen at c9
  have HB := Lib.hid hb
  have HS := Lib.hid hs
  have HN := Lib.hid hn
  have HT := Lib.hid ht
  have HPV := Lib.hid hpv
  clear hb hs hn ht hpv
  go_enter Try.func46, Try.ntmps46
  go_wp2_with (fail)
  refine wp_region_later (by kernel_rfl) (by kernel_rfl) ?_
  repeat (go_big_quiet_step ((first | (go_at_call 64; with_reducible exact Later.call _ (HT.out _)))))
  refine wpQuiet_nil ?_
  intro x
  go_upto_region 7 with (fail)
  rw [HPV.out]
  obtain ⟨W1, hW1⟩ : ∃ W1, W1 = x.out.setCell ⟨t, 1, none⟩ (.slice pa m (c - 1)) := ⟨_, rfl⟩
  rw [← hW1]
  have k1 : Blk W1 t 93 #[vv, .slice pa m (c - 1), sv, .int .i64 x0, .int .i64 y0] := by
    rw [hW1]; exact ((HB.out.later x).set 1 _).eq (by simp)
  have k2 : W1.cell? ⟨Bp, o, none⟩ = some (.int .i64 p0) := by
    rw [hW1]; exact (World.cell?_of_block (Below.heap_setCell _ _ _ _ (by simp; omega))).trans ((x.below.cell (p := ⟨Bp, o, none⟩) lp).trans q0)
  have k3 : W1.cell? ⟨Bp, o + 1, none⟩ = some (.int .i64 p1) := by
    rw [hW1]; exact (World.cell?_of_block (Below.heap_setCell _ _ _ _ (by simp; omega))).trans ((x.below.cell (p := ⟨Bp, o + 1, none⟩) lp).trans q1)
  have e2 : W1.cell? ⟨t, 2, none⟩ = some sv := by rw [k1.cell]; rfl
  have lt1 := k1.lt
  have lp1 : Bp < W1.heap.size := by omega
  have o1 : W1.ownsRow B 60 4 sv n (subsV l) := by
    rw [hW1, ← HN.out]; exact ((HS.out.later x).other tB).own
  have s1 : Subs W1 B sv l := by
    rw [hW1]; exact (HS.out.later x).other tB
  have b1 : Below t w W1 := by
    rw [hW1]; exact Below.setCell (x.below.mono (Nat.le_of_lt lt)) (Nat.le_refl _) _
  have Bw1 : B ≤ W1.heap.size := by have := x.size_le; rw [hW1]; simp only [World.size_setCell]; omega
  have K1 := Lib.hid k1
  have HO1 := Lib.hid o1
  have HS1 := Lib.hid s1
  have HB1 := Lib.hid b1
  clear k1 o1 s1 b1 hW1 q0 q1 f0 f1 f2 f3 f4 g1 x
  refine wp_region_oneF 0 _ (.pointer (some ⟨t, 0, none⟩)) [1, 2, 3, 4, 5, 6, 7, 8] 9 [10, 11, 12, 13] (fun g => .slice (some ⟨g, 0, none⟩) 1 1) (.cells #[.int .i64 p0, .int .i64 p1, .slice none 0 0, .bool false] 60) (by kernel_rfl) rfl ⟨.inl ⟨by rfl, fun w => by simp [execOp, go_sem]⟩, fun w => by rfl⟩ (fun _ _ _ h => h) (by kernel_rfl) (by kernel_rfl) (by kernel_rfl) (by kernel_rfl) (noInit_ofN (by kernel_rfl)) (fun y => ?_)
  simp only [pick, List.getElem?_cons_zero, List.getElem?_cons_succ, Act.put, List.setIfInBounds_toArray, List.set_cons_succ, List.set_cons_zero]
  repeat (go_big_quiet_step ((first | fail)))
  refine wpQuiet_nil ?_
  refine ⟨(by intro o ho; obtain rfl := Option.some.inj ho; refine ⟨rfl, fun wc => ?_⟩; simp [execOp, go_sem]; done), ?_⟩
  intro gq x hgq hx
  simp only [dstOf, List.getElem?_toArray, List.getElem?_cons_succ, List.getElem?_cons_zero, Option.bind_some, Act.put, List.setIfInBounds_toArray, List.set_cons_succ, List.set_cons_zero]
  have bgq : Blk x.out gq 60 (subV ⟨(p0, p1), [], false⟩ (.slice none 0 0)).toArray := hx
  have HGQ := Lib.hid bgq
  clear hx bgq
  refine wpListIn_append_at _ rfl _ _ 53 rfl B 60 i0 (.agg #[.int .i64 0, .int .i64 0, .slice none 0 0, .bool false]) 4 by0 Try.underlying53 hi0 hz0 hz1 hz2 rfl (by decide) sv n (subsV l) rfl (own_later HO1.out x) ⟨gq, 0, none⟩ 1 1 (subV ⟨(p0, p1), [], false⟩ (.slice none 0 0)) rfl rfl (blk_at HGQ.out) (fun u hu => by simp only [subV, List.mem_cons, List.not_mem_nil, or_false] at hu; rcases hu with rfl | rfl | rfl | rfl <;> rfl) (by unfold maxLen; omega) (Nat.le_trans (Nat.mul_le_mul (show n + 1 ≤ 1001 by omega) hz3) (by omega)) (by have := x.size_le; omega) ?_
  intro sv' w4 hown hgrow hlies
  obtain ⟨g4, cp4, rfl⟩ := Go.Joins.ownsRow_form hown (by omega)
  have k4 := (K1.out.later x).grown (N := B) hgrow (fun r hr => (HO1.out.lt r hr).1) tB
  obtain ⟨c4, z4, l4⟩ := k4.all
  have bx : Below t W1 x.out := x.below.mono (by omega)
  have b4' : Below t W1 w4 := Below.grown bx hgrow (by have := x.size_le; omega) (fun r hr => by have := (HO1.out.lt r hr).1; omega)
  have k6 := (b4'.cell (p := ⟨Bp, o, none⟩) pt).trans k2
  have k7 := (b4'.cell (p := ⟨Bp, o + 1, none⟩) pt).trans k3
  have lp4 : Bp < w4.heap.size := by omega
  have K4 := Lib.hid k4
  have HO4 := Lib.hid hown
  have HG4 := Lib.hid hgrow
  have HB4 := Lib.hid b4'
  clear k4 hown hgrow hlies bx b4' k2 k3
  gi_wp2_with (fail)
  go_wp2_with (fail)
  refine bodyPost_end (v := .tuple #[]) (by simp [results, Try.results46, go_sem]) rfl ⟨rfl, .slice (some ⟨g4, 0, none⟩) (n + 1) cp4, (((K4.out.set 2 _).set 3 _).set 4 _).eq (by simp), (((Subs.push (HS1.out.later x) (p0, p1) (by rw [HN.out]; exact HO4.out) HG4.out).other tB).other tB).other tB, ?_⟩
  have b4 : Below t w w4 := HB1.out.trans HB4.out
  exact Below.setCell (Below.setCell (Below.setCell b4 (Nat.le_refl _) _) (Nat.le_refl _) _) (Nat.le_refl _) _
end Go.Proofs.Ytcdnekhpeghkiaa

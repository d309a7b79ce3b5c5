/-
  ScriptTells: walked.
-/
import Derived.Test.YtjmagehfkcnjjaaGreatDoorSHS
import Derived.Test.YtjmagehfkcnjjaaGreatDoorSPK
import Derived.Test.YtjmagehfkcnjjaaGreatDoorSIB
import Derived.Test.YtjmagehfkcnjjaaGreatDoorRPS
namespace Go.Proofs.YtjmagehfkcnjjaaGreatDoor
set_option linter.unusedVariables false
open Go.RowKit

theorem agm_alloc {W : World} {v : Value} {l : List (Int × Int)} (h : PtsAt W v l) (o : Obj) : PtsAt (W.alloc o) v l := ptsAt_under h ((Below.refl _ W).alloc (Nat.le_refl _) o) (Nat.le_refl _)
theorem agm_drew {W : World} {v : Value} {l : List (Int × Int)} (h : PtsAt W v l) : PtsAt W.drew v l := ptsAt_under h (Below.refl _ W).drew (Nat.le_refl _)
set_option maxRecDepth 100000 in
set_option maxHeartbeats 2000000 in
theorem tl_f1 (vs : List Int) (pts : List (Int × Int)) (vv sv : Value) (S : ByteArray) (w : World) (hv : IntsAt w vv vs) (hp : PtsAt w sv pts) (hsh : ∀ v, Below w.heap.size w v → Calls Tryz.prog 17 #[] v fun e w' => e = .returned (.bool true) ∧ ∃ x : Later v, w' = x.out) (h : 520 < vs.length) :
    Calls Tryz.prog 4 #[.agg #[vv, sv], .string S] w fun e w' => e = .returned (.bool true) ∧ ∃ x : Later w, w' = x.out := by
  have HSH := Lib.hid hsh
  obtain ⟨av, cv, rfl⟩ := hv.form
  obtain ⟨ap, cp, rfl⟩ := ptsAt_form hp
  clear hsh hv hp
  have d1 : decide ((520 : Int) < (vs.length : Int)) = true := by simp; omega
  generalize vs.length = n at *
  generalize pts.length = m at *
  go_enter Tryz.func4, Tryz.ntmps4
  go_wp2_with (first | (go_at_call 17; (with_reducible refine (HSH.out _ (by repeat (first | (with_reducible assumption) | (with_reducible exact Below.refl _ _) | (with_reducible refine Later.after ?_ _) | (with_reducible refine Later.newer ?_ _) | (with_reducible refine Below.drew ?_) | (with_reducible refine Below.setCell ?_ (by first | exact Nat.le_refl _ | exact Nat.le_add_right _ _ | omega | (simp [go_sem]; done) | (simp [go_sem]; omega)) _)))).mono ?_); rintro e _ ⟨rfl, xs, rfl⟩))
  exact bodyPost_ret (v := .bool true) (by simp [results, Tryz.results4, go_sem, *]) rfl ⟨rfl, (Later.mk_of (by repeat (first | (with_reducible assumption) | (with_reducible exact Below.refl _ _) | (with_reducible refine Later.after ?_ _) | (with_reducible refine Later.newer ?_ _) | (with_reducible refine Below.drew ?_) | (with_reducible refine Below.setCell ?_ (by first | exact Nat.le_refl _ | exact Nat.le_add_right _ _ | omega | (simp [go_sem]; done) | (simp [go_sem]; omega)) _))))⟩

set_option maxRecDepth 100000 in
set_option maxHeartbeats 2000000 in
theorem tl_f2 (vs : List Int) (pts : List (Int × Int)) (vv sv : Value) (S : ByteArray) (w : World) (hv : IntsAt w vv vs) (hp : PtsAt w sv pts) (hsh : ∀ v, Below w.heap.size w v → Calls Tryz.prog 17 #[] v fun e w' => e = .returned (.bool true) ∧ ∃ x : Later v, w' = x.out) (h0 : ¬ 520 < vs.length) (h : 1600 < pts.length) :
    Calls Tryz.prog 4 #[.agg #[vv, sv], .string S] w fun e w' => e = .returned (.bool true) ∧ ∃ x : Later w, w' = x.out := by
  have HSH := Lib.hid hsh
  obtain ⟨av, cv, rfl⟩ := hv.form
  obtain ⟨ap, cp, rfl⟩ := ptsAt_form hp
  clear hsh hv hp
  have d1 : decide ((520 : Int) < (vs.length : Int)) = false := by simp; omega
  have d2 : decide ((1600 : Int) < (pts.length : Int)) = true := by simp; omega
  generalize vs.length = n at *
  generalize pts.length = m at *
  go_enter Tryz.func4, Tryz.ntmps4
  go_wp2_with (first | (go_at_call 17; (with_reducible refine (HSH.out _ (by repeat (first | (with_reducible assumption) | (with_reducible exact Below.refl _ _) | (with_reducible refine Later.after ?_ _) | (with_reducible refine Later.newer ?_ _) | (with_reducible refine Below.drew ?_) | (with_reducible refine Below.setCell ?_ (by first | exact Nat.le_refl _ | exact Nat.le_add_right _ _ | omega | (simp [go_sem]; done) | (simp [go_sem]; omega)) _)))).mono ?_); rintro e _ ⟨rfl, xs, rfl⟩))
  exact bodyPost_ret (v := .bool true) (by simp [results, Tryz.results4, go_sem, *]) rfl ⟨rfl, (Later.mk_of (by repeat (first | (with_reducible assumption) | (with_reducible exact Below.refl _ _) | (with_reducible refine Later.after ?_ _) | (with_reducible refine Later.newer ?_ _) | (with_reducible refine Below.drew ?_) | (with_reducible refine Below.setCell ?_ (by first | exact Nat.le_refl _ | exact Nat.le_add_right _ _ | omega | (simp [go_sem]; done) | (simp [go_sem]; omega)) _))))⟩

set_option maxRecDepth 100000 in
set_option maxHeartbeats 2000000 in
theorem tl_f3 (vs : List Int) (pts : List (Int × Int)) (vv sv : Value) (S : ByteArray) (w : World) (hv : IntsAt w vv vs) (hp : PtsAt w sv pts) (hsh : ∀ v, Below w.heap.size w v → Calls Tryz.prog 17 #[] v fun e w' => e = .returned (.bool true) ∧ ∃ x : Later v, w' = x.out) (h0 : ¬ 520 < vs.length) (h1 : ¬ 1600 < pts.length) (h : 600 < S.size) :
    Calls Tryz.prog 4 #[.agg #[vv, sv], .string S] w fun e w' => e = .returned (.bool true) ∧ ∃ x : Later w, w' = x.out := by
  have HSH := Lib.hid hsh
  obtain ⟨av, cv, rfl⟩ := hv.form
  obtain ⟨ap, cp, rfl⟩ := ptsAt_form hp
  clear hsh hv hp
  have d1 : decide ((520 : Int) < (vs.length : Int)) = false := by simp; omega
  have d2 : decide ((1600 : Int) < (pts.length : Int)) = false := by simp; omega
  have d3 : decide ((600 : Int) < (S.size : Int)) = true := by simp; omega
  generalize vs.length = n at *
  generalize pts.length = m at *
  go_enter Tryz.func4, Tryz.ntmps4
  go_wp2_with (first | (go_at_call 17; (with_reducible refine (HSH.out _ (by repeat (first | (with_reducible assumption) | (with_reducible exact Below.refl _ _) | (with_reducible refine Later.after ?_ _) | (with_reducible refine Later.newer ?_ _) | (with_reducible refine Below.drew ?_) | (with_reducible refine Below.setCell ?_ (by first | exact Nat.le_refl _ | exact Nat.le_add_right _ _ | omega | (simp [go_sem]; done) | (simp [go_sem]; omega)) _)))).mono ?_); rintro e _ ⟨rfl, xs, rfl⟩))
  exact bodyPost_ret (v := .bool true) (by simp [results, Tryz.results4, go_sem, *]) rfl ⟨rfl, (Later.mk_of (by repeat (first | (with_reducible assumption) | (with_reducible exact Below.refl _ _) | (with_reducible refine Later.after ?_ _) | (with_reducible refine Later.newer ?_ _) | (with_reducible refine Below.drew ?_) | (with_reducible refine Below.setCell ?_ (by first | exact Nat.le_refl _ | exact Nat.le_add_right _ _ | omega | (simp [go_sem]; done) | (simp [go_sem]; omega)) _))))⟩

set_option maxRecDepth 100000 in
set_option maxHeartbeats 4000000 in
theorem tl_main (vs qv : List Int) (pts qp : List (Int × Int)) (vv sv : Value) (S t : ByteArray) (E k Fv : Int) (w : World) (hv : IntsAt w vv vs) (hp : PtsAt w sv pts) (hsh : ∀ v, Below w.heap.size w v → Calls Tryz.prog 17 #[] v fun e w' => e = .returned (.bool true) ∧ ∃ x : Later v, w' = x.out) (hpr : ∀ v, IntsAt v vv vs → PtsAt v sv pts → Below w.heap.size w v → Calls Tryz.prog 18 #[.agg #[vv, sv]] v fun e w' => e = .returned (.tuple #[.string t, .int .i64 E]) ∧ ∃ x : Later v, w' = x.out) (hp8 : ∀ v, IntsAt v vv vs → PtsAt v sv pts → Calls Tryz.prog 19 #[.agg #[vv, sv]] v fun e w' => e = .returned (.tuple #[.string t, .int .i64 E]) ∧ ∃ x : Later v, w' = x.out)
    (hpa : ∀ v, Below w.heap.size w v → Calls Tryz.prog 21 #[.string S] v (SRet v (qv, qp, k, Fv))) (hpa8 : ∀ v, Calls Tryz.prog 22 #[.string S] v (RSR v (qv, qp, k, Fv)))
    (h1 : ¬ 520 < vs.length) (h2 : ¬ 1600 < pts.length) (h3 : ¬ 600 < S.size) :
    Calls Tryz.prog 4 #[.agg #[vv, sv], .string S] w fun e w' => e = .returned (.bool true) ∧ ∃ x : Later w, w' = x.out := by
  have HSH := Lib.hid hsh
  have HPR := Lib.hid hpr
  have HP8 := Lib.hid hp8
  have HPA := Lib.hid hpa
  have HPA8 := Lib.hid hpa8
  have HV := Lib.hid hv
  have HP := Lib.hid hp
  obtain ⟨av, cv, rfl⟩ := hv.form
  obtain ⟨ap, cp, rfl⟩ := ptsAt_form hp
  have d1 : decide ((520 : Int) < (vs.length : Int)) = false := by simp; omega
  have d2 : decide ((1600 : Int) < (pts.length : Int)) = false := by simp; omega
  have d3 : decide ((600 : Int) < (S.size : Int)) = false := by simp; omega
  clear hsh hpr hp8 hpa hpa8 hv hp
  generalize vs.length = n at *
  generalize pts.length = m at *
  go_enter Tryz.func4, Tryz.ntmps4
  go_upto_region 7 with (first | (go_at_call 18; (with_reducible refine (HPR.out _ (by repeat (first | (with_reducible exact HV.out) | (with_reducible refine IntsAt.later ?_ _) | (with_reducible refine IntsAt.drew ?_) | (with_reducible refine IntsAt.alloc ?_ _))) (by repeat (first | (with_reducible exact HP.out) | (with_reducible refine agm_later ?_ _) | (with_reducible refine agm_drew ?_) | (with_reducible refine agm_alloc ?_ _))) (by repeat (first | (with_reducible assumption) | (with_reducible exact Below.refl _ _) | (with_reducible refine Later.after ?_ _) | (with_reducible refine Later.newer ?_ _) | (with_reducible refine Below.drew ?_) | (with_reducible refine Below.setCell ?_ (by first | exact Nat.le_refl _ | exact Nat.le_add_right _ _ | omega | (simp [go_sem]; done) | (simp [go_sem]; omega)) _)))).mono ?_); rintro e _ ⟨rfl, x1, rfl⟩) | (go_at_call 20; (with_reducible refine (its_c _ _ _ _ _ _ _).mono ?_); rintro e _ ⟨rfl, xi, rfl⟩) | (go_at_call 19; (with_reducible refine (HP8.out _ (by repeat (first | (with_reducible exact HV.out) | (with_reducible refine IntsAt.later ?_ _) | (with_reducible refine IntsAt.drew ?_) | (with_reducible refine IntsAt.alloc ?_ _))) (by repeat (first | (with_reducible exact HP.out) | (with_reducible refine agm_later ?_ _) | (with_reducible refine agm_drew ?_) | (with_reducible refine agm_alloc ?_ _)))).mono ?_); rintro e _ ⟨rfl, x3, rfl⟩) | (go_at_call 21; (with_reducible refine (HPA.out _ (by repeat (first | (with_reducible assumption) | (with_reducible exact Below.refl _ _) | (with_reducible refine Later.after ?_ _) | (with_reducible refine Later.newer ?_ _) | (with_reducible refine Below.drew ?_) | (with_reducible refine Below.setCell ?_ (by first | exact Nat.le_refl _ | exact Nat.le_add_right _ _ | omega | (simp [go_sem]; done) | (simp [go_sem]; omega)) _)))).mono ?_); rintro e _ ⟨_, _, rfl, hv, hp, x2, rfl⟩; have hv2 := intsAt_own hv; have hp2 := ptsAt_own hp; obtain ⟨a3, n3, c3, rfl⟩ := own_slice hv; obtain ⟨a4, n4, c4, rfl⟩ := own_slice hp; have HV2 := Lib.hid hv2; have HP2 := Lib.hid hp2; clear hv hp hv2 hp2) | (go_at_call 22; (with_reducible refine (HPA8.out _).mono ?_); rintro e _ ⟨a5, n5, c5, a6, n6, c6, rfl, hv5, hp5, x5, rfl⟩; have HV5 := Lib.hid hv5; have HP5 := Lib.hid hp5; clear hv5 hp5) | (go_at_call 17; (with_reducible refine (HSH.out _ (by repeat (first | (with_reducible assumption) | (with_reducible exact Below.refl _ _) | (with_reducible refine Later.after ?_ _) | (with_reducible refine Later.newer ?_ _) | (with_reducible refine Below.drew ?_) | (with_reducible refine Below.setCell ?_ (by first | exact Nat.le_refl _ | exact Nat.le_add_right _ _ | omega | (simp [go_sem]; done) | (simp [go_sem]; omega)) _)))).mono ?_); rintro e _ ⟨rfl, xs, rfl⟩))
  have q1 : Blk (x5.out.alloc (.cells #[.slice a5 n5 c5, .slice a6 n6 c6] 35)) x2.out.heap.size 31 #[.slice a3 n3 c3, .slice a4 n4 c4] := (by repeat (first | (with_reducible assumption) | (with_reducible refine Blk.later ?_ _) | (with_reducible refine Blk.drew ?_) | ((with_reducible refine Blk.new' ?_); (simp; done)) | (with_reducible refine Blk.alloc ?_ _)))
  have q2 : Blk (x5.out.alloc (.cells #[.slice a5 n5 c5, .slice a6 n6 c6] 35)) x5.out.heap.size 35 #[.slice a5 n5 c5, .slice a6 n6 c6] := (by repeat (first | (with_reducible assumption) | (with_reducible refine Blk.later ?_ _) | (with_reducible refine Blk.drew ?_) | ((with_reducible refine Blk.new' ?_); (simp; done)) | (with_reducible refine Blk.alloc ?_ _)))
  have j1 : IntsAt (x5.out.alloc (.cells #[.slice a5 n5 c5, .slice a6 n6 c6] 35)) (.slice a3 n3 c3) qv := (by repeat (first | (with_reducible exact HV2.out) | (with_reducible refine IntsAt.later ?_ _) | (with_reducible refine IntsAt.drew ?_) | (with_reducible refine IntsAt.alloc ?_ _)))
  have j2 : PtsAt (x5.out.alloc (.cells #[.slice a5 n5 c5, .slice a6 n6 c6] 35)) (.slice a4 n4 c4) qp := (by repeat (first | (with_reducible exact HP2.out) | (with_reducible refine agm_later ?_ _) | (with_reducible refine agm_drew ?_) | (with_reducible refine agm_alloc ?_ _)))
  have j3 : IntsAt (x5.out.alloc (.cells #[.slice a5 n5 c5, .slice a6 n6 c6] 35)) (.slice a5 n5 c5) qv := (by repeat (first | (with_reducible exact HV5.out) | (with_reducible refine IntsAt.later ?_ _) | (with_reducible refine IntsAt.drew ?_) | (with_reducible refine IntsAt.alloc ?_ _)))
  have j4 : PtsAt (x5.out.alloc (.cells #[.slice a5 n5 c5, .slice a6 n6 c6] 35)) (.slice a6 n6 c6) qp := (by repeat (first | (with_reducible exact HP5.out) | (with_reducible refine agm_later ?_ _) | (with_reducible refine agm_drew ?_) | (with_reducible refine agm_alloc ?_ _)))
  have J1 := Lib.hid j1
  have J2 := Lib.hid j2
  have J3 := Lib.hid j3
  have J4 := Lib.hid j4
  have hB7 : Below w.heap.size w (x5.out.alloc (.cells #[.slice a5 n5 c5, .slice a6 n6 c6] 35)) := by repeat (first | (with_reducible assumption) | (with_reducible exact Below.refl _ _) | (with_reducible refine Later.after ?_ _) | (with_reducible refine Later.newer ?_ _) | (with_reducible refine Below.drew ?_) | (with_reducible refine Below.setCell ?_ (by first | exact Nat.le_refl _ | exact Nat.le_add_right _ _ | omega | (simp [go_sem]; done) | (simp [go_sem]; omega)) _))
  clear j1 j2 j3 j4
  generalize x5.out.alloc (.cells #[.slice a5 n5 c5, .slice a6 n6 c6] 35) = W7 at *
  generalize x2.out.heap.size = B1 at *
  generalize x5.out.heap.size = B2 at *
  obtain ⟨z1, z2, z3⟩ := q1.all
  obtain ⟨z4, z5, z6⟩ := q2.all
  have t1 : (t.toList == t.toList) = true := by simp
  have t2 : (E == E) = true := by simp
  have t3 : (k == k) = true := by simp
  have t4 : (Fv == Fv) = true := by simp
  clear q1 q2
  refine wp_region_later (by kernel_rfl) (by kernel_rfl) ?_
  repeat (go_big_quiet_step ((first | (go_at_call 20; with_reducible exact Later.call _ (its_c _ _ _ _ _ _ _)) | (go_at_call 23; with_reducible exact Later.call _ (rsame_yes qv qp _ _ _ _ _ _ _ _ _ _ _ _ _ (by repeat (first | (with_reducible exact J1.out) | (with_reducible refine IntsAt.later ?_ _) | (with_reducible refine IntsAt.drew ?_) | (with_reducible refine IntsAt.alloc ?_ _))) (by repeat (first | (with_reducible exact J2.out) | (with_reducible refine agm_later ?_ _) | (with_reducible refine agm_drew ?_) | (with_reducible refine agm_alloc ?_ _))) (by repeat (first | (with_reducible exact J3.out) | (with_reducible refine IntsAt.later ?_ _) | (with_reducible refine IntsAt.drew ?_) | (with_reducible refine IntsAt.alloc ?_ _))) (by repeat (first | (with_reducible exact J4.out) | (with_reducible refine agm_later ?_ _) | (with_reducible refine agm_drew ?_) | (with_reducible refine agm_alloc ?_ _))))))))
  refine wpQuiet_nil ?_
  intro x
  go_wp2_with (fail)
  exact bodyPost_ret (v := .bool true) (by simp [results, Tryz.results4, go_sem, *]) rfl ⟨rfl, (Later.mk_of (by repeat (first | (with_reducible assumption) | (with_reducible exact Below.refl _ _) | (with_reducible refine Later.after ?_ _) | (with_reducible refine Later.newer ?_ _) | (with_reducible refine Below.drew ?_) | (with_reducible refine Below.setCell ?_ (by first | exact Nat.le_refl _ | exact Nat.le_add_right _ _ | omega | (simp [go_sem]; done) | (simp [go_sem]; omega)) _))))⟩
theorem tells_walk (vs : List Int) (pts : List (Int × Int)) (vv sv : Value) (S : ByteArray) (mx : Int) (w : World) (hv : IntsAt w vv vs) (hp : PtsAt w sv pts) (hm : w.cell? ⟨2, 0, none⟩ = some (.int .i64 mx)) (htab : Lib.TabIs Tryz.prog w "internal/strconv.uint64pow10" .u64 Lib.pow10Tab) :
    Calls Tryz.prog 4 #[.agg #[vv, sv], .string S] w fun e w' => e = .returned (.bool true) ∧ ∃ x : Later w, w' = x.out := by
  have hmv : ∀ v, Below w.heap.size w v → v.cell? ⟨2, 0, none⟩ = some (.int .i64 mx) := fun v hb => (hb.cell (p := ⟨2, 0, none⟩) (World.block_lt_of_cell? w _ hm)).trans hm
  have hsh : ∀ v, Below w.heap.size w v → Calls Tryz.prog 17 #[] v fun e w' => e = .returned (.bool true) ∧ ∃ x : Later v, w' = x.out := fun v hb => shown_8 mx v (hmv v hb) (Lib.tabBelow_of_tabIs htab v hb)
  by_cases h1 : 520 < vs.length
  · exact tl_f1 vs pts vv sv S w hv hp hsh h1
  by_cases h2 : 1600 < pts.length
  · exact tl_f2 vs pts vv sv S w hv hp hsh h1 h2
  by_cases h3 : 600 < S.size
  · exact tl_f3 vs pts vv sv S w hv hp hsh h1 h2 h3
  have hl : S.data.toList.length = S.size := by rw [Array.length_toList]; rfl
  have hw := (wds_few _ S.data.toList 0 (Nat.le_refl _)).2
  refine tl_main vs (spR S.data.toList).1 pts (spR S.data.toList).2.1 vv sv S ⟨(spS vs pts).toArray⟩ (chk vs pts) (spR S.data.toList).2.2.1 (spR S.data.toList).2.2.2 w hv hp hsh (fun v k1 k2 hb => sprint_c vs pts vv sv v k1 k2 (Lib.tabBelow_of_tabIs htab v hb)) (fun v k1 k2 => rprint8_c vs pts vv sv v k1 k2) (fun v hb => ?_) (fun v => ?_) h1 h2 h3
  · have h := sparse_c S.data.toList mx (by omega) (by omega) (iany_all _ (by omega)) v (hmv v hb)
    rw [ba_back S] at h
    exact h
  · have h := rparse8_c S.data.toList (by omega) v
    rw [ba_back S] at h
    exact h
end Go.Proofs.YtjmagehfkcnjjaaGreatDoor

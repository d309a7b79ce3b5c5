/-
  ScriptBack: walked.
-/
import Derived.Test.YtjmagehfkcnjjaaGreatDoorSHS
import Derived.Test.YtjmagehfkcnjjaaGreatDoorSPK
import Derived.Test.YtjmagehfkcnjjaaGreatDoorSIB
import Derived.Test.YtjmagehfkcnjjaaGreatDoorRSM
namespace Go.Proofs.YtjmagehfkcnjjaaGreatDoor
set_option linter.unusedVariables false
open Go.RowKit

theorem agm_alloc {W : World} {v : Value} {l : List (Int × Int)} (h : PtsAt W v l) (o : Obj) : PtsAt (W.alloc o) v l := ptsAt_under h ((Below.refl _ W).alloc (Nat.le_refl _) o) (Nat.le_refl _)
theorem agm_later {W : World} {v : Value} {l : List (Int × Int)} (h : PtsAt W v l) (x : Later W) : PtsAt x.out v l := ptsAt_under h x.below (Nat.le_refl _)
theorem agm_drew {W : World} {v : Value} {l : List (Int × Int)} (h : PtsAt W v l) : PtsAt W.drew v l := ptsAt_under h (Below.refl _ W).drew (Nat.le_refl _)
set_option maxRecDepth 100000 in
set_option maxHeartbeats 2000000 in
theorem bk_f1 (vs : List Int) (pts : List (Int × Int)) (vv sv : Value) (S : ByteArray) (w : World) (hv : IntsAt w vv vs) (hp : PtsAt w sv pts) (hsh : ∀ v, Below w.heap.size w v → Calls Tryz.prog 17 #[] v fun e w' => e = .returned (.bool true) ∧ ∃ x : Later v, w' = x.out) (h : 100 < vs.length) :
    Calls Tryz.prog 5 #[.agg #[vv, sv], .string S] w fun e w' => e = .returned (.bool true) ∧ ∃ x : Later w, w' = x.out := by
  have HSH := Lib.hid hsh
  obtain ⟨av, cv, rfl⟩ := hv.form
  obtain ⟨ap, cp, rfl⟩ := ptsAt_form hp
  clear hsh hv hp
  have d1 : decide ((100 : Int) < (vs.length : Int)) = true := by simp; omega
  generalize vs.length = n at *
  generalize pts.length = m at *
  go_enter Tryz.func5, Tryz.ntmps5
  go_wp2_with (first | (go_at_call 17; (with_reducible refine (HSH.out _ (by repeat (first | (with_reducible assumption) | (with_reducible exact Below.refl _ _) | (with_reducible refine Later.after ?_ _) | (with_reducible refine Later.newer ?_ _) | (with_reducible refine Below.drew ?_) | (with_reducible refine Below.setCell ?_ (by first | exact Nat.le_refl _ | exact Nat.le_add_right _ _ | omega | (simp [go_sem]; done) | (simp [go_sem]; omega)) _)))).mono ?_); rintro e _ ⟨rfl, xs, rfl⟩))
  exact bodyPost_ret (v := .bool true) (by simp [results, Tryz.results5, go_sem, *]) rfl ⟨rfl, (Later.mk_of (by repeat (first | (with_reducible assumption) | (with_reducible exact Below.refl _ _) | (with_reducible refine Later.after ?_ _) | (with_reducible refine Later.newer ?_ _) | (with_reducible refine Below.drew ?_) | (with_reducible refine Below.setCell ?_ (by first | exact Nat.le_refl _ | exact Nat.le_add_right _ _ | omega | (simp [go_sem]; done) | (simp [go_sem]; omega)) _))))⟩

set_option maxRecDepth 100000 in
set_option maxHeartbeats 2000000 in
theorem bk_f2 (vs : List Int) (pts : List (Int × Int)) (vv sv : Value) (S : ByteArray) (w : World) (hv : IntsAt w vv vs) (hp : PtsAt w sv pts) (hsh : ∀ v, Below w.heap.size w v → Calls Tryz.prog 17 #[] v fun e w' => e = .returned (.bool true) ∧ ∃ x : Later v, w' = x.out) (h0 : ¬ 100 < vs.length) (h : 400 < pts.length) :
    Calls Tryz.prog 5 #[.agg #[vv, sv], .string S] w fun e w' => e = .returned (.bool true) ∧ ∃ x : Later w, w' = x.out := by
  have HSH := Lib.hid hsh
  obtain ⟨av, cv, rfl⟩ := hv.form
  obtain ⟨ap, cp, rfl⟩ := ptsAt_form hp
  clear hsh hv hp
  have d1 : decide ((100 : Int) < (vs.length : Int)) = false := by simp; omega
  have d2 : decide ((400 : Int) < (pts.length : Int)) = true := by simp; omega
  generalize vs.length = n at *
  generalize pts.length = m at *
  go_enter Tryz.func5, Tryz.ntmps5
  go_wp2_with (first | (go_at_call 17; (with_reducible refine (HSH.out _ (by repeat (first | (with_reducible assumption) | (with_reducible exact Below.refl _ _) | (with_reducible refine Later.after ?_ _) | (with_reducible refine Later.newer ?_ _) | (with_reducible refine Below.drew ?_) | (with_reducible refine Below.setCell ?_ (by first | exact Nat.le_refl _ | exact Nat.le_add_right _ _ | omega | (simp [go_sem]; done) | (simp [go_sem]; omega)) _)))).mono ?_); rintro e _ ⟨rfl, xs, rfl⟩))
  exact bodyPost_ret (v := .bool true) (by simp [results, Tryz.results5, go_sem, *]) rfl ⟨rfl, (Later.mk_of (by repeat (first | (with_reducible assumption) | (with_reducible exact Below.refl _ _) | (with_reducible refine Later.after ?_ _) | (with_reducible refine Later.newer ?_ _) | (with_reducible refine Below.drew ?_) | (with_reducible refine Below.setCell ?_ (by first | exact Nat.le_refl _ | exact Nat.le_add_right _ _ | omega | (simp [go_sem]; done) | (simp [go_sem]; omega)) _))))⟩

set_option maxRecDepth 100000 in
set_option maxHeartbeats 2000000 in
theorem bk_f3 (vs : List Int) (pts : List (Int × Int)) (vv sv : Value) (S : ByteArray) (w : World) (hv : IntsAt w vv vs) (hp : PtsAt w sv pts) (hsh : ∀ v, Below w.heap.size w v → Calls Tryz.prog 17 #[] v fun e w' => e = .returned (.bool true) ∧ ∃ x : Later v, w' = x.out) (h0 : ¬ 100 < vs.length) (h1 : ¬ 400 < pts.length) (h : 600 < S.size) :
    Calls Tryz.prog 5 #[.agg #[vv, sv], .string S] w fun e w' => e = .returned (.bool true) ∧ ∃ x : Later w, w' = x.out := by
  have HSH := Lib.hid hsh
  obtain ⟨av, cv, rfl⟩ := hv.form
  obtain ⟨ap, cp, rfl⟩ := ptsAt_form hp
  clear hsh hv hp
  have d1 : decide ((100 : Int) < (vs.length : Int)) = false := by simp; omega
  have d2 : decide ((400 : Int) < (pts.length : Int)) = false := by simp; omega
  have d3 : decide ((600 : Int) < (S.size : Int)) = true := by simp; omega
  generalize vs.length = n at *
  generalize pts.length = m at *
  go_enter Tryz.func5, Tryz.ntmps5
  go_wp2_with (first | (go_at_call 17; (with_reducible refine (HSH.out _ (by repeat (first | (with_reducible assumption) | (with_reducible exact Below.refl _ _) | (with_reducible refine Later.after ?_ _) | (with_reducible refine Later.newer ?_ _) | (with_reducible refine Below.drew ?_) | (with_reducible refine Below.setCell ?_ (by first | exact Nat.le_refl _ | exact Nat.le_add_right _ _ | omega | (simp [go_sem]; done) | (simp [go_sem]; omega)) _)))).mono ?_); rintro e _ ⟨rfl, xs, rfl⟩))
  exact bodyPost_ret (v := .bool true) (by simp [results, Tryz.results5, go_sem, *]) rfl ⟨rfl, (Later.mk_of (by repeat (first | (with_reducible assumption) | (with_reducible exact Below.refl _ _) | (with_reducible refine Later.after ?_ _) | (with_reducible refine Later.newer ?_ _) | (with_reducible refine Below.drew ?_) | (with_reducible refine Below.setCell ?_ (by first | exact Nat.le_refl _ | exact Nat.le_add_right _ _ | omega | (simp [go_sem]; done) | (simp [go_sem]; omega)) _))))⟩

set_option maxRecDepth 100000 in
set_option maxHeartbeats 4000000 in
theorem bk_00 (vs qv : List Int) (pts qp : List (Int × Int)) (vv sv : Value) (S : ByteArray) (t u : List UInt8) (E F k : Int) (w : World) (hv : IntsAt w vv vs) (hp : PtsAt w sv pts) (hsh : ∀ v, Below w.heap.size w v → Calls Tryz.prog 17 #[] v fun e w' => e = .returned (.bool true) ∧ ∃ x : Later v, w' = x.out) (hpr : ∀ v, IntsAt v vv vs → PtsAt v sv pts → Below w.heap.size w v → Calls Tryz.prog 18 #[.agg #[vv, sv]] v fun e w' => e = .returned (.tuple #[.string ⟨t.toArray⟩, .int .i64 E]) ∧ ∃ x : Later v, w' = x.out) (hpa2 : ∀ v, Below w.heap.size w v → Calls Tryz.prog 21 #[.string S] v (SRet v ([], [], k, F))) (hE : E ≠ 0) (hF : F ≠ 0) (k0 : 0 ≤ k) (k9 : k ≤ (S.size : Int))
    (h1 : ¬ 100 < vs.length) (h2 : ¬ 400 < pts.length) (h3 : ¬ 600 < S.size) :
    Calls Tryz.prog 5 #[.agg #[vv, sv], .string S] w fun e w' => e = .returned (.bool true) ∧ ∃ x : Later w, w' = x.out := by
  have HSH := Lib.hid hsh
  have HPR := Lib.hid hpr
  have HPA2 := Lib.hid hpa2
  have HV := Lib.hid hv
  have HP := Lib.hid hp
  obtain ⟨av, cv, rfl⟩ := hv.form
  obtain ⟨ap, cp, rfl⟩ := ptsAt_form hp
  clear hsh hpr hpa2 hv hp
  have d1 : decide ((100 : Int) < (vs.length : Int)) = false := by simp; omega
  have d2 : decide ((400 : Int) < (pts.length : Int)) = false := by simp; omega
  have d3 : decide ((600 : Int) < (S.size : Int)) = false := by simp; omega
  have f1 : (E == 0) = false := by simpa using hE
  have f2 : (E != 0) = true := by simpa using hE
  have f3 : (F == 0) = false := by simpa using hF
  have f4 : (F != 0) = true := by simpa using hF
  have f5 : decide (k ≤ (S.size : Int)) = true := by simpa using k9
  have f6 : decide (0 ≤ k) = true := by simpa using k0
  generalize vs.length = n at *
  generalize pts.length = m at *
  go_enter Tryz.func5, Tryz.ntmps5
  go_wp2_with (first | (go_at_call 18; (with_reducible refine (HPR.out _ (by repeat (first | (with_reducible exact HV.out) | (with_reducible refine IntsAt.later ?_ _) | (with_reducible refine IntsAt.drew ?_) | (with_reducible refine IntsAt.alloc ?_ _))) (by repeat (first | (with_reducible exact HP.out) | (with_reducible refine agm_later ?_ _) | (with_reducible refine agm_drew ?_) | (with_reducible refine agm_alloc ?_ _))) (by repeat (first | (with_reducible assumption) | (with_reducible exact Below.refl _ _) | (with_reducible refine Later.after ?_ _) | (with_reducible refine Later.newer ?_ _) | (with_reducible refine Below.drew ?_) | (with_reducible refine Below.setCell ?_ (by first | exact Nat.le_refl _ | exact Nat.le_add_right _ _ | omega | (simp [go_sem]; done) | (simp [go_sem]; omega)) _)))).mono ?_); rintro e _ ⟨rfl, x1, rfl⟩) | (go_at_call 21; (with_reducible refine (HPA2.out _ (by repeat (first | (with_reducible assumption) | (with_reducible exact Below.refl _ _) | (with_reducible refine Later.after ?_ _) | (with_reducible refine Later.newer ?_ _) | (with_reducible refine Below.drew ?_) | (with_reducible refine Below.setCell ?_ (by first | exact Nat.le_refl _ | exact Nat.le_add_right _ _ | omega | (simp [go_sem]; done) | (simp [go_sem]; omega)) _)))).mono ?_); rintro e _ ⟨_, _, rfl, hv, hp, x2, rfl⟩; have hv2 := intsAt_own hv; have hp2 := ptsAt_own hp; obtain ⟨a3, n3, c3, rfl⟩ := own_slice hv; obtain ⟨a4, n4, c4, rfl⟩ := own_slice hp; obtain rfl : n3 = 0 := (ints_cell hv2).1; obtain rfl : n4 = 0 := (pts_cell hp2).1; have HV2 := Lib.hid hv2; have HP2 := Lib.hid hp2; clear hv hp hv2 hp2) | (go_at_call 17; (with_reducible refine (HSH.out _ (by repeat (first | (with_reducible assumption) | (with_reducible exact Below.refl _ _) | (with_reducible refine Later.after ?_ _) | (with_reducible refine Later.newer ?_ _) | (with_reducible refine Below.drew ?_) | (with_reducible refine Below.setCell ?_ (by first | exact Nat.le_refl _ | exact Nat.le_add_right _ _ | omega | (simp [go_sem]; done) | (simp [go_sem]; omega)) _)))).mono ?_); rintro e _ ⟨rfl, xs, rfl⟩))
  exact bodyPost_ret (v := .bool true) (by simp [results, Tryz.results5, go_sem, *]) rfl ⟨rfl, (Later.mk_of (by repeat (first | (with_reducible assumption) | (with_reducible exact Below.refl _ _) | (with_reducible refine Later.after ?_ _) | (with_reducible refine Later.newer ?_ _) | (with_reducible refine Below.drew ?_) | (with_reducible refine Below.setCell ?_ (by first | exact Nat.le_refl _ | exact Nat.le_add_right _ _ | omega | (simp [go_sem]; done) | (simp [go_sem]; omega)) _))))⟩

set_option maxRecDepth 100000 in
set_option maxHeartbeats 4000000 in
theorem bk_01 (vs qv : List Int) (pts qp : List (Int × Int)) (vv sv : Value) (S : ByteArray) (t u : List UInt8) (E F k : Int) (w : World) (hv : IntsAt w vv vs) (hp : PtsAt w sv pts) (hsh : ∀ v, Below w.heap.size w v → Calls Tryz.prog 17 #[] v fun e w' => e = .returned (.bool true) ∧ ∃ x : Later v, w' = x.out) (hpr : ∀ v, IntsAt v vv vs → PtsAt v sv pts → Below w.heap.size w v → Calls Tryz.prog 18 #[.agg #[vv, sv]] v fun e w' => e = .returned (.tuple #[.string ⟨t.toArray⟩, .int .i64 E]) ∧ ∃ x : Later v, w' = x.out) (hpa2 : ∀ v, Below w.heap.size w v → Calls Tryz.prog 21 #[.string S] v (SRet v (qv, qp, k, 0))) (hpr2 : ∀ v (v1 v2 : Value), IntsAt v v1 qv → PtsAt v v2 qp → Below w.heap.size w v → Calls Tryz.prog 18 #[.agg #[v1, v2]] v fun e w' => e = .returned (.tuple #[.string ⟨u.toArray⟩, .int .i64 0]) ∧ ∃ x : Later v, w' = x.out) (hpa3 : ∀ v, Below w.heap.size w v → Calls Tryz.prog 21 #[.string ⟨u.toArray⟩] v (SRet v (qv, qp, 0, 0))) (hE : E ≠ 0)
    (h1 : ¬ 100 < vs.length) (h2 : ¬ 400 < pts.length) (h3 : ¬ 600 < S.size) :
    Calls Tryz.prog 5 #[.agg #[vv, sv], .string S] w fun e w' => e = .returned (.bool true) ∧ ∃ x : Later w, w' = x.out := by
  have HSH := Lib.hid hsh
  have HPR := Lib.hid hpr
  have HPA2 := Lib.hid hpa2
  have HV := Lib.hid hv
  have HP := Lib.hid hp
  have HPR2 := Lib.hid hpr2
  have HPA3 := Lib.hid hpa3
  obtain ⟨av, cv, rfl⟩ := hv.form
  obtain ⟨ap, cp, rfl⟩ := ptsAt_form hp
  clear hsh hpr hpa2 hv hp hpr2 hpa3
  have d1 : decide ((100 : Int) < (vs.length : Int)) = false := by simp; omega
  have d2 : decide ((400 : Int) < (pts.length : Int)) = false := by simp; omega
  have d3 : decide ((600 : Int) < (S.size : Int)) = false := by simp; omega
  have f1 : (E == 0) = false := by simpa using hE
  have f2 : (E != 0) = true := by simpa using hE
  generalize vs.length = n at *
  generalize pts.length = m at *
  go_enter Tryz.func5, Tryz.ntmps5
  go_upto_region 13 with (first | (go_at_call 18; (with_reducible refine (HPR.out _ (by repeat (first | (with_reducible exact HV.out) | (with_reducible refine IntsAt.later ?_ _) | (with_reducible refine IntsAt.drew ?_) | (with_reducible refine IntsAt.alloc ?_ _))) (by repeat (first | (with_reducible exact HP.out) | (with_reducible refine agm_later ?_ _) | (with_reducible refine agm_drew ?_) | (with_reducible refine agm_alloc ?_ _))) (by repeat (first | (with_reducible assumption) | (with_reducible exact Below.refl _ _) | (with_reducible refine Later.after ?_ _) | (with_reducible refine Later.newer ?_ _) | (with_reducible refine Below.drew ?_) | (with_reducible refine Below.setCell ?_ (by first | exact Nat.le_refl _ | exact Nat.le_add_right _ _ | omega | (simp [go_sem]; done) | (simp [go_sem]; omega)) _)))).mono ?_); rintro e _ ⟨rfl, x1, rfl⟩) | (go_at_call 21; (with_reducible refine (HPA2.out _ (by repeat (first | (with_reducible assumption) | (with_reducible exact Below.refl _ _) | (with_reducible refine Later.after ?_ _) | (with_reducible refine Later.newer ?_ _) | (with_reducible refine Below.drew ?_) | (with_reducible refine Below.setCell ?_ (by first | exact Nat.le_refl _ | exact Nat.le_add_right _ _ | omega | (simp [go_sem]; done) | (simp [go_sem]; omega)) _)))).mono ?_); rintro e _ ⟨_, _, rfl, hv, hp, x2, rfl⟩; have hv2 := intsAt_own hv; have hp2 := ptsAt_own hp; obtain ⟨a3, n3, c3, rfl⟩ := own_slice hv; obtain ⟨a4, n4, c4, rfl⟩ := own_slice hp; have HV2 := Lib.hid hv2; have HP2 := Lib.hid hp2; clear hv hp hv2 hp2) | (go_at_call 18; (with_reducible refine (HPR2.out _ _ _ (by repeat (first | (with_reducible exact HV2.out) | (with_reducible refine IntsAt.later ?_ _) | (with_reducible refine IntsAt.drew ?_) | (with_reducible refine IntsAt.alloc ?_ _))) (by repeat (first | (with_reducible exact HP2.out) | (with_reducible refine agm_later ?_ _) | (with_reducible refine agm_drew ?_) | (with_reducible refine agm_alloc ?_ _))) (by repeat (first | (with_reducible assumption) | (with_reducible exact Below.refl _ _) | (with_reducible refine Later.after ?_ _) | (with_reducible refine Later.newer ?_ _) | (with_reducible refine Below.drew ?_) | (with_reducible refine Below.setCell ?_ (by first | exact Nat.le_refl _ | exact Nat.le_add_right _ _ | omega | (simp [go_sem]; done) | (simp [go_sem]; omega)) _)))).mono ?_); rintro e _ ⟨rfl, x7, rfl⟩) | (go_at_call 21; (with_reducible refine (HPA3.out _ (by repeat (first | (with_reducible assumption) | (with_reducible exact Below.refl _ _) | (with_reducible refine Later.after ?_ _) | (with_reducible refine Later.newer ?_ _) | (with_reducible refine Below.drew ?_) | (with_reducible refine Below.setCell ?_ (by first | exact Nat.le_refl _ | exact Nat.le_add_right _ _ | omega | (simp [go_sem]; done) | (simp [go_sem]; omega)) _)))).mono ?_); rintro e _ ⟨_, _, rfl, hv, hp, x8, rfl⟩; have hv8 := intsAt_own hv; have hp8 := ptsAt_own hp; obtain ⟨a7, n7, c7, rfl⟩ := own_slice hv; obtain ⟨a8, n8, c8, rfl⟩ := own_slice hp; have HV8 := Lib.hid hv8; have HP8 := Lib.hid hp8; clear hv hp hv8 hp8) | (go_at_call 17; (with_reducible refine (HSH.out _ (by repeat (first | (with_reducible assumption) | (with_reducible exact Below.refl _ _) | (with_reducible refine Later.after ?_ _) | (with_reducible refine Later.newer ?_ _) | (with_reducible refine Below.drew ?_) | (with_reducible refine Below.setCell ?_ (by first | exact Nat.le_refl _ | exact Nat.le_add_right _ _ | omega | (simp [go_sem]; done) | (simp [go_sem]; omega)) _)))).mono ?_); rintro e _ ⟨rfl, xs, rfl⟩))
  have q1 : Blk (x8.out.alloc (.cells #[.slice a7 n7 c7, .slice a8 n8 c8] 31)) (x2.out.heap.size) 31 #[.slice a3 n3 c3, .slice a4 n4 c4] := (by repeat (first | (with_reducible assumption) | (with_reducible refine Blk.later ?_ _) | (with_reducible refine Blk.drew ?_) | ((with_reducible refine Blk.new' ?_); (simp; done)) | (with_reducible refine Blk.alloc ?_ _)))
  have q2 : Blk (x8.out.alloc (.cells #[.slice a7 n7 c7, .slice a8 n8 c8] 31)) (x8.out.heap.size) 31 #[.slice a7 n7 c7, .slice a8 n8 c8] := (by repeat (first | (with_reducible assumption) | (with_reducible refine Blk.later ?_ _) | (with_reducible refine Blk.drew ?_) | ((with_reducible refine Blk.new' ?_); (simp; done)) | (with_reducible refine Blk.alloc ?_ _)))
  have j1 : IntsAt (x8.out.alloc (.cells #[.slice a7 n7 c7, .slice a8 n8 c8] 31)) (.slice a3 n3 c3) qv := (by repeat (first | (with_reducible exact HV2.out) | (with_reducible refine IntsAt.later ?_ _) | (with_reducible refine IntsAt.drew ?_) | (with_reducible refine IntsAt.alloc ?_ _)))
  have j2 : PtsAt (x8.out.alloc (.cells #[.slice a7 n7 c7, .slice a8 n8 c8] 31)) (.slice a4 n4 c4) qp := (by repeat (first | (with_reducible exact HP2.out) | (with_reducible refine agm_later ?_ _) | (with_reducible refine agm_drew ?_) | (with_reducible refine agm_alloc ?_ _)))
  have j3 : IntsAt (x8.out.alloc (.cells #[.slice a7 n7 c7, .slice a8 n8 c8] 31)) (.slice a7 n7 c7) qv := (by repeat (first | (with_reducible exact HV8.out) | (with_reducible refine IntsAt.later ?_ _) | (with_reducible refine IntsAt.drew ?_) | (with_reducible refine IntsAt.alloc ?_ _)))
  have j4 : PtsAt (x8.out.alloc (.cells #[.slice a7 n7 c7, .slice a8 n8 c8] 31)) (.slice a8 n8 c8) qp := (by repeat (first | (with_reducible exact HP8.out) | (with_reducible refine agm_later ?_ _) | (with_reducible refine agm_drew ?_) | (with_reducible refine agm_alloc ?_ _)))
  have J1 := Lib.hid j1
  have J2 := Lib.hid j2
  have J3 := Lib.hid j3
  have J4 := Lib.hid j4
  have hB13 : Below w.heap.size w (x8.out.alloc (.cells #[.slice a7 n7 c7, .slice a8 n8 c8] 31)) := by repeat (first | (with_reducible assumption) | (with_reducible exact Below.refl _ _) | (with_reducible refine Later.after ?_ _) | (with_reducible refine Later.newer ?_ _) | (with_reducible refine Below.drew ?_) | (with_reducible refine Below.setCell ?_ (by first | exact Nat.le_refl _ | exact Nat.le_add_right _ _ | omega | (simp [go_sem]; done) | (simp [go_sem]; omega)) _))
  clear j1 j2 j3 j4
  generalize x8.out.alloc (.cells #[.slice a7 n7 c7, .slice a8 n8 c8] 31) = W13 at *
  generalize x2.out.heap.size = B1 at *
  generalize x8.out.heap.size = B2 at *
  obtain ⟨z113, z213, z313⟩ := q1.all
  obtain ⟨z413, z513, z613⟩ := q2.all
  clear q1 q2
  refine wp_region_later (by kernel_rfl) (by kernel_rfl) ?_
  repeat (go_big_quiet_step ((first | (go_at_call 20; with_reducible exact Later.call _ (its_c _ _ _ _ _ _ _)) | (go_at_call 23; with_reducible exact Later.call _ (rsame_yes qv qp _ _ _ _ _ _ _ _ _ _ _ _ _ (by repeat (first | (with_reducible exact J1.out) | (with_reducible refine IntsAt.later ?_ _) | (with_reducible refine IntsAt.drew ?_) | (with_reducible refine IntsAt.alloc ?_ _))) (by repeat (first | (with_reducible exact J2.out) | (with_reducible refine agm_later ?_ _) | (with_reducible refine agm_drew ?_) | (with_reducible refine agm_alloc ?_ _))) (by repeat (first | (with_reducible exact J3.out) | (with_reducible refine IntsAt.later ?_ _) | (with_reducible refine IntsAt.drew ?_) | (with_reducible refine IntsAt.alloc ?_ _))) (by repeat (first | (with_reducible exact J4.out) | (with_reducible refine agm_later ?_ _) | (with_reducible refine agm_drew ?_) | (with_reducible refine agm_alloc ?_ _))))))))
  refine wpQuiet_nil ?_
  intro x
  go_wp2_with (fail)
  exact bodyPost_ret (v := .bool true) (by simp [results, Tryz.results5, go_sem, *]) rfl ⟨rfl, (Later.mk_of (by repeat (first | (with_reducible assumption) | (with_reducible exact Below.refl _ _) | (with_reducible refine Later.after ?_ _) | (with_reducible refine Later.newer ?_ _) | (with_reducible refine Below.drew ?_) | (with_reducible refine Below.setCell ?_ (by first | exact Nat.le_refl _ | exact Nat.le_add_right _ _ | omega | (simp [go_sem]; done) | (simp [go_sem]; omega)) _))))⟩

set_option maxRecDepth 100000 in
set_option maxHeartbeats 4000000 in
theorem bk_10 (vs qv : List Int) (pts qp : List (Int × Int)) (vv sv : Value) (S : ByteArray) (t u : List UInt8) (E F k : Int) (w : World) (hv : IntsAt w vv vs) (hp : PtsAt w sv pts) (hsh : ∀ v, Below w.heap.size w v → Calls Tryz.prog 17 #[] v fun e w' => e = .returned (.bool true) ∧ ∃ x : Later v, w' = x.out) (hpr : ∀ v, IntsAt v vv vs → PtsAt v sv pts → Below w.heap.size w v → Calls Tryz.prog 18 #[.agg #[vv, sv]] v fun e w' => e = .returned (.tuple #[.string ⟨t.toArray⟩, .int .i64 0]) ∧ ∃ x : Later v, w' = x.out) (hpa1 : ∀ v, Below w.heap.size w v → Calls Tryz.prog 21 #[.string ⟨t.toArray⟩] v (SRet v (vs, pts, 0, 0))) (hpa2 : ∀ v, Below w.heap.size w v → Calls Tryz.prog 21 #[.string S] v (SRet v ([], [], k, F))) (hF : F ≠ 0) (k0 : 0 ≤ k) (k9 : k ≤ (S.size : Int))
    (h1 : ¬ 100 < vs.length) (h2 : ¬ 400 < pts.length) (h3 : ¬ 600 < S.size) :
    Calls Tryz.prog 5 #[.agg #[vv, sv], .string S] w fun e w' => e = .returned (.bool true) ∧ ∃ x : Later w, w' = x.out := by
  have HSH := Lib.hid hsh
  have HPR := Lib.hid hpr
  have HPA2 := Lib.hid hpa2
  have HV := Lib.hid hv
  have HP := Lib.hid hp
  have HPA1 := Lib.hid hpa1
  obtain ⟨av, cv, rfl⟩ := hv.form
  obtain ⟨ap, cp, rfl⟩ := ptsAt_form hp
  clear hsh hpr hpa2 hv hp hpa1
  have d1 : decide ((100 : Int) < (vs.length : Int)) = false := by simp; omega
  have d2 : decide ((400 : Int) < (pts.length : Int)) = false := by simp; omega
  have d3 : decide ((600 : Int) < (S.size : Int)) = false := by simp; omega
  have f3 : (F == 0) = false := by simpa using hF
  have f4 : (F != 0) = true := by simpa using hF
  have f5 : decide (k ≤ (S.size : Int)) = true := by simpa using k9
  have f6 : decide (0 ≤ k) = true := by simpa using k0
  generalize vs.length = n at *
  generalize pts.length = m at *
  go_enter Tryz.func5, Tryz.ntmps5
  go_upto_region 6 with (first | (go_at_call 18; (with_reducible refine (HPR.out _ (by repeat (first | (with_reducible exact HV.out) | (with_reducible refine IntsAt.later ?_ _) | (with_reducible refine IntsAt.drew ?_) | (with_reducible refine IntsAt.alloc ?_ _))) (by repeat (first | (with_reducible exact HP.out) | (with_reducible refine agm_later ?_ _) | (with_reducible refine agm_drew ?_) | (with_reducible refine agm_alloc ?_ _))) (by repeat (first | (with_reducible assumption) | (with_reducible exact Below.refl _ _) | (with_reducible refine Later.after ?_ _) | (with_reducible refine Later.newer ?_ _) | (with_reducible refine Below.drew ?_) | (with_reducible refine Below.setCell ?_ (by first | exact Nat.le_refl _ | exact Nat.le_add_right _ _ | omega | (simp [go_sem]; done) | (simp [go_sem]; omega)) _)))).mono ?_); rintro e _ ⟨rfl, x1, rfl⟩) | (go_at_call 21; (with_reducible refine (HPA1.out _ (by repeat (first | (with_reducible assumption) | (with_reducible exact Below.refl _ _) | (with_reducible refine Later.after ?_ _) | (with_reducible refine Later.newer ?_ _) | (with_reducible refine Below.drew ?_) | (with_reducible refine Below.setCell ?_ (by first | exact Nat.le_refl _ | exact Nat.le_add_right _ _ | omega | (simp [go_sem]; done) | (simp [go_sem]; omega)) _)))).mono ?_); rintro e _ ⟨_, _, rfl, hv, hp, x4, rfl⟩; have hv4 := intsAt_own hv; have hp4 := ptsAt_own hp; obtain ⟨a5, n5, c5, rfl⟩ := own_slice hv; obtain ⟨a6, n6, c6, rfl⟩ := own_slice hp; have HV4 := Lib.hid hv4; have HP4 := Lib.hid hp4; clear hv hp hv4 hp4) | (go_at_call 17; (with_reducible refine (HSH.out _ (by repeat (first | (with_reducible assumption) | (with_reducible exact Below.refl _ _) | (with_reducible refine Later.after ?_ _) | (with_reducible refine Later.newer ?_ _) | (with_reducible refine Below.drew ?_) | (with_reducible refine Below.setCell ?_ (by first | exact Nat.le_refl _ | exact Nat.le_add_right _ _ | omega | (simp [go_sem]; done) | (simp [go_sem]; omega)) _)))).mono ?_); rintro e _ ⟨rfl, xs, rfl⟩))
  have q1 : Blk (x4.out.alloc (.cells #[.slice a5 n5 c5, .slice a6 n6 c6] 31)) (w.heap.size) 31 #[.slice av n cv, .slice ap m cp] := (by repeat (first | (with_reducible assumption) | (with_reducible refine Blk.later ?_ _) | (with_reducible refine Blk.drew ?_) | ((with_reducible refine Blk.new' ?_); (simp; done)) | (with_reducible refine Blk.alloc ?_ _)))
  have q2 : Blk (x4.out.alloc (.cells #[.slice a5 n5 c5, .slice a6 n6 c6] 31)) (x4.out.heap.size) 31 #[.slice a5 n5 c5, .slice a6 n6 c6] := (by repeat (first | (with_reducible assumption) | (with_reducible refine Blk.later ?_ _) | (with_reducible refine Blk.drew ?_) | ((with_reducible refine Blk.new' ?_); (simp; done)) | (with_reducible refine Blk.alloc ?_ _)))
  have j1 : IntsAt (x4.out.alloc (.cells #[.slice a5 n5 c5, .slice a6 n6 c6] 31)) (.slice av n cv) vs := (by repeat (first | (with_reducible exact HV.out) | (with_reducible refine IntsAt.later ?_ _) | (with_reducible refine IntsAt.drew ?_) | (with_reducible refine IntsAt.alloc ?_ _)))
  have j2 : PtsAt (x4.out.alloc (.cells #[.slice a5 n5 c5, .slice a6 n6 c6] 31)) (.slice ap m cp) pts := (by repeat (first | (with_reducible exact HP.out) | (with_reducible refine agm_later ?_ _) | (with_reducible refine agm_drew ?_) | (with_reducible refine agm_alloc ?_ _)))
  have j3 : IntsAt (x4.out.alloc (.cells #[.slice a5 n5 c5, .slice a6 n6 c6] 31)) (.slice a5 n5 c5) vs := (by repeat (first | (with_reducible exact HV4.out) | (with_reducible refine IntsAt.later ?_ _) | (with_reducible refine IntsAt.drew ?_) | (with_reducible refine IntsAt.alloc ?_ _)))
  have j4 : PtsAt (x4.out.alloc (.cells #[.slice a5 n5 c5, .slice a6 n6 c6] 31)) (.slice a6 n6 c6) pts := (by repeat (first | (with_reducible exact HP4.out) | (with_reducible refine agm_later ?_ _) | (with_reducible refine agm_drew ?_) | (with_reducible refine agm_alloc ?_ _)))
  have J1 := Lib.hid j1
  have J2 := Lib.hid j2
  have J3 := Lib.hid j3
  have J4 := Lib.hid j4
  have hB6 : Below w.heap.size w (x4.out.alloc (.cells #[.slice a5 n5 c5, .slice a6 n6 c6] 31)) := by repeat (first | (with_reducible assumption) | (with_reducible exact Below.refl _ _) | (with_reducible refine Later.after ?_ _) | (with_reducible refine Later.newer ?_ _) | (with_reducible refine Below.drew ?_) | (with_reducible refine Below.setCell ?_ (by first | exact Nat.le_refl _ | exact Nat.le_add_right _ _ | omega | (simp [go_sem]; done) | (simp [go_sem]; omega)) _))
  clear j1 j2 j3 j4
  generalize x4.out.alloc (.cells #[.slice a5 n5 c5, .slice a6 n6 c6] 31) = W6 at *
  generalize x4.out.heap.size = B4 at *
  obtain ⟨z16, z26, z36⟩ := q1.all
  obtain ⟨z46, z56, z66⟩ := q2.all
  clear q1 q2
  refine wp_region_later (by kernel_rfl) (by kernel_rfl) ?_
  repeat (go_big_quiet_step ((first | (go_at_call 20; with_reducible exact Later.call _ (its_c _ _ _ _ _ _ _)) | (go_at_call 23; with_reducible exact Later.call _ (rsame_yes vs pts _ _ _ _ _ _ _ _ _ _ _ _ _ (by repeat (first | (with_reducible exact J1.out) | (with_reducible refine IntsAt.later ?_ _) | (with_reducible refine IntsAt.drew ?_) | (with_reducible refine IntsAt.alloc ?_ _))) (by repeat (first | (with_reducible exact J2.out) | (with_reducible refine agm_later ?_ _) | (with_reducible refine agm_drew ?_) | (with_reducible refine agm_alloc ?_ _))) (by repeat (first | (with_reducible exact J3.out) | (with_reducible refine IntsAt.later ?_ _) | (with_reducible refine IntsAt.drew ?_) | (with_reducible refine IntsAt.alloc ?_ _))) (by repeat (first | (with_reducible exact J4.out) | (with_reducible refine agm_later ?_ _) | (with_reducible refine agm_drew ?_) | (with_reducible refine agm_alloc ?_ _))))))))
  refine wpQuiet_nil ?_
  intro x
  go_wp2_with (first | (go_at_call 21; (with_reducible refine (HPA2.out _ (by repeat (first | (with_reducible assumption) | (with_reducible exact Below.refl _ _) | (with_reducible refine Later.after ?_ _) | (with_reducible refine Later.newer ?_ _) | (with_reducible refine Below.drew ?_) | (with_reducible refine Below.setCell ?_ (by first | exact Nat.le_refl _ | exact Nat.le_add_right _ _ | omega | (simp [go_sem]; done) | (simp [go_sem]; omega)) _)))).mono ?_); rintro e _ ⟨_, _, rfl, hv, hp, x2, rfl⟩; have hv2 := intsAt_own hv; have hp2 := ptsAt_own hp; obtain ⟨a3, n3, c3, rfl⟩ := own_slice hv; obtain ⟨a4, n4, c4, rfl⟩ := own_slice hp; obtain rfl : n3 = 0 := (ints_cell hv2).1; obtain rfl : n4 = 0 := (pts_cell hp2).1; have HV2 := Lib.hid hv2; have HP2 := Lib.hid hp2; clear hv hp hv2 hp2))
  exact bodyPost_ret (v := .bool true) (by simp [results, Tryz.results5, go_sem, *]) rfl ⟨rfl, (Later.mk_of (by repeat (first | (with_reducible assumption) | (with_reducible exact Below.refl _ _) | (with_reducible refine Later.after ?_ _) | (with_reducible refine Later.newer ?_ _) | (with_reducible refine Below.drew ?_) | (with_reducible refine Below.setCell ?_ (by first | exact Nat.le_refl _ | exact Nat.le_add_right _ _ | omega | (simp [go_sem]; done) | (simp [go_sem]; omega)) _))))⟩

set_option maxRecDepth 100000 in
set_option maxHeartbeats 4000000 in
theorem bk_11 (vs qv : List Int) (pts qp : List (Int × Int)) (vv sv : Value) (S : ByteArray) (t u : List UInt8) (E F k : Int) (w : World) (hv : IntsAt w vv vs) (hp : PtsAt w sv pts) (hsh : ∀ v, Below w.heap.size w v → Calls Tryz.prog 17 #[] v fun e w' => e = .returned (.bool true) ∧ ∃ x : Later v, w' = x.out) (hpr : ∀ v, IntsAt v vv vs → PtsAt v sv pts → Below w.heap.size w v → Calls Tryz.prog 18 #[.agg #[vv, sv]] v fun e w' => e = .returned (.tuple #[.string ⟨t.toArray⟩, .int .i64 0]) ∧ ∃ x : Later v, w' = x.out) (hpa1 : ∀ v, Below w.heap.size w v → Calls Tryz.prog 21 #[.string ⟨t.toArray⟩] v (SRet v (vs, pts, 0, 0))) (hpa2 : ∀ v, Below w.heap.size w v → Calls Tryz.prog 21 #[.string S] v (SRet v (qv, qp, k, 0))) (hpr2 : ∀ v (v1 v2 : Value), IntsAt v v1 qv → PtsAt v v2 qp → Below w.heap.size w v → Calls Tryz.prog 18 #[.agg #[v1, v2]] v fun e w' => e = .returned (.tuple #[.string ⟨u.toArray⟩, .int .i64 0]) ∧ ∃ x : Later v, w' = x.out) (hpa3 : ∀ v, Below w.heap.size w v → Calls Tryz.prog 21 #[.string ⟨u.toArray⟩] v (SRet v (qv, qp, 0, 0)))
    (h1 : ¬ 100 < vs.length) (h2 : ¬ 400 < pts.length) (h3 : ¬ 600 < S.size) :
    Calls Tryz.prog 5 #[.agg #[vv, sv], .string S] w fun e w' => e = .returned (.bool true) ∧ ∃ x : Later w, w' = x.out := by
  have HSH := Lib.hid hsh
  have HPR := Lib.hid hpr
  have HPA2 := Lib.hid hpa2
  have HV := Lib.hid hv
  have HP := Lib.hid hp
  have HPA1 := Lib.hid hpa1
  have HPR2 := Lib.hid hpr2
  have HPA3 := Lib.hid hpa3
  obtain ⟨av, cv, rfl⟩ := hv.form
  obtain ⟨ap, cp, rfl⟩ := ptsAt_form hp
  clear hsh hpr hpa2 hv hp hpa1 hpr2 hpa3
  have d1 : decide ((100 : Int) < (vs.length : Int)) = false := by simp; omega
  have d2 : decide ((400 : Int) < (pts.length : Int)) = false := by simp; omega
  have d3 : decide ((600 : Int) < (S.size : Int)) = false := by simp; omega
  skip
  generalize vs.length = n at *
  generalize pts.length = m at *
  go_enter Tryz.func5, Tryz.ntmps5
  go_upto_region 6 with (first | (go_at_call 18; (with_reducible refine (HPR.out _ (by repeat (first | (with_reducible exact HV.out) | (with_reducible refine IntsAt.later ?_ _) | (with_reducible refine IntsAt.drew ?_) | (with_reducible refine IntsAt.alloc ?_ _))) (by repeat (first | (with_reducible exact HP.out) | (with_reducible refine agm_later ?_ _) | (with_reducible refine agm_drew ?_) | (with_reducible refine agm_alloc ?_ _))) (by repeat (first | (with_reducible assumption) | (with_reducible exact Below.refl _ _) | (with_reducible refine Later.after ?_ _) | (with_reducible refine Later.newer ?_ _) | (with_reducible refine Below.drew ?_) | (with_reducible refine Below.setCell ?_ (by first | exact Nat.le_refl _ | exact Nat.le_add_right _ _ | omega | (simp [go_sem]; done) | (simp [go_sem]; omega)) _)))).mono ?_); rintro e _ ⟨rfl, x1, rfl⟩) | (go_at_call 21; (with_reducible refine (HPA1.out _ (by repeat (first | (with_reducible assumption) | (with_reducible exact Below.refl _ _) | (with_reducible refine Later.after ?_ _) | (with_reducible refine Later.newer ?_ _) | (with_reducible refine Below.drew ?_) | (with_reducible refine Below.setCell ?_ (by first | exact Nat.le_refl _ | exact Nat.le_add_right _ _ | omega | (simp [go_sem]; done) | (simp [go_sem]; omega)) _)))).mono ?_); rintro e _ ⟨_, _, rfl, hv, hp, x4, rfl⟩; have hv4 := intsAt_own hv; have hp4 := ptsAt_own hp; obtain ⟨a5, n5, c5, rfl⟩ := own_slice hv; obtain ⟨a6, n6, c6, rfl⟩ := own_slice hp; have HV4 := Lib.hid hv4; have HP4 := Lib.hid hp4; clear hv hp hv4 hp4) | (go_at_call 17; (with_reducible refine (HSH.out _ (by repeat (first | (with_reducible assumption) | (with_reducible exact Below.refl _ _) | (with_reducible refine Later.after ?_ _) | (with_reducible refine Later.newer ?_ _) | (with_reducible refine Below.drew ?_) | (with_reducible refine Below.setCell ?_ (by first | exact Nat.le_refl _ | exact Nat.le_add_right _ _ | omega | (simp [go_sem]; done) | (simp [go_sem]; omega)) _)))).mono ?_); rintro e _ ⟨rfl, xs, rfl⟩))
  have q1 : Blk (x4.out.alloc (.cells #[.slice a5 n5 c5, .slice a6 n6 c6] 31)) (w.heap.size) 31 #[.slice av n cv, .slice ap m cp] := (by repeat (first | (with_reducible assumption) | (with_reducible refine Blk.later ?_ _) | (with_reducible refine Blk.drew ?_) | ((with_reducible refine Blk.new' ?_); (simp; done)) | (with_reducible refine Blk.alloc ?_ _)))
  have q2 : Blk (x4.out.alloc (.cells #[.slice a5 n5 c5, .slice a6 n6 c6] 31)) (x4.out.heap.size) 31 #[.slice a5 n5 c5, .slice a6 n6 c6] := (by repeat (first | (with_reducible assumption) | (with_reducible refine Blk.later ?_ _) | (with_reducible refine Blk.drew ?_) | ((with_reducible refine Blk.new' ?_); (simp; done)) | (with_reducible refine Blk.alloc ?_ _)))
  have j1 : IntsAt (x4.out.alloc (.cells #[.slice a5 n5 c5, .slice a6 n6 c6] 31)) (.slice av n cv) vs := (by repeat (first | (with_reducible exact HV.out) | (with_reducible refine IntsAt.later ?_ _) | (with_reducible refine IntsAt.drew ?_) | (with_reducible refine IntsAt.alloc ?_ _)))
  have j2 : PtsAt (x4.out.alloc (.cells #[.slice a5 n5 c5, .slice a6 n6 c6] 31)) (.slice ap m cp) pts := (by repeat (first | (with_reducible exact HP.out) | (with_reducible refine agm_later ?_ _) | (with_reducible refine agm_drew ?_) | (with_reducible refine agm_alloc ?_ _)))
  have j3 : IntsAt (x4.out.alloc (.cells #[.slice a5 n5 c5, .slice a6 n6 c6] 31)) (.slice a5 n5 c5) vs := (by repeat (first | (with_reducible exact HV4.out) | (with_reducible refine IntsAt.later ?_ _) | (with_reducible refine IntsAt.drew ?_) | (with_reducible refine IntsAt.alloc ?_ _)))
  have j4 : PtsAt (x4.out.alloc (.cells #[.slice a5 n5 c5, .slice a6 n6 c6] 31)) (.slice a6 n6 c6) pts := (by repeat (first | (with_reducible exact HP4.out) | (with_reducible refine agm_later ?_ _) | (with_reducible refine agm_drew ?_) | (with_reducible refine agm_alloc ?_ _)))
  have J1 := Lib.hid j1
  have J2 := Lib.hid j2
  have J3 := Lib.hid j3
  have J4 := Lib.hid j4
  have hB6 : Below w.heap.size w (x4.out.alloc (.cells #[.slice a5 n5 c5, .slice a6 n6 c6] 31)) := by repeat (first | (with_reducible assumption) | (with_reducible exact Below.refl _ _) | (with_reducible refine Later.after ?_ _) | (with_reducible refine Later.newer ?_ _) | (with_reducible refine Below.drew ?_) | (with_reducible refine Below.setCell ?_ (by first | exact Nat.le_refl _ | exact Nat.le_add_right _ _ | omega | (simp [go_sem]; done) | (simp [go_sem]; omega)) _))
  clear j1 j2 j3 j4
  generalize x4.out.alloc (.cells #[.slice a5 n5 c5, .slice a6 n6 c6] 31) = W6 at *
  generalize x4.out.heap.size = B4 at *
  obtain ⟨z16, z26, z36⟩ := q1.all
  obtain ⟨z46, z56, z66⟩ := q2.all
  clear q1 q2
  refine wp_region_later (by kernel_rfl) (by kernel_rfl) ?_
  repeat (go_big_quiet_step ((first | (go_at_call 20; with_reducible exact Later.call _ (its_c _ _ _ _ _ _ _)) | (go_at_call 23; with_reducible exact Later.call _ (rsame_yes vs pts _ _ _ _ _ _ _ _ _ _ _ _ _ (by repeat (first | (with_reducible exact J1.out) | (with_reducible refine IntsAt.later ?_ _) | (with_reducible refine IntsAt.drew ?_) | (with_reducible refine IntsAt.alloc ?_ _))) (by repeat (first | (with_reducible exact J2.out) | (with_reducible refine agm_later ?_ _) | (with_reducible refine agm_drew ?_) | (with_reducible refine agm_alloc ?_ _))) (by repeat (first | (with_reducible exact J3.out) | (with_reducible refine IntsAt.later ?_ _) | (with_reducible refine IntsAt.drew ?_) | (with_reducible refine IntsAt.alloc ?_ _))) (by repeat (first | (with_reducible exact J4.out) | (with_reducible refine agm_later ?_ _) | (with_reducible refine agm_drew ?_) | (with_reducible refine agm_alloc ?_ _))))))))
  refine wpQuiet_nil ?_
  intro x
  go_upto_region 13 with (first | (go_at_call 21; (with_reducible refine (HPA2.out _ (by repeat (first | (with_reducible assumption) | (with_reducible exact Below.refl _ _) | (with_reducible refine Later.after ?_ _) | (with_reducible refine Later.newer ?_ _) | (with_reducible refine Below.drew ?_) | (with_reducible refine Below.setCell ?_ (by first | exact Nat.le_refl _ | exact Nat.le_add_right _ _ | omega | (simp [go_sem]; done) | (simp [go_sem]; omega)) _)))).mono ?_); rintro e _ ⟨_, _, rfl, hv, hp, x2, rfl⟩; have hv2 := intsAt_own hv; have hp2 := ptsAt_own hp; obtain ⟨a3, n3, c3, rfl⟩ := own_slice hv; obtain ⟨a4, n4, c4, rfl⟩ := own_slice hp; have HV2 := Lib.hid hv2; have HP2 := Lib.hid hp2; clear hv hp hv2 hp2) | (go_at_call 18; (with_reducible refine (HPR2.out _ _ _ (by repeat (first | (with_reducible exact HV2.out) | (with_reducible refine IntsAt.later ?_ _) | (with_reducible refine IntsAt.drew ?_) | (with_reducible refine IntsAt.alloc ?_ _))) (by repeat (first | (with_reducible exact HP2.out) | (with_reducible refine agm_later ?_ _) | (with_reducible refine agm_drew ?_) | (with_reducible refine agm_alloc ?_ _))) (by repeat (first | (with_reducible assumption) | (with_reducible exact Below.refl _ _) | (with_reducible refine Later.after ?_ _) | (with_reducible refine Later.newer ?_ _) | (with_reducible refine Below.drew ?_) | (with_reducible refine Below.setCell ?_ (by first | exact Nat.le_refl _ | exact Nat.le_add_right _ _ | omega | (simp [go_sem]; done) | (simp [go_sem]; omega)) _)))).mono ?_); rintro e _ ⟨rfl, x7, rfl⟩) | (go_at_call 21; (with_reducible refine (HPA3.out _ (by repeat (first | (with_reducible assumption) | (with_reducible exact Below.refl _ _) | (with_reducible refine Later.after ?_ _) | (with_reducible refine Later.newer ?_ _) | (with_reducible refine Below.drew ?_) | (with_reducible refine Below.setCell ?_ (by first | exact Nat.le_refl _ | exact Nat.le_add_right _ _ | omega | (simp [go_sem]; done) | (simp [go_sem]; omega)) _)))).mono ?_); rintro e _ ⟨_, _, rfl, hv, hp, x8, rfl⟩; have hv8 := intsAt_own hv; have hp8 := ptsAt_own hp; obtain ⟨a7, n7, c7, rfl⟩ := own_slice hv; obtain ⟨a8, n8, c8, rfl⟩ := own_slice hp; have HV8 := Lib.hid hv8; have HP8 := Lib.hid hp8; clear hv hp hv8 hp8))
  have q1 : Blk (x8.out.alloc (.cells #[.slice a7 n7 c7, .slice a8 n8 c8] 31)) (x2.out.heap.size) 31 #[.slice a3 n3 c3, .slice a4 n4 c4] := (by repeat (first | (with_reducible assumption) | (with_reducible refine Blk.later ?_ _) | (with_reducible refine Blk.drew ?_) | ((with_reducible refine Blk.new' ?_); (simp; done)) | (with_reducible refine Blk.alloc ?_ _)))
  have q2 : Blk (x8.out.alloc (.cells #[.slice a7 n7 c7, .slice a8 n8 c8] 31)) (x8.out.heap.size) 31 #[.slice a7 n7 c7, .slice a8 n8 c8] := (by repeat (first | (with_reducible assumption) | (with_reducible refine Blk.later ?_ _) | (with_reducible refine Blk.drew ?_) | ((with_reducible refine Blk.new' ?_); (simp; done)) | (with_reducible refine Blk.alloc ?_ _)))
  have j1 : IntsAt (x8.out.alloc (.cells #[.slice a7 n7 c7, .slice a8 n8 c8] 31)) (.slice a3 n3 c3) qv := (by repeat (first | (with_reducible exact HV2.out) | (with_reducible refine IntsAt.later ?_ _) | (with_reducible refine IntsAt.drew ?_) | (with_reducible refine IntsAt.alloc ?_ _)))
  have j2 : PtsAt (x8.out.alloc (.cells #[.slice a7 n7 c7, .slice a8 n8 c8] 31)) (.slice a4 n4 c4) qp := (by repeat (first | (with_reducible exact HP2.out) | (with_reducible refine agm_later ?_ _) | (with_reducible refine agm_drew ?_) | (with_reducible refine agm_alloc ?_ _)))
  have j3 : IntsAt (x8.out.alloc (.cells #[.slice a7 n7 c7, .slice a8 n8 c8] 31)) (.slice a7 n7 c7) qv := (by repeat (first | (with_reducible exact HV8.out) | (with_reducible refine IntsAt.later ?_ _) | (with_reducible refine IntsAt.drew ?_) | (with_reducible refine IntsAt.alloc ?_ _)))
  have j4 : PtsAt (x8.out.alloc (.cells #[.slice a7 n7 c7, .slice a8 n8 c8] 31)) (.slice a8 n8 c8) qp := (by repeat (first | (with_reducible exact HP8.out) | (with_reducible refine agm_later ?_ _) | (with_reducible refine agm_drew ?_) | (with_reducible refine agm_alloc ?_ _)))
  have J1 := Lib.hid j1
  have J2 := Lib.hid j2
  have J3 := Lib.hid j3
  have J4 := Lib.hid j4
  have hB13 : Below w.heap.size w (x8.out.alloc (.cells #[.slice a7 n7 c7, .slice a8 n8 c8] 31)) := by repeat (first | (with_reducible assumption) | (with_reducible exact Below.refl _ _) | (with_reducible refine Later.after ?_ _) | (with_reducible refine Later.newer ?_ _) | (with_reducible refine Below.drew ?_) | (with_reducible refine Below.setCell ?_ (by first | exact Nat.le_refl _ | exact Nat.le_add_right _ _ | omega | (simp [go_sem]; done) | (simp [go_sem]; omega)) _))
  clear j1 j2 j3 j4
  generalize x8.out.alloc (.cells #[.slice a7 n7 c7, .slice a8 n8 c8] 31) = W13 at *
  generalize x2.out.heap.size = B1 at *
  generalize x8.out.heap.size = B2 at *
  obtain ⟨z113, z213, z313⟩ := q1.all
  obtain ⟨z413, z513, z613⟩ := q2.all
  clear q1 q2
  refine wp_region_later (by kernel_rfl) (by kernel_rfl) ?_
  repeat (go_big_quiet_step ((first | (go_at_call 20; with_reducible exact Later.call _ (its_c _ _ _ _ _ _ _)) | (go_at_call 23; with_reducible exact Later.call _ (rsame_yes qv qp _ _ _ _ _ _ _ _ _ _ _ _ _ (by repeat (first | (with_reducible exact J1.out) | (with_reducible refine IntsAt.later ?_ _) | (with_reducible refine IntsAt.drew ?_) | (with_reducible refine IntsAt.alloc ?_ _))) (by repeat (first | (with_reducible exact J2.out) | (with_reducible refine agm_later ?_ _) | (with_reducible refine agm_drew ?_) | (with_reducible refine agm_alloc ?_ _))) (by repeat (first | (with_reducible exact J3.out) | (with_reducible refine IntsAt.later ?_ _) | (with_reducible refine IntsAt.drew ?_) | (with_reducible refine IntsAt.alloc ?_ _))) (by repeat (first | (with_reducible exact J4.out) | (with_reducible refine agm_later ?_ _) | (with_reducible refine agm_drew ?_) | (with_reducible refine agm_alloc ?_ _))))))))
  refine wpQuiet_nil ?_
  intro x
  go_wp2_with (fail)
  exact bodyPost_ret (v := .bool true) (by simp [results, Tryz.results5, go_sem, *]) rfl ⟨rfl, (Later.mk_of (by repeat (first | (with_reducible assumption) | (with_reducible exact Below.refl _ _) | (with_reducible refine Later.after ?_ _) | (with_reducible refine Later.newer ?_ _) | (with_reducible refine Below.drew ?_) | (with_reducible refine Below.setCell ?_ (by first | exact Nat.le_refl _ | exact Nat.le_add_right _ _ | omega | (simp [go_sem]; done) | (simp [go_sem]; omega)) _))))⟩

theorem parse_print (vs : List Int) (pts : List (Int × Int)) (mx : Int) (hE : chk vs pts = 0) (hw : vs.length + 2 * pts.length ≤ 890) (v : World) (hm : v.cell? ⟨2, 0, none⟩ = some (.int .i64 mx)) :
    Calls Tryz.prog 21 #[.string ⟨(spS vs pts).toArray⟩] v (SRet v (vs, pts, 0, 0)) := by
  obtain ⟨_, gv, gt, gf⟩ := chk_ok hE
  have hs : spS vs pts = joinB (pwords vs pts) := by unfold spS; rw [if_pos hE]
  have hlen := pwords_len vs pts (by omega)
  have hpw := pwords_pw vs pts gv gf
  have hwl := wlen_le _ hpw
  have hjl := joinB_len (pwords vs pts)
  have h := sparse_c (joinB (pwords vs pts)) mx (by omega) (by rw [wds_join _ _ (fun w hw => (hpw w hw).1), placed_len]; omega) (iany_all _ (by omega)) v hm
  rw [spR_print vs pts hE] at h
  rw [hs]
  exact h
theorem parse_any (S : ByteArray) (mx : Int) (hS : S.size ≤ 600) (v : World) (hm : v.cell? ⟨2, 0, none⟩ = some (.int .i64 mx)) :
    Calls Tryz.prog 21 #[.string S] v (SRet v (spR S.data.toList)) := by
  have hl : S.data.toList.length = S.size := by rw [Array.length_toList]; rfl
  have hw := (wds_few _ S.data.toList 0 (Nat.le_refl _)).2
  have h := sparse_c S.data.toList mx (by omega) (by omega) (iany_all _ (by omega)) v hm
  rw [ba_back S] at h
  exact h
theorem back_walk (vs : List Int) (pts : List (Int × Int)) (vv sv : Value) (S : ByteArray) (mx : Int) (w : World) (hv : IntsAt w vv vs) (hp : PtsAt w sv pts) (hm : w.cell? ⟨2, 0, none⟩ = some (.int .i64 mx)) (htab : Lib.TabIs Tryz.prog w "internal/strconv.uint64pow10" .u64 Lib.pow10Tab) :
    Calls Tryz.prog 5 #[.agg #[vv, sv], .string S] w fun e w' => e = .returned (.bool true) ∧ ∃ x : Later w, w' = x.out := by
  have hmv : ∀ v, Below w.heap.size w v → v.cell? ⟨2, 0, none⟩ = some (.int .i64 mx) := fun v hb => (hb.cell (p := ⟨2, 0, none⟩) (World.block_lt_of_cell? w _ hm)).trans hm
  have hsh : ∀ v, Below w.heap.size w v → Calls Tryz.prog 17 #[] v fun e w' => e = .returned (.bool true) ∧ ∃ x : Later v, w' = x.out := fun v hb => shown_8 mx v (hmv v hb) (Lib.tabBelow_of_tabIs htab v hb)
  by_cases h1 : 100 < vs.length
  · exact bk_f1 vs pts vv sv S w hv hp hsh h1
  by_cases h2 : 400 < pts.length
  · exact bk_f2 vs pts vv sv S w hv hp hsh h1 h2
  by_cases h3 : 600 < S.size
  · exact bk_f3 vs pts vv sv S w hv hp hsh h1 h2 h3
  have hpr : ∀ v, IntsAt v vv vs → PtsAt v sv pts → Below w.heap.size w v → Calls Tryz.prog 18 #[.agg #[vv, sv]] v fun e w' => e = .returned (.tuple #[.string ⟨(spS vs pts).toArray⟩, .int .i64 (chk vs pts)]) ∧ ∃ x : Later v, w' = x.out := fun v k1 k2 hb => sprint_c vs pts vv sv v k1 k2 (Lib.tabBelow_of_tabIs htab v hb)
  have hl : S.data.toList.length = S.size := by rw [Array.length_toList]; rfl
  have hpa2 : ∀ v, Below w.heap.size w v → Calls Tryz.prog 21 #[.string S] v (SRet v (spR S.data.toList)) := fun v hb => parse_any S mx (by omega) v (hmv v hb)
  obtain ⟨r1, r2⟩ := spR_facts S.data.toList
  generalize spR S.data.toList = r at *
  obtain ⟨qv, qp, k, Fv⟩ := r
  simp only [] at r1 r2
  have hpa1 : chk vs pts = 0 → ∀ v, Below w.heap.size w v → Calls Tryz.prog 21 #[.string ⟨(spS vs pts).toArray⟩] v (SRet v (vs, pts, 0, 0)) := fun hE v hb => by
    obtain ⟨_, _, gt, _⟩ := chk_ok hE
    have := tot_le vs
    exact parse_print vs pts mx hE (by omega) v (hmv v hb)
  have hpr2 : Fv = 0 → ∀ v (v1 v2 : Value), IntsAt v v1 qv → PtsAt v v2 qp → Below w.heap.size w v → Calls Tryz.prog 18 #[.agg #[v1, v2]] v fun e w' => e = .returned (.tuple #[.string ⟨(spS qv qp).toArray⟩, .int .i64 0]) ∧ ∃ x : Later v, w' = x.out := fun hF v v1 v2 k1 k2 hb => by
    have h := sprint_c qv qp v1 v2 v k1 k2 (Lib.tabBelow_of_tabIs htab v hb)
    rw [(r1 hF).1] at h
    exact h
  have hpa3 : Fv = 0 → ∀ v, Below w.heap.size w v → Calls Tryz.prog 21 #[.string ⟨(spS qv qp).toArray⟩] v (SRet v (qv, qp, 0, 0)) := fun hF v hb => by
    obtain ⟨k1, _, k3, k4⟩ := r1 hF
    exact parse_print qv qp mx k1 (by omega) v (hmv v hb)
  by_cases hE : chk vs pts = 0
  · have hpa1' := hpa1 hE
    rw [hE] at hpr
    by_cases hF : Fv = 0
    · have a1 := hpr2 hF
      have a2 := hpa3 hF
      subst hF
      exact bk_11 vs qv pts qp vv sv S (spS vs pts) (spS qv qp) 0 0 k w hv hp hsh hpr hpa1' hpa2 a1 a2 h1 h2 h3
    · obtain ⟨e1, e2, e3, e4⟩ := r2 hF
      rw [e1, e2] at hpa2
      exact bk_10 vs qv pts qp vv sv S (spS vs pts) (spS qv qp) 0 Fv k w hv hp hsh hpr hpa1' hpa2 hF e3 (by omega) h1 h2 h3
  · by_cases hF : Fv = 0
    · have a1 := hpr2 hF
      have a2 := hpa3 hF
      subst hF
      exact bk_01 vs qv pts qp vv sv S (spS vs pts) (spS qv qp) _ 0 k w hv hp hsh hpr hpa2 a1 a2 hE h1 h2 h3
    · obtain ⟨e1, e2, e3, e4⟩ := r2 hF
      rw [e1, e2] at hpa2
      exact bk_00 vs qv pts qp vv sv S (spS vs pts) (spS qv qp) _ Fv k w hv hp hsh hpr hpa2 hE hF e3 (by omega) h1 h2 h3
end Go.Proofs.YtjmagehfkcnjjaaGreatDoor

/-
  ScriptPlace: walked.
-/
import Derived.Test.YtjmagehfkcnjjaaDoorSHS
import Derived.Test.YtjmagehfkcnjjaaDoorSPB
namespace Go.Proofs.YtjmagehfkcnjjaaDoor
set_option linter.unusedVariables false
open Go.RowKit

set_option maxRecDepth 100000 in
set_option maxHeartbeats 2000000 in
theorem pl_f1 (vs : List Int) (pts : List (Int × Int)) (vv sv : Value) (bad : ByteArray) (a : Int) (E : Int) (l : ByteArray) (w : World) (hv : IntsAt w vv vs) (hp : PtsAt w sv pts)
    (hpr : ∀ v, IntsAt v vv vs → PtsAt v sv pts → Below w.heap.size w v → Calls Tryd.prog 19 #[.agg #[vv, sv]] v fun e w' => e = .returned (.tuple #[.string l, .int .i64 E]) ∧ ∃ x : Later v, w' = x.out)
    (hsh : ∀ v, Below w.heap.size w v → Calls Tryd.prog 20 #[] v fun e w' => e = .returned (.bool true) ∧ ∃ x : Later v, w' = x.out) (h : 60 < vs.length) :
    Calls Tryd.prog 8 #[.agg #[vv, sv], .string bad, .int .u8 a] w fun e w' => e = .returned (.bool true) ∧ ∃ x : Later w, w' = x.out := by
  have HSH := Lib.hid hsh
  have HPR := Lib.hid hpr
  have HV := Lib.hid hv
  have HP := Lib.hid hp
  obtain ⟨av, cv, rfl⟩ := hv.form
  obtain ⟨ap, cp, rfl⟩ := ptsAt_form hp
  clear hsh hpr hv hp
  have d1 : decide ((60 : Int) < (vs.length : Int)) = true := by simp; omega
  generalize vs.length = n at *
  generalize pts.length = m at *
  go_enter Tryd.func8, Tryd.ntmps8
  go_wp2_with (first | (go_at_call 19; (with_reducible refine (HPR.out _ (HV.out.alloc _) (ptsAt_under HP.out ((Below.refl _ w).alloc (Nat.le_refl _) _) (Nat.le_refl _)) (by repeat (first | (with_reducible assumption) | (with_reducible exact Below.refl _ _) | (with_reducible refine Later.after ?_ _) | (with_reducible refine Later.newer ?_ _) | (with_reducible refine Below.drew ?_) | (with_reducible refine Below.setCell ?_ (by first | exact Nat.le_refl _ | exact Nat.le_add_right _ _ | omega | (simp [go_sem]; done) | (simp [go_sem]; omega)) _)))).mono ?_); rintro e _ ⟨rfl, x1, rfl⟩) | (go_at_call 20; (with_reducible refine (HSH.out _ (by repeat (first | (with_reducible assumption) | (with_reducible exact Below.refl _ _) | (with_reducible refine Later.after ?_ _) | (with_reducible refine Later.newer ?_ _) | (with_reducible refine Below.drew ?_) | (with_reducible refine Below.setCell ?_ (by first | exact Nat.le_refl _ | exact Nat.le_add_right _ _ | omega | (simp [go_sem]; done) | (simp [go_sem]; omega)) _)))).mono ?_); rintro e _ ⟨rfl, x2, rfl⟩))
  exact bodyPost_ret (v := .bool true) (by simp [results, Tryd.results8, go_sem, *]) rfl ⟨rfl, (Later.mk_of (by repeat (first | (with_reducible assumption) | (with_reducible exact Below.refl _ _) | (with_reducible refine Later.after ?_ _) | (with_reducible refine Later.newer ?_ _) | (with_reducible refine Below.drew ?_) | (with_reducible refine Below.setCell ?_ (by first | exact Nat.le_refl _ | exact Nat.le_add_right _ _ | omega | (simp [go_sem]; done) | (simp [go_sem]; omega)) _))))⟩

set_option maxRecDepth 100000 in
set_option maxHeartbeats 2000000 in
theorem pl_f2 (vs : List Int) (pts : List (Int × Int)) (vv sv : Value) (bad : ByteArray) (a : Int) (E : Int) (l : ByteArray) (w : World) (hv : IntsAt w vv vs) (hp : PtsAt w sv pts)
    (hpr : ∀ v, IntsAt v vv vs → PtsAt v sv pts → Below w.heap.size w v → Calls Tryd.prog 19 #[.agg #[vv, sv]] v fun e w' => e = .returned (.tuple #[.string l, .int .i64 E]) ∧ ∃ x : Later v, w' = x.out)
    (hsh : ∀ v, Below w.heap.size w v → Calls Tryd.prog 20 #[] v fun e w' => e = .returned (.bool true) ∧ ∃ x : Later v, w' = x.out) (h0 : ¬ 60 < vs.length) (h : 200 < pts.length) :
    Calls Tryd.prog 8 #[.agg #[vv, sv], .string bad, .int .u8 a] w fun e w' => e = .returned (.bool true) ∧ ∃ x : Later w, w' = x.out := by
  have HSH := Lib.hid hsh
  have HPR := Lib.hid hpr
  have HV := Lib.hid hv
  have HP := Lib.hid hp
  obtain ⟨av, cv, rfl⟩ := hv.form
  obtain ⟨ap, cp, rfl⟩ := ptsAt_form hp
  clear hsh hpr hv hp
  have d1 : decide ((60 : Int) < (vs.length : Int)) = false := by simp; omega
  have d2 : decide ((200 : Int) < (pts.length : Int)) = true := by simp; omega
  generalize vs.length = n at *
  generalize pts.length = m at *
  go_enter Tryd.func8, Tryd.ntmps8
  go_wp2_with (first | (go_at_call 19; (with_reducible refine (HPR.out _ (HV.out.alloc _) (ptsAt_under HP.out ((Below.refl _ w).alloc (Nat.le_refl _) _) (Nat.le_refl _)) (by repeat (first | (with_reducible assumption) | (with_reducible exact Below.refl _ _) | (with_reducible refine Later.after ?_ _) | (with_reducible refine Later.newer ?_ _) | (with_reducible refine Below.drew ?_) | (with_reducible refine Below.setCell ?_ (by first | exact Nat.le_refl _ | exact Nat.le_add_right _ _ | omega | (simp [go_sem]; done) | (simp [go_sem]; omega)) _)))).mono ?_); rintro e _ ⟨rfl, x1, rfl⟩) | (go_at_call 20; (with_reducible refine (HSH.out _ (by repeat (first | (with_reducible assumption) | (with_reducible exact Below.refl _ _) | (with_reducible refine Later.after ?_ _) | (with_reducible refine Later.newer ?_ _) | (with_reducible refine Below.drew ?_) | (with_reducible refine Below.setCell ?_ (by first | exact Nat.le_refl _ | exact Nat.le_add_right _ _ | omega | (simp [go_sem]; done) | (simp [go_sem]; omega)) _)))).mono ?_); rintro e _ ⟨rfl, x2, rfl⟩))
  exact bodyPost_ret (v := .bool true) (by simp [results, Tryd.results8, go_sem, *]) rfl ⟨rfl, (Later.mk_of (by repeat (first | (with_reducible assumption) | (with_reducible exact Below.refl _ _) | (with_reducible refine Later.after ?_ _) | (with_reducible refine Later.newer ?_ _) | (with_reducible refine Below.drew ?_) | (with_reducible refine Below.setCell ?_ (by first | exact Nat.le_refl _ | exact Nat.le_add_right _ _ | omega | (simp [go_sem]; done) | (simp [go_sem]; omega)) _))))⟩

set_option maxRecDepth 100000 in
set_option maxHeartbeats 2000000 in
theorem pl_f3 (vs : List Int) (pts : List (Int × Int)) (vv sv : Value) (bad : ByteArray) (a : Int) (E : Int) (l : ByteArray) (w : World) (hv : IntsAt w vv vs) (hp : PtsAt w sv pts)
    (hpr : ∀ v, IntsAt v vv vs → PtsAt v sv pts → Below w.heap.size w v → Calls Tryd.prog 19 #[.agg #[vv, sv]] v fun e w' => e = .returned (.tuple #[.string l, .int .i64 E]) ∧ ∃ x : Later v, w' = x.out)
    (hsh : ∀ v, Below w.heap.size w v → Calls Tryd.prog 20 #[] v fun e w' => e = .returned (.bool true) ∧ ∃ x : Later v, w' = x.out) (h0 : ¬ 60 < vs.length) (h : ¬ 200 < pts.length) (hE : E ≠ 0) :
    Calls Tryd.prog 8 #[.agg #[vv, sv], .string bad, .int .u8 a] w fun e w' => e = .returned (.bool true) ∧ ∃ x : Later w, w' = x.out := by
  have HSH := Lib.hid hsh
  have HPR := Lib.hid hpr
  have HV := Lib.hid hv
  have HP := Lib.hid hp
  obtain ⟨av, cv, rfl⟩ := hv.form
  obtain ⟨ap, cp, rfl⟩ := ptsAt_form hp
  clear hsh hpr hv hp
  have d1 : decide ((60 : Int) < (vs.length : Int)) = false := by simp; omega
  have d2 : decide ((200 : Int) < (pts.length : Int)) = false := by simp; omega
  have d3 : (E != 0) = true := by simpa using hE
  have d4 : (E == 0) = false := by simpa using hE
  generalize vs.length = n at *
  generalize pts.length = m at *
  go_enter Tryd.func8, Tryd.ntmps8
  go_wp2_with (first | (go_at_call 19; (with_reducible refine (HPR.out _ (HV.out.alloc _) (ptsAt_under HP.out ((Below.refl _ w).alloc (Nat.le_refl _) _) (Nat.le_refl _)) (by repeat (first | (with_reducible assumption) | (with_reducible exact Below.refl _ _) | (with_reducible refine Later.after ?_ _) | (with_reducible refine Later.newer ?_ _) | (with_reducible refine Below.drew ?_) | (with_reducible refine Below.setCell ?_ (by first | exact Nat.le_refl _ | exact Nat.le_add_right _ _ | omega | (simp [go_sem]; done) | (simp [go_sem]; omega)) _)))).mono ?_); rintro e _ ⟨rfl, x1, rfl⟩) | (go_at_call 20; (with_reducible refine (HSH.out _ (by repeat (first | (with_reducible assumption) | (with_reducible exact Below.refl _ _) | (with_reducible refine Later.after ?_ _) | (with_reducible refine Later.newer ?_ _) | (with_reducible refine Below.drew ?_) | (with_reducible refine Below.setCell ?_ (by first | exact Nat.le_refl _ | exact Nat.le_add_right _ _ | omega | (simp [go_sem]; done) | (simp [go_sem]; omega)) _)))).mono ?_); rintro e _ ⟨rfl, x2, rfl⟩))
  exact bodyPost_ret (v := .bool true) (by simp [results, Tryd.results8, go_sem, *]) rfl ⟨rfl, (Later.mk_of (by repeat (first | (with_reducible assumption) | (with_reducible exact Below.refl _ _) | (with_reducible refine Later.after ?_ _) | (with_reducible refine Later.newer ?_ _) | (with_reducible refine Below.drew ?_) | (with_reducible refine Below.setCell ?_ (by first | exact Nat.le_refl _ | exact Nat.le_add_right _ _ | omega | (simp [go_sem]; done) | (simp [go_sem]; omega)) _))))⟩

set_option maxRecDepth 100000 in
set_option maxHeartbeats 2000000 in
theorem pl_f4 (vs : List Int) (pts : List (Int × Int)) (vv sv : Value) (bad : ByteArray) (a : Int) (E : Int) (l : ByteArray) (w : World) (hv : IntsAt w vv vs) (hp : PtsAt w sv pts)
    (hpr : ∀ v, IntsAt v vv vs → PtsAt v sv pts → Below w.heap.size w v → Calls Tryd.prog 19 #[.agg #[vv, sv]] v fun e w' => e = .returned (.tuple #[.string l, .int .i64 E]) ∧ ∃ x : Later v, w' = x.out)
    (hsh : ∀ v, Below w.heap.size w v → Calls Tryd.prog 20 #[] v fun e w' => e = .returned (.bool true) ∧ ∃ x : Later v, w' = x.out) (h0 : ¬ 60 < vs.length) (h : ¬ 200 < pts.length) (hE : E = 0) (b1 : bad.toList ≠ [120]) (b2 : bad.toList ≠ [49, 46, 46]) (b3 : bad.toList ≠ [76, 76]) :
    Calls Tryd.prog 8 #[.agg #[vv, sv], .string bad, .int .u8 a] w fun e w' => e = .returned (.bool true) ∧ ∃ x : Later w, w' = x.out := by
  have HSH := Lib.hid hsh
  have HPR := Lib.hid hpr
  have HV := Lib.hid hv
  have HP := Lib.hid hp
  obtain ⟨av, cv, rfl⟩ := hv.form
  obtain ⟨ap, cp, rfl⟩ := ptsAt_form hp
  clear hsh hpr hv hp
  have d1 : decide ((60 : Int) < (vs.length : Int)) = false := by simp; omega
  have d2 : decide ((200 : Int) < (pts.length : Int)) = false := by simp; omega
  subst hE
  have e5 : (bad.toList == [120]) = false := by simpa using b1
  have e6 : (bad.toList == [49, 46, 46]) = false := by simpa using b2
  have e7 : (bad.toList == [76, 76]) = false := by simpa using b3
  generalize vs.length = n at *
  generalize pts.length = m at *
  go_enter Tryd.func8, Tryd.ntmps8
  go_wp2_with (first | (go_at_call 19; (with_reducible refine (HPR.out _ (HV.out.alloc _) (ptsAt_under HP.out ((Below.refl _ w).alloc (Nat.le_refl _) _) (Nat.le_refl _)) (by repeat (first | (with_reducible assumption) | (with_reducible exact Below.refl _ _) | (with_reducible refine Later.after ?_ _) | (with_reducible refine Later.newer ?_ _) | (with_reducible refine Below.drew ?_) | (with_reducible refine Below.setCell ?_ (by first | exact Nat.le_refl _ | exact Nat.le_add_right _ _ | omega | (simp [go_sem]; done) | (simp [go_sem]; omega)) _)))).mono ?_); rintro e _ ⟨rfl, x1, rfl⟩) | (go_at_call 20; (with_reducible refine (HSH.out _ (by repeat (first | (with_reducible assumption) | (with_reducible exact Below.refl _ _) | (with_reducible refine Later.after ?_ _) | (with_reducible refine Later.newer ?_ _) | (with_reducible refine Below.drew ?_) | (with_reducible refine Below.setCell ?_ (by first | exact Nat.le_refl _ | exact Nat.le_add_right _ _ | omega | (simp [go_sem]; done) | (simp [go_sem]; omega)) _)))).mono ?_); rintro e _ ⟨rfl, x2, rfl⟩))
  exact bodyPost_ret (v := .bool true) (by simp [results, Tryd.results8, go_sem, *]) rfl ⟨rfl, (Later.mk_of (by repeat (first | (with_reducible assumption) | (with_reducible exact Below.refl _ _) | (with_reducible refine Later.after ?_ _) | (with_reducible refine Later.newer ?_ _) | (with_reducible refine Below.drew ?_) | (with_reducible refine Below.setCell ?_ (by first | exact Nat.le_refl _ | exact Nat.le_add_right _ _ | omega | (simp [go_sem]; done) | (simp [go_sem]; omega)) _))))⟩

theorem ixp (l : List UInt8) (k : Nat) (b : UInt8) (h : l[k]? = some b) (W : World) : (Instr.index 9 (.string ⟨l.toArray⟩) (.int .i64 (k : Int))).run Tryd.prog W = .ok (.int .u8 (b.toNat : Int)) W := by
  obtain ⟨hk, e⟩ := List.getElem?_eq_some_iff.1 h
  rw [run_index_string W 9 _ .i64 _ Tryd.underlying9]
  have hk2 : (k : Int) < ((⟨l.toArray⟩ : ByteArray).size : Int) := by rw [ba_size]; omega
  rw [dif_pos ⟨by omega, hk2⟩]
  have e2 : ((⟨l.toArray⟩ : ByteArray)[(k : Int).toNat]'(by omega)) = b := by
    show l.toArray[(k : Int).toNat] = b
    simp [e]
  rw [e2]
theorem tw_in (l : List UInt8) (p j : Nat) (h : j < ((l.drop p).takeWhile (· != 32)).length) : ∃ c, l[p + j]? = some c ∧ c ≠ 32 := by
  have h1 := List.getElem_mem h
  have h2 := List.all_eq_true.1 (List.all_takeWhile (p := fun b : UInt8 => b != 32) (l := l.drop p)) _ h1
  refine ⟨((l.drop p).takeWhile (· != 32))[j], ?_, by simpa using h2⟩
  have h3 : ((l.drop p).takeWhile (· != 32))[j]? = some ((l.drop p).takeWhile (· != 32))[j] := List.getElem?_eq_getElem h
  have h4 : (l.drop p)[j]? = some ((l.drop p).takeWhile (· != 32))[j] := by
    have e : (l.drop p).takeWhile (· != 32) ++ (l.drop p).dropWhile (· != 32) = l.drop p := List.takeWhile_append_dropWhile
    rw [← h3]
    conv => lhs; rw [← e]
    exact List.getElem?_append_left h
  rw [List.getElem?_drop] at h4
  exact h4
theorem tw_out (l : List UInt8) (p : Nat) (h : p + ((l.drop p).takeWhile (· != 32)).length < l.length) : l[p + ((l.drop p).takeWhile (· != 32)).length]? = some 32 := by
  have e : (l.drop p).takeWhile (· != 32) ++ (l.drop p).dropWhile (· != 32) = l.drop p := List.takeWhile_append_dropWhile
  have hl := congrArg List.length e
  rw [List.length_append, List.length_drop] at hl
  have h3 : (l.drop p)[((l.drop p).takeWhile (· != 32)).length]? = ((l.drop p).takeWhile (· != 32) ++ (l.drop p).dropWhile (· != 32))[((l.drop p).takeWhile (· != 32)).length]? := by rw [e]
  rw [← List.getElem?_drop, h3, List.getElem?_append_right (Nat.le_refl _), Nat.sub_self]
  cases hd : (l.drop p).dropWhile (· != 32) with
  | nil => rw [hd] at hl; simp at hl; omega
  | cons c r =>
    have := List.head_dropWhile_not (p := fun b : UInt8 => b != 32) (l := l.drop p) (by rw [hd]; simp)
    simp only [hd, List.head_cons] at this
    obtain rfl : c = 32 := by simpa using this
    rfl
theorem ins_eq (l bl : List UInt8) (p : Nat) : (⟨(l.take p ++ (bl ++ 32 :: l.drop p)).toArray⟩ : ByteArray) = (⟨l.toArray⟩ : ByteArray).extract 0 p ++ ⟨bl.toArray⟩ ++ ⟨#[32]⟩ ++ (⟨l.toArray⟩ : ByteArray).extract p l.length := by
  apply ByteArray.ext
  simp
  exact (List.take_of_length_le (by rw [List.length_drop]; exact Nat.le_refl _)).symm
set_option maxRecDepth 100000 in
set_option maxHeartbeats 4000000 in
theorem pl_x (vs : List Int) (pts : List (Int × Int)) (vv sv : Value) (bad : ByteArray) (a : Int) (l bl : List UInt8) (N : Nat) (w : World) (hv : IntsAt w vv vs) (hp : PtsAt w sv pts)
    (hpr : ∀ v, IntsAt v vv vs → PtsAt v sv pts → Below w.heap.size w v → Calls Tryd.prog 19 #[.agg #[vv, sv]] v fun e w' => e = .returned (.tuple #[.string ⟨l.toArray⟩, .int .i64 0]) ∧ ∃ x : Later v, w' = x.out)
    (hsh : ∀ v, Below w.heap.size w v → Calls Tryd.prog 20 #[] v fun e w' => e = .returned (.bool true) ∧ ∃ x : Later v, w' = x.out)
    (hpa : ∀ v, Below w.heap.size w v → Calls Tryd.prog 21 #[.string ⟨(badT l bl (placeN l N)).toArray⟩] v (SRet v ([], [], (placeN l N : Int), 80)))
    (h0 : ¬ 60 < vs.length) (h : ¬ 200 < pts.length) (hN : a % ((vs.length : Int) + 2 * (pts.length : Int) + 1) = (N : Int)) (a0 : 0 ≤ a) (a9 : a ≤ 255) (hbl : bad = ⟨bl.toArray⟩) (hpl : ∀ i, i ≤ N → placeN l i ≤ l.length + 1) (hl9 : l.length ≤ 1000000) (hb3 : bl.length ≤ 3) (e5 : (bad.toList == [120]) = true) :
    Calls Tryd.prog 8 #[.agg #[vv, sv], .string bad, .int .u8 a] w fun e w' => e = .returned (.bool true) ∧ ∃ x : Later w, w' = x.out := by
  have HSH := Lib.hid hsh
  have HPR := Lib.hid hpr
  have HPA := Lib.hid hpa
  have HV := Lib.hid hv
  have HP := Lib.hid hp
  have HPL := Lib.hid hpl
  obtain ⟨av, cv, rfl⟩ := hv.form
  obtain ⟨ap, cp, rfl⟩ := ptsAt_form hp
  have d1 : decide ((60 : Int) < (vs.length : Int)) = false := by simp; omega
  have d2 : decide ((200 : Int) < (pts.length : Int)) = false := by simp; omega
  obtain ⟨S, hS⟩ : ∃ S : ByteArray, S = ⟨l.toArray⟩ := ⟨_, rfl⟩
  have hSz : S.size = l.length := by rw [hS, ba_size]
  rw [← hS] at hpr HPR
  have HS := Lib.hid hS
  have HSZ := Lib.hid hSz
  have HBL := Lib.hid hbl
  have hs9 : S.size ≤ 1000000 := by omega
  have hb9 : bad.size ≤ 3 := by rw [hbl, ba_size]; exact hb3
  clear hsh hpr hpa hv hp hpl hS hSz hbl
  generalize vs.length = n at *
  generalize pts.length = m at *
  obtain ⟨M2, hM2⟩ : ∃ M2, M2 = 2 * m := ⟨_, rfl⟩
  obtain ⟨K0, hK0⟩ : ∃ K0, K0 = n + M2 := ⟨_, rfl⟩
  obtain ⟨K, hK⟩ : ∃ K, K = K0 + 1 := ⟨_, rfl⟩
  have f1 : (2 : Int) * (m : Int) = (M2 : Int) := by omega
  have f2 : (n : Int) + (M2 : Int) = (K0 : Int) := by omega
  have f3 : (K0 : Int) + 1 = (K : Int) := by omega
  have f4 : a % (K : Int) = (N : Int) := by rw [← hN, ← f3, ← f2, ← f1]
  have f5 : a.tmod (K : Int) = (N : Int) := by rw [Int.tmod_eq_emod_of_nonneg a0]; exact f4
  have g1 : (M2 : Int) ≤ 400 := by omega
  have g2 : (K0 : Int) ≤ 460 := by omega
  have g3 : (K : Int) ≤ 461 := by omega
  have g4 : ¬ (K : Int) = 0 := by omega
  have g5 : ((K : Int) == 0) = false := by simpa using g4
  have hN9 : N ≤ 461 := by
    have := Int.emod_lt_of_pos a (show (0 : Int) < (K : Int) by omega)
    omega
  clear hN hM2 hK0 hK
  go_enter Tryd.func8, Tryd.ntmps8
  go_wp2_with (first | (go_at_call 19; (with_reducible refine (HPR.out _ (HV.out.alloc _) (ptsAt_under HP.out ((Below.refl _ w).alloc (Nat.le_refl _) _) (Nat.le_refl _)) (by repeat (first | (with_reducible assumption) | (with_reducible exact Below.refl _ _) | (with_reducible refine Later.after ?_ _) | (with_reducible refine Later.newer ?_ _) | (with_reducible refine Below.drew ?_) | (with_reducible refine Below.setCell ?_ (by first | exact Nat.le_refl _ | exact Nat.le_add_right _ _ | omega | (simp [go_sem]; done) | (simp [go_sem]; omega)) _)))).mono ?_); rintro e _ ⟨rfl, x1, rfl⟩) | (go_at_call 20; (with_reducible refine (HSH.out _ (by repeat (first | (with_reducible assumption) | (with_reducible exact Below.refl _ _) | (with_reducible refine Later.after ?_ _) | (with_reducible refine Later.newer ?_ _) | (with_reducible refine Below.drew ?_) | (with_reducible refine Below.setCell ?_ (by first | exact Nat.le_refl _ | exact Nat.le_add_right _ _ | omega | (simp [go_sem]; done) | (simp [go_sem]; omega)) _)))).mono ?_); rintro e _ ⟨rfl, x2, rfl⟩))
  go_loopw [10, 11] (fun pv iv wr => ∃ i : Nat, i ≤ N ∧ pv = .int .i64 ((placeN l i : Nat) : Int) ∧ iv = .int .i64 (i : Int) ∧ ∃ y : Later w, wr = y.out) (fun _ iv _ => N - (intOf iv).toNat)
  case atStart => exact ⟨0, Nat.zero_le _, rfl, rfl, (Later.mk_of (by repeat (first | (with_reducible assumption) | (with_reducible exact Below.refl _ _) | (with_reducible refine Later.after ?_ _) | (with_reducible refine Later.newer ?_ _) | (with_reducible refine Below.drew ?_) | (with_reducible refine Below.setCell ?_ (by first | exact Nat.le_refl _ | exact Nat.le_add_right _ _ | omega | (simp [go_sem]; done) | (simp [go_sem]; omega)) _))))⟩
  case round =>
    obtain ⟨i, hi, rfl, rfl, y, rfl⟩ := hrel
    obtain ⟨p, hp⟩ : ∃ p, p = placeN l i := ⟨_, rfl⟩
    have hp9 : p ≤ S.size + 1 := by rw [hp, HSZ.out]; exact HPL.out i hi
    have hnx : placeN l (i + 1) = p + ((l.drop p).takeWhile (· != 32)).length + 1 := by rw [hp]; rfl
    rw [← hp]
    have HPP := Lib.hid hp
    have HNX := Lib.hid hnx
    clear hp hnx
    by_cases hlt : i < N
    · have hd1 : decide ((i : Int) < (N : Int)) = true := by simp; exact hlt
      have hd2 : decide (i < N) = true := by simp; exact hlt
      obtain ⟨X, hX⟩ : ∃ X, X = ((l.drop p).takeWhile (· != 32)).length := ⟨_, rfl⟩
      have hX9 : X ≤ S.size := by rw [hX, HSZ.out]; exact Nat.le_trans (List.takeWhile_sublist _).length_le (by rw [List.length_drop]; omega)
      have HX := Lib.hid hX
      clear hX
      go_wp2_with (fail)
      go_loopw [10] (fun pv wr => ∃ j : Nat, j ≤ X ∧ pv = .int .i64 ((p + j : Nat) : Int) ∧ ∃ y : Later w, wr = y.out) (fun pv _ => p + X - (intOf pv).toNat)
      case atStart => exact ⟨0, Nat.zero_le _, rfl, y, rfl⟩
      case round =>
        obtain ⟨j, hj, rfl, y2, rfl⟩ := hrel
        obtain ⟨q, hq⟩ : ∃ q, q = p + j := ⟨_, rfl⟩
        rw [← hq]
        by_cases hjX : j < X
        · obtain ⟨c, hc1, hc2⟩ := tw_in l p j (by rw [← HX.out]; exact hjX)
          rw [← hq] at hc1
          have hql : q < S.size := by rw [HSZ.out]; exact (List.getElem?_eq_some_iff.1 hc1).1
          have hd3 : decide ((q : Int) < (S.size : Int)) = true := by simp; exact hql
          have hix := fun W => ixp l q c hc1 W
          rw [← HS.out] at hix
          have hcn : ((c.toNat : Int) != 32) = true := by
            have : c.toNat ≠ 32 := fun k => hc2 (by rw [← UInt8.toNat_inj]; exact k)
            simp; omega
          have HQ := Lib.hid hq
          clear hq hc1 hc2
          go_wp2_with (fail)
          go_roundw
          case rel => exact ⟨j + 1, by omega, by rw [HQ.out]; go_num, y2, rfl⟩
          case measure => have := HQ.out; simp [intOf]; omega
        · obtain rfl : j = X := by omega
          have HQ := Lib.hid hq
          have hq9 : q ≤ 3000000 := by omega
          have hto := tw_out l p
          rw [← HX.out, ← hq] at hto
          clear hq
          have fin : ∀ y2 : Later w, (∃ i_1 : Nat, i_1 ≤ N ∧ Value.int .i64 ((q : Int) + 1) = .int .i64 ((placeN l i_1 : Nat) : Int) ∧ Value.int .i64 ((i : Int) + 1) = .int .i64 (i_1 : Int) ∧ ∃ y : Later w, y2.out = y.out) := fun y2 =>
            ⟨i + 1, by omega, by rw [HNX.out, ← HX.out, ← HQ.out]; rfl, rfl, y2, rfl⟩
          have FIN := Lib.hid fin
          clear fin
          by_cases hql : q < S.size
          · have hd3 : decide ((q : Int) < (S.size : Int)) = true := by simp; exact hql
            have hix := fun W => ixp l q 32 (hto (by rw [← HSZ.out]; exact hql)) W
            rw [← HS.out] at hix
            clear hto
            go_wp2_with (fail)
            exact ⟨FIN.out y2, by simp [intOf]; omega⟩
          · have hd3 : decide ((q : Int) < (S.size : Int)) = false := by simp; omega
            clear hto
            go_wp2_with (fail)
            exact ⟨FIN.out y2, by simp [intOf]; omega⟩
    · obtain rfl : i = N := by omega
      have hd1 : decide ((i : Int) < (i : Int)) = false := by simp
      have hd2 : decide (i < i) = false := by simp
      obtain ⟨L1, hL1⟩ : ∃ L1, L1 = S.size + 1 := ⟨_, rfl⟩
      have e1 : (S.size : Int) + 1 = (L1 : Int) := by omega
      have e2 : (L1 : Int) ≤ 1000001 := by omega
      have e3 : min (p : Int) (L1 : Int) = (p : Int) := by omega
      have hpa := HPA.out
      rw [← HPP.out] at hpa
      by_cases hgt : S.size < p
      · have e4 : decide ((S.size : Int) < (p : Int)) = true := by simp; exact hgt
        have hT : (⟨(badT l bl p).toArray⟩ : ByteArray) = S ++ ⟨#[32]⟩ ++ bad := by
          unfold badT
          rw [if_pos (by rw [← HSZ.out]; exact hgt), HS.out, HBL.out]
          show _ = (⟨l.toArray⟩ : ByteArray) ++ ⟨([32] : List UInt8).toArray⟩ ++ ⟨bl.toArray⟩
          rw [ba_app, ba_app]
          simp
        rw [hT] at hpa
        have HPB := Lib.hid hpa
        clear hpa hT hL1
        go_wp2_with (first | (go_at_call 21; (with_reducible refine (HPB.out _ (by repeat (first | (with_reducible assumption) | (with_reducible exact Below.refl _ _) | (with_reducible refine Later.after ?_ _) | (with_reducible refine Later.newer ?_ _) | (with_reducible refine Below.drew ?_) | (with_reducible refine Below.setCell ?_ (by first | exact Nat.le_refl _ | exact Nat.le_add_right _ _ | omega | (simp [go_sem]; done) | (simp [go_sem]; omega)) _)))).mono ?_); rintro e _ ⟨_, _, rfl, hv, hp, x3, rfl⟩; obtain ⟨_, _, _, rfl⟩ := own_slice hv; obtain ⟨_, _, _, rfl⟩ := own_slice hp; clear hv hp))
        exact bodyPost_ret (v := .bool true) (by simp [results, Tryd.results8, go_sem, *]) rfl ⟨rfl, (Later.mk_of (by repeat (first | (with_reducible assumption) | (with_reducible exact Below.refl _ _) | (with_reducible refine Later.after ?_ _) | (with_reducible refine Later.newer ?_ _) | (with_reducible refine Below.drew ?_) | (with_reducible refine Below.setCell ?_ (by first | exact Nat.le_refl _ | exact Nat.le_add_right _ _ | omega | (simp [go_sem]; done) | (simp [go_sem]; omega)) _))))⟩
      · have e4 : decide ((S.size : Int) < (p : Int)) = false := by simp; omega
        have e5 : (p : Int) ≤ (S.size : Int) := by omega
        have hT : (⟨(badT l bl p).toArray⟩ : ByteArray) = S.extract 0 p ++ bad ++ ⟨#[32]⟩ ++ S.extract p S.size := by
          unfold badT
          rw [if_neg (by rw [← HSZ.out]; exact hgt), HSZ.out, HS.out, HBL.out]
          exact ins_eq l bl p
        rw [hT] at hpa
        have HPB := Lib.hid hpa
        clear hpa hT hL1
        go_wp2_with (fail)
        refine wp_region_later (by kernel_rfl) (by kernel_rfl) ?_
        repeat (go_big_quiet_step ((first | fail)))
        refine wpQuiet_nil ?_
        intro x
        go_wp2_with (first | (go_at_call 21; (with_reducible refine (HPB.out _ (by repeat (first | (with_reducible assumption) | (with_reducible exact Below.refl _ _) | (with_reducible refine Later.after ?_ _) | (with_reducible refine Later.newer ?_ _) | (with_reducible refine Below.drew ?_) | (with_reducible refine Below.setCell ?_ (by first | exact Nat.le_refl _ | exact Nat.le_add_right _ _ | omega | (simp [go_sem]; done) | (simp [go_sem]; omega)) _)))).mono ?_); rintro e _ ⟨_, _, rfl, hv, hp, x3, rfl⟩; obtain ⟨_, _, _, rfl⟩ := own_slice hv; obtain ⟨_, _, _, rfl⟩ := own_slice hp; clear hv hp))
        exact bodyPost_ret (v := .bool true) (by simp [results, Tryd.results8, go_sem, *]) rfl ⟨rfl, (Later.mk_of (by repeat (first | (with_reducible assumption) | (with_reducible exact Below.refl _ _) | (with_reducible refine Later.after ?_ _) | (with_reducible refine Later.newer ?_ _) | (with_reducible refine Below.drew ?_) | (with_reducible refine Below.setCell ?_ (by first | exact Nat.le_refl _ | exact Nat.le_add_right _ _ | omega | (simp [go_sem]; done) | (simp [go_sem]; omega)) _))))⟩

set_option maxRecDepth 100000 in
set_option maxHeartbeats 4000000 in
theorem pl_d (vs : List Int) (pts : List (Int × Int)) (vv sv : Value) (bad : ByteArray) (a : Int) (l bl : List UInt8) (N : Nat) (w : World) (hv : IntsAt w vv vs) (hp : PtsAt w sv pts)
    (hpr : ∀ v, IntsAt v vv vs → PtsAt v sv pts → Below w.heap.size w v → Calls Tryd.prog 19 #[.agg #[vv, sv]] v fun e w' => e = .returned (.tuple #[.string ⟨l.toArray⟩, .int .i64 0]) ∧ ∃ x : Later v, w' = x.out)
    (hsh : ∀ v, Below w.heap.size w v → Calls Tryd.prog 20 #[] v fun e w' => e = .returned (.bool true) ∧ ∃ x : Later v, w' = x.out)
    (hpa : ∀ v, Below w.heap.size w v → Calls Tryd.prog 21 #[.string ⟨(badT l bl (placeN l N)).toArray⟩] v (SRet v ([], [], (placeN l N : Int), 80)))
    (h0 : ¬ 60 < vs.length) (h : ¬ 200 < pts.length) (hN : a % ((vs.length : Int) + 2 * (pts.length : Int) + 1) = (N : Int)) (a0 : 0 ≤ a) (a9 : a ≤ 255) (hbl : bad = ⟨bl.toArray⟩) (hpl : ∀ i, i ≤ N → placeN l i ≤ l.length + 1) (hl9 : l.length ≤ 1000000) (hb3 : bl.length ≤ 3) (e5 : (bad.toList == [120]) = false) (e6 : (bad.toList == [49, 46, 46]) = true) :
    Calls Tryd.prog 8 #[.agg #[vv, sv], .string bad, .int .u8 a] w fun e w' => e = .returned (.bool true) ∧ ∃ x : Later w, w' = x.out := by
  have HSH := Lib.hid hsh
  have HPR := Lib.hid hpr
  have HPA := Lib.hid hpa
  have HV := Lib.hid hv
  have HP := Lib.hid hp
  have HPL := Lib.hid hpl
  obtain ⟨av, cv, rfl⟩ := hv.form
  obtain ⟨ap, cp, rfl⟩ := ptsAt_form hp
  have d1 : decide ((60 : Int) < (vs.length : Int)) = false := by simp; omega
  have d2 : decide ((200 : Int) < (pts.length : Int)) = false := by simp; omega
  obtain ⟨S, hS⟩ : ∃ S : ByteArray, S = ⟨l.toArray⟩ := ⟨_, rfl⟩
  have hSz : S.size = l.length := by rw [hS, ba_size]
  rw [← hS] at hpr HPR
  have HS := Lib.hid hS
  have HSZ := Lib.hid hSz
  have HBL := Lib.hid hbl
  have hs9 : S.size ≤ 1000000 := by omega
  have hb9 : bad.size ≤ 3 := by rw [hbl, ba_size]; exact hb3
  clear hsh hpr hpa hv hp hpl hS hSz hbl
  generalize vs.length = n at *
  generalize pts.length = m at *
  obtain ⟨M2, hM2⟩ : ∃ M2, M2 = 2 * m := ⟨_, rfl⟩
  obtain ⟨K0, hK0⟩ : ∃ K0, K0 = n + M2 := ⟨_, rfl⟩
  obtain ⟨K, hK⟩ : ∃ K, K = K0 + 1 := ⟨_, rfl⟩
  have f1 : (2 : Int) * (m : Int) = (M2 : Int) := by omega
  have f2 : (n : Int) + (M2 : Int) = (K0 : Int) := by omega
  have f3 : (K0 : Int) + 1 = (K : Int) := by omega
  have f4 : a % (K : Int) = (N : Int) := by rw [← hN, ← f3, ← f2, ← f1]
  have f5 : a.tmod (K : Int) = (N : Int) := by rw [Int.tmod_eq_emod_of_nonneg a0]; exact f4
  have g1 : (M2 : Int) ≤ 400 := by omega
  have g2 : (K0 : Int) ≤ 460 := by omega
  have g3 : (K : Int) ≤ 461 := by omega
  have g4 : ¬ (K : Int) = 0 := by omega
  have g5 : ((K : Int) == 0) = false := by simpa using g4
  have hN9 : N ≤ 461 := by
    have := Int.emod_lt_of_pos a (show (0 : Int) < (K : Int) by omega)
    omega
  clear hN hM2 hK0 hK
  go_enter Tryd.func8, Tryd.ntmps8
  go_wp2_with (first | (go_at_call 19; (with_reducible refine (HPR.out _ (HV.out.alloc _) (ptsAt_under HP.out ((Below.refl _ w).alloc (Nat.le_refl _) _) (Nat.le_refl _)) (by repeat (first | (with_reducible assumption) | (with_reducible exact Below.refl _ _) | (with_reducible refine Later.after ?_ _) | (with_reducible refine Later.newer ?_ _) | (with_reducible refine Below.drew ?_) | (with_reducible refine Below.setCell ?_ (by first | exact Nat.le_refl _ | exact Nat.le_add_right _ _ | omega | (simp [go_sem]; done) | (simp [go_sem]; omega)) _)))).mono ?_); rintro e _ ⟨rfl, x1, rfl⟩) | (go_at_call 20; (with_reducible refine (HSH.out _ (by repeat (first | (with_reducible assumption) | (with_reducible exact Below.refl _ _) | (with_reducible refine Later.after ?_ _) | (with_reducible refine Later.newer ?_ _) | (with_reducible refine Below.drew ?_) | (with_reducible refine Below.setCell ?_ (by first | exact Nat.le_refl _ | exact Nat.le_add_right _ _ | omega | (simp [go_sem]; done) | (simp [go_sem]; omega)) _)))).mono ?_); rintro e _ ⟨rfl, x2, rfl⟩))
  go_loopw [10, 11] (fun pv iv wr => ∃ i : Nat, i ≤ N ∧ pv = .int .i64 ((placeN l i : Nat) : Int) ∧ iv = .int .i64 (i : Int) ∧ ∃ y : Later w, wr = y.out) (fun _ iv _ => N - (intOf iv).toNat)
  case atStart => exact ⟨0, Nat.zero_le _, rfl, rfl, (Later.mk_of (by repeat (first | (with_reducible assumption) | (with_reducible exact Below.refl _ _) | (with_reducible refine Later.after ?_ _) | (with_reducible refine Later.newer ?_ _) | (with_reducible refine Below.drew ?_) | (with_reducible refine Below.setCell ?_ (by first | exact Nat.le_refl _ | exact Nat.le_add_right _ _ | omega | (simp [go_sem]; done) | (simp [go_sem]; omega)) _))))⟩
  case round =>
    obtain ⟨i, hi, rfl, rfl, y, rfl⟩ := hrel
    obtain ⟨p, hp⟩ : ∃ p, p = placeN l i := ⟨_, rfl⟩
    have hp9 : p ≤ S.size + 1 := by rw [hp, HSZ.out]; exact HPL.out i hi
    have hnx : placeN l (i + 1) = p + ((l.drop p).takeWhile (· != 32)).length + 1 := by rw [hp]; rfl
    rw [← hp]
    have HPP := Lib.hid hp
    have HNX := Lib.hid hnx
    clear hp hnx
    by_cases hlt : i < N
    · have hd1 : decide ((i : Int) < (N : Int)) = true := by simp; exact hlt
      have hd2 : decide (i < N) = true := by simp; exact hlt
      obtain ⟨X, hX⟩ : ∃ X, X = ((l.drop p).takeWhile (· != 32)).length := ⟨_, rfl⟩
      have hX9 : X ≤ S.size := by rw [hX, HSZ.out]; exact Nat.le_trans (List.takeWhile_sublist _).length_le (by rw [List.length_drop]; omega)
      have HX := Lib.hid hX
      clear hX
      go_wp2_with (fail)
      go_loopw [10] (fun pv wr => ∃ j : Nat, j ≤ X ∧ pv = .int .i64 ((p + j : Nat) : Int) ∧ ∃ y : Later w, wr = y.out) (fun pv _ => p + X - (intOf pv).toNat)
      case atStart => exact ⟨0, Nat.zero_le _, rfl, y, rfl⟩
      case round =>
        obtain ⟨j, hj, rfl, y2, rfl⟩ := hrel
        obtain ⟨q, hq⟩ : ∃ q, q = p + j := ⟨_, rfl⟩
        rw [← hq]
        by_cases hjX : j < X
        · obtain ⟨c, hc1, hc2⟩ := tw_in l p j (by rw [← HX.out]; exact hjX)
          rw [← hq] at hc1
          have hql : q < S.size := by rw [HSZ.out]; exact (List.getElem?_eq_some_iff.1 hc1).1
          have hd3 : decide ((q : Int) < (S.size : Int)) = true := by simp; exact hql
          have hix := fun W => ixp l q c hc1 W
          rw [← HS.out] at hix
          have hcn : ((c.toNat : Int) != 32) = true := by
            have : c.toNat ≠ 32 := fun k => hc2 (by rw [← UInt8.toNat_inj]; exact k)
            simp; omega
          have HQ := Lib.hid hq
          clear hq hc1 hc2
          go_wp2_with (fail)
          go_roundw
          case rel => exact ⟨j + 1, by omega, by rw [HQ.out]; go_num, y2, rfl⟩
          case measure => have := HQ.out; simp [intOf]; omega
        · obtain rfl : j = X := by omega
          have HQ := Lib.hid hq
          have hq9 : q ≤ 3000000 := by omega
          have hto := tw_out l p
          rw [← HX.out, ← hq] at hto
          clear hq
          have fin : ∀ y2 : Later w, (∃ i_1 : Nat, i_1 ≤ N ∧ Value.int .i64 ((q : Int) + 1) = .int .i64 ((placeN l i_1 : Nat) : Int) ∧ Value.int .i64 ((i : Int) + 1) = .int .i64 (i_1 : Int) ∧ ∃ y : Later w, y2.out = y.out) := fun y2 =>
            ⟨i + 1, by omega, by rw [HNX.out, ← HX.out, ← HQ.out]; rfl, rfl, y2, rfl⟩
          have FIN := Lib.hid fin
          clear fin
          by_cases hql : q < S.size
          · have hd3 : decide ((q : Int) < (S.size : Int)) = true := by simp; exact hql
            have hix := fun W => ixp l q 32 (hto (by rw [← HSZ.out]; exact hql)) W
            rw [← HS.out] at hix
            clear hto
            go_wp2_with (fail)
            exact ⟨FIN.out y2, by simp [intOf]; omega⟩
          · have hd3 : decide ((q : Int) < (S.size : Int)) = false := by simp; omega
            clear hto
            go_wp2_with (fail)
            exact ⟨FIN.out y2, by simp [intOf]; omega⟩
    · obtain rfl : i = N := by omega
      have hd1 : decide ((i : Int) < (i : Int)) = false := by simp
      have hd2 : decide (i < i) = false := by simp
      obtain ⟨L1, hL1⟩ : ∃ L1, L1 = S.size + 1 := ⟨_, rfl⟩
      have e1 : (S.size : Int) + 1 = (L1 : Int) := by omega
      have e2 : (L1 : Int) ≤ 1000001 := by omega
      have e3 : min (p : Int) (L1 : Int) = (p : Int) := by omega
      have hpa := HPA.out
      rw [← HPP.out] at hpa
      by_cases hgt : S.size < p
      · have e4 : decide ((S.size : Int) < (p : Int)) = true := by simp; exact hgt
        have hT : (⟨(badT l bl p).toArray⟩ : ByteArray) = S ++ ⟨#[32]⟩ ++ bad := by
          unfold badT
          rw [if_pos (by rw [← HSZ.out]; exact hgt), HS.out, HBL.out]
          show _ = (⟨l.toArray⟩ : ByteArray) ++ ⟨([32] : List UInt8).toArray⟩ ++ ⟨bl.toArray⟩
          rw [ba_app, ba_app]
          simp
        rw [hT] at hpa
        have HPB := Lib.hid hpa
        clear hpa hT hL1
        go_wp2_with (first | (go_at_call 21; (with_reducible refine (HPB.out _ (by repeat (first | (with_reducible assumption) | (with_reducible exact Below.refl _ _) | (with_reducible refine Later.after ?_ _) | (with_reducible refine Later.newer ?_ _) | (with_reducible refine Below.drew ?_) | (with_reducible refine Below.setCell ?_ (by first | exact Nat.le_refl _ | exact Nat.le_add_right _ _ | omega | (simp [go_sem]; done) | (simp [go_sem]; omega)) _)))).mono ?_); rintro e _ ⟨_, _, rfl, hv, hp, x3, rfl⟩; obtain ⟨_, _, _, rfl⟩ := own_slice hv; obtain ⟨_, _, _, rfl⟩ := own_slice hp; clear hv hp))
        exact bodyPost_ret (v := .bool true) (by simp [results, Tryd.results8, go_sem, *]) rfl ⟨rfl, (Later.mk_of (by repeat (first | (with_reducible assumption) | (with_reducible exact Below.refl _ _) | (with_reducible refine Later.after ?_ _) | (with_reducible refine Later.newer ?_ _) | (with_reducible refine Below.drew ?_) | (with_reducible refine Below.setCell ?_ (by first | exact Nat.le_refl _ | exact Nat.le_add_right _ _ | omega | (simp [go_sem]; done) | (simp [go_sem]; omega)) _))))⟩
      · have e4 : decide ((S.size : Int) < (p : Int)) = false := by simp; omega
        have e5 : (p : Int) ≤ (S.size : Int) := by omega
        have hT : (⟨(badT l bl p).toArray⟩ : ByteArray) = S.extract 0 p ++ bad ++ ⟨#[32]⟩ ++ S.extract p S.size := by
          unfold badT
          rw [if_neg (by rw [← HSZ.out]; exact hgt), HSZ.out, HS.out, HBL.out]
          exact ins_eq l bl p
        rw [hT] at hpa
        have HPB := Lib.hid hpa
        clear hpa hT hL1
        go_wp2_with (fail)
        refine wp_region_later (by kernel_rfl) (by kernel_rfl) ?_
        repeat (go_big_quiet_step ((first | fail)))
        refine wpQuiet_nil ?_
        intro x
        go_wp2_with (first | (go_at_call 21; (with_reducible refine (HPB.out _ (by repeat (first | (with_reducible assumption) | (with_reducible exact Below.refl _ _) | (with_reducible refine Later.after ?_ _) | (with_reducible refine Later.newer ?_ _) | (with_reducible refine Below.drew ?_) | (with_reducible refine Below.setCell ?_ (by first | exact Nat.le_refl _ | exact Nat.le_add_right _ _ | omega | (simp [go_sem]; done) | (simp [go_sem]; omega)) _)))).mono ?_); rintro e _ ⟨_, _, rfl, hv, hp, x3, rfl⟩; obtain ⟨_, _, _, rfl⟩ := own_slice hv; obtain ⟨_, _, _, rfl⟩ := own_slice hp; clear hv hp))
        exact bodyPost_ret (v := .bool true) (by simp [results, Tryd.results8, go_sem, *]) rfl ⟨rfl, (Later.mk_of (by repeat (first | (with_reducible assumption) | (with_reducible exact Below.refl _ _) | (with_reducible refine Later.after ?_ _) | (with_reducible refine Later.newer ?_ _) | (with_reducible refine Below.drew ?_) | (with_reducible refine Below.setCell ?_ (by first | exact Nat.le_refl _ | exact Nat.le_add_right _ _ | omega | (simp [go_sem]; done) | (simp [go_sem]; omega)) _))))⟩

set_option maxRecDepth 100000 in
set_option maxHeartbeats 4000000 in
theorem pl_l (vs : List Int) (pts : List (Int × Int)) (vv sv : Value) (bad : ByteArray) (a : Int) (l bl : List UInt8) (N : Nat) (w : World) (hv : IntsAt w vv vs) (hp : PtsAt w sv pts)
    (hpr : ∀ v, IntsAt v vv vs → PtsAt v sv pts → Below w.heap.size w v → Calls Tryd.prog 19 #[.agg #[vv, sv]] v fun e w' => e = .returned (.tuple #[.string ⟨l.toArray⟩, .int .i64 0]) ∧ ∃ x : Later v, w' = x.out)
    (hsh : ∀ v, Below w.heap.size w v → Calls Tryd.prog 20 #[] v fun e w' => e = .returned (.bool true) ∧ ∃ x : Later v, w' = x.out)
    (hpa : ∀ v, Below w.heap.size w v → Calls Tryd.prog 21 #[.string ⟨(badT l bl (placeN l N)).toArray⟩] v (SRet v ([], [], (placeN l N : Int), 80)))
    (h0 : ¬ 60 < vs.length) (h : ¬ 200 < pts.length) (hN : a % ((vs.length : Int) + 2 * (pts.length : Int) + 1) = (N : Int)) (a0 : 0 ≤ a) (a9 : a ≤ 255) (hbl : bad = ⟨bl.toArray⟩) (hpl : ∀ i, i ≤ N → placeN l i ≤ l.length + 1) (hl9 : l.length ≤ 1000000) (hb3 : bl.length ≤ 3) (e5 : (bad.toList == [120]) = false) (e6 : (bad.toList == [49, 46, 46]) = false) (e7 : (bad.toList == [76, 76]) = true) :
    Calls Tryd.prog 8 #[.agg #[vv, sv], .string bad, .int .u8 a] w fun e w' => e = .returned (.bool true) ∧ ∃ x : Later w, w' = x.out := by
  have HSH := Lib.hid hsh
  have HPR := Lib.hid hpr
  have HPA := Lib.hid hpa
  have HV := Lib.hid hv
  have HP := Lib.hid hp
  have HPL := Lib.hid hpl
  obtain ⟨av, cv, rfl⟩ := hv.form
  obtain ⟨ap, cp, rfl⟩ := ptsAt_form hp
  have d1 : decide ((60 : Int) < (vs.length : Int)) = false := by simp; omega
  have d2 : decide ((200 : Int) < (pts.length : Int)) = false := by simp; omega
  obtain ⟨S, hS⟩ : ∃ S : ByteArray, S = ⟨l.toArray⟩ := ⟨_, rfl⟩
  have hSz : S.size = l.length := by rw [hS, ba_size]
  rw [← hS] at hpr HPR
  have HS := Lib.hid hS
  have HSZ := Lib.hid hSz
  have HBL := Lib.hid hbl
  have hs9 : S.size ≤ 1000000 := by omega
  have hb9 : bad.size ≤ 3 := by rw [hbl, ba_size]; exact hb3
  clear hsh hpr hpa hv hp hpl hS hSz hbl
  generalize vs.length = n at *
  generalize pts.length = m at *
  obtain ⟨M2, hM2⟩ : ∃ M2, M2 = 2 * m := ⟨_, rfl⟩
  obtain ⟨K0, hK0⟩ : ∃ K0, K0 = n + M2 := ⟨_, rfl⟩
  obtain ⟨K, hK⟩ : ∃ K, K = K0 + 1 := ⟨_, rfl⟩
  have f1 : (2 : Int) * (m : Int) = (M2 : Int) := by omega
  have f2 : (n : Int) + (M2 : Int) = (K0 : Int) := by omega
  have f3 : (K0 : Int) + 1 = (K : Int) := by omega
  have f4 : a % (K : Int) = (N : Int) := by rw [← hN, ← f3, ← f2, ← f1]
  have f5 : a.tmod (K : Int) = (N : Int) := by rw [Int.tmod_eq_emod_of_nonneg a0]; exact f4
  have g1 : (M2 : Int) ≤ 400 := by omega
  have g2 : (K0 : Int) ≤ 460 := by omega
  have g3 : (K : Int) ≤ 461 := by omega
  have g4 : ¬ (K : Int) = 0 := by omega
  have g5 : ((K : Int) == 0) = false := by simpa using g4
  have hN9 : N ≤ 461 := by
    have := Int.emod_lt_of_pos a (show (0 : Int) < (K : Int) by omega)
    omega
  clear hN hM2 hK0 hK
  go_enter Tryd.func8, Tryd.ntmps8
  go_wp2_with (first | (go_at_call 19; (with_reducible refine (HPR.out _ (HV.out.alloc _) (ptsAt_under HP.out ((Below.refl _ w).alloc (Nat.le_refl _) _) (Nat.le_refl _)) (by repeat (first | (with_reducible assumption) | (with_reducible exact Below.refl _ _) | (with_reducible refine Later.after ?_ _) | (with_reducible refine Later.newer ?_ _) | (with_reducible refine Below.drew ?_) | (with_reducible refine Below.setCell ?_ (by first | exact Nat.le_refl _ | exact Nat.le_add_right _ _ | omega | (simp [go_sem]; done) | (simp [go_sem]; omega)) _)))).mono ?_); rintro e _ ⟨rfl, x1, rfl⟩) | (go_at_call 20; (with_reducible refine (HSH.out _ (by repeat (first | (with_reducible assumption) | (with_reducible exact Below.refl _ _) | (with_reducible refine Later.after ?_ _) | (with_reducible refine Later.newer ?_ _) | (with_reducible refine Below.drew ?_) | (with_reducible refine Below.setCell ?_ (by first | exact Nat.le_refl _ | exact Nat.le_add_right _ _ | omega | (simp [go_sem]; done) | (simp [go_sem]; omega)) _)))).mono ?_); rintro e _ ⟨rfl, x2, rfl⟩))
  go_loopw [10, 11] (fun pv iv wr => ∃ i : Nat, i ≤ N ∧ pv = .int .i64 ((placeN l i : Nat) : Int) ∧ iv = .int .i64 (i : Int) ∧ ∃ y : Later w, wr = y.out) (fun _ iv _ => N - (intOf iv).toNat)
  case atStart => exact ⟨0, Nat.zero_le _, rfl, rfl, (Later.mk_of (by repeat (first | (with_reducible assumption) | (with_reducible exact Below.refl _ _) | (with_reducible refine Later.after ?_ _) | (with_reducible refine Later.newer ?_ _) | (with_reducible refine Below.drew ?_) | (with_reducible refine Below.setCell ?_ (by first | exact Nat.le_refl _ | exact Nat.le_add_right _ _ | omega | (simp [go_sem]; done) | (simp [go_sem]; omega)) _))))⟩
  case round =>
    obtain ⟨i, hi, rfl, rfl, y, rfl⟩ := hrel
    obtain ⟨p, hp⟩ : ∃ p, p = placeN l i := ⟨_, rfl⟩
    have hp9 : p ≤ S.size + 1 := by rw [hp, HSZ.out]; exact HPL.out i hi
    have hnx : placeN l (i + 1) = p + ((l.drop p).takeWhile (· != 32)).length + 1 := by rw [hp]; rfl
    rw [← hp]
    have HPP := Lib.hid hp
    have HNX := Lib.hid hnx
    clear hp hnx
    by_cases hlt : i < N
    · have hd1 : decide ((i : Int) < (N : Int)) = true := by simp; exact hlt
      have hd2 : decide (i < N) = true := by simp; exact hlt
      obtain ⟨X, hX⟩ : ∃ X, X = ((l.drop p).takeWhile (· != 32)).length := ⟨_, rfl⟩
      have hX9 : X ≤ S.size := by rw [hX, HSZ.out]; exact Nat.le_trans (List.takeWhile_sublist _).length_le (by rw [List.length_drop]; omega)
      have HX := Lib.hid hX
      clear hX
      go_wp2_with (fail)
      go_loopw [10] (fun pv wr => ∃ j : Nat, j ≤ X ∧ pv = .int .i64 ((p + j : Nat) : Int) ∧ ∃ y : Later w, wr = y.out) (fun pv _ => p + X - (intOf pv).toNat)
      case atStart => exact ⟨0, Nat.zero_le _, rfl, y, rfl⟩
      case round =>
        obtain ⟨j, hj, rfl, y2, rfl⟩ := hrel
        obtain ⟨q, hq⟩ : ∃ q, q = p + j := ⟨_, rfl⟩
        rw [← hq]
        by_cases hjX : j < X
        · obtain ⟨c, hc1, hc2⟩ := tw_in l p j (by rw [← HX.out]; exact hjX)
          rw [← hq] at hc1
          have hql : q < S.size := by rw [HSZ.out]; exact (List.getElem?_eq_some_iff.1 hc1).1
          have hd3 : decide ((q : Int) < (S.size : Int)) = true := by simp; exact hql
          have hix := fun W => ixp l q c hc1 W
          rw [← HS.out] at hix
          have hcn : ((c.toNat : Int) != 32) = true := by
            have : c.toNat ≠ 32 := fun k => hc2 (by rw [← UInt8.toNat_inj]; exact k)
            simp; omega
          have HQ := Lib.hid hq
          clear hq hc1 hc2
          go_wp2_with (fail)
          go_roundw
          case rel => exact ⟨j + 1, by omega, by rw [HQ.out]; go_num, y2, rfl⟩
          case measure => have := HQ.out; simp [intOf]; omega
        · obtain rfl : j = X := by omega
          have HQ := Lib.hid hq
          have hq9 : q ≤ 3000000 := by omega
          have hto := tw_out l p
          rw [← HX.out, ← hq] at hto
          clear hq
          have fin : ∀ y2 : Later w, (∃ i_1 : Nat, i_1 ≤ N ∧ Value.int .i64 ((q : Int) + 1) = .int .i64 ((placeN l i_1 : Nat) : Int) ∧ Value.int .i64 ((i : Int) + 1) = .int .i64 (i_1 : Int) ∧ ∃ y : Later w, y2.out = y.out) := fun y2 =>
            ⟨i + 1, by omega, by rw [HNX.out, ← HX.out, ← HQ.out]; rfl, rfl, y2, rfl⟩
          have FIN := Lib.hid fin
          clear fin
          by_cases hql : q < S.size
          · have hd3 : decide ((q : Int) < (S.size : Int)) = true := by simp; exact hql
            have hix := fun W => ixp l q 32 (hto (by rw [← HSZ.out]; exact hql)) W
            rw [← HS.out] at hix
            clear hto
            go_wp2_with (fail)
            exact ⟨FIN.out y2, by simp [intOf]; omega⟩
          · have hd3 : decide ((q : Int) < (S.size : Int)) = false := by simp; omega
            clear hto
            go_wp2_with (fail)
            exact ⟨FIN.out y2, by simp [intOf]; omega⟩
    · obtain rfl : i = N := by omega
      have hd1 : decide ((i : Int) < (i : Int)) = false := by simp
      have hd2 : decide (i < i) = false := by simp
      obtain ⟨L1, hL1⟩ : ∃ L1, L1 = S.size + 1 := ⟨_, rfl⟩
      have e1 : (S.size : Int) + 1 = (L1 : Int) := by omega
      have e2 : (L1 : Int) ≤ 1000001 := by omega
      have e3 : min (p : Int) (L1 : Int) = (p : Int) := by omega
      have hpa := HPA.out
      rw [← HPP.out] at hpa
      by_cases hgt : S.size < p
      · have e4 : decide ((S.size : Int) < (p : Int)) = true := by simp; exact hgt
        have hT : (⟨(badT l bl p).toArray⟩ : ByteArray) = S ++ ⟨#[32]⟩ ++ bad := by
          unfold badT
          rw [if_pos (by rw [← HSZ.out]; exact hgt), HS.out, HBL.out]
          show _ = (⟨l.toArray⟩ : ByteArray) ++ ⟨([32] : List UInt8).toArray⟩ ++ ⟨bl.toArray⟩
          rw [ba_app, ba_app]
          simp
        rw [hT] at hpa
        have HPB := Lib.hid hpa
        clear hpa hT hL1
        go_wp2_with (first | (go_at_call 21; (with_reducible refine (HPB.out _ (by repeat (first | (with_reducible assumption) | (with_reducible exact Below.refl _ _) | (with_reducible refine Later.after ?_ _) | (with_reducible refine Later.newer ?_ _) | (with_reducible refine Below.drew ?_) | (with_reducible refine Below.setCell ?_ (by first | exact Nat.le_refl _ | exact Nat.le_add_right _ _ | omega | (simp [go_sem]; done) | (simp [go_sem]; omega)) _)))).mono ?_); rintro e _ ⟨_, _, rfl, hv, hp, x3, rfl⟩; obtain ⟨_, _, _, rfl⟩ := own_slice hv; obtain ⟨_, _, _, rfl⟩ := own_slice hp; clear hv hp))
        exact bodyPost_ret (v := .bool true) (by simp [results, Tryd.results8, go_sem, *]) rfl ⟨rfl, (Later.mk_of (by repeat (first | (with_reducible assumption) | (with_reducible exact Below.refl _ _) | (with_reducible refine Later.after ?_ _) | (with_reducible refine Later.newer ?_ _) | (with_reducible refine Below.drew ?_) | (with_reducible refine Below.setCell ?_ (by first | exact Nat.le_refl _ | exact Nat.le_add_right _ _ | omega | (simp [go_sem]; done) | (simp [go_sem]; omega)) _))))⟩
      · have e4 : decide ((S.size : Int) < (p : Int)) = false := by simp; omega
        have e5 : (p : Int) ≤ (S.size : Int) := by omega
        have hT : (⟨(badT l bl p).toArray⟩ : ByteArray) = S.extract 0 p ++ bad ++ ⟨#[32]⟩ ++ S.extract p S.size := by
          unfold badT
          rw [if_neg (by rw [← HSZ.out]; exact hgt), HSZ.out, HS.out, HBL.out]
          exact ins_eq l bl p
        rw [hT] at hpa
        have HPB := Lib.hid hpa
        clear hpa hT hL1
        go_wp2_with (fail)
        refine wp_region_later (by kernel_rfl) (by kernel_rfl) ?_
        repeat (go_big_quiet_step ((first | fail)))
        refine wpQuiet_nil ?_
        intro x
        go_wp2_with (first | (go_at_call 21; (with_reducible refine (HPB.out _ (by repeat (first | (with_reducible assumption) | (with_reducible exact Below.refl _ _) | (with_reducible refine Later.after ?_ _) | (with_reducible refine Later.newer ?_ _) | (with_reducible refine Below.drew ?_) | (with_reducible refine Below.setCell ?_ (by first | exact Nat.le_refl _ | exact Nat.le_add_right _ _ | omega | (simp [go_sem]; done) | (simp [go_sem]; omega)) _)))).mono ?_); rintro e _ ⟨_, _, rfl, hv, hp, x3, rfl⟩; obtain ⟨_, _, _, rfl⟩ := own_slice hv; obtain ⟨_, _, _, rfl⟩ := own_slice hp; clear hv hp))
        exact bodyPost_ret (v := .bool true) (by simp [results, Tryd.results8, go_sem, *]) rfl ⟨rfl, (Later.mk_of (by repeat (first | (with_reducible assumption) | (with_reducible exact Below.refl _ _) | (with_reducible refine Later.after ?_ _) | (with_reducible refine Later.newer ?_ _) | (with_reducible refine Below.drew ?_) | (with_reducible refine Below.setCell ?_ (by first | exact Nat.le_refl _ | exact Nat.le_add_right _ _ | omega | (simp [go_sem]; done) | (simp [go_sem]; omega)) _))))⟩

theorem badT_len (l bl : List UInt8) (p : Nat) : (badT l bl p).length ≤ l.length + bl.length + 1 := by
  unfold badT
  split
  · rw [List.length_append, List.length_cons]; omega
  · rw [List.length_append, List.length_append, List.length_cons, List.length_take, List.length_drop]; omega
theorem badT_ascii (l bl : List UInt8) (p : Nat) (h1 : ∀ b ∈ l, b.toNat < 128) (h2 : ∀ b ∈ bl, b.toNat < 128) : ∀ b ∈ badT l bl p, b.toNat < 128 := by
  intro b hb
  unfold badT at hb
  split at hb
  · rcases List.mem_append.1 hb with hb | hb
    · exact h1 b hb
    · rcases List.mem_cons.1 hb with rfl | hb
      · decide
      · exact h2 b hb
  · rcases List.mem_append.1 hb with hb | hb
    · exact h1 b (List.mem_of_mem_take hb)
    · rcases List.mem_append.1 hb with hb | hb
      · exact h2 b hb
      · rcases List.mem_cons.1 hb with rfl | hb
        · decide
        · exact h1 b (List.mem_of_mem_drop hb)
theorem place_walk (vs : List Int) (pts : List (Int × Int)) (vv sv : Value) (bad : ByteArray) (a : Int) (mx : Int) (w : World) (hv : IntsAt w vv vs) (hp : PtsAt w sv pts) (a0 : 0 ≤ a) (a9 : a ≤ 255) (hm : w.cell? ⟨3, 0, none⟩ = some (.int .i64 mx)) (htab : Lib.TabIs Tryd.prog w "internal/strconv.uint64pow10" .u64 Lib.pow10Tab) :
    Calls Tryd.prog 8 #[.agg #[vv, sv], .string bad, .int .u8 a] w fun e w' => e = .returned (.bool true) ∧ ∃ x : Later w, w' = x.out := by
  have hmv : ∀ v, Below w.heap.size w v → v.cell? ⟨3, 0, none⟩ = some (.int .i64 mx) := fun v hb => (hb.cell (p := ⟨3, 0, none⟩) (World.block_lt_of_cell? w _ hm)).trans hm
  have hsh : ∀ v, Below w.heap.size w v → Calls Tryd.prog 20 #[] v fun e w' => e = .returned (.bool true) ∧ ∃ x : Later v, w' = x.out := fun v hb => shown_8 mx v (hmv v hb) (Lib.tabBelow_of_tabIs htab v hb)
  have hpr : ∀ v, IntsAt v vv vs → PtsAt v sv pts → Below w.heap.size w v → Calls Tryd.prog 19 #[.agg #[vv, sv]] v fun e w' => e = .returned (.tuple #[.string ⟨(spS vs pts).toArray⟩, .int .i64 (chk vs pts)]) ∧ ∃ x : Later v, w' = x.out := fun v k1 k2 hb => sprint_c vs pts vv sv v k1 k2 (Lib.tabBelow_of_tabIs htab v hb)
  by_cases h0 : 60 < vs.length
  · exact pl_f1 vs pts vv sv bad a _ _ w hv hp hpr hsh h0
  by_cases h1 : 200 < pts.length
  · exact pl_f2 vs pts vv sv bad a _ _ w hv hp hpr hsh h0 h1
  by_cases hE : chk vs pts = 0
  · by_cases hbb : Bad bad.toList
    · obtain ⟨_, gv, gt, gf⟩ := chk_ok hE
      rw [hE] at hpr
      have hs : spS vs pts = joinB (pwords vs pts) := by unfold spS; rw [if_pos hE]
      rw [hs] at hpr
      have hlen := pwords_len vs pts (by omega)
      have hpw := pwords_pw vs pts gv gf
      obtain ⟨N, hN⟩ : ∃ N : Nat, a % ((vs.length : Int) + 2 * (pts.length : Int) + 1) = (N : Int) := ⟨(a % ((vs.length : Int) + 2 * (pts.length : Int) + 1)).toNat, by have := Int.emod_nonneg a (show (vs.length : Int) + 2 * (pts.length : Int) + 1 ≠ 0 by omega); omega⟩
      have hNl : N ≤ (pwords vs pts).length := by
        have := Int.emod_lt_of_pos a (show (0 : Int) < (vs.length : Int) + 2 * (pts.length : Int) + 1 by omega)
        omega
      have hbw := bad_word hbb
      have hwl := wlen_le _ hpw
      have hjl := joinB_len (pwords vs pts)
      have hbl : bad = ⟨bad.toList.toArray⟩ := by
        rw [Lib.toList_data]
      have hw : ∀ w ∈ pwords vs pts, Word w := fun w hw => (hpw w hw).1
      have hpa : ∀ v, Below w.heap.size w v → Calls Tryd.prog 21 #[.string ⟨(badT (joinB (pwords vs pts)) bad.toList (placeN (joinB (pwords vs pts)) N)).toArray⟩] v (SRet v ([], [], (placeN (joinB (pwords vs pts)) N : Int), 80)) := fun v hb => by
        have hbt := badT_len (joinB (pwords vs pts)) bad.toList (placeN (joinB (pwords vs pts)) N)
        have h := sparse_c (badT (joinB (pwords vs pts)) bad.toList (placeN (joinB (pwords vs pts)) N)) mx (by omega) (by rw [wds_bad_len vs pts hE bad.toList hbb N hNl]; omega)
          (iany_ascii _ (by omega) (badT_ascii _ _ _ (joinB_ascii _ (fun w hw => (hpw w hw).2.1)) hbw.2.2.2.2)) v (hmv v hb)
        rw [spR_bad vs pts hE bad.toList hbb N hNl] at h
        exact h
      have hpl : ∀ i, i ≤ N → placeN (joinB (pwords vs pts)) i ≤ (joinB (pwords vs pts)).length + 1 := fun i hi => by
        rw [placeN_join _ hw i (by omega)]
        have := wlen_take (pwords vs pts) i
        omega
      rcases hbb with e | e | e
      · exact pl_x vs pts vv sv bad a _ bad.toList N w hv hp hpr hsh hpa h0 h1 hN a0 a9 hbl hpl (by omega) hbw.2.2.2.1 (by rw [e]; rfl)
      · exact pl_d vs pts vv sv bad a _ bad.toList N w hv hp hpr hsh hpa h0 h1 hN a0 a9 hbl hpl (by omega) hbw.2.2.2.1 (by rw [e]; rfl) (by rw [e]; rfl)
      · exact pl_l vs pts vv sv bad a _ bad.toList N w hv hp hpr hsh hpa h0 h1 hN a0 a9 hbl hpl (by omega) hbw.2.2.2.1 (by rw [e]; rfl) (by rw [e]; rfl) (by rw [e]; rfl)
    · unfold Bad at hbb
      exact pl_f4 vs pts vv sv bad a _ _ w hv hp hpr hsh h0 h1 hE (fun e => hbb (.inl e)) (fun e => hbb (.inr (.inl e))) (fun e => hbb (.inr (.inr e)))
  · exact pl_f3 vs pts vv sv bad a _ _ w hv hp hpr hsh h0 h1 hE
end Go.Proofs.YtjmagehfkcnjjaaDoor

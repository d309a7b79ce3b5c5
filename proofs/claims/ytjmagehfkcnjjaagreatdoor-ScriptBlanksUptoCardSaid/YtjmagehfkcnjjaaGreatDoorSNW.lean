/-
  ScriptBlanks: walked.
-/
import Derived.Test.YtjmagehfkcnjjaaGreatDoorSHS
import Derived.Test.YtjmagehfkcnjjaaGreatDoorSPN
import Derived.Test.YtjmagehfkcnjjaaGreatDoorSIB
import Derived.Test.YtjmagehfkcnjjaaGreatDoorRSM
import Derived.Test.YtjmagehfkcnjjaaGreatDoorU8Row
namespace Go.Proofs.YtjmagehfkcnjjaaGreatDoor
set_option linter.unusedVariables false
open Go.RowKit

theorem agm_alloc {W : World} {v : Value} {l : List (Int × Int)} (h : PtsAt W v l) (o : Obj) : PtsAt (W.alloc o) v l := ptsAt_under h ((Below.refl _ W).alloc (Nat.le_refl _) o) (Nat.le_refl _)
theorem agm_later {W : World} {v : Value} {l : List (Int × Int)} (h : PtsAt W v l) (x : Later W) : PtsAt x.out v l := ptsAt_under h x.below (Nat.le_refl _)
theorem agm_drew {W : World} {v : Value} {l : List (Int × Int)} (h : PtsAt W v l) : PtsAt W.drew v l := ptsAt_under h (Below.refl _ W).drew (Nat.le_refl _)
theorem ixn (l : List UInt8) (k : Nat) (b : UInt8) (h : l[k]? = some b) (W : World) : (Instr.index 9 (.string ⟨l.toArray⟩) (.int .i64 (k : Int))).run Tryz.prog W = .ok (.int .u8 (b.toNat : Int)) W := ixr l k b h W
theorem cut_one (l : List UInt8) (i : Nat) (b : UInt8) (h : l[i]? = some b) (t : List UInt8) : (⟨t.toArray⟩ : ByteArray) ++ (⟨l.toArray⟩ : ByteArray).extract i (i + 1) = ⟨(t ++ [b]).toArray⟩ := by
  obtain ⟨hi, e⟩ := List.getElem?_eq_some_iff.1 h
  apply ByteArray.ext
  simp
  rw [List.take_one, List.head?_drop, h]
  rfl
theorem app_lit (t : List UInt8) (c : Int) (u : List UInt8) (h : sepB c = u) : (⟨t.toArray⟩ : ByteArray) ++ ⟨u.toArray⟩ = ⟨(t ++ sepB c).toArray⟩ := by rw [h, ba_app]
set_option maxRecDepth 100000 in
set_option maxHeartbeats 2000000 in
theorem bl_f1 (vs : List Int) (pts : List (Int × Int)) (bv : Value) (S : ByteArray) (k E : Int) (w : World) (hsh : ∀ v, Below w.heap.size w v → Calls Tryz.prog 17 #[] v fun e w' => e = .returned (.bool true) ∧ ∃ x : Later v, w' = x.out) (hpa : ∀ v, Below w.heap.size w v → Calls Tryz.prog 21 #[.string S] v (SRet v (vs, pts, k, E))) (h : 200 < S.size) :
    Calls Tryz.prog 6 #[.string S, bv] w fun e w' => e = .returned (.bool true) ∧ ∃ x : Later w, w' = x.out := by
  have HSH := Lib.hid hsh
  have HPA := Lib.hid hpa
  clear hsh hpa
  have d1 : decide ((200 : Int) < (S.size : Int)) = true := by simp; omega
  go_enter Tryz.func6, Tryz.ntmps6
  go_wp2_with (first | (go_at_call 21; (with_reducible refine (HPA.out _ (by repeat (first | (with_reducible assumption) | (with_reducible exact Below.refl _ _) | (with_reducible refine Later.after ?_ _) | (with_reducible refine Later.newer ?_ _) | (with_reducible refine Below.drew ?_) | (with_reducible refine Below.setCell ?_ (by first | exact Nat.le_refl _ | exact Nat.le_add_right _ _ | omega | (simp [go_sem]; done) | (simp [go_sem]; omega)) _)))).mono ?_); rintro e _ ⟨_, _, rfl, hv, hp, x1, rfl⟩; have hv1 := intsAt_own hv; have hp1 := ptsAt_own hp; obtain ⟨a1, n1, c1, rfl⟩ := own_slice hv; obtain ⟨a2, n2, c2, rfl⟩ := own_slice hp; have HV1 := Lib.hid hv1; have HP1 := Lib.hid hp1; clear hv hp hv1 hp1) | (go_at_call 17; (with_reducible refine (HSH.out _ (by repeat (first | (with_reducible assumption) | (with_reducible exact Below.refl _ _) | (with_reducible refine Later.after ?_ _) | (with_reducible refine Later.newer ?_ _) | (with_reducible refine Below.drew ?_) | (with_reducible refine Below.setCell ?_ (by first | exact Nat.le_refl _ | exact Nat.le_add_right _ _ | omega | (simp [go_sem]; done) | (simp [go_sem]; omega)) _)))).mono ?_); rintro e _ ⟨rfl, xs, rfl⟩))
  exact bodyPost_ret (v := .bool true) (by simp [results, Tryz.results6, go_sem, *]) rfl ⟨rfl, (Later.mk_of (by repeat (first | (with_reducible assumption) | (with_reducible exact Below.refl _ _) | (with_reducible refine Later.after ?_ _) | (with_reducible refine Later.newer ?_ _) | (with_reducible refine Below.drew ?_) | (with_reducible refine Below.setCell ?_ (by first | exact Nat.le_refl _ | exact Nat.le_add_right _ _ | omega | (simp [go_sem]; done) | (simp [go_sem]; omega)) _))))⟩

set_option maxRecDepth 100000 in
set_option maxHeartbeats 2000000 in
theorem bl_f2 (vs : List Int) (pts : List (Int × Int)) (bv : Value) (S : ByteArray) (k E : Int) (w : World) (hsh : ∀ v, Below w.heap.size w v → Calls Tryz.prog 17 #[] v fun e w' => e = .returned (.bool true) ∧ ∃ x : Later v, w' = x.out) (hpa : ∀ v, Below w.heap.size w v → Calls Tryz.prog 21 #[.string S] v (SRet v (vs, pts, k, E))) (h : ¬ 200 < S.size) (hE : E ≠ 0) :
    Calls Tryz.prog 6 #[.string S, bv] w fun e w' => e = .returned (.bool true) ∧ ∃ x : Later w, w' = x.out := by
  have HSH := Lib.hid hsh
  have HPA := Lib.hid hpa
  clear hsh hpa
  have d1 : decide ((200 : Int) < (S.size : Int)) = false := by simp; omega
  have d2 : (E != 0) = true := by simpa using hE
  have d3 : (E == 0) = false := by simpa using hE
  go_enter Tryz.func6, Tryz.ntmps6
  go_wp2_with (first | (go_at_call 21; (with_reducible refine (HPA.out _ (by repeat (first | (with_reducible assumption) | (with_reducible exact Below.refl _ _) | (with_reducible refine Later.after ?_ _) | (with_reducible refine Later.newer ?_ _) | (with_reducible refine Below.drew ?_) | (with_reducible refine Below.setCell ?_ (by first | exact Nat.le_refl _ | exact Nat.le_add_right _ _ | omega | (simp [go_sem]; done) | (simp [go_sem]; omega)) _)))).mono ?_); rintro e _ ⟨_, _, rfl, hv, hp, x1, rfl⟩; have hv1 := intsAt_own hv; have hp1 := ptsAt_own hp; obtain ⟨a1, n1, c1, rfl⟩ := own_slice hv; obtain ⟨a2, n2, c2, rfl⟩ := own_slice hp; have HV1 := Lib.hid hv1; have HP1 := Lib.hid hp1; clear hv hp hv1 hp1) | (go_at_call 17; (with_reducible refine (HSH.out _ (by repeat (first | (with_reducible assumption) | (with_reducible exact Below.refl _ _) | (with_reducible refine Later.after ?_ _) | (with_reducible refine Later.newer ?_ _) | (with_reducible refine Below.drew ?_) | (with_reducible refine Below.setCell ?_ (by first | exact Nat.le_refl _ | exact Nat.le_add_right _ _ | omega | (simp [go_sem]; done) | (simp [go_sem]; omega)) _)))).mono ?_); rintro e _ ⟨rfl, xs, rfl⟩))
  exact bodyPost_ret (v := .bool true) (by simp [results, Tryz.results6, go_sem, *]) rfl ⟨rfl, (Later.mk_of (by repeat (first | (with_reducible assumption) | (with_reducible exact Below.refl _ _) | (with_reducible refine Later.after ?_ _) | (with_reducible refine Later.newer ?_ _) | (with_reducible refine Below.drew ?_) | (with_reducible refine Below.setCell ?_ (by first | exact Nat.le_refl _ | exact Nat.le_add_right _ _ | omega | (simp [go_sem]; done) | (simp [go_sem]; omega)) _))))⟩

set_option maxRecDepth 100000 in
set_option maxHeartbeats 4000000 in
theorem bl_main (vs : List Int) (pts : List (Int × Int)) (bv : Value) (l : List UInt8) (by_ : List Int) (k : Int) (w : World) (hsh : ∀ v, Below w.heap.size w v → Calls Tryz.prog 17 #[] v fun e w' => e = .returned (.bool true) ∧ ∃ x : Later v, w' = x.out) (hb : U8At w bv by_) (hby : ∀ p ∈ by_, 0 ≤ p ∧ p ≤ 255)
    (hpa : ∀ v, Below w.heap.size w v → Calls Tryz.prog 21 #[.string ⟨l.toArray⟩] v (SRet v (vs, pts, k, 0)))
    (hpb : ∀ v, Below w.heap.size w v → Calls Tryz.prog 21 #[.string ⟨((blS by_ l).1 ++ [10, 44]).toArray⟩] v (SRet v (vs, pts, 0, 0))) (h : ¬ 200 < l.length) :
    Calls Tryz.prog 6 #[.string ⟨l.toArray⟩, bv] w fun e w' => e = .returned (.bool true) ∧ ∃ x : Later w, w' = x.out := by
  have HSH := Lib.hid hsh
  have HPB := Lib.hid hpb
  have HBY := Lib.hid hby
  obtain ⟨ab, cb, rfl, hk⟩ : ∃ ab cb, bv = .slice ab by_.length cb ∧ (0 < by_.length → ∃ b o, ab = some ⟨b, o, none⟩ ∧ b < w.heap.size ∧ ∀ (i : Nat) (p : Int), by_[i]? = some p → w.cell? ⟨b, o + i, none⟩ = some (.int .u8 p)) := by
    rcases hb with ⟨a, c, rfl, rfl⟩ | ⟨b, o, c, rfl, h1, h2⟩
    · exact ⟨a, c, rfl, fun h => absurd h (Nat.lt_irrefl _)⟩
    · exact ⟨_, c, rfl, fun _ => ⟨b, o, rfl, h1, h2⟩⟩
  have HK := Lib.hid hk
  obtain ⟨S, hS⟩ : ∃ S : ByteArray, S = ⟨l.toArray⟩ := ⟨_, rfl⟩
  have hSz : S.size = l.length := by rw [hS, ba_size]
  rw [← hS] at hpa ⊢
  have HPA := Lib.hid hpa
  have HS := Lib.hid hS
  have HSZ := Lib.hid hSz
  have hs9 : S.size ≤ 200 := by omega
  have d1 : decide ((200 : Int) < (S.size : Int)) = false := by simp; omega
  clear hsh hpa hpb hby hb hk hS hSz h
  generalize hm : by_.length = m at *
  have HM := Lib.hid hm
  clear hm
  go_enter Tryz.func6, Tryz.ntmps6
  go_wp2_with (first | (go_at_call 21; (with_reducible refine (HPA.out _ (by repeat (first | (with_reducible assumption) | (with_reducible exact Below.refl _ _) | (with_reducible refine Later.after ?_ _) | (with_reducible refine Later.newer ?_ _) | (with_reducible refine Below.drew ?_) | (with_reducible refine Below.setCell ?_ (by first | exact Nat.le_refl _ | exact Nat.le_add_right _ _ | omega | (simp [go_sem]; done) | (simp [go_sem]; omega)) _)))).mono ?_); rintro e _ ⟨_, _, rfl, hv, hp, x1, rfl⟩; have hv1 := intsAt_own hv; have hp1 := ptsAt_own hp; obtain ⟨a1, n1, c1, rfl⟩ := own_slice hv; obtain ⟨a2, n2, c2, rfl⟩ := own_slice hp; have HV1 := Lib.hid hv1; have HP1 := Lib.hid hp1; clear hv hp hv1 hp1) | (go_at_call 17; (with_reducible refine (HSH.out _ (by repeat (first | (with_reducible assumption) | (with_reducible exact Below.refl _ _) | (with_reducible refine Later.after ?_ _) | (with_reducible refine Later.newer ?_ _) | (with_reducible refine Below.drew ?_) | (with_reducible refine Below.setCell ?_ (by first | exact Nat.le_refl _ | exact Nat.le_add_right _ _ | omega | (simp [go_sem]; done) | (simp [go_sem]; omega)) _)))).mono ?_); rintro e _ ⟨rfl, xs, rfl⟩))
  have q1 : Blk xs.out x1.out.heap.size 31 #[.slice a1 n1 c1, .slice a2 n2 c2] := (by repeat (first | (with_reducible assumption) | (with_reducible refine Blk.later ?_ _) | (with_reducible refine Blk.drew ?_) | ((with_reducible refine Blk.new' ?_); (simp; done)) | (with_reducible refine Blk.alloc ?_ _)))
  have j1 : IntsAt xs.out (.slice a1 n1 c1) vs := (by repeat (first | (with_reducible exact HV1.out) | (with_reducible refine IntsAt.later ?_ _) | (with_reducible refine IntsAt.drew ?_) | (with_reducible refine IntsAt.alloc ?_ _)))
  have j2 : PtsAt xs.out (.slice a2 n2 c2) pts := (by repeat (first | (with_reducible exact HP1.out) | (with_reducible refine agm_later ?_ _) | (with_reducible refine agm_drew ?_) | (with_reducible refine agm_alloc ?_ _)))
  have J1 := Lib.hid j1
  have J2 := Lib.hid j2
  have hB0 : Below w.heap.size w xs.out := by repeat (first | (with_reducible assumption) | (with_reducible exact Below.refl _ _) | (with_reducible refine Later.after ?_ _) | (with_reducible refine Later.newer ?_ _) | (with_reducible refine Below.drew ?_) | (with_reducible refine Below.setCell ?_ (by first | exact Nat.le_refl _ | exact Nat.le_add_right _ _ | omega | (simp [go_sem]; done) | (simp [go_sem]; omega)) _))
  have Q1 := Lib.hid q1
  have HB0 := Lib.hid hB0
  clear j1 j2 q1 hB0
  generalize xs.out = W0 at *
  generalize x1.out.heap.size = B1 at *
  go_loopw [8, 9, 10] (fun s8 s9 s10 wr => ∃ i : Nat, i ≤ S.size ∧ s10 = .int .i64 (i : Int) ∧ s8 = .string ⟨(blS by_ (l.take i)).1.toArray⟩ ∧ s9 = .int .i64 (((blS by_ (l.take i)).2 : Nat) : Int) ∧ ∃ y : Later W0, wr = y.out) (fun _ _ s10 _ => S.size - (intOf s10).toNat)
  case atStart => exact ⟨0, Nat.zero_le _, rfl, rfl, rfl, (Later.mk_of (by repeat (first | (with_reducible assumption) | (with_reducible exact Below.refl _ _) | (with_reducible refine Later.after ?_ _) | (with_reducible refine Later.newer ?_ _) | (with_reducible refine Below.drew ?_) | (with_reducible refine Below.setCell ?_ (by first | exact Nat.le_refl _ | exact Nat.le_add_right _ _ | omega | (simp [go_sem]; done) | (simp [go_sem]; omega)) _))))⟩
  case round =>
    obtain ⟨i, hi, rfl, rfl, rfl, y, rfl⟩ := hrel
    have hbl := blS_len by_ (l.take i)
    have htl : (l.take i).length ≤ 200 := by rw [List.length_take]; have := HSZ.out; omega
    obtain ⟨T, hT⟩ : ∃ T : ByteArray, T = ⟨(blS by_ (l.take i)).1.toArray⟩ := ⟨_, rfl⟩
    obtain ⟨N, hN⟩ : ∃ N : Nat, N = (blS by_ (l.take i)).2 := ⟨_, rfl⟩
    have hT9 : T.size ≤ 700 := by rw [hT, ba_size]; omega
    have hN9 : N ≤ 200 := by rw [hN]; omega
    rw [← hT, ← hN]
    have HT := Lib.hid hT
    have HNN := Lib.hid hN
    clear hbl htl hT hN
    by_cases hlt : i < S.size
    · have hd1 : decide ((i : Int) < (S.size : Int)) = true := by simp; exact hlt
      have hd2 : decide (i < S.size) = true := by simp; exact hlt
      obtain ⟨b, hb⟩ : ∃ b, l[i]? = some b := ⟨_, List.getElem?_eq_getElem (by rw [← HSZ.out]; exact hlt)⟩
      have hix := fun W => ixn l i b hb W
      rw [← HS.out] at hix
      obtain ⟨I1, hI1⟩ : ∃ I1, I1 = i + 1 := ⟨_, rfl⟩
      have f1 : (i : Int) + 1 = (I1 : Int) := by omega
      have f2 : (I1 : Int) ≤ (S.size : Int) := by omega
      have f4 : (i : Int) ≤ 200 := by omega
      have f5 : (I1 : Int) ≤ 201 := by omega
      have f6 : IntKind.i64.wrap ((i : Int) + 1) = (I1 : Int) := by rw [IntWalk.i64_in _ (by omega)]; exact f1
      have f7 : wrap64 ((i : Int) + 1) = (I1 : Int) := by unfold wrap64; omega
      clear f1
      have f3 : (i : Int) ≤ (I1 : Int) := by omega
      have hx := cut_one l i b hb (blS by_ (l.take i)).1
      rw [← HT.out, ← HS.out, ← hI1] at hx
      have HX := Lib.hid hx
      have hsn : blS by_ (l.take (i + 1)) = stepB by_ (blS by_ (l.take i)) b := by rw [List.take_add_one, hb, Option.toList_some, blS_snoc]
      have FA : Hid (¬ (b = 32 ∧ N < m) → (blS by_ (l.take (i + 1))).1 = (blS by_ (l.take i)).1 ++ [b] ∧ (blS by_ (l.take (i + 1))).2 = N) := Lib.hid fun k => by
        rw [hsn]; unfold stepB; rw [HNN.out, ← HM.out] at *; rw [if_neg k]; exact ⟨rfl, rfl⟩
      have FC : Hid (b = 32 → N < m → (blS by_ (l.take (i + 1))).1 = (blS by_ (l.take i)).1 ++ [b] ++ sepB ((by_[N]?.getD 0) % 5) ∧ (blS by_ (l.take (i + 1))).2 = N + 1) := Lib.hid fun k1 k2 => by
        rw [hsn]; unfold stepB; rw [HNN.out, ← HM.out] at *; rw [if_pos ⟨k1, k2⟩]; exact ⟨rfl, rfl⟩
      clear hsn hx hb
      by_cases hb32 : b = 32
      · have g1 : ((b.toNat : Int) == 32) = true := by subst hb32; rfl
        by_cases hnm : N < m
        · have g2 : decide ((N : Int) < (m : Int)) = true := by simp; exact hnm
          obtain ⟨b0, o, rfl, lb, fc⟩ := HK.out (by omega)
          obtain ⟨c, hc⟩ : ∃ c, by_[N]? = some c := ⟨_, List.getElem?_eq_getElem (by rw [HM.out]; exact hnm)⟩
          obtain ⟨c0, c9⟩ := HBY.out c (List.mem_of_getElem? hc)
          have r1 := ((HB0.out.trans (y.below.mono HB0.out.size)).cell (p := ⟨b0, o + N, none⟩) lb).trans (fc N c hc)
          have lb' : b0 < y.out.heap.size := Nat.lt_of_lt_of_le lb (Nat.le_trans HB0.out.size y.size_le)
          have HC : Hid (by_[N]?.getD 0 = c) := Lib.hid (by rw [hc]; rfl)
          clear fc hc
          have hcm : c % 5 = 0 ∨ c % 5 = 1 ∨ c % 5 = 2 ∨ c % 5 = 3 ∨ c % 5 = 4 := by omega
          rcases hcm with hcm | hcm | hcm | hcm | hcm
          · have e1 : c % 5 = 0 := hcm
            have e2 : c.tmod 5 = 0 := by rw [Int.tmod_eq_emod_of_nonneg c0]; exact hcm
            have HE := Lib.hid e1
            clear hcm
            go_wp2_with (fail)
            go_roundw
            case rel => exact ⟨i + 1, by omega, (by first | rw [hI1] | go_num), by rw [(FC.out hb32 hnm).1, HC.out, HE.out]; (try rw [← hI1]); rw [HX.out]; exact congrArg Value.string (app_lit _ 0 [9] rfl), by rw [(FC.out hb32 hnm).2]; go_num, (Later.mk_of (by repeat (first | (with_reducible assumption) | (with_reducible exact Below.refl _ _) | (with_reducible refine Later.after ?_ _) | (with_reducible refine Later.newer ?_ _) | (with_reducible refine Below.drew ?_) | (with_reducible refine Below.setCell ?_ (by first | exact Nat.le_refl _ | exact Nat.le_add_right _ _ | omega | (simp [go_sem]; done) | (simp [go_sem]; omega)) _))))⟩
            case measure => simp [intOf]; omega
          · have e1 : c % 5 = 1 := hcm
            have e2 : c.tmod 5 = 1 := by rw [Int.tmod_eq_emod_of_nonneg c0]; exact hcm
            have HE := Lib.hid e1
            clear hcm
            go_wp2_with (fail)
            go_roundw
            case rel => exact ⟨i + 1, by omega, (by first | rw [hI1] | go_num), by rw [(FC.out hb32 hnm).1, HC.out, HE.out]; (try rw [← hI1]); rw [HX.out]; exact congrArg Value.string (app_lit _ 1 [10, 32] rfl), by rw [(FC.out hb32 hnm).2]; go_num, (Later.mk_of (by repeat (first | (with_reducible assumption) | (with_reducible exact Below.refl _ _) | (with_reducible refine Later.after ?_ _) | (with_reducible refine Later.newer ?_ _) | (with_reducible refine Below.drew ?_) | (with_reducible refine Below.setCell ?_ (by first | exact Nat.le_refl _ | exact Nat.le_add_right _ _ | omega | (simp [go_sem]; done) | (simp [go_sem]; omega)) _))))⟩
            case measure => simp [intOf]; omega
          · have e1 : c % 5 = 2 := hcm
            have e2 : c.tmod 5 = 2 := by rw [Int.tmod_eq_emod_of_nonneg c0]; exact hcm
            have HE := Lib.hid e1
            clear hcm
            go_wp2_with (fail)
            go_roundw
            case rel => exact ⟨i + 1, by omega, (by first | rw [hI1] | go_num), by rw [(FC.out hb32 hnm).1, HC.out, HE.out]; (try rw [← hI1]); rw [HX.out]; exact congrArg Value.string (app_lit _ 2 [44] rfl), by rw [(FC.out hb32 hnm).2]; go_num, (Later.mk_of (by repeat (first | (with_reducible assumption) | (with_reducible exact Below.refl _ _) | (with_reducible refine Later.after ?_ _) | (with_reducible refine Later.newer ?_ _) | (with_reducible refine Below.drew ?_) | (with_reducible refine Below.setCell ?_ (by first | exact Nat.le_refl _ | exact Nat.le_add_right _ _ | omega | (simp [go_sem]; done) | (simp [go_sem]; omega)) _))))⟩
            case measure => simp [intOf]; omega
          · have e1 : c % 5 = 3 := hcm
            have e2 : c.tmod 5 = 3 := by rw [Int.tmod_eq_emod_of_nonneg c0]; exact hcm
            have HE := Lib.hid e1
            clear hcm
            go_wp2_with (fail)
            go_roundw
            case rel => exact ⟨i + 1, by omega, (by first | rw [hI1] | go_num), by rw [(FC.out hb32 hnm).1, HC.out, HE.out]; (try rw [← hI1]); rw [HX.out]; exact congrArg Value.string (app_lit _ 3 [13, 10] rfl), by rw [(FC.out hb32 hnm).2]; go_num, (Later.mk_of (by repeat (first | (with_reducible assumption) | (with_reducible exact Below.refl _ _) | (with_reducible refine Later.after ?_ _) | (with_reducible refine Later.newer ?_ _) | (with_reducible refine Below.drew ?_) | (with_reducible refine Below.setCell ?_ (by first | exact Nat.le_refl _ | exact Nat.le_add_right _ _ | omega | (simp [go_sem]; done) | (simp [go_sem]; omega)) _))))⟩
            case measure => simp [intOf]; omega
          · have e1 : c % 5 = 4 := hcm
            have e2 : c.tmod 5 = 4 := by rw [Int.tmod_eq_emod_of_nonneg c0]; exact hcm
            have HE := Lib.hid e1
            clear hcm
            go_wp2_with (fail)
            go_roundw
            case rel => exact ⟨i + 1, by omega, (by first | rw [hI1] | go_num), by rw [(FC.out hb32 hnm).1, HC.out, HE.out]; (try rw [← hI1]); rw [HX.out]; exact congrArg Value.string (app_lit _ 4 [32, 32] rfl), by rw [(FC.out hb32 hnm).2]; go_num, (Later.mk_of (by repeat (first | (with_reducible assumption) | (with_reducible exact Below.refl _ _) | (with_reducible refine Later.after ?_ _) | (with_reducible refine Later.newer ?_ _) | (with_reducible refine Below.drew ?_) | (with_reducible refine Below.setCell ?_ (by first | exact Nat.le_refl _ | exact Nat.le_add_right _ _ | omega | (simp [go_sem]; done) | (simp [go_sem]; omega)) _))))⟩
            case measure => simp [intOf]; omega
        · have g2 : decide ((N : Int) < (m : Int)) = false := by simp; omega
          go_wp2_with (fail)
          go_roundw
          case rel => exact ⟨i + 1, by omega, (by first | rw [hI1] | go_num), by rw [(FA.out (fun k => hnm k.2)).1, ← HX.out, hI1], by rw [(FA.out (fun k => hnm k.2)).2], (Later.mk_of (by repeat (first | (with_reducible assumption) | (with_reducible exact Below.refl _ _) | (with_reducible refine Later.after ?_ _) | (with_reducible refine Later.newer ?_ _) | (with_reducible refine Below.drew ?_) | (with_reducible refine Below.setCell ?_ (by first | exact Nat.le_refl _ | exact Nat.le_add_right _ _ | omega | (simp [go_sem]; done) | (simp [go_sem]; omega)) _))))⟩
          case measure => simp [intOf]; omega
      · have g1 : ((b.toNat : Int) == 32) = false := by
          have : b.toNat ≠ 32 := fun k => hb32 (by rw [← UInt8.toNat_inj]; exact k)
          simp; omega
        go_wp2_with (fail)
        go_roundw
        case rel => exact ⟨i + 1, by omega, (by first | rw [hI1] | go_num), by rw [(FA.out (fun k => hb32 k.1)).1, ← HX.out, hI1], by rw [(FA.out (fun k => hb32 k.1)).2], (Later.mk_of (by repeat (first | (with_reducible assumption) | (with_reducible exact Below.refl _ _) | (with_reducible refine Later.after ?_ _) | (with_reducible refine Later.newer ?_ _) | (with_reducible refine Below.drew ?_) | (with_reducible refine Below.setCell ?_ (by first | exact Nat.le_refl _ | exact Nat.le_add_right _ _ | omega | (simp [go_sem]; done) | (simp [go_sem]; omega)) _))))⟩
        case measure => simp [intOf]; omega
    · obtain rfl : i = S.size := by omega
      have hd1 : decide ((S.size : Int) < (S.size : Int)) = false := by simp
      have e9 : l.take S.size = l := List.take_of_length_le (by rw [HSZ.out]; exact Nat.le_refl _)
      have hpb := HPB.out
      have ht9 : (⟨((blS by_ l).1 ++ [10, 44]).toArray⟩ : ByteArray) = T ++ ⟨#[10, 44]⟩ := by
        rw [HT.out, e9]
        exact (ba_app _ [10, 44]).symm
      rw [ht9] at hpb
      have HPB2 := Lib.hid hpb
      have hb0 := HB0.out
      clear hpb ht9 e9
      go_upto_region 14 with (first | (go_at_call 21; (with_reducible refine (HPB2.out _ (by repeat (first | (with_reducible assumption) | (with_reducible exact Below.refl _ _) | (with_reducible refine Later.after ?_ _) | (with_reducible refine Later.newer ?_ _) | (with_reducible refine Below.drew ?_) | (with_reducible refine Below.setCell ?_ (by first | exact Nat.le_refl _ | exact Nat.le_add_right _ _ | omega | (simp [go_sem]; done) | (simp [go_sem]; omega)) _)))).mono ?_); rintro e _ ⟨_, _, rfl, hv, hp, x2, rfl⟩; have hv2 := intsAt_own hv; have hp2 := ptsAt_own hp; obtain ⟨a3, n3, c3, rfl⟩ := own_slice hv; obtain ⟨a4, n4, c4, rfl⟩ := own_slice hp; have HV2 := Lib.hid hv2; have HP2 := Lib.hid hp2; clear hv hp hv2 hp2))
      have q1 : Blk (x2.out.alloc (.cells #[.slice a3 n3 c3, .slice a4 n4 c4] 31)) B1 31 #[.slice a1 n1 c1, .slice a2 n2 c2] := ((Q1.out.later y).later x2).alloc _
      have q2 := Blk.new x2.out 31 #[.slice a3 n3 c3, .slice a4 n4 c4]
      have K1 := Lib.hid (((J1.out.later y).later x2).alloc (.cells #[.slice a3 n3 c3, .slice a4 n4 c4] 31))
      have K2 := Lib.hid (agm_alloc (agm_later (agm_later J2.out y) x2) (.cells #[.slice a3 n3 c3, .slice a4 n4 c4] 31))
      have K3 := Lib.hid (HV2.out.alloc (.cells #[.slice a3 n3 c3, .slice a4 n4 c4] 31))
      have K4 := Lib.hid (agm_alloc HP2.out (.cells #[.slice a3 n3 c3, .slice a4 n4 c4] 31))
      have hB9 : Below w.heap.size w (x2.out.alloc (.cells #[.slice a3 n3 c3, .slice a4 n4 c4] 31)) := by repeat (first | (with_reducible assumption) | (with_reducible exact Below.refl _ _) | (with_reducible refine Later.after ?_ _) | (with_reducible refine Later.newer ?_ _) | (with_reducible refine Below.drew ?_) | (with_reducible refine Below.setCell ?_ (by first | exact Nat.le_refl _ | exact Nat.le_add_right _ _ | omega | (simp [go_sem]; done) | (simp [go_sem]; omega)) _))
      generalize x2.out.alloc (.cells #[.slice a3 n3 c3, .slice a4 n4 c4] 31) = W9 at *
      generalize x2.out.heap.size = B2 at *
      obtain ⟨z1, z2, z3⟩ := q1.all
      obtain ⟨z4, z5, z6⟩ := q2.all
      clear q1 q2
      refine wp_region_later (by kernel_rfl) (by kernel_rfl) ?_
      repeat (go_big_quiet_step ((first | (go_at_call 20; with_reducible exact Later.call _ (its_c _ _ _ _ _ _ _)) | (go_at_call 23; with_reducible exact Later.call _ (rsame_yes vs pts _ _ _ _ _ _ _ _ _ _ _ _ _ (by repeat (first | (with_reducible exact K1.out) | (with_reducible refine IntsAt.later ?_ _) | (with_reducible refine IntsAt.drew ?_) | (with_reducible refine IntsAt.alloc ?_ _))) (by repeat (first | (with_reducible exact K2.out) | (with_reducible refine agm_later ?_ _) | (with_reducible refine agm_drew ?_) | (with_reducible refine agm_alloc ?_ _))) (by repeat (first | (with_reducible exact K3.out) | (with_reducible refine IntsAt.later ?_ _) | (with_reducible refine IntsAt.drew ?_) | (with_reducible refine IntsAt.alloc ?_ _))) (by repeat (first | (with_reducible exact K4.out) | (with_reducible refine agm_later ?_ _) | (with_reducible refine agm_drew ?_) | (with_reducible refine agm_alloc ?_ _))))))))
      refine wpQuiet_nil ?_
      intro x
      go_wp2_with (fail)
      exact bodyPost_ret (v := .bool true) (by simp [results, Tryz.results6, go_sem, *]) rfl ⟨rfl, (Later.mk_of (by repeat (first | (with_reducible assumption) | (with_reducible exact Below.refl _ _) | (with_reducible refine Later.after ?_ _) | (with_reducible refine Later.newer ?_ _) | (with_reducible refine Below.drew ?_) | (with_reducible refine Below.setCell ?_ (by first | exact Nat.le_refl _ | exact Nat.le_add_right _ _ | omega | (simp [go_sem]; done) | (simp [go_sem]; omega)) _))))⟩
theorem blanks_walk (S : ByteArray) (bv : Value) (by_ : List Int) (mx : Int) (w : World) (hS : S.size ≤ 1048576) (hb : U8At w bv by_) (hby : ∀ p ∈ by_, 0 ≤ p ∧ p ≤ 255) (hm : w.cell? ⟨2, 0, none⟩ = some (.int .i64 mx)) (htab : Lib.TabIs Tryz.prog w "internal/strconv.uint64pow10" .u64 Lib.pow10Tab) :
    Calls Tryz.prog 6 #[.string S, bv] w fun e w' => e = .returned (.bool true) ∧ ∃ x : Later w, w' = x.out := by
  have hmv : ∀ v, Below w.heap.size w v → v.cell? ⟨2, 0, none⟩ = some (.int .i64 mx) := fun v hb => (hb.cell (p := ⟨2, 0, none⟩) (World.block_lt_of_cell? w _ hm)).trans hm
  have hsh : ∀ v, Below w.heap.size w v → Calls Tryz.prog 17 #[] v fun e w' => e = .returned (.bool true) ∧ ∃ x : Later v, w' = x.out := fun v hb => shown_8 mx v (hmv v hb) (Lib.tabBelow_of_tabIs htab v hb)
  obtain ⟨l, hl⟩ : ∃ l : List UInt8, l = S.data.toList := ⟨_, rfl⟩
  have hSl : S = ⟨l.toArray⟩ := by rw [hl]
  have hsz : S.size = l.length := by rw [hSl, ba_size]
  clear hl
  subst hSl
  have hw := (wds_few _ l 0 (Nat.le_refl _)).2
  have hpa : ∀ v, Below w.heap.size w v → Calls Tryz.prog 21 #[.string ⟨l.toArray⟩] v (SRet v (spR l)) := fun v hb => sparse_c l mx (by omega) (by omega) (iany_all l (by omega)) v (hmv v hb)
  by_cases h200 : 200 < (⟨l.toArray⟩ : ByteArray).size
  · exact bl_f1 (spR l).1 (spR l).2.1 bv ⟨l.toArray⟩ (spR l).2.2.1 (spR l).2.2.2 w hsh hpa h200
  by_cases hE : (spR l).2.2.2 = 0
  · have e : spR l = ((spR l).1, (spR l).2.1, (spR l).2.2.1, 0) := by rw [← hE]
    have hbl := spR_blanks by_ l hE
    have hln := (blS_len by_ l).1
    have hw2 := (wds_few _ ((blS by_ l).1 ++ [10, 44]) 0 (Nat.le_refl _)).2
    have h2 : ((blS by_ l).1 ++ [10, 44]).length = (blS by_ l).1.length + 2 := by rw [List.length_append]; rfl
    refine bl_main (spR l).1 (spR l).2.1 bv l by_ (spR l).2.2.1 w hsh hb hby (fun v hb => ?_) (fun v hb => ?_) (by omega)
    · have h := hpa v hb
      rw [e] at h
      exact h
    · have h := sparse_c ((blS by_ l).1 ++ [10, 44]) mx (by omega) (by omega) (iany_all _ (by omega)) v (hmv v hb)
      rw [hbl] at h
      exact h
  · exact bl_f2 (spR l).1 (spR l).2.1 bv ⟨l.toArray⟩ (spR l).2.2.1 (spR l).2.2.2 w hsh hpa h200 hE
end Go.Proofs.YtjmagehfkcnjjaaGreatDoor

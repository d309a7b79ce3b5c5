/-
  Texts that stand as one.
-/
import Derived.Test.YtjmagehfkcnjjaaGreatDoorKU
import Derived.Test.YtjmagehfkcnjjaaGreatDoorSIR
import Derived.Test.YtjmagehfkcnjjaaGreatDoorSPK
import Derived.Test.YtjmagehfkcnjjaaGreatDoorSX
/-
  The document's word and verb.
-/
namespace Go.Proofs.YtjmagehfkcnjjaaGreatDoor
set_option linter.unusedVariables false
open Go.RowKit

theorem tkw_in (f : UInt8 → Bool) (l : List UInt8) (p j : Nat) (h : j < ((l.drop p).takeWhile f).length) : ∃ c, l[p + j]? = some c ∧ f c = true := by
  have h1 := List.getElem_mem h
  have h2 := List.all_eq_true.1 (List.all_takeWhile (p := f) (l := l.drop p)) _ h1
  refine ⟨((l.drop p).takeWhile f)[j], ?_, h2⟩
  have h3 : ((l.drop p).takeWhile f)[j]? = some ((l.drop p).takeWhile f)[j] := List.getElem?_eq_getElem h
  have h4 : (l.drop p)[j]? = some ((l.drop p).takeWhile f)[j] := by
    have e : (l.drop p).takeWhile f ++ (l.drop p).dropWhile f = l.drop p := List.takeWhile_append_dropWhile
    rw [← h3]
    conv => lhs; rw [← e]
    exact List.getElem?_append_left h
  rw [List.getElem?_drop] at h4
  exact h4
theorem tkw_out (f : UInt8 → Bool) (l : List UInt8) (p : Nat) (h : p + ((l.drop p).takeWhile f).length < l.length) : ∃ c, l[p + ((l.drop p).takeWhile f).length]? = some c ∧ f c = false := by
  have e : (l.drop p).takeWhile f ++ (l.drop p).dropWhile f = l.drop p := List.takeWhile_append_dropWhile
  have hl := congrArg List.length e
  rw [List.length_append, List.length_drop] at hl
  have h3 : (l.drop p)[((l.drop p).takeWhile f).length]? = ((l.drop p).takeWhile f ++ (l.drop p).dropWhile f)[((l.drop p).takeWhile f).length]? := by rw [e]
  rw [← List.getElem?_drop, h3, List.getElem?_append_right (Nat.le_refl _), Nat.sub_self]
  cases hd : (l.drop p).dropWhile f with
  | nil => rw [hd] at hl; simp at hl; omega
  | cons c r =>
    have := List.head_dropWhile_not (p := f) (l := l.drop p) (by rw [hd]; simp)
    simp only [hd, List.head_cons] at this
    exact ⟨c, rfl, by simpa using this⟩
/-- the place behind blanks -/
def skp (l : List UInt8) (p : Nat) : Nat := p + ((l.drop p).takeWhile isB).length
theorem skp_le (l : List UInt8) (p : Nat) (h : p ≤ l.length) : p ≤ skp l p ∧ skp l p + (wrd (l.drop (skp l p))).length ≤ l.length := by
  have h1 := (List.takeWhile_sublist isB (l := l.drop p)).length_le
  rw [List.length_drop] at h1
  have h2 := wrd_len (l.drop (skp l p))
  rw [List.length_drop] at h2
  unfold skp at h2 ⊢
  omega
set_option maxRecDepth 100000 in
set_option maxHeartbeats 2000000 in
theorem rword_c (l : List UInt8) (p : Nat) (hp : p ≤ l.length) (hl : l.length ≤ 1000000) (w : World) :
    Calls Tryz.prog 40 #[.string ⟨l.toArray⟩, .int .i64 (p : Int)] w fun e w' => e = .returned (.tuple #[.string ⟨(wrd (l.drop (skp l p))).toArray⟩, .int .i64 ((skp l p : Nat) : Int)]) ∧ ∃ x : Later w, w' = x.out := by
  obtain ⟨k1, k2⟩ := skp_le l p hp
  obtain ⟨S, hS⟩ : ∃ S : ByteArray, S = ⟨l.toArray⟩ := ⟨_, rfl⟩
  have hSz : S.size = l.length := by rw [hS, ba_size]
  rw [← hS]
  obtain ⟨A, hA⟩ : ∃ A, A = ((l.drop p).takeWhile isB).length := ⟨_, rfl⟩
  have hsk : skp l p = p + A := by rw [hA]; rfl
  obtain ⟨Q, hQ⟩ : ∃ Q, Q = p + A := ⟨_, rfl⟩
  obtain ⟨B, hB⟩ : ∃ B, B = (wrd (l.drop Q)).length := ⟨_, rfl⟩
  rw [hsk, ← hQ, ← hB] at k2
  have hs9 : S.size ≤ 1000000 := by omega
  have HS := Lib.hid hS
  have HSZ := Lib.hid hSz
  have HA := Lib.hid hA
  have HB := Lib.hid hB
  have HQ := Lib.hid hQ
  have HSK := Lib.hid hsk
  have k3 : Q + B ≤ S.size := by omega
  have k4 : p ≤ Q := by omega
  clear hS hSz hA hB hsk k1 k2 hl
  go_enter Tryz.func40, Tryz.ntmps40
  go_wp2_with (fail)
  go_loopw [1] (fun u wr => ∃ j : Nat, j ≤ A ∧ u = .int .i64 ((p + j : Nat) : Int) ∧ ∃ y : Later w, wr = y.out) (fun u _ => p + A - (intOf u).toNat)
  case atStart => exact ⟨0, Nat.zero_le _, rfl, Later.mk_of (Below.refl _ _)⟩
  case round =>
    obtain ⟨j, hj, rfl, y, rfl⟩ := hrel
    obtain ⟨q, hq⟩ : ∃ q, q = p + j := ⟨_, rfl⟩
    rw [← hq]
    have hq9 : q ≤ S.size := by omega
    have HQ1 := Lib.hid hq
    by_cases hjA : j < A
    · obtain ⟨c, hc1, hc2⟩ := tkw_in isB l p j (by rw [← HA.out]; exact hjA)
      rw [← hq] at hc1
      have hql : q < S.size := by rw [HSZ.out]; exact (List.getElem?_eq_some_iff.1 hc1).1
      have hd3 : decide ((q : Int) < (S.size : Int)) = true := by simp; exact hql
      have hix := fun W => ixr l q c hc1 W
      rw [← HS.out] at hix
      have hbl := fun v => rbl_c c v
      rw [hc2] at hbl
      have HBL := Lib.hid hbl
      clear hq hc1 hc2 hbl hQ
      go_wp2_with (first | (go_at_call 74; (with_reducible refine (HBL.out _).mono ?_); rintro e _ ⟨rfl, xb, rfl⟩))
      go_roundw
      case rel => exact ⟨j + 1, by omega, by rw [HQ1.out]; go_num, (Later.mk_of (by repeat (first | (with_reducible assumption) | (with_reducible exact Below.refl _ _) | (with_reducible refine Later.after ?_ _) | (with_reducible refine Later.newer ?_ _) | (with_reducible refine Below.drew ?_) | (with_reducible refine Below.setCell ?_ (by first | exact Nat.le_refl _ | exact Nat.le_add_right _ _ | omega | (simp [go_sem]; done) | (simp [go_sem]; omega)) _))))⟩
      case measure => have := HQ1.out; simp [intOf]; omega
    · obtain rfl : j = A := by omega
      obtain rfl : q = Q := by omega
      have hto := tkw_out isB l p
      rw [← HA.out, ← hq] at hto
      clear hq hQ
      have LOOP2 : Hid True := Lib.hid trivial
      by_cases hql : q < S.size
      · have hd3 : decide ((q : Int) < (S.size : Int)) = true := by simp; exact hql
        obtain ⟨c, hc1, hc2⟩ := hto (by rw [← HSZ.out]; exact hql)
        have hix := fun W => ixr l q c hc1 W
        rw [← HS.out] at hix
        have hbl := fun v => rbl_c c v
        rw [hc2] at hbl
        have HBL := Lib.hid hbl
        clear hto hc1 hc2 hbl
        go_wp2_with (first | (go_at_call 74; (with_reducible refine (HBL.out _).mono ?_); rintro e _ ⟨rfl, xb, rfl⟩))
        go_loopw [6] (fun u wr => ∃ j : Nat, j ≤ B ∧ u = .int .i64 ((q + j : Nat) : Int) ∧ ∃ y : Later w, wr = y.out) (fun u _ => q + B - (intOf u).toNat)
        case atStart => exact ⟨0, Nat.zero_le _, rfl, (Later.mk_of (by repeat (first | (with_reducible assumption) | (with_reducible exact Below.refl _ _) | (with_reducible refine Later.after ?_ _) | (with_reducible refine Later.newer ?_ _) | (with_reducible refine Below.drew ?_) | (with_reducible refine Below.setCell ?_ (by first | exact Nat.le_refl _ | exact Nat.le_add_right _ _ | omega | (simp [go_sem]; done) | (simp [go_sem]; omega)) _))))⟩
        case round =>
          obtain ⟨j2, hj2, rfl, y2, rfl⟩ := hrel
          obtain ⟨r, hr⟩ : ∃ r, r = q + j2 := ⟨_, rfl⟩
          rw [← hr]
          have hr9 : r ≤ S.size := by omega
          have HR1 := Lib.hid hr
          by_cases hjB : j2 < B
          · obtain ⟨c, hc1, hc2⟩ := tkw_in (fun b => !isB b) l q j2 (by rw [HB.out] at hjB; exact hjB)
            rw [← hr] at hc1
            have hrl : r < S.size := by rw [HSZ.out]; exact (List.getElem?_eq_some_iff.1 hc1).1
            have hd4 : decide ((r : Int) < (S.size : Int)) = true := by simp; exact hrl
            have hix := fun W => ixr l r c hc1 W
            rw [← HS.out] at hix
            have hc3 : isB c = false := by simpa using hc2
            have hbl := fun v => rbl_c c v
            rw [hc3] at hbl
            have HBL := Lib.hid hbl
            clear hr hc1 hc2 hc3 hbl
            go_wp2_with (first | (go_at_call 74; (with_reducible refine (HBL.out _).mono ?_); rintro e _ ⟨rfl, xb, rfl⟩))
            go_roundw
            case rel => exact ⟨j2 + 1, by omega, by rw [HR1.out]; go_num, (Later.mk_of (by repeat (first | (with_reducible assumption) | (with_reducible exact Below.refl _ _) | (with_reducible refine Later.after ?_ _) | (with_reducible refine Later.newer ?_ _) | (with_reducible refine Below.drew ?_) | (with_reducible refine Below.setCell ?_ (by first | exact Nat.le_refl _ | exact Nat.le_add_right _ _ | omega | (simp [go_sem]; done) | (simp [go_sem]; omega)) _))))⟩
            case measure => have := HR1.out; simp [intOf]; omega
          · obtain rfl : j2 = B := by omega
            have hto2 := tkw_out (fun b => !isB b) l q
            have hBB : ((l.drop q).takeWhile fun b => !isB b).length = j2 := HB.out.symm
            rw [hBB, ← hr] at hto2
            have hfin : S.extract q r = ⟨(wrd (l.drop q)).toArray⟩ := by
              rw [HS.out, hr]
              apply ByteArray.ext
              have e := wrd_take (l.drop q)
              rw [← HB.out] at e
              rw [ByteArray.data_extract]
              simp
              exact e
            have HFIN : Hid (Value.tuple #[.string (S.extract q r), .int .i64 (q : Int)] = Value.tuple #[.string ⟨(wrd (l.drop (skp l p))).toArray⟩, .int .i64 ((skp l p : Nat) : Int)]) := Lib.hid (by rw [HSK.out, ← HQ.out, hfin])
            have w1 : (q : Int) ≤ (r : Int) := by omega
            have w2 : (r : Int) ≤ (S.size : Int) := by omega
            have w3 : q ≤ r := by omega
            clear hr hBB hfin
            by_cases hrl : r < S.size
            · have hd4 : decide ((r : Int) < (S.size : Int)) = true := by simp; exact hrl
              obtain ⟨c, hc1, hc2⟩ := hto2 (by rw [← HSZ.out]; exact hrl)
              have hix := fun W => ixr l r c hc1 W
              rw [← HS.out] at hix
              have hc3 : isB c = true := by simpa using hc2
              have hbl := fun v => rbl_c c v
              rw [hc3] at hbl
              have HBL := Lib.hid hbl
              clear hto2 hc1 hc2 hc3 hbl
              go_wp2_with (first | (go_at_call 74; (with_reducible refine (HBL.out _).mono ?_); rintro e _ ⟨rfl, xb, rfl⟩))
              exact bodyPost_ret (v := .tuple #[.string (S.extract q r), .int .i64 (q : Int)]) (by simp [results, Tryz.results40, go_sem, *]) rfl ⟨by rw [HFIN.out], (Later.mk_of (by repeat (first | (with_reducible assumption) | (with_reducible exact Below.refl _ _) | (with_reducible refine Later.after ?_ _) | (with_reducible refine Later.newer ?_ _) | (with_reducible refine Below.drew ?_) | (with_reducible refine Below.setCell ?_ (by first | exact Nat.le_refl _ | exact Nat.le_add_right _ _ | omega | (simp [go_sem]; done) | (simp [go_sem]; omega)) _))))⟩
            · have hd4 : decide ((r : Int) < (S.size : Int)) = false := by simp; omega
              clear hto2
              go_wp2_with (fail)
              exact bodyPost_ret (v := .tuple #[.string (S.extract q r), .int .i64 (q : Int)]) (by simp [results, Tryz.results40, go_sem, *]) rfl ⟨by rw [HFIN.out], (Later.mk_of (by repeat (first | (with_reducible assumption) | (with_reducible exact Below.refl _ _) | (with_reducible refine Later.after ?_ _) | (with_reducible refine Later.newer ?_ _) | (with_reducible refine Below.drew ?_) | (with_reducible refine Below.setCell ?_ (by first | exact Nat.le_refl _ | exact Nat.le_add_right _ _ | omega | (simp [go_sem]; done) | (simp [go_sem]; omega)) _))))⟩
      · have hd3 : decide ((q : Int) < (S.size : Int)) = false := by simp; omega
        clear hto
        go_wp2_with (fail)
        go_loopw [6] (fun u wr => ∃ j : Nat, j ≤ B ∧ u = .int .i64 ((q + j : Nat) : Int) ∧ ∃ y : Later w, wr = y.out) (fun u _ => q + B - (intOf u).toNat)
        case atStart => exact ⟨0, Nat.zero_le _, rfl, (Later.mk_of (by repeat (first | (with_reducible assumption) | (with_reducible exact Below.refl _ _) | (with_reducible refine Later.after ?_ _) | (with_reducible refine Later.newer ?_ _) | (with_reducible refine Below.drew ?_) | (with_reducible refine Below.setCell ?_ (by first | exact Nat.le_refl _ | exact Nat.le_add_right _ _ | omega | (simp [go_sem]; done) | (simp [go_sem]; omega)) _))))⟩
        case round =>
          obtain ⟨j2, hj2, rfl, y2, rfl⟩ := hrel
          obtain ⟨r, hr⟩ : ∃ r, r = q + j2 := ⟨_, rfl⟩
          rw [← hr]
          have hr9 : r ≤ S.size := by omega
          have HR1 := Lib.hid hr
          by_cases hjB : j2 < B
          · obtain ⟨c, hc1, hc2⟩ := tkw_in (fun b => !isB b) l q j2 (by rw [HB.out] at hjB; exact hjB)
            rw [← hr] at hc1
            have hrl : r < S.size := by rw [HSZ.out]; exact (List.getElem?_eq_some_iff.1 hc1).1
            have hd4 : decide ((r : Int) < (S.size : Int)) = true := by simp; exact hrl
            have hix := fun W => ixr l r c hc1 W
            rw [← HS.out] at hix
            have hc3 : isB c = false := by simpa using hc2
            have hbl := fun v => rbl_c c v
            rw [hc3] at hbl
            have HBL := Lib.hid hbl
            clear hr hc1 hc2 hc3 hbl
            go_wp2_with (first | (go_at_call 74; (with_reducible refine (HBL.out _).mono ?_); rintro e _ ⟨rfl, xb, rfl⟩))
            go_roundw
            case rel => exact ⟨j2 + 1, by omega, by rw [HR1.out]; go_num, (Later.mk_of (by repeat (first | (with_reducible assumption) | (with_reducible exact Below.refl _ _) | (with_reducible refine Later.after ?_ _) | (with_reducible refine Later.newer ?_ _) | (with_reducible refine Below.drew ?_) | (with_reducible refine Below.setCell ?_ (by first | exact Nat.le_refl _ | exact Nat.le_add_right _ _ | omega | (simp [go_sem]; done) | (simp [go_sem]; omega)) _))))⟩
            case measure => have := HR1.out; simp [intOf]; omega
          · obtain rfl : j2 = B := by omega
            have hto2 := tkw_out (fun b => !isB b) l q
            have hBB : ((l.drop q).takeWhile fun b => !isB b).length = j2 := HB.out.symm
            rw [hBB, ← hr] at hto2
            have hfin : S.extract q r = ⟨(wrd (l.drop q)).toArray⟩ := by
              rw [HS.out, hr]
              apply ByteArray.ext
              have e := wrd_take (l.drop q)
              rw [← HB.out] at e
              rw [ByteArray.data_extract]
              simp
              exact e
            have HFIN : Hid (Value.tuple #[.string (S.extract q r), .int .i64 (q : Int)] = Value.tuple #[.string ⟨(wrd (l.drop (skp l p))).toArray⟩, .int .i64 ((skp l p : Nat) : Int)]) := Lib.hid (by rw [HSK.out, ← HQ.out, hfin])
            have w1 : (q : Int) ≤ (r : Int) := by omega
            have w2 : (r : Int) ≤ (S.size : Int) := by omega
            have w3 : q ≤ r := by omega
            clear hr hBB hfin
            by_cases hrl : r < S.size
            · have hd4 : decide ((r : Int) < (S.size : Int)) = true := by simp; exact hrl
              obtain ⟨c, hc1, hc2⟩ := hto2 (by rw [← HSZ.out]; exact hrl)
              have hix := fun W => ixr l r c hc1 W
              rw [← HS.out] at hix
              have hc3 : isB c = true := by simpa using hc2
              have hbl := fun v => rbl_c c v
              rw [hc3] at hbl
              have HBL := Lib.hid hbl
              clear hto2 hc1 hc2 hc3 hbl
              go_wp2_with (first | (go_at_call 74; (with_reducible refine (HBL.out _).mono ?_); rintro e _ ⟨rfl, xb, rfl⟩))
              exact bodyPost_ret (v := .tuple #[.string (S.extract q r), .int .i64 (q : Int)]) (by simp [results, Tryz.results40, go_sem, *]) rfl ⟨by rw [HFIN.out], (Later.mk_of (by repeat (first | (with_reducible assumption) | (with_reducible exact Below.refl _ _) | (with_reducible refine Later.after ?_ _) | (with_reducible refine Later.newer ?_ _) | (with_reducible refine Below.drew ?_) | (with_reducible refine Below.setCell ?_ (by first | exact Nat.le_refl _ | exact Nat.le_add_right _ _ | omega | (simp [go_sem]; done) | (simp [go_sem]; omega)) _))))⟩
            · have hd4 : decide ((r : Int) < (S.size : Int)) = false := by simp; omega
              clear hto2
              go_wp2_with (fail)
              exact bodyPost_ret (v := .tuple #[.string (S.extract q r), .int .i64 (q : Int)]) (by simp [results, Tryz.results40, go_sem, *]) rfl ⟨by rw [HFIN.out], (Later.mk_of (by repeat (first | (with_reducible assumption) | (with_reducible exact Below.refl _ _) | (with_reducible refine Later.after ?_ _) | (with_reducible refine Later.newer ?_ _) | (with_reducible refine Below.drew ?_) | (with_reducible refine Below.setCell ?_ (by first | exact Nat.le_refl _ | exact Nat.le_add_right _ _ | omega | (simp [go_sem]; done) | (simp [go_sem]; omega)) _))))⟩
/-- the letters -/
def ltN (k : Nat) : UInt8 := if k = 0 then 77 else if k = 1 then 76 else if k = 2 then 81 else if k = 3 then 67 else 90
theorem vrb_no (wl : List UInt8) (h : ∀ k, k < 5 → wl ≠ [ltN k]) : vrb wl = 0 := by
  unfold vrb
  rw [if_neg (show ¬ wl = [77] from h 0 (by decide)), if_neg (show ¬ wl = [76] from h 1 (by decide)), if_neg (show ¬ wl = [81] from h 2 (by decide)), if_neg (show ¬ wl = [67] from h 3 (by decide)), if_neg (show ¬ wl = [90] from h 4 (by decide))]
set_option maxRecDepth 100000 in
set_option maxHeartbeats 2000000 in
theorem rverb_c (wl : List UInt8) (w : World) : Calls Tryz.prog 41 #[.string ⟨wl.toArray⟩] w fun e w' => e = .returned (.int .i64 ((vrb wl : Nat) : Int)) ∧ ∃ x : Later w, w' = x.out := by
  obtain ⟨W, hW⟩ : ∃ W : ByteArray, W = ⟨wl.toArray⟩ := ⟨_, rfl⟩
  have HW : Hid (W.toList = wl) := Lib.hid (by rw [hW, Lib.toList_data])
  rw [← hW]
  clear hW
  go_enter Tryz.func41, Tryz.ntmps41
  go_wp2_with (fail)
  go_loopw [3] (fun u wr => ∃ i : Nat, i ≤ 5 ∧ u = .int .i64 (i : Int) ∧ (∀ k, k < i → wl ≠ [ltN k]) ∧ ∃ y : Later w, wr = y.out) (fun u _ => 5 - (intOf u).toNat)
  case atStart => exact ⟨0, by decide, rfl, fun k hk => absurd hk (Nat.not_lt_zero _), Later.mk_of (Below.refl _ _)⟩
  case round =>
    obtain ⟨i, hi, rfl, hno, y, rfl⟩ := hrel
    rcases (show i = 0 ∨ i = 1 ∨ i = 2 ∨ i = 3 ∨ i = 4 ∨ i = 5 by omega) with rfl | rfl | rfl | rfl | rfl | rfl
    · have g0 : ∀ k, k < 0 → wl ≠ [ltN k] := hno
      have hex : (⟨#[77, 76, 81, 67, 90]⟩ : ByteArray).extract 0 1 = ⟨#[77]⟩ := rfl
      by_cases hw : wl = [77]
      · have g1 : (W.toList == [77]) = true := by rw [HW.out, hw]; rfl
        have hv : vrb wl = 1 := by rw [hw]; rfl
        have HVB := Lib.hid hv
        clear hno g0 hw hv
        go_wp2_with (fail)
        exact bodyPost_ret (v := .int .i64 1) (by simp [results, Tryz.results41, go_sem, *]) rfl ⟨by rw [HVB.out]; rfl, (Later.mk_of (by repeat (first | (with_reducible assumption) | (with_reducible exact Below.refl _ _) | (with_reducible refine Later.after ?_ _) | (with_reducible refine Later.newer ?_ _) | (with_reducible refine Below.drew ?_) | (with_reducible refine Below.setCell ?_ (by first | exact Nat.le_refl _ | exact Nat.le_add_right _ _ | omega | (simp [go_sem]; done) | (simp [go_sem]; omega)) _))))⟩
      · have g1 : (W.toList == [77]) = false := by rw [HW.out]; simpa using hw
        have hn2 : ∀ k, k < 1 → wl ≠ [ltN k] := fun k hk => by
          rcases Nat.lt_succ_iff_lt_or_eq.1 hk with h | h
          · exact g0 k h
          · subst h; exact hw
        have HNO := Lib.hid hn2
        clear hno g0 hw hn2
        go_wp2_with (fail)
        go_roundw
        case rel => exact ⟨1, by decide, rfl, HNO.out, (Later.mk_of (by repeat (first | (with_reducible assumption) | (with_reducible exact Below.refl _ _) | (with_reducible refine Later.after ?_ _) | (with_reducible refine Later.newer ?_ _) | (with_reducible refine Below.drew ?_) | (with_reducible refine Below.setCell ?_ (by first | exact Nat.le_refl _ | exact Nat.le_add_right _ _ | omega | (simp [go_sem]; done) | (simp [go_sem]; omega)) _))))⟩
        case measure => simp [intOf]
    · have g0 : ∀ k, k < 1 → wl ≠ [ltN k] := hno
      have hex : (⟨#[77, 76, 81, 67, 90]⟩ : ByteArray).extract 1 2 = ⟨#[76]⟩ := rfl
      by_cases hw : wl = [76]
      · have g1 : (W.toList == [76]) = true := by rw [HW.out, hw]; rfl
        have hv : vrb wl = 2 := by rw [hw]; rfl
        have HVB := Lib.hid hv
        clear hno g0 hw hv
        go_wp2_with (fail)
        exact bodyPost_ret (v := .int .i64 2) (by simp [results, Tryz.results41, go_sem, *]) rfl ⟨by rw [HVB.out]; rfl, (Later.mk_of (by repeat (first | (with_reducible assumption) | (with_reducible exact Below.refl _ _) | (with_reducible refine Later.after ?_ _) | (with_reducible refine Later.newer ?_ _) | (with_reducible refine Below.drew ?_) | (with_reducible refine Below.setCell ?_ (by first | exact Nat.le_refl _ | exact Nat.le_add_right _ _ | omega | (simp [go_sem]; done) | (simp [go_sem]; omega)) _))))⟩
      · have g1 : (W.toList == [76]) = false := by rw [HW.out]; simpa using hw
        have hn2 : ∀ k, k < 2 → wl ≠ [ltN k] := fun k hk => by
          rcases Nat.lt_succ_iff_lt_or_eq.1 hk with h | h
          · exact g0 k h
          · subst h; exact hw
        have HNO := Lib.hid hn2
        clear hno g0 hw hn2
        go_wp2_with (fail)
        go_roundw
        case rel => exact ⟨2, by decide, rfl, HNO.out, (Later.mk_of (by repeat (first | (with_reducible assumption) | (with_reducible exact Below.refl _ _) | (with_reducible refine Later.after ?_ _) | (with_reducible refine Later.newer ?_ _) | (with_reducible refine Below.drew ?_) | (with_reducible refine Below.setCell ?_ (by first | exact Nat.le_refl _ | exact Nat.le_add_right _ _ | omega | (simp [go_sem]; done) | (simp [go_sem]; omega)) _))))⟩
        case measure => simp [intOf]
    · have g0 : ∀ k, k < 2 → wl ≠ [ltN k] := hno
      have hex : (⟨#[77, 76, 81, 67, 90]⟩ : ByteArray).extract 2 3 = ⟨#[81]⟩ := rfl
      by_cases hw : wl = [81]
      · have g1 : (W.toList == [81]) = true := by rw [HW.out, hw]; rfl
        have hv : vrb wl = 3 := by rw [hw]; rfl
        have HVB := Lib.hid hv
        clear hno g0 hw hv
        go_wp2_with (fail)
        exact bodyPost_ret (v := .int .i64 3) (by simp [results, Tryz.results41, go_sem, *]) rfl ⟨by rw [HVB.out]; rfl, (Later.mk_of (by repeat (first | (with_reducible assumption) | (with_reducible exact Below.refl _ _) | (with_reducible refine Later.after ?_ _) | (with_reducible refine Later.newer ?_ _) | (with_reducible refine Below.drew ?_) | (with_reducible refine Below.setCell ?_ (by first | exact Nat.le_refl _ | exact Nat.le_add_right _ _ | omega | (simp [go_sem]; done) | (simp [go_sem]; omega)) _))))⟩
      · have g1 : (W.toList == [81]) = false := by rw [HW.out]; simpa using hw
        have hn2 : ∀ k, k < 3 → wl ≠ [ltN k] := fun k hk => by
          rcases Nat.lt_succ_iff_lt_or_eq.1 hk with h | h
          · exact g0 k h
          · subst h; exact hw
        have HNO := Lib.hid hn2
        clear hno g0 hw hn2
        go_wp2_with (fail)
        go_roundw
        case rel => exact ⟨3, by decide, rfl, HNO.out, (Later.mk_of (by repeat (first | (with_reducible assumption) | (with_reducible exact Below.refl _ _) | (with_reducible refine Later.after ?_ _) | (with_reducible refine Later.newer ?_ _) | (with_reducible refine Below.drew ?_) | (with_reducible refine Below.setCell ?_ (by first | exact Nat.le_refl _ | exact Nat.le_add_right _ _ | omega | (simp [go_sem]; done) | (simp [go_sem]; omega)) _))))⟩
        case measure => simp [intOf]
    · have g0 : ∀ k, k < 3 → wl ≠ [ltN k] := hno
      have hex : (⟨#[77, 76, 81, 67, 90]⟩ : ByteArray).extract 3 4 = ⟨#[67]⟩ := rfl
      by_cases hw : wl = [67]
      · have g1 : (W.toList == [67]) = true := by rw [HW.out, hw]; rfl
        have hv : vrb wl = 4 := by rw [hw]; rfl
        have HVB := Lib.hid hv
        clear hno g0 hw hv
        go_wp2_with (fail)
        exact bodyPost_ret (v := .int .i64 4) (by simp [results, Tryz.results41, go_sem, *]) rfl ⟨by rw [HVB.out]; rfl, (Later.mk_of (by repeat (first | (with_reducible assumption) | (with_reducible exact Below.refl _ _) | (with_reducible refine Later.after ?_ _) | (with_reducible refine Later.newer ?_ _) | (with_reducible refine Below.drew ?_) | (with_reducible refine Below.setCell ?_ (by first | exact Nat.le_refl _ | exact Nat.le_add_right _ _ | omega | (simp [go_sem]; done) | (simp [go_sem]; omega)) _))))⟩
      · have g1 : (W.toList == [67]) = false := by rw [HW.out]; simpa using hw
        have hn2 : ∀ k, k < 4 → wl ≠ [ltN k] := fun k hk => by
          rcases Nat.lt_succ_iff_lt_or_eq.1 hk with h | h
          · exact g0 k h
          · subst h; exact hw
        have HNO := Lib.hid hn2
        clear hno g0 hw hn2
        go_wp2_with (fail)
        go_roundw
        case rel => exact ⟨4, by decide, rfl, HNO.out, (Later.mk_of (by repeat (first | (with_reducible assumption) | (with_reducible exact Below.refl _ _) | (with_reducible refine Later.after ?_ _) | (with_reducible refine Later.newer ?_ _) | (with_reducible refine Below.drew ?_) | (with_reducible refine Below.setCell ?_ (by first | exact Nat.le_refl _ | exact Nat.le_add_right _ _ | omega | (simp [go_sem]; done) | (simp [go_sem]; omega)) _))))⟩
        case measure => simp [intOf]
    · have g0 : ∀ k, k < 4 → wl ≠ [ltN k] := hno
      have hex : (⟨#[77, 76, 81, 67, 90]⟩ : ByteArray).extract 4 5 = ⟨#[90]⟩ := rfl
      by_cases hw : wl = [90]
      · have g1 : (W.toList == [90]) = true := by rw [HW.out, hw]; rfl
        have hv : vrb wl = 5 := by rw [hw]; rfl
        have HVB := Lib.hid hv
        clear hno g0 hw hv
        go_wp2_with (fail)
        exact bodyPost_ret (v := .int .i64 5) (by simp [results, Tryz.results41, go_sem, *]) rfl ⟨by rw [HVB.out]; rfl, (Later.mk_of (by repeat (first | (with_reducible assumption) | (with_reducible exact Below.refl _ _) | (with_reducible refine Later.after ?_ _) | (with_reducible refine Later.newer ?_ _) | (with_reducible refine Below.drew ?_) | (with_reducible refine Below.setCell ?_ (by first | exact Nat.le_refl _ | exact Nat.le_add_right _ _ | omega | (simp [go_sem]; done) | (simp [go_sem]; omega)) _))))⟩
      · have g1 : (W.toList == [90]) = false := by rw [HW.out]; simpa using hw
        have hn2 : ∀ k, k < 5 → wl ≠ [ltN k] := fun k hk => by
          rcases Nat.lt_succ_iff_lt_or_eq.1 hk with h | h
          · exact g0 k h
          · subst h; exact hw
        have HNO := Lib.hid hn2
        clear hno g0 hw hn2
        go_wp2_with (fail)
        go_roundw
        case rel => exact ⟨5, by decide, rfl, HNO.out, (Later.mk_of (by repeat (first | (with_reducible assumption) | (with_reducible exact Below.refl _ _) | (with_reducible refine Later.after ?_ _) | (with_reducible refine Later.newer ?_ _) | (with_reducible refine Below.drew ?_) | (with_reducible refine Below.setCell ?_ (by first | exact Nat.le_refl _ | exact Nat.le_add_right _ _ | omega | (simp [go_sem]; done) | (simp [go_sem]; omega)) _))))⟩
        case measure => simp [intOf]
    · have HVB := Lib.hid (vrb_no wl hno)
      clear hno
      go_wp2_with (fail)
      exact bodyPost_ret (v := .int .i64 0) (by simp [results, Tryz.results41, go_sem, *]) rfl ⟨by rw [HVB.out]; rfl, (Later.mk_of (by repeat (first | (with_reducible assumption) | (with_reducible exact Below.refl _ _) | (with_reducible refine Later.after ?_ _) | (with_reducible refine Later.newer ?_ _) | (with_reducible refine Below.drew ?_) | (with_reducible refine Below.setCell ?_ (by first | exact Nat.le_refl _ | exact Nat.le_add_right _ _ | omega | (simp [go_sem]; done) | (simp [go_sem]; omega)) _))))⟩
end Go.Proofs.YtjmagehfkcnjjaaGreatDoor

/-
  Plain: the words of a text, one by one from a place on; what each is to the parser.
-/
namespace Go.Proofs.YtjmagehfkcnjjaaGreatDoor
set_option linter.unusedVariables false

theorem wds_cons_blank (k : Nat) (b : UInt8) (r : List UInt8) (h : isB b = true) : wds k (b :: r) = wds (k + 1) r := by
  rw [wds_ne k (b :: r) (by simp), wrd_blank b r h, if_pos rfl]
  rfl
theorem wds_skp (l : List UInt8) : ∀ (n at_ : Nat), ((l.drop at_).takeWhile isB).length = n → wds at_ (l.drop at_) = wds (skp l at_) (l.drop (skp l at_)) ∧ skp l (skp l at_) = skp l at_ := by
  intro n
  induction n with
  | zero =>
    intro at_ h
    have e : skp l at_ = at_ := by unfold skp; rw [h]; rfl
    rw [e, e]
    exact ⟨rfl, rfl⟩
  | succ n ih =>
    intro at_ h
    cases hd : l.drop at_ with
    | nil => rw [hd] at h; cases h
    | cons b r =>
      rw [hd] at h
      have hb : isB b = true := by
        cases k : isB b with
        | true => rfl
        | false => rw [List.takeWhile_cons_of_neg (by rw [k]; decide)] at h; cases h
      rw [List.takeWhile_cons_of_pos hb, List.length_cons] at h
      have hr : l.drop (at_ + 1) = r := by rw [← List.drop_drop, hd]; rfl
      have e : skp l at_ = skp l (at_ + 1) := by
        unfold skp
        rw [hd, List.takeWhile_cons_of_pos hb, List.length_cons, hr]
        omega
      have hi := ih (at_ + 1) (by rw [hr]; omega)
      rw [hr] at hi
      rw [wds_cons_blank at_ b r hb, e]
      exact hi
/-- the word at a place -/
theorem word_at (l : List UInt8) (at_ : Nat) (h : at_ ≤ l.length) :
    (wrd (l.drop (skp l at_)) = [] → skp l at_ = l.length ∧ wds at_ (l.drop at_) = []) ∧
      (wrd (l.drop (skp l at_)) ≠ [] → wds at_ (l.drop at_) = (skp l at_, wrd (l.drop (skp l at_))) :: wds (skp l at_ + (wrd (l.drop (skp l at_))).length) (l.drop (skp l at_ + (wrd (l.drop (skp l at_))).length)) ∧ skp l at_ < l.length) := by
  obtain ⟨k1, k2⟩ := skp_le l at_ h
  obtain ⟨e1, e2⟩ := wds_skp l _ at_ rfl
  obtain ⟨q, hq⟩ : ∃ q, q = skp l at_ := ⟨_, rfl⟩
  rw [← hq] at k1 k2 e1 e2 ⊢
  have hend : l.length ≤ q → l.drop q = [] := fun hk => List.drop_eq_nil_of_le hk
  refine ⟨fun hw => ?_, fun hw => ?_⟩
  · have hqe : q = l.length := by
      refine Classical.byContradiction fun hne => ?_
      have hlt : q < l.length := by omega
      have h0 : ((l.drop q).takeWhile isB).length = 0 := by unfold skp at e2; omega
      obtain ⟨c, hc1, hc2⟩ := tkw_out isB l q (by rw [h0]; exact hlt)
      rw [h0] at hc1
      have hd : l.drop q = c :: l.drop (q + 1) := by
        obtain ⟨hk, e⟩ := List.getElem?_eq_some_iff.1 hc1
        rw [List.drop_eq_getElem_cons hlt]
        congr 1
      rw [hd, wrd_cons c _ hc2] at hw
      cases hw
    refine ⟨hqe, ?_⟩
    rw [e1, hend (by omega), wds_nil]
  · have hlt : q < l.length := by
      refine Classical.byContradiction fun hne => hw ?_
      rw [hend (by omega)]
      rfl
    refine ⟨?_, hlt⟩
    have hne : l.drop q ≠ [] := fun k => hw (by rw [k]; rfl)
    rw [e1, wds_ne q _ hne, if_neg hw, List.drop_drop]
    obtain ⟨B, hB⟩ : ∃ B, B = (wrd (l.drop q)).length := ⟨_, rfl⟩
    rw [← hB] at k2 ⊢
    show (q, wrd (l.drop q)) :: wds (q + B + 1) (l.drop (q + (B + 1))) = _
    congr 1
    by_cases he : q + B < l.length
    · have hB2 : ((l.drop q).takeWhile fun b => !isB b).length = B := hB.symm
      obtain ⟨c, hc1, hc2⟩ := tkw_out (fun b => !isB b) l q (by rw [hB2]; exact he)
      rw [hB2] at hc1
      have hc3 : isB c = true := by simpa using hc2
      have hd : l.drop (q + B) = c :: l.drop (q + B + 1) := by
        obtain ⟨hk, e⟩ := List.getElem?_eq_some_iff.1 hc1
        rw [List.drop_eq_getElem_cons he]
        congr 1
      rw [hd, wds_cons_blank _ _ _ hc3]
      rfl
    · rw [List.drop_eq_nil_of_le (show l.length ≤ q + (B + 1) by omega), List.drop_eq_nil_of_le (show l.length ≤ q + B by omega), wds_nil, wds_nil]
theorem stage_v (s : PSt) (w : List UInt8) (k : Nat) (r : List (Nat × List UInt8)) (h0 : s.left = 0) (hv : 0 < vrb w) : goW s ((k, w) :: r) = goW (s.begin_ (vrb w)) r := by
  have e : s.word w = some (s.begin_ (vrb w)) := by unfold PSt.word; rw [if_neg (by omega), if_pos hv]
  conv => lhs; unfold goW
  rw [e]
theorem stage_n (s : PSt) (w : List UInt8) (k : Nat) (r : List (Nat × List UInt8)) (h0 : s.left = 0) (hv : vrb w = 0) (hn : s.now = 1 ∨ s.now = 2 ∨ s.now = 3 ∨ s.now = 4) : goW s ((k, w) :: r) = goW (s.begin_ (if s.now = 1 then 2 else s.now)) ((k, w) :: r) := by
  have e : s.word w = (s.begin_ (if s.now = 1 then 2 else s.now)).word w := by
    unfold PSt.word
    rw [if_neg (by omega), hv, if_neg (by omega), if_neg (by omega), if_pos (show 0 < (s.begin_ (if s.now = 1 then 2 else s.now)).left from by
      show 0 < 2 * tkN (if s.now = 1 then 2 else s.now)
      rcases hn with hn | hn | hn | hn <;> rw [hn] <;> decide)]
  conv => lhs; unfold goW
  conv => rhs; unfold goW
  rw [e]
theorem stage_bad (s : PSt) (w : List UInt8) (k : Nat) (r : List (Nat × List UInt8)) (h0 : s.left = 0) (hv : vrb w = 0) (hn : s.now = 0 ∨ s.now = 5) : goW s ((k, w) :: r) = .inl k := by
  have e : s.word w = none := by unfold PSt.word; rw [if_neg (by omega), hv, if_neg (by omega), if_pos hn]
  unfold goW
  rw [e]
theorem num_some (s : PSt) (w : List UInt8) (k : Nat) (r : List (Nat × List UInt8)) (n : Int) (h0 : 0 < s.left) (h : ps w = some n) : goW s ((k, w) :: r) = goW (s.num n) r := by
  have e : s.word w = some (s.num n) := by unfold PSt.word; rw [if_pos h0, h]; rfl
  conv => lhs; unfold goW
  rw [e]
theorem num_none (s : PSt) (w : List UInt8) (k : Nat) (r : List (Nat × List UInt8)) (h0 : 0 < s.left) (h : ps w = none) : goW s ((k, w) :: r) = .inl k := by
  have e : s.word w = none := by unfold PSt.word; rw [if_pos h0, h]; rfl
  unfold goW
  rw [e]
theorem spR_inl {l : List UInt8} {k : Nat} (h : goW PSt.zero (wds 0 l) = .inl k) : spR l = ([], [], (k : Int), 80) := by unfold spR; rw [h]
theorem spR_inr {l : List UInt8} {s : PSt} (h : goW PSt.zero (wds 0 l) = .inr s) : spR l = (if 0 < s.left then ([], [], (l.length : Int), 80) else if chk s.vb s.pt ≠ 0 then ([], [], 0, chk s.vb s.pt) else (s.vb, s.pt, 0, 0)) := by unfold spR; rw [h]
theorem ps_empty : ps [] = none := by decide
end Go.Proofs.YtjmagehfkcnjjaaGreatDoor

/-
  What the document's Parse holds: its box, its rows.
-/
namespace Go.Proofs.YtjmagehfkcnjjaaGreatDoor
set_option linter.unusedVariables false
open Go.RowKit

structure QAt (w : World) (vv pv : Value) (vb : List Int) (pt : List (Int × Int)) (W : World) : Prop where
  res : Blk W w.heap.size 35 #[.slice none 0 0, .slice none 0 0]
  box : Blk W (w.heap.size + 1) 35 #[vv, pv]
  vown : W.ownsRow (w.heap.size + 2) 3 1 vv vb.length (intsV vb)
  pown : W.ownsRow (w.heap.size + 2) 48 2 pv pt.length (fl pt)
  below : Below w.heap.size w W
  size : w.heap.size + 2 ≤ W.heap.size
theorem QAt.later {w W : World} {vv pv : Value} {vb : List Int} {pt : List (Int × Int)} (h : QAt w vv pv vb pt W) (x : Later W) : QAt w vv pv vb pt x.out :=
  ⟨h.res.later x, h.box.later x, own_later h.vown x, own_later h.pown x, Later.after h.below x, Nat.le_trans h.size x.size_le⟩
theorem QAt.alloc {w W : World} {vv pv : Value} {vb : List Int} {pt : List (Int × Int)} (h : QAt w vv pv vb pt W) (o : Obj) : QAt w vv pv vb pt (W.alloc o) :=
  ⟨h.res.alloc _, h.box.alloc _, h.vown.alloc _, h.pown.alloc _, h.below.alloc h.below.size _, by have := h.size; simp only [World.size_alloc]; omega⟩
theorem QAt.drew {w W : World} {vv pv : Value} {vb : List Int} {pt : List (Int × Int)} (h : QAt w vv pv vb pt W) : QAt w vv pv vb pt W.drew :=
  ⟨h.res, h.box, h.vown, h.pown, h.below.drew, h.size⟩
theorem QAt.addV {w W W3 : World} {vv pv : Value} {vb : List Int} {pt : List (Int × Int)} {g cap : Nat} {v : Int} (h : QAt w vv pv vb pt W)
    (ho : W3.ownsRow (w.heap.size + 2) 3 1 (.slice (some ⟨g, 0, none⟩) (vb.length + 1) cap) (vb.length + 1) (intsV vb ++ [.int .i64 v])) (hg : W.grownBy W3 vv.ownBlock) :
    QAt w (.slice (some ⟨g, 0, none⟩) (vb.length + 1) cap) pv (vb ++ [v]) pt (W3.setCell ⟨w.heap.size + 1, 0, none⟩ (.slice (some ⟨g, 0, none⟩) (vb.length + 1) cap)) := by
  have b3 := Blk.apart h.box h.vown (by decide) hg
  have r3 := Blk.apart h.res h.vown (by decide) hg
  have p3 := own_by h.vown h.pown (by decide) hg
  have nv : (Value.slice (some ⟨g, 0, none⟩) (vb.length + 1) cap).ownBlock ≠ some (w.heap.size + 1) := own_ne ho b3 (by decide)
  have np : pv.ownBlock ≠ some (w.heap.size + 1) := own_ne p3 b3 (by decide)
  have hb : Below w.heap.size w W3 := Below.grown h.below hg h.below.size (fun r hr => by have := (h.vown.lt r hr).1; omega)
  refine ⟨r3.other _ _ (by omega), (b3.set 0 _).eq (by simp), ?_, Go.ownsRow_setCell_other p3 (a := ⟨w.heap.size + 1, 0, none⟩) np _, Below.setCell hb (by show w.heap.size ≤ w.heap.size + 1; omega) _, by have := hg.size; have := h.size; simp only [World.size_setCell]; omega⟩
  have hh := Go.ownsRow_setCell_other ho (a := ⟨w.heap.size + 1, 0, none⟩) nv (.slice (some ⟨g, 0, none⟩) (vb.length + 1) cap)
  rw [intsV_app, List.length_append]
  exact hh
theorem QAt.addP {w W W3 : World} {vv pv : Value} {vb : List Int} {pt : List (Int × Int)} {g cap : Nat} {q : Int × Int} (h : QAt w vv pv vb pt W)
    (ho : W3.ownsRow (w.heap.size + 2) 48 2 (.slice (some ⟨g, 0, none⟩) (pt.length + 1) cap) (pt.length + 1) (fl pt ++ [.int .i64 q.1, .int .i64 q.2])) (hg : W.grownBy W3 pv.ownBlock) :
    QAt w vv (.slice (some ⟨g, 0, none⟩) (pt.length + 1) cap) vb (pt ++ [q]) (W3.setCell ⟨w.heap.size + 1, 1, none⟩ (.slice (some ⟨g, 0, none⟩) (pt.length + 1) cap)) := by
  have b3 := Blk.apart h.box h.pown (by decide) hg
  have r3 := Blk.apart h.res h.pown (by decide) hg
  have v3 := own_by h.pown h.vown (by decide) hg
  have np : (Value.slice (some ⟨g, 0, none⟩) (pt.length + 1) cap).ownBlock ≠ some (w.heap.size + 1) := own_ne ho b3 (by decide)
  have nv : vv.ownBlock ≠ some (w.heap.size + 1) := own_ne v3 b3 (by decide)
  have hb : Below w.heap.size w W3 := Below.grown h.below hg h.below.size (fun r hr => by have := (h.pown.lt r hr).1; omega)
  refine ⟨r3.other _ _ (by omega), (b3.set 1 _).eq (by simp), Go.ownsRow_setCell_other v3 (a := ⟨w.heap.size + 1, 1, none⟩) nv _, ?_, Below.setCell hb (by show w.heap.size ≤ w.heap.size + 1; omega) _, by have := hg.size; have := h.size; simp only [World.size_setCell]; omega⟩
  have hh := Go.ownsRow_setCell_other ho (a := ⟨w.heap.size + 1, 1, none⟩) np (.slice (some ⟨g, 0, none⟩) (pt.length + 1) cap)
  rw [fl_append, List.length_append]
  exact hh
theorem QAt.fin {w W : World} {vv pv : Value} {vb : List Int} {pt : List (Int × Int)} (h : QAt w vv pv vb pt W) (u v : Value) :
    Blk ((W.setCell ⟨w.heap.size, 0, none⟩ u).setCell ⟨w.heap.size, 1, none⟩ v) w.heap.size 35 #[u, v] ∧ IntsAt ((W.setCell ⟨w.heap.size, 0, none⟩ u).setCell ⟨w.heap.size, 1, none⟩ v) vv vb ∧ PtsAt ((W.setCell ⟨w.heap.size, 0, none⟩ u).setCell ⟨w.heap.size, 1, none⟩ v) pv pt ∧
      ∃ x : Later w, (W.setCell ⟨w.heap.size, 0, none⟩ u).setCell ⟨w.heap.size, 1, none⟩ v = x.out := by
  have nv : vv.ownBlock ≠ some w.heap.size := own_ne h.vown h.res (by decide)
  have np : pv.ownBlock ≠ some w.heap.size := own_ne h.pown h.res (by decide)
  refine ⟨((h.res.set 0 u).set 1 v).eq (by simp), intsAt_own (Go.ownsRow_setCell_other (Go.ownsRow_setCell_other h.vown (a := ⟨w.heap.size, 0, none⟩) nv _) (a := ⟨w.heap.size, 1, none⟩) nv _), ptsAt_own (Go.ownsRow_setCell_other (Go.ownsRow_setCell_other h.pown (a := ⟨w.heap.size, 0, none⟩) np _) (a := ⟨w.heap.size, 1, none⟩) np _), Later.mk_of (Below.setCell (Below.setCell h.below (Nat.le_refl _) _) (Nat.le_refl _) _)⟩
/-- what the document's Parse gives: a path that can be read, a place, an error -/
def RSR (w : World) (r : List Int × List (Int × Int) × Int × Int) : Ending → World → Prop := fun e w' => ∃ a1 n1 c1 a2 n2 c2, e = .returned (.tuple #[.agg #[.slice a1 n1 c1, .slice a2 n2 c2], .int .i64 r.2.2.1, .int .i64 r.2.2.2]) ∧ IntsAt w' (.slice a1 n1 c1) r.1 ∧ PtsAt w' (.slice a2 n2 c2) r.2.1 ∧ ∃ x : Later w, w' = x.out
theorem RSR.bad {w W : World} {k : Int} {E : Int} {e : Ending} (he : e = .returned (.tuple #[.agg #[.slice none 0 0, .slice none 0 0], .int .i64 k, .int .i64 E])) (hx : ∃ x : Later w, W = x.out) : RSR w ([], [], k, E) e W :=
  ⟨none, 0, 0, none, 0, 0, he, .inl ⟨rfl, rfl⟩, .inl ⟨rfl, rfl⟩, hx⟩
end Go.Proofs.YtjmagehfkcnjjaaGreatDoor

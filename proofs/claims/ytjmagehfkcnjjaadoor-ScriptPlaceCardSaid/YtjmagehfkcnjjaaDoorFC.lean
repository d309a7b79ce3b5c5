/-
  Print: the decimal text of a number of parts.
-/
import Derived.Test.YtjmagehfkcnjjaaDoorFB
namespace Go.Proofs.YtjmagehfkcnjjaaDoor
set_option linter.unusedVariables false
open Go.RowKit Go.Sort

theorem dec_size (u : Nat) (h : u < 18446744073709551616) : (⟨(Lib.decDigits u).toArray⟩ : ByteArray).size ≤ 20 := by
  show (Lib.decDigits u).toArray.size ≤ 20
  rw [List.size_toArray, Lib.decDigits_length]
  by_cases h0 : u = 0
  · subst h0; decide +kernel
  · have := Lib.numDigits_eq u (by omega) h
    split at this <;> omega
theorem ba_app (a b : List UInt8) : (⟨a.toArray⟩ : ByteArray) ++ ⟨b.toArray⟩ = ⟨(a ++ b).toArray⟩ := by
  apply ByteArray.ext
  simp
theorem ba_drop1 (l : List UInt8) (h : l.length = 9) : ((⟨l.toArray⟩ : ByteArray).extract 1 9).data.toList = l.drop 1 := by
  simp [h]
  exact List.take_of_length_le (by simp [h])
theorem trim_len (l : List UInt8) (c : UInt8) : (Lib.trimRightB l c).length ≤ l.length := by
  unfold Lib.trimRightB
  rw [List.length_reverse]
  have := (List.dropWhile_sublist (· == c) (l := l.reverse)).length_le
  simpa using this
theorem dec_nine (m : Nat) (h0 : 100000000 ≤ m) (h1 : m < 1000000000) : (⟨(Lib.decDigits m).toArray⟩ : ByteArray).size = 9 := by
  show (Lib.decDigits m).toArray.size = 9
  rw [List.size_toArray]
  have e : ∀ u : Nat, ¬ u < 10 → (Lib.decDigits u).length = (Lib.decDigits (u / 10)).length + 1 := fun u hu => by
    rw [Lib.decDigits, dif_neg hu, List.length_append]; rfl
  have e0 : ∀ u : Nat, u < 10 → (Lib.decDigits u).length = 1 := fun u hu => by rw [Lib.decDigits, dif_pos hu]; rfl
  rw [e m (by omega), e (m / 10) (by omega), e (m / 10 / 10) (by omega), e (m / 10 / 10 / 10) (by omega), e (m / 10 / 10 / 10 / 10) (by omega), e (m / 10 / 10 / 10 / 10 / 10) (by omega), e (m / 10 / 10 / 10 / 10 / 10 / 10) (by omega), e (m / 10 / 10 / 10 / 10 / 10 / 10 / 10) (by omega), e0 _ (by omega)]


set_option maxRecDepth 100000 in
set_option maxHeartbeats 1000000 in
theorem print_p0 (u q r : Nat) (hu : u ≤ 9223372036854775807) (hq : u = q * 256 + r) (hr : r = 0) (w : World) (htab : Lib.TabIs Tryd.prog w "internal/strconv.uint64pow10" .u64 Lib.pow10Tab) :
    Calls Tryd.prog 12 #[.int .i64 (u : Int)] w fun e w' => e = .returned (Value.string ⟨(Lib.decDigits q).toArray⟩) ∧ ∃ x : Later w, w' = x.out := by
  have q9 : q < 18446744073709551616 := by omega
  have hc1 := fun v hb => fmt_c q q9 v (Lib.tabBelow_of_tabIs htab v hb)
  have hd1 : (u : Int) / 256 = (q : Int) := by omega
  have hd2 : (u : Int) % 256 = (r : Int) := by omega
  have hd3 : (u : Int).tdiv 256 = (q : Int) := by rw [Int.tdiv_eq_ediv_of_nonneg (by omega)]; omega
  have hd4 : (u : Int).tmod 256 = (r : Int) := by rw [Int.tmod_eq_emod_of_nonneg (by omega)]; omega
  have hw0 : IntKind.u64.wrap (u : Int) = (u : Int) := by rw [IntKind.wrap_u64]; omega
  have hlt : decide ((u : Int) < 0) = false := by simp
  have hr0 : decide ((0 : Int) < 0) = false := by simp
  obtain ⟨A, hA⟩ : ∃ A : ByteArray, A = ⟨(Lib.decDigits q).toArray⟩ := ⟨_, rfl⟩
  have hAs : A.size ≤ 20 := by rw [hA]; exact dec_size q q9
  rw [← hA] at hc1
  have HA := Lib.hid hA
  have HC1 := Lib.hid hc1
  clear hA
  have HQ := Lib.hid hq
  clear hc1 htab hq
  subst hr
  go_enter Tryd.func12, Tryd.ntmps12
  go_wp2_with (go_at_call 31; (with_reducible refine (HC1.out _ (Below.refl _ _)).mono ?_); rintro e _ ⟨rfl, x, rfl⟩)
  have hv : Value.string (({data := #[]} : ByteArray) ++ A) = Value.string ⟨(Lib.decDigits q).toArray⟩ := by rw [HA.out]; show Value.string ((⟨([] : List UInt8).toArray⟩ : ByteArray) ++ ⟨(Lib.decDigits q).toArray⟩) = _; rw [ba_app]; rfl
  exact bodyPost_ret (v := Value.string (({data := #[]} : ByteArray) ++ A)) (by simp [results, Tryd.results12, go_sem, *]) rfl ⟨by first | (rw [hv]; done) | (rw [hv]; rfl), (Later.mk_of (by repeat (first | (with_reducible assumption) | (with_reducible exact Below.refl _ _) | (with_reducible refine Later.after ?_ _) | (with_reducible refine Later.newer ?_ _) | (with_reducible refine Below.drew ?_) | (with_reducible refine Below.setCell ?_ (by first | exact Nat.le_refl _ | exact Nat.le_add_right _ _ | omega | (simp [go_sem]; done) | (simp [go_sem]; omega)) _))))⟩


set_option maxRecDepth 100000 in
set_option maxHeartbeats 1000000 in
theorem print_p1 (u q r m : Nat) (hu : u ≤ 9223372036854775807) (hq : u = q * 256 + r) (hr : 0 < r) (r9 : r < 256) (hm : m = 100000000 + r * 390625) (w : World) (htab : Lib.TabIs Tryd.prog w "internal/strconv.uint64pow10" .u64 Lib.pow10Tab) :
    Calls Tryd.prog 12 #[.int .i64 (u : Int)] w fun e w' => e = .returned (Value.string ⟨(Lib.decDigits q ++ 46 :: Lib.trimRightB ((Lib.decDigits m).drop 1) 48).toArray⟩) ∧ ∃ x : Later w, w' = x.out := by
  have q9 : q < 18446744073709551616 := by omega
  have hc1 := fun v hb => fmt_c q q9 v (Lib.tabBelow_of_tabIs htab v hb)
  have hd1 : (u : Int) / 256 = (q : Int) := by omega
  have hd2 : (u : Int) % 256 = (r : Int) := by omega
  have hd3 : (u : Int).tdiv 256 = (q : Int) := by rw [Int.tdiv_eq_ediv_of_nonneg (by omega)]; omega
  have hd4 : (u : Int).tmod 256 = (r : Int) := by rw [Int.tmod_eq_emod_of_nonneg (by omega)]; omega
  have hw0 : IntKind.u64.wrap (u : Int) = (u : Int) := by rw [IntKind.wrap_u64]; omega
  have hlt : decide ((u : Int) < 0) = false := by simp
  have hr0 : decide ((0 : Int) < (r : Int)) = true := by simp; omega
  have hm1 : (100000000 : Int) + (r : Int) * 390625 = (m : Int) := by omega
  have hm2 : IntKind.u64.wrap ((r : Int) * 390625) = (r : Int) * 390625 := by rw [IntKind.wrap_u64]; omega
  have hm3 : IntKind.u64.wrap (100000000 + (r : Int) * 390625) = (m : Int) := by rw [IntKind.wrap_u64]; omega
  have hm9 : m < 18446744073709551616 := by omega
  have hc2 := fun v hb => fmt_c m hm9 v (Lib.tabBelow_of_tabIs htab v hb)
  obtain ⟨A, hA⟩ : ∃ A : ByteArray, A = ⟨(Lib.decDigits q).toArray⟩ := ⟨_, rfl⟩
  have hAs : A.size ≤ 20 := by rw [hA]; exact dec_size q q9
  rw [← hA] at hc1
  have HA := Lib.hid hA
  have HC1 := Lib.hid hc1
  clear hA
  obtain ⟨B, hB⟩ : ∃ B : ByteArray, B = ⟨(Lib.decDigits m).toArray⟩ := ⟨_, rfl⟩
  have hBs : B.size = 9 := by rw [hB]; exact dec_nine m (by omega) (by omega)
  rw [← hB] at hc2
  have hx : (B.extract 1 9).data.toList = (Lib.decDigits m).drop 1 := by
    rw [hB]; refine ba_drop1 _ ?_
    have := dec_nine m (by omega) (by omega)
    simpa [ByteArray.size] using this
  have hxs : (B.extract 1 9).size ≤ 9223372036854775807 := by rw [ByteArray.size_extract]; omega
  have hc3 := fun v => Tryd.strings_TrimRight_one (B.extract 1 9) 48 (by decide) v hxs
  rw [hx] at hc3
  obtain ⟨T, hT⟩ : ∃ T : ByteArray, T = ⟨(Lib.trimRightB ((Lib.decDigits m).drop 1) 48).toArray⟩ := ⟨_, rfl⟩
  have hTs : T.size ≤ 8 := by
    rw [hT]
    show (Lib.trimRightB ((Lib.decDigits m).drop 1) 48).toArray.size ≤ 8
    rw [List.size_toArray]
    have h1 := trim_len ((Lib.decDigits m).drop 1) 48
    have h2 := dec_nine m (by omega) (by omega)
    have h3 : (Lib.decDigits m).length = 9 := by simpa [ByteArray.size] using h2
    rw [List.length_drop, h3] at h1
    exact h1
  rw [← hT] at hc3
  have HB := Lib.hid hB
  have HT := Lib.hid hT
  have HC2 := Lib.hid hc2
  have HC3 := Lib.hid hc3
  clear hB hx hxs hT hc3
  have HQ := Lib.hid hq
  clear hc1 hc2 htab hq
  have HM := Lib.hid hm; clear hm
  go_enter Tryd.func12, Tryd.ntmps12
  go_wp2_with (go_at_call 31; (with_reducible refine (HC1.out _ (Below.refl _ _)).mono ?_); rintro e _ ⟨rfl, x, rfl⟩)
  go_wp2_with (go_at_call 31; (with_reducible refine (HC2.out _ x.below).mono ?_); rintro e _ ⟨rfl, y, rfl⟩)
  go_wp2_with (go_at_call 32; (with_reducible refine (HC3.out _).mono ?_); rintro e _ ⟨rfl, rfl⟩)
  have hv : Value.string (({data := #[]} : ByteArray) ++ A ++ (({data := #[46]} : ByteArray) ++ T)) = Value.string ⟨(Lib.decDigits q ++ 46 :: Lib.trimRightB ((Lib.decDigits m).drop 1) 48).toArray⟩ := by rw [HA.out, HT.out]; show Value.string ((⟨([] : List UInt8).toArray⟩ : ByteArray) ++ ⟨(Lib.decDigits q).toArray⟩ ++ ((⟨([46] : List UInt8).toArray⟩ : ByteArray) ++ ⟨(Lib.trimRightB ((Lib.decDigits m).drop 1) 48).toArray⟩)) = _; rw [ba_app, ba_app, ba_app]; rfl
  exact bodyPost_ret (v := Value.string (({data := #[]} : ByteArray) ++ A ++ (({data := #[46]} : ByteArray) ++ T))) (by simp [results, Tryd.results12, go_sem, *]) rfl ⟨by first | (rw [hv]; done) | (rw [hv]; rfl), (Later.mk_of (by repeat (first | (with_reducible assumption) | (with_reducible exact Below.refl _ _) | (with_reducible refine Later.after ?_ _) | (with_reducible refine Later.newer ?_ _) | (with_reducible refine Below.drew ?_) | (with_reducible refine Below.setCell ?_ (by first | exact Nat.le_refl _ | exact Nat.le_add_right _ _ | omega | (simp [go_sem]; done) | (simp [go_sem]; omega)) _))))⟩


set_option maxRecDepth 100000 in
set_option maxHeartbeats 1000000 in
theorem print_n0 (u q r : Nat) (hn : 1 ≤ u) (hu : u ≤ 9223372036854775808) (hq : u = q * 256 + r) (hr : r = 0) (w : World) (htab : Lib.TabIs Tryd.prog w "internal/strconv.uint64pow10" .u64 Lib.pow10Tab) :
    Calls Tryd.prog 12 #[.int .i64 (-(u : Int))] w fun e w' => e = .returned (Value.string ⟨(45 :: Lib.decDigits q).toArray⟩) ∧ ∃ x : Later w, w' = x.out := by
  have q9 : q < 18446744073709551616 := by omega
  have hc1 := fun v hb => fmt_c q q9 v (Lib.tabBelow_of_tabIs htab v hb)
  have hd1 : (u : Int) / 256 = (q : Int) := by omega
  have hd2 : (u : Int) % 256 = (r : Int) := by omega
  have hd3 : (u : Int).tdiv 256 = (q : Int) := by rw [Int.tdiv_eq_ediv_of_nonneg (by omega)]; omega
  have hd4 : (u : Int).tmod 256 = (r : Int) := by rw [Int.tmod_eq_emod_of_nonneg (by omega)]; omega
  have hwr : IntKind.u64.wrap (-IntKind.u64.wrap (-(u : Int))) = (u : Int) := by rw [IntKind.wrap_u64, IntKind.wrap_u64]; omega
  have hlt : decide (-(u : Int) < 0) = true := by simp; omega
  have hr0 : decide ((0 : Int) < 0) = false := by simp
  obtain ⟨A, hA⟩ : ∃ A : ByteArray, A = ⟨(Lib.decDigits q).toArray⟩ := ⟨_, rfl⟩
  have hAs : A.size ≤ 20 := by rw [hA]; exact dec_size q q9
  rw [← hA] at hc1
  have HA := Lib.hid hA
  have HC1 := Lib.hid hc1
  clear hA
  have HQ := Lib.hid hq
  clear hc1 htab hq
  subst hr
  go_enter Tryd.func12, Tryd.ntmps12
  go_wp2_with (go_at_call 31; (with_reducible refine (HC1.out _ (Below.refl _ _)).mono ?_); rintro e _ ⟨rfl, x, rfl⟩)
  have hv : Value.string (({data := #[45]} : ByteArray) ++ A) = Value.string ⟨(45 :: Lib.decDigits q).toArray⟩ := by rw [HA.out]; show Value.string ((⟨([45] : List UInt8).toArray⟩ : ByteArray) ++ ⟨(Lib.decDigits q).toArray⟩) = _; rw [ba_app]; rfl
  exact bodyPost_ret (v := Value.string (({data := #[45]} : ByteArray) ++ A)) (by simp [results, Tryd.results12, go_sem, *]) rfl ⟨by first | (rw [hv]; done) | (rw [hv]; rfl), (Later.mk_of (by repeat (first | (with_reducible assumption) | (with_reducible exact Below.refl _ _) | (with_reducible refine Later.after ?_ _) | (with_reducible refine Later.newer ?_ _) | (with_reducible refine Below.drew ?_) | (with_reducible refine Below.setCell ?_ (by first | exact Nat.le_refl _ | exact Nat.le_add_right _ _ | omega | (simp [go_sem]; done) | (simp [go_sem]; omega)) _))))⟩


set_option maxRecDepth 100000 in
set_option maxHeartbeats 1000000 in
theorem print_n1 (u q r m : Nat) (hn : 1 ≤ u) (hu : u ≤ 9223372036854775808) (hq : u = q * 256 + r) (hr : 0 < r) (r9 : r < 256) (hm : m = 100000000 + r * 390625) (w : World) (htab : Lib.TabIs Tryd.prog w "internal/strconv.uint64pow10" .u64 Lib.pow10Tab) :
    Calls Tryd.prog 12 #[.int .i64 (-(u : Int))] w fun e w' => e = .returned (Value.string ⟨(45 :: Lib.decDigits q ++ 46 :: Lib.trimRightB ((Lib.decDigits m).drop 1) 48).toArray⟩) ∧ ∃ x : Later w, w' = x.out := by
  have q9 : q < 18446744073709551616 := by omega
  have hc1 := fun v hb => fmt_c q q9 v (Lib.tabBelow_of_tabIs htab v hb)
  have hd1 : (u : Int) / 256 = (q : Int) := by omega
  have hd2 : (u : Int) % 256 = (r : Int) := by omega
  have hd3 : (u : Int).tdiv 256 = (q : Int) := by rw [Int.tdiv_eq_ediv_of_nonneg (by omega)]; omega
  have hd4 : (u : Int).tmod 256 = (r : Int) := by rw [Int.tmod_eq_emod_of_nonneg (by omega)]; omega
  have hwr : IntKind.u64.wrap (-IntKind.u64.wrap (-(u : Int))) = (u : Int) := by rw [IntKind.wrap_u64, IntKind.wrap_u64]; omega
  have hlt : decide (-(u : Int) < 0) = true := by simp; omega
  have hr0 : decide ((0 : Int) < (r : Int)) = true := by simp; omega
  have hm1 : (100000000 : Int) + (r : Int) * 390625 = (m : Int) := by omega
  have hm2 : IntKind.u64.wrap ((r : Int) * 390625) = (r : Int) * 390625 := by rw [IntKind.wrap_u64]; omega
  have hm3 : IntKind.u64.wrap (100000000 + (r : Int) * 390625) = (m : Int) := by rw [IntKind.wrap_u64]; omega
  have hm9 : m < 18446744073709551616 := by omega
  have hc2 := fun v hb => fmt_c m hm9 v (Lib.tabBelow_of_tabIs htab v hb)
  obtain ⟨A, hA⟩ : ∃ A : ByteArray, A = ⟨(Lib.decDigits q).toArray⟩ := ⟨_, rfl⟩
  have hAs : A.size ≤ 20 := by rw [hA]; exact dec_size q q9
  rw [← hA] at hc1
  have HA := Lib.hid hA
  have HC1 := Lib.hid hc1
  clear hA
  obtain ⟨B, hB⟩ : ∃ B : ByteArray, B = ⟨(Lib.decDigits m).toArray⟩ := ⟨_, rfl⟩
  have hBs : B.size = 9 := by rw [hB]; exact dec_nine m (by omega) (by omega)
  rw [← hB] at hc2
  have hx : (B.extract 1 9).data.toList = (Lib.decDigits m).drop 1 := by
    rw [hB]; refine ba_drop1 _ ?_
    have := dec_nine m (by omega) (by omega)
    simpa [ByteArray.size] using this
  have hxs : (B.extract 1 9).size ≤ 9223372036854775807 := by rw [ByteArray.size_extract]; omega
  have hc3 := fun v => Tryd.strings_TrimRight_one (B.extract 1 9) 48 (by decide) v hxs
  rw [hx] at hc3
  obtain ⟨T, hT⟩ : ∃ T : ByteArray, T = ⟨(Lib.trimRightB ((Lib.decDigits m).drop 1) 48).toArray⟩ := ⟨_, rfl⟩
  have hTs : T.size ≤ 8 := by
    rw [hT]
    show (Lib.trimRightB ((Lib.decDigits m).drop 1) 48).toArray.size ≤ 8
    rw [List.size_toArray]
    have h1 := trim_len ((Lib.decDigits m).drop 1) 48
    have h2 := dec_nine m (by omega) (by omega)
    have h3 : (Lib.decDigits m).length = 9 := by simpa [ByteArray.size] using h2
    rw [List.length_drop, h3] at h1
    exact h1
  rw [← hT] at hc3
  have HB := Lib.hid hB
  have HT := Lib.hid hT
  have HC2 := Lib.hid hc2
  have HC3 := Lib.hid hc3
  clear hB hx hxs hT hc3
  have HQ := Lib.hid hq
  clear hc1 hc2 htab hq
  have HM := Lib.hid hm; clear hm
  go_enter Tryd.func12, Tryd.ntmps12
  go_wp2_with (go_at_call 31; (with_reducible refine (HC1.out _ (Below.refl _ _)).mono ?_); rintro e _ ⟨rfl, x, rfl⟩)
  go_wp2_with (go_at_call 31; (with_reducible refine (HC2.out _ x.below).mono ?_); rintro e _ ⟨rfl, y, rfl⟩)
  go_wp2_with (go_at_call 32; (with_reducible refine (HC3.out _).mono ?_); rintro e _ ⟨rfl, rfl⟩)
  have hv : Value.string (({data := #[45]} : ByteArray) ++ A ++ (({data := #[46]} : ByteArray) ++ T)) = Value.string ⟨(45 :: Lib.decDigits q ++ 46 :: Lib.trimRightB ((Lib.decDigits m).drop 1) 48).toArray⟩ := by rw [HA.out, HT.out]; show Value.string ((⟨([45] : List UInt8).toArray⟩ : ByteArray) ++ ⟨(Lib.decDigits q).toArray⟩ ++ ((⟨([46] : List UInt8).toArray⟩ : ByteArray) ++ ⟨(Lib.trimRightB ((Lib.decDigits m).drop 1) 48).toArray⟩)) = _; rw [ba_app, ba_app, ba_app]; rfl
  exact bodyPost_ret (v := Value.string (({data := #[45]} : ByteArray) ++ A ++ (({data := #[46]} : ByteArray) ++ T))) (by simp [results, Tryd.results12, go_sem, *]) rfl ⟨by first | (rw [hv]; done) | (rw [hv]; rfl), (Later.mk_of (by repeat (first | (with_reducible assumption) | (with_reducible exact Below.refl _ _) | (with_reducible refine Later.after ?_ _) | (with_reducible refine Later.newer ?_ _) | (with_reducible refine Below.drew ?_) | (with_reducible refine Below.setCell ?_ (by first | exact Nat.le_refl _ | exact Nat.le_add_right _ _ | omega | (simp [go_sem]; done) | (simp [go_sem]; omega)) _))))⟩

end Go.Proofs.YtjmagehfkcnjjaaDoor

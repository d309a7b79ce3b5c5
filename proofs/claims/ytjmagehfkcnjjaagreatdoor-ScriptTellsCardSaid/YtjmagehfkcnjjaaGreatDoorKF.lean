/-
  Texts that stand as one.
-/
import Derived.Test.YtjmagehfkcnjjaaGreatDoorKA
import Derived.Test.YtjmagehfkcnjjaaGreatDoorShelf
import Derived.Lib.ItoaWalk
import Derived.Lib.ItoaMem
import Derived.Lib.AppendIntMem
import Derived.Lib.BufferKept
import Derived.Lib.Walk
import Derived.BigCall
import Derived.BigGuard
import Derived.Test.YtjmagehfkcnjjaaGreatDoorKC
import Derived.Shelf.Strings.SlTrimAscii
import Derived.Deep.RegionHeld3
import Derived.Lib.SmallJoins
/-
  The decimal numeral of a number without a sign.
-/
namespace Go.Proofs.YtjmagehfkcnjjaaGreatDoor
set_option linter.unusedVariables false
open Go.RowKit Go.Sort

set_option maxRecDepth 100000 in
set_option maxHeartbeats 1000000 in
theorem ifmt_small (u : Nat) (h : u < 100) (w : World) : Calls Tryz.prog 89 #[.int .u64 u, .int .i64 10] w fun e w' => e = .returned (.string ⟨(Lib.decDigits u).toArray⟩) ∧ ∃ x : Later w, w' = x.out := by
  have iu : (u : Int) < 100 := by omega
  have hc := fun v => Tryz.internal_strconv_small u h v
  have HC := Lib.hid hc
  clear hc
  go_enter Tryz.func89, Tryz.ntmps89
  go_wp2_with (go_at_call 110; (with_reducible refine (HC.out _).mono ?_); rintro e _ ⟨rfl, rfl⟩)
  exact bodyPost_ret (v := .string ⟨(Lib.decDigits u).toArray⟩) (by simp [results, Tryz.results89, go_sem, *]) rfl ⟨rfl, (Later.mk_of (by repeat (first | (with_reducible assumption) | (with_reducible exact Below.refl _ _) | (with_reducible refine Later.after ?_ _) | (with_reducible refine Later.newer ?_ _) | (with_reducible refine Below.drew ?_) | (with_reducible refine Below.setCell ?_ (by first | exact Nat.le_refl _ | exact Nat.le_add_right _ _ | omega | (simp [go_sem]; done) | (simp [go_sem]; omega)) _))))⟩
set_option maxRecDepth 100000 in
set_option maxHeartbeats 6400000 in
theorem ifmt_big (u : Nat) (hu : 100 ≤ u) (hu64 : u < 18446744073709551616) (w : World) (htab : Lib.TabIs Tryz.prog w "internal/strconv.uint64pow10" .u64 Lib.pow10Tab) : Calls Tryz.prog 89 #[.int .u64 u, .int .i64 10] w fun e w' => e = .returned (.string ⟨(Lib.decDigits u).toArray⟩) ∧ ∃ x : Later w, w' = x.out := by
  have hu1 : 1 ≤ u := by omega
  have hnd20 : Lib.nDigits u ≤ 20 := by have := Lib.numDigits_eq u hu1 hu64; split at this <;> omega
  have hal : Tryz.prog.arrayLen 138 = 24 := by kernel_rfl
  have hsl : ∀ W, (Instr.sliceAt 138 (.pointer (some ⟨w.heap.size, 0, none⟩)) none (some (.int .i64 (Lib.nDigits u : Int))) none).run Tryz.prog W = .ok (.slice (some ⟨w.heap.size, 0, none⟩) (Lib.nDigits u) 24) W := fun W => by
    rw [run_sliceAt_array_h W 138 ⟨w.heap.size, 0, none⟩ (by kernel_rfl) .i64 (Lib.nDigits u : Int) (by omega) (by rw [hal]; omega)]
    go_simp
  have hH0 := Lib.holds_zero0 w 138 (Lib.nDigits u) (by omega)
  have hfmt := Tryz.internal_strconv_formatBase10 w.heap.size 0 24 u (Array.replicate (Lib.nDigits u) 0) (w.alloc (.cells Lib.zeros24 138)) hH0 (by rw [Array.size_replicate]; exact Lib.lt_pow_nDigits u) hu64 (by rw [Array.size_replicate]; omega)
  rw [Array.size_replicate] at hfmt
  have HH0 := Lib.hid hH0
  have iu : (100 : Int) ≤ (u : Int) := by omega
  have iu2 : ¬ ((u : Int) < 100) := by omega
  clear hH0 hal
  go_enter Tryz.func89, Tryz.ntmps89
  go_wp2_with (go_at_call 111; refine (Tryz.internal_strconv_numDigits u hu1 hu64 _ (Lib.tabIs_alloc htab _)).mono ?_; rintro e w' ⟨rfl, rfl⟩)
  go_at_call 112
  refine hfmt.mono ?_
  rintro e w' ⟨rfl, k, v', dk, rfl, hF⟩
  have hcv : (convert 43 9 (.slice (some ⟨w.heap.size, 0, none⟩) (Lib.nDigits u) 24)).run Tryz.prog ((putRow (fun (b : UInt8) => Value.int .u8 (b.toNat : Int)) (w.alloc (.cells Lib.zeros24 138)) w.heap.size 0 dk).drewN k) = .ok (.string ⟨(Lib.decDigits u).toArray⟩) ((putRow (fun (b : UInt8) => Value.int .u8 (b.toNat : Int)) (w.alloc (.cells Lib.zeros24 138)) w.heap.size 0 dk).drewN k) := by
    have h := run_convert_bytes_back (P := Tryz.prog) ((putRow (fun (b : UInt8) => Value.int .u8 (b.toNat : Int)) (w.alloc (.cells Lib.zeros24 138)) w.heap.size 0 dk).drewN k) 43 9 5 ⟨w.heap.size, 0, none⟩ 24 (Lib.decDigits u) Tryz.underlying43 Tryz.underlying5 Tryz.underlying9 (fun j hj => by
      rw [Lib.row_is_numeral hF j hj, Lib.add_plain, World.cell?_drewN]
      exact cell?_putRow (fun (b : UInt8) => Value.int .u8 (b.toNat : Int)) _ w.heap.size 0 _ dk HH0.out (by rw [hF.size, Array.size_replicate]) j (by rw [hF.size]; rw [Lib.decDigits_length] at hj; exact hj))
    rw [Lib.decDigits_length] at h
    exact h
  obtain ⟨os, eo⟩ := Lib.fin_at w (.cells Lib.zeros24 138) dk k 0
  have hB : Below w.heap.size w ((putRow (fun (b : UInt8) => Value.int .u8 (b.toNat : Int)) (w.alloc (.cells Lib.zeros24 138)) w.heap.size 0 dk).drewN k) := by rw [eo]; exact Lib.below_grow _ w (Nat.le_refl _) k os
  have sz : w.heap.size ≤ (((putRow (fun (b : UInt8) => Value.int .u8 (b.toNat : Int)) (w.alloc (.cells Lib.zeros24 138)) w.heap.size 0 dk).drewN k)).heap.size := hB.size
  generalize ((putRow (fun (b : UInt8) => Value.int .u8 (b.toNat : Int)) (w.alloc (.cells Lib.zeros24 138)) w.heap.size 0 dk).drewN k) = W2 at *
  clear eo HH0 hfmt hF
  go_wp2
  exact bodyPost_ret (v := .string ⟨(Lib.decDigits u).toArray⟩) (by simp [results, Tryz.results89, go_sem, *]) rfl ⟨rfl, (Later.mk_of (by repeat (first | (with_reducible assumption) | (with_reducible exact Below.refl _ _) | (with_reducible refine Later.after ?_ _) | (with_reducible refine Later.newer ?_ _) | (with_reducible refine Below.drew ?_) | (with_reducible refine Below.setCell ?_ (by first | exact Nat.le_refl _ | exact Nat.le_add_right _ _ | omega | (simp [go_sem]; done) | (simp [go_sem]; omega)) _))))⟩
set_option maxRecDepth 100000 in
set_option maxHeartbeats 1000000 in
theorem fmt_c (u : Nat) (hu64 : u < 18446744073709551616) (w : World) (htab : Lib.TabIs Tryz.prog w "internal/strconv.uint64pow10" .u64 Lib.pow10Tab) : Calls Tryz.prog 60 #[.int .u64 u, .int .i64 10] w fun e w' => e = .returned (.string ⟨(Lib.decDigits u).toArray⟩) ∧ ∃ x : Later w, w' = x.out := by
  have hc : ∀ v, v = w → Calls Tryz.prog 89 #[.int .u64 u, .int .i64 10] v fun e w' => e = .returned (.string ⟨(Lib.decDigits u).toArray⟩) ∧ ∃ x : Later v, w' = x.out := fun v hv => by
    subst hv
    by_cases h : u < 100
    · exact ifmt_small u h v
    · exact ifmt_big u (by omega) hu64 v htab
  have HC := Lib.hid hc
  clear hc htab
  go_enter Tryz.func60, Tryz.ntmps60
  go_wp2_with (go_at_call 89; (with_reducible refine (HC.out _ rfl).mono ?_); rintro e _ ⟨rfl, x, rfl⟩)
  exact bodyPost_ret (v := .string ⟨(Lib.decDigits u).toArray⟩) (by simp [results, Tryz.results60, go_sem, *]) rfl ⟨rfl, (Later.mk_of (by repeat (first | (with_reducible assumption) | (with_reducible exact Below.refl _ _) | (with_reducible refine Later.after ?_ _) | (with_reducible refine Later.newer ?_ _) | (with_reducible refine Below.drew ?_) | (with_reducible refine Below.setCell ?_ (by first | exact Nat.le_refl _ | exact Nat.le_add_right _ _ | omega | (simp [go_sem]; done) | (simp [go_sem]; omega)) _))))⟩
end Go.Proofs.YtjmagehfkcnjjaaGreatDoor

/-
  Print: the decimal text of a number of parts.
-/
namespace Go.Proofs.YtjmagehfkcnjjaaGreatDoor
set_option linter.unusedVariables false
open Go.RowKit Go.Sort

theorem dec_size (u : Nat) (h : u < 18446744073709551616) : (⟨(Lib.decDigits u).toArray⟩ : ByteArray).size ≤ 20 := by
  show (Lib.decDigits u).toArray.size ≤ 20
  rw [List.size_toArray, Lib.decDigits_length]
  by_cases h0 : u = 0
  · subst h0; decide +kernel
  · have := Lib.numDigits_eq u (by omega) h
    split at this <;> omega
theorem ba_app (a b : List UInt8) : (⟨a.toArray⟩ : ByteArray) ++ ⟨b.toArray⟩ = ⟨(a ++ b).toArray⟩ := by
  apply ByteArray.ext
  simp
theorem ba_drop1 (l : List UInt8) (h : l.length = 9) : ((⟨l.toArray⟩ : ByteArray).extract 1 9).data.toList = l.drop 1 := by
  simp [h]
  exact List.take_of_length_le (by simp [h])
theorem trim_len (l : List UInt8) (c : UInt8) : (Lib.trimRightB l c).length ≤ l.length := by
  unfold Lib.trimRightB
  rw [List.length_reverse]
  have := (List.dropWhile_sublist (· == c) (l := l.reverse)).length_le
  simpa using this
theorem dec_nine (m : Nat) (h0 : 100000000 ≤ m) (h1 : m < 1000000000) : (⟨(Lib.decDigits m).toArray⟩ : ByteArray).size = 9 := by
  show (Lib.decDigits m).toArray.size = 9
  rw [List.size_toArray]
  have e : ∀ u : Nat, ¬ u < 10 → (Lib.decDigits u).length = (Lib.decDigits (u / 10)).length + 1 := fun u hu => by
    rw [Lib.decDigits, dif_neg hu, List.length_append]; rfl
  have e0 : ∀ u : Nat, u < 10 → (Lib.decDigits u).length = 1 := fun u hu => by rw [Lib.decDigits, dif_pos hu]; rfl
  rw [e m (by omega), e (m / 10) (by omega), e (m / 10 / 10) (by omega), e (m / 10 / 10 / 10) (by omega), e (m / 10 / 10 / 10 / 10) (by omega), e (m / 10 / 10 / 10 / 10 / 10) (by omega), e (m / 10 / 10 / 10 / 10 / 10 / 10) (by omega), e (m / 10 / 10 / 10 / 10 / 10 / 10 / 10) (by omega), e0 _ (by omega)]


set_option maxRecDepth 100000 in
set_option maxHeartbeats 1000000 in
theorem print_p0 (u q r : Nat) (hu : u ≤ 9223372036854775807) (hq : u = q * 256 + r) (hr : r = 0) (w : World) (htab : Lib.TabIs Tryz.prog w "internal/strconv.uint64pow10" .u64 Lib.pow10Tab) :
    Calls Tryz.prog 32 #[.int .i64 (u : Int)] w fun e w' => e = .returned (Value.string ⟨(Lib.decDigits q).toArray⟩) ∧ ∃ x : Later w, w' = x.out := by
  have q9 : q < 18446744073709551616 := by omega
  have hc1 := fun v hb => fmt_c q q9 v (Lib.tabBelow_of_tabIs htab v hb)
  have hd1 : (u : Int) / 256 = (q : Int) := by omega
  have hd2 : (u : Int) % 256 = (r : Int) := by omega
  have hd3 : (u : Int).tdiv 256 = (q : Int) := by rw [Int.tdiv_eq_ediv_of_nonneg (by omega)]; omega
  have hd4 : (u : Int).tmod 256 = (r : Int) := by rw [Int.tmod_eq_emod_of_nonneg (by omega)]; omega
  have hw0 : IntKind.u64.wrap (u : Int) = (u : Int) := by rw [IntKind.wrap_u64]; omega
  have hlt : decide ((u : Int) < 0) = false := by simp
  have hr0 : decide ((0 : Int) < 0) = false := by simp
  obtain ⟨A, hA⟩ : ∃ A : ByteArray, A = ⟨(Lib.decDigits q).toArray⟩ := ⟨_, rfl⟩
  have hAs : A.size ≤ 20 := by rw [hA]; exact dec_size q q9
  rw [← hA] at hc1
  have HA := Lib.hid hA
  have HC1 := Lib.hid hc1
  clear hA
  have HQ := Lib.hid hq
  clear hc1 htab hq
  subst hr
  go_enter Tryz.func32, Tryz.ntmps32
  go_wp2_with (go_at_call 60; (with_reducible refine (HC1.out _ (Below.refl _ _)).mono ?_); rintro e _ ⟨rfl, x, rfl⟩)
  have hv : Value.string (({data := #[]} : ByteArray) ++ A) = Value.string ⟨(Lib.decDigits q).toArray⟩ := by rw [HA.out]; show Value.string ((⟨([] : List UInt8).toArray⟩ : ByteArray) ++ ⟨(Lib.decDigits q).toArray⟩) = _; rw [ba_app]; rfl
  exact bodyPost_ret (v := Value.string (({data := #[]} : ByteArray) ++ A)) (by simp [results, Tryz.results32, go_sem, *]) rfl ⟨by first | (rw [hv]; done) | (rw [hv]; rfl), (Later.mk_of (by repeat (first | (with_reducible assumption) | (with_reducible exact Below.refl _ _) | (with_reducible refine Later.after ?_ _) | (with_reducible refine Later.newer ?_ _) | (with_reducible refine Below.drew ?_) | (with_reducible refine Below.setCell ?_ (by first | exact Nat.le_refl _ | exact Nat.le_add_right _ _ | omega | (simp [go_sem]; done) | (simp [go_sem]; omega)) _))))⟩


set_option maxRecDepth 100000 in
set_option maxHeartbeats 1000000 in
theorem print_p1 (u q r m : Nat) (hu : u ≤ 9223372036854775807) (hq : u = q * 256 + r) (hr : 0 < r) (r9 : r < 256) (hm : m = 100000000 + r * 390625) (w : World) (htab : Lib.TabIs Tryz.prog w "internal/strconv.uint64pow10" .u64 Lib.pow10Tab) :
    Calls Tryz.prog 32 #[.int .i64 (u : Int)] w fun e w' => e = .returned (Value.string ⟨(Lib.decDigits q ++ 46 :: Lib.trimRightB ((Lib.decDigits m).drop 1) 48).toArray⟩) ∧ ∃ x : Later w, w' = x.out := by
  have q9 : q < 18446744073709551616 := by omega
  have hc1 := fun v hb => fmt_c q q9 v (Lib.tabBelow_of_tabIs htab v hb)
  have hd1 : (u : Int) / 256 = (q : Int) := by omega
  have hd2 : (u : Int) % 256 = (r : Int) := by omega
  have hd3 : (u : Int).tdiv 256 = (q : Int) := by rw [Int.tdiv_eq_ediv_of_nonneg (by omega)]; omega
  have hd4 : (u : Int).tmod 256 = (r : Int) := by rw [Int.tmod_eq_emod_of_nonneg (by omega)]; omega
  have hw0 : IntKind.u64.wrap (u : Int) = (u : Int) := by rw [IntKind.wrap_u64]; omega
  have hlt : decide ((u : Int) < 0) = false := by simp
  have hr0 : decide ((0 : Int) < (r : Int)) = true := by simp; omega
  have hm1 : (100000000 : Int) + (r : Int) * 390625 = (m : Int) := by omega
  have hm2 : IntKind.u64.wrap ((r : Int) * 390625) = (r : Int) * 390625 := by rw [IntKind.wrap_u64]; omega
  have hm3 : IntKind.u64.wrap (100000000 + (r : Int) * 390625) = (m : Int) := by rw [IntKind.wrap_u64]; omega
  have hm9 : m < 18446744073709551616 := by omega
  have hc2 := fun v hb => fmt_c m hm9 v (Lib.tabBelow_of_tabIs htab v hb)
  obtain ⟨A, hA⟩ : ∃ A : ByteArray, A = ⟨(Lib.decDigits q).toArray⟩ := ⟨_, rfl⟩
  have hAs : A.size ≤ 20 := by rw [hA]; exact dec_size q q9
  rw [← hA] at hc1
  have HA := Lib.hid hA
  have HC1 := Lib.hid hc1
  clear hA
  obtain ⟨B, hB⟩ : ∃ B : ByteArray, B = ⟨(Lib.decDigits m).toArray⟩ := ⟨_, rfl⟩
  have hBs : B.size = 9 := by rw [hB]; exact dec_nine m (by omega) (by omega)
  rw [← hB] at hc2
  have hx : (B.extract 1 9).data.toList = (Lib.decDigits m).drop 1 := by
    rw [hB]; refine ba_drop1 _ ?_
    have := dec_nine m (by omega) (by omega)
    simpa [ByteArray.size] using this
  have hxs : (B.extract 1 9).size ≤ 9223372036854775807 := by rw [ByteArray.size_extract]; omega
  have hc3 := fun v => Tryz.strings_TrimRight_one (B.extract 1 9) 48 (by decide) v hxs
  rw [hx] at hc3
  obtain ⟨T, hT⟩ : ∃ T : ByteArray, T = ⟨(Lib.trimRightB ((Lib.decDigits m).drop 1) 48).toArray⟩ := ⟨_, rfl⟩
  have hTs : T.size ≤ 8 := by
    rw [hT]
    show (Lib.trimRightB ((Lib.decDigits m).drop 1) 48).toArray.size ≤ 8
    rw [List.size_toArray]
    have h1 := trim_len ((Lib.decDigits m).drop 1) 48
    have h2 := dec_nine m (by omega) (by omega)
    have h3 : (Lib.decDigits m).length = 9 := by simpa [ByteArray.size] using h2
    rw [List.length_drop, h3] at h1
    exact h1
  rw [← hT] at hc3
  have HB := Lib.hid hB
  have HT := Lib.hid hT
  have HC2 := Lib.hid hc2
  have HC3 := Lib.hid hc3
  clear hB hx hxs hT hc3
  have HQ := Lib.hid hq
  clear hc1 hc2 htab hq
  have HM := Lib.hid hm; clear hm
  go_enter Tryz.func32, Tryz.ntmps32
  go_wp2_with (go_at_call 60; (with_reducible refine (HC1.out _ (Below.refl _ _)).mono ?_); rintro e _ ⟨rfl, x, rfl⟩)
  go_wp2_with (go_at_call 60; (with_reducible refine (HC2.out _ x.below).mono ?_); rintro e _ ⟨rfl, y, rfl⟩)
  go_wp2_with (go_at_call 61; (with_reducible refine (HC3.out _).mono ?_); rintro e _ ⟨rfl, rfl⟩)
  have hv : Value.string (({data := #[]} : ByteArray) ++ A ++ (({data := #[46]} : ByteArray) ++ T)) = Value.string ⟨(Lib.decDigits q ++ 46 :: Lib.trimRightB ((Lib.decDigits m).drop 1) 48).toArray⟩ := by rw [HA.out, HT.out]; show Value.string ((⟨([] : List UInt8).toArray⟩ : ByteArray) ++ ⟨(Lib.decDigits q).toArray⟩ ++ ((⟨([46] : List UInt8).toArray⟩ : ByteArray) ++ ⟨(Lib.trimRightB ((Lib.decDigits m).drop 1) 48).toArray⟩)) = _; rw [ba_app, ba_app, ba_app]; rfl
  exact bodyPost_ret (v := Value.string (({data := #[]} : ByteArray) ++ A ++ (({data := #[46]} : ByteArray) ++ T))) (by simp [results, Tryz.results32, go_sem, *]) rfl ⟨by first | (rw [hv]; done) | (rw [hv]; rfl), (Later.mk_of (by repeat (first | (with_reducible assumption) | (with_reducible exact Below.refl _ _) | (with_reducible refine Later.after ?_ _) | (with_reducible refine Later.newer ?_ _) | (with_reducible refine Below.drew ?_) | (with_reducible refine Below.setCell ?_ (by first | exact Nat.le_refl _ | exact Nat.le_add_right _ _ | omega | (simp [go_sem]; done) | (simp [go_sem]; omega)) _))))⟩


set_option maxRecDepth 100000 in
set_option maxHeartbeats 1000000 in
theorem print_n0 (u q r : Nat) (hn : 1 ≤ u) (hu : u ≤ 9223372036854775808) (hq : u = q * 256 + r) (hr : r = 0) (w : World) (htab : Lib.TabIs Tryz.prog w "internal/strconv.uint64pow10" .u64 Lib.pow10Tab) :
    Calls Tryz.prog 32 #[.int .i64 (-(u : Int))] w fun e w' => e = .returned (Value.string ⟨(45 :: Lib.decDigits q).toArray⟩) ∧ ∃ x : Later w, w' = x.out := by
  have q9 : q < 18446744073709551616 := by omega
  have hc1 := fun v hb => fmt_c q q9 v (Lib.tabBelow_of_tabIs htab v hb)
  have hd1 : (u : Int) / 256 = (q : Int) := by omega
  have hd2 : (u : Int) % 256 = (r : Int) := by omega
  have hd3 : (u : Int).tdiv 256 = (q : Int) := by rw [Int.tdiv_eq_ediv_of_nonneg (by omega)]; omega
  have hd4 : (u : Int).tmod 256 = (r : Int) := by rw [Int.tmod_eq_emod_of_nonneg (by omega)]; omega
  have hwr : IntKind.u64.wrap (-IntKind.u64.wrap (-(u : Int))) = (u : Int) := by rw [IntKind.wrap_u64, IntKind.wrap_u64]; omega
  have hlt : decide (-(u : Int) < 0) = true := by simp; omega
  have hr0 : decide ((0 : Int) < 0) = false := by simp
  obtain ⟨A, hA⟩ : ∃ A : ByteArray, A = ⟨(Lib.decDigits q).toArray⟩ := ⟨_, rfl⟩
  have hAs : A.size ≤ 20 := by rw [hA]; exact dec_size q q9
  rw [← hA] at hc1
  have HA := Lib.hid hA
  have HC1 := Lib.hid hc1
  clear hA
  have HQ := Lib.hid hq
  clear hc1 htab hq
  subst hr
  go_enter Tryz.func32, Tryz.ntmps32
  go_wp2_with (go_at_call 60; (with_reducible refine (HC1.out _ (Below.refl _ _)).mono ?_); rintro e _ ⟨rfl, x, rfl⟩)
  have hv : Value.string (({data := #[45]} : ByteArray) ++ A) = Value.string ⟨(45 :: Lib.decDigits q).toArray⟩ := by rw [HA.out]; show Value.string ((⟨([45] : List UInt8).toArray⟩ : ByteArray) ++ ⟨(Lib.decDigits q).toArray⟩) = _; rw [ba_app]; rfl
  exact bodyPost_ret (v := Value.string (({data := #[45]} : ByteArray) ++ A)) (by simp [results, Tryz.results32, go_sem, *]) rfl ⟨by first | (rw [hv]; done) | (rw [hv]; rfl), (Later.mk_of (by repeat (first | (with_reducible assumption) | (with_reducible exact Below.refl _ _) | (with_reducible refine Later.after ?_ _) | (with_reducible refine Later.newer ?_ _) | (with_reducible refine Below.drew ?_) | (with_reducible refine Below.setCell ?_ (by first | exact Nat.le_refl _ | exact Nat.le_add_right _ _ | omega | (simp [go_sem]; done) | (simp [go_sem]; omega)) _))))⟩


set_option maxRecDepth 100000 in
set_option maxHeartbeats 1000000 in
theorem print_n1 (u q r m : Nat) (hn : 1 ≤ u) (hu : u ≤ 9223372036854775808) (hq : u = q * 256 + r) (hr : 0 < r) (r9 : r < 256) (hm : m = 100000000 + r * 390625) (w : World) (htab : Lib.TabIs Tryz.prog w "internal/strconv.uint64pow10" .u64 Lib.pow10Tab) :
    Calls Tryz.prog 32 #[.int .i64 (-(u : Int))] w fun e w' => e = .returned (Value.string ⟨(45 :: Lib.decDigits q ++ 46 :: Lib.trimRightB ((Lib.decDigits m).drop 1) 48).toArray⟩) ∧ ∃ x : Later w, w' = x.out := by
  have q9 : q < 18446744073709551616 := by omega
  have hc1 := fun v hb => fmt_c q q9 v (Lib.tabBelow_of_tabIs htab v hb)
  have hd1 : (u : Int) / 256 = (q : Int) := by omega
  have hd2 : (u : Int) % 256 = (r : Int) := by omega
  have hd3 : (u : Int).tdiv 256 = (q : Int) := by rw [Int.tdiv_eq_ediv_of_nonneg (by omega)]; omega
  have hd4 : (u : Int).tmod 256 = (r : Int) := by rw [Int.tmod_eq_emod_of_nonneg (by omega)]; omega
  have hwr : IntKind.u64.wrap (-IntKind.u64.wrap (-(u : Int))) = (u : Int) := by rw [IntKind.wrap_u64, IntKind.wrap_u64]; omega
  have hlt : decide (-(u : Int) < 0) = true := by simp; omega
  have hr0 : decide ((0 : Int) < (r : Int)) = true := by simp; omega
  have hm1 : (100000000 : Int) + (r : Int) * 390625 = (m : Int) := by omega
  have hm2 : IntKind.u64.wrap ((r : Int) * 390625) = (r : Int) * 390625 := by rw [IntKind.wrap_u64]; omega
  have hm3 : IntKind.u64.wrap (100000000 + (r : Int) * 390625) = (m : Int) := by rw [IntKind.wrap_u64]; omega
  have hm9 : m < 18446744073709551616 := by omega
  have hc2 := fun v hb => fmt_c m hm9 v (Lib.tabBelow_of_tabIs htab v hb)
  obtain ⟨A, hA⟩ : ∃ A : ByteArray, A = ⟨(Lib.decDigits q).toArray⟩ := ⟨_, rfl⟩
  have hAs : A.size ≤ 20 := by rw [hA]; exact dec_size q q9
  rw [← hA] at hc1
  have HA := Lib.hid hA
  have HC1 := Lib.hid hc1
  clear hA
  obtain ⟨B, hB⟩ : ∃ B : ByteArray, B = ⟨(Lib.decDigits m).toArray⟩ := ⟨_, rfl⟩
  have hBs : B.size = 9 := by rw [hB]; exact dec_nine m (by omega) (by omega)
  rw [← hB] at hc2
  have hx : (B.extract 1 9).data.toList = (Lib.decDigits m).drop 1 := by
    rw [hB]; refine ba_drop1 _ ?_
    have := dec_nine m (by omega) (by omega)
    simpa [ByteArray.size] using this
  have hxs : (B.extract 1 9).size ≤ 9223372036854775807 := by rw [ByteArray.size_extract]; omega
  have hc3 := fun v => Tryz.strings_TrimRight_one (B.extract 1 9) 48 (by decide) v hxs
  rw [hx] at hc3
  obtain ⟨T, hT⟩ : ∃ T : ByteArray, T = ⟨(Lib.trimRightB ((Lib.decDigits m).drop 1) 48).toArray⟩ := ⟨_, rfl⟩
  have hTs : T.size ≤ 8 := by
    rw [hT]
    show (Lib.trimRightB ((Lib.decDigits m).drop 1) 48).toArray.size ≤ 8
    rw [List.size_toArray]
    have h1 := trim_len ((Lib.decDigits m).drop 1) 48
    have h2 := dec_nine m (by omega) (by omega)
    have h3 : (Lib.decDigits m).length = 9 := by simpa [ByteArray.size] using h2
    rw [List.length_drop, h3] at h1
    exact h1
  rw [← hT] at hc3
  have HB := Lib.hid hB
  have HT := Lib.hid hT
  have HC2 := Lib.hid hc2
  have HC3 := Lib.hid hc3
  clear hB hx hxs hT hc3
  have HQ := Lib.hid hq
  clear hc1 hc2 htab hq
  have HM := Lib.hid hm; clear hm
  go_enter Tryz.func32, Tryz.ntmps32
  go_wp2_with (go_at_call 60; (with_reducible refine (HC1.out _ (Below.refl _ _)).mono ?_); rintro e _ ⟨rfl, x, rfl⟩)
  go_wp2_with (go_at_call 60; (with_reducible refine (HC2.out _ x.below).mono ?_); rintro e _ ⟨rfl, y, rfl⟩)
  go_wp2_with (go_at_call 61; (with_reducible refine (HC3.out _).mono ?_); rintro e _ ⟨rfl, rfl⟩)
  have hv : Value.string (({data := #[45]} : ByteArray) ++ A ++ (({data := #[46]} : ByteArray) ++ T)) = Value.string ⟨(45 :: Lib.decDigits q ++ 46 :: Lib.trimRightB ((Lib.decDigits m).drop 1) 48).toArray⟩ := by rw [HA.out, HT.out]; show Value.string ((⟨([45] : List UInt8).toArray⟩ : ByteArray) ++ ⟨(Lib.decDigits q).toArray⟩ ++ ((⟨([46] : List UInt8).toArray⟩ : ByteArray) ++ ⟨(Lib.trimRightB ((Lib.decDigits m).drop 1) 48).toArray⟩)) = _; rw [ba_app, ba_app, ba_app]; rfl
  exact bodyPost_ret (v := Value.string (({data := #[45]} : ByteArray) ++ A ++ (({data := #[46]} : ByteArray) ++ T))) (by simp [results, Tryz.results32, go_sem, *]) rfl ⟨by first | (rw [hv]; done) | (rw [hv]; rfl), (Later.mk_of (by repeat (first | (with_reducible assumption) | (with_reducible exact Below.refl _ _) | (with_reducible refine Later.after ?_ _) | (with_reducible refine Later.newer ?_ _) | (with_reducible refine Below.drew ?_) | (with_reducible refine Below.setCell ?_ (by first | exact Nat.le_refl _ | exact Nat.le_add_right _ _ | omega | (simp [go_sem]; done) | (simp [go_sem]; omega)) _))))⟩

end Go.Proofs.YtjmagehfkcnjjaaGreatDoor

/-
  The reader of digits.
-/
namespace Go.Proofs.YtjmagehfkcnjjaaGreatDoor
set_option linter.unusedVariables false
open Go.RowKit Go.Sort

set_option maxHeartbeats 400000 in
theorem need_yes (w : World) : Calls Tryz.prog 54 #[.bool true] w fun e w' => e = .returned (.tuple #[]) ∧ ∃ x : Later w, w' = x.out := by
  go_enter Tryz.func54, Tryz.ntmps54
  go_wp2_with (fail)
  exact bodyPost_end (v := .tuple #[]) (by simp [results, Tryz.results54, go_sem]) rfl ⟨rfl, (Later.mk_of (by repeat (first | (with_reducible assumption) | (with_reducible exact Below.refl _ _) | (with_reducible refine Later.after ?_ _) | (with_reducible refine Later.newer ?_ _) | (with_reducible refine Below.drew ?_) | (with_reducible refine Below.setCell ?_ (by first | exact Nat.le_refl _ | exact Nat.le_add_right _ _ | omega | (simp [go_sem]; done) | (simp [go_sem]; omega)) _))))⟩
set_option maxRecDepth 100000 in
set_option maxHeartbeats 1000000 in
theorem took_c (c : Int) (d : UInt8) (hd : (d.toNat : Int) = c) (S P : ByteArray) (b : Bool) (t : Nat) (w : World) (h : Blk w t 92 #[.string S]) (hp : P = ⟨#[d]⟩) (hb : Lib.hasPrefix S.data.toList P.data.toList = b) (hs : b = true → 1 ≤ S.size) :
    Calls Tryz.prog 55 #[.pointer (some ⟨t, 0, none⟩), .int .u8 c] w fun e w' => e = .returned (.bool b) ∧ Blk w' t 92 #[.string (if b then S.extract 1 S.size else S)] ∧ Below t w w' := by
  have f0 : w.cell? ⟨t, 0, none⟩ = some (.string S) := by rw [h.cell]; rfl
  have z0 : w.frozen? ⟨t, 0, none⟩ = false := h.frozen 0
  have lt := h.lt
  have hc := fun v => Tryz.strings_HasPrefix S P v
  rw [hb] at hc
  have HC := Lib.hid hc
  have hcv : (convert 43 9 (.slice (some ⟨w.heap.size, 0, none⟩) 1 1)).run Tryz.prog ((w.alloc (.cells #[.int .u8 c] 5)).drew) = .ok (.string P) ((w.alloc (.cells #[.int .u8 c] 5)).drew) := by
    have h := run_convert_bytes_back (P := Tryz.prog) ((w.alloc (.cells #[.int .u8 c] 5)).drew) 43 9 5 ⟨w.heap.size, 0, none⟩ 1 [d] Tryz.underlying43 Tryz.underlying5 Tryz.underlying9 (fun j hj => by
      obtain rfl : j = 0 := by simp at hj; omega
      rw [Addr.add_mid]
      have := (Blk.new w 5 #[.int .u8 c]).drew.cell 0
      rw [← hd] at this ⊢
      exact this)
    rw [hp]
    exact h
  clear hc hd hp hb
  go_enter Tryz.func55, Tryz.ntmps55
  go_wp2_with (fail)
  refine wp_region_held_drew (S := fun w' => w'.cell? ⟨t, 0, none⟩ = some (.string S)) (by kernel_rfl) (by simp [go_sem, *]; done) (fun hHeld => ?_)
  refine wpAnyH_take (i := 0) (v := .pointer (some ⟨t, 0, none⟩)) rfl (by kernel_rfl) (by kernel_rfl) (by kernel_rfl) (fun _ _ _ h => h) (Or.inl ⟨by rfl, fun w9 hSw => (by (try dsimp only at hSw); first | rfl | (simp [execOp, go_sem, *]; done) | (go_simp; done) | (go_simp; with_reducible rfl))⟩) hHeld ?_
  (try simp only [Act.put, List.setIfInBounds_toArray, List.set_cons_zero, List.set_cons_succ])
  refine wpAnyH_take (i := 1) (v := .pointer (some ⟨t, 0, none⟩)) rfl (by kernel_rfl) (by kernel_rfl) (by kernel_rfl) (fun _ _ _ h => h) (Or.inl ⟨by rfl, fun w9 hSw => (by (try dsimp only at hSw); first | rfl | (simp [execOp, go_sem, *]; done) | (go_simp; done) | (go_simp; with_reducible rfl))⟩) hHeld ?_
  (try simp only [Act.put, List.setIfInBounds_toArray, List.set_cons_zero, List.set_cons_succ])
  refine wpAnyH_take (i := 2) (v := .pointer (some ⟨t, 0, none⟩)) rfl (by kernel_rfl) (by kernel_rfl) (by kernel_rfl) (fun _ _ _ h => h) (Or.inl ⟨by rfl, fun w9 hSw => (by (try dsimp only at hSw); first | rfl | (simp [execOp, go_sem, *]; done) | (go_simp; done) | (go_simp; with_reducible rfl))⟩) hHeld ?_
  (try simp only [Act.put, List.setIfInBounds_toArray, List.set_cons_zero, List.set_cons_succ])
  refine wpAnyH_take (i := 3) (v := .string S) rfl (by kernel_rfl) (by kernel_rfl) (by kernel_rfl) (fun _ _ _ h => h) (Or.inl ⟨by rfl, fun w9 hSw => (by (try dsimp only at hSw); first | rfl | (simp [execOp, go_sem, *]; done) | (go_simp; done) | (go_simp; with_reducible rfl))⟩) hHeld ?_
  (try simp only [Act.put, List.setIfInBounds_toArray, List.set_cons_zero, List.set_cons_succ])
  refine wpAnyH_take (i := 4) (v := .int .u8 c) rfl (by kernel_rfl) (by kernel_rfl) (by kernel_rfl) (fun _ _ _ h => h) (Or.inl ⟨by rfl, fun w9 hSw => (by (try dsimp only at hSw); first | rfl | (simp [execOp, go_sem, *]; done) | (go_simp; done) | (go_simp; with_reducible rfl))⟩) hHeld ?_
  (try simp only [Act.put, List.setIfInBounds_toArray, List.set_cons_zero, List.set_cons_succ])
  refine wpAnyH_ready (rs := [5]) (by kernel_rfl) (by simp) ?_
  refine AllReadyH.cons rfl (fun K hK => ?_) AllReadyH.nil
  go_simp
  refine hK.out _ _ (by simp [go_sem, *]; done) (fun hHeld => ?_)
  clear hK K
  (try simp only [Act.put, List.setIfInBounds_toArray, List.set_cons_zero, List.set_cons_succ])
  refine wpAnyH_ready (rs := [6]) (by kernel_rfl) (by simp) ?_
  refine AllReadyH.cons rfl (fun K hK => ?_) AllReadyH.nil
  go_simp
  refine hK.out _ _ (by simp [go_sem, *]; done) (fun hHeld => ?_)
  clear hK K
  (try simp only [Act.put, List.setIfInBounds_toArray, List.set_cons_zero, List.set_cons_succ])
  refine wpAnyH_ready (rs := [7]) (by kernel_rfl) (by simp) ?_
  refine AllReadyH.cons rfl (fun K hK => ?_) AllReadyH.nil
  go_simp; (go_at_call 82; (with_reducible refine (HC.out _).mono ?_); rintro e _ ⟨rfl, rfl⟩); go_simp
  refine hK.out _ _ (by simp [go_sem, *]; done) (fun hHeld => ?_)
  clear hK K
  (try simp only [Act.put, List.setIfInBounds_toArray, List.set_cons_zero, List.set_cons_succ])
  refine wpAnyH_ready (rs := [8]) (by kernel_rfl) (by simp) ?_
  refine AllReadyH.cons rfl (fun K hK => ?_) AllReadyH.nil
  go_simp
  refine hK.out _ _ (by simp [go_sem, *]; done) (fun hHeld => ?_)
  clear hK K
  (try simp only [Act.put, List.setIfInBounds_toArray, List.set_cons_zero, List.set_cons_succ])
  refine wpAnyH_done (by kernel_rfl) ?_ _
  have k1 : Blk ((w.alloc (.cells #[.int .u8 c] 5)).drew) t 92 #[.string S] := (Blk.drew (h.alloc _))
  have b1 : Below t w ((w.alloc (.cells #[.int .u8 c] 5)).drew) := (((Below.refl t w).alloc (Nat.le_of_lt lt) _).drew)
  have K1 := Lib.hid k1
  have HB := Lib.hid b1
  have H0 := Lib.hid h
  clear h b1
  generalize (w.alloc (.cells #[.int .u8 c] 5)).drew = W1 at *
  clear f0 z0 hcv
  have f0 : W1.cell? ⟨t, 0, none⟩ = some (.string S) := by rw [k1.cell]; rfl
  have z0 : W1.frozen? ⟨t, 0, none⟩ = false := k1.frozen 0
  have lt1 := k1.lt
  clear k1
  cases b
  · go_wp2_with (fail)
    exact bodyPost_ret (v := .bool false) (by simp [results, Tryz.results55, go_sem, *]) rfl ⟨rfl, K1.out, HB.out⟩
  · have hs1 := hs rfl
    have hs2 : (1 : Int) ≤ (S.size : Int) := by omega
    clear hs
    go_wp2_with (fail)
    exact bodyPost_ret (v := .bool true) (by simp [results, Tryz.results55, go_sem, *]) rfl ⟨rfl, (K1.out.set 0 _).eq (by simp), Below.setCell HB.out (Nat.le_refl _) _⟩
end Go.Proofs.YtjmagehfkcnjjaaGreatDoor

/-
  The reader's digits; a number of digits.
-/
namespace Go.Proofs.YtjmagehfkcnjjaaGreatDoor
set_option linter.unusedVariables false
open Go.RowKit Go.Sort

def digs : List UInt8 := [48, 49, 50, 51, 52, 53, 54, 55, 56, 57]
theorem digs_low : ∀ b ∈ digs, b.toNat < 128 := by decide
theorem tl_c (S : ByteArray) (w : World) : Calls Tryz.prog 56 #[.string S, .string ⟨#[48, 49, 50, 51, 52, 53, 54, 55, 56, 57]⟩] w fun e w' => e = .returned (.string ⟨(Lib.trimLeftS S.data.toList digs).toArray⟩) ∧ ∃ x : Later w, w' = x.out :=
  (Any.strings_TrimLeft_laid Tryz.lays161 (by kernel_rfl) S ⟨#[48, 49, 50, 51, 52, 53, 54, 55, 56, 57]⟩ w (by decide) (fun j b hb => digs_low b (List.mem_of_getElem? hb))).mono fun e w' h => ⟨h.1, Later.mk_of h.2⟩
set_option maxRecDepth 100000 in
set_option maxHeartbeats 1000000 in
theorem digits_c (S R : ByteArray) (n : Nat) (t : Nat) (w : World) (h : Blk w t 92 #[.string S]) (hR : R = ⟨(Lib.trimLeftS S.data.toList digs).toArray⟩) (hn : R.size + n = S.size) (hn0 : 0 < n) (hS : S.size ≤ 1000000) :
    Calls Tryz.prog 57 #[.pointer (some ⟨t, 0, none⟩)] w fun e w' => e = .returned (.string (S.extract 0 n)) ∧ Blk w' t 92 #[.string (S.extract n S.size)] ∧ Below t w w' := by
  have f0 : w.cell? ⟨t, 0, none⟩ = some (.string S) := by rw [h.cell]; rfl
  have z0 : w.frozen? ⟨t, 0, none⟩ = false := h.frozen 0
  have lt := h.lt
  have hc := fun v => tl_c S v
  rw [← hR] at hc
  have HC := Lib.hid hc
  have hn1 : (S.size : Int) - (R.size : Int) = (n : Int) := by omega
  have hn2 : IntKind.i64.wrap ((S.size : Int) - (R.size : Int)) = (n : Int) := by rw [IntWalk.i64_in _ (by omega)]; omega
  have hn3 : decide ((0 : Int) < (n : Int)) = true := by simp; omega
  have hn4 : n ≤ S.size := by omega
  have hn5 : (n : Int) ≤ (S.size : Int) := by omega
  have hn6 : (0 : Int) ≤ (n : Int) := by omega
  have H := Lib.hid h
  have HN := Lib.hid hn
  clear hc hR h hn
  go_enter Tryz.func57, Tryz.ntmps57
  go_wp2_with (fail)
  refine wp_region_later (by kernel_rfl) (by kernel_rfl) ?_
  repeat (go_big_quiet_step ((first | (go_at_call 56; with_reducible exact Later.call _ (HC.out _)))))
  refine wpQuiet_nil ?_
  intro x
  go_wp2_with (go_at_call 54; (with_reducible refine (need_yes _).mono ?_); rintro e _ ⟨rfl, y, rfl⟩)
  exact bodyPost_ret (v := .string (S.extract 0 n)) (by simp [results, Tryz.results57, go_sem, *]) rfl ⟨rfl, (((H.out.later x).later y).set 0 _).eq (by simp), Below.setCell ((x.below.mono (Nat.le_of_lt lt)).trans (y.below.mono (Nat.le_of_lt (Nat.lt_of_lt_of_le lt x.size_le)))) (Nat.le_refl _) _⟩
set_option maxRecDepth 100000 in
set_option maxHeartbeats 1000000 in
theorem number_c (S : ByteArray) (n : Int) (hl : S.size ≤ 18) (h : Lib.atoi S.data.toList = some n) (w : World) : Calls Tryz.prog 58 #[.string S] w fun e w' => e = .returned (.int .i64 n) ∧ ∃ x : Later w, w' = x.out := by
  have hc : ∀ v, Calls Tryz.prog 87 #[.string S] v fun e w' => e = .returned (.tuple #[.int .i64 n, .nilIface]) ∧ ∃ x : Later v, w' = x.out := fun v => (Tryz.strconv_Atoi S n hl h v).mono fun e w' h => ⟨h.1, by obtain ⟨t, ht⟩ := h.2; rw [ht]; exact Later.mk_of (Go.Joins.below_bytesWorld _ _ _ _ (Nat.le_refl _))⟩
  have HC := Lib.hid hc
  clear hc h hl
  go_enter Tryz.func58, Tryz.ntmps58
  go_wp2_with (first | (go_at_call 87; (with_reducible refine (HC.out _).mono ?_); rintro e _ ⟨rfl, x, rfl⟩) | (go_at_call 54; (with_reducible refine (need_yes _).mono ?_); rintro e _ ⟨rfl, y, rfl⟩))
  exact bodyPost_ret (v := .int .i64 n) (by simp [results, Tryz.results58, go_sem, *]) rfl ⟨rfl, (Later.mk_of (by repeat (first | (with_reducible assumption) | (with_reducible exact Below.refl _ _) | (with_reducible refine Later.after ?_ _) | (with_reducible refine Later.newer ?_ _) | (with_reducible refine Below.drew ?_) | (with_reducible refine Below.setCell ?_ (by first | exact Nat.le_refl _ | exact Nat.le_add_right _ _ | omega | (simp [go_sem]; done) | (simp [go_sem]; omega)) _))))⟩
end Go.Proofs.YtjmagehfkcnjjaaGreatDoor

/-
  The parts of a pixel that digits tell.
-/
namespace Go.Proofs.YtjmagehfkcnjjaaGreatDoor
set_option linter.unusedVariables false
open Go.RowKit Go.Sort

set_option maxRecDepth 100000 in
set_option maxHeartbeats 1000000 in
theorem parts_c (S T Z : ByteArray) (k : Nat) (N q : Int) (w : World) (hS : S.size ≤ 1000000) (hT : T = ⟨(Lib.trimRightB S.data.toList 48).toArray⟩) (hk : T.size + k = 8)
    (hZ : Z = ⟨(Lib.repeatL [48] k).toArray⟩) (hZs : Z.size = k) (hN : Lib.atoi (({data := #[48]} : ByteArray) ++ T ++ Z).data.toList = some N) (hq : N = 390625 * q) (q0 : 0 ≤ q) (q9 : q ≤ 1000000000) :
    Calls Tryz.prog 59 #[.string S] w fun e w' => e = .returned (.int .i64 q) ∧ ∃ x : Later w, w' = x.out := by
  have hc1 := fun v => Tryz.strings_TrimRight_one S 48 (by decide) v (by omega)
  rw [← hT] at hc1
  have hc2 : ∀ v, Calls Tryz.prog 88 #[.string ⟨#[48]⟩, .int .i64 k] v fun e w' => e = .returned (.string Z) ∧ ∃ x : Later v, w' = x.out := fun v =>
    (Tryz.strings_Repeat ⟨#[48]⟩ k v (by omega) (by show 1 * k ≤ _; omega)).mono fun e w' h => ⟨by rw [h.1, hZ], Later.mk_of h.2⟩
  have hsz : (({data := #[48]} : ByteArray) ++ T ++ Z).size ≤ 18 := by
    rw [ByteArray.size_append, ByteArray.size_append]
    show 1 + T.size + Z.size ≤ 18
    omega
  have hc3 := fun v => number_c (({data := #[48]} : ByteArray) ++ T ++ Z) N hsz hN v
  have h1 : (8 : Int) - (T.size : Int) = (k : Int) := by omega
  have h2 : IntKind.i64.wrap ((8 : Int) - (T.size : Int)) = (k : Int) := by rw [IntWalk.i64_in _ (by omega)]; omega
  have h3 : decide ((T.size : Int) ≤ 8) = true := by simp; omega
  have hTs : T.size ≤ 8 := by omega
  have hZ8 : Z.size ≤ 8 := by omega
  have r1 : N % 390625 = 0 := by omega
  have r2 : N.tmod 390625 = 0 := by rw [Int.tmod_eq_emod_of_nonneg (by omega)]; omega
  have r3 : N / 390625 = q := by omega
  have r4 : N.tdiv 390625 = q := by rw [Int.tdiv_eq_ediv_of_nonneg (by omega)]; omega
  have n0 : 0 ≤ N := by omega
  have n9 : N ≤ 390625000000000 := by omega
  have HC1 := Lib.hid hc1
  have HC2 := Lib.hid hc2
  have HC3 := Lib.hid hc3
  clear hc1 hc2 hc3 hT hZ hN hq hsz hZs hk
  go_enter Tryz.func59, Tryz.ntmps59
  go_wp2_with (first | (go_at_call 61; (with_reducible refine (HC1.out _).mono ?_); rintro e _ ⟨rfl, rfl⟩) | (go_at_call 54; (with_reducible refine (need_yes _).mono ?_); rintro e _ ⟨rfl, y, rfl⟩) | (go_at_call 88; (with_reducible refine (HC2.out _).mono ?_); rintro e _ ⟨rfl, x, rfl⟩) | (go_at_call 58; (with_reducible refine (HC3.out _).mono ?_); rintro e _ ⟨rfl, z, rfl⟩))
  exact bodyPost_ret (v := .int .i64 q) (by simp [results, Tryz.results59, go_sem, *]) rfl ⟨rfl, (Later.mk_of (by repeat (first | (with_reducible assumption) | (with_reducible exact Below.refl _ _) | (with_reducible refine Later.after ?_ _) | (with_reducible refine Later.newer ?_ _) | (with_reducible refine Below.drew ?_) | (with_reducible refine Below.setCell ?_ (by first | exact Nat.le_refl _ | exact Nat.le_add_right _ _ | omega | (simp [go_sem]; done) | (simp [go_sem]; omega)) _))))⟩
end Go.Proofs.YtjmagehfkcnjjaaGreatDoor

/-
  The reader and its digits at any text, and where it fails.
-/
import Derived.Test.YtjmagehfkcnjjaaGreatDoorKF
import Derived.Test.YtjmagehfkcnjjaaGreatDoorKP
import Derived.Deep.RegionHeld3
namespace Go.Proofs.YtjmagehfkcnjjaaGreatDoor
set_option linter.unusedVariables false
open Go.RowKit Go.Sort

set_option maxHeartbeats 400000 in
theorem need_no (w : World) : Calls Tryz.prog 54 #[.bool false] w fun e w' => e = .panicked [{ v := .iface 88 (.agg #[]), recovered := false }] ∧ ∃ x : Later w, w' = x.out := by
  go_enter Tryz.func54, Tryz.ntmps54
  go_wp2_with (fail)
  exact ⟨rfl, rfl, (Later.mk_of (by repeat (first | (with_reducible assumption) | (with_reducible exact Below.refl _ _) | (with_reducible refine Later.after ?_ _) | (with_reducible refine Later.newer ?_ _) | (with_reducible refine Below.drew ?_) | (with_reducible refine Below.setCell ?_ (by first | exact Nat.le_refl _ | exact Nat.le_add_right _ _ | omega | (simp [go_sem]; done) | (simp [go_sem]; omega)) _))))⟩
theorem ba_drop (l : List UInt8) (n : Nat) : (⟨l.toArray⟩ : ByteArray).extract n (⟨l.toArray⟩ : ByteArray).size = ⟨(l.drop n).toArray⟩ := by
  apply ByteArray.ext
  apply Array.toList_inj.1
  simp
  exact List.take_of_length_le (by rw [List.length_drop]; exact Nat.le_refl _)
theorem ba_take (l : List UInt8) (n : Nat) : (⟨l.toArray⟩ : ByteArray).extract 0 n = ⟨(l.take n).toArray⟩ := by
  apply ByteArray.ext
  apply Array.toList_inj.1
  simp
theorem ba_size (l : List UInt8) : (⟨l.toArray⟩ : ByteArray).size = l.length := rfl
theorem took_l (l : List UInt8) (S R : ByteArray) (c : Int) (d : UInt8) (hd : (d.toNat : Int) = c) (b : Bool) (hb : Lib.hasPrefix l [d] = b) (hS : S = ⟨l.toArray⟩) (hR : R = ⟨(if b then l.drop 1 else l).toArray⟩) (t : Nat) (w : World) (h : Blk w t 92 #[.string S]) :
    Calls Tryz.prog 55 #[.pointer (some ⟨t, 0, none⟩), .int .u8 c] w fun e w' => e = .returned (.bool b) ∧ Blk w' t 92 #[.string R] ∧ Below t w w' := by
  have hs : b = true → 1 ≤ S.size := fun e => by
    rw [hS, ba_size]
    rw [e] at hb
    cases l with
    | nil => simp [Lib.hasPrefix] at hb
    | cons a r => simp
  have hc := took_c c d hd S ⟨#[d]⟩ b t w h rfl (by rw [hS]; exact hb) hs
  have e : (if b then S.extract 1 S.size else S) = R := by
    rw [hR, hS]
    cases b
    · rfl
    · exact ba_drop l 1
  rw [e] at hc
  exact hc
theorem digs_isD (b : UInt8) : digs.contains b = isD b := by
  have key : ∀ n : Fin 256, digs.contains (UInt8.ofNat n.val) = isD (UInt8.ofNat n.val) := by decide +kernel
  have := key ⟨b.toNat, UInt8.toNat_lt b⟩
  simpa using this
theorem trimLeftS_rst (l : List UInt8) : Lib.trimLeftS l digs = rst l := by
  unfold Lib.trimLeftS rst
  congr 1
  funext b
  exact digs_isD b
theorem digits_l (l : List UInt8) (S D R : ByteArray) (hS : S = ⟨l.toArray⟩) (hD : D = ⟨(dgs l).toArray⟩) (hR : R = ⟨(rst l).toArray⟩) (hne : dgs l ≠ []) (hl : l.length ≤ 1000000) (t : Nat) (w : World) (h : Blk w t 92 #[.string S]) :
    Calls Tryz.prog 57 #[.pointer (some ⟨t, 0, none⟩)] w fun e w' => e = .returned (.string D) ∧ Blk w' t 92 #[.string R] ∧ Below t w w' := by
  have hp : 0 < (dgs l).length := List.length_pos_iff.2 hne
  have hc := digits_c S _ (dgs l).length t w h rfl (by rw [hS]; show (Lib.trimLeftS l digs).toArray.size + _ = l.length; rw [trimLeftS_rst, List.size_toArray]; have := rst_len l; omega) hp (by rw [hS, ba_size]; exact hl)
  rw [hS, ba_take, ba_drop, dgs_take, rst_drop, ← hD, ← hR] at hc
  exact hc
set_option maxRecDepth 100000 in
set_option maxHeartbeats 1000000 in
theorem digits_no (l : List UInt8) (S : ByteArray) (hS : S = ⟨l.toArray⟩) (hne : dgs l = []) (hl : l.length ≤ 1000000) (t : Nat) (w : World) (h : Blk w t 92 #[.string S]) :
    Calls Tryz.prog 57 #[.pointer (some ⟨t, 0, none⟩)] w fun e w' => e = .panicked [{ v := .iface 88 (.agg #[]), recovered := false }] ∧ ∃ x : Later w, w' = x.out := by
  have f0 : w.cell? ⟨t, 0, none⟩ = some (.string S) := by rw [h.cell]; rfl
  have z0 : w.frozen? ⟨t, 0, none⟩ = false := h.frozen 0
  have lt := h.lt
  have hl1 := rst_len l
  have hr : rst l = l := by
    have := dgs_rst l
    rw [hne] at this
    exact this
  have hc := fun v => tl_c S v
  have e : (⟨(Lib.trimLeftS S.data.toList digs).toArray⟩ : ByteArray) = S := by
    rw [hS]
    show (⟨(Lib.trimLeftS l digs).toArray⟩ : ByteArray) = _
    rw [trimLeftS_rst, hr]
  rw [e] at hc
  have HC := Lib.hid hc
  have hs : S.size ≤ 1000000 := by rw [hS, ba_size]; exact hl
  clear hc hS hne hl h hl1 hr e
  go_enter Tryz.func57, Tryz.ntmps57
  go_wp2_with (fail)
  refine wp_region_later (by kernel_rfl) (by kernel_rfl) ?_
  repeat (go_big_quiet_step ((first | (go_at_call 56; with_reducible exact Later.call _ (HC.out _)))))
  refine wpQuiet_nil ?_
  intro x
  go_wp2_with (go_at_call 54; (with_reducible refine (need_no _).mono ?_); rintro e _ ⟨rfl, y, rfl⟩)
  exact ⟨rfl, rfl, (Later.mk_of (by repeat (first | (with_reducible assumption) | (with_reducible exact Below.refl _ _) | (with_reducible refine Later.after ?_ _) | (with_reducible refine Later.newer ?_ _) | (with_reducible refine Below.drew ?_) | (with_reducible refine Below.setCell ?_ (by first | exact Nat.le_refl _ | exact Nat.le_add_right _ _ | omega | (simp [go_sem]; done) | (simp [go_sem]; omega)) _))))⟩
/-- what parts makes of digits -/
theorem parts_l (d : List UInt8) (S : ByteArray) (q : Int) (hd : ∀ b ∈ d, IsDg b) (hS : S = ⟨d.toArray⟩) (hl : d.length ≤ 1000000) (h8 : ¬ 8 < (Lib.trimRightB d 48).length) (hm : vl (eight d) % 390625 = 0) (hq : q = ((vl (eight d) / 390625 : Nat) : Int)) (w : World) :
    Calls Tryz.prog 59 #[.string S] w fun e w' => e = .returned (.int .i64 q) ∧ ∃ x : Later w, w' = x.out := by
  have ht := fun b hb => hd b (trimR_sub d 48 b hb)
  have he : ∀ b ∈ eight d, IsDg b := app_dg ht (noughts_dg _)
  have hv := (vl_of (eight d) he).2
  have hle : (eight d).length = 8 := by unfold eight; rw [List.length_append, List.length_replicate]; omega
  rw [hle] at hv
  have hv' : vl (eight d) < 100000000 := hv
  refine parts_c S ⟨(Lib.trimRightB d 48).toArray⟩ ⟨(Lib.repeatL [48] (8 - (Lib.trimRightB d 48).length)).toArray⟩ (8 - (Lib.trimRightB d 48).length) ((vl (eight d) : Nat) : Int) q w (by rw [hS, ba_size]; exact hl) (by rw [hS]) (by rw [ba_size]; omega) rfl ?_ ?_ (by rw [hq]; omega) (by rw [hq]; omega) (by rw [hq]; omega)
  · rw [ba_size, repeat_48, List.length_replicate]
  · have e : (({data := #[48]} : ByteArray) ++ (⟨(Lib.trimRightB d 48).toArray⟩ : ByteArray) ++ (⟨(Lib.repeatL [48] (8 - (Lib.trimRightB d 48).length)).toArray⟩ : ByteArray)).data.toList = 48 :: eight d := by
      show ((⟨([48] : List UInt8).toArray⟩ : ByteArray) ++ (⟨(Lib.trimRightB d 48).toArray⟩ : ByteArray) ++ (⟨(Lib.repeatL [48] (8 - (Lib.trimRightB d 48).length)).toArray⟩ : ByteArray)).data.toList = _
      rw [ba_app, ba_app, repeat_48]
      show [48] ++ Lib.trimRightB d 48 ++ _ = _
      unfold eight
      simp
    rw [e]
    exact atoi_vl _ he
set_option maxRecDepth 100000 in
set_option maxHeartbeats 1000000 in
theorem parts_no1 (d : List UInt8) (S : ByteArray) (hS : S = ⟨d.toArray⟩) (hl : d.length ≤ 1000000) (h8 : 8 < (Lib.trimRightB d 48).length) (w : World) :
    Calls Tryz.prog 59 #[.string S] w fun e w' => e = .panicked [{ v := .iface 88 (.agg #[]), recovered := false }] ∧ ∃ x : Later w, w' = x.out := by
  have hs : S.size ≤ 1000000 := by rw [hS, ba_size]; exact hl
  have hc1 := fun v => Tryz.strings_TrimRight_one S 48 (by decide) v (by omega)
  obtain ⟨T, hT⟩ : ∃ T : ByteArray, T = ⟨(Lib.trimRightB S.data.toList 48).toArray⟩ := ⟨_, rfl⟩
  have hTs : 8 < T.size := by rw [hT, hS]; exact h8
  rw [← hT] at hc1
  have h3 : decide ((T.size : Int) ≤ 8) = false := by simp; omega
  have HC1 := Lib.hid hc1
  clear hc1 hT hS h8 hl
  go_enter Tryz.func59, Tryz.ntmps59
  go_wp2_with (first | (go_at_call 61; (with_reducible refine (HC1.out _).mono ?_); rintro e _ ⟨rfl, rfl⟩) | (go_at_call 54; (with_reducible refine (need_no _).mono ?_); rintro e _ ⟨rfl, y, rfl⟩))
  exact ⟨rfl, rfl, (Later.mk_of (by repeat (first | (with_reducible assumption) | (with_reducible exact Below.refl _ _) | (with_reducible refine Later.after ?_ _) | (with_reducible refine Later.newer ?_ _) | (with_reducible refine Below.drew ?_) | (with_reducible refine Below.setCell ?_ (by first | exact Nat.le_refl _ | exact Nat.le_add_right _ _ | omega | (simp [go_sem]; done) | (simp [go_sem]; omega)) _))))⟩
set_option maxRecDepth 100000 in
set_option maxHeartbeats 1000000 in
theorem parts_no2 (d : List UInt8) (S : ByteArray) (hd : ∀ b ∈ d, IsDg b) (hS : S = ⟨d.toArray⟩) (hl : d.length ≤ 1000000) (h8 : ¬ 8 < (Lib.trimRightB d 48).length) (hm : ¬ vl (eight d) % 390625 = 0) (w : World) :
    Calls Tryz.prog 59 #[.string S] w fun e w' => e = .panicked [{ v := .iface 88 (.agg #[]), recovered := false }] ∧ ∃ x : Later w, w' = x.out := by
  have ht := fun b hb => hd b (trimR_sub d 48 b hb)
  have he : ∀ b ∈ eight d, IsDg b := app_dg ht (noughts_dg _)
  have hv := (vl_of (eight d) he).2
  have hle : (eight d).length = 8 := by unfold eight; rw [List.length_append, List.length_replicate]; omega
  rw [hle] at hv
  have hv' : vl (eight d) < 100000000 := hv
  obtain ⟨k, hk⟩ : ∃ k, k = 8 - (Lib.trimRightB d 48).length := ⟨_, rfl⟩
  obtain ⟨T, hT⟩ : ∃ T : ByteArray, T = ⟨(Lib.trimRightB d 48).toArray⟩ := ⟨_, rfl⟩
  obtain ⟨Z, hZ⟩ : ∃ Z : ByteArray, Z = ⟨(Lib.repeatL [48] k).toArray⟩ := ⟨_, rfl⟩
  obtain ⟨N, hN⟩ : ∃ N : Int, N = ((vl (eight d) : Nat) : Int) := ⟨_, rfl⟩
  have hs : S.size ≤ 1000000 := by rw [hS, ba_size]; exact hl
  have hTs : T.size + k = 8 := by rw [hT, ba_size]; omega
  have hc1 : ∀ v, Calls Tryz.prog 61 #[.string S, .string ⟨#[48]⟩] v fun e w' => e = .returned (.string T) ∧ w' = v := fun v => by
    have := Tryz.strings_TrimRight_one S 48 (by decide) v (by omega)
    rw [hS] at this ⊢
    rw [hT]
    exact this
  have hc2 : ∀ v, Calls Tryz.prog 88 #[.string ⟨#[48]⟩, .int .i64 k] v fun e w' => e = .returned (.string Z) ∧ ∃ x : Later v, w' = x.out := fun v =>
    (Tryz.strings_Repeat ⟨#[48]⟩ k v (by omega) (by show 1 * k ≤ _; omega)).mono fun e w' h => ⟨by rw [h.1, hZ], Later.mk_of h.2⟩
  have hZs : Z.size = k := by rw [hZ, ba_size, repeat_48, List.length_replicate]
  have hsz : (({data := #[48]} : ByteArray) ++ T ++ Z).size ≤ 18 := by
    rw [ByteArray.size_append, ByteArray.size_append]
    show 1 + T.size + Z.size ≤ 18
    omega
  have hat : Lib.atoi (({data := #[48]} : ByteArray) ++ T ++ Z).data.toList = some N := by
    have e : (({data := #[48]} : ByteArray) ++ T ++ Z).data.toList = 48 :: eight d := by
      rw [hT, hZ]
      show ((⟨([48] : List UInt8).toArray⟩ : ByteArray) ++ (⟨(Lib.trimRightB d 48).toArray⟩ : ByteArray) ++ (⟨(Lib.repeatL [48] k).toArray⟩ : ByteArray)).data.toList = _
      rw [ba_app, ba_app, repeat_48]
      show [48] ++ Lib.trimRightB d 48 ++ _ = _
      unfold eight
      rw [hk]
      simp
    rw [e, hN]
    exact atoi_vl _ he
  have hc3 := fun v => number_c (({data := #[48]} : ByteArray) ++ T ++ Z) N hsz hat v
  have h1 : (8 : Int) - (T.size : Int) = (k : Int) := by omega
  have h2 : IntKind.i64.wrap ((8 : Int) - (T.size : Int)) = (k : Int) := by rw [IntWalk.i64_in _ (by omega)]; omega
  have h3 : decide ((T.size : Int) ≤ 8) = true := by simp; omega
  have hT8 : T.size ≤ 8 := by omega
  have hZ8 : Z.size ≤ 8 := by omega
  have r1 : ¬ N % 390625 = 0 := by omega
  have r2 : ¬ N.tmod 390625 = 0 := by rw [Int.tmod_eq_emod_of_nonneg (by omega)]; omega
  have r3 : decide (N % 390625 = 0) = false := by simp [r1]
  have r4 : decide (N.tmod 390625 = 0) = false := by simp [r2]
  have r5 : (N % 390625 == 0) = false := by simpa using r1
  have n0 : 0 ≤ N := by omega
  have n9 : N ≤ 390625000000000 := by omega
  have HC1 := Lib.hid hc1
  have HC2 := Lib.hid hc2
  have HC3 := Lib.hid hc3
  clear hc1 hc2 hc3 hT hZ hN hsz hZs hk hS hl h8 hm ht he hv hle hv' hTs hat hd
  go_enter Tryz.func59, Tryz.ntmps59
  go_wp2_with (first | (go_at_call 61; (with_reducible refine (HC1.out _).mono ?_); rintro e _ ⟨rfl, rfl⟩) | (go_at_call 88; (with_reducible refine (HC2.out _).mono ?_); rintro e _ ⟨rfl, x, rfl⟩) | (go_at_call 58; (with_reducible refine (HC3.out _).mono ?_); rintro e _ ⟨rfl, z, rfl⟩) | (go_at_call 54; (with_reducible refine (need_yes _).mono ?_); rintro e _ ⟨rfl, y, rfl⟩) | (go_at_call 54; (with_reducible refine (need_no _).mono ?_); rintro e _ ⟨rfl, y, rfl⟩))
  exact ⟨rfl, rfl, (Later.mk_of (by repeat (first | (with_reducible assumption) | (with_reducible exact Below.refl _ _) | (with_reducible refine Later.after ?_ _) | (with_reducible refine Later.newer ?_ _) | (with_reducible refine Below.drew ?_) | (with_reducible refine Below.setCell ?_ (by first | exact Nat.le_refl _ | exact Nat.le_add_right _ _ | omega | (simp [go_sem]; done) | (simp [go_sem]; omega)) _))))⟩
end Go.Proofs.YtjmagehfkcnjjaaGreatDoor

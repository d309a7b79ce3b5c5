/-
  IndexAny of the blanks, of any text.
-/
import Derived.Test.YtjmagehfkcnjjaaGreatDoorSIR
import Derived.Lib.OthersKept
namespace Go.Proofs.YtjmagehfkcnjjaaGreatDoor
set_option linter.unusedVariables false
open Go.RowKit

theorem valid_of (c : Nat) (h : c < 55296 ∨ (57344 ≤ c ∧ c ≤ 1114111)) : Utf8.valid (c : Int) = true := by
  unfold Utf8.valid
  rcases h with h | ⟨h1, h2⟩
  · have a1 : decide ((0 : Int) ≤ (c : Int)) = true := by simp
    have a2 : decide ((c : Int) < 55296) = true := by simp; omega
    rw [a1, a2]; rfl
  · have a1 : decide ((57344 : Int) ≤ (c : Int)) = true := by simp; omega
    have a2 : decide ((c : Int) ≤ 1114111) = true := by simp; omega
    rw [a1, a2]; simp
theorem valid_le (c : Nat) (h : Utf8.valid (c : Int) = true) : c ≤ 1114111 := by
  unfold Utf8.valid at h
  simp only [Bool.or_eq_true, Bool.and_eq_true, decide_eq_true_eq] at h
  omega
/-- what decoding gives where a byte from 128 on stands -/
theorem dec_hi (s : ByteArray) (pos : Nat) (hp : pos < s.size) (ha : 128 ≤ (s.get! (pos + 0)).toNat) :
    ∃ d wd, Utf8.decode s pos = (d, wd) ∧ 128 ≤ d ∧ d ≤ 1114111 ∧ Utf8.valid (d : Int) = true ∧ 1 ≤ wd ∧ pos + wd ≤ s.size ∧ ∀ k, k < wd → 128 ≤ (s.get! (pos + k)).toNat := by
  have err : ∃ d wd, (Utf8.runeError, 1) = (d, wd) ∧ 128 ≤ d ∧ d ≤ 1114111 ∧ Utf8.valid (d : Int) = true ∧ 1 ≤ wd ∧ pos + wd ≤ s.size ∧ ∀ k, k < wd → 128 ≤ (s.get! (pos + k)).toNat :=
    ⟨_, _, rfl, by decide, by decide, by decide, by decide, hp, fun k hk => by
      obtain rfl : k = 0 := Nat.lt_one_iff.1 hk
      exact ha⟩
  have hc : ∀ k, (decide (pos + k < s.size) && (s.get! (pos + k)).toNat / 64 == 2) = true → pos + k < s.size ∧ 128 ≤ (s.get! (pos + k)).toNat := fun k h => by
    simp only [Bool.and_eq_true, decide_eq_true_eq, beq_iff_eq] at h
    omega
  unfold Utf8.decode
  simp only []
  rw [if_neg (by omega)]
  split
  · rename_i c1
    rw [Bool.and_eq_true] at c1
    obtain ⟨g1, g2⟩ := hc 1 c1.2
    split
    · rename_i c2
      refine ⟨_, _, rfl, c2, by omega, valid_of _ (by omega), by decide, g1, fun k hk => ?_⟩
      rcases (show k = 0 ∨ k = 1 by omega) with rfl | rfl
      · exact ha
      · exact g2
    · exact err
  · split
    · rename_i c1
      rw [Bool.and_eq_true, Bool.and_eq_true] at c1
      obtain ⟨g1, g2⟩ := hc 1 c1.1.2
      obtain ⟨g3, g4⟩ := hc 2 c1.2
      split
      · rename_i c2
        rw [Bool.and_eq_true] at c2
        have c3 := of_decide_eq_true c2.1
        refine ⟨_, _, rfl, by omega, valid_le _ c2.2, c2.2, by decide, g3, fun k hk => ?_⟩
        rcases (show k = 0 ∨ k = 1 ∨ k = 2 by omega) with rfl | rfl | rfl
        · exact ha
        · exact g2
        · exact g4
      · exact err
    · split
      · rename_i c1
        rw [Bool.and_eq_true, Bool.and_eq_true, Bool.and_eq_true] at c1
        obtain ⟨g1, g2⟩ := hc 1 c1.1.1.2
        obtain ⟨g3, g4⟩ := hc 2 c1.1.2
        obtain ⟨g5, g6⟩ := hc 3 c1.2
        split
        · rename_i c2
          rw [Bool.and_eq_true] at c2
          have c3 := of_decide_eq_true c2.1
          refine ⟨_, _, rfl, by omega, valid_le _ c2.2, c2.2, by decide, g5, fun k hk => ?_⟩
          rcases (show k = 0 ∨ k = 1 ∨ k = 2 ∨ k = 3 by omega) with rfl | rfl | rfl | rfl
          · exact ha
          · exact g2
          · exact g4
          · exact g6
        · exact err
      · exact err
theorem irune_hi (d : Nat) (h1 : 128 ≤ d) (h9 : d ≤ 1114111) (hv : Utf8.valid (d : Int) = true) (w : World) : Calls Tryz.prog 96 #[.string ⟨#[9, 10, 13, 32, 44]⟩, .int .i32 (d : Int)] w fun e w' => e = .returned (.int .i64 (-1)) ∧ ∃ x : Later w, w' = x.out := by
  by_cases h : d = 65533
  · subst h; exact irune_err w
  · refine irune_no (d : Int) (by omega) (by omega) hv ?_ (by omega) ⟨#[9, 10, 13, 32, 44]⟩ rfl bl_all w
    have e := hv
    unfold Utf8.valid at e
    unfold Lib.validRune
    simp only [Bool.or_eq_true, Bool.and_eq_true, decide_eq_true_eq] at e ⊢
    omega
theorem noany_add {s chars : List UInt8} {i : Nat} (h : Lib.NoAny s chars i) : ∀ wd, (∀ k, k < wd → ∃ x, s[i + k]? = some x ∧ chars.contains x = false) → Lib.NoAny s chars (i + wd) := by
  intro wd
  induction wd with
  | zero => intro _; exact h
  | succ wd ih =>
    intro hk
    obtain ⟨x, h1, h2⟩ := hk wd (Nat.lt_succ_self _)
    exact (ih (fun k h => hk k (Nat.lt_succ_of_lt h))).succ h1 h2
theorem hi_not (x : UInt8) (h : 128 ≤ x.toNat) : blks.contains x = false := by
  unfold blks
  simp only [List.contains_eq_mem, List.mem_cons, List.not_mem_nil, or_false, decide_eq_false_iff_not]
  rintro (rfl | rfl | rfl | rfl | rfl) <;> exact absurd h (by decide)
theorem get_list (s : ByteArray) (i : Nat) (h : i < s.size) : s.data.toList[i]? = some (s.get! (i + 0)) := by
  rw [get_at s i h]
  exact Lib.data_getElem? s i h
theorem iter_pos {W : World} {k i : Nat} {s : ByteArray} (h : W.heap[k]? = some (.stringIter s i)) : W.iterPos k = i := by unfold World.iterPos; rw [h]
set_option maxRecDepth 100000 in
set_option maxHeartbeats 2000000 in
theorem iany_short (s : ByteArray) (h8 : s.size ≤ 8) (w : World) : Calls Tryz.prog 70 #[.string s, .string ⟨#[9, 10, 13, 32, 44]⟩] w fun e w' => e = .returned (.int .i64 (Lib.indexAny s.data.toList blks)) ∧ ∃ x : Later w, w' = x.out := by
  have h8z : decide ((8 : Int) < (s.size : Int)) = false := decide_eq_false (by omega)
  go_enter Tryz.func70, Tryz.ntmps70
  go_wp2_with (go_at_call 97; refine (Tryz.strings_shouldUseASCIISet _ _).mono ?_; rintro e w' ⟨rfl, hw⟩; rw [hw, h8z])
  go_loopw [9, 10] (fun _ _ wx => ∃ i : Nat, i ≤ s.size ∧ wx.heap[w.heap.size]? = some (.stringIter s i) ∧ Below w.heap.size w wx ∧ Lib.NoAny s.data.toList blks i) (fun _ _ wx => s.size - wx.iterPos w.heap.size)
  case atStart => exact ⟨0, Nat.zero_le _, World.iter_heap _ _ _, (Below.refl _ w).alloc (Nat.le_refl _) _, Lib.NoAny.zero _ _⟩
  case round =>
    obtain ⟨i, hil, hk, hbw, hno⟩ := hrel
    have HN := Lib.hid hno
    have HK := Lib.hid hk
    have HBW := Lib.hid hbw
    have lk := (Array.getElem?_eq_some_iff.1 hk).1
    have ep := iter_pos hk
    have EP := Lib.hid ep
    clear hno hbw ep
    by_cases hi : i < s.size
    · by_cases ha : (s.get! (i + 0)).toNat < 128
      · obtain ⟨x, hx⟩ : ∃ x : UInt8, s[i]'hi = x := ⟨_, rfl⟩
        have hxl : s.data.toList[i]? = some x := by rw [← hx]; exact Lib.data_getElem? s i hi
        have hx128 : x.toNat < 128 := by rw [get_at s i hi, hx] at ha; exact ha
        have hnx := fun ty => Lib.run_next_ascii_at (P := Tryz.prog) wr w.heap.size s i ty hk hi (by rw [hx]; exact hx128)
        rw [hx] at hnx
        have Hx := Lib.hid hxl
        have hk2 := Lib.iterAt_heap wr w.heap.size s i (i + 1) hk
        have HK2 := Lib.hid hk2
        have HB2 := Lib.hid (Lib.below_iterAt HBW.out (Nat.le_refl _) s (i + 1))
        clear hxl hx ha hk hk2
        have hcon := Lib.contains_iff_indexByte blks x
        have hback : ((x.toNat : Int)).toNat.toUInt8 = x := by simp
        have hra := fun v => Tryz.strings_IndexRune_ascii ⟨#[9, 10, 13, 32, 44]⟩ (x.toNat : Int) v (by omega) (by omega)
        rw [hback] at hra
        have hra2 : ∀ v, Calls Tryz.prog 96 #[.string ⟨#[9, 10, 13, 32, 44]⟩, .int .i32 (x.toNat : Int)] v fun e w' => e = .returned (.int .i64 (Lib.indexByte blks x)) ∧ w' = v := hra
        have HRA := Lib.hid hra2
        clear hra hra2 hback
        generalize wr.iterAt w.heap.size s (i + 1) = W2 at *
        cases hin : blks.contains x
        · rw [hin] at hcon
          have hlt : ¬ ((0 : Int) ≤ Lib.indexByte blks x) := of_decide_eq_false hcon.symm
          have HI := Lib.hid hin
          clear hcon hin
          go_wp2_with (go_at_call 96; refine (HRA.out _).mono ?_; rintro e w' ⟨rfl, hw⟩; rw [hw])
          go_roundw
          case rel => exact ⟨i + 1, by omega, HK2.out, HB2.out, HN.out.succ Hx.out HI.out⟩
          case measure => rw [iter_pos HK2.out, EP.out]; omega
        · rw [hin] at hcon
          have hge : (0 : Int) ≤ Lib.indexByte blks x := of_decide_eq_true hcon.symm
          have hit := Lib.indexAny_hit HN.out Hx.out hin
          have HIT := Lib.hid hit
          have hb2 := HB2.out
          clear hcon hin hit
          go_wp2_with (go_at_call 96; refine (HRA.out _).mono ?_; rintro e w' ⟨rfl, hw⟩; rw [hw])
          exact bodyPost_ret (v := .int .i64 (i : Int)) (by simp [results, Tryz.results70, go_sem, *]) rfl ⟨by rw [HIT.out], (Later.mk_of (by repeat (first | (with_reducible assumption) | (with_reducible exact Below.refl _ _) | (with_reducible refine Later.after ?_ _) | (with_reducible refine Later.newer ?_ _) | (with_reducible refine Below.drew ?_) | (with_reducible refine Below.setCell ?_ (by first | exact Nat.le_refl _ | exact Nat.le_add_right _ _ | omega | (simp [go_sem]; done) | (simp [go_sem]; omega)) _))))⟩
      · obtain ⟨d, wd, hde, d1, d9, dv, w1, w2, w3⟩ := dec_hi s i hi (by omega)
        have hnx := fun ty => Lib.run_next_any_at (P := Tryz.prog) wr w.heap.size s i ty hk hi
        rw [hde] at hnx
        simp only [] at hnx
        have hk2 := Lib.iterAt_heap wr w.heap.size s i (i + wd) hk
        have HK2 := Lib.hid hk2
        have HB2 := Lib.hid (Lib.below_iterAt HBW.out (Nat.le_refl _) s (i + wd))
        have hir := irune_hi d d1 d9 dv
        have HIR := Lib.hid hir
        have HW3 := Lib.hid w3
        clear hir hde w3 hk hk2
        generalize wr.iterAt w.heap.size s (i + wd) = W2 at *
        go_wp2_with (go_at_call 96; refine (HIR.out _).mono ?_; rintro e _ ⟨rfl, x, rfl⟩)
        have hk3 := (x.below.block w.heap.size (Array.getElem?_eq_some_iff.1 HK2.out).1).trans HK2.out
        go_roundw
        case rel => exact ⟨i + wd, w2, hk3, Later.after HB2.out x, noany_add HN.out wd fun k hkw => ⟨_, get_list s (i + k) (by omega), hi_not _ (HW3.out k hkw)⟩⟩
        case measure => rw [iter_pos hk3, EP.out]; omega
    · obtain rfl : i = s.size := by omega
      have hnx := fun ty => Lib.run_next_end_at (P := Tryz.prog) wr w.heap.size s s.size ty hk (by omega)
      have hnone := Lib.indexAny_none (s := s.data.toList) (chars := blks) (by rw [← Lib.size_eq]; exact HN.out)
      have HNO := Lib.hid hnone
      have hb2 := HBW.out
      clear hnone hk
      go_wp2_with (fail)
      exact bodyPost_ret (v := .int .i64 (-1)) (by simp [results, Tryz.results70, go_sem, *]) rfl ⟨by rw [HNO.out], (Later.mk_of (by repeat (first | (with_reducible assumption) | (with_reducible exact Below.refl _ _) | (with_reducible refine Later.after ?_ _) | (with_reducible refine Later.newer ?_ _) | (with_reducible refine Below.drew ?_) | (with_reducible refine Below.setCell ?_ (by first | exact Nat.le_refl _ | exact Nat.le_add_right _ _ | omega | (simp [go_sem]; done) | (simp [go_sem]; omega)) _))))⟩
/-- IndexAny of the blanks, of any text -/
theorem iany_all (l : List UInt8) (hl : l.length ≤ 1100000) : IAny l := fun k v hk => by
  by_cases h8 : (l.drop k).length ≤ 8
  · exact iany_short ⟨(l.drop k).toArray⟩ (by rw [ba_size]; exact h8) v
  · refine (Tryz.strings_IndexAny_long (zero_of_info (n := 256) (by kernel_rfl)).1 ⟨(l.drop k).toArray⟩ ⟨#[9, 10, 13, 32, 44]⟩ v (by decide) (by rw [ba_size]; omega) (by rw [ba_size, List.length_drop]; omega) (by decide) (fun j b hb => blks_low b (List.mem_of_getElem? hb))).mono fun e w' hh => ⟨hh.1, ?_⟩
    rw [hh.2]; exact Later.mk_of (((Below.refl _ v).alloc (Nat.le_refl _) _).alloc (by simp) _)
end Go.Proofs.YtjmagehfkcnjjaaGreatDoor

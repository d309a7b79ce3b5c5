/-
  IndexRune, of a rune that is no ASCII byte, in the blanks: it is not there.
-/
import Derived.Test.YtjmagehfkcnjjaaGreatDoorSI
import Derived.Laws.RangeAny
import Derived.Scope
import Derived.WalkMore
import Derived.Laws.Runes
import Derived.Laws.RangeString
namespace Go.Proofs.YtjmagehfkcnjjaaGreatDoor
set_option linter.unusedVariables false
open Go.RowKit

theorem ixr (l : List UInt8) (k : Nat) (b : UInt8) (h : l[k]? = some b) (W : World) : (Instr.index 9 (.string ⟨l.toArray⟩) (.int .i64 (k : Int))).run Tryz.prog W = .ok (.int .u8 (b.toNat : Int)) W := by
  obtain ⟨hk, e⟩ := List.getElem?_eq_some_iff.1 h
  rw [run_index_string W 9 _ .i64 _ Tryz.underlying9]
  have hk2 : (k : Int) < ((⟨l.toArray⟩ : ByteArray).size : Int) := by rw [ba_size]; omega
  rw [dif_pos ⟨by omega, hk2⟩]
  have e2 : ((⟨l.toArray⟩ : ByteArray)[(k : Int).toNat]'(by omega)) = b := by
    show l.toArray[(k : Int).toNat] = b
    simp [e]
  rw [e2]
theorem ib_no (s : ByteArray) (c : UInt8) (hs : ∀ b ∈ s.data.toList, b.toNat < 128) (hc : 128 ≤ c.toNat) (w : World) : Calls Tryz.prog 117 #[.string s, .int .u8 (c.toNat : Int)] w fun e w' => e = .returned (.int .i64 (-1)) ∧ ∃ x : Later w, w' = x.out := by
  have h := Tryz.strings_IndexByte s (c.toNat : Int) w
  have e : ((c.toNat : Int)).toNat.toUInt8 = c := by simp
  rw [e] at h
  have h1 := Lib.contains_iff_indexByte s.data.toList c
  have h2 : s.data.toList.contains c = false := by
    rw [List.contains_eq_mem]
    simp only [decide_eq_false_iff_not]
    intro k
    have := hs c k
    omega
  have h3 := Lib.indexByte_ge s.data.toList c
  have h4 : Lib.indexByte s.data.toList c = -1 := by
    rw [h2] at h1
    have := of_decide_eq_false h1.symm
    omega
  rw [h4] at h
  exact h.mono fun e w' ⟨k1, k2⟩ => ⟨k1, by rw [k2]; exact Later.mk_of (Below.refl _ _)⟩
theorem ext_low (s : ByteArray) (a b : Nat) (hs : ∀ b ∈ s.data.toList, b.toNat < 128) : ∀ x ∈ (s.extract a b).data.toList, x.toNat < 128 := by
  intro x hx
  rw [ByteArray.data_extract] at hx
  rw [Array.toList_extract] at hx
  exact hs x (List.mem_of_mem_drop (List.mem_of_mem_take hx))
theorem bl_low : ∀ (i : Nat) (hi : i < 5), ([9, 10, 13, 32, 44] : List UInt8)[i].toNat < 128 := by decide
theorem bl_all : ∀ b ∈ (⟨#[9, 10, 13, 32, 44]⟩ : ByteArray).data.toList, b.toNat < 128 := by decide
theorem ba_back (B : ByteArray) : (⟨B.data.toList.toArray⟩ : ByteArray) = B := by apply ByteArray.ext; simp
theorem enc_facts (r : Int) (h1 : 128 ≤ r) (hv : Utf8.valid r = true) : ∃ (m : Nat) (c : UInt8), (m = 1 ∨ m = 2 ∨ m = 3) ∧ (Utf8.encode r).size = m + 1 ∧ (Utf8.encode r).data.toList[m]? = some c ∧ 128 ≤ c.toNat := by
  have hb : ∀ x : Nat, 128 ≤ (UInt8.ofNat (0x80 + x % 64)).toNat := fun x => by
    rw [UInt8.toNat_ofNat']
    omega
  unfold Utf8.encode
  rw [if_pos hv]
  simp only []
  rw [if_neg (by omega)]
  split
  · exact ⟨1, _, .inl rfl, rfl, rfl, hb _⟩
  · split
    · exact ⟨2, _, .inr (.inl rfl), rfl, rfl, hb _⟩
    · exact ⟨3, _, .inr (.inr rfl), rfl, rfl, hb _⟩
set_option maxRecDepth 100000 in
set_option maxHeartbeats 2000000 in
theorem irune_err (w : World) : Calls Tryz.prog 96 #[.string ⟨#[9, 10, 13, 32, 44]⟩, .int .i32 65533] w fun e w' => e = .returned (.int .i64 (-1)) ∧ ∃ x : Later w, w' = x.out := by
  go_enter Tryz.func96, Tryz.ntmps96
  go_wp2_with (fail)
  go_loopg [5, 6] 5 (fun g _ _ wx => ∃ i : Nat, i + g = 5 ∧ wx = w.iter ⟨#[9, 10, 13, 32, 44]⟩ i)
  case atStart => exact ⟨0, rfl, rfl⟩
  case round =>
    obtain ⟨i, hig, rfl⟩ := hrel
    cases gk with
    | zero =>
      obtain rfl : i = 5 := by omega
      have hnx := fun ty => run_next_end (P := Tryz.prog) w ⟨#[9, 10, 13, 32, 44]⟩ 5 ty (by decide)
      go_wp2
      exact bodyPost_ret (v := .int .i64 (-1)) (by simp [results, Tryz.results96, go_sem, *]) rfl ⟨rfl, Later.mk_of ((Below.refl _ w).alloc (Nat.le_refl _) _)⟩
    | succ g =>
      have hi : i < (⟨#[9, 10, 13, 32, 44]⟩ : ByteArray).size := by show i < 5; omega
      have ha : ((⟨#[9, 10, 13, 32, 44]⟩ : ByteArray)[i]'hi).toNat < 128 := bl_low i hi
      have hnx := fun ty => run_next_ascii (P := Tryz.prog) w ⟨#[9, 10, 13, 32, 44]⟩ i ty hi ha
      generalize ((⟨#[9, 10, 13, 32, 44]⟩ : ByteArray)[i]'hi).toNat = c at *
      have hc : ((c : Int) == 65533) = false := by simp; omega
      have hc2 : (c : Int) ≤ 127 := by omega
      go_wp2
      go_roundg g
      case measure => omega
      case rel => exact ⟨i + 1, by omega, rfl⟩
set_option maxRecDepth 100000 in
set_option maxHeartbeats 2000000 in
theorem irune_no (r : Int) (h1 : 128 ≤ r) (h9 : r ≤ 1114111) (hv : Utf8.valid r = true) (hv2 : Lib.validRune r = true) (hr : r ≠ 65533) (B : ByteArray) (hB5 : B.size = 5) (hlo : ∀ b ∈ B.data.toList, b.toNat < 128) (w : World) : Calls Tryz.prog 96 #[.string B, .int .i32 r] w fun e w' => e = .returned (.int .i64 (-1)) ∧ ∃ x : Later w, w' = x.out := by
  have HBL : Hid (B.data.toList.length = 5) := Lib.hid (by rw [Array.length_toList]; exact hB5)
  have HLO := Lib.hid hlo
  clear hlo
  obtain ⟨m, c, hm, hsz, hc, h128⟩ := enc_facts r h1 hv
  obtain ⟨RS, hRS⟩ : ∃ RS, Utf8.encode r = RS := ⟨_, rfl⟩
  rw [hRS] at hsz hc
  have d1 : decide (0 ≤ r) = true := by simp; omega
  have d2 : decide (r < 128) = false := by simp; omega
  have d3 : (r == 65533) = false := by simpa using hr
  have HSZ := Lib.hid hsz
  have HC := Lib.hid hc
  clear hsz hc hr hv
  go_enter Tryz.func96, Tryz.ntmps96
  go_upto_region 6 with (go_at_call 118; refine (Tryz.utf8_ValidRune _ _).mono ?_; rintro e w1 ⟨rfl, hw1⟩; rw [hw1, hv2])
  refine wp_scope_straight ?_
  rcases hm with rfl | rfl | rfl
  · obtain ⟨b, hb⟩ : ∃ b, B.data.toList[1]? = some b := ⟨_, List.getElem?_eq_getElem (by rw [HBL.out]; decide)⟩
    have hb128 := HLO.out b (List.mem_of_getElem? hb)
    have hi1 : ∀ W : World, (Instr.index 9 (.string B) (.int .i64 1)).run Tryz.prog W = .ok (.int .u8 (b.toNat : Int)) W := fun W => by
      have h := ixr B.data.toList 1 b hb W
      rw [ba_back B] at h
      exact h
    have hi2 : ∀ W : World, (Instr.index 9 (.string RS) (.int .i64 1)).run Tryz.prog W = .ok (.int .u8 (c.toNat : Int)) W := fun W => by
      have h := ixr RS.data.toList 1 c HC.out W
      rw [ba_back RS] at h
      exact h
    have hs2 : RS.size = 2 := HSZ.out
    have hne : ((b.toNat : Int) != (c.toNat : Int)) = true := by simp; omega
    clear hb
    go_wp2_with (fail)
    go_loopw [9] (fun u wr => u = .int .i64 1 ∧ wr = w) (fun _ _ => 1)
    case atStart => exact ⟨rfl, rfl⟩
    case round =>
      obtain ⟨rfl, rfl⟩ := hrel
      go_wp2_with (fail)
      refine wp_scope_straight ?_
      go_upto_region 6 with (fail)
      refine wp_region_later (by kernel_rfl) (by kernel_rfl) ?_
      repeat (go_big_quiet_step ((first | fail)))
      refine wpQuiet_nil ?_
      intro x
      go_wp2_with (fail)
      refine wp_region_later (by kernel_rfl) (by kernel_rfl) ?_
      repeat (go_big_quiet_step ((first | (go_at_call 117; with_reducible exact Later.call _ (ib_no _ _ (ext_low _ _ _ HLO.out) h128 _)))))
      refine wpQuiet_nil ?_
      intro x
      go_wp2_with (fail)
      simp +zetaDelta only [go_sem]
      exact bodyPost_ret (v := .int .i64 (-1)) (by simp [results, Tryz.results96, go_sem, *]) rfl ⟨rfl, (Later.mk_of (by repeat (first | (with_reducible assumption) | (with_reducible exact Below.refl _ _) | (with_reducible refine Later.after ?_ _) | (with_reducible refine Later.newer ?_ _) | (with_reducible refine Below.drew ?_) | (with_reducible refine Below.setCell ?_ (by first | exact Nat.le_refl _ | exact Nat.le_add_right _ _ | omega | (simp [go_sem]; done) | (simp [go_sem]; omega)) _))))⟩
  · obtain ⟨b, hb⟩ : ∃ b, B.data.toList[2]? = some b := ⟨_, List.getElem?_eq_getElem (by rw [HBL.out]; decide)⟩
    have hb128 := HLO.out b (List.mem_of_getElem? hb)
    have hi1 : ∀ W : World, (Instr.index 9 (.string B) (.int .i64 2)).run Tryz.prog W = .ok (.int .u8 (b.toNat : Int)) W := fun W => by
      have h := ixr B.data.toList 2 b hb W
      rw [ba_back B] at h
      exact h
    have hi2 : ∀ W : World, (Instr.index 9 (.string RS) (.int .i64 2)).run Tryz.prog W = .ok (.int .u8 (c.toNat : Int)) W := fun W => by
      have h := ixr RS.data.toList 2 c HC.out W
      rw [ba_back RS] at h
      exact h
    have hs2 : RS.size = 3 := HSZ.out
    have hne : ((b.toNat : Int) != (c.toNat : Int)) = true := by simp; omega
    clear hb
    go_wp2_with (fail)
    go_loopw [9] (fun u wr => u = .int .i64 2 ∧ wr = w) (fun _ _ => 1)
    case atStart => exact ⟨rfl, rfl⟩
    case round =>
      obtain ⟨rfl, rfl⟩ := hrel
      go_wp2_with (fail)
      refine wp_scope_straight ?_
      go_upto_region 6 with (fail)
      refine wp_region_later (by kernel_rfl) (by kernel_rfl) ?_
      repeat (go_big_quiet_step ((first | fail)))
      refine wpQuiet_nil ?_
      intro x
      go_wp2_with (fail)
      refine wp_region_later (by kernel_rfl) (by kernel_rfl) ?_
      repeat (go_big_quiet_step ((first | (go_at_call 117; with_reducible exact Later.call _ (ib_no _ _ (ext_low _ _ _ HLO.out) h128 _)))))
      refine wpQuiet_nil ?_
      intro x
      go_wp2_with (fail)
      simp +zetaDelta only [go_sem]
      exact bodyPost_ret (v := .int .i64 (-1)) (by simp [results, Tryz.results96, go_sem, *]) rfl ⟨rfl, (Later.mk_of (by repeat (first | (with_reducible assumption) | (with_reducible exact Below.refl _ _) | (with_reducible refine Later.after ?_ _) | (with_reducible refine Later.newer ?_ _) | (with_reducible refine Below.drew ?_) | (with_reducible refine Below.setCell ?_ (by first | exact Nat.le_refl _ | exact Nat.le_add_right _ _ | omega | (simp [go_sem]; done) | (simp [go_sem]; omega)) _))))⟩
  · obtain ⟨b, hb⟩ : ∃ b, B.data.toList[3]? = some b := ⟨_, List.getElem?_eq_getElem (by rw [HBL.out]; decide)⟩
    have hb128 := HLO.out b (List.mem_of_getElem? hb)
    have hi1 : ∀ W : World, (Instr.index 9 (.string B) (.int .i64 3)).run Tryz.prog W = .ok (.int .u8 (b.toNat : Int)) W := fun W => by
      have h := ixr B.data.toList 3 b hb W
      rw [ba_back B] at h
      exact h
    have hi2 : ∀ W : World, (Instr.index 9 (.string RS) (.int .i64 3)).run Tryz.prog W = .ok (.int .u8 (c.toNat : Int)) W := fun W => by
      have h := ixr RS.data.toList 3 c HC.out W
      rw [ba_back RS] at h
      exact h
    have hs2 : RS.size = 4 := HSZ.out
    have hne : ((b.toNat : Int) != (c.toNat : Int)) = true := by simp; omega
    clear hb
    go_wp2_with (fail)
    go_loopw [9] (fun u wr => u = .int .i64 3 ∧ wr = w) (fun _ _ => 1)
    case atStart => exact ⟨rfl, rfl⟩
    case round =>
      obtain ⟨rfl, rfl⟩ := hrel
      go_wp2_with (fail)
      refine wp_scope_straight ?_
      go_upto_region 6 with (fail)
      refine wp_region_later (by kernel_rfl) (by kernel_rfl) ?_
      repeat (go_big_quiet_step ((first | fail)))
      refine wpQuiet_nil ?_
      intro x
      go_wp2_with (fail)
      refine wp_region_later (by kernel_rfl) (by kernel_rfl) ?_
      repeat (go_big_quiet_step ((first | (go_at_call 117; with_reducible exact Later.call _ (ib_no _ _ (ext_low _ _ _ HLO.out) h128 _)))))
      refine wpQuiet_nil ?_
      intro x
      go_wp2_with (fail)
      simp +zetaDelta only [go_sem]
      exact bodyPost_ret (v := .int .i64 (-1)) (by simp [results, Tryz.results96, go_sem, *]) rfl ⟨rfl, (Later.mk_of (by repeat (first | (with_reducible assumption) | (with_reducible exact Below.refl _ _) | (with_reducible refine Later.after ?_ _) | (with_reducible refine Later.newer ?_ _) | (with_reducible refine Below.drew ?_) | (with_reducible refine Below.setCell ?_ (by first | exact Nat.le_refl _ | exact Nat.le_add_right _ _ | omega | (simp [go_sem]; done) | (simp [go_sem]; omega)) _))))⟩
end Go.Proofs.YtjmagehfkcnjjaaGreatDoor

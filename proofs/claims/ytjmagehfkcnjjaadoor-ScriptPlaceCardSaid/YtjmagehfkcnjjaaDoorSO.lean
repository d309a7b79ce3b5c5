/-
  The parser of words: a word, way by way.
-/
import Derived.Test.YtjmagehfkcnjjaaDoorSN
import Derived.Lib.IndexBytes
namespace Go.Proofs.YtjmagehfkcnjjaaDoor
set_option linter.unusedVariables false
open Go.RowKit

def lets : List UInt8 := [77, 76, 81, 67, 90]
theorem idx_one (b : UInt8) : Lib.index lets [b] + 1 = (vrb [b] : Int) := by
  have key : ∀ n : Fin 256, Lib.index lets [UInt8.ofNat n.val] + 1 = (vrb [UInt8.ofNat n.val] : Int) := by decide +kernel
  have := key ⟨b.toNat, UInt8.toNat_lt b⟩
  simpa using this
theorem vrb_long (l : List UInt8) (h : l.length ≠ 1) : vrb l = 0 := by
  unfold vrb
  repeat (rw [if_neg (by intro e; rw [e] at h; exact h rfl)])
theorem vrb_le (l : List UInt8) : vrb l ≤ 5 := by unfold vrb; repeat (first | split | omega)
set_option maxRecDepth 100000 in
set_option maxHeartbeats 1000000 in
theorem word_A (t : Nat) (vv pv : Value) (now left x J I : Int) (S : ByteArray) (b : Bool) (w : World) (hb : Blk w t 67 #[vv, pv, .int .i64 now, .int .i64 left, .int .i64 x]) (hJ : I + 1 = J) (J0 : 0 ≤ J) (J9 : J ≤ 6)
    (hIX : Calls Tryd.prog 64 #[.string ⟨#[77, 76, 81, 67, 90]⟩, .string S] w fun e w' => e = .returned (.int .i64 I) ∧ w' = w) (R : World → Prop) (hl : 0 < left) (cN : Calls Tryd.prog 66 #[.pointer (some ⟨t, 0, none⟩), .string S] w fun e w' => e = .returned (.bool b) ∧ R w') :
    Calls Tryd.prog 39 #[.pointer (some ⟨t, 0, none⟩), .string S] w fun e w' => e = .returned (.bool b) ∧ R w' := by
  obtain ⟨c0, z0, l0⟩ := hb.all
  have HIX := Lib.hid hIX
  clear hIX hb
  have HCN := Lib.hid cN
  clear cN
  have d1 : decide (0 < left) = true := by simp [hl]
  go_enter Tryd.func39, Tryd.ntmps39
  go_wp2_with (first | (go_at_call 64; (with_reducible refine (HIX.out).mono ?_); rintro e _ ⟨rfl, rfl⟩) | (go_at_call 66; (with_reducible refine (HCN.out).mono ?_); rintro e W9 ⟨rfl, hR⟩))
  exact bodyPost_ret (v := .bool b) (by simp [results, Tryd.results39, go_sem, *]) rfl ⟨rfl, hR⟩

set_option maxRecDepth 100000 in
set_option maxHeartbeats 1000000 in
theorem word_B (t : Nat) (vv pv : Value) (now left x J I : Int) (S : ByteArray) (b : Bool) (w : World) (hb : Blk w t 67 #[vv, pv, .int .i64 now, .int .i64 left, .int .i64 x]) (hJ : I + 1 = J) (J0 : 0 ≤ J) (J9 : J ≤ 6)
    (hIX : Calls Tryd.prog 64 #[.string ⟨#[77, 76, 81, 67, 90]⟩, .string S] w fun e w' => e = .returned (.int .i64 I) ∧ w' = w) (R : World → Prop) (hl : left = 0) (hS : S.size = 1) (hJ1 : 0 < J) (cB : Calls Tryd.prog 65 #[.pointer (some ⟨t, 0, none⟩), .int .i64 J] w fun e w' => e = .returned (.tuple #[]) ∧ R w') :
    Calls Tryd.prog 39 #[.pointer (some ⟨t, 0, none⟩), .string S] w fun e w' => e = .returned (.bool true) ∧ R w' := by
  obtain ⟨c0, z0, l0⟩ := hb.all
  have HIX := Lib.hid hIX
  clear hIX hb
  have HCB := Lib.hid cB
  clear cB
  subst hl
  have d2 : decide (0 < J) = true := by simp [hJ1]
  have d3 : ((S.size : Int) == 1) = true := by rw [hS]; rfl
  clear hS
  go_enter Tryd.func39, Tryd.ntmps39
  go_wp2_with (first | (go_at_call 64; (with_reducible refine (HIX.out).mono ?_); rintro e _ ⟨rfl, rfl⟩) | (go_at_call 65; (with_reducible refine (HCB.out).mono ?_); rintro e W8 ⟨rfl, hR1⟩; have HR1 := Lib.hid hR1; clear hR1 c0 z0 l0))
  exact bodyPost_ret (v := .bool true) (by simp [results, Tryd.results39, go_sem, *]) rfl ⟨rfl, HR1.out⟩

set_option maxRecDepth 100000 in
set_option maxHeartbeats 1000000 in
theorem word_C01 (t : Nat) (vv pv : Value) (now left x J I : Int) (S : ByteArray) (b : Bool) (w : World) (hb : Blk w t 67 #[vv, pv, .int .i64 now, .int .i64 left, .int .i64 x]) (hJ : I + 1 = J) (J0 : 0 ≤ J) (J9 : J ≤ 6)
    (hIX : Calls Tryd.prog 64 #[.string ⟨#[77, 76, 81, 67, 90]⟩, .string S] w fun e w' => e = .returned (.int .i64 I) ∧ w' = w) (hl : left = 0) (hS : S.size ≠ 1) (hn : now = 0) :
    Calls Tryd.prog 39 #[.pointer (some ⟨t, 0, none⟩), .string S] w fun e w' => e = .returned (.bool false) ∧ w' = w := by
  obtain ⟨c0, z0, l0⟩ := hb.all
  have HIX := Lib.hid hIX
  clear hIX hb
  subst hl
  have d3 : ((S.size : Int) == 1) = false := by simp; omega
  have d4 : decide ((S.size : Int) = 1) = false := by simp; omega
  clear hS
  subst hn
  go_enter Tryd.func39, Tryd.ntmps39
  go_wp2_with (first | (go_at_call 64; (with_reducible refine (HIX.out).mono ?_); rintro e _ ⟨rfl, rfl⟩))
  exact bodyPost_ret (v := .bool false) (by simp [results, Tryd.results39, go_sem, *]) rfl ⟨rfl, rfl⟩
set_option maxRecDepth 100000 in
set_option maxHeartbeats 1000000 in
theorem word_C02 (t : Nat) (vv pv : Value) (now left x J I : Int) (S : ByteArray) (b : Bool) (w : World) (hb : Blk w t 67 #[vv, pv, .int .i64 now, .int .i64 left, .int .i64 x]) (hJ : I + 1 = J) (J0 : 0 ≤ J) (J9 : J ≤ 6)
    (hIX : Calls Tryd.prog 64 #[.string ⟨#[77, 76, 81, 67, 90]⟩, .string S] w fun e w' => e = .returned (.int .i64 I) ∧ w' = w) (hl : left = 0) (hS : S.size = 1) (hJ1 : J = 0) (hn : now = 0) :
    Calls Tryd.prog 39 #[.pointer (some ⟨t, 0, none⟩), .string S] w fun e w' => e = .returned (.bool false) ∧ w' = w := by
  obtain ⟨c0, z0, l0⟩ := hb.all
  have HIX := Lib.hid hIX
  clear hIX hb
  subst hl
  subst hJ1
  have d3 : ((S.size : Int) == 1) = true := by rw [hS]; rfl
  clear hS
  subst hn
  go_enter Tryd.func39, Tryd.ntmps39
  go_wp2_with (first | (go_at_call 64; (with_reducible refine (HIX.out).mono ?_); rintro e _ ⟨rfl, rfl⟩))
  exact bodyPost_ret (v := .bool false) (by simp [results, Tryd.results39, go_sem, *]) rfl ⟨rfl, rfl⟩
set_option maxRecDepth 100000 in
set_option maxHeartbeats 1000000 in
theorem word_C51 (t : Nat) (vv pv : Value) (now left x J I : Int) (S : ByteArray) (b : Bool) (w : World) (hb : Blk w t 67 #[vv, pv, .int .i64 now, .int .i64 left, .int .i64 x]) (hJ : I + 1 = J) (J0 : 0 ≤ J) (J9 : J ≤ 6)
    (hIX : Calls Tryd.prog 64 #[.string ⟨#[77, 76, 81, 67, 90]⟩, .string S] w fun e w' => e = .returned (.int .i64 I) ∧ w' = w) (hl : left = 0) (hS : S.size ≠ 1) (hn : now = 5) :
    Calls Tryd.prog 39 #[.pointer (some ⟨t, 0, none⟩), .string S] w fun e w' => e = .returned (.bool false) ∧ w' = w := by
  obtain ⟨c0, z0, l0⟩ := hb.all
  have HIX := Lib.hid hIX
  clear hIX hb
  subst hl
  have d3 : ((S.size : Int) == 1) = false := by simp; omega
  have d4 : decide ((S.size : Int) = 1) = false := by simp; omega
  clear hS
  subst hn
  go_enter Tryd.func39, Tryd.ntmps39
  go_wp2_with (first | (go_at_call 64; (with_reducible refine (HIX.out).mono ?_); rintro e _ ⟨rfl, rfl⟩))
  exact bodyPost_ret (v := .bool false) (by simp [results, Tryd.results39, go_sem, *]) rfl ⟨rfl, rfl⟩
set_option maxRecDepth 100000 in
set_option maxHeartbeats 1000000 in
theorem word_C52 (t : Nat) (vv pv : Value) (now left x J I : Int) (S : ByteArray) (b : Bool) (w : World) (hb : Blk w t 67 #[vv, pv, .int .i64 now, .int .i64 left, .int .i64 x]) (hJ : I + 1 = J) (J0 : 0 ≤ J) (J9 : J ≤ 6)
    (hIX : Calls Tryd.prog 64 #[.string ⟨#[77, 76, 81, 67, 90]⟩, .string S] w fun e w' => e = .returned (.int .i64 I) ∧ w' = w) (hl : left = 0) (hS : S.size = 1) (hJ1 : J = 0) (hn : now = 5) :
    Calls Tryd.prog 39 #[.pointer (some ⟨t, 0, none⟩), .string S] w fun e w' => e = .returned (.bool false) ∧ w' = w := by
  obtain ⟨c0, z0, l0⟩ := hb.all
  have HIX := Lib.hid hIX
  clear hIX hb
  subst hl
  subst hJ1
  have d3 : ((S.size : Int) == 1) = true := by rw [hS]; rfl
  clear hS
  subst hn
  go_enter Tryd.func39, Tryd.ntmps39
  go_wp2_with (first | (go_at_call 64; (with_reducible refine (HIX.out).mono ?_); rintro e _ ⟨rfl, rfl⟩))
  exact bodyPost_ret (v := .bool false) (by simp [results, Tryd.results39, go_sem, *]) rfl ⟨rfl, rfl⟩
set_option maxRecDepth 100000 in
set_option maxHeartbeats 1000000 in
theorem word_D1 (t : Nat) (vv pv : Value) (now left x J I : Int) (S : ByteArray) (b : Bool) (w : World) (hb : Blk w t 67 #[vv, pv, .int .i64 now, .int .i64 left, .int .i64 x]) (hJ : I + 1 = J) (J0 : 0 ≤ J) (J9 : J ≤ 6)
    (hIX : Calls Tryd.prog 64 #[.string ⟨#[77, 76, 81, 67, 90]⟩, .string S] w fun e w' => e = .returned (.int .i64 I) ∧ w' = w) (hl : left = 0) (hS : S.size ≠ 1) (R1 R : World → Prop) (hn : now = 1) (cB : Calls Tryd.prog 65 #[.pointer (some ⟨t, 0, none⟩), .int .i64 2] w fun e w' => e = .returned (.tuple #[]) ∧ R1 w') (cN : ∀ w1, R1 w1 → Calls Tryd.prog 66 #[.pointer (some ⟨t, 0, none⟩), .string S] w1 fun e w' => e = .returned (.bool b) ∧ R w') :
    Calls Tryd.prog 39 #[.pointer (some ⟨t, 0, none⟩), .string S] w fun e w' => e = .returned (.bool b) ∧ R w' := by
  obtain ⟨c0, z0, l0⟩ := hb.all
  have HIX := Lib.hid hIX
  clear hIX hb
  subst hl
  have d3 : ((S.size : Int) == 1) = false := by simp; omega
  have d4 : decide ((S.size : Int) = 1) = false := by simp; omega
  clear hS
  subst hn
  have HCN := Lib.hid cN
  have HCB := Lib.hid cB
  clear cN cB
  go_enter Tryd.func39, Tryd.ntmps39
  go_wp2_with (first | (go_at_call 64; (with_reducible refine (HIX.out).mono ?_); rintro e _ ⟨rfl, rfl⟩) | (go_at_call 65; (with_reducible refine (HCB.out).mono ?_); rintro e W8 ⟨rfl, hR1⟩; have HR1 := Lib.hid hR1; clear hR1 c0 z0 l0) | (go_at_call 66; (with_reducible refine (HCN.out _ HR1.out).mono ?_); rintro e W9 ⟨rfl, hR⟩))
  exact bodyPost_ret (v := .bool b) (by simp [results, Tryd.results39, go_sem, *]) rfl ⟨rfl, hR⟩
set_option maxRecDepth 100000 in
set_option maxHeartbeats 1000000 in
theorem word_D2 (t : Nat) (vv pv : Value) (now left x J I : Int) (S : ByteArray) (b : Bool) (w : World) (hb : Blk w t 67 #[vv, pv, .int .i64 now, .int .i64 left, .int .i64 x]) (hJ : I + 1 = J) (J0 : 0 ≤ J) (J9 : J ≤ 6)
    (hIX : Calls Tryd.prog 64 #[.string ⟨#[77, 76, 81, 67, 90]⟩, .string S] w fun e w' => e = .returned (.int .i64 I) ∧ w' = w) (hl : left = 0) (hS : S.size = 1) (hJ1 : J = 0) (R1 R : World → Prop) (hn : now = 1) (cB : Calls Tryd.prog 65 #[.pointer (some ⟨t, 0, none⟩), .int .i64 2] w fun e w' => e = .returned (.tuple #[]) ∧ R1 w') (cN : ∀ w1, R1 w1 → Calls Tryd.prog 66 #[.pointer (some ⟨t, 0, none⟩), .string S] w1 fun e w' => e = .returned (.bool b) ∧ R w') :
    Calls Tryd.prog 39 #[.pointer (some ⟨t, 0, none⟩), .string S] w fun e w' => e = .returned (.bool b) ∧ R w' := by
  obtain ⟨c0, z0, l0⟩ := hb.all
  have HIX := Lib.hid hIX
  clear hIX hb
  subst hl
  subst hJ1
  have d3 : ((S.size : Int) == 1) = true := by rw [hS]; rfl
  clear hS
  subst hn
  have HCN := Lib.hid cN
  have HCB := Lib.hid cB
  clear cN cB
  go_enter Tryd.func39, Tryd.ntmps39
  go_wp2_with (first | (go_at_call 64; (with_reducible refine (HIX.out).mono ?_); rintro e _ ⟨rfl, rfl⟩) | (go_at_call 65; (with_reducible refine (HCB.out).mono ?_); rintro e W8 ⟨rfl, hR1⟩; have HR1 := Lib.hid hR1; clear hR1 c0 z0 l0) | (go_at_call 66; (with_reducible refine (HCN.out _ HR1.out).mono ?_); rintro e W9 ⟨rfl, hR⟩))
  exact bodyPost_ret (v := .bool b) (by simp [results, Tryd.results39, go_sem, *]) rfl ⟨rfl, hR⟩
set_option maxRecDepth 100000 in
set_option maxHeartbeats 1000000 in
theorem word_E1 (t : Nat) (vv pv : Value) (now left x J I : Int) (S : ByteArray) (b : Bool) (w : World) (hb : Blk w t 67 #[vv, pv, .int .i64 now, .int .i64 left, .int .i64 x]) (hJ : I + 1 = J) (J0 : 0 ≤ J) (J9 : J ≤ 6)
    (hIX : Calls Tryd.prog 64 #[.string ⟨#[77, 76, 81, 67, 90]⟩, .string S] w fun e w' => e = .returned (.int .i64 I) ∧ w' = w) (hl : left = 0) (hS : S.size ≠ 1) (R1 R : World → Prop) (n2 : 2 ≤ now) (n4 : now ≤ 4) (cB : Calls Tryd.prog 65 #[.pointer (some ⟨t, 0, none⟩), .int .i64 now] w fun e w' => e = .returned (.tuple #[]) ∧ R1 w') (cN : ∀ w1, R1 w1 → Calls Tryd.prog 66 #[.pointer (some ⟨t, 0, none⟩), .string S] w1 fun e w' => e = .returned (.bool b) ∧ R w') :
    Calls Tryd.prog 39 #[.pointer (some ⟨t, 0, none⟩), .string S] w fun e w' => e = .returned (.bool b) ∧ R w' := by
  obtain ⟨c0, z0, l0⟩ := hb.all
  have HIX := Lib.hid hIX
  clear hIX hb
  subst hl
  have d3 : ((S.size : Int) == 1) = false := by simp; omega
  have d4 : decide ((S.size : Int) = 1) = false := by simp; omega
  clear hS
  have f0 : (now == 0) = false := by simp; omega
  have f5 : (now == 5) = false := by simp; omega
  have f1 : (now == 1) = false := by simp; omega
  have HCN := Lib.hid cN
  have HCB := Lib.hid cB
  clear cN cB
  go_enter Tryd.func39, Tryd.ntmps39
  go_wp2_with (first | (go_at_call 64; (with_reducible refine (HIX.out).mono ?_); rintro e _ ⟨rfl, rfl⟩) | (go_at_call 65; (with_reducible refine (HCB.out).mono ?_); rintro e W8 ⟨rfl, hR1⟩; have HR1 := Lib.hid hR1; clear hR1 c0 z0 l0) | (go_at_call 66; (with_reducible refine (HCN.out _ HR1.out).mono ?_); rintro e W9 ⟨rfl, hR⟩))
  exact bodyPost_ret (v := .bool b) (by simp [results, Tryd.results39, go_sem, *]) rfl ⟨rfl, hR⟩
set_option maxRecDepth 100000 in
set_option maxHeartbeats 1000000 in
theorem word_E2 (t : Nat) (vv pv : Value) (now left x J I : Int) (S : ByteArray) (b : Bool) (w : World) (hb : Blk w t 67 #[vv, pv, .int .i64 now, .int .i64 left, .int .i64 x]) (hJ : I + 1 = J) (J0 : 0 ≤ J) (J9 : J ≤ 6)
    (hIX : Calls Tryd.prog 64 #[.string ⟨#[77, 76, 81, 67, 90]⟩, .string S] w fun e w' => e = .returned (.int .i64 I) ∧ w' = w) (hl : left = 0) (hS : S.size = 1) (hJ1 : J = 0) (R1 R : World → Prop) (n2 : 2 ≤ now) (n4 : now ≤ 4) (cB : Calls Tryd.prog 65 #[.pointer (some ⟨t, 0, none⟩), .int .i64 now] w fun e w' => e = .returned (.tuple #[]) ∧ R1 w') (cN : ∀ w1, R1 w1 → Calls Tryd.prog 66 #[.pointer (some ⟨t, 0, none⟩), .string S] w1 fun e w' => e = .returned (.bool b) ∧ R w') :
    Calls Tryd.prog 39 #[.pointer (some ⟨t, 0, none⟩), .string S] w fun e w' => e = .returned (.bool b) ∧ R w' := by
  obtain ⟨c0, z0, l0⟩ := hb.all
  have HIX := Lib.hid hIX
  clear hIX hb
  subst hl
  subst hJ1
  have d3 : ((S.size : Int) == 1) = true := by rw [hS]; rfl
  clear hS
  have f0 : (now == 0) = false := by simp; omega
  have f5 : (now == 5) = false := by simp; omega
  have f1 : (now == 1) = false := by simp; omega
  have HCN := Lib.hid cN
  have HCB := Lib.hid cB
  clear cN cB
  go_enter Tryd.func39, Tryd.ntmps39
  go_wp2_with (first | (go_at_call 64; (with_reducible refine (HIX.out).mono ?_); rintro e _ ⟨rfl, rfl⟩) | (go_at_call 65; (with_reducible refine (HCB.out).mono ?_); rintro e W8 ⟨rfl, hR1⟩; have HR1 := Lib.hid hR1; clear hR1 c0 z0 l0) | (go_at_call 66; (with_reducible refine (HCN.out _ HR1.out).mono ?_); rintro e W9 ⟨rfl, hR⟩))
  exact bodyPost_ret (v := .bool b) (by simp [results, Tryd.results39, go_sem, *]) rfl ⟨rfl, hR⟩

theorem psE_is (l : List UInt8) : (psE l == 0) = (ps l).isSome := by
  unfold psE
  cases ps l <;> rfl
theorem PAt.num_c {s : PSt} (l : List UInt8) (hl : 0 < s.left) {base t : Nat} {vv pv : Value} {w : World} (h : PAt base t vv pv s w) (hp : s.pt.length < 1000) (hB : base ≤ w.heap.size) :
    Calls Tryd.prog 66 #[.pointer (some ⟨t, 0, none⟩), .string ⟨l.toArray⟩] w fun e w' => e = .returned (.bool (ps l).isSome) ∧ ∃ pv', PAt base t vv pv' (s.num (psV l)) w' ∧ PKeep base t w w' := by
  obtain ⟨k, hk⟩ : ∃ k, s.left = k + 1 := ⟨s.left - 1, by omega⟩
  have hc := fun v => parse_l l v
  by_cases h2 : k % 2 = 1
  · have e : s.num (psV l) = { s with left := k, x := psV l } := by unfold PSt.num; rw [hk, if_pos (by simpa using h2)]; rfl
    rw [e]
    exact (number_odd s l (psV l) (psE l) k _ hk h2 (psE_is l) base t vv pv _ w h hc).mono fun e w' hh => ⟨hh.1, pv, hh.2⟩
  · have e : s.num (psV l) = { s with left := k, pt := s.pt ++ [(s.x, psV l)] } := by unfold PSt.num; rw [hk, if_neg (by simpa using h2)]; rfl
    rw [e]
    exact number_even s l (psV l) (psE l) k _ hk (by omega) (psE_is l) base t vv pv _ w h hp hB hc
/-- what is told of a word that is a number -/
theorem num_told {s st : PSt} {l : List UInt8} {base t : Nat} {w w' : World} (hw : s.word l = (ps l).map st.num) (h : ∃ vv pv, PAt base t vv pv (st.num (psV l)) w' ∧ PKeep base t w w') :
    (s.word l).isSome = (ps l).isSome ∧ (∀ s', s.word l = some s' → ∃ vv' pv', PAt base t vv' pv' s' w') ∧ PKeep base t w w' := by
  obtain ⟨vv, pv, h1, h2⟩ := h
  refine ⟨by rw [hw, Option.isSome_map], fun s' hs => ?_, h2⟩
  rw [hw] at hs
  cases e : ps l with
  | none => rw [e] at hs; cases hs
  | some n =>
    rw [e] at hs
    obtain rfl := Option.some.inj hs
    rw [(ps_some e).1] at h1
    exact ⟨vv, pv, h1⟩
theorem word_c (s : PSt) (l : List UInt8) (base t : Nat) (vv pv : Value) (mx : Int) (w : World) (h : PAt base t vv pv s w) (hv : s.vb.length < 900) (hp : s.pt.length < 900) (hB : base ≤ w.heap.size) (hm : w.cell? ⟨3, 0, none⟩ = some (.int .i64 mx)) :
    Calls Tryd.prog 39 #[.pointer (some ⟨t, 0, none⟩), .string ⟨l.toArray⟩] w fun e w' => e = .returned (.bool (s.word l).isSome) ∧ (∀ s', s.word l = some s' → ∃ vv' pv', PAt base t vv' pv' s' w') ∧ PKeep base t w w' := by
  have hIX : Calls Tryd.prog 64 #[.string ⟨#[77, 76, 81, 67, 90]⟩, .string ⟨l.toArray⟩] w fun e w' => e = .returned (.int .i64 (Lib.index lets l)) ∧ w' = w := Tryd.strings_Index ⟨#[77, 76, 81, 67, 90]⟩ ⟨l.toArray⟩ mx w (by decide) hm
  have i0 := Lib.index_ge lets l
  have i5 := Lib.index_le lets l
  have hl5 : lets.length = 5 := rfl
  rw [hl5] at i5
  generalize hI : Lib.index lets l = I at *
  have hb := h.box
  have hf := h.few
  have hS : (⟨l.toArray⟩ : ByteArray).size = l.length := ba_size l
  by_cases h1 : 0 < s.left
  · have hw : s.word l = (ps l).map s.num := by unfold PSt.word; rw [if_pos h1]
    refine (word_A t vv pv s.now s.left s.x (I + 1) I _ (ps l).isSome w hb rfl (by omega) (by omega) hIX _ (by omega) (h.num_c l h1 (by omega) hB)).mono fun e w' hh => ?_
    obtain ⟨pv', hh2⟩ := hh.2
    obtain ⟨e1, e2, e3⟩ := num_told hw ⟨vv, pv', hh2⟩
    exact ⟨by rw [hh.1, e1], e2, e3⟩
  have h0 : (s.left : Int) = 0 := by omega
  by_cases hv0 : 0 < vrb l
  · have hl1 : l.length = 1 := Classical.byContradiction fun hn => by rw [vrb_long l hn] at hv0; omega
    have hw : s.word l = some (s.begin_ (vrb l)) := by unfold PSt.word; rw [if_neg h1, if_pos hv0]
    have hJ : I + 1 = (vrb l : Int) := by
      cases l with
      | nil => simp at hl1
      | cons b r =>
        have : r = [] := by simpa using hl1
        subst this
        rw [← hI]
        exact idx_one b
    have hbg := begin_c s (vrb l) ⟨hv0, vrb_le l⟩ base t vv pv w h (by omega) hB
    refine (word_B t vv pv s.now s.left s.x (vrb l) I _ true w hb hJ (by omega) (by have := vrb_le l; omega) hIX _ h0 (by rw [hS]; exact hl1) (by omega) hbg).mono fun e w' hh => ?_
    obtain ⟨vv', h2, h3⟩ := hh.2
    refine ⟨by rw [hh.1, hw]; rfl, fun s' hs => ?_, h3⟩
    rw [hw] at hs
    obtain rfl := Option.some.inj hs
    exact ⟨vv', pv, h2⟩
  have hJ2 : l.length ≠ 1 ∨ (l.length = 1 ∧ I + 1 = 0) := by
    by_cases hl1 : l.length = 1
    · refine .inr ⟨hl1, ?_⟩
      cases l with
      | nil => simp at hl1
      | cons b r =>
        have : r = [] := by simpa using hl1
        subst this
        rw [← hI, idx_one b]
        omega
    · exact .inl hl1
  by_cases hn : s.now = 0 ∨ s.now = 5
  · have hw : s.word l = none := by unfold PSt.word; rw [if_neg h1, if_neg hv0, if_pos hn]
    have done : ∀ e w', (e = Ending.returned (.bool false) ∧ w' = w) → e = .returned (.bool (s.word l).isSome) ∧ (∀ s', s.word l = some s' → ∃ vv' pv', PAt base t vv' pv' s' w') ∧ PKeep base t w w' := fun e w' hh =>
      ⟨by rw [hh.1, hw]; rfl, fun s' hs => (by rw [hw] at hs; cases hs), by rw [hh.2]; exact PKeep.refl _ _ _⟩
    rcases hJ2 with hl1 | ⟨hl1, hJ⟩
    · rcases hn with hn | hn
      · exact (word_C01 t vv pv s.now s.left s.x (I + 1) I _ false w hb rfl (by omega) (by omega) hIX h0 (by rw [hS]; exact hl1) (by omega)).mono done
      · exact (word_C51 t vv pv s.now s.left s.x (I + 1) I _ false w hb rfl (by omega) (by omega) hIX h0 (by rw [hS]; exact hl1) (by omega)).mono done
    · rcases hn with hn | hn
      · exact (word_C02 t vv pv s.now s.left s.x (I + 1) I _ false w hb rfl (by omega) (by omega) hIX h0 (by rw [hS]; exact hl1) hJ (by omega)).mono done
      · exact (word_C52 t vv pv s.now s.left s.x (I + 1) I _ false w hb rfl (by omega) (by omega) hIX h0 (by rw [hS]; exact hl1) hJ (by omega)).mono done
  obtain ⟨v, hv1⟩ : ∃ v, v = (if s.now = 1 then 2 else s.now) := ⟨_, rfl⟩
  have hw : s.word l = (ps l).map (s.begin_ v).num := by unfold PSt.word; rw [if_neg h1, if_neg hv0, if_neg hn, ← hv1]
  have hv4 : 2 ≤ v ∧ v ≤ 4 := by rw [hv1]; split <;> omega
  have hbg := begin_c s v ⟨by omega, by omega⟩ base t vv pv w h (by omega) hB
  have hlp : 0 < (s.begin_ v).left := by
    show 0 < 2 * tkN v
    rcases (show v = 2 ∨ v = 3 ∨ v = 4 by omega) with rfl | rfl | rfl <;> decide
  have hnm : ∀ w1, (∃ vv', PAt base t vv' pv (s.begin_ v) w1 ∧ PKeep base t w w1) → Calls Tryd.prog 66 #[.pointer (some ⟨t, 0, none⟩), .string ⟨l.toArray⟩] w1 fun e w' => e = .returned (.bool (ps l).isSome) ∧ ∃ vv' pv', PAt base t vv' pv' ((s.begin_ v).num (psV l)) w' ∧ PKeep base t w w' := fun w1 ⟨vv', g1, g2⟩ =>
    (g1.num_c l hlp (show s.pt.length < 1000 by omega) (Nat.le_trans hB g2.size)).mono fun e w' hh => by
      obtain ⟨k1, pv', k2, k3⟩ := hh
      exact ⟨k1, vv', pv', k2, g2.trans k3⟩
  have done : ∀ e w', (e = Ending.returned (.bool (ps l).isSome) ∧ ∃ vv' pv', PAt base t vv' pv' ((s.begin_ v).num (psV l)) w' ∧ PKeep base t w w') → e = .returned (.bool (s.word l).isSome) ∧ (∀ s', s.word l = some s' → ∃ vv' pv', PAt base t vv' pv' s' w') ∧ PKeep base t w w' := fun e w' hh => by
    obtain ⟨e1, e2, e3⟩ := num_told hw hh.2
    exact ⟨by rw [hh.1, e1], e2, e3⟩
  by_cases hn1 : s.now = 1
  · rw [if_pos hn1] at hv1
    subst hv1
    rcases hJ2 with hl1 | ⟨hl1, hJ⟩
    · exact (word_D1 t vv pv s.now s.left s.x (I + 1) I _ _ w hb rfl (by omega) (by omega) hIX h0 (by rw [hS]; exact hl1) _ _ (by omega) hbg hnm).mono done
    · exact (word_D2 t vv pv s.now s.left s.x (I + 1) I _ _ w hb rfl (by omega) (by omega) hIX h0 (by rw [hS]; exact hl1) hJ _ _ (by omega) hbg hnm).mono done
  · rw [if_neg hn1] at hv1
    subst hv1
    rcases hJ2 with hl1 | ⟨hl1, hJ⟩
    · exact (word_E1 t vv pv s.now s.left s.x (I + 1) I _ _ w hb rfl (by omega) (by omega) hIX h0 (by rw [hS]; exact hl1) _ _ (by omega) (by omega) hbg hnm).mono done
    · exact (word_E2 t vv pv s.now s.left s.x (I + 1) I _ _ w hb rfl (by omega) (by omega) hIX h0 (by rw [hS]; exact hl1) hJ _ _ (by omega) (by omega) hbg hnm).mono done
end Go.Proofs.YtjmagehfkcnjjaaDoor

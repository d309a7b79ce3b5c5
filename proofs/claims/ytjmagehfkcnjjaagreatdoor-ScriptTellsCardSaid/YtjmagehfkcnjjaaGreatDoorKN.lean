/-
  Texts that stand as one.
-/
import Derived.Test.YtjmagehfkcnjjaaGreatDoorSP
import Derived.Lib.IndexBytes
/-
  The parser of words: a number.
-/
namespace Go.Proofs.YtjmagehfkcnjjaaGreatDoor
set_option linter.unusedVariables false
open Go.RowKit

theorem bit_is (k : Nat) (h : k ≤ 6) : (bits BinOp.and IntKind.i64 (k : Int) 1 == 1) = decide (k % 2 = 1) := by
  rcases (show k = 0 ∨ k = 1 ∨ k = 2 ∨ k = 3 ∨ k = 4 ∨ k = 5 ∨ k = 6 by omega) with rfl | rfl | rfl | rfl | rfl | rfl | rfl <;> rfl
theorem blk_two {W : World} {g : Nat} {T : TypeId} {p q : Value} (h : Blk W g T #[p, q]) : ∀ j u, ([p, q] : List Value)[j]? = some u → W.cell? ((⟨g, 0, none⟩ : Addr).add j) = some u := by
  intro j u hj
  rw [Addr.add_mid, Nat.zero_add, h.cell]
  simpa using hj
theorem two_int (p q : Int) : ∀ x ∈ ([.int .i64 p, .int .i64 q] : List Value), x.oneCell' = true := by intro x hx; simp at hx; rcases hx with rfl | rfl <;> rfl
set_option maxRecDepth 100000 in
set_option maxHeartbeats 1000000 in
theorem number_odd (s : PSt) (l : List UInt8) (V E : Int) (k : Nat) (b : Bool) (hl : s.left = k + 1) (hk : k % 2 = 1) (hE : (E == 0) = b) (base t : Nat) (vv pv : Value) (S : ByteArray) (w : World) (h : PAt base t vv pv s w)
    (c1 : ∀ w', Calls Tryz.prog 31 #[.string S] w' fun e w'' => e = .returned (.tuple #[.int .i64 V, .int .i64 E]) ∧ ∃ x : Later w', w'' = x.out) :
    Calls Tryz.prog 73 #[.pointer (some ⟨t, 0, none⟩), .string S] w fun e w' => e = .returned (.bool b) ∧ PAt base t vv pv { s with left := k, x := V } w' ∧ PKeep base t w w' := by
  obtain ⟨hb, ho, hp, hlt, f1, f2, f3, f4⟩ := h
  have HB := Lib.hid hb
  have HO := Lib.hid ho
  have HP := Lib.hid hp
  have HC1 := Lib.hid c1
  rw [hl] at hb
  obtain ⟨c0, z0, l0⟩ := hb.all
  have e1 : ((k + 1 : Nat) : Int) - 1 = (k : Int) := by omega
  have hk6 : k ≤ 6 := by omega
  clear c1 hb ho hp
  go_enter Tryz.func73, Tryz.ntmps73
  have hbit : (bits BinOp.and IntKind.i64 (k : Int) 1 == 1) = true := by rw [bit_is k (by omega)]; simp [hk]
  clear hk hl
  go_wp2_with (go_at_call 31; (with_reducible refine (HC1.out _).mono ?_); rintro e _ ⟨rfl, x, rfl⟩)
  have k0 := HB.out.later x
  have o0 := own_later HO.out x
  have p0 := own_later HP.out x
  have nv : vv.ownBlock ≠ some t := own_ne o0 k0 (by decide)
  have np : pv.ownBlock ≠ some t := own_ne p0 k0 (by decide)
  refine bodyPost_ret (v := .bool b) (by simp [results, Tryz.results73, go_sem]) rfl ⟨rfl, ⟨?_, ?_, ?_, hlt, f1, f2, f3, hk6⟩, (((PKeep.refl base t w).later x).set 3 _).set 4 _⟩
  · exact ((k0.set 3 _).set 4 _).eq (by simp)
  · exact Go.ownsRow_setCell_other (Go.ownsRow_setCell_other o0 (a := ⟨t, 3, none⟩) nv _) (a := ⟨t, 4, none⟩) nv _
  · exact Go.ownsRow_setCell_other (Go.ownsRow_setCell_other p0 (a := ⟨t, 3, none⟩) np _) (a := ⟨t, 4, none⟩) np _
set_option maxRecDepth 100000 in
set_option maxHeartbeats 1000000 in
theorem number_even (s : PSt) (l : List UInt8) (V E : Int) (k : Nat) (b : Bool) (hl : s.left = k + 1) (hk : k % 2 = 0) (hE : (E == 0) = b) (base t : Nat) (vv pv : Value) (S : ByteArray) (w : World) (h : PAt base t vv pv s w) (hpl : s.pt.length < 1000000) (hB : base ≤ w.heap.size)
    (c1 : ∀ w', Calls Tryz.prog 31 #[.string S] w' fun e w'' => e = .returned (.tuple #[.int .i64 V, .int .i64 E]) ∧ ∃ x : Later w', w'' = x.out) :
    Calls Tryz.prog 73 #[.pointer (some ⟨t, 0, none⟩), .string S] w fun e w' => e = .returned (.bool b) ∧ ∃ pv', PAt base t vv pv' { s with left := k, pt := s.pt ++ [(s.x, V)] } w' ∧ PKeep base t w w' := by
  obtain ⟨i0, hi0, hz0, hz1, hz2⟩ := infoPt
  obtain ⟨hb, ho, hp, hlt, f1, f2, f3, f4⟩ := h
  have HB := Lib.hid hb
  have HO := Lib.hid ho
  have HP := Lib.hid hp
  have HC1 := Lib.hid c1
  rw [hl] at hb
  obtain ⟨c0, z0, l0⟩ := hb.all
  have e1 : ((k + 1 : Nat) : Int) - 1 = (k : Int) := by omega
  have hk6 : k ≤ 6 := by omega
  have hbit : (bits BinOp.and IntKind.i64 (k : Int) 1 == 1) = false := by rw [bit_is k (by omega)]; simp; omega
  clear c1 hb ho hp hk hl
  go_enter Tryz.func73, Tryz.ntmps73
  go_wp2_with (go_at_call 31; (with_reducible refine (HC1.out _).mono ?_); rintro e _ ⟨rfl, x, rfl⟩)
  have k0 := (HB.out.later x).set 3 (.int .i64 (k : Int))
  have o0 := own_later HO.out x
  have p0 := own_later HP.out x
  have nv : vv.ownBlock ≠ some t := own_ne o0 (HB.out.later x) (by decide)
  have np : pv.ownBlock ≠ some t := own_ne p0 (HB.out.later x) (by decide)
  have o1 := Go.ownsRow_setCell_other o0 (a := ⟨t, 3, none⟩) nv (.int .i64 (k : Int))
  have p1 := Go.ownsRow_setCell_other p0 (a := ⟨t, 3, none⟩) np (.int .i64 (k : Int))
  have kp1 := ((PKeep.refl base t w).later x).set 3 (.int .i64 (k : Int))
  have hs1 : w.heap.size ≤ (x.out.setCell ⟨t, 3, none⟩ (.int .i64 (k : Int))).heap.size := by rw [World.size_setCell]; exact x.size_le
  generalize x.out.setCell ⟨t, 3, none⟩ (.int .i64 (k : Int)) = W1 at *
  have K0 := Lib.hid k0
  have HO1 := Lib.hid o1
  have HP1 := Lib.hid p1
  have HKP := Lib.hid kp1
  obtain ⟨c1, z1, l1⟩ := k0.all
  clear k0 o1 p1 kp1 o0 p0 c0 z0 l0 x
  refine wp_region_oneF 0 _ (.pointer (some ⟨t, 0, none⟩)) [1, 2, 3, 4, 5, 6, 7, 8, 9, 10, 11] 12 [13, 14, 15, 16, 17] (fun g => .slice (some ⟨g, 0, none⟩) 1 1) (.cells #[.int .i64 s.x, .int .i64 V] 48) (by kernel_rfl) rfl ⟨.inl ⟨by rfl, fun w => by simp [execOp, go_sem]⟩, fun w => by rfl⟩ (fun _ _ _ h => h) (by kernel_rfl) (by kernel_rfl) (by kernel_rfl) (by kernel_rfl) (noInit_ofN (by kernel_rfl)) (fun y => ?_)
  simp only [pick, List.getElem?_cons_zero, List.getElem?_cons_succ, Act.put, List.setIfInBounds_toArray, List.set_cons_succ, List.set_cons_zero]
  repeat (go_big_quiet_step ((first | fail)))
  refine wpQuiet_nil ?_
  refine ⟨(by intro o ho; obtain rfl := Option.some.inj ho; refine ⟨rfl, fun wc => ?_⟩; simp [execOp, go_sem]; done), ?_⟩
  intro gq x hgq hx
  simp only [dstOf, List.getElem?_toArray, List.getElem?_cons_succ, List.getElem?_cons_zero, Option.bind_some, Act.put, List.setIfInBounds_toArray, List.set_cons_succ, List.set_cons_zero]
  have bg : Blk x.out gq 48 #[.int .i64 s.x, .int .i64 V] := hx
  have HG := Lib.hid bg
  have how := own_later HP1.out x
  have hxs := x.size_le
  refine wpListIn_append_own _ rfl _ _ 29 rfl base 48 i0 (.agg #[.int .i64 0, .int .i64 0]) 2 16 Tryz.underlying29 hi0 hz0 hz1 hz2 rfl (by decide) _ _ _ rfl how ⟨gq, 0, none⟩ 1 1 [.int .i64 s.x, .int .i64 V] rfl rfl (blk_two bg) (two_int _ _) (by unfold maxLen; omega) (by omega) (by omega) ?_
  intro v' w3 hown hgrow hnil
  obtain ⟨g, cap, rfl⟩ := Go.Joins.ownsRow_form hown (by omega)
  have kb := Blk.apart (K0.out.later x) how (by decide) hgrow
  have o3 := own_by how (own_later HO1.out x) (by decide) hgrow
  have kp := ((HKP.out.later x).own how (.inr rfl) hgrow)
  obtain ⟨q1, q2, q3⟩ := kb.all
  have HKB := Lib.hid kb
  have HOW := Lib.hid hown
  have HO3 := Lib.hid o3
  have HKP3 := Lib.hid kp
  clear hown hgrow hnil how bg hx kb o3 kp c1 z1 l1
  simp only [Act.put, List.setIfInBounds_toArray, List.set_cons_succ, List.set_cons_zero]
  gi_wp2
  go_wp2_with (fail)
  have n3 : (Value.slice (some ⟨g, 0, none⟩) (s.pt.length + 1) cap).ownBlock ≠ some t := own_ne HOW.out HKB.out (by decide)
  refine bodyPost_ret (v := .bool b) (by simp [results, Tryz.results73, go_sem]) rfl ⟨rfl, .slice (some ⟨g, 0, none⟩) (s.pt.length + 1) cap, ⟨?_, ?_, ?_, hlt, f1, ?_, f3, hk6⟩, HKP3.out.set 1 _⟩
  · exact (HKB.out.set 1 _).eq (by simp)
  · exact Go.ownsRow_setCell_other HO3.out (a := ⟨t, 1, none⟩) nv _
  · have h := Go.ownsRow_setCell_other HOW.out (a := ⟨t, 1, none⟩) n3 (.slice (some ⟨g, 0, none⟩) (s.pt.length + 1) cap)
    show World.ownsRow _ base 48 2 _ (s.pt ++ [(s.x, V)]).length (fl (s.pt ++ [(s.x, V)]))
    rw [fl_append, List.length_append]
    exact h
  · show (s.pt ++ [(s.x, V)]).length ≤ 1000000
    rw [List.length_append]; exact hpl
end Go.Proofs.YtjmagehfkcnjjaaGreatDoor

/-
  The parser of words: a word, way by way.
-/
namespace Go.Proofs.YtjmagehfkcnjjaaGreatDoor
set_option linter.unusedVariables false
open Go.RowKit

def lets : List UInt8 := [77, 76, 81, 67, 90]
theorem idx_one (b : UInt8) : Lib.index lets [b] + 1 = (vrb [b] : Int) := by
  have key : ∀ n : Fin 256, Lib.index lets [UInt8.ofNat n.val] + 1 = (vrb [UInt8.ofNat n.val] : Int) := by decide +kernel
  have := key ⟨b.toNat, UInt8.toNat_lt b⟩
  simpa using this
theorem vrb_long (l : List UInt8) (h : l.length ≠ 1) : vrb l = 0 := by
  unfold vrb
  repeat (rw [if_neg (by intro e; rw [e] at h; exact h rfl)])
theorem vrb_le (l : List UInt8) : vrb l ≤ 5 := by unfold vrb; repeat (first | split | omega)
set_option maxRecDepth 100000 in
set_option maxHeartbeats 1000000 in
theorem word_A (t : Nat) (vv pv : Value) (now left x J I : Int) (S : ByteArray) (b : Bool) (w : World) (hb : Blk w t 66 #[vv, pv, .int .i64 now, .int .i64 left, .int .i64 x]) (hJ : I + 1 = J) (J0 : 0 ≤ J) (J9 : J ≤ 6)
    (hIX : Calls Tryz.prog 71 #[.string ⟨#[77, 76, 81, 67, 90]⟩, .string S] w fun e w' => e = .returned (.int .i64 I) ∧ w' = w) (R : World → Prop) (hl : 0 < left) (cN : Calls Tryz.prog 73 #[.pointer (some ⟨t, 0, none⟩), .string S] w fun e w' => e = .returned (.bool b) ∧ R w') :
    Calls Tryz.prog 39 #[.pointer (some ⟨t, 0, none⟩), .string S] w fun e w' => e = .returned (.bool b) ∧ R w' := by
  obtain ⟨c0, z0, l0⟩ := hb.all
  have HIX := Lib.hid hIX
  clear hIX hb
  have HCN := Lib.hid cN
  clear cN
  have d1 : decide (0 < left) = true := by simp [hl]
  go_enter Tryz.func39, Tryz.ntmps39
  go_wp2_with (first | (go_at_call 71; (with_reducible refine (HIX.out).mono ?_); rintro e _ ⟨rfl, rfl⟩) | (go_at_call 73; (with_reducible refine (HCN.out).mono ?_); rintro e W9 ⟨rfl, hR⟩))
  exact bodyPost_ret (v := .bool b) (by simp [results, Tryz.results39, go_sem, *]) rfl ⟨rfl, hR⟩

set_option maxRecDepth 100000 in
set_option maxHeartbeats 1000000 in
theorem word_B (t : Nat) (vv pv : Value) (now left x J I : Int) (S : ByteArray) (b : Bool) (w : World) (hb : Blk w t 66 #[vv, pv, .int .i64 now, .int .i64 left, .int .i64 x]) (hJ : I + 1 = J) (J0 : 0 ≤ J) (J9 : J ≤ 6)
    (hIX : Calls Tryz.prog 71 #[.string ⟨#[77, 76, 81, 67, 90]⟩, .string S] w fun e w' => e = .returned (.int .i64 I) ∧ w' = w) (R : World → Prop) (hl : left = 0) (hS : S.size = 1) (hJ1 : 0 < J) (cB : Calls Tryz.prog 72 #[.pointer (some ⟨t, 0, none⟩), .int .i64 J] w fun e w' => e = .returned (.tuple #[]) ∧ R w') :
    Calls Tryz.prog 39 #[.pointer (some ⟨t, 0, none⟩), .string S] w fun e w' => e = .returned (.bool true) ∧ R w' := by
  obtain ⟨c0, z0, l0⟩ := hb.all
  have HIX := Lib.hid hIX
  clear hIX hb
  have HCB := Lib.hid cB
  clear cB
  subst hl
  have d2 : decide (0 < J) = true := by simp [hJ1]
  have d3 : ((S.size : Int) == 1) = true := by rw [hS]; rfl
  clear hS
  go_enter Tryz.func39, Tryz.ntmps39
  go_wp2_with (first | (go_at_call 71; (with_reducible refine (HIX.out).mono ?_); rintro e _ ⟨rfl, rfl⟩) | (go_at_call 72; (with_reducible refine (HCB.out).mono ?_); rintro e W8 ⟨rfl, hR1⟩; have HR1 := Lib.hid hR1; clear hR1 c0 z0 l0))
  exact bodyPost_ret (v := .bool true) (by simp [results, Tryz.results39, go_sem, *]) rfl ⟨rfl, HR1.out⟩

set_option maxRecDepth 100000 in
set_option maxHeartbeats 1000000 in
theorem word_C01 (t : Nat) (vv pv : Value) (now left x J I : Int) (S : ByteArray) (b : Bool) (w : World) (hb : Blk w t 66 #[vv, pv, .int .i64 now, .int .i64 left, .int .i64 x]) (hJ : I + 1 = J) (J0 : 0 ≤ J) (J9 : J ≤ 6)
    (hIX : Calls Tryz.prog 71 #[.string ⟨#[77, 76, 81, 67, 90]⟩, .string S] w fun e w' => e = .returned (.int .i64 I) ∧ w' = w) (hl : left = 0) (hS : S.size ≠ 1) (hn : now = 0) :
    Calls Tryz.prog 39 #[.pointer (some ⟨t, 0, none⟩), .string S] w fun e w' => e = .returned (.bool false) ∧ w' = w := by
  obtain ⟨c0, z0, l0⟩ := hb.all
  have HIX := Lib.hid hIX
  clear hIX hb
  subst hl
  have d3 : ((S.size : Int) == 1) = false := by simp; omega
  have d4 : decide ((S.size : Int) = 1) = false := by simp; omega
  clear hS
  subst hn
  go_enter Tryz.func39, Tryz.ntmps39
  go_wp2_with (first | (go_at_call 71; (with_reducible refine (HIX.out).mono ?_); rintro e _ ⟨rfl, rfl⟩))
  exact bodyPost_ret (v := .bool false) (by simp [results, Tryz.results39, go_sem, *]) rfl ⟨rfl, rfl⟩
set_option maxRecDepth 100000 in
set_option maxHeartbeats 1000000 in
theorem word_C02 (t : Nat) (vv pv : Value) (now left x J I : Int) (S : ByteArray) (b : Bool) (w : World) (hb : Blk w t 66 #[vv, pv, .int .i64 now, .int .i64 left, .int .i64 x]) (hJ : I + 1 = J) (J0 : 0 ≤ J) (J9 : J ≤ 6)
    (hIX : Calls Tryz.prog 71 #[.string ⟨#[77, 76, 81, 67, 90]⟩, .string S] w fun e w' => e = .returned (.int .i64 I) ∧ w' = w) (hl : left = 0) (hS : S.size = 1) (hJ1 : J = 0) (hn : now = 0) :
    Calls Tryz.prog 39 #[.pointer (some ⟨t, 0, none⟩), .string S] w fun e w' => e = .returned (.bool false) ∧ w' = w := by
  obtain ⟨c0, z0, l0⟩ := hb.all
  have HIX := Lib.hid hIX
  clear hIX hb
  subst hl
  subst hJ1
  have d3 : ((S.size : Int) == 1) = true := by rw [hS]; rfl
  clear hS
  subst hn
  go_enter Tryz.func39, Tryz.ntmps39
  go_wp2_with (first | (go_at_call 71; (with_reducible refine (HIX.out).mono ?_); rintro e _ ⟨rfl, rfl⟩))
  exact bodyPost_ret (v := .bool false) (by simp [results, Tryz.results39, go_sem, *]) rfl ⟨rfl, rfl⟩
set_option maxRecDepth 100000 in
set_option maxHeartbeats 1000000 in
theorem word_C51 (t : Nat) (vv pv : Value) (now left x J I : Int) (S : ByteArray) (b : Bool) (w : World) (hb : Blk w t 66 #[vv, pv, .int .i64 now, .int .i64 left, .int .i64 x]) (hJ : I + 1 = J) (J0 : 0 ≤ J) (J9 : J ≤ 6)
    (hIX : Calls Tryz.prog 71 #[.string ⟨#[77, 76, 81, 67, 90]⟩, .string S] w fun e w' => e = .returned (.int .i64 I) ∧ w' = w) (hl : left = 0) (hS : S.size ≠ 1) (hn : now = 5) :
    Calls Tryz.prog 39 #[.pointer (some ⟨t, 0, none⟩), .string S] w fun e w' => e = .returned (.bool false) ∧ w' = w := by
  obtain ⟨c0, z0, l0⟩ := hb.all
  have HIX := Lib.hid hIX
  clear hIX hb
  subst hl
  have d3 : ((S.size : Int) == 1) = false := by simp; omega
  have d4 : decide ((S.size : Int) = 1) = false := by simp; omega
  clear hS
  subst hn
  go_enter Tryz.func39, Tryz.ntmps39
  go_wp2_with (first | (go_at_call 71; (with_reducible refine (HIX.out).mono ?_); rintro e _ ⟨rfl, rfl⟩))
  exact bodyPost_ret (v := .bool false) (by simp [results, Tryz.results39, go_sem, *]) rfl ⟨rfl, rfl⟩
set_option maxRecDepth 100000 in
set_option maxHeartbeats 1000000 in
theorem word_C52 (t : Nat) (vv pv : Value) (now left x J I : Int) (S : ByteArray) (b : Bool) (w : World) (hb : Blk w t 66 #[vv, pv, .int .i64 now, .int .i64 left, .int .i64 x]) (hJ : I + 1 = J) (J0 : 0 ≤ J) (J9 : J ≤ 6)
    (hIX : Calls Tryz.prog 71 #[.string ⟨#[77, 76, 81, 67, 90]⟩, .string S] w fun e w' => e = .returned (.int .i64 I) ∧ w' = w) (hl : left = 0) (hS : S.size = 1) (hJ1 : J = 0) (hn : now = 5) :
    Calls Tryz.prog 39 #[.pointer (some ⟨t, 0, none⟩), .string S] w fun e w' => e = .returned (.bool false) ∧ w' = w := by
  obtain ⟨c0, z0, l0⟩ := hb.all
  have HIX := Lib.hid hIX
  clear hIX hb
  subst hl
  subst hJ1
  have d3 : ((S.size : Int) == 1) = true := by rw [hS]; rfl
  clear hS
  subst hn
  go_enter Tryz.func39, Tryz.ntmps39
  go_wp2_with (first | (go_at_call 71; (with_reducible refine (HIX.out).mono ?_); rintro e _ ⟨rfl, rfl⟩))
  exact bodyPost_ret (v := .bool false) (by simp [results, Tryz.results39, go_sem, *]) rfl ⟨rfl, rfl⟩
set_option maxRecDepth 100000 in
set_option maxHeartbeats 1000000 in
theorem word_D1 (t : Nat) (vv pv : Value) (now left x J I : Int) (S : ByteArray) (b : Bool) (w : World) (hb : Blk w t 66 #[vv, pv, .int .i64 now, .int .i64 left, .int .i64 x]) (hJ : I + 1 = J) (J0 : 0 ≤ J) (J9 : J ≤ 6)
    (hIX : Calls Tryz.prog 71 #[.string ⟨#[77, 76, 81, 67, 90]⟩, .string S] w fun e w' => e = .returned (.int .i64 I) ∧ w' = w) (hl : left = 0) (hS : S.size ≠ 1) (R1 R : World → Prop) (hn : now = 1) (cB : Calls Tryz.prog 72 #[.pointer (some ⟨t, 0, none⟩), .int .i64 2] w fun e w' => e = .returned (.tuple #[]) ∧ R1 w') (cN : ∀ w1, R1 w1 → Calls Tryz.prog 73 #[.pointer (some ⟨t, 0, none⟩), .string S] w1 fun e w' => e = .returned (.bool b) ∧ R w') :
    Calls Tryz.prog 39 #[.pointer (some ⟨t, 0, none⟩), .string S] w fun e w' => e = .returned (.bool b) ∧ R w' := by
  obtain ⟨c0, z0, l0⟩ := hb.all
  have HIX := Lib.hid hIX
  clear hIX hb
  subst hl
  have d3 : ((S.size : Int) == 1) = false := by simp; omega
  have d4 : decide ((S.size : Int) = 1) = false := by simp; omega
  clear hS
  subst hn
  have HCN := Lib.hid cN
  have HCB := Lib.hid cB
  clear cN cB
  go_enter Tryz.func39, Tryz.ntmps39
  go_wp2_with (first | (go_at_call 71; (with_reducible refine (HIX.out).mono ?_); rintro e _ ⟨rfl, rfl⟩) | (go_at_call 72; (with_reducible refine (HCB.out).mono ?_); rintro e W8 ⟨rfl, hR1⟩; have HR1 := Lib.hid hR1; clear hR1 c0 z0 l0) | (go_at_call 73; (with_reducible refine (HCN.out _ HR1.out).mono ?_); rintro e W9 ⟨rfl, hR⟩))
  exact bodyPost_ret (v := .bool b) (by simp [results, Tryz.results39, go_sem, *]) rfl ⟨rfl, hR⟩
set_option maxRecDepth 100000 in
set_option maxHeartbeats 1000000 in
theorem word_D2 (t : Nat) (vv pv : Value) (now left x J I : Int) (S : ByteArray) (b : Bool) (w : World) (hb : Blk w t 66 #[vv, pv, .int .i64 now, .int .i64 left, .int .i64 x]) (hJ : I + 1 = J) (J0 : 0 ≤ J) (J9 : J ≤ 6)
    (hIX : Calls Tryz.prog 71 #[.string ⟨#[77, 76, 81, 67, 90]⟩, .string S] w fun e w' => e = .returned (.int .i64 I) ∧ w' = w) (hl : left = 0) (hS : S.size = 1) (hJ1 : J = 0) (R1 R : World → Prop) (hn : now = 1) (cB : Calls Tryz.prog 72 #[.pointer (some ⟨t, 0, none⟩), .int .i64 2] w fun e w' => e = .returned (.tuple #[]) ∧ R1 w') (cN : ∀ w1, R1 w1 → Calls Tryz.prog 73 #[.pointer (some ⟨t, 0, none⟩), .string S] w1 fun e w' => e = .returned (.bool b) ∧ R w') :
    Calls Tryz.prog 39 #[.pointer (some ⟨t, 0, none⟩), .string S] w fun e w' => e = .returned (.bool b) ∧ R w' := by
  obtain ⟨c0, z0, l0⟩ := hb.all
  have HIX := Lib.hid hIX
  clear hIX hb
  subst hl
  subst hJ1
  have d3 : ((S.size : Int) == 1) = true := by rw [hS]; rfl
  clear hS
  subst hn
  have HCN := Lib.hid cN
  have HCB := Lib.hid cB
  clear cN cB
  go_enter Tryz.func39, Tryz.ntmps39
  go_wp2_with (first | (go_at_call 71; (with_reducible refine (HIX.out).mono ?_); rintro e _ ⟨rfl, rfl⟩) | (go_at_call 72; (with_reducible refine (HCB.out).mono ?_); rintro e W8 ⟨rfl, hR1⟩; have HR1 := Lib.hid hR1; clear hR1 c0 z0 l0) | (go_at_call 73; (with_reducible refine (HCN.out _ HR1.out).mono ?_); rintro e W9 ⟨rfl, hR⟩))
  exact bodyPost_ret (v := .bool b) (by simp [results, Tryz.results39, go_sem, *]) rfl ⟨rfl, hR⟩
set_option maxRecDepth 100000 in
set_option maxHeartbeats 1000000 in
theorem word_E1 (t : Nat) (vv pv : Value) (now left x J I : Int) (S : ByteArray) (b : Bool) (w : World) (hb : Blk w t 66 #[vv, pv, .int .i64 now, .int .i64 left, .int .i64 x]) (hJ : I + 1 = J) (J0 : 0 ≤ J) (J9 : J ≤ 6)
    (hIX : Calls Tryz.prog 71 #[.string ⟨#[77, 76, 81, 67, 90]⟩, .string S] w fun e w' => e = .returned (.int .i64 I) ∧ w' = w) (hl : left = 0) (hS : S.size ≠ 1) (R1 R : World → Prop) (n2 : 2 ≤ now) (n4 : now ≤ 4) (cB : Calls Tryz.prog 72 #[.pointer (some ⟨t, 0, none⟩), .int .i64 now] w fun e w' => e = .returned (.tuple #[]) ∧ R1 w') (cN : ∀ w1, R1 w1 → Calls Tryz.prog 73 #[.pointer (some ⟨t, 0, none⟩), .string S] w1 fun e w' => e = .returned (.bool b) ∧ R w') :
    Calls Tryz.prog 39 #[.pointer (some ⟨t, 0, none⟩), .string S] w fun e w' => e = .returned (.bool b) ∧ R w' := by
  obtain ⟨c0, z0, l0⟩ := hb.all
  have HIX := Lib.hid hIX
  clear hIX hb
  subst hl
  have d3 : ((S.size : Int) == 1) = false := by simp; omega
  have d4 : decide ((S.size : Int) = 1) = false := by simp; omega
  clear hS
  have f0 : (now == 0) = false := by simp; omega
  have f5 : (now == 5) = false := by simp; omega
  have f1 : (now == 1) = false := by simp; omega
  have HCN := Lib.hid cN
  have HCB := Lib.hid cB
  clear cN cB
  go_enter Tryz.func39, Tryz.ntmps39
  go_wp2_with (first | (go_at_call 71; (with_reducible refine (HIX.out).mono ?_); rintro e _ ⟨rfl, rfl⟩) | (go_at_call 72; (with_reducible refine (HCB.out).mono ?_); rintro e W8 ⟨rfl, hR1⟩; have HR1 := Lib.hid hR1; clear hR1 c0 z0 l0) | (go_at_call 73; (with_reducible refine (HCN.out _ HR1.out).mono ?_); rintro e W9 ⟨rfl, hR⟩))
  exact bodyPost_ret (v := .bool b) (by simp [results, Tryz.results39, go_sem, *]) rfl ⟨rfl, hR⟩
set_option maxRecDepth 100000 in
set_option maxHeartbeats 1000000 in
theorem word_E2 (t : Nat) (vv pv : Value) (now left x J I : Int) (S : ByteArray) (b : Bool) (w : World) (hb : Blk w t 66 #[vv, pv, .int .i64 now, .int .i64 left, .int .i64 x]) (hJ : I + 1 = J) (J0 : 0 ≤ J) (J9 : J ≤ 6)
    (hIX : Calls Tryz.prog 71 #[.string ⟨#[77, 76, 81, 67, 90]⟩, .string S] w fun e w' => e = .returned (.int .i64 I) ∧ w' = w) (hl : left = 0) (hS : S.size = 1) (hJ1 : J = 0) (R1 R : World → Prop) (n2 : 2 ≤ now) (n4 : now ≤ 4) (cB : Calls Tryz.prog 72 #[.pointer (some ⟨t, 0, none⟩), .int .i64 now] w fun e w' => e = .returned (.tuple #[]) ∧ R1 w') (cN : ∀ w1, R1 w1 → Calls Tryz.prog 73 #[.pointer (some ⟨t, 0, none⟩), .string S] w1 fun e w' => e = .returned (.bool b) ∧ R w') :
    Calls Tryz.prog 39 #[.pointer (some ⟨t, 0, none⟩), .string S] w fun e w' => e = .returned (.bool b) ∧ R w' := by
  obtain ⟨c0, z0, l0⟩ := hb.all
  have HIX := Lib.hid hIX
  clear hIX hb
  subst hl
  subst hJ1
  have d3 : ((S.size : Int) == 1) = true := by rw [hS]; rfl
  clear hS
  have f0 : (now == 0) = false := by simp; omega
  have f5 : (now == 5) = false := by simp; omega
  have f1 : (now == 1) = false := by simp; omega
  have HCN := Lib.hid cN
  have HCB := Lib.hid cB
  clear cN cB
  go_enter Tryz.func39, Tryz.ntmps39
  go_wp2_with (first | (go_at_call 71; (with_reducible refine (HIX.out).mono ?_); rintro e _ ⟨rfl, rfl⟩) | (go_at_call 72; (with_reducible refine (HCB.out).mono ?_); rintro e W8 ⟨rfl, hR1⟩; have HR1 := Lib.hid hR1; clear hR1 c0 z0 l0) | (go_at_call 73; (with_reducible refine (HCN.out _ HR1.out).mono ?_); rintro e W9 ⟨rfl, hR⟩))
  exact bodyPost_ret (v := .bool b) (by simp [results, Tryz.results39, go_sem, *]) rfl ⟨rfl, hR⟩

theorem psE_is (l : List UInt8) : (psE l == 0) = (ps l).isSome := by
  unfold psE
  cases ps l <;> rfl
theorem PAt.num_c {s : PSt} (l : List UInt8) (hl : 0 < s.left) {base t : Nat} {vv pv : Value} {w : World} (h : PAt base t vv pv s w) (hp : s.pt.length < 1000000) (hB : base ≤ w.heap.size) :
    Calls Tryz.prog 73 #[.pointer (some ⟨t, 0, none⟩), .string ⟨l.toArray⟩] w fun e w' => e = .returned (.bool (ps l).isSome) ∧ ∃ pv', PAt base t vv pv' (s.num (psV l)) w' ∧ PKeep base t w w' := by
  obtain ⟨k, hk⟩ : ∃ k, s.left = k + 1 := ⟨s.left - 1, by omega⟩
  have hc := fun v => parse_l l v
  by_cases h2 : k % 2 = 1
  · have e : s.num (psV l) = { s with left := k, x := psV l } := by unfold PSt.num; rw [hk, if_pos (by simpa using h2)]; rfl
    rw [e]
    exact (number_odd s l (psV l) (psE l) k _ hk h2 (psE_is l) base t vv pv _ w h hc).mono fun e w' hh => ⟨hh.1, pv, hh.2⟩
  · have e : s.num (psV l) = { s with left := k, pt := s.pt ++ [(s.x, psV l)] } := by unfold PSt.num; rw [hk, if_neg (by simpa using h2)]; rfl
    rw [e]
    exact number_even s l (psV l) (psE l) k _ hk (by omega) (psE_is l) base t vv pv _ w h hp hB hc
/-- what is told of a word that is a number -/
theorem num_told {s st : PSt} {l : List UInt8} {base t : Nat} {w w' : World} (hw : s.word l = (ps l).map st.num) (h : ∃ vv pv, PAt base t vv pv (st.num (psV l)) w' ∧ PKeep base t w w') :
    (s.word l).isSome = (ps l).isSome ∧ (∀ s', s.word l = some s' → ∃ vv' pv', PAt base t vv' pv' s' w') ∧ PKeep base t w w' := by
  obtain ⟨vv, pv, h1, h2⟩ := h
  refine ⟨by rw [hw, Option.isSome_map], fun s' hs => ?_, h2⟩
  rw [hw] at hs
  cases e : ps l with
  | none => rw [e] at hs; cases hs
  | some n =>
    rw [e] at hs
    obtain rfl := Option.some.inj hs
    rw [(ps_some e).1] at h1
    exact ⟨vv, pv, h1⟩
theorem word_c (s : PSt) (l : List UInt8) (base t : Nat) (vv pv : Value) (mx : Int) (w : World) (h : PAt base t vv pv s w) (hv : s.vb.length < 900000) (hp : s.pt.length < 900000) (hB : base ≤ w.heap.size) (hm : w.cell? ⟨2, 0, none⟩ = some (.int .i64 mx)) :
    Calls Tryz.prog 39 #[.pointer (some ⟨t, 0, none⟩), .string ⟨l.toArray⟩] w fun e w' => e = .returned (.bool (s.word l).isSome) ∧ (∀ s', s.word l = some s' → ∃ vv' pv', PAt base t vv' pv' s' w') ∧ PKeep base t w w' := by
  have hIX : Calls Tryz.prog 71 #[.string ⟨#[77, 76, 81, 67, 90]⟩, .string ⟨l.toArray⟩] w fun e w' => e = .returned (.int .i64 (Lib.index lets l)) ∧ w' = w := Tryz.strings_Index ⟨#[77, 76, 81, 67, 90]⟩ ⟨l.toArray⟩ mx w (by decide) hm
  have i0 := Lib.index_ge lets l
  have i5 := Lib.index_le lets l
  have hl5 : lets.length = 5 := rfl
  rw [hl5] at i5
  generalize hI : Lib.index lets l = I at *
  have hb := h.box
  have hf := h.few
  have hS : (⟨l.toArray⟩ : ByteArray).size = l.length := ba_size l
  by_cases h1 : 0 < s.left
  · have hw : s.word l = (ps l).map s.num := by unfold PSt.word; rw [if_pos h1]
    refine (word_A t vv pv s.now s.left s.x (I + 1) I _ (ps l).isSome w hb rfl (by omega) (by omega) hIX _ (by omega) (h.num_c l h1 (by omega) hB)).mono fun e w' hh => ?_
    obtain ⟨pv', hh2⟩ := hh.2
    obtain ⟨e1, e2, e3⟩ := num_told hw ⟨vv, pv', hh2⟩
    exact ⟨by rw [hh.1, e1], e2, e3⟩
  have h0 : (s.left : Int) = 0 := by omega
  by_cases hv0 : 0 < vrb l
  · have hl1 : l.length = 1 := Classical.byContradiction fun hn => by rw [vrb_long l hn] at hv0; omega
    have hw : s.word l = some (s.begin_ (vrb l)) := by unfold PSt.word; rw [if_neg h1, if_pos hv0]
    have hJ : I + 1 = (vrb l : Int) := by
      cases l with
      | nil => simp at hl1
      | cons b r =>
        have : r = [] := by simpa using hl1
        subst this
        rw [← hI]
        exact idx_one b
    have hbg := begin_c s (vrb l) ⟨hv0, vrb_le l⟩ base t vv pv w h (by omega) hB
    refine (word_B t vv pv s.now s.left s.x (vrb l) I _ true w hb hJ (by omega) (by have := vrb_le l; omega) hIX _ h0 (by rw [hS]; exact hl1) (by omega) hbg).mono fun e w' hh => ?_
    obtain ⟨vv', h2, h3⟩ := hh.2
    refine ⟨by rw [hh.1, hw]; rfl, fun s' hs => ?_, h3⟩
    rw [hw] at hs
    obtain rfl := Option.some.inj hs
    exact ⟨vv', pv, h2⟩
  have hJ2 : l.length ≠ 1 ∨ (l.length = 1 ∧ I + 1 = 0) := by
    by_cases hl1 : l.length = 1
    · refine .inr ⟨hl1, ?_⟩
      cases l with
      | nil => simp at hl1
      | cons b r =>
        have : r = [] := by simpa using hl1
        subst this
        rw [← hI, idx_one b]
        omega
    · exact .inl hl1
  by_cases hn : s.now = 0 ∨ s.now = 5
  · have hw : s.word l = none := by unfold PSt.word; rw [if_neg h1, if_neg hv0, if_pos hn]
    have done : ∀ e w', (e = Ending.returned (.bool false) ∧ w' = w) → e = .returned (.bool (s.word l).isSome) ∧ (∀ s', s.word l = some s' → ∃ vv' pv', PAt base t vv' pv' s' w') ∧ PKeep base t w w' := fun e w' hh =>
      ⟨by rw [hh.1, hw]; rfl, fun s' hs => (by rw [hw] at hs; cases hs), by rw [hh.2]; exact PKeep.refl _ _ _⟩
    rcases hJ2 with hl1 | ⟨hl1, hJ⟩
    · rcases hn with hn | hn
      · exact (word_C01 t vv pv s.now s.left s.x (I + 1) I _ false w hb rfl (by omega) (by omega) hIX h0 (by rw [hS]; exact hl1) (by omega)).mono done
      · exact (word_C51 t vv pv s.now s.left s.x (I + 1) I _ false w hb rfl (by omega) (by omega) hIX h0 (by rw [hS]; exact hl1) (by omega)).mono done
    · rcases hn with hn | hn
      · exact (word_C02 t vv pv s.now s.left s.x (I + 1) I _ false w hb rfl (by omega) (by omega) hIX h0 (by rw [hS]; exact hl1) hJ (by omega)).mono done
      · exact (word_C52 t vv pv s.now s.left s.x (I + 1) I _ false w hb rfl (by omega) (by omega) hIX h0 (by rw [hS]; exact hl1) hJ (by omega)).mono done
  obtain ⟨v, hv1⟩ : ∃ v, v = (if s.now = 1 then 2 else s.now) := ⟨_, rfl⟩
  have hw : s.word l = (ps l).map (s.begin_ v).num := by unfold PSt.word; rw [if_neg h1, if_neg hv0, if_neg hn, ← hv1]
  have hv4 : 2 ≤ v ∧ v ≤ 4 := by rw [hv1]; split <;> omega
  have hbg := begin_c s v ⟨by omega, by omega⟩ base t vv pv w h (by omega) hB
  have hlp : 0 < (s.begin_ v).left := by
    show 0 < 2 * tkN v
    rcases (show v = 2 ∨ v = 3 ∨ v = 4 by omega) with rfl | rfl | rfl <;> decide
  have hnm : ∀ w1, (∃ vv', PAt base t vv' pv (s.begin_ v) w1 ∧ PKeep base t w w1) → Calls Tryz.prog 73 #[.pointer (some ⟨t, 0, none⟩), .string ⟨l.toArray⟩] w1 fun e w' => e = .returned (.bool (ps l).isSome) ∧ ∃ vv' pv', PAt base t vv' pv' ((s.begin_ v).num (psV l)) w' ∧ PKeep base t w w' := fun w1 ⟨vv', g1, g2⟩ =>
    (g1.num_c l hlp (show s.pt.length < 1000000 by omega) (Nat.le_trans hB g2.size)).mono fun e w' hh => by
      obtain ⟨k1, pv', k2, k3⟩ := hh
      exact ⟨k1, vv', pv', k2, g2.trans k3⟩
  have done : ∀ e w', (e = Ending.returned (.bool (ps l).isSome) ∧ ∃ vv' pv', PAt base t vv' pv' ((s.begin_ v).num (psV l)) w' ∧ PKeep base t w w') → e = .returned (.bool (s.word l).isSome) ∧ (∀ s', s.word l = some s' → ∃ vv' pv', PAt base t vv' pv' s' w') ∧ PKeep base t w w' := fun e w' hh => by
    obtain ⟨e1, e2, e3⟩ := num_told hw hh.2
    exact ⟨by rw [hh.1, e1], e2, e3⟩
  by_cases hn1 : s.now = 1
  · rw [if_pos hn1] at hv1
    subst hv1
    rcases hJ2 with hl1 | ⟨hl1, hJ⟩
    · exact (word_D1 t vv pv s.now s.left s.x (I + 1) I _ _ w hb rfl (by omega) (by omega) hIX h0 (by rw [hS]; exact hl1) _ _ (by omega) hbg hnm).mono done
    · exact (word_D2 t vv pv s.now s.left s.x (I + 1) I _ _ w hb rfl (by omega) (by omega) hIX h0 (by rw [hS]; exact hl1) hJ _ _ (by omega) hbg hnm).mono done
  · rw [if_neg hn1] at hv1
    subst hv1
    rcases hJ2 with hl1 | ⟨hl1, hJ⟩
    · exact (word_E1 t vv pv s.now s.left s.x (I + 1) I _ _ w hb rfl (by omega) (by omega) hIX h0 (by rw [hS]; exact hl1) _ _ (by omega) (by omega) hbg hnm).mono done
    · exact (word_E2 t vv pv s.now s.left s.x (I + 1) I _ _ w hb rfl (by omega) (by omega) hIX h0 (by rw [hS]; exact hl1) hJ _ _ (by omega) (by omega) hbg hnm).mono done
end Go.Proofs.YtjmagehfkcnjjaaGreatDoor

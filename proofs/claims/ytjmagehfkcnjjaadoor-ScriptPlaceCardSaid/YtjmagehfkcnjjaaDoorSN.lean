/-
  The parser of words: a number.
-/
import Derived.Test.YtjmagehfkcnjjaaDoorSP
namespace Go.Proofs.YtjmagehfkcnjjaaDoor
set_option linter.unusedVariables false
open Go.RowKit

theorem bit_is (k : Nat) (h : k ≤ 6) : (bits BinOp.and IntKind.i64 (k : Int) 1 == 1) = decide (k % 2 = 1) := by
  rcases (show k = 0 ∨ k = 1 ∨ k = 2 ∨ k = 3 ∨ k = 4 ∨ k = 5 ∨ k = 6 by omega) with rfl | rfl | rfl | rfl | rfl | rfl | rfl <;> rfl
theorem blk_two {W : World} {g : Nat} {T : TypeId} {p q : Value} (h : Blk W g T #[p, q]) : ∀ j u, ([p, q] : List Value)[j]? = some u → W.cell? ((⟨g, 0, none⟩ : Addr).add j) = some u := by
  intro j u hj
  rw [Addr.add_mid, Nat.zero_add, h.cell]
  simpa using hj
theorem two_int (p q : Int) : ∀ x ∈ ([.int .i64 p, .int .i64 q] : List Value), x.oneCell' = true := by intro x hx; simp at hx; rcases hx with rfl | rfl <;> rfl
set_option maxRecDepth 100000 in
set_option maxHeartbeats 1000000 in
theorem number_odd (s : PSt) (l : List UInt8) (V E : Int) (k : Nat) (b : Bool) (hl : s.left = k + 1) (hk : k % 2 = 1) (hE : (E == 0) = b) (base t : Nat) (vv pv : Value) (S : ByteArray) (w : World) (h : PAt base t vv pv s w)
    (c1 : ∀ w', Calls Tryd.prog 10 #[.string S] w' fun e w'' => e = .returned (.tuple #[.int .i64 V, .int .i64 E]) ∧ ∃ x : Later w', w'' = x.out) :
    Calls Tryd.prog 66 #[.pointer (some ⟨t, 0, none⟩), .string S] w fun e w' => e = .returned (.bool b) ∧ PAt base t vv pv { s with left := k, x := V } w' ∧ PKeep base t w w' := by
  obtain ⟨hb, ho, hp, hlt, f1, f2, f3, f4⟩ := h
  have HB := Lib.hid hb
  have HO := Lib.hid ho
  have HP := Lib.hid hp
  have HC1 := Lib.hid c1
  rw [hl] at hb
  obtain ⟨c0, z0, l0⟩ := hb.all
  have e1 : ((k + 1 : Nat) : Int) - 1 = (k : Int) := by omega
  have hk6 : k ≤ 6 := by omega
  clear c1 hb ho hp
  go_enter Tryd.func66, Tryd.ntmps66
  have hbit : (bits BinOp.and IntKind.i64 (k : Int) 1 == 1) = true := by rw [bit_is k (by omega)]; simp [hk]
  clear hk hl
  go_wp2_with (go_at_call 10; (with_reducible refine (HC1.out _).mono ?_); rintro e _ ⟨rfl, x, rfl⟩)
  have k0 := HB.out.later x
  have o0 := own_later HO.out x
  have p0 := own_later HP.out x
  have nv : vv.ownBlock ≠ some t := own_ne o0 k0 (by decide)
  have np : pv.ownBlock ≠ some t := own_ne p0 k0 (by decide)
  refine bodyPost_ret (v := .bool b) (by simp [results, Tryd.results66, go_sem]) rfl ⟨rfl, ⟨?_, ?_, ?_, hlt, f1, f2, f3, hk6⟩, (((PKeep.refl base t w).later x).set 3 _).set 4 _⟩
  · exact ((k0.set 3 _).set 4 _).eq (by simp)
  · exact Go.ownsRow_setCell_other (Go.ownsRow_setCell_other o0 (a := ⟨t, 3, none⟩) nv _) (a := ⟨t, 4, none⟩) nv _
  · exact Go.ownsRow_setCell_other (Go.ownsRow_setCell_other p0 (a := ⟨t, 3, none⟩) np _) (a := ⟨t, 4, none⟩) np _
set_option maxRecDepth 100000 in
set_option maxHeartbeats 1000000 in
theorem number_even (s : PSt) (l : List UInt8) (V E : Int) (k : Nat) (b : Bool) (hl : s.left = k + 1) (hk : k % 2 = 0) (hE : (E == 0) = b) (base t : Nat) (vv pv : Value) (S : ByteArray) (w : World) (h : PAt base t vv pv s w) (hpl : s.pt.length < 1000) (hB : base ≤ w.heap.size)
    (c1 : ∀ w', Calls Tryd.prog 10 #[.string S] w' fun e w'' => e = .returned (.tuple #[.int .i64 V, .int .i64 E]) ∧ ∃ x : Later w', w'' = x.out) :
    Calls Tryd.prog 66 #[.pointer (some ⟨t, 0, none⟩), .string S] w fun e w' => e = .returned (.bool b) ∧ ∃ pv', PAt base t vv pv' { s with left := k, pt := s.pt ++ [(s.x, V)] } w' ∧ PKeep base t w w' := by
  obtain ⟨i0, hi0, hz0, hz1, hz2⟩ := infoPt
  obtain ⟨hb, ho, hp, hlt, f1, f2, f3, f4⟩ := h
  have HB := Lib.hid hb
  have HO := Lib.hid ho
  have HP := Lib.hid hp
  have HC1 := Lib.hid c1
  rw [hl] at hb
  obtain ⟨c0, z0, l0⟩ := hb.all
  have e1 : ((k + 1 : Nat) : Int) - 1 = (k : Int) := by omega
  have hk6 : k ≤ 6 := by omega
  have hbit : (bits BinOp.and IntKind.i64 (k : Int) 1 == 1) = false := by rw [bit_is k (by omega)]; simp; omega
  clear c1 hb ho hp hk hl
  go_enter Tryd.func66, Tryd.ntmps66
  go_wp2_with (go_at_call 10; (with_reducible refine (HC1.out _).mono ?_); rintro e _ ⟨rfl, x, rfl⟩)
  have k0 := (HB.out.later x).set 3 (.int .i64 (k : Int))
  have o0 := own_later HO.out x
  have p0 := own_later HP.out x
  have nv : vv.ownBlock ≠ some t := own_ne o0 (HB.out.later x) (by decide)
  have np : pv.ownBlock ≠ some t := own_ne p0 (HB.out.later x) (by decide)
  have o1 := Go.ownsRow_setCell_other o0 (a := ⟨t, 3, none⟩) nv (.int .i64 (k : Int))
  have p1 := Go.ownsRow_setCell_other p0 (a := ⟨t, 3, none⟩) np (.int .i64 (k : Int))
  have kp1 := ((PKeep.refl base t w).later x).set 3 (.int .i64 (k : Int))
  have hs1 : w.heap.size ≤ (x.out.setCell ⟨t, 3, none⟩ (.int .i64 (k : Int))).heap.size := by rw [World.size_setCell]; exact x.size_le
  generalize x.out.setCell ⟨t, 3, none⟩ (.int .i64 (k : Int)) = W1 at *
  have K0 := Lib.hid k0
  have HO1 := Lib.hid o1
  have HP1 := Lib.hid p1
  have HKP := Lib.hid kp1
  obtain ⟨c1, z1, l1⟩ := k0.all
  clear k0 o1 p1 kp1 o0 p0 c0 z0 l0 x
  refine wp_region_oneF 0 _ (.pointer (some ⟨t, 0, none⟩)) [1, 2, 3, 4, 5, 6, 7, 8, 9, 10, 11] 12 [13, 14, 15, 16, 17] (fun g => .slice (some ⟨g, 0, none⟩) 1 1) (.cells #[.int .i64 s.x, .int .i64 V] 64) (by kernel_rfl) rfl ⟨.inl ⟨by rfl, fun w => by simp [execOp, go_sem]⟩, fun w => by rfl⟩ (fun _ _ _ h => h) (by kernel_rfl) (by kernel_rfl) (by kernel_rfl) (by kernel_rfl) (noInit_ofN (by kernel_rfl)) (fun y => ?_)
  simp only [pick, List.getElem?_cons_zero, List.getElem?_cons_succ, Act.put, List.setIfInBounds_toArray, List.set_cons_succ, List.set_cons_zero]
  repeat (go_big_quiet_step ((first | fail)))
  refine wpQuiet_nil ?_
  refine ⟨(by intro o ho; obtain rfl := Option.some.inj ho; refine ⟨rfl, fun wc => ?_⟩; simp [execOp, go_sem]; done), ?_⟩
  intro gq x hgq hx
  simp only [dstOf, List.getElem?_toArray, List.getElem?_cons_succ, List.getElem?_cons_zero, Option.bind_some, Act.put, List.setIfInBounds_toArray, List.set_cons_succ, List.set_cons_zero]
  have bg : Blk x.out gq 64 #[.int .i64 s.x, .int .i64 V] := hx
  have HG := Lib.hid bg
  have how := own_later HP1.out x
  have hxs := x.size_le
  refine wpListIn_append_own _ rfl _ _ 38 rfl base 64 i0 (.agg #[.int .i64 0, .int .i64 0]) 2 16 Tryd.underlying38 hi0 hz0 hz1 hz2 rfl (by decide) _ _ _ rfl how ⟨gq, 0, none⟩ 1 1 [.int .i64 s.x, .int .i64 V] rfl rfl (blk_two bg) (two_int _ _) (by unfold maxLen; omega) (by omega) (by omega) ?_
  intro v' w3 hown hgrow hnil
  obtain ⟨g, cap, rfl⟩ := Go.Joins.ownsRow_form hown (by omega)
  have kb := Blk.apart (K0.out.later x) how (by decide) hgrow
  have o3 := own_by how (own_later HO1.out x) (by decide) hgrow
  have kp := ((HKP.out.later x).own how (.inr rfl) hgrow)
  obtain ⟨q1, q2, q3⟩ := kb.all
  have HKB := Lib.hid kb
  have HOW := Lib.hid hown
  have HO3 := Lib.hid o3
  have HKP3 := Lib.hid kp
  clear hown hgrow hnil how bg hx kb o3 kp c1 z1 l1
  simp only [Act.put, List.setIfInBounds_toArray, List.set_cons_succ, List.set_cons_zero]
  gi_wp2
  go_wp2_with (fail)
  have n3 : (Value.slice (some ⟨g, 0, none⟩) (s.pt.length + 1) cap).ownBlock ≠ some t := own_ne HOW.out HKB.out (by decide)
  refine bodyPost_ret (v := .bool b) (by simp [results, Tryd.results66, go_sem]) rfl ⟨rfl, .slice (some ⟨g, 0, none⟩) (s.pt.length + 1) cap, ⟨?_, ?_, ?_, hlt, f1, ?_, f3, hk6⟩, HKP3.out.set 1 _⟩
  · exact (HKB.out.set 1 _).eq (by simp)
  · exact Go.ownsRow_setCell_other HO3.out (a := ⟨t, 1, none⟩) nv _
  · have h := Go.ownsRow_setCell_other HOW.out (a := ⟨t, 1, none⟩) n3 (.slice (some ⟨g, 0, none⟩) (s.pt.length + 1) cap)
    show World.ownsRow _ base 64 2 _ (s.pt ++ [(s.x, V)]).length (fl (s.pt ++ [(s.x, V)]))
    rw [fl_append, List.length_append]
    exact h
  · show (s.pt ++ [(s.x, V)]).length ≤ 1000
    rw [List.length_append]; exact hpl
end Go.Proofs.YtjmagehfkcnjjaaDoor

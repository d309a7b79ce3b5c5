/-
  The parser of words: what it holds; a verb begins.
-/
import Derived.Test.YtjmagehfkcnjjaaGreatDoorSQ
import Derived.Test.YtjmagehfkcnjjaaGreatDoorKC
namespace Go.Proofs.YtjmagehfkcnjjaaGreatDoor
set_option linter.unusedVariables false
open Go.RowKit

structure PSt where
  vb : List Int
  pt : List (Int × Int)
  now : Nat
  left : Nat
  x : Int
def tkN (v : Nat) : Nat := if v = 1 then 1 else if v = 2 then 1 else if v = 3 then 2 else if v = 4 then 3 else 0
theorem tkV_tkN (v : Nat) (h : 1 ≤ v ∧ v ≤ 5) : tkV (v : Int) = (tkN v : Int) ∧ tkN v ≤ 3 := by
  rcases (show v = 1 ∨ v = 2 ∨ v = 3 ∨ v = 4 ∨ v = 5 by omega) with rfl | rfl | rfl | rfl | rfl <;> exact ⟨rfl, by decide⟩
def PSt.begin_ (s : PSt) (v : Nat) : PSt := { s with vb := s.vb ++ [(v : Int)], now := v, left := 2 * tkN v }
def PSt.num (s : PSt) (n : Int) : PSt := if (s.left - 1) % 2 = 1 then { s with left := s.left - 1, x := n } else { s with left := s.left - 1, pt := s.pt ++ [(s.x, n)] }
/-- the number of a verb's letter -/
def vrb (w : List UInt8) : Nat := if w = [77] then 1 else if w = [76] then 2 else if w = [81] then 3 else if w = [67] then 4 else if w = [90] then 5 else 0
def PSt.word (s : PSt) (w : List UInt8) : Option PSt :=
  if 0 < s.left then (ps w).map s.num
  else if 0 < vrb w then some (s.begin_ (vrb w))
  else if s.now = 0 ∨ s.now = 5 then none
  else (ps w).map (s.begin_ (if s.now = 1 then 2 else s.now)).num
def intsV (l : List Int) : List Value := l.map (Value.int .i64)
theorem intsV_len (l : List Int) : (intsV l).length = l.length := by simp [intsV]
theorem intsV_app (l : List Int) (a : Int) : intsV (l ++ [a]) = intsV l ++ [.int .i64 a] := by simp [intsV]
/-- where the parser's state lies: its block, and two rows of its own -/
structure PAt (base t : Nat) (vv pv : Value) (s : PSt) (W : World) : Prop where
  box : Blk W t 66 #[vv, pv, .int .i64 (s.now : Int), .int .i64 (s.left : Int), .int .i64 s.x]
  vown : W.ownsRow base 3 1 vv s.vb.length (intsV s.vb)
  pown : W.ownsRow base 48 2 pv s.pt.length (fl s.pt)
  lt : t < base
  few : s.vb.length ≤ 1000000 ∧ s.pt.length ≤ 1000000 ∧ s.now ≤ 5 ∧ s.left ≤ 6
/-- what the parser's own text turns: its block, rows of its own (from base on, of ints or points), and what is new -/
structure PKeep (base t : Nat) (W W' : World) : Prop where
  os : W'.os = W.os
  tape : W'.tape = W.tape
  output : W'.output = W.output
  size : W.heap.size ≤ W'.heap.size
  block : ∀ b, b < W.heap.size → b ≠ t → (b < base ∨ ∀ c T, W.heap[b]? = some (.cells c T) → T ≠ 3 ∧ T ≠ 48) → W'.heap[b]? = W.heap[b]?
theorem PKeep.refl (base t : Nat) (W : World) : PKeep base t W W := ⟨rfl, rfl, rfl, Nat.le_refl _, fun _ _ _ _ => rfl⟩
theorem PKeep.trans {base t : Nat} {A B C : World} (h : PKeep base t A B) (k : PKeep base t B C) : PKeep base t A C :=
  ⟨k.os.trans h.os, k.tape.trans h.tape, k.output.trans h.output, Nat.le_trans h.size k.size, fun b h1 h2 h3 => by
    have e := h.block b h1 h2 h3
    exact (k.block b (Nat.lt_of_lt_of_le h1 h.size) h2 (by rw [e]; exact h3)).trans e⟩
theorem PKeep.later {base t : Nat} {A B : World} (h : PKeep base t A B) (x : Later B) : PKeep base t A x.out :=
  h.trans ⟨x.below.os, x.below.tape, x.below.output, x.size_le, fun b h1 _ _ => x.below.block b h1⟩
theorem PKeep.set {base t : Nat} {A B : World} (h : PKeep base t A B) (i : Nat) (u : Value) : PKeep base t A (B.setCell ⟨t, i, none⟩ u) :=
  h.trans ⟨rfl, rfl, rfl, by simp, fun b _ h2 _ => Below.heap_setCell B ⟨t, i, none⟩ u b h2⟩
theorem PKeep.alloc {base t : Nat} {A B : World} (h : PKeep base t A B) (o : Obj) : PKeep base t A (B.alloc o) :=
  h.trans ⟨rfl, rfl, rfl, by simp, fun b h1 _ _ => Below.heap_alloc B o b h1⟩
theorem PKeep.own {base t : Nat} {A B C : World} {size n : Nat} {e : TypeId} {v : Value} {xs : List Value} (h : PKeep base t A B) (ho : B.ownsRow base e size v n xs) (he : e = 3 ∨ e = 48) (hg : B.grownBy C v.ownBlock) : PKeep base t A C :=
  h.trans ⟨hg.os, hg.tape, hg.output, hg.size, fun b h1 h2 h3 => hg.block b h1 (fun k => by
    rcases ho.2 with ⟨rfl, _⟩ | ⟨g', cap, cur, rfl, _, hh, _⟩
    · cases k
    · simp only [Value.ownBlock, Option.some.injEq] at k
      subst k
      have hb := (ho.lt b rfl).1
      rcases h3 with h3 | h3
      · omega
      · have := h3 _ _ hh
        rcases he with rfl | rfl
        · exact this.1 rfl
        · exact this.2 rfl)⟩
theorem infoI : ∃ i, Tryz.prog.info? 3 = some i ∧ i.zero = some (.int .i64 0) ∧ i.size = 1 ∧ i.bytes = 8 := by
  have h : (Tryz.prog.info? 3).map (fun i => (i.zero, i.size, i.bytes)) = some (some (.int .i64 0), 1, 8) := by kernel_rfl
  cases e : Tryz.prog.info? 3 with
  | none => rw [e] at h; cases h
  | some i => rw [e] at h; simp at h; exact ⟨i, rfl, h.1, h.2.1, h.2.2⟩
theorem one_int (n : Int) : ∀ x ∈ ([.int .i64 n] : List Value), x.oneCell' = true := by intro x hx; simp at hx; subst hx; rfl
theorem one_int_at (W : World) (T : TypeId) (n : Int) (b : Nat) (hb : b = W.heap.size) : ∀ j u, ([.int .i64 n] : List Value)[j]? = some u → (W.alloc (.cells #[.int .i64 n] T)).cell? ((⟨b, 0, none⟩ : Addr).add j) = some u := by
  intro j u h
  subst hb
  rw [Addr.add_mid, Nat.zero_add, (Blk.new W T #[.int .i64 n]).cell]
  simpa using h
/-- two rows of a text's own, of two kinds, are apart -/
theorem own_apart {W : World} {b1 b2 s1 s2 n1 n2 : Nat} {e1 e2 : TypeId} {v1 v2 : Value} {x1 x2 : List Value} (h1 : W.ownsRow b1 e1 s1 v1 n1 x1) (h2 : W.ownsRow b2 e2 s2 v2 n2 x2) (hne : e1 ≠ e2) (g : Nat) (hg : v1.ownBlock = some g) : v2.ownBlock ≠ some g := by
  rcases h1.2 with ⟨rfl, _⟩ | ⟨g', cap, cur, rfl, _, hh, _⟩
  · cases hg
  · simp only [Value.ownBlock, Option.some.injEq] at hg
    subst hg
    exact own_ne h2 hh hne
theorem own_by {W W' : World} {b1 b2 s1 s2 n1 n2 : Nat} {e1 e2 : TypeId} {v1 v2 : Value} {x1 x2 : List Value} (h1 : W.ownsRow b1 e1 s1 v1 n1 x1) (h2 : W.ownsRow b2 e2 s2 v2 n2 x2) (hne : e1 ≠ e2) (hg : W.grownBy W' v1.ownBlock) : W'.ownsRow b2 e2 s2 v2 n2 x2 := by
  refine h2.kept hg ?_
  cases e : v2.ownBlock with
  | none => exact .inl rfl
  | some g => exact .inr (fun k => own_apart h1 h2 hne g k.symm e)
set_option maxRecDepth 100000 in
set_option maxHeartbeats 1000000 in
theorem begin_c (s : PSt) (v : Nat) (hv : 1 ≤ v ∧ v ≤ 5) (base t : Nat) (vv pv : Value) (w : World) (h : PAt base t vv pv s w) (hvl : s.vb.length < 1000000) (hB : base ≤ w.heap.size) :
    Calls Tryz.prog 72 #[.pointer (some ⟨t, 0, none⟩), .int .i64 (v : Int)] w fun e w' => e = .returned (.tuple #[]) ∧ ∃ vv', PAt base t vv' pv (s.begin_ v) w' ∧ PKeep base t w w' := by
  obtain ⟨i0, hi0, hz0, hz1, hz2⟩ := infoI
  obtain ⟨hb, ho, hp, hlt, f1, f2, f3, f4⟩ := h
  obtain ⟨ht, ht3⟩ := tkV_tkN v hv
  have htk := fun u => tk_c (v : Int) u
  rw [ht] at htk
  obtain ⟨L, hL⟩ : ∃ L : Nat, L = 2 * tkN v := ⟨_, rfl⟩
  have e1 : (2 : Int) * (tkN v : Int) = (L : Int) := by omega
  have hL6 : L ≤ 6 := by omega
  obtain ⟨T, hT⟩ : ∃ T, T = tkN v := ⟨_, rfl⟩
  rw [← hT] at htk e1 ht3
  have HTK := Lib.hid htk
  have HB := Lib.hid hb
  have HO := Lib.hid ho
  have HP := Lib.hid hp
  have HL := Lib.hid hL
  obtain ⟨c0, z0, l0⟩ := hb.all
  clear htk hb ho hp hL ht hT
  go_enter Tryz.func72, Tryz.ntmps72
  go_wp2_with (first | (go_at_call 34; (with_reducible refine (HTK.out _).mono ?_); rintro e _ ⟨rfl, x, rfl⟩) | (at_builtin; go_loud (refine wpList_append_own _ rfl _ _ 28 rfl base 3 i0 (.int .i64 0) 1 8 Tryz.underlying28 hi0 hz0 hz1 hz2 rfl (by decide) _ _ _ rfl ((Go.ownsRow_setCell_other (Go.ownsRow_setCell_other (own_later HO.out x) (own_ne (own_later HO.out x) (HB.out.later x) (by decide)) _) (own_ne (own_later HO.out x) (HB.out.later x) (by decide)) _).alloc _) ⟨x.out.heap.size, 0, none⟩ 1 1 [.int .i64 (v : Int)] rfl rfl (one_int_at _ _ _ _ (by simp)) (one_int _) (by unfold maxLen; omega) (by omega) (by have := x.size_le; simp only [World.size_alloc, World.size_setCell]; omega) ?_); intro v' w3 hown hgrow hnil; obtain ⟨g, cap, rfl⟩ := Go.Joins.ownsRow_form hown (by omega); have kb := Blk.apart ((((HB.out.later x).set 2 (.int .i64 (v : Int))).set 3 (.int .i64 (L : Int))).alloc (.cells #[.int .i64 (v : Int)] 3)) ((Go.ownsRow_setCell_other (Go.ownsRow_setCell_other (own_later HO.out x) (own_ne (own_later HO.out x) (HB.out.later x) (by decide)) _) (own_ne (own_later HO.out x) (HB.out.later x) (by decide)) _).alloc _) (by decide) hgrow; obtain ⟨q1, q2, q3⟩ := kb.all; have HW := Lib.hid hgrow; have HOW := Lib.hid hown; have HKB := Lib.hid kb; clear hown hgrow hnil kb))
  have k0 := HB.out.later x
  have o0 := own_later HO.out x
  have p0 := own_later HP.out x
  have nv : vv.ownBlock ≠ some t := own_ne o0 k0 (by decide)
  have np : pv.ownBlock ≠ some t := own_ne p0 k0 (by decide)
  have oW := (Go.ownsRow_setCell_other (Go.ownsRow_setCell_other o0 (a := ⟨t, 2, none⟩) nv (.int .i64 (v : Int))) (a := ⟨t, 3, none⟩) nv (.int .i64 (L : Int))).alloc (.cells #[.int .i64 (v : Int)] 3)
  have pW := (Go.ownsRow_setCell_other (Go.ownsRow_setCell_other p0 (a := ⟨t, 2, none⟩) np (.int .i64 (v : Int))) (a := ⟨t, 3, none⟩) np (.int .i64 (L : Int))).alloc (.cells #[.int .i64 (v : Int)] 3)
  have p3 := own_by oW pW (by decide) HW.out
  have n3 : (Value.slice (some ⟨g, 0, none⟩) (s.vb.length + 1) cap).ownBlock ≠ some t := own_ne HOW.out HKB.out (by decide)
  have n3p : pv.ownBlock ≠ some t := np
  refine bodyPost_end (v := .tuple #[]) (by simp [results, Tryz.results72, go_sem]) rfl ⟨rfl, .slice (some ⟨g, 0, none⟩) (s.vb.length + 1) cap, ⟨?_, ?_, ?_, hlt, ?_⟩, ?_⟩
  · exact (HKB.out.set 0 _).eq (by rw [HL.out]; simp [PSt.begin_])
  · have h := Go.ownsRow_setCell_other HOW.out (a := ⟨t, 0, none⟩) n3 (.slice (some ⟨g, 0, none⟩) (s.vb.length + 1) cap)
    show World.ownsRow _ base 3 1 _ (s.vb ++ [(v : Int)]).length (intsV (s.vb ++ [(v : Int)]))
    rw [intsV_app, List.length_append]
    exact h
  · exact Go.ownsRow_setCell_other p3 (a := ⟨t, 0, none⟩) np _
  · refine ⟨?_, f2, hv.2, ?_⟩
    · show (s.vb ++ [(v : Int)]).length ≤ 1000000
      rw [List.length_append]; exact hvl
    · show 2 * tkN v ≤ 6
      rw [← HL.out]; exact hL6
  · exact (((((PKeep.refl base t w).later x).set 2 _).set 3 _).alloc _ |>.own oW (.inl rfl) HW.out).set 0 _
end Go.Proofs.YtjmagehfkcnjjaaGreatDoor

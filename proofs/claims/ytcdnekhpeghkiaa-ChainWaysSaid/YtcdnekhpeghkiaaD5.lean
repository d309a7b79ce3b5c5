/-
  A chain's ruler: where the chain is, at so much of its way.
-/
import Derived.Test.YtcdnekhpeghkiaaD3
import Derived.Test.YtcdnekhpeghkiaaD4
namespace Go.Proofs.Ytcdnekhpeghkiaa
set_option linter.unusedVariables false
open Go.RowKit

/-- the lengths of a chain lie in block g -/
structure LnsB (W : World) (g : Nat) (C : Ch) : Prop where
  lt : g < W.heap.size
  cell : ∀ i, i < C.m + 1 → W.cell? ⟨g, 0 + i, none⟩ = some (.int .i64 (C.ln i))
theorem LnsB.below {W W' : World} {g B : Nat} {C : Ch} (h : LnsB W g C) (k : Below B W W') (hb : g < B) : LnsB W' g C := by
  have kb := k.block g hb
  have hl : g < W'.heap.size := by
    rw [Array.getElem?_eq_getElem h.lt] at kb
    exact (Array.getElem?_eq_some_iff.1 kb).1
  exact ⟨hl, fun i hi => (World.cell?_of_block (a := ⟨g, 0 + i, none⟩) kb).trans (h.cell i hi)⟩
theorem LnsB.later {W : World} {g : Nat} {C : Ch} (h : LnsB W g C) (x : Later W) : LnsB x.out g C := h.below x.below h.lt
theorem LnsB.alloc {W : World} {g : Nat} {C : Ch} (h : LnsB W g C) (o : Obj) : LnsB (W.alloc o) g C := h.below ((Below.refl _ W).alloc (Nat.le_refl _) o) h.lt
theorem LnsB.own {W : World} {base g cap : Nat} {C : Ch} (h : W.ownsRow base 3 1 (.slice (some ⟨g, 0, none⟩) (C.m + 1) cap) (C.m + 1) (lns C C.m)) : LnsB W g C :=
  ⟨(h.lt g rfl).2, fun i hi => by rw [Nat.zero_add, h.cellAt i (by omega)]; exact lns_at C C.m i (by omega)⟩
set_option maxRecDepth 100000 in
set_option maxHeartbeats 1000000 in
theorem rtot_c (C : Ch) (Bp o n c gl M cap : Nat) (cl : Bool) (w : World) (hM : M = C.m + 1) (hl : LnsB w gl C) (m9 : C.m ≤ 100) :
    Calls Try.prog 55 #[.agg #[.slice (some ⟨Bp, o, none⟩) n c, .bool cl, .slice (some ⟨gl, 0, none⟩) M cap]] w fun e w' => e = .returned (.int .i64 (C.ln C.m)) ∧ ∃ x : Later w, w' = x.out := by
  have q := hl.cell C.m (by omega)
  have lg := hl.lt
  generalize hm : C.m = m at *
  have HHL := Lib.hid hl
  have d1 : (M : Int) - 1 = (m : Int) := by omega
  have d2 : m < M := by omega
  rw [Nat.zero_add] at q
  clear hl
  go_enter Try.func55, Try.ntmps55
  go_wp2_with (fail)
  exact bodyPost_ret (v := .int .i64 (C.ln m)) (by simp [results, Try.results55, go_sem, *]) rfl ⟨rfl, (Later.mk_of (by repeat (first | (with_reducible assumption) | (with_reducible exact Below.refl _ _) | (with_reducible refine Later.after ?_ _) | (with_reducible refine Later.newer ?_ _) | (with_reducible refine Below.drew ?_) | (with_reducible refine Below.setCell ?_ (by first | exact Nat.le_refl _ | exact Nat.le_add_right _ _ | omega | (simp [go_sem]; done) | (simp [go_sem]; omega)) _))))⟩
theorem rheld_c (C : Ch) (Bp o n c gl M cap : Nat) (cl : Bool) (d : Int) (w : World) (hM : M = C.m + 1) (hl : LnsB w gl C) (m9 : C.m ≤ 100) :
    Calls Try.prog 37 #[.agg #[.slice (some ⟨Bp, o, none⟩) n c, .bool cl, .slice (some ⟨gl, 0, none⟩) M cap], .int .i64 d] w fun e w' => e = .returned (.int .i64 (C.held d)) ∧ ∃ x : Later w, w' = x.out := by
  have hc := fun w' hl' => rtot_c C Bp o n c gl M cap cl w' hM hl' m9
  have e : max 0 (min d (C.ln C.m)) = C.held d := rfl
  generalize C.ln C.m = T at *
  have HC := Lib.hid hc
  have HLL := Lib.hid hl
  have lg := hl.lt
  have HE := Lib.hid e
  clear hc hl hM e
  go_enter Try.func37, Try.ntmps37
  go_wp2_with (first | (go_at_call 55; (with_reducible refine (HC.out _ (HLL.out.alloc _)).mono ?_); rintro e _ ⟨rfl, x, rfl⟩))
  rw [← HE.out]
  exact bodyPost_ret (v := .int .i64 (max 0 (min d T))) (by simp [results, Try.results37, go_sem, *]) rfl ⟨rfl, (Later.mk_of (by repeat (first | (with_reducible assumption) | (with_reducible exact Below.refl _ _) | (with_reducible refine Later.after ?_ _) | (with_reducible refine Later.newer ?_ _) | (with_reducible refine Below.drew ?_) | (with_reducible refine Below.setCell ?_ (by first | exact Nat.le_refl _ | exact Nat.le_add_right _ _ | omega | (simp [go_sem]; done) | (simp [go_sem]; omega)) _))))⟩

theorem dst_le2 (a b : Int × Int) (ha : nearP a) (hb : nearP b) : dst a b ≤ 1073741823 := by
  unfold nearP at ha hb
  have R := dst_root a b
  have b1 : ∀ x : Int, -536870912 ≤ x → x ≤ 536870912 → x * x ≤ 288230376151711744 := fun x h1 h2 => Int.mul_le_mul_of_natAbs_le (x := x) (y := x) (s := 536870912) (t := 536870912) (by omega) (by omega)
  have m1 := b1 (b.1 - a.1) (by omega) (by omega)
  have m2 := b1 (b.2 - a.2) (by omega) (by omega)
  rcases Int.lt_or_le 1073741823 (dst a b) with k | k
  · have lo := R.le
    have := Int.mul_le_mul (show (1073741824 : Int) ≤ dst a b by omega) (show (1073741824 : Int) ≤ dst a b by omega) (by omega) (by omega)
    omega
  · exact k
end Go.Proofs.Ytcdnekhpeghkiaa

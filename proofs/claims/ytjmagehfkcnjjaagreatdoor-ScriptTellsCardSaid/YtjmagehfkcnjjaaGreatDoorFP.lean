/-
  Parse, where it fails early.
-/
import Derived.Test.YtjmagehfkcnjjaaGreatDoorFL
import Derived.Test.YtjmagehfkcnjjaaGreatDoorFH
import Derived.Defers
import Derived.Recover
import Derived.Deep.RegionHeld3
namespace Go.Proofs.YtjmagehfkcnjjaaGreatDoor
set_option linter.unusedVariables false
open Go.RowKit Go.Sort

set_option maxRecDepth 100000 in
set_option maxHeartbeats 1000000 in
theorem catch_wrong (b : Nat) (x y : Int) (w0 w : World) (hn : Blk w b 3 #[.int .i64 x]) (he : Blk w (b + 1) 22 #[.int .i64 y]) (hb : Below b w0 w) : CallsD Tryz.prog 53 #[.pointer (some ⟨b, 0, none⟩), .pointer (some ⟨b + 1, 0, none⟩)] (.panicking [{ v := .iface 88 (.agg #[]), recovered := false }]) w fun e u' w' =>
    e = .returned (.tuple #[]) ∧ u' = .panicking [{ v := .iface 88 (.agg #[]), recovered := true }] ∧ Blk w' b 3 #[.int .i64 0] ∧ Blk w' (b + 1) 22 #[.int .i64 30] ∧ Below b w0 w' := by
  have c1 : w.cell? ⟨b, 0, none⟩ = some (.int .i64 x) := by rw [hn.cell]; rfl
  have z1 := hn.frozen 0
  have c2 : w.cell? ⟨b + 1, 0, none⟩ = some (.int .i64 y) := by rw [he.cell]; rfl
  have z2 := he.frozen 0
  have l1 := hn.lt
  have l2 := he.lt
  have h1 : Blk (((w.setCell ⟨b, 0, none⟩ (.int .i64 0)).setCell ⟨b + 1, 0, none⟩ (.int .i64 30)).alloc (.cells #[] 88)) b 3 #[.int .i64 0] := (((hn.set 0 _).other _ _ (by omega)).alloc _).eq (by simp)
  have h2 : Blk (((w.setCell ⟨b, 0, none⟩ (.int .i64 0)).setCell ⟨b + 1, 0, none⟩ (.int .i64 30)).alloc (.cells #[] 88)) (b + 1) 22 #[.int .i64 30] := (((he.other _ _ (by omega)).set 0 _).alloc _).eq (by simp)
  have h3 : Below b w0 (((w.setCell ⟨b, 0, none⟩ (.int .i64 0)).setCell ⟨b + 1, 0, none⟩ (.int .i64 30)).alloc (.cells #[] 88)) := Below.alloc (Below.setCell (Below.setCell hb (Nat.le_refl _) _) (Nat.le_succ _) _) (by simp; omega) _
  have hta : ∀ W, (Instr.typeAssert (.iface 88 (.agg #[])) 20 88 true).run Tryz.prog W = .ok (.tuple #[.agg #[], .bool true]) W := fun W => by
    simp [Instr.typeAssert, run_underlying Tryz.underlying88, go_sem, Result.andThen]
  refine callsD_of_wpS Tryz.func53 rfl fun c₀ cs hu => ?_
  apply wpS_seq
  apply wpS_region
  simp [wpOpsS, go_sem, recoverD, hu, Tryz.ntmps53, Exit.thenS]
  refine wpS_of_wp ?_
  go_wp2
  have H1 := Lib.hid h1
  have H2 := Lib.hid h2
  have H3 := Lib.hid h3
  clear h1 h2 h3
  cases c₀
  simp [bodyPostS, results, Tryz.results53]
  exact ⟨H1.out, H2.out, H3.out⟩
set_option maxRecDepth 100000 in
set_option maxHeartbeats 1000000 in
theorem parse_0 (S : ByteArray) (h : 30 < S.size) (w : World) : Calls Tryz.prog 31 #[.string S] w fun e w' => e = .returned (.tuple #[.int .i64 0, .int .i64 30]) ∧ ∃ x : Later w, w' = x.out := by
  have hmf : ∀ (fn : Fn) (first cap : Array Value) (w : World), (Instr.makeFunc fn first cap).run Tryz.prog w = .ok (.func fn first cap) w := fun _ _ _ _ => rfl
  have hd : decide ((S.size : Int) ≤ 30) = false := by simp; omega
  go_enter_defers Tryz.func31, Tryz.ntmps31
  go_wp2_with (first | (go_at_call 54; (with_reducible refine (need_yes _).mono ?_); rintro e _ ⟨rfl, y, rfl⟩) | (go_at_call 54; (with_reducible refine (need_no _).mono ?_); rintro e _ ⟨rfl, y, rfl⟩))
  refine leaves_cons (f := 53) (args := #[.pointer (some ⟨w.heap.size, 0, none⟩), .pointer (some ⟨w.heap.size + 1, 0, none⟩)]) (by simp) (by simp [go_sem]) ?_
  refine (catch_wrong w.heap.size 0 0 w _ (Blk.later (Blk.alloc (Blk.new _ _ _) _) y) (Blk.later (Blk.new' (by simp)) y) (by repeat (first | (with_reducible assumption) | (with_reducible exact Below.refl _ _) | (with_reducible refine Later.after ?_ _) | (with_reducible refine Later.newer ?_ _) | (with_reducible refine Below.drew ?_) | (with_reducible refine Below.setCell ?_ (by first | exact Nat.le_refl _ | exact Nat.le_add_right _ _ | omega | (simp [go_sem]; done) | (simp [go_sem]; omega)) _)))).mono ?_
  rintro e u' w'' ⟨rfl, rfl, nf, ef, bf⟩
  have cf : w''.cell? ⟨w.heap.size, 0, none⟩ = some (.int .i64 0) := by rw [nf.cell]; rfl
  have df : w''.cell? ⟨w.heap.size + 1, 0, none⟩ = some (.int .i64 30) := by rw [ef.cell]; rfl
  simp [Leaves, settle, results, Tryz.results31, go_sem, cf, df]
  exact Later.mk_of bf
set_option maxRecDepth 100000 in
set_option maxHeartbeats 1000000 in
theorem parse_1 (S : ByteArray) (h30 : S.size ≤ 30) (b : Bool) (R : ByteArray) (c1 : ∀ (t : Nat) (v : World), Blk v t 92 #[.string S] → Calls Tryz.prog 55 #[.pointer (some ⟨t, 0, none⟩), .int .u8 45] v fun e w' => e = .returned (.bool b) ∧ Blk w' t 92 #[.string R] ∧ Below t v w') (c2 : ∀ (t : Nat) (v : World), Blk v t 92 #[.string R] → Calls Tryz.prog 57 #[.pointer (some ⟨t, 0, none⟩)] v fun e w' => e = .panicked [{ v := .iface 88 (.agg #[]), recovered := false }] ∧ ∃ x : Later v, w' = x.out) (w : World) : Calls Tryz.prog 31 #[.string S] w fun e w' => e = .returned (.tuple #[.int .i64 0, .int .i64 30]) ∧ ∃ x : Later w, w' = x.out := by
  have hmf : ∀ (fn : Fn) (first cap : Array Value) (w : World), (Instr.makeFunc fn first cap).run Tryz.prog w = .ok (.func fn first cap) w := fun _ _ _ _ => rfl
  have Hc1 := Lib.hid c1
  clear c1
  have Hc2 := Lib.hid c2
  clear c2
  have hd : decide ((S.size : Int) ≤ 30) = true := by simp; omega
  go_enter_defers Tryz.func31, Tryz.ntmps31
  go_wp2_with (first | (go_at_call 54; (with_reducible refine (need_yes _).mono ?_); rintro e _ ⟨rfl, y, rfl⟩) | (go_at_call 54; (with_reducible refine (need_no _).mono ?_); rintro e _ ⟨rfl, y, rfl⟩))
  have n1 : Blk (y.out.alloc (.cells #[.string S] 92)) w.heap.size 3 #[.int .i64 0] := by repeat (first | (with_reducible assumption) | (with_reducible refine Blk.later ?_ _) | (with_reducible refine Blk.drew ?_) | ((with_reducible refine Blk.new' ?_); (simp; done)) | (with_reducible refine Blk.alloc ?_ _))
  have e1 : Blk (y.out.alloc (.cells #[.string S] 92)) (w.heap.size + 1) 22 #[.int .i64 0] := by repeat (first | (with_reducible assumption) | (with_reducible refine Blk.later ?_ _) | (with_reducible refine Blk.drew ?_) | ((with_reducible refine Blk.new' ?_); (simp; done)) | (with_reducible refine Blk.alloc ?_ _))
  have t1 : Blk (y.out.alloc (.cells #[.string S] 92)) y.out.heap.size 92 #[.string S] := Blk.new _ _ _
  have b1 : Below w.heap.size w (y.out.alloc (.cells #[.string S] 92)) := (by repeat (first | (with_reducible assumption) | (with_reducible exact Below.refl _ _) | (with_reducible refine Later.after ?_ _) | (with_reducible refine Later.newer ?_ _) | (with_reducible refine Below.drew ?_) | (with_reducible refine Below.setCell ?_ (by first | exact Nat.le_refl _ | exact Nat.le_add_right _ _ | omega | (simp [go_sem]; done) | (simp [go_sem]; omega)) _)))
  have lt : w.heap.size + 1 < y.out.heap.size := by have := y.size_le; simp only [World.size_alloc] at this; omega
  generalize y.out.alloc (.cells #[.string S] 92) = W1 at *
  generalize y.out.heap.size = t at *
  clear y
  go_at_call 55
  refine (Hc1.out t W1 t1).mono ?_
  rintro e W2 ⟨rfl, t2, bz⟩
  have n2 := n1.below bz (by omega)
  have e2 := e1.below bz (by omega)
  have b12 := b1.trans (bz.mono (by omega))
  clear n1 e1 t1 b1 bz
  go_wp2_with (fail)
  go_at_call 57
  refine (Hc2.out t W2 t2).mono ?_
  rintro e _ ⟨rfl, x9, rfl⟩
  try go_simp
  refine leaves_cons (f := 53) (args := #[.pointer (some ⟨w.heap.size, 0, none⟩), .pointer (some ⟨w.heap.size + 1, 0, none⟩)]) (by simp) (by simp [go_sem]) ?_
  refine (catch_wrong w.heap.size 0 0 w _ (n2.later x9) (e2.later x9) (b12.trans (x9.below.mono b12.size))).mono ?_
  rintro e u' w'' ⟨rfl, rfl, nf, ef, bf⟩
  have cf : w''.cell? ⟨w.heap.size, 0, none⟩ = some (.int .i64 0) := by rw [nf.cell]; rfl
  have df : w''.cell? ⟨w.heap.size + 1, 0, none⟩ = some (.int .i64 30) := by rw [ef.cell]; rfl
  simp [Leaves, settle, results, Tryz.results31, go_sem, cf, df]
  exact Later.mk_of bf
set_option maxRecDepth 100000 in
set_option maxHeartbeats 1000000 in
theorem parse_2 (S : ByteArray) (h30 : S.size ≤ 30) (b : Bool) (R : ByteArray) (c1 : ∀ (t : Nat) (v : World), Blk v t 92 #[.string S] → Calls Tryz.prog 55 #[.pointer (some ⟨t, 0, none⟩), .int .u8 45] v fun e w' => e = .returned (.bool b) ∧ Blk w' t 92 #[.string R] ∧ Below t v w') (D R2 : ByteArray) (c2 : ∀ (t : Nat) (v : World), Blk v t 92 #[.string R] → Calls Tryz.prog 57 #[.pointer (some ⟨t, 0, none⟩)] v fun e w' => e = .returned (.string D) ∧ Blk w' t 92 #[.string R2] ∧ Below t v w') (Wh : ByteArray) (c3 : ∀ v, Calls Tryz.prog 56 #[.string D, .string ⟨#[48]⟩] v fun e w' => e = .returned (.string Wh) ∧ w' = v) (h13 : 13 < Wh.size) (w : World) : Calls Tryz.prog 31 #[.string S] w fun e w' => e = .returned (.tuple #[.int .i64 0, .int .i64 30]) ∧ ∃ x : Later w, w' = x.out := by
  have hmf : ∀ (fn : Fn) (first cap : Array Value) (w : World), (Instr.makeFunc fn first cap).run Tryz.prog w = .ok (.func fn first cap) w := fun _ _ _ _ => rfl
  have Hc1 := Lib.hid c1
  clear c1
  have Hc2 := Lib.hid c2
  clear c2
  have Hc3 := Lib.hid c3
  clear c3
  have hd13 : decide ((Wh.size : Int) ≤ 13) = false := by simp; omega
  have hd : decide ((S.size : Int) ≤ 30) = true := by simp; omega
  go_enter_defers Tryz.func31, Tryz.ntmps31
  go_wp2_with (first | (go_at_call 54; (with_reducible refine (need_yes _).mono ?_); rintro e _ ⟨rfl, y, rfl⟩) | (go_at_call 54; (with_reducible refine (need_no _).mono ?_); rintro e _ ⟨rfl, y, rfl⟩))
  have n1 : Blk (y.out.alloc (.cells #[.string S] 92)) w.heap.size 3 #[.int .i64 0] := by repeat (first | (with_reducible assumption) | (with_reducible refine Blk.later ?_ _) | (with_reducible refine Blk.drew ?_) | ((with_reducible refine Blk.new' ?_); (simp; done)) | (with_reducible refine Blk.alloc ?_ _))
  have e1 : Blk (y.out.alloc (.cells #[.string S] 92)) (w.heap.size + 1) 22 #[.int .i64 0] := by repeat (first | (with_reducible assumption) | (with_reducible refine Blk.later ?_ _) | (with_reducible refine Blk.drew ?_) | ((with_reducible refine Blk.new' ?_); (simp; done)) | (with_reducible refine Blk.alloc ?_ _))
  have t1 : Blk (y.out.alloc (.cells #[.string S] 92)) y.out.heap.size 92 #[.string S] := Blk.new _ _ _
  have b1 : Below w.heap.size w (y.out.alloc (.cells #[.string S] 92)) := (by repeat (first | (with_reducible assumption) | (with_reducible exact Below.refl _ _) | (with_reducible refine Later.after ?_ _) | (with_reducible refine Later.newer ?_ _) | (with_reducible refine Below.drew ?_) | (with_reducible refine Below.setCell ?_ (by first | exact Nat.le_refl _ | exact Nat.le_add_right _ _ | omega | (simp [go_sem]; done) | (simp [go_sem]; omega)) _)))
  have lt : w.heap.size + 1 < y.out.heap.size := by have := y.size_le; simp only [World.size_alloc] at this; omega
  generalize y.out.alloc (.cells #[.string S] 92) = W1 at *
  generalize y.out.heap.size = t at *
  clear y
  go_at_call 55
  refine (Hc1.out t W1 t1).mono ?_
  rintro e W2 ⟨rfl, t2, bz⟩
  have n2 := n1.below bz (by omega)
  have e2 := e1.below bz (by omega)
  have b12 := b1.trans (bz.mono (by omega))
  clear n1 e1 t1 b1 bz
  go_wp2_with (fail)
  go_at_call 57
  refine (Hc2.out t W2 t2).mono ?_
  rintro e W3 ⟨rfl, t3, bz⟩
  have n3 := n2.below bz (by omega)
  have e3 := e2.below bz (by omega)
  have b13 := b12.trans (bz.mono (by omega))
  clear n2 e2 t2 b12 bz
  go_wp2_with (fail)
  go_wp2_with (first | (go_at_call 56; (with_reducible refine (Hc3.out _).mono ?_); rintro e _ ⟨rfl, rfl⟩) | (go_at_call 54; (with_reducible refine (need_no _).mono ?_); rintro e _ ⟨rfl, y, rfl⟩))
  refine leaves_cons (f := 53) (args := #[.pointer (some ⟨w.heap.size, 0, none⟩), .pointer (some ⟨w.heap.size + 1, 0, none⟩)]) (by simp) (by simp [go_sem]) ?_
  refine (catch_wrong w.heap.size 0 0 w _ (n3.later y) (e3.later y) (b13.trans (y.below.mono b13.size))).mono ?_
  rintro e u' w'' ⟨rfl, rfl, nf, ef, bf⟩
  have cf : w''.cell? ⟨w.heap.size, 0, none⟩ = some (.int .i64 0) := by rw [nf.cell]; rfl
  have df : w''.cell? ⟨w.heap.size + 1, 0, none⟩ = some (.int .i64 30) := by rw [ef.cell]; rfl
  simp [Leaves, settle, results, Tryz.results31, go_sem, cf, df]
  exact Later.mk_of bf
end Go.Proofs.YtjmagehfkcnjjaaGreatDoor

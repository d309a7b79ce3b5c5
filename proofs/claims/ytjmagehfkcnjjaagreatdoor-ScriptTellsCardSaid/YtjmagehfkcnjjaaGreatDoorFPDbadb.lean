/-
  Parse, of a text with a point: the end.
-/
import Derived.Test.YtjmagehfkcnjjaaGreatDoorFP
namespace Go.Proofs.YtjmagehfkcnjjaaGreatDoor
set_option linter.unusedVariables false
open Go.RowKit Go.Sort

set_option maxRecDepth 100000 in
set_option maxHeartbeats 1000000 in
theorem parse_6badb (S : ByteArray) (h30 : S.size ≤ 30) (b : Bool) (R : ByteArray) (c1 : ∀ (t : Nat) (v : World), Blk v t 92 #[.string S] → Calls Tryz.prog 55 #[.pointer (some ⟨t, 0, none⟩), .int .u8 45] v fun e w' => e = .returned (.bool b) ∧ Blk w' t 92 #[.string R] ∧ Below t v w') (D R2 : ByteArray) (c2 : ∀ (t : Nat) (v : World), Blk v t 92 #[.string R] → Calls Tryz.prog 57 #[.pointer (some ⟨t, 0, none⟩)] v fun e w' => e = .returned (.string D) ∧ Blk w' t 92 #[.string R2] ∧ Below t v w') (Wh : ByteArray) (c3 : ∀ v, Calls Tryz.prog 56 #[.string D, .string ⟨#[48]⟩] v fun e w' => e = .returned (.string Wh) ∧ w' = v) (N A : Int) (h13 : Wh.size ≤ 13) (hA : IntKind.i64.wrap (N * 256) = A) (hA' : wrap64 (N * 256) = A) (c4 : ∀ v, Calls Tryz.prog 58 #[.string (({data := #[48]} : ByteArray) ++ Wh)] v fun e w' => e = .returned (.int .i64 N) ∧ ∃ x : Later v, w' = x.out) (R3 : ByteArray) (c5 : ∀ (t : Nat) (v : World), Blk v t 92 #[.string R2] → Calls Tryz.prog 55 #[.pointer (some ⟨t, 0, none⟩), .int .u8 46] v fun e w' => e = .returned (.bool true) ∧ Blk w' t 92 #[.string R3] ∧ Below t v w') (D2 R4 : ByteArray) (c6 : ∀ (t : Nat) (v : World), Blk v t 92 #[.string R3] → Calls Tryz.prog 57 #[.pointer (some ⟨t, 0, none⟩)] v fun e w' => e = .returned (.string D2) ∧ Blk w' t 92 #[.string R4] ∧ Below t v w') (q B : Int) (hB : IntKind.i64.wrap (A + q) = B) (hB' : wrap64 (A + q) = B) (c7 : ∀ v, Calls Tryz.prog 59 #[.string D2] v fun e w' => e = .returned (.int .i64 q) ∧ ∃ x : Later v, w' = x.out) (he : R4 = ⟨#[]⟩) (hm : 1099511627776 < B) (w : World) : Calls Tryz.prog 31 #[.string S] w fun e w' => e = .returned (.tuple #[.int .i64 0, .int .i64 30]) ∧ ∃ x : Later w, w' = x.out := by
  have hmf : ∀ (fn : Fn) (first cap : Array Value) (w : World), (Instr.makeFunc fn first cap).run Tryz.prog w = .ok (.func fn first cap) w := fun _ _ _ _ => rfl
  have Hc1 := Lib.hid c1
  clear c1
  have Hc2 := Lib.hid c2
  clear c2
  have Hc3 := Lib.hid c3
  clear c3
  have Hc4 := Lib.hid c4
  clear c4
  have Hc5 := Lib.hid c5
  clear c5
  have Hc6 := Lib.hid c6
  clear c6
  have Hc7 := Lib.hid c7
  clear c7
  have hm2 : decide (B ≤ 1099511627776) = false := by simp; omega
  subst he
  have hd : decide ((S.size : Int) ≤ 30) = true := by simp; omega
  go_enter_defers Tryz.func31, Tryz.ntmps31
  go_wp2_with (first | (go_at_call 54; (with_reducible refine (need_yes _).mono ?_); rintro e _ ⟨rfl, y, rfl⟩) | (go_at_call 54; (with_reducible refine (need_no _).mono ?_); rintro e _ ⟨rfl, y, rfl⟩))
  have n1 : Blk (y.out.alloc (.cells #[.string S] 92)) w.heap.size 3 #[.int .i64 0] := by repeat (first | (with_reducible assumption) | (with_reducible refine Blk.later ?_ _) | (with_reducible refine Blk.drew ?_) | ((with_reducible refine Blk.new' ?_); (simp; done)) | (with_reducible refine Blk.alloc ?_ _))
  have e1 : Blk (y.out.alloc (.cells #[.string S] 92)) (w.heap.size + 1) 22 #[.int .i64 0] := by repeat (first | (with_reducible assumption) | (with_reducible refine Blk.later ?_ _) | (with_reducible refine Blk.drew ?_) | ((with_reducible refine Blk.new' ?_); (simp; done)) | (with_reducible refine Blk.alloc ?_ _))
  have t1 : Blk (y.out.alloc (.cells #[.string S] 92)) y.out.heap.size 92 #[.string S] := Blk.new _ _ _
  have b1 : Below w.heap.size w (y.out.alloc (.cells #[.string S] 92)) := (by repeat (first | (with_reducible assumption) | (with_reducible exact Below.refl _ _) | (with_reducible refine Later.after ?_ _) | (with_reducible refine Later.newer ?_ _) | (with_reducible refine Below.drew ?_) | (with_reducible refine Below.setCell ?_ (by first | exact Nat.le_refl _ | exact Nat.le_add_right _ _ | omega | (simp [go_sem]; done) | (simp [go_sem]; omega)) _)))
  have lt : w.heap.size + 1 < y.out.heap.size := by have := y.size_le; simp only [World.size_alloc] at this; omega
  generalize y.out.alloc (.cells #[.string S] 92) = W1 at *
  generalize y.out.heap.size = t at *
  clear y
  go_at_call 55
  refine (Hc1.out t W1 t1).mono ?_
  rintro e W2 ⟨rfl, t2, bz⟩
  have n2 := n1.below bz (by omega)
  have e2 := e1.below bz (by omega)
  have b12 := b1.trans (bz.mono (by omega))
  clear n1 e1 t1 b1 bz
  go_wp2_with (fail)
  go_at_call 57
  refine (Hc2.out t W2 t2).mono ?_
  rintro e W3 ⟨rfl, t3, bz⟩
  have n3 := n2.below bz (by omega)
  have e3 := e2.below bz (by omega)
  have b13 := b12.trans (bz.mono (by omega))
  clear n2 e2 t2 b12 bz
  go_wp2_with (fail)
  have hd13 : decide ((Wh.size : Int) ≤ 13) = true := by simp; omega
  have n3c : W3.cell? ⟨w.heap.size, 0, none⟩ = some (.int .i64 0) := by rw [n3.cell]; rfl
  have n3z : W3.frozen? ⟨w.heap.size, 0, none⟩ = false := n3.frozen 0
  have n3l := n3.lt
  go_wp2_with (first | (go_at_call 56; (with_reducible refine (Hc3.out _).mono ?_); rintro e _ ⟨rfl, rfl⟩) | (go_at_call 54; (with_reducible refine (need_yes _).mono ?_); rintro e _ ⟨rfl, y5, rfl⟩) | (go_at_call 58; (with_reducible refine (Hc4.out _).mono ?_); rintro e _ ⟨rfl, x6, rfl⟩))
  have n4 : Blk (x6.out.setCell ⟨w.heap.size, 0, none⟩ (.int .i64 A)) w.heap.size 3 #[.int .i64 A] := (((n3.later y5).later x6).set 0 _).eq (by simp)
  have t4 : Blk (x6.out.setCell ⟨w.heap.size, 0, none⟩ (.int .i64 A)) t 92 #[.string R2] := ((t3.later y5).later x6).other _ _ (by omega)
  have e4 : Blk (x6.out.setCell ⟨w.heap.size, 0, none⟩ (.int .i64 A)) (w.heap.size + 1) 22 #[.int .i64 0] := ((e3.later y5).later x6).other _ _ (by omega)
  have b14 : Below w.heap.size w (x6.out.setCell ⟨w.heap.size, 0, none⟩ (.int .i64 A)) := by
    have h1 := b13.trans (y5.below.mono b13.size)
    have h2 := h1.trans (x6.below.mono h1.size)
    exact Below.setCell h2 (Nat.le_refl _) _
  clear n3 t3 e3 b13 n3c n3z n3l hA hA'
  generalize x6.out.setCell ⟨w.heap.size, 0, none⟩ (.int .i64 A) = W4 at *
  clear x6 y5
  go_at_call 55
  refine (Hc5.out t W4 t4).mono ?_
  rintro e W5 ⟨rfl, t5, bz⟩
  have n5 := n4.below bz (by omega)
  have e5 := e4.below bz (by omega)
  have b15 := b14.trans (bz.mono (by omega))
  clear n4 e4 t4 b14 bz
  go_wp2_with (fail)
  refine wp_region_noPanic ?_
  refine wp_region_held_drew (S := fun _ => True) (by kernel_rfl) trivial (fun _ => ?_)
  refine wpAnyH_ready (rs := [0, 1]) (by kernel_rfl) (by simp) ?_
  refine AllReadyH.cons rfl (fun K hK => ?_) (AllReadyH.cons rfl (fun K hK => ?_) AllReadyH.nil)
  · have ncc : W5.drew.cell? ⟨w.heap.size, 0, none⟩ = some (.int .i64 A) := by rw [(n5.drew).cell]; rfl
    go_simp
    refine hK.out _ _ trivial (fun _ => ?_)
    clear hK K
    (try simp only [Act.put, List.setIfInBounds_toArray, List.set_cons_zero, List.set_cons_succ])
    clear ncc
    refine wpAnyH_ready (rs := [1]) (by kernel_rfl) (by simp) ?_
    refine AllReadyH.cons rfl (fun K hK => ?_) AllReadyH.nil
    go_simp
    refine hK.out _ _ trivial (fun _ => ?_)
    clear hK K
    (try simp only [Act.put, List.setIfInBounds_toArray, List.set_cons_zero, List.set_cons_succ])
    refine wpAnyH_ready (rs := [2]) (by kernel_rfl) (by simp) ?_
    refine AllReadyH.cons rfl (fun K hK => ?_) AllReadyH.nil
    go_simp
    go_at_call 57
    refine (Hc6.out t _ t5.drew).mono ?_
    rintro e W6 ⟨rfl, t6, b6⟩
    have n6 := n5.drew.below b6 (by omega)
    have e6 := e5.drew.below b6 (by omega)
    have b16 := b15.drew.trans (b6.mono (by omega))
    go_simp
    refine hK.out _ _ trivial (fun _ => ?_)
    clear hK K
    (try simp only [Act.put, List.setIfInBounds_toArray, List.set_cons_zero, List.set_cons_succ])
    refine wpAnyH_ready (rs := [3]) (by kernel_rfl) (by simp) ?_
    refine AllReadyH.cons rfl (fun K hK => ?_) AllReadyH.nil
    go_simp
    go_at_call 59
    refine (Hc7.out _).mono ?_
    rintro e _ ⟨rfl, x7, rfl⟩
    go_simp
    refine hK.out _ _ trivial (fun _ => ?_)
    clear hK K
    (try simp only [Act.put, List.setIfInBounds_toArray, List.set_cons_zero, List.set_cons_succ])
    refine wpAnyH_ready (rs := [4]) (by kernel_rfl) (by simp) ?_
    refine AllReadyH.cons rfl (fun K hK => ?_) AllReadyH.nil
    go_simp
    refine hK.out _ _ trivial (fun _ => ?_)
    clear hK K
    (try simp only [Act.put, List.setIfInBounds_toArray, List.set_cons_zero, List.set_cons_succ])
    refine wpAnyH_ready (rs := [5]) (by kernel_rfl) (by simp) ?_
    refine AllReadyH.cons rfl (fun K hK => ?_) AllReadyH.nil
    have n7c : x7.out.cell? ⟨w.heap.size, 0, none⟩ = some (.int .i64 A) := by rw [(n6.later x7).cell]; rfl
    have n7z : x7.out.frozen? ⟨w.heap.size, 0, none⟩ = false := (n6.later x7).frozen 0
    go_simp
    refine hK.out _ _ trivial (fun _ => ?_)
    clear hK K
    (try simp only [Act.put, List.setIfInBounds_toArray, List.set_cons_zero, List.set_cons_succ])
    refine wpAnyH_done (by kernel_rfl) ?_ _
    refine NoPanic.normal ?_
    have n8 : Blk (x7.out.setCell ⟨w.heap.size, 0, none⟩ (.int .i64 B)) w.heap.size 3 #[.int .i64 B] := ((n6.later x7).set 0 _).eq (by simp)
    have e8 : Blk (x7.out.setCell ⟨w.heap.size, 0, none⟩ (.int .i64 B)) (w.heap.size + 1) 22 #[.int .i64 0] := (e6.later x7).other _ _ (by omega)
    have t8 : Blk (x7.out.setCell ⟨w.heap.size, 0, none⟩ (.int .i64 B)) t 92 _ := (t6.later x7).other _ _ (by omega)
    have b18 : Below w.heap.size w (x7.out.setCell ⟨w.heap.size, 0, none⟩ (.int .i64 B)) := Below.setCell (b16.trans (x7.below.mono b16.size)) (Nat.le_refl _) _
    try simp only [hB]
    generalize x7.out.setCell ⟨w.heap.size, 0, none⟩ (.int .i64 B) = W8 at *
    clear n6 e6 t6 b16 n5 e5 t5 b15 n7c n7z
    have c8 : W8.cell? ⟨w.heap.size, 0, none⟩ = some (.int .i64 B) := by rw [n8.cell]; rfl
    have z8 : W8.frozen? ⟨w.heap.size, 0, none⟩ = false := n8.frozen 0
    have c9 : W8.cell? ⟨w.heap.size + 1, 0, none⟩ = some (.int .i64 0) := by rw [e8.cell]; rfl
    have z9 : W8.frozen? ⟨w.heap.size + 1, 0, none⟩ = false := e8.frozen 0
    have c7 : W8.cell? ⟨t, 0, none⟩ = some (.string ⟨#[]⟩) := by rw [t8.cell]; rfl
    have l8 := n8.lt
    have l9 := e8.lt
    have l7 := t8.lt
    go_wp2_with (go_at_call 54; (with_reducible refine (need_no _).mono ?_); rintro e _ ⟨rfl, y, rfl⟩)
    refine leaves_cons (f := 53) (args := #[.pointer (some ⟨w.heap.size, 0, none⟩), .pointer (some ⟨w.heap.size + 1, 0, none⟩)]) (by simp) (by simp [go_sem]) ?_
    refine (catch_wrong w.heap.size B 0 w _ (n8.later y) (e8.later y) (b18.trans (y.below.mono b18.size))).mono ?_
    rintro e u' w'' ⟨rfl, rfl, nf, ef, bf⟩
    have cf : w''.cell? ⟨w.heap.size, 0, none⟩ = some (.int .i64 0) := by rw [nf.cell]; rfl
    have df : w''.cell? ⟨w.heap.size + 1, 0, none⟩ = some (.int .i64 30) := by rw [ef.cell]; rfl
    simp [Leaves, settle, results, Tryz.results31, go_sem, cf, df]
    exact Later.mk_of bf
  · go_simp
    refine hK.out _ _ trivial (fun _ => ?_)
    clear hK K
    (try simp only [Act.put, List.setIfInBounds_toArray, List.set_cons_zero, List.set_cons_succ])
    refine wpAnyH_ready (rs := [0, 2]) (by kernel_rfl) (by simp) ?_
    refine AllReadyH.cons rfl (fun K hK => ?_) (AllReadyH.cons rfl (fun K hK => ?_) AllReadyH.nil)
    · have ncc : W5.drew.cell? ⟨w.heap.size, 0, none⟩ = some (.int .i64 A) := by rw [(n5.drew).cell]; rfl
      go_simp
      refine hK.out _ _ trivial (fun _ => ?_)
      clear hK K
      (try simp only [Act.put, List.setIfInBounds_toArray, List.set_cons_zero, List.set_cons_succ])
      clear ncc
      refine wpAnyH_ready (rs := [2]) (by kernel_rfl) (by simp) ?_
      refine AllReadyH.cons rfl (fun K hK => ?_) AllReadyH.nil
      go_simp
      go_at_call 57
      refine (Hc6.out t _ t5.drew).mono ?_
      rintro e W6 ⟨rfl, t6, b6⟩
      have n6 := n5.drew.below b6 (by omega)
      have e6 := e5.drew.below b6 (by omega)
      have b16 := b15.drew.trans (b6.mono (by omega))
      go_simp
      refine hK.out _ _ trivial (fun _ => ?_)
      clear hK K
      (try simp only [Act.put, List.setIfInBounds_toArray, List.set_cons_zero, List.set_cons_succ])
      refine wpAnyH_ready (rs := [3]) (by kernel_rfl) (by simp) ?_
      refine AllReadyH.cons rfl (fun K hK => ?_) AllReadyH.nil
      go_simp
      go_at_call 59
      refine (Hc7.out _).mono ?_
      rintro e _ ⟨rfl, x7, rfl⟩
      go_simp
      refine hK.out _ _ trivial (fun _ => ?_)
      clear hK K
      (try simp only [Act.put, List.setIfInBounds_toArray, List.set_cons_zero, List.set_cons_succ])
      refine wpAnyH_ready (rs := [4]) (by kernel_rfl) (by simp) ?_
      refine AllReadyH.cons rfl (fun K hK => ?_) AllReadyH.nil
      go_simp
      refine hK.out _ _ trivial (fun _ => ?_)
      clear hK K
      (try simp only [Act.put, List.setIfInBounds_toArray, List.set_cons_zero, List.set_cons_succ])
      refine wpAnyH_ready (rs := [5]) (by kernel_rfl) (by simp) ?_
      refine AllReadyH.cons rfl (fun K hK => ?_) AllReadyH.nil
      have n7c : x7.out.cell? ⟨w.heap.size, 0, none⟩ = some (.int .i64 A) := by rw [(n6.later x7).cell]; rfl
      have n7z : x7.out.frozen? ⟨w.heap.size, 0, none⟩ = false := (n6.later x7).frozen 0
      go_simp
      refine hK.out _ _ trivial (fun _ => ?_)
      clear hK K
      (try simp only [Act.put, List.setIfInBounds_toArray, List.set_cons_zero, List.set_cons_succ])
      refine wpAnyH_done (by kernel_rfl) ?_ _
      refine NoPanic.normal ?_
      have n8 : Blk (x7.out.setCell ⟨w.heap.size, 0, none⟩ (.int .i64 B)) w.heap.size 3 #[.int .i64 B] := ((n6.later x7).set 0 _).eq (by simp)
      have e8 : Blk (x7.out.setCell ⟨w.heap.size, 0, none⟩ (.int .i64 B)) (w.heap.size + 1) 22 #[.int .i64 0] := (e6.later x7).other _ _ (by omega)
      have t8 : Blk (x7.out.setCell ⟨w.heap.size, 0, none⟩ (.int .i64 B)) t 92 _ := (t6.later x7).other _ _ (by omega)
      have b18 : Below w.heap.size w (x7.out.setCell ⟨w.heap.size, 0, none⟩ (.int .i64 B)) := Below.setCell (b16.trans (x7.below.mono b16.size)) (Nat.le_refl _) _
      try simp only [hB]
      generalize x7.out.setCell ⟨w.heap.size, 0, none⟩ (.int .i64 B) = W8 at *
      clear n6 e6 t6 b16 n5 e5 t5 b15 n7c n7z
      have c8 : W8.cell? ⟨w.heap.size, 0, none⟩ = some (.int .i64 B) := by rw [n8.cell]; rfl
      have z8 : W8.frozen? ⟨w.heap.size, 0, none⟩ = false := n8.frozen 0
      have c9 : W8.cell? ⟨w.heap.size + 1, 0, none⟩ = some (.int .i64 0) := by rw [e8.cell]; rfl
      have z9 : W8.frozen? ⟨w.heap.size + 1, 0, none⟩ = false := e8.frozen 0
      have c7 : W8.cell? ⟨t, 0, none⟩ = some (.string ⟨#[]⟩) := by rw [t8.cell]; rfl
      have l8 := n8.lt
      have l9 := e8.lt
      have l7 := t8.lt
      go_wp2_with (go_at_call 54; (with_reducible refine (need_no _).mono ?_); rintro e _ ⟨rfl, y, rfl⟩)
      refine leaves_cons (f := 53) (args := #[.pointer (some ⟨w.heap.size, 0, none⟩), .pointer (some ⟨w.heap.size + 1, 0, none⟩)]) (by simp) (by simp [go_sem]) ?_
      refine (catch_wrong w.heap.size B 0 w _ (n8.later y) (e8.later y) (b18.trans (y.below.mono b18.size))).mono ?_
      rintro e u' w'' ⟨rfl, rfl, nf, ef, bf⟩
      have cf : w''.cell? ⟨w.heap.size, 0, none⟩ = some (.int .i64 0) := by rw [nf.cell]; rfl
      have df : w''.cell? ⟨w.heap.size + 1, 0, none⟩ = some (.int .i64 30) := by rw [ef.cell]; rfl
      simp [Leaves, settle, results, Tryz.results31, go_sem, cf, df]
      exact Later.mk_of bf
    · go_simp
      go_at_call 57
      refine (Hc6.out t _ t5.drew).mono ?_
      rintro e W6 ⟨rfl, t6, b6⟩
      have n6 := n5.drew.below b6 (by omega)
      have e6 := e5.drew.below b6 (by omega)
      have b16 := b15.drew.trans (b6.mono (by omega))
      go_simp
      refine hK.out _ _ trivial (fun _ => ?_)
      clear hK K
      (try simp only [Act.put, List.setIfInBounds_toArray, List.set_cons_zero, List.set_cons_succ])
      refine wpAnyH_ready (rs := [0, 3]) (by kernel_rfl) (by simp) ?_
      refine AllReadyH.cons rfl (fun K hK => ?_) (AllReadyH.cons rfl (fun K hK => ?_) AllReadyH.nil)
      · have ncc : W6.cell? ⟨w.heap.size, 0, none⟩ = some (.int .i64 A) := by rw [(n6).cell]; rfl
        go_simp
        refine hK.out _ _ trivial (fun _ => ?_)
        clear hK K
        (try simp only [Act.put, List.setIfInBounds_toArray, List.set_cons_zero, List.set_cons_succ])
        clear ncc
        refine wpAnyH_ready (rs := [3]) (by kernel_rfl) (by simp) ?_
        refine AllReadyH.cons rfl (fun K hK => ?_) AllReadyH.nil
        go_simp
        go_at_call 59
        refine (Hc7.out _).mono ?_
        rintro e _ ⟨rfl, x7, rfl⟩
        go_simp
        refine hK.out _ _ trivial (fun _ => ?_)
        clear hK K
        (try simp only [Act.put, List.setIfInBounds_toArray, List.set_cons_zero, List.set_cons_succ])
        refine wpAnyH_ready (rs := [4]) (by kernel_rfl) (by simp) ?_
        refine AllReadyH.cons rfl (fun K hK => ?_) AllReadyH.nil
        go_simp
        refine hK.out _ _ trivial (fun _ => ?_)
        clear hK K
        (try simp only [Act.put, List.setIfInBounds_toArray, List.set_cons_zero, List.set_cons_succ])
        refine wpAnyH_ready (rs := [5]) (by kernel_rfl) (by simp) ?_
        refine AllReadyH.cons rfl (fun K hK => ?_) AllReadyH.nil
        have n7c : x7.out.cell? ⟨w.heap.size, 0, none⟩ = some (.int .i64 A) := by rw [(n6.later x7).cell]; rfl
        have n7z : x7.out.frozen? ⟨w.heap.size, 0, none⟩ = false := (n6.later x7).frozen 0
        go_simp
        refine hK.out _ _ trivial (fun _ => ?_)
        clear hK K
        (try simp only [Act.put, List.setIfInBounds_toArray, List.set_cons_zero, List.set_cons_succ])
        refine wpAnyH_done (by kernel_rfl) ?_ _
        refine NoPanic.normal ?_
        have n8 : Blk (x7.out.setCell ⟨w.heap.size, 0, none⟩ (.int .i64 B)) w.heap.size 3 #[.int .i64 B] := ((n6.later x7).set 0 _).eq (by simp)
        have e8 : Blk (x7.out.setCell ⟨w.heap.size, 0, none⟩ (.int .i64 B)) (w.heap.size + 1) 22 #[.int .i64 0] := (e6.later x7).other _ _ (by omega)
        have t8 : Blk (x7.out.setCell ⟨w.heap.size, 0, none⟩ (.int .i64 B)) t 92 _ := (t6.later x7).other _ _ (by omega)
        have b18 : Below w.heap.size w (x7.out.setCell ⟨w.heap.size, 0, none⟩ (.int .i64 B)) := Below.setCell (b16.trans (x7.below.mono b16.size)) (Nat.le_refl _) _
        try simp only [hB]
        generalize x7.out.setCell ⟨w.heap.size, 0, none⟩ (.int .i64 B) = W8 at *
        clear n6 e6 t6 b16 n5 e5 t5 b15 n7c n7z
        have c8 : W8.cell? ⟨w.heap.size, 0, none⟩ = some (.int .i64 B) := by rw [n8.cell]; rfl
        have z8 : W8.frozen? ⟨w.heap.size, 0, none⟩ = false := n8.frozen 0
        have c9 : W8.cell? ⟨w.heap.size + 1, 0, none⟩ = some (.int .i64 0) := by rw [e8.cell]; rfl
        have z9 : W8.frozen? ⟨w.heap.size + 1, 0, none⟩ = false := e8.frozen 0
        have c7 : W8.cell? ⟨t, 0, none⟩ = some (.string ⟨#[]⟩) := by rw [t8.cell]; rfl
        have l8 := n8.lt
        have l9 := e8.lt
        have l7 := t8.lt
        go_wp2_with (go_at_call 54; (with_reducible refine (need_no _).mono ?_); rintro e _ ⟨rfl, y, rfl⟩)
        refine leaves_cons (f := 53) (args := #[.pointer (some ⟨w.heap.size, 0, none⟩), .pointer (some ⟨w.heap.size + 1, 0, none⟩)]) (by simp) (by simp [go_sem]) ?_
        refine (catch_wrong w.heap.size B 0 w _ (n8.later y) (e8.later y) (b18.trans (y.below.mono b18.size))).mono ?_
        rintro e u' w'' ⟨rfl, rfl, nf, ef, bf⟩
        have cf : w''.cell? ⟨w.heap.size, 0, none⟩ = some (.int .i64 0) := by rw [nf.cell]; rfl
        have df : w''.cell? ⟨w.heap.size + 1, 0, none⟩ = some (.int .i64 30) := by rw [ef.cell]; rfl
        simp [Leaves, settle, results, Tryz.results31, go_sem, cf, df]
        exact Later.mk_of bf
      · go_simp
        go_at_call 59
        refine (Hc7.out _).mono ?_
        rintro e _ ⟨rfl, x7, rfl⟩
        go_simp
        refine hK.out _ _ trivial (fun _ => ?_)
        clear hK K
        (try simp only [Act.put, List.setIfInBounds_toArray, List.set_cons_zero, List.set_cons_succ])
        refine wpAnyH_ready (rs := [0]) (by kernel_rfl) (by simp) ?_
        refine AllReadyH.cons rfl (fun K hK => ?_) AllReadyH.nil
        have ncc : x7.out.cell? ⟨w.heap.size, 0, none⟩ = some (.int .i64 A) := by rw [(n6.later x7).cell]; rfl
        go_simp
        refine hK.out _ _ trivial (fun _ => ?_)
        clear hK K
        (try simp only [Act.put, List.setIfInBounds_toArray, List.set_cons_zero, List.set_cons_succ])
        clear ncc
        refine wpAnyH_ready (rs := [4]) (by kernel_rfl) (by simp) ?_
        refine AllReadyH.cons rfl (fun K hK => ?_) AllReadyH.nil
        go_simp
        refine hK.out _ _ trivial (fun _ => ?_)
        clear hK K
        (try simp only [Act.put, List.setIfInBounds_toArray, List.set_cons_zero, List.set_cons_succ])
        refine wpAnyH_ready (rs := [5]) (by kernel_rfl) (by simp) ?_
        refine AllReadyH.cons rfl (fun K hK => ?_) AllReadyH.nil
        have n7c : x7.out.cell? ⟨w.heap.size, 0, none⟩ = some (.int .i64 A) := by rw [(n6.later x7).cell]; rfl
        have n7z : x7.out.frozen? ⟨w.heap.size, 0, none⟩ = false := (n6.later x7).frozen 0
        go_simp
        refine hK.out _ _ trivial (fun _ => ?_)
        clear hK K
        (try simp only [Act.put, List.setIfInBounds_toArray, List.set_cons_zero, List.set_cons_succ])
        refine wpAnyH_done (by kernel_rfl) ?_ _
        refine NoPanic.normal ?_
        have n8 : Blk (x7.out.setCell ⟨w.heap.size, 0, none⟩ (.int .i64 B)) w.heap.size 3 #[.int .i64 B] := ((n6.later x7).set 0 _).eq (by simp)
        have e8 : Blk (x7.out.setCell ⟨w.heap.size, 0, none⟩ (.int .i64 B)) (w.heap.size + 1) 22 #[.int .i64 0] := (e6.later x7).other _ _ (by omega)
        have t8 : Blk (x7.out.setCell ⟨w.heap.size, 0, none⟩ (.int .i64 B)) t 92 _ := (t6.later x7).other _ _ (by omega)
        have b18 : Below w.heap.size w (x7.out.setCell ⟨w.heap.size, 0, none⟩ (.int .i64 B)) := Below.setCell (b16.trans (x7.below.mono b16.size)) (Nat.le_refl _) _
        try simp only [hB]
        generalize x7.out.setCell ⟨w.heap.size, 0, none⟩ (.int .i64 B) = W8 at *
        clear n6 e6 t6 b16 n5 e5 t5 b15 n7c n7z
        have c8 : W8.cell? ⟨w.heap.size, 0, none⟩ = some (.int .i64 B) := by rw [n8.cell]; rfl
        have z8 : W8.frozen? ⟨w.heap.size, 0, none⟩ = false := n8.frozen 0
        have c9 : W8.cell? ⟨w.heap.size + 1, 0, none⟩ = some (.int .i64 0) := by rw [e8.cell]; rfl
        have z9 : W8.frozen? ⟨w.heap.size + 1, 0, none⟩ = false := e8.frozen 0
        have c7 : W8.cell? ⟨t, 0, none⟩ = some (.string ⟨#[]⟩) := by rw [t8.cell]; rfl
        have l8 := n8.lt
        have l9 := e8.lt
        have l7 := t8.lt
        go_wp2_with (go_at_call 54; (with_reducible refine (need_no _).mono ?_); rintro e _ ⟨rfl, y, rfl⟩)
        refine leaves_cons (f := 53) (args := #[.pointer (some ⟨w.heap.size, 0, none⟩), .pointer (some ⟨w.heap.size + 1, 0, none⟩)]) (by simp) (by simp [go_sem]) ?_
        refine (catch_wrong w.heap.size B 0 w _ (n8.later y) (e8.later y) (b18.trans (y.below.mono b18.size))).mono ?_
        rintro e u' w'' ⟨rfl, rfl, nf, ef, bf⟩
        have cf : w''.cell? ⟨w.heap.size, 0, none⟩ = some (.int .i64 0) := by rw [nf.cell]; rfl
        have df : w''.cell? ⟨w.heap.size + 1, 0, none⟩ = some (.int .i64 30) := by rw [ef.cell]; rfl
        simp [Leaves, settle, results, Tryz.results31, go_sem, cf, df]
        exact Later.mk_of bf
end Go.Proofs.YtjmagehfkcnjjaaGreatDoor

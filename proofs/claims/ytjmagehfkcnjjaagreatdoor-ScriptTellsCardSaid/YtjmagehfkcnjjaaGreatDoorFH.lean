/-
  Parse, at the text of shown.
-/
import Derived.Test.YtjmagehfkcnjjaaGreatDoorKF
import Derived.Defers
import Derived.Recover
import Derived.Deep.RegionHeld3
namespace Go.Proofs.YtjmagehfkcnjjaaGreatDoor
set_option linter.unusedVariables false
open Go.RowKit Go.Sort

theorem took_yes (S S' : ByteArray) (c : Int) (d : UInt8) (hd : (d.toNat : Int) = c) (t : Nat) (w : World) (h : Blk w t 92 #[.string S]) (hb : Lib.hasPrefix S.data.toList [d] = true) (hS : S.extract 1 S.size = S') (hs : 1 ≤ S.size) :
    Calls Tryz.prog 55 #[.pointer (some ⟨t, 0, none⟩), .int .u8 c] w fun e w' => e = .returned (.bool true) ∧ Blk w' t 92 #[.string S'] ∧ Below t w w' := by
  have hc := took_c c d hd S ⟨#[d]⟩ true t w h rfl hb (fun _ => hs)
  rw [if_pos rfl, hS] at hc
  exact hc
theorem digits_at (S S' D : ByteArray) (n : Nat) (t : Nat) (w : World) (h : Blk w t 92 #[.string S]) (hn : (Lib.trimLeftS S.data.toList digs).length + n = S.size) (hD : S.extract 0 n = D) (hS' : S.extract n S.size = S') (hn0 : 0 < n) (hS : S.size ≤ 1000000) :
    Calls Tryz.prog 57 #[.pointer (some ⟨t, 0, none⟩)] w fun e w' => e = .returned (.string D) ∧ Blk w' t 92 #[.string S'] ∧ Below t w w' := by
  have hc := digits_c S _ n t w h rfl (by show (Lib.trimLeftS S.data.toList digs).toArray.size + n = S.size; rw [List.size_toArray]; exact hn) hn0 hS
  rw [hD, hS'] at hc
  exact hc
theorem tl_one (w : World) : Calls Tryz.prog 56 #[.string ⟨#[49]⟩, .string ⟨#[48]⟩] w fun e w' => e = .returned (.string ⟨#[49]⟩) ∧ ∃ x : Later w, w' = x.out :=
  (Tryz.strings_TrimLeft_one ⟨#[49]⟩ 48 (by decide) w).mono fun e w' h => ⟨by rw [h.1]; rfl, by rw [h.2]; exact Later.self⟩
theorem catch_idle (p q : Addr) (w : World) : CallsD Tryz.prog 53 #[.pointer (some p), .pointer (some q)] .returning w fun e u' w' => e = .returned (.tuple #[]) ∧ u' = .returning ∧ w' = w := by
  refine callsD_of_wpS Tryz.func53 rfl fun c₀ cs hu => ?_
  apply wpS_seq
  apply wpS_region
  simp [wpOpsS, go_sem, recoverD, hu, Tryz.ntmps53, Exit.thenS]
  refine wpS_of_wp ?_
  go_wp2
  cases c₀
  simp_all [bodyPostS, results, Tryz.results53]
set_option maxRecDepth 100000 in
set_option maxHeartbeats 1000000 in
theorem parse_shown (w : World) : Calls Tryz.prog 31 #[.string ⟨#[45, 49, 46, 53, 48]⟩] w fun e w' => e = .returned (.tuple #[.int .i64 (-384), .int .i64 0]) ∧ ∃ x : Later w, w' = x.out := by
  have hmf : ∀ (fn : Fn) (first cap : Array Value) (w : World), (Instr.makeFunc fn first cap).run Tryz.prog w = .ok (.func fn first cap) w := fun _ _ _ _ => rfl
  go_enter_defers Tryz.func31, Tryz.ntmps31
  go_wp2_with (go_at_call 54; (with_reducible refine (need_yes _).mono ?_); rintro e _ ⟨rfl, y, rfl⟩)
  have n1 : Blk (y.out.alloc (.cells #[.string ⟨#[45, 49, 46, 53, 48]⟩] 92)) w.heap.size 3 #[.int .i64 0] := by repeat (first | (with_reducible assumption) | (with_reducible refine Blk.later ?_ _) | (with_reducible refine Blk.drew ?_) | ((with_reducible refine Blk.new' ?_); (simp; done)) | (with_reducible refine Blk.alloc ?_ _))
  have e1 : Blk (y.out.alloc (.cells #[.string ⟨#[45, 49, 46, 53, 48]⟩] 92)) (w.heap.size + 1) 22 #[.int .i64 0] := by repeat (first | (with_reducible assumption) | (with_reducible refine Blk.later ?_ _) | (with_reducible refine Blk.drew ?_) | ((with_reducible refine Blk.new' ?_); (simp; done)) | (with_reducible refine Blk.alloc ?_ _))
  have t1 : Blk (y.out.alloc (.cells #[.string ⟨#[45, 49, 46, 53, 48]⟩] 92)) y.out.heap.size 92 #[.string ⟨#[45, 49, 46, 53, 48]⟩] := Blk.new _ _ _
  have b1 : Below w.heap.size w (y.out.alloc (.cells #[.string ⟨#[45, 49, 46, 53, 48]⟩] 92)) := (by repeat (first | (with_reducible assumption) | (with_reducible exact Below.refl _ _) | (with_reducible refine Later.after ?_ _) | (with_reducible refine Later.newer ?_ _) | (with_reducible refine Below.drew ?_) | (with_reducible refine Below.setCell ?_ (by first | exact Nat.le_refl _ | exact Nat.le_add_right _ _ | omega | (simp [go_sem]; done) | (simp [go_sem]; omega)) _)))
  have lt : w.heap.size + 1 < y.out.heap.size := by have := y.size_le; simp only [World.size_alloc] at this; omega
  generalize y.out.alloc (.cells #[.string ⟨#[45, 49, 46, 53, 48]⟩] 92) = W1 at *
  generalize y.out.heap.size = t at *
  go_at_call 55
  refine (took_yes ⟨#[45, 49, 46, 53, 48]⟩ ⟨#[49, 46, 53, 48]⟩ 45 45 rfl t W1 t1 (by decide) rfl (by decide)).mono ?_
  rintro e W2 ⟨rfl, t2, b2⟩
  have n2 := n1.below b2 (by omega)
  have e2 := e1.below b2 (by omega)
  have b12 := b1.trans (b2.mono (by omega))
  clear n1 e1 t1 b1 b2
  go_wp2_with (fail)
  go_at_call 57
  refine (digits_at ⟨#[49, 46, 53, 48]⟩ ⟨#[46, 53, 48]⟩ ⟨#[49]⟩ 1 t W2 t2 (by decide) rfl rfl (by decide) (by decide)).mono ?_
  rintro e W3 ⟨rfl, t3, b3⟩
  have n3 := n2.below b3 (by omega)
  have e3 := e2.below b3 (by omega)
  have b13 := b12.trans (b3.mono (by omega))
  clear n2 e2 t2 b12 b3
  go_wp2_with (go_at_call 56; (with_reducible refine (tl_one _).mono ?_); rintro e _ ⟨rfl, x4, rfl⟩)
  have n3c : W3.cell? ⟨w.heap.size, 0, none⟩ = some (.int .i64 0) := by rw [n3.cell]; rfl
  have n3z : W3.frozen? ⟨w.heap.size, 0, none⟩ = false := n3.frozen 0
  have n3l := n3.lt
  go_wp2_with (first | (go_at_call 54; (with_reducible refine (need_yes _).mono ?_); rintro e _ ⟨rfl, y5, rfl⟩) | (go_at_call 58; (with_reducible refine (number_c _ 1 (by decide) (by decide) _).mono ?_); rintro e _ ⟨rfl, x6, rfl⟩))
  have n4 : Blk (x6.out.setCell ⟨w.heap.size, 0, none⟩ (.int .i64 256)) w.heap.size 3 #[.int .i64 256] := ((((n3.later x4).later y5).later x6).set 0 _).eq (by simp)
  have t4 : Blk (x6.out.setCell ⟨w.heap.size, 0, none⟩ (.int .i64 256)) t 92 #[.string ⟨#[46, 53, 48]⟩] := (((t3.later x4).later y5).later x6).other _ _ (by omega)
  have e4 : Blk (x6.out.setCell ⟨w.heap.size, 0, none⟩ (.int .i64 256)) (w.heap.size + 1) 22 #[.int .i64 0] := (((e3.later x4).later y5).later x6).other _ _ (by omega)
  have b14 : Below w.heap.size w (x6.out.setCell ⟨w.heap.size, 0, none⟩ (.int .i64 256)) := by
    have h1 := b13.trans (x4.below.mono b13.size)
    have h2 := h1.trans (y5.below.mono h1.size)
    have h3 := h2.trans (x6.below.mono h2.size)
    exact Below.setCell h3 (Nat.le_refl _) _
  clear n3 t3 e3 b13 n3c n3z n3l
  generalize x6.out.setCell ⟨w.heap.size, 0, none⟩ (.int .i64 256) = W4 at *
  clear x6 y5 x4
  go_at_call 55
  refine (took_yes ⟨#[46, 53, 48]⟩ ⟨#[53, 48]⟩ 46 46 rfl t W4 t4 (by decide) rfl (by decide)).mono ?_
  rintro e W5 ⟨rfl, t5, b5⟩
  have n5 := n4.below b5 (by omega)
  have e5 := e4.below b5 (by omega)
  have b15 := b14.trans (b5.mono (by omega))
  clear n4 e4 t4 b14 b5
  go_wp2_with (fail)
  refine wp_region_noPanic ?_
  refine wp_region_held_drew (S := fun _ => True) (by kernel_rfl) trivial (fun _ => ?_)
  refine wpAnyH_take (i := 1) (v := .pointer (some ⟨t, 0, none⟩)) rfl (by kernel_rfl) (by kernel_rfl) (by kernel_rfl) (fun _ _ _ h => h) (Or.inl ⟨by rfl, fun w9 hSw => by first | rfl | (simp [execOp, go_sem, *]; done)⟩) trivial ?_
  (try simp only [Act.put, List.setIfInBounds_toArray, List.set_cons_zero, List.set_cons_succ])
  refine wpAnyH_ready (rs := [0, 2]) (by kernel_rfl) (by simp) ?_
  refine AllReadyH.cons rfl (fun K hK => ?_) (AllReadyH.cons rfl (fun K hK => ?_) AllReadyH.nil)
  · have n5c : W5.drew.cell? ⟨w.heap.size, 0, none⟩ = some (.int .i64 256) := by rw [n5.drew.cell]; rfl
    go_simp
    refine hK.out _ _ trivial (fun _ => ?_)
    clear hK K
    (try simp only [Act.put, List.setIfInBounds_toArray, List.set_cons_zero, List.set_cons_succ])
    refine wpAnyH_ready (rs := [2]) (by kernel_rfl) (by simp) ?_
    refine AllReadyH.cons rfl (fun K hK => ?_) AllReadyH.nil
    go_simp
    go_at_call 57
    refine (digits_at ⟨#[53, 48]⟩ ⟨#[]⟩ ⟨#[53, 48]⟩ 2 t _ t5.drew (by decide) rfl rfl (by decide) (by decide)).mono ?_
    rintro e W6 ⟨rfl, t6, b6⟩
    have n6 := n5.drew.below b6 (by omega)
    have e6 := e5.drew.below b6 (by omega)
    have b16 := b15.drew.trans (b6.mono (by omega))
    go_simp
    refine hK.out _ _ trivial (fun _ => ?_)
    clear hK K
    (try simp only [Act.put, List.setIfInBounds_toArray, List.set_cons_zero, List.set_cons_succ])
    refine wpAnyH_ready (rs := [3]) (by kernel_rfl) (by simp) ?_
    refine AllReadyH.cons rfl (fun K hK => ?_) AllReadyH.nil
    go_simp
    go_at_call 59
    refine (parts_c ⟨#[53, 48]⟩ ⟨#[53]⟩ ⟨#[48, 48, 48, 48, 48, 48, 48]⟩ 7 50000000 128 _ (by decide) rfl (by decide) rfl (by decide) (by decide) (by decide) (by omega) (by omega)).mono ?_
    rintro e _ ⟨rfl, x7, rfl⟩
    go_simp
    refine hK.out _ _ trivial (fun _ => ?_)
    clear hK K
    (try simp only [Act.put, List.setIfInBounds_toArray, List.set_cons_zero, List.set_cons_succ])
    refine wpAnyH_ready (rs := [4]) (by kernel_rfl) (by simp) ?_
    refine AllReadyH.cons rfl (fun K hK => ?_) AllReadyH.nil
    go_simp
    refine hK.out _ _ trivial (fun _ => ?_)
    clear hK K
    (try simp only [Act.put, List.setIfInBounds_toArray, List.set_cons_zero, List.set_cons_succ])
    refine wpAnyH_ready (rs := [5]) (by kernel_rfl) (by simp) ?_
    refine AllReadyH.cons rfl (fun K hK => ?_) AllReadyH.nil
    have n7c : x7.out.cell? ⟨w.heap.size, 0, none⟩ = some (.int .i64 256) := by rw [(n6.later x7).cell]; rfl
    have n7z : x7.out.frozen? ⟨w.heap.size, 0, none⟩ = false := (n6.later x7).frozen 0
    go_simp
    refine hK.out _ _ trivial (fun _ => ?_)
    clear hK K
    (try simp only [Act.put, List.setIfInBounds_toArray, List.set_cons_zero, List.set_cons_succ])
    refine wpAnyH_done (by kernel_rfl) ?_ _
    refine NoPanic.normal ?_
    simp only [show IntKind.i64.wrap (384 : Int) = 384 from rfl]
    have n8 : Blk (x7.out.setCell ⟨w.heap.size, 0, none⟩ (.int .i64 384)) w.heap.size 3 #[.int .i64 384] := ((n6.later x7).set 0 _).eq (by simp)
    have e8 : Blk (x7.out.setCell ⟨w.heap.size, 0, none⟩ (.int .i64 384)) (w.heap.size + 1) 22 #[.int .i64 0] := (e6.later x7).other _ _ (by omega)
    have t8 : Blk (x7.out.setCell ⟨w.heap.size, 0, none⟩ (.int .i64 384)) t 92 #[.string ⟨#[]⟩] := (t6.later x7).other _ _ (by omega)
    have b18 : Below w.heap.size w (x7.out.setCell ⟨w.heap.size, 0, none⟩ (.int .i64 384)) := Below.setCell (b16.trans (x7.below.mono b16.size)) (Nat.le_refl _) _
    generalize x7.out.setCell ⟨w.heap.size, 0, none⟩ (.int .i64 384) = W8 at *
    clear n6 e6 t6 b16 n5 e5 t5 b15
    have c8 : W8.cell? ⟨w.heap.size, 0, none⟩ = some (.int .i64 384) := by rw [n8.cell]; rfl
    have z8 : W8.frozen? ⟨w.heap.size, 0, none⟩ = false := n8.frozen 0
    have c9 : W8.cell? ⟨w.heap.size + 1, 0, none⟩ = some (.int .i64 0) := by rw [e8.cell]; rfl
    have z9 : W8.frozen? ⟨w.heap.size + 1, 0, none⟩ = false := e8.frozen 0
    have c7 : W8.cell? ⟨t, 0, none⟩ = some (.string ⟨#[]⟩) := by rw [t8.cell]; rfl
    have l8 := n8.lt
    have l9 := e8.lt
    have l7 := t8.lt
    go_wp2_with (go_at_call 54; (with_reducible refine (need_yes _).mono ?_); rintro e _ ⟨rfl, y9, rfl⟩)
    have nf : Blk (((y9.out.setCell ⟨w.heap.size, 0, none⟩ (.int .i64 (-384))).setCell ⟨w.heap.size, 0, none⟩ (.int .i64 (-384))).setCell ⟨w.heap.size + 1, 0, none⟩ (.int .i64 0)) w.heap.size 3 #[.int .i64 (-384)] := (((((n8.later y9).set 0 _).set 0 _).other _ _ (by omega)).eq (by simp))
    have ef : Blk (((y9.out.setCell ⟨w.heap.size, 0, none⟩ (.int .i64 (-384))).setCell ⟨w.heap.size, 0, none⟩ (.int .i64 (-384))).setCell ⟨w.heap.size + 1, 0, none⟩ (.int .i64 0)) (w.heap.size + 1) 22 #[.int .i64 0] := (((((e8.later y9).other _ _ (by omega)).other _ _ (by omega)).set 0 _).eq (by simp))
    have bf : Below w.heap.size w (((y9.out.setCell ⟨w.heap.size, 0, none⟩ (.int .i64 (-384))).setCell ⟨w.heap.size, 0, none⟩ (.int .i64 (-384))).setCell ⟨w.heap.size + 1, 0, none⟩ (.int .i64 0)) :=
      Below.setCell (Below.setCell (Below.setCell (b18.trans (y9.below.mono b18.size)) (Nat.le_refl _) _) (Nat.le_refl _) _) (Nat.le_succ _) _
    generalize ((y9.out.setCell ⟨w.heap.size, 0, none⟩ (.int .i64 (-384))).setCell ⟨w.heap.size, 0, none⟩ (.int .i64 (-384))).setCell ⟨w.heap.size + 1, 0, none⟩ (.int .i64 0) = Wf at *
    have cf : Wf.cell? ⟨w.heap.size, 0, none⟩ = some (.int .i64 (-384)) := by rw [nf.cell]; rfl
    have df : Wf.cell? ⟨w.heap.size + 1, 0, none⟩ = some (.int .i64 0) := by rw [ef.cell]; rfl
    refine leaves_cons (f := 53) (args := #[.pointer (some ⟨w.heap.size, 0, none⟩), .pointer (some ⟨w.heap.size + 1, 0, none⟩)]) (by simp) (by simp [go_sem]) ?_
    refine (catch_idle _ _ _).mono ?_
    rintro e u' w'' ⟨rfl, rfl, rfl⟩
    simp [Leaves, settle, results, Tryz.results31, go_sem, cf, df]
    exact Later.mk_of bf
  · go_simp
    go_at_call 57
    refine (digits_at ⟨#[53, 48]⟩ ⟨#[]⟩ ⟨#[53, 48]⟩ 2 t _ t5.drew (by decide) rfl rfl (by decide) (by decide)).mono ?_
    rintro e W6 ⟨rfl, t6, b6⟩
    have n6 := n5.drew.below b6 (by omega)
    have e6 := e5.drew.below b6 (by omega)
    have b16 := b15.drew.trans (b6.mono (by omega))
    go_simp
    refine hK.out _ _ trivial (fun _ => ?_)
    clear hK K
    (try simp only [Act.put, List.setIfInBounds_toArray, List.set_cons_zero, List.set_cons_succ])
    refine wpAnyH_ready (rs := [0, 3]) (by kernel_rfl) (by simp) ?_
    refine AllReadyH.cons rfl (fun K hK => ?_) (AllReadyH.cons rfl (fun K hK => ?_) AllReadyH.nil)
    · have n6c : W6.cell? ⟨w.heap.size, 0, none⟩ = some (.int .i64 256) := by rw [n6.cell]; rfl
      go_simp
      refine hK.out _ _ trivial (fun _ => ?_)
      clear hK K
      (try simp only [Act.put, List.setIfInBounds_toArray, List.set_cons_zero, List.set_cons_succ])
      refine wpAnyH_ready (rs := [3]) (by kernel_rfl) (by simp) ?_
      refine AllReadyH.cons rfl (fun K hK => ?_) AllReadyH.nil
      go_simp
      go_at_call 59
      refine (parts_c ⟨#[53, 48]⟩ ⟨#[53]⟩ ⟨#[48, 48, 48, 48, 48, 48, 48]⟩ 7 50000000 128 _ (by decide) rfl (by decide) rfl (by decide) (by decide) (by decide) (by omega) (by omega)).mono ?_
      rintro e _ ⟨rfl, x7, rfl⟩
      go_simp
      refine hK.out _ _ trivial (fun _ => ?_)
      clear hK K
      (try simp only [Act.put, List.setIfInBounds_toArray, List.set_cons_zero, List.set_cons_succ])
      refine wpAnyH_ready (rs := [4]) (by kernel_rfl) (by simp) ?_
      refine AllReadyH.cons rfl (fun K hK => ?_) AllReadyH.nil
      go_simp
      refine hK.out _ _ trivial (fun _ => ?_)
      clear hK K
      (try simp only [Act.put, List.setIfInBounds_toArray, List.set_cons_zero, List.set_cons_succ])
      refine wpAnyH_ready (rs := [5]) (by kernel_rfl) (by simp) ?_
      refine AllReadyH.cons rfl (fun K hK => ?_) AllReadyH.nil
      have n7c : x7.out.cell? ⟨w.heap.size, 0, none⟩ = some (.int .i64 256) := by rw [(n6.later x7).cell]; rfl
      have n7z : x7.out.frozen? ⟨w.heap.size, 0, none⟩ = false := (n6.later x7).frozen 0
      go_simp
      refine hK.out _ _ trivial (fun _ => ?_)
      clear hK K
      (try simp only [Act.put, List.setIfInBounds_toArray, List.set_cons_zero, List.set_cons_succ])
      refine wpAnyH_done (by kernel_rfl) ?_ _
      refine NoPanic.normal ?_
      simp only [show IntKind.i64.wrap (384 : Int) = 384 from rfl]
      have n8 : Blk (x7.out.setCell ⟨w.heap.size, 0, none⟩ (.int .i64 384)) w.heap.size 3 #[.int .i64 384] := ((n6.later x7).set 0 _).eq (by simp)
      have e8 : Blk (x7.out.setCell ⟨w.heap.size, 0, none⟩ (.int .i64 384)) (w.heap.size + 1) 22 #[.int .i64 0] := (e6.later x7).other _ _ (by omega)
      have t8 : Blk (x7.out.setCell ⟨w.heap.size, 0, none⟩ (.int .i64 384)) t 92 #[.string ⟨#[]⟩] := (t6.later x7).other _ _ (by omega)
      have b18 : Below w.heap.size w (x7.out.setCell ⟨w.heap.size, 0, none⟩ (.int .i64 384)) := Below.setCell (b16.trans (x7.below.mono b16.size)) (Nat.le_refl _) _
      generalize x7.out.setCell ⟨w.heap.size, 0, none⟩ (.int .i64 384) = W8 at *
      clear n6 e6 t6 b16 n5 e5 t5 b15
      have c8 : W8.cell? ⟨w.heap.size, 0, none⟩ = some (.int .i64 384) := by rw [n8.cell]; rfl
      have z8 : W8.frozen? ⟨w.heap.size, 0, none⟩ = false := n8.frozen 0
      have c9 : W8.cell? ⟨w.heap.size + 1, 0, none⟩ = some (.int .i64 0) := by rw [e8.cell]; rfl
      have z9 : W8.frozen? ⟨w.heap.size + 1, 0, none⟩ = false := e8.frozen 0
      have c7 : W8.cell? ⟨t, 0, none⟩ = some (.string ⟨#[]⟩) := by rw [t8.cell]; rfl
      have l8 := n8.lt
      have l9 := e8.lt
      have l7 := t8.lt
      go_wp2_with (go_at_call 54; (with_reducible refine (need_yes _).mono ?_); rintro e _ ⟨rfl, y9, rfl⟩)
      have nf : Blk (((y9.out.setCell ⟨w.heap.size, 0, none⟩ (.int .i64 (-384))).setCell ⟨w.heap.size, 0, none⟩ (.int .i64 (-384))).setCell ⟨w.heap.size + 1, 0, none⟩ (.int .i64 0)) w.heap.size 3 #[.int .i64 (-384)] := (((((n8.later y9).set 0 _).set 0 _).other _ _ (by omega)).eq (by simp))
      have ef : Blk (((y9.out.setCell ⟨w.heap.size, 0, none⟩ (.int .i64 (-384))).setCell ⟨w.heap.size, 0, none⟩ (.int .i64 (-384))).setCell ⟨w.heap.size + 1, 0, none⟩ (.int .i64 0)) (w.heap.size + 1) 22 #[.int .i64 0] := (((((e8.later y9).other _ _ (by omega)).other _ _ (by omega)).set 0 _).eq (by simp))
      have bf : Below w.heap.size w (((y9.out.setCell ⟨w.heap.size, 0, none⟩ (.int .i64 (-384))).setCell ⟨w.heap.size, 0, none⟩ (.int .i64 (-384))).setCell ⟨w.heap.size + 1, 0, none⟩ (.int .i64 0)) :=
        Below.setCell (Below.setCell (Below.setCell (b18.trans (y9.below.mono b18.size)) (Nat.le_refl _) _) (Nat.le_refl _) _) (Nat.le_succ _) _
      generalize ((y9.out.setCell ⟨w.heap.size, 0, none⟩ (.int .i64 (-384))).setCell ⟨w.heap.size, 0, none⟩ (.int .i64 (-384))).setCell ⟨w.heap.size + 1, 0, none⟩ (.int .i64 0) = Wf at *
      have cf : Wf.cell? ⟨w.heap.size, 0, none⟩ = some (.int .i64 (-384)) := by rw [nf.cell]; rfl
      have df : Wf.cell? ⟨w.heap.size + 1, 0, none⟩ = some (.int .i64 0) := by rw [ef.cell]; rfl
      refine leaves_cons (f := 53) (args := #[.pointer (some ⟨w.heap.size, 0, none⟩), .pointer (some ⟨w.heap.size + 1, 0, none⟩)]) (by simp) (by simp [go_sem]) ?_
      refine (catch_idle _ _ _).mono ?_
      rintro e u' w'' ⟨rfl, rfl, rfl⟩
      simp [Leaves, settle, results, Tryz.results31, go_sem, cf, df]
      exact Later.mk_of bf
    · go_simp
      go_at_call 59
      refine (parts_c ⟨#[53, 48]⟩ ⟨#[53]⟩ ⟨#[48, 48, 48, 48, 48, 48, 48]⟩ 7 50000000 128 _ (by decide) rfl (by decide) rfl (by decide) (by decide) (by decide) (by omega) (by omega)).mono ?_
      rintro e _ ⟨rfl, x7, rfl⟩
      go_simp
      refine hK.out _ _ trivial (fun _ => ?_)
      clear hK K
      (try simp only [Act.put, List.setIfInBounds_toArray, List.set_cons_zero, List.set_cons_succ])
      refine wpAnyH_ready (rs := [0]) (by kernel_rfl) (by simp) ?_
      refine AllReadyH.cons rfl (fun K hK => ?_) AllReadyH.nil
      have n7c : x7.out.cell? ⟨w.heap.size, 0, none⟩ = some (.int .i64 256) := by rw [(n6.later x7).cell]; rfl
      go_simp
      refine hK.out _ _ trivial (fun _ => ?_)
      clear hK K
      (try simp only [Act.put, List.setIfInBounds_toArray, List.set_cons_zero, List.set_cons_succ])
      refine wpAnyH_ready (rs := [4]) (by kernel_rfl) (by simp) ?_
      refine AllReadyH.cons rfl (fun K hK => ?_) AllReadyH.nil
      go_simp
      refine hK.out _ _ trivial (fun _ => ?_)
      clear hK K
      (try simp only [Act.put, List.setIfInBounds_toArray, List.set_cons_zero, List.set_cons_succ])
      refine wpAnyH_ready (rs := [5]) (by kernel_rfl) (by simp) ?_
      refine AllReadyH.cons rfl (fun K hK => ?_) AllReadyH.nil
      have n7c : x7.out.cell? ⟨w.heap.size, 0, none⟩ = some (.int .i64 256) := by rw [(n6.later x7).cell]; rfl
      have n7z : x7.out.frozen? ⟨w.heap.size, 0, none⟩ = false := (n6.later x7).frozen 0
      go_simp
      refine hK.out _ _ trivial (fun _ => ?_)
      clear hK K
      (try simp only [Act.put, List.setIfInBounds_toArray, List.set_cons_zero, List.set_cons_succ])
      refine wpAnyH_done (by kernel_rfl) ?_ _
      refine NoPanic.normal ?_
      simp only [show IntKind.i64.wrap (384 : Int) = 384 from rfl]
      have n8 : Blk (x7.out.setCell ⟨w.heap.size, 0, none⟩ (.int .i64 384)) w.heap.size 3 #[.int .i64 384] := ((n6.later x7).set 0 _).eq (by simp)
      have e8 : Blk (x7.out.setCell ⟨w.heap.size, 0, none⟩ (.int .i64 384)) (w.heap.size + 1) 22 #[.int .i64 0] := (e6.later x7).other _ _ (by omega)
      have t8 : Blk (x7.out.setCell ⟨w.heap.size, 0, none⟩ (.int .i64 384)) t 92 #[.string ⟨#[]⟩] := (t6.later x7).other _ _ (by omega)
      have b18 : Below w.heap.size w (x7.out.setCell ⟨w.heap.size, 0, none⟩ (.int .i64 384)) := Below.setCell (b16.trans (x7.below.mono b16.size)) (Nat.le_refl _) _
      generalize x7.out.setCell ⟨w.heap.size, 0, none⟩ (.int .i64 384) = W8 at *
      clear n6 e6 t6 b16 n5 e5 t5 b15
      have c8 : W8.cell? ⟨w.heap.size, 0, none⟩ = some (.int .i64 384) := by rw [n8.cell]; rfl
      have z8 : W8.frozen? ⟨w.heap.size, 0, none⟩ = false := n8.frozen 0
      have c9 : W8.cell? ⟨w.heap.size + 1, 0, none⟩ = some (.int .i64 0) := by rw [e8.cell]; rfl
      have z9 : W8.frozen? ⟨w.heap.size + 1, 0, none⟩ = false := e8.frozen 0
      have c7 : W8.cell? ⟨t, 0, none⟩ = some (.string ⟨#[]⟩) := by rw [t8.cell]; rfl
      have l8 := n8.lt
      have l9 := e8.lt
      have l7 := t8.lt
      go_wp2_with (go_at_call 54; (with_reducible refine (need_yes _).mono ?_); rintro e _ ⟨rfl, y9, rfl⟩)
      have nf : Blk (((y9.out.setCell ⟨w.heap.size, 0, none⟩ (.int .i64 (-384))).setCell ⟨w.heap.size, 0, none⟩ (.int .i64 (-384))).setCell ⟨w.heap.size + 1, 0, none⟩ (.int .i64 0)) w.heap.size 3 #[.int .i64 (-384)] := (((((n8.later y9).set 0 _).set 0 _).other _ _ (by omega)).eq (by simp))
      have ef : Blk (((y9.out.setCell ⟨w.heap.size, 0, none⟩ (.int .i64 (-384))).setCell ⟨w.heap.size, 0, none⟩ (.int .i64 (-384))).setCell ⟨w.heap.size + 1, 0, none⟩ (.int .i64 0)) (w.heap.size + 1) 22 #[.int .i64 0] := (((((e8.later y9).other _ _ (by omega)).other _ _ (by omega)).set 0 _).eq (by simp))
      have bf : Below w.heap.size w (((y9.out.setCell ⟨w.heap.size, 0, none⟩ (.int .i64 (-384))).setCell ⟨w.heap.size, 0, none⟩ (.int .i64 (-384))).setCell ⟨w.heap.size + 1, 0, none⟩ (.int .i64 0)) :=
        Below.setCell (Below.setCell (Below.setCell (b18.trans (y9.below.mono b18.size)) (Nat.le_refl _) _) (Nat.le_refl _) _) (Nat.le_succ _) _
      generalize ((y9.out.setCell ⟨w.heap.size, 0, none⟩ (.int .i64 (-384))).setCell ⟨w.heap.size, 0, none⟩ (.int .i64 (-384))).setCell ⟨w.heap.size + 1, 0, none⟩ (.int .i64 0) = Wf at *
      have cf : Wf.cell? ⟨w.heap.size, 0, none⟩ = some (.int .i64 (-384)) := by rw [nf.cell]; rfl
      have df : Wf.cell? ⟨w.heap.size + 1, 0, none⟩ = some (.int .i64 0) := by rw [ef.cell]; rfl
      refine leaves_cons (f := 53) (args := #[.pointer (some ⟨w.heap.size, 0, none⟩), .pointer (some ⟨w.heap.size + 1, 0, none⟩)]) (by simp) (by simp [go_sem]) ?_
      refine (catch_idle _ _ _).mono ?_
      rintro e u' w'' ⟨rfl, rfl, rfl⟩
      simp [Leaves, settle, results, Tryz.results31, go_sem, cf, df]
      exact Later.mk_of bf
end Go.Proofs.YtjmagehfkcnjjaaGreatDoor

/-
  The reader of digits.
-/
import Derived.Test.YtjmagehfkcnjjaaDoorFC
import Derived.Test.YtjmagehfkcnjjaaDoorKC
import Derived.Shelf.Strings.SlTrimAscii
import Derived.Deep.RegionHeld3
namespace Go.Proofs.YtjmagehfkcnjjaaDoor
set_option linter.unusedVariables false
open Go.RowKit Go.Sort

set_option maxHeartbeats 400000 in
theorem need_yes (w : World) : Calls Tryd.prog 23 #[.bool true] w fun e w' => e = .returned (.tuple #[]) ∧ ∃ x : Later w, w' = x.out := by
  go_enter Tryd.func23, Tryd.ntmps23
  go_wp2_with (fail)
  exact bodyPost_end (v := .tuple #[]) (by simp [results, Tryd.results23, go_sem]) rfl ⟨rfl, (Later.mk_of (by repeat (first | (with_reducible assumption) | (with_reducible exact Below.refl _ _) | (with_reducible refine Later.after ?_ _) | (with_reducible refine Later.newer ?_ _) | (with_reducible refine Below.drew ?_) | (with_reducible refine Below.setCell ?_ (by first | exact Nat.le_refl _ | exact Nat.le_add_right _ _ | omega | (simp [go_sem]; done) | (simp [go_sem]; omega)) _))))⟩
set_option maxRecDepth 100000 in
set_option maxHeartbeats 1000000 in
theorem took_c (c : Int) (d : UInt8) (hd : (d.toNat : Int) = c) (S P : ByteArray) (b : Bool) (t : Nat) (w : World) (h : Blk w t 51 #[.string S]) (hp : P = ⟨#[d]⟩) (hb : Lib.hasPrefix S.data.toList P.data.toList = b) (hs : b = true → 1 ≤ S.size) :
    Calls Tryd.prog 24 #[.pointer (some ⟨t, 0, none⟩), .int .u8 c] w fun e w' => e = .returned (.bool b) ∧ Blk w' t 51 #[.string (if b then S.extract 1 S.size else S)] ∧ Below t w w' := by
  have f0 : w.cell? ⟨t, 0, none⟩ = some (.string S) := by rw [h.cell]; rfl
  have z0 : w.frozen? ⟨t, 0, none⟩ = false := h.frozen 0
  have lt := h.lt
  have hc := fun v => Tryd.strings_HasPrefix S P v
  rw [hb] at hc
  have HC := Lib.hid hc
  have hcv : (convert 28 9 (.slice (some ⟨w.heap.size, 0, none⟩) 1 1)).run Tryd.prog ((w.alloc (.cells #[.int .u8 c] 5)).drew) = .ok (.string P) ((w.alloc (.cells #[.int .u8 c] 5)).drew) := by
    have h := run_convert_bytes_back (P := Tryd.prog) ((w.alloc (.cells #[.int .u8 c] 5)).drew) 28 9 5 ⟨w.heap.size, 0, none⟩ 1 [d] Tryd.underlying28 Tryd.underlying5 Tryd.underlying9 (fun j hj => by
      obtain rfl : j = 0 := by simp at hj; omega
      rw [Addr.add_mid]
      have := (Blk.new w 5 #[.int .u8 c]).drew.cell 0
      rw [← hd] at this ⊢
      exact this)
    rw [hp]
    exact h
  clear hc hd hp hb
  go_enter Tryd.func24, Tryd.ntmps24
  go_wp2_with (fail)
  refine wp_region_held_drew (S := fun w' => w'.cell? ⟨t, 0, none⟩ = some (.string S)) (by kernel_rfl) (by simp [go_sem, *]; done) (fun hHeld => ?_)
  refine wpAnyH_take (i := 0) (v := .pointer (some ⟨t, 0, none⟩)) rfl (by kernel_rfl) (by kernel_rfl) (by kernel_rfl) (fun _ _ _ h => h) (Or.inl ⟨by rfl, fun w9 hSw => (by (try dsimp only at hSw); first | rfl | (simp [execOp, go_sem, *]; done) | (go_simp; done) | (go_simp; with_reducible rfl))⟩) hHeld ?_
  (try simp only [Act.put, List.setIfInBounds_toArray, List.set_cons_zero, List.set_cons_succ])
  refine wpAnyH_take (i := 1) (v := .pointer (some ⟨t, 0, none⟩)) rfl (by kernel_rfl) (by kernel_rfl) (by kernel_rfl) (fun _ _ _ h => h) (Or.inl ⟨by rfl, fun w9 hSw => (by (try dsimp only at hSw); first | rfl | (simp [execOp, go_sem, *]; done) | (go_simp; done) | (go_simp; with_reducible rfl))⟩) hHeld ?_
  (try simp only [Act.put, List.setIfInBounds_toArray, List.set_cons_zero, List.set_cons_succ])
  refine wpAnyH_take (i := 2) (v := .pointer (some ⟨t, 0, none⟩)) rfl (by kernel_rfl) (by kernel_rfl) (by kernel_rfl) (fun _ _ _ h => h) (Or.inl ⟨by rfl, fun w9 hSw => (by (try dsimp only at hSw); first | rfl | (simp [execOp, go_sem, *]; done) | (go_simp; done) | (go_simp; with_reducible rfl))⟩) hHeld ?_
  (try simp only [Act.put, List.setIfInBounds_toArray, List.set_cons_zero, List.set_cons_succ])
  refine wpAnyH_take (i := 3) (v := .string S) rfl (by kernel_rfl) (by kernel_rfl) (by kernel_rfl) (fun _ _ _ h => h) (Or.inl ⟨by rfl, fun w9 hSw => (by (try dsimp only at hSw); first | rfl | (simp [execOp, go_sem, *]; done) | (go_simp; done) | (go_simp; with_reducible rfl))⟩) hHeld ?_
  (try simp only [Act.put, List.setIfInBounds_toArray, List.set_cons_zero, List.set_cons_succ])
  refine wpAnyH_take (i := 4) (v := .int .u8 c) rfl (by kernel_rfl) (by kernel_rfl) (by kernel_rfl) (fun _ _ _ h => h) (Or.inl ⟨by rfl, fun w9 hSw => (by (try dsimp only at hSw); first | rfl | (simp [execOp, go_sem, *]; done) | (go_simp; done) | (go_simp; with_reducible rfl))⟩) hHeld ?_
  (try simp only [Act.put, List.setIfInBounds_toArray, List.set_cons_zero, List.set_cons_succ])
  refine wpAnyH_ready (rs := [5]) (by kernel_rfl) (by simp) ?_
  refine AllReadyH.cons rfl (fun K hK => ?_) AllReadyH.nil
  go_simp
  refine hK.out _ _ (by simp [go_sem, *]; done) (fun hHeld => ?_)
  clear hK K
  (try simp only [Act.put, List.setIfInBounds_toArray, List.set_cons_zero, List.set_cons_succ])
  refine wpAnyH_ready (rs := [6]) (by kernel_rfl) (by simp) ?_
  refine AllReadyH.cons rfl (fun K hK => ?_) AllReadyH.nil
  go_simp
  refine hK.out _ _ (by simp [go_sem, *]; done) (fun hHeld => ?_)
  clear hK K
  (try simp only [Act.put, List.setIfInBounds_toArray, List.set_cons_zero, List.set_cons_succ])
  refine wpAnyH_ready (rs := [7]) (by kernel_rfl) (by simp) ?_
  refine AllReadyH.cons rfl (fun K hK => ?_) AllReadyH.nil
  go_simp; (go_at_call 40; (with_reducible refine (HC.out _).mono ?_); rintro e _ ⟨rfl, rfl⟩); go_simp
  refine hK.out _ _ (by simp [go_sem, *]; done) (fun hHeld => ?_)
  clear hK K
  (try simp only [Act.put, List.setIfInBounds_toArray, List.set_cons_zero, List.set_cons_succ])
  refine wpAnyH_ready (rs := [8]) (by kernel_rfl) (by simp) ?_
  refine AllReadyH.cons rfl (fun K hK => ?_) AllReadyH.nil
  go_simp
  refine hK.out _ _ (by simp [go_sem, *]; done) (fun hHeld => ?_)
  clear hK K
  (try simp only [Act.put, List.setIfInBounds_toArray, List.set_cons_zero, List.set_cons_succ])
  refine wpAnyH_done (by kernel_rfl) ?_ _
  have k1 : Blk ((w.alloc (.cells #[.int .u8 c] 5)).drew) t 51 #[.string S] := (Blk.drew (h.alloc _))
  have b1 : Below t w ((w.alloc (.cells #[.int .u8 c] 5)).drew) := (((Below.refl t w).alloc (Nat.le_of_lt lt) _).drew)
  have K1 := Lib.hid k1
  have HB := Lib.hid b1
  have H0 := Lib.hid h
  clear h b1
  generalize (w.alloc (.cells #[.int .u8 c] 5)).drew = W1 at *
  clear f0 z0 hcv
  have f0 : W1.cell? ⟨t, 0, none⟩ = some (.string S) := by rw [k1.cell]; rfl
  have z0 : W1.frozen? ⟨t, 0, none⟩ = false := k1.frozen 0
  have lt1 := k1.lt
  clear k1
  cases b
  · go_wp2_with (fail)
    exact bodyPost_ret (v := .bool false) (by simp [results, Tryd.results24, go_sem, *]) rfl ⟨rfl, K1.out, HB.out⟩
  · have hs1 := hs rfl
    have hs2 : (1 : Int) ≤ (S.size : Int) := by omega
    clear hs
    go_wp2_with (fail)
    exact bodyPost_ret (v := .bool true) (by simp [results, Tryd.results24, go_sem, *]) rfl ⟨rfl, (K1.out.set 0 _).eq (by simp), Below.setCell HB.out (Nat.le_refl _) _⟩
end Go.Proofs.YtjmagehfkcnjjaaDoor

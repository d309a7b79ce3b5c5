/-
  The reference's list of a segment's points.
-/
import Derived.Test.YtcdnekhpeghkiaaP3
import Derived.Test.YtcdnekhpeghkiaaC2
namespace Go.Proofs.Ytcdnekhpeghkiaa
set_option linter.unusedVariables false
open Go.RowKit

/-- the points of row k of a segment's halving -/
def rowL (s : En) (k : Nat) : List (Int × Int) := (List.range (nn s - k)).map fun i => (mdn k (cx s 0) i, mdn k (cx s 1) i)


theorem own_empty (W : World) (base g : Nat) (hg : g = W.heap.size) (h : base ≤ W.heap.size) : (W.alloc (.cells #[] 23)).ownsRow base 23 2 (.slice (some ⟨g, 0, none⟩) 0 0) 0 [] :=
  hg ▸ World.ownsRow_made W #[] 0 h (by unfold maxLen; omega) rfl


set_option maxRecDepth 100000 in
set_option maxHeartbeats 2000000 in
theorem rpoints_2 (s : En) (h8 : s 8 = 2) (w : World) : Calls Try.prog 76 #[.agg #[.int .i64 (s 0), .int .i64 (s 1), .int .i64 (s 2), .int .i64 (s 3), .int .i64 (s 4), .int .i64 (s 5), .int .i64 (s 6), .int .i64 (s 7), .int .i64 (s 8)]] w (SliceRet w 23 2 2 (fl [(s 0, s 1), (s 2, s 3)])) := by
  have H8 := Lib.hid h8
  rw [h8]
  clear h8
  obtain ⟨i0, hi0, hz0, hz1, hz2⟩ := infoPt
  have m1 : min (2 : Int) 4 = 2 := by decide
  have m2 : max (2 : Int) 2 = 2 := by decide
  go_enter Try.func76, Try.ntmps76
  have hcell : ∀ (W : World), Blk W w.heap.size 33 #[.int .i64 (s 0), .int .i64 (s 1), .int .i64 (s 2), .int .i64 (s 3), .int .i64 (s 4), .int .i64 (s 5), .int .i64 (s 6), .int .i64 (s 7), .int .i64 2] → ∀ (j : Nat) (u : Value), (fl [(s 0, s 1), (s 2, s 3)])[j]? = some u → W.cell? ((⟨w.heap.size, 0, none⟩ : Addr).add j) = some u := by
    intro W hW j u h
    rw [Addr.add_mid, Nat.zero_add, hW.cell]
    rcases j with _ | _ | _ | _ | j <;> simp [fl] at h ⊢ <;> exact h
  have HC := Lib.hid hcell
  clear hcell
  go_wp2_with (at_builtin; refine wpList_append_own _ rfl _ _ 30 rfl w.heap.size 23 i0 (.agg #[.int .i64 0, .int .i64 0]) 2 16 Try.underlying30 hi0 hz0 hz1 hz2 rfl (by decide) _ _ _ rfl (own_empty _ _ _ (by simp) (by simp)) ⟨w.heap.size, 0, none⟩ 2 4 (fl [(s 0, s 1), (s 2, s 3)]) rfl rfl (HC.out _ ((Blk.new _ _ _).alloc _)) (fun x hx => fl_one _ x hx) (by unfold maxLen; omega) (by omega) (by simp; omega) ?_; intro v' w3 hown hgrow hnil; have HO := Lib.hid hown; have HW := Lib.hid hgrow; clear hown hgrow hnil)
  refine bodyPost_ret (v := v') (by simp [results, Try.results76, go_sem]) rfl ⟨v', rfl, ?_, Later.mk_of ?_⟩
  · have h := HO.out; simpa using h
  · exact Below.grown (((Below.refl _ w).alloc (Nat.le_refl _) _).alloc (by simp) _) HW.out (by simp; omega) (fun k hk => by simp only [Value.ownBlock] at hk; cases hk; show w.heap.size ≤ w.heap.size + 1; omega)


set_option maxRecDepth 100000 in
set_option maxHeartbeats 2000000 in
theorem rpoints_3 (s : En) (h8 : s 8 = 3) (w : World) : Calls Try.prog 76 #[.agg #[.int .i64 (s 0), .int .i64 (s 1), .int .i64 (s 2), .int .i64 (s 3), .int .i64 (s 4), .int .i64 (s 5), .int .i64 (s 6), .int .i64 (s 7), .int .i64 (s 8)]] w (SliceRet w 23 2 3 (fl [(s 0, s 1), (s 2, s 3), (s 4, s 5)])) := by
  have H8 := Lib.hid h8
  rw [h8]
  clear h8
  obtain ⟨i0, hi0, hz0, hz1, hz2⟩ := infoPt
  have m1 : min (3 : Int) 4 = 3 := by decide
  have m2 : max (3 : Int) 3 = 3 := by decide
  go_enter Try.func76, Try.ntmps76
  have hcell : ∀ (W : World), Blk W w.heap.size 33 #[.int .i64 (s 0), .int .i64 (s 1), .int .i64 (s 2), .int .i64 (s 3), .int .i64 (s 4), .int .i64 (s 5), .int .i64 (s 6), .int .i64 (s 7), .int .i64 3] → ∀ (j : Nat) (u : Value), (fl [(s 0, s 1), (s 2, s 3), (s 4, s 5)])[j]? = some u → W.cell? ((⟨w.heap.size, 0, none⟩ : Addr).add j) = some u := by
    intro W hW j u h
    rw [Addr.add_mid, Nat.zero_add, hW.cell]
    rcases j with _ | _ | _ | _ | _ | _ | j <;> simp [fl] at h ⊢ <;> exact h
  have HC := Lib.hid hcell
  clear hcell
  go_wp2_with (at_builtin; refine wpList_append_own _ rfl _ _ 30 rfl w.heap.size 23 i0 (.agg #[.int .i64 0, .int .i64 0]) 2 16 Try.underlying30 hi0 hz0 hz1 hz2 rfl (by decide) _ _ _ rfl (own_empty _ _ _ (by simp) (by simp)) ⟨w.heap.size, 0, none⟩ 3 4 (fl [(s 0, s 1), (s 2, s 3), (s 4, s 5)]) rfl rfl (HC.out _ ((Blk.new _ _ _).alloc _)) (fun x hx => fl_one _ x hx) (by unfold maxLen; omega) (by omega) (by simp; omega) ?_; intro v' w3 hown hgrow hnil; have HO := Lib.hid hown; have HW := Lib.hid hgrow; clear hown hgrow hnil)
  refine bodyPost_ret (v := v') (by simp [results, Try.results76, go_sem]) rfl ⟨v', rfl, ?_, Later.mk_of ?_⟩
  · have h := HO.out; simpa using h
  · exact Below.grown (((Below.refl _ w).alloc (Nat.le_refl _) _).alloc (by simp) _) HW.out (by simp; omega) (fun k hk => by simp only [Value.ownBlock] at hk; cases hk; show w.heap.size ≤ w.heap.size + 1; omega)


set_option maxRecDepth 100000 in
set_option maxHeartbeats 2000000 in
theorem rpoints_4 (s : En) (h8 : s 8 = 4) (w : World) : Calls Try.prog 76 #[.agg #[.int .i64 (s 0), .int .i64 (s 1), .int .i64 (s 2), .int .i64 (s 3), .int .i64 (s 4), .int .i64 (s 5), .int .i64 (s 6), .int .i64 (s 7), .int .i64 (s 8)]] w (SliceRet w 23 2 4 (fl [(s 0, s 1), (s 2, s 3), (s 4, s 5), (s 6, s 7)])) := by
  have H8 := Lib.hid h8
  rw [h8]
  clear h8
  obtain ⟨i0, hi0, hz0, hz1, hz2⟩ := infoPt
  have m1 : min (4 : Int) 4 = 4 := by decide
  have m2 : max (4 : Int) 4 = 4 := by decide
  go_enter Try.func76, Try.ntmps76
  have hcell : ∀ (W : World), Blk W w.heap.size 33 #[.int .i64 (s 0), .int .i64 (s 1), .int .i64 (s 2), .int .i64 (s 3), .int .i64 (s 4), .int .i64 (s 5), .int .i64 (s 6), .int .i64 (s 7), .int .i64 4] → ∀ (j : Nat) (u : Value), (fl [(s 0, s 1), (s 2, s 3), (s 4, s 5), (s 6, s 7)])[j]? = some u → W.cell? ((⟨w.heap.size, 0, none⟩ : Addr).add j) = some u := by
    intro W hW j u h
    rw [Addr.add_mid, Nat.zero_add, hW.cell]
    rcases j with _ | _ | _ | _ | _ | _ | _ | _ | j <;> simp [fl] at h ⊢ <;> exact h
  have HC := Lib.hid hcell
  clear hcell
  go_wp2_with (at_builtin; refine wpList_append_own _ rfl _ _ 30 rfl w.heap.size 23 i0 (.agg #[.int .i64 0, .int .i64 0]) 2 16 Try.underlying30 hi0 hz0 hz1 hz2 rfl (by decide) _ _ _ rfl (own_empty _ _ _ (by simp) (by simp)) ⟨w.heap.size, 0, none⟩ 4 4 (fl [(s 0, s 1), (s 2, s 3), (s 4, s 5), (s 6, s 7)]) rfl rfl (HC.out _ ((Blk.new _ _ _).alloc _)) (fun x hx => fl_one _ x hx) (by unfold maxLen; omega) (by omega) (by simp; omega) ?_; intro v' w3 hown hgrow hnil; have HO := Lib.hid hown; have HW := Lib.hid hgrow; clear hown hgrow hnil)
  refine bodyPost_ret (v := v') (by simp [results, Try.results76, go_sem]) rfl ⟨v', rfl, ?_, Later.mk_of ?_⟩
  · have h := HO.out; simpa using h
  · exact Below.grown (((Below.refl _ w).alloc (Nat.le_refl _) _).alloc (by simp) _) HW.out (by simp; omega) (fun k hk => by simp only [Value.ownBlock] at hk; cases hk; show w.heap.size ≤ w.heap.size + 1; omega)

end Go.Proofs.Ytcdnekhpeghkiaa

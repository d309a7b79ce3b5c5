/-
  Where a segment is, at so much of its way.
-/
import Derived.Test.YtdlemjecocmbgaaB7
import Derived.Test.YtdlemjecocmbgaaKD
namespace Go.Proofs.Ytdlemjecocmbgaa
set_option linter.unusedVariables false
open Go.RowKit Go.Shelf
attribute [local go_sem] Oper.semAt_some


def pI2 (a00 a01 a02 a03 a10 b00 b01 b02 b03 b10 : Int) : Nat → Array Value
  | 0 => #[.int .i64 0, .int .i64 0]
  | 1 => #[.int .i64 a00, .int .i64 b00]
  | _ => #[.int .i64 a10, .int .i64 b10]
/-- the state of the point, k rows on -/
def aI2 (w : World) (a00 a01 a02 a03 a10 b00 b01 b02 b03 b10 kk nn : Int) (k : Nat) (W : World) : Prop :=
  Blk W (w.heap.size + 1 + 1 + 1) 23 (pI2 a00 a01 a02 a03 a10 b00 b01 b02 b03 b10 k) ∧ Blk W (w.heap.size + 1) 3 #[.int .i64 kk] ∧ Blk W (w.heap.size + 1 + 1) 3 #[.int .i64 nn] ∧ Below w.heap.size w W
set_option maxRecDepth 100000 in
set_option maxHeartbeats 2000000 in
theorem at_2 (a00 a01 a02 a03 a10 b00 b01 b02 b03 b10 kk nn : Int) (w : World) (hn0 : (nn == 0) = false)
    (c00 : ∀ w', Calls Try.prog 19 #[.agg #[.int .i64 a00, .int .i64 b00], .agg #[.int .i64 a01, .int .i64 b01], .int .i64 kk, .int .i64 nn] w' fun e w'' => e = .returned (.agg #[.int .i64 a10, .int .i64 b10]) ∧ ∃ x : Later w', w'' = x.out) :
    Calls Try.prog 36 #[.agg #[.int .i64 a00, .int .i64 b00, .int .i64 a01, .int .i64 b01, .int .i64 a02, .int .i64 b02, .int .i64 a03, .int .i64 b03, .int .i64 2], .int .i64 kk, .int .i64 nn] w fun e w' => e = .returned (.agg #[.int .i64 a10, .int .i64 b10]) ∧ ∃ x : Later w, w' = x.out := by
  refine (callsIn_wide (n := 4)).1 ?_
  have Hc00 := Lib.hid c00; clear c00
  refine callsIn_of_wp_marks Try.func36 rfl trivial ?_ rfl
  simp only [Try.ntmps36, List.size_toArray, List.length_cons, List.length_nil, Nat.reduceAdd, Nat.reduceSub, Array.replicate_succ, Array.replicate_zero, List.push_toArray, List.append_toArray, List.nil_append, List.cons_append]
  refine wpIn_wide.2 ?_
  go_upto_region 1 with (fail)
  go_cut [10] from 9 to 10 (fun s10 wx => s10 = .bool false ∧ Blk wx w.heap.size 39 #[.int .i64 a00, .int .i64 b00, .int .i64 a01, .int .i64 b01, .int .i64 a02, .int .i64 b02, .int .i64 a03, .int .i64 b03, .int .i64 2] ∧ aI2 w a00 a01 a02 a03 a10 b00 b01 b02 b03 b10 kk nn 0 wx)
  case first =>
    go_wp2_with (fail)
    go_meet
    refine ⟨rfl, (by repeat (first | (with_reducible assumption) | (with_reducible refine Blk.later ?_ _) | (with_reducible refine Blk.drew ?_) | ((with_reducible refine Blk.new' ?_); (simp only [World.size_alloc, World.size_setCell, World.size_drew]; done)) | (with_reducible refine Blk.alloc ?_ _))), ?_⟩
    simp only [aI2, pI2]
    exact ⟨(by repeat (first | (with_reducible assumption) | (with_reducible refine Blk.later ?_ _) | (with_reducible refine Blk.drew ?_) | ((with_reducible refine Blk.new' ?_); (simp only [World.size_alloc, World.size_setCell, World.size_drew]; done)) | (with_reducible refine Blk.alloc ?_ _))), (by repeat (first | (with_reducible assumption) | (with_reducible refine Blk.later ?_ _) | (with_reducible refine Blk.drew ?_) | ((with_reducible refine Blk.new' ?_); (simp only [World.size_alloc, World.size_setCell, World.size_drew]; done)) | (with_reducible refine Blk.alloc ?_ _))), (by repeat (first | (with_reducible assumption) | (with_reducible refine Blk.later ?_ _) | (with_reducible refine Blk.drew ?_) | ((with_reducible refine Blk.new' ?_); (simp only [World.size_alloc, World.size_setCell, World.size_drew]; done)) | (with_reducible refine Blk.alloc ?_ _))), by repeat (first | (with_reducible assumption) | (with_reducible exact Below.refl _ _) | (with_reducible refine Later.after ?_ _) | (with_reducible refine Later.newer ?_ _) | (with_reducible refine Below.drew ?_) | (with_reducible refine Below.setCell ?_ (by first | exact Nat.le_refl _ | exact Nat.le_add_right _ _ | omega | (simp [go_sem]; done) | (simp [go_sem]; omega)) _))⟩
  case rest =>
    obtain ⟨rfl, bs, hi⟩ := hcut
    have hi0 := hi
    obtain ⟨bp, bk, bn, hB⟩ := hi
    obtain ⟨f1, f2, f3⟩ := bs.all
    have lp := bp.lt
    have lk := bk.lt
    have ln := bn.lt
    have HI := Lib.hid hi0
    clear hB hi0 bp bk bn bs
    go_wp2_with (first | (go_at_call 49; refine (rows_c _ _ _ _ _ _ _ _ _ _ _ _).mono ?_; rintro e _ ⟨rfl, rfl⟩))
    refine (wpIn_wide (n := 4)).1 ?_
    have sz : ((wc.alloc (.cells #[.int .i64 a00, .int .i64 b00, .int .i64 a01, .int .i64 b01, .int .i64 a02, .int .i64 b02, .int .i64 a03, .int .i64 b03, .int .i64 2] 39)).alloc (.cells #[.func (.func 52) #[] #[.pointer (some ⟨w.heap.size + 1, 0, none⟩), .pointer (some ⟨w.heap.size + 1 + 1, 0, none⟩)]] 29)).heap.size = wc.heap.size + 2 := by simp
    refine wpIn_rangeFunc_idx rfl (by omega) (gf := 63) rfl trivial (enters_of Try.func63 (by kernel_rfl) rfl)
      (rowsAt_2_seq a00 a01 a02 a03 a10 b00 b01 b02 b03 b10 kk nn wc.heap.size (wc.heap.size + 1) (w.heap.size + 1) (w.heap.size + 1 + 1) ((wc.alloc (.cells #[.int .i64 a00, .int .i64 b00, .int .i64 a01, .int .i64 b01, .int .i64 a02, .int .i64 b02, .int .i64 a03, .int .i64 b03, .int .i64 2] 39)).alloc (.cells #[.func (.func 52) #[] #[.pointer (some ⟨w.heap.size + 1, 0, none⟩), .pointer (some ⟨w.heap.size + 1 + 1, 0, none⟩)]] 29)) (fun v hk hn => at1_c _ _ _ _ _ _ _ _ _ _ v Hc00.out hk hn) ((Blk.new _ _ _).alloc _) (Blk.new' (by simp)) ((HI.out.2.1.alloc _).alloc _) ((HI.out.2.2.1.alloc _).alloc _)) (fun h k => h.trans k)
      (fun W l o o' hl h hc _ => KeepsTop.putObj (by intro b hb; simp only [List.mem_cons, List.not_mem_nil, or_false] at hb; rw [sz]; omega) (by rw [sz] at hl ⊢; exact hl) h hc) (Below.refl _ _) (fun _ => rfl)
      (fun k W => wc.heap.size + 2 ≤ W.heap.size ∧ aI2 w a00 a01 a02 a03 a10 b00 b01 b02 b03 b10 kk nn k W) ?own ?start
      (fun k x a' W => ∃ (v0 v1 v2 v3 v4 v5 v7 v9 v10 v11 v12 v13 v14 v15 v16 v17 v19 v20 v21 : Value) (g8 : Nat), wc.heap.size + 2 ≤ g8 ∧ Blk W g8 37 x.2 ∧ aI2 w a00 a01 a02 a03 a10 b00 b01 b02 b03 b10 kk nn k W ∧
        a' = ⟨#[v0, v1, v2, v3, v4, v5, .pointer (some ⟨w.heap.size + 1 + 1 + 1, 0, none⟩), v7, .pointer (some ⟨g8, 0, none⟩), v9, v10, v11, v12, v13, v14, v15, v16, v17, .agg x.2, v19, v20, v21], []⟩)
      ?ownM ?assign ?body ?done
    case own =>
      rintro k A B row ⟨l9, ap, ak, an, hB⟩ hg hr
      rw [sz] at hr
      exact ⟨Nat.le_trans l9 hg.size, ap.grown hg hr (by omega), ak.grown hg hr (by omega), an.grown hg hr (by omega), hB.grown hg hB.size (fun k e => by have := hr k e; omega)⟩
    case start =>
      obtain ⟨ap, ak, an, hB⟩ := HI.out
      exact ⟨by simp, (ap.alloc _).alloc _, (ak.alloc _).alloc _, (an.alloc _).alloc _, (hB.alloc hB.size _).alloc (by have := hB.size; simp; omega) _⟩
    case ownM =>
      rintro k x a' s A B row ⟨v0, v1, v2, v3, v4, v5, v7, v9, v10, v11, v12, v13, v14, v15, v16, v17, v19, v20, v21, g8, hg8, h8, ⟨ap, ak, an, hB⟩, ha⟩ hg hr
      have hr' : ∀ r, row = some r → ∃ o : Obj, A.heap[r]? = some o ∧ o.isCells = false := fun r e => (hr r e).2
      exact ⟨v0, v1, v2, v3, v4, v5, v7, v9, v10, v11, v12, v13, v14, v15, v16, v17, v19, v20, v21, g8, hg8, h8.kept hg hr', ⟨ap.kept hg hr', ak.kept hg hr', an.kept hg hr', hB.grown hg hB.size (fun k e => by have := (hr k e).1; rw [sz] at this; omega)⟩, ha⟩
    case assign =>
      rintro l k x W K hx ⟨l9, ap, ak, an, hB⟩ hK
      have hI : aI2 w a00 a01 a02 a03 a10 b00 b01 b02 b03 b10 kk nn k W := ⟨ap, ak, an, hB⟩
      have HK := Lib.hid hK
      have HI' := Lib.hid hI
      clear hK hI ap ak an hB
      match k, hx with
      | k + 2, hx => simp at hx
      | 0, hx =>
        obtain rfl := Option.some.inj hx
        simp only [encP]
        gi_wp2
        obtain ⟨ap, ak, an, hB⟩ := HI'.out
        exact HK.out _ _ ((KeepsOthers.alloc W _).from _) (KeepsTop.grown (grown_alloc W _) (by intro b hb; simp only [List.mem_cons, List.not_mem_nil, or_false] at hb; omega))
          ⟨_, _, _, _, _, _, _, _, _, _, _, _, _, _, _, _, _, _, _, W.heap.size, l9, Blk.new _ _ _, ⟨ap.alloc _, ak.alloc _, an.alloc _, hB.alloc hB.size _⟩, rfl⟩
      | 1, hx =>
        obtain rfl := Option.some.inj hx
        simp only [encP]
        gi_wp2
        obtain ⟨ap, ak, an, hB⟩ := HI'.out
        exact HK.out _ _ ((KeepsOthers.alloc W _).from _) (KeepsTop.grown (grown_alloc W _) (by intro b hb; simp only [List.mem_cons, List.not_mem_nil, or_false] at hb; omega))
          ⟨_, _, _, _, _, _, _, _, _, _, _, _, _, _, _, _, _, _, _, W.heap.size, l9, Blk.new _ _ _, ⟨ap.alloc _, ak.alloc _, an.alloc _, hB.alloc hB.size _⟩, rfl⟩
    case body =>
      rintro l k x a' W hx ⟨v0, v1, v2, v3, v4, v5, v7, v9, v10, v11, v12, v13, v14, v15, v16, v17, v19, v20, v21, g8, hg8, h8, ⟨ap, ak, an, hB⟩, rfl⟩
      have l8 := h8.lt
      have l6 := ap.lt
      match k, hx with
      | k + 2, hx => simp at hx
      | 0, hx =>
        obtain rfl := Option.some.inj hx
        simp only [pI2] at ap
        dsimp only at h8
        have Hap := Lib.hid ap
        have Hak := Lib.hid ak
        have Han := Lib.hid an
        have HB := Lib.hid hB
        obtain ⟨p1, p2, p3⟩ := ap.all
        obtain ⟨s1, s2, s3⟩ := h8.all
        clear ap ak an hB h8
        gi_wp2
        refine ⟨((KeepsOthers.setCell _ _ _).trans (KeepsOthers.setCell _ _ _)).from _, (KeepsTop.setCell _ (by intro b hb; simp only [List.mem_cons, List.not_mem_nil, or_false] at hb; show b ≠ w.heap.size + 1 + 1 + 1; omega) (by rw [sz]; show w.heap.size + 1 + 1 + 1 < _; omega)).trans (KeepsTop.setCell _ (by intro b hb; simp only [List.mem_cons, List.not_mem_nil, or_false] at hb; show b ≠ w.heap.size + 1 + 1 + 1; omega) (by rw [sz]; show w.heap.size + 1 + 1 + 1 < _; omega)), by simp only [World.size_setCell]; omega, ((Hap.out.set _ _).set _ _).eq (by simp [pI2]), (Hak.out.other _ _ (by omega)).other _ _ (by omega), (Han.out.other _ _ (by omega)).other _ _ (by omega), by have hB := HB.out; ((repeat (first | (with_reducible assumption) | (with_reducible exact Below.refl _ _) | (with_reducible refine Later.after ?_ _) | (with_reducible refine Later.newer ?_ _) | (with_reducible refine Below.drew ?_) | (with_reducible refine Below.setCell ?_ (by first | exact Nat.le_refl _ | exact Nat.le_add_right _ _ | omega | (simp [go_sem]; done) | (simp [go_sem]; omega)) _))))⟩
      | 1, hx =>
        obtain rfl := Option.some.inj hx
        simp only [pI2] at ap
        dsimp only at h8
        have Hap := Lib.hid ap
        have Hak := Lib.hid ak
        have Han := Lib.hid an
        have HB := Lib.hid hB
        obtain ⟨p1, p2, p3⟩ := ap.all
        obtain ⟨s1, s2, s3⟩ := h8.all
        clear ap ak an hB h8
        gi_wp2
        refine ⟨((KeepsOthers.setCell _ _ _).trans (KeepsOthers.setCell _ _ _)).from _, (KeepsTop.setCell _ (by intro b hb; simp only [List.mem_cons, List.not_mem_nil, or_false] at hb; show b ≠ w.heap.size + 1 + 1 + 1; omega) (by rw [sz]; show w.heap.size + 1 + 1 + 1 < _; omega)).trans (KeepsTop.setCell _ (by intro b hb; simp only [List.mem_cons, List.not_mem_nil, or_false] at hb; show b ≠ w.heap.size + 1 + 1 + 1; omega) (by rw [sz]; show w.heap.size + 1 + 1 + 1 < _; omega)), by simp only [World.size_setCell]; omega, ((Hap.out.set _ _).set _ _).eq (by simp [pI2]), (Hak.out.other _ _ (by omega)).other _ _ (by omega), (Han.out.other _ _ (by omega)).other _ _ (by omega), by have hB := HB.out; ((repeat (first | (with_reducible assumption) | (with_reducible exact Below.refl _ _) | (with_reducible refine Later.after ?_ _) | (with_reducible refine Later.newer ?_ _) | (with_reducible refine Below.drew ?_) | (with_reducible refine Below.setCell ?_ (by first | exact Nat.le_refl _ | exact Nat.le_add_right _ _ | omega | (simp [go_sem]; done) | (simp [go_sem]; omega)) _))))⟩
    case done =>
      rintro D W hD ⟨l9, ap, ak, an, hB⟩ hK
      simp only [List.length_cons, List.length_nil, pI2] at ap
      rw [sz] at hD
      have Hp := Lib.hid ap
      have HB := Lib.hid hB
      have HKD := Lib.hid hK
      obtain ⟨p1, p2, p3⟩ := ap.all
      clear ap ak an hB hK
      go_wp2
      have n1 : Blk ((W.setCell ⟨w.heap.size + 1 + 1 + 1, 0, none⟩ (.int .i64 a10)).setCell ⟨w.heap.size + 1 + 1 + 1, 1, none⟩ (.int .i64 b10)) (w.heap.size + 1 + 1 + 1) 23 #[.int .i64 a10, .int .i64 b10] := ((Hp.out.set _ _).set _ _).eq (by simp)
      have hb : Below w.heap.size w ((W.setCell ⟨w.heap.size + 1 + 1 + 1, 0, none⟩ (.int .i64 a10)).setCell ⟨w.heap.size + 1 + 1 + 1, 1, none⟩ (.int .i64 b10)) := by have hB := HB.out; (repeat (first | (with_reducible assumption) | (with_reducible exact Below.refl _ _) | (with_reducible refine Later.after ?_ _) | (with_reducible refine Later.newer ?_ _) | (with_reducible refine Below.drew ?_) | (with_reducible refine Below.setCell ?_ (by first | exact Nat.le_refl _ | exact Nat.le_add_right _ _ | omega | (simp [go_sem]; done) | (simp [go_sem]; omega)) _)))
      have hK' : ((W.setCell ⟨w.heap.size + 1 + 1 + 1, 0, none⟩ (.int .i64 a10)).setCell ⟨w.heap.size + 1 + 1 + 1, 1, none⟩ (.int .i64 b10)).heap[D]? = some (.deferred (some [])) := (Below.heap_setCell _ _ _ _ (by show D ≠ w.heap.size + 1 + 1 + 1; omega)).trans ((Below.heap_setCell _ _ _ _ (by show D ≠ w.heap.size + 1 + 1 + 1; omega)).trans HKD.out)
      generalize (W.setCell ⟨w.heap.size + 1 + 1 + 1, 0, none⟩ (.int .i64 a10)).setCell ⟨w.heap.size + 1 + 1 + 1, 1, none⟩ (.int .i64 b10) = V at n1 hb hK' ⊢
      have m1 : Blk (V.putObj D (.deferred none)) (w.heap.size + 1 + 1 + 1) 23 #[.int .i64 a10, .int .i64 b10] := (World.putObj_heap_other (by omega)).trans n1
      have mc1 := m1.cell
      clear n1 m1 p1 p2 p3
      refine ⟨by simp, .inl ⟨_, _, rfl, run_takeDeferred hK', ?_⟩⟩
      refine ⟨.agg #[.int .i64 a10, .int .i64 b10], ?_, rfl, Later.mk_of (hb.trans (belowK_b (w := w) (Nat.le_refl _) _ D _ _ (by omega) hK' rfl rfl))⟩
      simp [results, Try.func36, go_sem, mc1]


def pI3 (a00 a01 a02 a03 a10 a11 a20 b00 b01 b02 b03 b10 b11 b20 : Int) : Nat → Array Value
  | 0 => #[.int .i64 0, .int .i64 0]
  | 1 => #[.int .i64 a00, .int .i64 b00]
  | 2 => #[.int .i64 a10, .int .i64 b10]
  | _ => #[.int .i64 a20, .int .i64 b20]
/-- the state of the point, k rows on -/
def aI3 (w : World) (a00 a01 a02 a03 a10 a11 a20 b00 b01 b02 b03 b10 b11 b20 kk nn : Int) (k : Nat) (W : World) : Prop :=
  Blk W (w.heap.size + 1 + 1 + 1) 23 (pI3 a00 a01 a02 a03 a10 a11 a20 b00 b01 b02 b03 b10 b11 b20 k) ∧ Blk W (w.heap.size + 1) 3 #[.int .i64 kk] ∧ Blk W (w.heap.size + 1 + 1) 3 #[.int .i64 nn] ∧ Below w.heap.size w W
set_option maxRecDepth 100000 in
set_option maxHeartbeats 2000000 in
theorem at_3 (a00 a01 a02 a03 a10 a11 a20 b00 b01 b02 b03 b10 b11 b20 kk nn : Int) (w : World) (hn0 : (nn == 0) = false)
    (c00 : ∀ w', Calls Try.prog 19 #[.agg #[.int .i64 a00, .int .i64 b00], .agg #[.int .i64 a01, .int .i64 b01], .int .i64 kk, .int .i64 nn] w' fun e w'' => e = .returned (.agg #[.int .i64 a10, .int .i64 b10]) ∧ ∃ x : Later w', w'' = x.out) (c01 : ∀ w', Calls Try.prog 19 #[.agg #[.int .i64 a01, .int .i64 b01], .agg #[.int .i64 a02, .int .i64 b02], .int .i64 kk, .int .i64 nn] w' fun e w'' => e = .returned (.agg #[.int .i64 a11, .int .i64 b11]) ∧ ∃ x : Later w', w'' = x.out) (c10 : ∀ w', Calls Try.prog 19 #[.agg #[.int .i64 a10, .int .i64 b10], .agg #[.int .i64 a11, .int .i64 b11], .int .i64 kk, .int .i64 nn] w' fun e w'' => e = .returned (.agg #[.int .i64 a20, .int .i64 b20]) ∧ ∃ x : Later w', w'' = x.out) :
    Calls Try.prog 36 #[.agg #[.int .i64 a00, .int .i64 b00, .int .i64 a01, .int .i64 b01, .int .i64 a02, .int .i64 b02, .int .i64 a03, .int .i64 b03, .int .i64 3], .int .i64 kk, .int .i64 nn] w fun e w' => e = .returned (.agg #[.int .i64 a20, .int .i64 b20]) ∧ ∃ x : Later w, w' = x.out := by
  refine (callsIn_wide (n := 4)).1 ?_
  have Hc00 := Lib.hid c00; clear c00
  have Hc01 := Lib.hid c01; clear c01
  have Hc10 := Lib.hid c10; clear c10
  refine callsIn_of_wp_marks Try.func36 rfl trivial ?_ rfl
  simp only [Try.ntmps36, List.size_toArray, List.length_cons, List.length_nil, Nat.reduceAdd, Nat.reduceSub, Array.replicate_succ, Array.replicate_zero, List.push_toArray, List.append_toArray, List.nil_append, List.cons_append]
  refine wpIn_wide.2 ?_
  go_upto_region 1 with (fail)
  go_cut [10] from 9 to 10 (fun s10 wx => s10 = .bool false ∧ Blk wx w.heap.size 39 #[.int .i64 a00, .int .i64 b00, .int .i64 a01, .int .i64 b01, .int .i64 a02, .int .i64 b02, .int .i64 a03, .int .i64 b03, .int .i64 3] ∧ aI3 w a00 a01 a02 a03 a10 a11 a20 b00 b01 b02 b03 b10 b11 b20 kk nn 0 wx)
  case first =>
    go_wp2_with (fail)
    go_meet
    refine ⟨rfl, (by repeat (first | (with_reducible assumption) | (with_reducible refine Blk.later ?_ _) | (with_reducible refine Blk.drew ?_) | ((with_reducible refine Blk.new' ?_); (simp only [World.size_alloc, World.size_setCell, World.size_drew]; done)) | (with_reducible refine Blk.alloc ?_ _))), ?_⟩
    simp only [aI3, pI3]
    exact ⟨(by repeat (first | (with_reducible assumption) | (with_reducible refine Blk.later ?_ _) | (with_reducible refine Blk.drew ?_) | ((with_reducible refine Blk.new' ?_); (simp only [World.size_alloc, World.size_setCell, World.size_drew]; done)) | (with_reducible refine Blk.alloc ?_ _))), (by repeat (first | (with_reducible assumption) | (with_reducible refine Blk.later ?_ _) | (with_reducible refine Blk.drew ?_) | ((with_reducible refine Blk.new' ?_); (simp only [World.size_alloc, World.size_setCell, World.size_drew]; done)) | (with_reducible refine Blk.alloc ?_ _))), (by repeat (first | (with_reducible assumption) | (with_reducible refine Blk.later ?_ _) | (with_reducible refine Blk.drew ?_) | ((with_reducible refine Blk.new' ?_); (simp only [World.size_alloc, World.size_setCell, World.size_drew]; done)) | (with_reducible refine Blk.alloc ?_ _))), by repeat (first | (with_reducible assumption) | (with_reducible exact Below.refl _ _) | (with_reducible refine Later.after ?_ _) | (with_reducible refine Later.newer ?_ _) | (with_reducible refine Below.drew ?_) | (with_reducible refine Below.setCell ?_ (by first | exact Nat.le_refl _ | exact Nat.le_add_right _ _ | omega | (simp [go_sem]; done) | (simp [go_sem]; omega)) _))⟩
  case rest =>
    obtain ⟨rfl, bs, hi⟩ := hcut
    have hi0 := hi
    obtain ⟨bp, bk, bn, hB⟩ := hi
    obtain ⟨f1, f2, f3⟩ := bs.all
    have lp := bp.lt
    have lk := bk.lt
    have ln := bn.lt
    have HI := Lib.hid hi0
    clear hB hi0 bp bk bn bs
    go_wp2_with (first | (go_at_call 49; refine (rows_c _ _ _ _ _ _ _ _ _ _ _ _).mono ?_; rintro e _ ⟨rfl, rfl⟩))
    refine (wpIn_wide (n := 4)).1 ?_
    have sz : ((wc.alloc (.cells #[.int .i64 a00, .int .i64 b00, .int .i64 a01, .int .i64 b01, .int .i64 a02, .int .i64 b02, .int .i64 a03, .int .i64 b03, .int .i64 3] 39)).alloc (.cells #[.func (.func 52) #[] #[.pointer (some ⟨w.heap.size + 1, 0, none⟩), .pointer (some ⟨w.heap.size + 1 + 1, 0, none⟩)]] 29)).heap.size = wc.heap.size + 2 := by simp
    refine wpIn_rangeFunc_idx rfl (by omega) (gf := 63) rfl trivial (enters_of Try.func63 (by kernel_rfl) rfl)
      (rowsAt_3_seq a00 a01 a02 a03 a10 a11 a20 b00 b01 b02 b03 b10 b11 b20 kk nn wc.heap.size (wc.heap.size + 1) (w.heap.size + 1) (w.heap.size + 1 + 1) ((wc.alloc (.cells #[.int .i64 a00, .int .i64 b00, .int .i64 a01, .int .i64 b01, .int .i64 a02, .int .i64 b02, .int .i64 a03, .int .i64 b03, .int .i64 3] 39)).alloc (.cells #[.func (.func 52) #[] #[.pointer (some ⟨w.heap.size + 1, 0, none⟩), .pointer (some ⟨w.heap.size + 1 + 1, 0, none⟩)]] 29)) (fun v hk hn => at1_c _ _ _ _ _ _ _ _ _ _ v Hc00.out hk hn) (fun v hk hn => at1_c _ _ _ _ _ _ _ _ _ _ v Hc01.out hk hn) (fun v hk hn => at1_c _ _ _ _ _ _ _ _ _ _ v Hc10.out hk hn) ((Blk.new _ _ _).alloc _) (Blk.new' (by simp)) ((HI.out.2.1.alloc _).alloc _) ((HI.out.2.2.1.alloc _).alloc _)) (fun h k => h.trans k)
      (fun W l o o' hl h hc _ => KeepsTop.putObj (by intro b hb; simp only [List.mem_cons, List.not_mem_nil, or_false] at hb; rw [sz]; omega) (by rw [sz] at hl ⊢; exact hl) h hc) (Below.refl _ _) (fun _ => rfl)
      (fun k W => wc.heap.size + 2 ≤ W.heap.size ∧ aI3 w a00 a01 a02 a03 a10 a11 a20 b00 b01 b02 b03 b10 b11 b20 kk nn k W) ?own ?start
      (fun k x a' W => ∃ (v0 v1 v2 v3 v4 v5 v7 v9 v10 v11 v12 v13 v14 v15 v16 v17 v19 v20 v21 : Value) (g8 : Nat), wc.heap.size + 2 ≤ g8 ∧ Blk W g8 37 x.2 ∧ aI3 w a00 a01 a02 a03 a10 a11 a20 b00 b01 b02 b03 b10 b11 b20 kk nn k W ∧
        a' = ⟨#[v0, v1, v2, v3, v4, v5, .pointer (some ⟨w.heap.size + 1 + 1 + 1, 0, none⟩), v7, .pointer (some ⟨g8, 0, none⟩), v9, v10, v11, v12, v13, v14, v15, v16, v17, .agg x.2, v19, v20, v21], []⟩)
      ?ownM ?assign ?body ?done
    case own =>
      rintro k A B row ⟨l9, ap, ak, an, hB⟩ hg hr
      rw [sz] at hr
      exact ⟨Nat.le_trans l9 hg.size, ap.grown hg hr (by omega), ak.grown hg hr (by omega), an.grown hg hr (by omega), hB.grown hg hB.size (fun k e => by have := hr k e; omega)⟩
    case start =>
      obtain ⟨ap, ak, an, hB⟩ := HI.out
      exact ⟨by simp, (ap.alloc _).alloc _, (ak.alloc _).alloc _, (an.alloc _).alloc _, (hB.alloc hB.size _).alloc (by have := hB.size; simp; omega) _⟩
    case ownM =>
      rintro k x a' s A B row ⟨v0, v1, v2, v3, v4, v5, v7, v9, v10, v11, v12, v13, v14, v15, v16, v17, v19, v20, v21, g8, hg8, h8, ⟨ap, ak, an, hB⟩, ha⟩ hg hr
      have hr' : ∀ r, row = some r → ∃ o : Obj, A.heap[r]? = some o ∧ o.isCells = false := fun r e => (hr r e).2
      exact ⟨v0, v1, v2, v3, v4, v5, v7, v9, v10, v11, v12, v13, v14, v15, v16, v17, v19, v20, v21, g8, hg8, h8.kept hg hr', ⟨ap.kept hg hr', ak.kept hg hr', an.kept hg hr', hB.grown hg hB.size (fun k e => by have := (hr k e).1; rw [sz] at this; omega)⟩, ha⟩
    case assign =>
      rintro l k x W K hx ⟨l9, ap, ak, an, hB⟩ hK
      have hI : aI3 w a00 a01 a02 a03 a10 a11 a20 b00 b01 b02 b03 b10 b11 b20 kk nn k W := ⟨ap, ak, an, hB⟩
      have HK := Lib.hid hK
      have HI' := Lib.hid hI
      clear hK hI ap ak an hB
      match k, hx with
      | k + 3, hx => simp at hx
      | 0, hx =>
        obtain rfl := Option.some.inj hx
        simp only [encP]
        gi_wp2
        obtain ⟨ap, ak, an, hB⟩ := HI'.out
        exact HK.out _ _ ((KeepsOthers.alloc W _).from _) (KeepsTop.grown (grown_alloc W _) (by intro b hb; simp only [List.mem_cons, List.not_mem_nil, or_false] at hb; omega))
          ⟨_, _, _, _, _, _, _, _, _, _, _, _, _, _, _, _, _, _, _, W.heap.size, l9, Blk.new _ _ _, ⟨ap.alloc _, ak.alloc _, an.alloc _, hB.alloc hB.size _⟩, rfl⟩
      | 1, hx =>
        obtain rfl := Option.some.inj hx
        simp only [encP]
        gi_wp2
        obtain ⟨ap, ak, an, hB⟩ := HI'.out
        exact HK.out _ _ ((KeepsOthers.alloc W _).from _) (KeepsTop.grown (grown_alloc W _) (by intro b hb; simp only [List.mem_cons, List.not_mem_nil, or_false] at hb; omega))
          ⟨_, _, _, _, _, _, _, _, _, _, _, _, _, _, _, _, _, _, _, W.heap.size, l9, Blk.new _ _ _, ⟨ap.alloc _, ak.alloc _, an.alloc _, hB.alloc hB.size _⟩, rfl⟩
      | 2, hx =>
        obtain rfl := Option.some.inj hx
        simp only [encP]
        gi_wp2
        obtain ⟨ap, ak, an, hB⟩ := HI'.out
        exact HK.out _ _ ((KeepsOthers.alloc W _).from _) (KeepsTop.grown (grown_alloc W _) (by intro b hb; simp only [List.mem_cons, List.not_mem_nil, or_false] at hb; omega))
          ⟨_, _, _, _, _, _, _, _, _, _, _, _, _, _, _, _, _, _, _, W.heap.size, l9, Blk.new _ _ _, ⟨ap.alloc _, ak.alloc _, an.alloc _, hB.alloc hB.size _⟩, rfl⟩
    case body =>
      rintro l k x a' W hx ⟨v0, v1, v2, v3, v4, v5, v7, v9, v10, v11, v12, v13, v14, v15, v16, v17, v19, v20, v21, g8, hg8, h8, ⟨ap, ak, an, hB⟩, rfl⟩
      have l8 := h8.lt
      have l6 := ap.lt
      match k, hx with
      | k + 3, hx => simp at hx
      | 0, hx =>
        obtain rfl := Option.some.inj hx
        simp only [pI3] at ap
        dsimp only at h8
        have Hap := Lib.hid ap
        have Hak := Lib.hid ak
        have Han := Lib.hid an
        have HB := Lib.hid hB
        obtain ⟨p1, p2, p3⟩ := ap.all
        obtain ⟨s1, s2, s3⟩ := h8.all
        clear ap ak an hB h8
        gi_wp2
        refine ⟨((KeepsOthers.setCell _ _ _).trans (KeepsOthers.setCell _ _ _)).from _, (KeepsTop.setCell _ (by intro b hb; simp only [List.mem_cons, List.not_mem_nil, or_false] at hb; show b ≠ w.heap.size + 1 + 1 + 1; omega) (by rw [sz]; show w.heap.size + 1 + 1 + 1 < _; omega)).trans (KeepsTop.setCell _ (by intro b hb; simp only [List.mem_cons, List.not_mem_nil, or_false] at hb; show b ≠ w.heap.size + 1 + 1 + 1; omega) (by rw [sz]; show w.heap.size + 1 + 1 + 1 < _; omega)), by simp only [World.size_setCell]; omega, ((Hap.out.set _ _).set _ _).eq (by simp [pI3]), (Hak.out.other _ _ (by omega)).other _ _ (by omega), (Han.out.other _ _ (by omega)).other _ _ (by omega), by have hB := HB.out; ((repeat (first | (with_reducible assumption) | (with_reducible exact Below.refl _ _) | (with_reducible refine Later.after ?_ _) | (with_reducible refine Later.newer ?_ _) | (with_reducible refine Below.drew ?_) | (with_reducible refine Below.setCell ?_ (by first | exact Nat.le_refl _ | exact Nat.le_add_right _ _ | omega | (simp [go_sem]; done) | (simp [go_sem]; omega)) _))))⟩
      | 1, hx =>
        obtain rfl := Option.some.inj hx
        simp only [pI3] at ap
        dsimp only at h8
        have Hap := Lib.hid ap
        have Hak := Lib.hid ak
        have Han := Lib.hid an
        have HB := Lib.hid hB
        obtain ⟨p1, p2, p3⟩ := ap.all
        obtain ⟨s1, s2, s3⟩ := h8.all
        clear ap ak an hB h8
        gi_wp2
        refine ⟨((KeepsOthers.setCell _ _ _).trans (KeepsOthers.setCell _ _ _)).from _, (KeepsTop.setCell _ (by intro b hb; simp only [List.mem_cons, List.not_mem_nil, or_false] at hb; show b ≠ w.heap.size + 1 + 1 + 1; omega) (by rw [sz]; show w.heap.size + 1 + 1 + 1 < _; omega)).trans (KeepsTop.setCell _ (by intro b hb; simp only [List.mem_cons, List.not_mem_nil, or_false] at hb; show b ≠ w.heap.size + 1 + 1 + 1; omega) (by rw [sz]; show w.heap.size + 1 + 1 + 1 < _; omega)), by simp only [World.size_setCell]; omega, ((Hap.out.set _ _).set _ _).eq (by simp [pI3]), (Hak.out.other _ _ (by omega)).other _ _ (by omega), (Han.out.other _ _ (by omega)).other _ _ (by omega), by have hB := HB.out; ((repeat (first | (with_reducible assumption) | (with_reducible exact Below.refl _ _) | (with_reducible refine Later.after ?_ _) | (with_reducible refine Later.newer ?_ _) | (with_reducible refine Below.drew ?_) | (with_reducible refine Below.setCell ?_ (by first | exact Nat.le_refl _ | exact Nat.le_add_right _ _ | omega | (simp [go_sem]; done) | (simp [go_sem]; omega)) _))))⟩
      | 2, hx =>
        obtain rfl := Option.some.inj hx
        simp only [pI3] at ap
        dsimp only at h8
        have Hap := Lib.hid ap
        have Hak := Lib.hid ak
        have Han := Lib.hid an
        have HB := Lib.hid hB
        obtain ⟨p1, p2, p3⟩ := ap.all
        obtain ⟨s1, s2, s3⟩ := h8.all
        clear ap ak an hB h8
        gi_wp2
        refine ⟨((KeepsOthers.setCell _ _ _).trans (KeepsOthers.setCell _ _ _)).from _, (KeepsTop.setCell _ (by intro b hb; simp only [List.mem_cons, List.not_mem_nil, or_false] at hb; show b ≠ w.heap.size + 1 + 1 + 1; omega) (by rw [sz]; show w.heap.size + 1 + 1 + 1 < _; omega)).trans (KeepsTop.setCell _ (by intro b hb; simp only [List.mem_cons, List.not_mem_nil, or_false] at hb; show b ≠ w.heap.size + 1 + 1 + 1; omega) (by rw [sz]; show w.heap.size + 1 + 1 + 1 < _; omega)), by simp only [World.size_setCell]; omega, ((Hap.out.set _ _).set _ _).eq (by simp [pI3]), (Hak.out.other _ _ (by omega)).other _ _ (by omega), (Han.out.other _ _ (by omega)).other _ _ (by omega), by have hB := HB.out; ((repeat (first | (with_reducible assumption) | (with_reducible exact Below.refl _ _) | (with_reducible refine Later.after ?_ _) | (with_reducible refine Later.newer ?_ _) | (with_reducible refine Below.drew ?_) | (with_reducible refine Below.setCell ?_ (by first | exact Nat.le_refl _ | exact Nat.le_add_right _ _ | omega | (simp [go_sem]; done) | (simp [go_sem]; omega)) _))))⟩
    case done =>
      rintro D W hD ⟨l9, ap, ak, an, hB⟩ hK
      simp only [List.length_cons, List.length_nil, pI3] at ap
      rw [sz] at hD
      have Hp := Lib.hid ap
      have HB := Lib.hid hB
      have HKD := Lib.hid hK
      obtain ⟨p1, p2, p3⟩ := ap.all
      clear ap ak an hB hK
      go_wp2
      have n1 : Blk ((W.setCell ⟨w.heap.size + 1 + 1 + 1, 0, none⟩ (.int .i64 a20)).setCell ⟨w.heap.size + 1 + 1 + 1, 1, none⟩ (.int .i64 b20)) (w.heap.size + 1 + 1 + 1) 23 #[.int .i64 a20, .int .i64 b20] := ((Hp.out.set _ _).set _ _).eq (by simp)
      have hb : Below w.heap.size w ((W.setCell ⟨w.heap.size + 1 + 1 + 1, 0, none⟩ (.int .i64 a20)).setCell ⟨w.heap.size + 1 + 1 + 1, 1, none⟩ (.int .i64 b20)) := by have hB := HB.out; (repeat (first | (with_reducible assumption) | (with_reducible exact Below.refl _ _) | (with_reducible refine Later.after ?_ _) | (with_reducible refine Later.newer ?_ _) | (with_reducible refine Below.drew ?_) | (with_reducible refine Below.setCell ?_ (by first | exact Nat.le_refl _ | exact Nat.le_add_right _ _ | omega | (simp [go_sem]; done) | (simp [go_sem]; omega)) _)))
      have hK' : ((W.setCell ⟨w.heap.size + 1 + 1 + 1, 0, none⟩ (.int .i64 a20)).setCell ⟨w.heap.size + 1 + 1 + 1, 1, none⟩ (.int .i64 b20)).heap[D]? = some (.deferred (some [])) := (Below.heap_setCell _ _ _ _ (by show D ≠ w.heap.size + 1 + 1 + 1; omega)).trans ((Below.heap_setCell _ _ _ _ (by show D ≠ w.heap.size + 1 + 1 + 1; omega)).trans HKD.out)
      generalize (W.setCell ⟨w.heap.size + 1 + 1 + 1, 0, none⟩ (.int .i64 a20)).setCell ⟨w.heap.size + 1 + 1 + 1, 1, none⟩ (.int .i64 b20) = V at n1 hb hK' ⊢
      have m1 : Blk (V.putObj D (.deferred none)) (w.heap.size + 1 + 1 + 1) 23 #[.int .i64 a20, .int .i64 b20] := (World.putObj_heap_other (by omega)).trans n1
      have mc1 := m1.cell
      clear n1 m1 p1 p2 p3
      refine ⟨by simp, .inl ⟨_, _, rfl, run_takeDeferred hK', ?_⟩⟩
      refine ⟨.agg #[.int .i64 a20, .int .i64 b20], ?_, rfl, Later.mk_of (hb.trans (belowK_b (w := w) (Nat.le_refl _) _ D _ _ (by omega) hK' rfl rfl))⟩
      simp [results, Try.func36, go_sem, mc1]


def pI4 (a00 a01 a02 a03 a10 a11 a12 a20 a21 a30 b00 b01 b02 b03 b10 b11 b12 b20 b21 b30 : Int) : Nat → Array Value
  | 0 => #[.int .i64 0, .int .i64 0]
  | 1 => #[.int .i64 a00, .int .i64 b00]
  | 2 => #[.int .i64 a10, .int .i64 b10]
  | 3 => #[.int .i64 a20, .int .i64 b20]
  | _ => #[.int .i64 a30, .int .i64 b30]
/-- the state of the point, k rows on -/
def aI4 (w : World) (a00 a01 a02 a03 a10 a11 a12 a20 a21 a30 b00 b01 b02 b03 b10 b11 b12 b20 b21 b30 kk nn : Int) (k : Nat) (W : World) : Prop :=
  Blk W (w.heap.size + 1 + 1 + 1) 23 (pI4 a00 a01 a02 a03 a10 a11 a12 a20 a21 a30 b00 b01 b02 b03 b10 b11 b12 b20 b21 b30 k) ∧ Blk W (w.heap.size + 1) 3 #[.int .i64 kk] ∧ Blk W (w.heap.size + 1 + 1) 3 #[.int .i64 nn] ∧ Below w.heap.size w W
set_option maxRecDepth 100000 in
set_option maxHeartbeats 2000000 in
theorem at_4 (a00 a01 a02 a03 a10 a11 a12 a20 a21 a30 b00 b01 b02 b03 b10 b11 b12 b20 b21 b30 kk nn : Int) (w : World) (hn0 : (nn == 0) = false)
    (c00 : ∀ w', Calls Try.prog 19 #[.agg #[.int .i64 a00, .int .i64 b00], .agg #[.int .i64 a01, .int .i64 b01], .int .i64 kk, .int .i64 nn] w' fun e w'' => e = .returned (.agg #[.int .i64 a10, .int .i64 b10]) ∧ ∃ x : Later w', w'' = x.out) (c01 : ∀ w', Calls Try.prog 19 #[.agg #[.int .i64 a01, .int .i64 b01], .agg #[.int .i64 a02, .int .i64 b02], .int .i64 kk, .int .i64 nn] w' fun e w'' => e = .returned (.agg #[.int .i64 a11, .int .i64 b11]) ∧ ∃ x : Later w', w'' = x.out) (c02 : ∀ w', Calls Try.prog 19 #[.agg #[.int .i64 a02, .int .i64 b02], .agg #[.int .i64 a03, .int .i64 b03], .int .i64 kk, .int .i64 nn] w' fun e w'' => e = .returned (.agg #[.int .i64 a12, .int .i64 b12]) ∧ ∃ x : Later w', w'' = x.out) (c10 : ∀ w', Calls Try.prog 19 #[.agg #[.int .i64 a10, .int .i64 b10], .agg #[.int .i64 a11, .int .i64 b11], .int .i64 kk, .int .i64 nn] w' fun e w'' => e = .returned (.agg #[.int .i64 a20, .int .i64 b20]) ∧ ∃ x : Later w', w'' = x.out) (c11 : ∀ w', Calls Try.prog 19 #[.agg #[.int .i64 a11, .int .i64 b11], .agg #[.int .i64 a12, .int .i64 b12], .int .i64 kk, .int .i64 nn] w' fun e w'' => e = .returned (.agg #[.int .i64 a21, .int .i64 b21]) ∧ ∃ x : Later w', w'' = x.out) (c20 : ∀ w', Calls Try.prog 19 #[.agg #[.int .i64 a20, .int .i64 b20], .agg #[.int .i64 a21, .int .i64 b21], .int .i64 kk, .int .i64 nn] w' fun e w'' => e = .returned (.agg #[.int .i64 a30, .int .i64 b30]) ∧ ∃ x : Later w', w'' = x.out) :
    Calls Try.prog 36 #[.agg #[.int .i64 a00, .int .i64 b00, .int .i64 a01, .int .i64 b01, .int .i64 a02, .int .i64 b02, .int .i64 a03, .int .i64 b03, .int .i64 4], .int .i64 kk, .int .i64 nn] w fun e w' => e = .returned (.agg #[.int .i64 a30, .int .i64 b30]) ∧ ∃ x : Later w, w' = x.out := by
  refine (callsIn_wide (n := 4)).1 ?_
  have Hc00 := Lib.hid c00; clear c00
  have Hc01 := Lib.hid c01; clear c01
  have Hc02 := Lib.hid c02; clear c02
  have Hc10 := Lib.hid c10; clear c10
  have Hc11 := Lib.hid c11; clear c11
  have Hc20 := Lib.hid c20; clear c20
  refine callsIn_of_wp_marks Try.func36 rfl trivial ?_ rfl
  simp only [Try.ntmps36, List.size_toArray, List.length_cons, List.length_nil, Nat.reduceAdd, Nat.reduceSub, Array.replicate_succ, Array.replicate_zero, List.push_toArray, List.append_toArray, List.nil_append, List.cons_append]
  refine wpIn_wide.2 ?_
  go_upto_region 1 with (fail)
  go_cut [10] from 9 to 10 (fun s10 wx => s10 = .bool false ∧ Blk wx w.heap.size 39 #[.int .i64 a00, .int .i64 b00, .int .i64 a01, .int .i64 b01, .int .i64 a02, .int .i64 b02, .int .i64 a03, .int .i64 b03, .int .i64 4] ∧ aI4 w a00 a01 a02 a03 a10 a11 a12 a20 a21 a30 b00 b01 b02 b03 b10 b11 b12 b20 b21 b30 kk nn 0 wx)
  case first =>
    go_wp2_with (fail)
    go_meet
    refine ⟨rfl, (by repeat (first | (with_reducible assumption) | (with_reducible refine Blk.later ?_ _) | (with_reducible refine Blk.drew ?_) | ((with_reducible refine Blk.new' ?_); (simp only [World.size_alloc, World.size_setCell, World.size_drew]; done)) | (with_reducible refine Blk.alloc ?_ _))), ?_⟩
    simp only [aI4, pI4]
    exact ⟨(by repeat (first | (with_reducible assumption) | (with_reducible refine Blk.later ?_ _) | (with_reducible refine Blk.drew ?_) | ((with_reducible refine Blk.new' ?_); (simp only [World.size_alloc, World.size_setCell, World.size_drew]; done)) | (with_reducible refine Blk.alloc ?_ _))), (by repeat (first | (with_reducible assumption) | (with_reducible refine Blk.later ?_ _) | (with_reducible refine Blk.drew ?_) | ((with_reducible refine Blk.new' ?_); (simp only [World.size_alloc, World.size_setCell, World.size_drew]; done)) | (with_reducible refine Blk.alloc ?_ _))), (by repeat (first | (with_reducible assumption) | (with_reducible refine Blk.later ?_ _) | (with_reducible refine Blk.drew ?_) | ((with_reducible refine Blk.new' ?_); (simp only [World.size_alloc, World.size_setCell, World.size_drew]; done)) | (with_reducible refine Blk.alloc ?_ _))), by repeat (first | (with_reducible assumption) | (with_reducible exact Below.refl _ _) | (with_reducible refine Later.after ?_ _) | (with_reducible refine Later.newer ?_ _) | (with_reducible refine Below.drew ?_) | (with_reducible refine Below.setCell ?_ (by first | exact Nat.le_refl _ | exact Nat.le_add_right _ _ | omega | (simp [go_sem]; done) | (simp [go_sem]; omega)) _))⟩
  case rest =>
    obtain ⟨rfl, bs, hi⟩ := hcut
    have hi0 := hi
    obtain ⟨bp, bk, bn, hB⟩ := hi
    obtain ⟨f1, f2, f3⟩ := bs.all
    have lp := bp.lt
    have lk := bk.lt
    have ln := bn.lt
    have HI := Lib.hid hi0
    clear hB hi0 bp bk bn bs
    go_wp2_with (first | (go_at_call 49; refine (rows_c _ _ _ _ _ _ _ _ _ _ _ _).mono ?_; rintro e _ ⟨rfl, rfl⟩))
    refine (wpIn_wide (n := 4)).1 ?_
    have sz : ((wc.alloc (.cells #[.int .i64 a00, .int .i64 b00, .int .i64 a01, .int .i64 b01, .int .i64 a02, .int .i64 b02, .int .i64 a03, .int .i64 b03, .int .i64 4] 39)).alloc (.cells #[.func (.func 52) #[] #[.pointer (some ⟨w.heap.size + 1, 0, none⟩), .pointer (some ⟨w.heap.size + 1 + 1, 0, none⟩)]] 29)).heap.size = wc.heap.size + 2 := by simp
    refine wpIn_rangeFunc_idx rfl (by omega) (gf := 63) rfl trivial (enters_of Try.func63 (by kernel_rfl) rfl)
      (rowsAt_4_seq a00 a01 a02 a03 a10 a11 a12 a20 a21 a30 b00 b01 b02 b03 b10 b11 b12 b20 b21 b30 kk nn wc.heap.size (wc.heap.size + 1) (w.heap.size + 1) (w.heap.size + 1 + 1) ((wc.alloc (.cells #[.int .i64 a00, .int .i64 b00, .int .i64 a01, .int .i64 b01, .int .i64 a02, .int .i64 b02, .int .i64 a03, .int .i64 b03, .int .i64 4] 39)).alloc (.cells #[.func (.func 52) #[] #[.pointer (some ⟨w.heap.size + 1, 0, none⟩), .pointer (some ⟨w.heap.size + 1 + 1, 0, none⟩)]] 29)) (fun v hk hn => at1_c _ _ _ _ _ _ _ _ _ _ v Hc00.out hk hn) (fun v hk hn => at1_c _ _ _ _ _ _ _ _ _ _ v Hc01.out hk hn) (fun v hk hn => at1_c _ _ _ _ _ _ _ _ _ _ v Hc02.out hk hn) (fun v hk hn => at1_c _ _ _ _ _ _ _ _ _ _ v Hc10.out hk hn) (fun v hk hn => at1_c _ _ _ _ _ _ _ _ _ _ v Hc11.out hk hn) (fun v hk hn => at1_c _ _ _ _ _ _ _ _ _ _ v Hc20.out hk hn) ((Blk.new _ _ _).alloc _) (Blk.new' (by simp)) ((HI.out.2.1.alloc _).alloc _) ((HI.out.2.2.1.alloc _).alloc _)) (fun h k => h.trans k)
      (fun W l o o' hl h hc _ => KeepsTop.putObj (by intro b hb; simp only [List.mem_cons, List.not_mem_nil, or_false] at hb; rw [sz]; omega) (by rw [sz] at hl ⊢; exact hl) h hc) (Below.refl _ _) (fun _ => rfl)
      (fun k W => wc.heap.size + 2 ≤ W.heap.size ∧ aI4 w a00 a01 a02 a03 a10 a11 a12 a20 a21 a30 b00 b01 b02 b03 b10 b11 b12 b20 b21 b30 kk nn k W) ?own ?start
      (fun k x a' W => ∃ (v0 v1 v2 v3 v4 v5 v7 v9 v10 v11 v12 v13 v14 v15 v16 v17 v19 v20 v21 : Value) (g8 : Nat), wc.heap.size + 2 ≤ g8 ∧ Blk W g8 37 x.2 ∧ aI4 w a00 a01 a02 a03 a10 a11 a12 a20 a21 a30 b00 b01 b02 b03 b10 b11 b12 b20 b21 b30 kk nn k W ∧
        a' = ⟨#[v0, v1, v2, v3, v4, v5, .pointer (some ⟨w.heap.size + 1 + 1 + 1, 0, none⟩), v7, .pointer (some ⟨g8, 0, none⟩), v9, v10, v11, v12, v13, v14, v15, v16, v17, .agg x.2, v19, v20, v21], []⟩)
      ?ownM ?assign ?body ?done
    case own =>
      rintro k A B row ⟨l9, ap, ak, an, hB⟩ hg hr
      rw [sz] at hr
      exact ⟨Nat.le_trans l9 hg.size, ap.grown hg hr (by omega), ak.grown hg hr (by omega), an.grown hg hr (by omega), hB.grown hg hB.size (fun k e => by have := hr k e; omega)⟩
    case start =>
      obtain ⟨ap, ak, an, hB⟩ := HI.out
      exact ⟨by simp, (ap.alloc _).alloc _, (ak.alloc _).alloc _, (an.alloc _).alloc _, (hB.alloc hB.size _).alloc (by have := hB.size; simp; omega) _⟩
    case ownM =>
      rintro k x a' s A B row ⟨v0, v1, v2, v3, v4, v5, v7, v9, v10, v11, v12, v13, v14, v15, v16, v17, v19, v20, v21, g8, hg8, h8, ⟨ap, ak, an, hB⟩, ha⟩ hg hr
      have hr' : ∀ r, row = some r → ∃ o : Obj, A.heap[r]? = some o ∧ o.isCells = false := fun r e => (hr r e).2
      exact ⟨v0, v1, v2, v3, v4, v5, v7, v9, v10, v11, v12, v13, v14, v15, v16, v17, v19, v20, v21, g8, hg8, h8.kept hg hr', ⟨ap.kept hg hr', ak.kept hg hr', an.kept hg hr', hB.grown hg hB.size (fun k e => by have := (hr k e).1; rw [sz] at this; omega)⟩, ha⟩
    case assign =>
      rintro l k x W K hx ⟨l9, ap, ak, an, hB⟩ hK
      have hI : aI4 w a00 a01 a02 a03 a10 a11 a12 a20 a21 a30 b00 b01 b02 b03 b10 b11 b12 b20 b21 b30 kk nn k W := ⟨ap, ak, an, hB⟩
      have HK := Lib.hid hK
      have HI' := Lib.hid hI
      clear hK hI ap ak an hB
      match k, hx with
      | k + 4, hx => simp at hx
      | 0, hx =>
        obtain rfl := Option.some.inj hx
        simp only [encP]
        gi_wp2
        obtain ⟨ap, ak, an, hB⟩ := HI'.out
        exact HK.out _ _ ((KeepsOthers.alloc W _).from _) (KeepsTop.grown (grown_alloc W _) (by intro b hb; simp only [List.mem_cons, List.not_mem_nil, or_false] at hb; omega))
          ⟨_, _, _, _, _, _, _, _, _, _, _, _, _, _, _, _, _, _, _, W.heap.size, l9, Blk.new _ _ _, ⟨ap.alloc _, ak.alloc _, an.alloc _, hB.alloc hB.size _⟩, rfl⟩
      | 1, hx =>
        obtain rfl := Option.some.inj hx
        simp only [encP]
        gi_wp2
        obtain ⟨ap, ak, an, hB⟩ := HI'.out
        exact HK.out _ _ ((KeepsOthers.alloc W _).from _) (KeepsTop.grown (grown_alloc W _) (by intro b hb; simp only [List.mem_cons, List.not_mem_nil, or_false] at hb; omega))
          ⟨_, _, _, _, _, _, _, _, _, _, _, _, _, _, _, _, _, _, _, W.heap.size, l9, Blk.new _ _ _, ⟨ap.alloc _, ak.alloc _, an.alloc _, hB.alloc hB.size _⟩, rfl⟩
      | 2, hx =>
        obtain rfl := Option.some.inj hx
        simp only [encP]
        gi_wp2
        obtain ⟨ap, ak, an, hB⟩ := HI'.out
        exact HK.out _ _ ((KeepsOthers.alloc W _).from _) (KeepsTop.grown (grown_alloc W _) (by intro b hb; simp only [List.mem_cons, List.not_mem_nil, or_false] at hb; omega))
          ⟨_, _, _, _, _, _, _, _, _, _, _, _, _, _, _, _, _, _, _, W.heap.size, l9, Blk.new _ _ _, ⟨ap.alloc _, ak.alloc _, an.alloc _, hB.alloc hB.size _⟩, rfl⟩
      | 3, hx =>
        obtain rfl := Option.some.inj hx
        simp only [encP]
        gi_wp2
        obtain ⟨ap, ak, an, hB⟩ := HI'.out
        exact HK.out _ _ ((KeepsOthers.alloc W _).from _) (KeepsTop.grown (grown_alloc W _) (by intro b hb; simp only [List.mem_cons, List.not_mem_nil, or_false] at hb; omega))
          ⟨_, _, _, _, _, _, _, _, _, _, _, _, _, _, _, _, _, _, _, W.heap.size, l9, Blk.new _ _ _, ⟨ap.alloc _, ak.alloc _, an.alloc _, hB.alloc hB.size _⟩, rfl⟩
    case body =>
      rintro l k x a' W hx ⟨v0, v1, v2, v3, v4, v5, v7, v9, v10, v11, v12, v13, v14, v15, v16, v17, v19, v20, v21, g8, hg8, h8, ⟨ap, ak, an, hB⟩, rfl⟩
      have l8 := h8.lt
      have l6 := ap.lt
      match k, hx with
      | k + 4, hx => simp at hx
      | 0, hx =>
        obtain rfl := Option.some.inj hx
        simp only [pI4] at ap
        dsimp only at h8
        have Hap := Lib.hid ap
        have Hak := Lib.hid ak
        have Han := Lib.hid an
        have HB := Lib.hid hB
        obtain ⟨p1, p2, p3⟩ := ap.all
        obtain ⟨s1, s2, s3⟩ := h8.all
        clear ap ak an hB h8
        gi_wp2
        refine ⟨((KeepsOthers.setCell _ _ _).trans (KeepsOthers.setCell _ _ _)).from _, (KeepsTop.setCell _ (by intro b hb; simp only [List.mem_cons, List.not_mem_nil, or_false] at hb; show b ≠ w.heap.size + 1 + 1 + 1; omega) (by rw [sz]; show w.heap.size + 1 + 1 + 1 < _; omega)).trans (KeepsTop.setCell _ (by intro b hb; simp only [List.mem_cons, List.not_mem_nil, or_false] at hb; show b ≠ w.heap.size + 1 + 1 + 1; omega) (by rw [sz]; show w.heap.size + 1 + 1 + 1 < _; omega)), by simp only [World.size_setCell]; omega, ((Hap.out.set _ _).set _ _).eq (by simp [pI4]), (Hak.out.other _ _ (by omega)).other _ _ (by omega), (Han.out.other _ _ (by omega)).other _ _ (by omega), by have hB := HB.out; ((repeat (first | (with_reducible assumption) | (with_reducible exact Below.refl _ _) | (with_reducible refine Later.after ?_ _) | (with_reducible refine Later.newer ?_ _) | (with_reducible refine Below.drew ?_) | (with_reducible refine Below.setCell ?_ (by first | exact Nat.le_refl _ | exact Nat.le_add_right _ _ | omega | (simp [go_sem]; done) | (simp [go_sem]; omega)) _))))⟩
      | 1, hx =>
        obtain rfl := Option.some.inj hx
        simp only [pI4] at ap
        dsimp only at h8
        have Hap := Lib.hid ap
        have Hak := Lib.hid ak
        have Han := Lib.hid an
        have HB := Lib.hid hB
        obtain ⟨p1, p2, p3⟩ := ap.all
        obtain ⟨s1, s2, s3⟩ := h8.all
        clear ap ak an hB h8
        gi_wp2
        refine ⟨((KeepsOthers.setCell _ _ _).trans (KeepsOthers.setCell _ _ _)).from _, (KeepsTop.setCell _ (by intro b hb; simp only [List.mem_cons, List.not_mem_nil, or_false] at hb; show b ≠ w.heap.size + 1 + 1 + 1; omega) (by rw [sz]; show w.heap.size + 1 + 1 + 1 < _; omega)).trans (KeepsTop.setCell _ (by intro b hb; simp only [List.mem_cons, List.not_mem_nil, or_false] at hb; show b ≠ w.heap.size + 1 + 1 + 1; omega) (by rw [sz]; show w.heap.size + 1 + 1 + 1 < _; omega)), by simp only [World.size_setCell]; omega, ((Hap.out.set _ _).set _ _).eq (by simp [pI4]), (Hak.out.other _ _ (by omega)).other _ _ (by omega), (Han.out.other _ _ (by omega)).other _ _ (by omega), by have hB := HB.out; ((repeat (first | (with_reducible assumption) | (with_reducible exact Below.refl _ _) | (with_reducible refine Later.after ?_ _) | (with_reducible refine Later.newer ?_ _) | (with_reducible refine Below.drew ?_) | (with_reducible refine Below.setCell ?_ (by first | exact Nat.le_refl _ | exact Nat.le_add_right _ _ | omega | (simp [go_sem]; done) | (simp [go_sem]; omega)) _))))⟩
      | 2, hx =>
        obtain rfl := Option.some.inj hx
        simp only [pI4] at ap
        dsimp only at h8
        have Hap := Lib.hid ap
        have Hak := Lib.hid ak
        have Han := Lib.hid an
        have HB := Lib.hid hB
        obtain ⟨p1, p2, p3⟩ := ap.all
        obtain ⟨s1, s2, s3⟩ := h8.all
        clear ap ak an hB h8
        gi_wp2
        refine ⟨((KeepsOthers.setCell _ _ _).trans (KeepsOthers.setCell _ _ _)).from _, (KeepsTop.setCell _ (by intro b hb; simp only [List.mem_cons, List.not_mem_nil, or_false] at hb; show b ≠ w.heap.size + 1 + 1 + 1; omega) (by rw [sz]; show w.heap.size + 1 + 1 + 1 < _; omega)).trans (KeepsTop.setCell _ (by intro b hb; simp only [List.mem_cons, List.not_mem_nil, or_false] at hb; show b ≠ w.heap.size + 1 + 1 + 1; omega) (by rw [sz]; show w.heap.size + 1 + 1 + 1 < _; omega)), by simp only [World.size_setCell]; omega, ((Hap.out.set _ _).set _ _).eq (by simp [pI4]), (Hak.out.other _ _ (by omega)).other _ _ (by omega), (Han.out.other _ _ (by omega)).other _ _ (by omega), by have hB := HB.out; ((repeat (first | (with_reducible assumption) | (with_reducible exact Below.refl _ _) | (with_reducible refine Later.after ?_ _) | (with_reducible refine Later.newer ?_ _) | (with_reducible refine Below.drew ?_) | (with_reducible refine Below.setCell ?_ (by first | exact Nat.le_refl _ | exact Nat.le_add_right _ _ | omega | (simp [go_sem]; done) | (simp [go_sem]; omega)) _))))⟩
      | 3, hx =>
        obtain rfl := Option.some.inj hx
        simp only [pI4] at ap
        dsimp only at h8
        have Hap := Lib.hid ap
        have Hak := Lib.hid ak
        have Han := Lib.hid an
        have HB := Lib.hid hB
        obtain ⟨p1, p2, p3⟩ := ap.all
        obtain ⟨s1, s2, s3⟩ := h8.all
        clear ap ak an hB h8
        gi_wp2
        refine ⟨((KeepsOthers.setCell _ _ _).trans (KeepsOthers.setCell _ _ _)).from _, (KeepsTop.setCell _ (by intro b hb; simp only [List.mem_cons, List.not_mem_nil, or_false] at hb; show b ≠ w.heap.size + 1 + 1 + 1; omega) (by rw [sz]; show w.heap.size + 1 + 1 + 1 < _; omega)).trans (KeepsTop.setCell _ (by intro b hb; simp only [List.mem_cons, List.not_mem_nil, or_false] at hb; show b ≠ w.heap.size + 1 + 1 + 1; omega) (by rw [sz]; show w.heap.size + 1 + 1 + 1 < _; omega)), by simp only [World.size_setCell]; omega, ((Hap.out.set _ _).set _ _).eq (by simp [pI4]), (Hak.out.other _ _ (by omega)).other _ _ (by omega), (Han.out.other _ _ (by omega)).other _ _ (by omega), by have hB := HB.out; ((repeat (first | (with_reducible assumption) | (with_reducible exact Below.refl _ _) | (with_reducible refine Later.after ?_ _) | (with_reducible refine Later.newer ?_ _) | (with_reducible refine Below.drew ?_) | (with_reducible refine Below.setCell ?_ (by first | exact Nat.le_refl _ | exact Nat.le_add_right _ _ | omega | (simp [go_sem]; done) | (simp [go_sem]; omega)) _))))⟩
    case done =>
      rintro D W hD ⟨l9, ap, ak, an, hB⟩ hK
      simp only [List.length_cons, List.length_nil, pI4] at ap
      rw [sz] at hD
      have Hp := Lib.hid ap
      have HB := Lib.hid hB
      have HKD := Lib.hid hK
      obtain ⟨p1, p2, p3⟩ := ap.all
      clear ap ak an hB hK
      go_wp2
      have n1 : Blk ((W.setCell ⟨w.heap.size + 1 + 1 + 1, 0, none⟩ (.int .i64 a30)).setCell ⟨w.heap.size + 1 + 1 + 1, 1, none⟩ (.int .i64 b30)) (w.heap.size + 1 + 1 + 1) 23 #[.int .i64 a30, .int .i64 b30] := ((Hp.out.set _ _).set _ _).eq (by simp)
      have hb : Below w.heap.size w ((W.setCell ⟨w.heap.size + 1 + 1 + 1, 0, none⟩ (.int .i64 a30)).setCell ⟨w.heap.size + 1 + 1 + 1, 1, none⟩ (.int .i64 b30)) := by have hB := HB.out; (repeat (first | (with_reducible assumption) | (with_reducible exact Below.refl _ _) | (with_reducible refine Later.after ?_ _) | (with_reducible refine Later.newer ?_ _) | (with_reducible refine Below.drew ?_) | (with_reducible refine Below.setCell ?_ (by first | exact Nat.le_refl _ | exact Nat.le_add_right _ _ | omega | (simp [go_sem]; done) | (simp [go_sem]; omega)) _)))
      have hK' : ((W.setCell ⟨w.heap.size + 1 + 1 + 1, 0, none⟩ (.int .i64 a30)).setCell ⟨w.heap.size + 1 + 1 + 1, 1, none⟩ (.int .i64 b30)).heap[D]? = some (.deferred (some [])) := (Below.heap_setCell _ _ _ _ (by show D ≠ w.heap.size + 1 + 1 + 1; omega)).trans ((Below.heap_setCell _ _ _ _ (by show D ≠ w.heap.size + 1 + 1 + 1; omega)).trans HKD.out)
      generalize (W.setCell ⟨w.heap.size + 1 + 1 + 1, 0, none⟩ (.int .i64 a30)).setCell ⟨w.heap.size + 1 + 1 + 1, 1, none⟩ (.int .i64 b30) = V at n1 hb hK' ⊢
      have m1 : Blk (V.putObj D (.deferred none)) (w.heap.size + 1 + 1 + 1) 23 #[.int .i64 a30, .int .i64 b30] := (World.putObj_heap_other (by omega)).trans n1
      have mc1 := m1.cell
      clear n1 m1 p1 p2 p3
      refine ⟨by simp, .inl ⟨_, _, rfl, run_takeDeferred hK', ?_⟩⟩
      refine ⟨.agg #[.int .i64 a30, .int .i64 b30], ?_, rfl, Later.mk_of (hb.trans (belowK_b (w := w) (Nat.le_refl _) _ D _ _ (by omega) hK' rfl rfl))⟩
      simp [results, Try.func36, go_sem, mc1]

end Go.Proofs.Ytdlemjecocmbgaa

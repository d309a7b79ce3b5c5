/-
  The halves of a segment.
-/
import Derived.Test.YtcdnekhpeghkiaaB2
import Derived.Test.YtcdnekhpeghkiaaKD
namespace Go.Proofs.Ytcdnekhpeghkiaa
set_option linter.unusedVariables false
open Go.RowKit Go.Shelf
attribute [local go_sem] Oper.semAt_some


def hA3 (a00 a01 a02 a03 a10 a11 a20 b00 b01 b02 b03 b10 b11 b20 : Int) : Nat → Array Value
  | 0 => #[.int .i64 0, .int .i64 0, .int .i64 0, .int .i64 0, .int .i64 0, .int .i64 0, .int .i64 0, .int .i64 0, .int .i64 3]
  | 1 => #[.int .i64 a00, .int .i64 b00, .int .i64 0, .int .i64 0, .int .i64 0, .int .i64 0, .int .i64 0, .int .i64 0, .int .i64 3]
  | 2 => #[.int .i64 a00, .int .i64 b00, .int .i64 a10, .int .i64 b10, .int .i64 0, .int .i64 0, .int .i64 0, .int .i64 0, .int .i64 3]
  | _ => #[.int .i64 a00, .int .i64 b00, .int .i64 a10, .int .i64 b10, .int .i64 a20, .int .i64 b20, .int .i64 0, .int .i64 0, .int .i64 3]
def hB3 (a00 a01 a02 a03 a10 a11 a20 b00 b01 b02 b03 b10 b11 b20 : Int) : Nat → Array Value
  | 0 => #[.int .i64 0, .int .i64 0, .int .i64 0, .int .i64 0, .int .i64 0, .int .i64 0, .int .i64 0, .int .i64 0, .int .i64 3]
  | 1 => #[.int .i64 0, .int .i64 0, .int .i64 0, .int .i64 0, .int .i64 a02, .int .i64 b02, .int .i64 0, .int .i64 0, .int .i64 3]
  | 2 => #[.int .i64 0, .int .i64 0, .int .i64 a11, .int .i64 b11, .int .i64 a02, .int .i64 b02, .int .i64 0, .int .i64 0, .int .i64 3]
  | _ => #[.int .i64 a20, .int .i64 b20, .int .i64 a11, .int .i64 b11, .int .i64 a02, .int .i64 b02, .int .i64 0, .int .i64 0, .int .i64 3]
/-- the state of the two halves, k rows on -/
def hI3 (w : World) (a00 a01 a02 a03 a10 a11 a20 b00 b01 b02 b03 b10 b11 b20 : Int) (g4 g5 k : Nat) (W : World) : Prop :=
  Blk W g4 26 (hA3 a00 a01 a02 a03 a10 a11 a20 b00 b01 b02 b03 b10 b11 b20 k) ∧ Blk W g5 26 (hB3 a00 a01 a02 a03 a10 a11 a20 b00 b01 b02 b03 b10 b11 b20 k) ∧ Blk W w.heap.size 26 #[.int .i64 a00, .int .i64 b00, .int .i64 a01, .int .i64 b01, .int .i64 a02, .int .i64 b02, .int .i64 a03, .int .i64 b03, .int .i64 3] ∧ Blk W (w.heap.size + 1) 26 #[.int .i64 0, .int .i64 0, .int .i64 0, .int .i64 0, .int .i64 0, .int .i64 0, .int .i64 0, .int .i64 0, .int .i64 0] ∧ Blk W (w.heap.size + 1 + 1) 26 #[.int .i64 0, .int .i64 0, .int .i64 0, .int .i64 0, .int .i64 0, .int .i64 0, .int .i64 0, .int .i64 0, .int .i64 0] ∧ Below w.heap.size w W
set_option maxRecDepth 100000 in
set_option maxHeartbeats 2000000 in
theorem halves_3 (a00 a01 a02 a03 a10 a11 a20 b00 b01 b02 b03 b10 b11 b20 : Int) (w : World)
    (c00 : ∀ w', Calls Try.prog 73 #[.agg #[.int .i64 a00, .int .i64 b00], .agg #[.int .i64 a01, .int .i64 b01]] w' fun e w'' => e = .returned (.agg #[.int .i64 a10, .int .i64 b10]) ∧ ∃ x : Later w', w'' = x.out) (c01 : ∀ w', Calls Try.prog 73 #[.agg #[.int .i64 a01, .int .i64 b01], .agg #[.int .i64 a02, .int .i64 b02]] w' fun e w'' => e = .returned (.agg #[.int .i64 a11, .int .i64 b11]) ∧ ∃ x : Later w', w'' = x.out) (c10 : ∀ w', Calls Try.prog 73 #[.agg #[.int .i64 a10, .int .i64 b10], .agg #[.int .i64 a11, .int .i64 b11]] w' fun e w'' => e = .returned (.agg #[.int .i64 a20, .int .i64 b20]) ∧ ∃ x : Later w', w'' = x.out) :
    Calls Try.prog 52 #[.agg #[.int .i64 a00, .int .i64 b00, .int .i64 a01, .int .i64 b01, .int .i64 a02, .int .i64 b02, .int .i64 a03, .int .i64 b03, .int .i64 3]] w fun e w' => e = .returned (.tuple #[.agg #[.int .i64 a00, .int .i64 b00, .int .i64 a10, .int .i64 b10, .int .i64 a20, .int .i64 b20, .int .i64 0, .int .i64 0, .int .i64 3], .agg #[.int .i64 a20, .int .i64 b20, .int .i64 a11, .int .i64 b11, .int .i64 a02, .int .i64 b02, .int .i64 0, .int .i64 0, .int .i64 3]]) ∧ ∃ x : Later w, w' = x.out := by
  refine (callsIn_wide (n := 4)).1 ?_
  have Hc00 := Lib.hid c00; clear c00
  have Hc01 := Lib.hid c01; clear c01
  have Hc10 := Lib.hid c10; clear c10
  refine callsIn_of_wp_marks Try.func52 rfl trivial ?_ rfl
  simp only [Try.ntmps52, List.size_toArray, List.length_cons, List.length_nil, Nat.reduceAdd, Nat.reduceSub, Array.replicate_succ, Array.replicate_zero, List.push_toArray, List.append_toArray, List.nil_append, List.cons_append]
  refine wpIn_wide.2 ?_
  go_upto_region 1 with (fail)
  go_cut [4, 5] from 8 to 13 (fun s4 s5 wx => ∃ g4 g5 : Nat, s4 = .pointer (some ⟨g4, 0, none⟩) ∧ s5 = .pointer (some ⟨g5, 0, none⟩) ∧ g4 ≠ g5 ∧ w.heap.size + 1 + 1 < g4 ∧ w.heap.size + 1 + 1 < g5 ∧ hI3 w a00 a01 a02 a03 a10 a11 a20 b00 b01 b02 b03 b10 b11 b20 g4 g5 0 wx)
  case first =>
    go_region
    all_goals
      go_wp2
      go_meet
      simp only [hI3, hA3, hB3]
      refine ⟨_, _, rfl, rfl, ?_, ?_, ?_, (by repeat (first | (with_reducible assumption) | (with_reducible refine Blk.later ?_ _) | (with_reducible refine Blk.drew ?_) | ((with_reducible refine Blk.new' ?_); (simp; done)) | (with_reducible refine Blk.alloc ?_ _))), (by repeat (first | (with_reducible assumption) | (with_reducible refine Blk.later ?_ _) | (with_reducible refine Blk.drew ?_) | ((with_reducible refine Blk.new' ?_); (simp; done)) | (with_reducible refine Blk.alloc ?_ _))), (by repeat (first | (with_reducible assumption) | (with_reducible refine Blk.later ?_ _) | (with_reducible refine Blk.drew ?_) | ((with_reducible refine Blk.new' ?_); (simp; done)) | (with_reducible refine Blk.alloc ?_ _))), (by repeat (first | (with_reducible assumption) | (with_reducible refine Blk.later ?_ _) | (with_reducible refine Blk.drew ?_) | ((with_reducible refine Blk.new' ?_); (simp; done)) | (with_reducible refine Blk.alloc ?_ _))), (by repeat (first | (with_reducible assumption) | (with_reducible refine Blk.later ?_ _) | (with_reducible refine Blk.drew ?_) | ((with_reducible refine Blk.new' ?_); (simp; done)) | (with_reducible refine Blk.alloc ?_ _))), by repeat (first | (with_reducible assumption) | (with_reducible exact Below.refl _ _) | (with_reducible refine Later.after ?_ _) | (with_reducible refine Later.newer ?_ _) | (with_reducible refine Below.drew ?_) | (with_reducible refine Below.setCell ?_ (by first | exact Nat.le_refl _ | exact Nat.le_add_right _ _ | omega | (simp [go_sem]; done) | (simp [go_sem]; omega)) _))⟩
      all_goals (first | omega | (simp only [World.size_alloc, World.size_drew]; omega) | (simp; done) | (simp; omega))
  case rest =>
    obtain ⟨g4, g5, rfl, rfl, hne, hg4, hg5, hi⟩ := hcut
    have hi0 := hi
    obtain ⟨a4, a5, bs, br1, br2, hB⟩ := hi
    obtain ⟨f1, f2, f3⟩ := bs.all
    have l4 := a4.lt
    have l5 := a5.lt
    have l0 := bs.lt
    have l1 := br1.lt
    have l2 := br2.lt
    have HI := Lib.hid hi0
    clear hB hi0 a4 a5 br1 br2 bs
    go_wp2_with (first | (go_at_call 72; refine (rows_c _ _ _ _ _ _ _ _ _ _ _ _).mono ?_; rintro e _ ⟨rfl, rfl⟩))
    refine (wpIn_wide (n := 4)).1 ?_
    have sz : ((wc.alloc (.cells #[.int .i64 a00, .int .i64 b00, .int .i64 a01, .int .i64 b01, .int .i64 a02, .int .i64 b02, .int .i64 a03, .int .i64 b03, .int .i64 3] 26)).alloc (.cells #[.func (.func 73) #[] #[]] 47)).heap.size = wc.heap.size + 2 := by simp
    refine wpIn_rangeFunc_idx rfl (by omega) (gf := 85) rfl trivial (enters_of Try.func85 (by kernel_rfl) rfl)
      (rowsMid_3_seq a00 a01 a02 a03 a10 a11 a20 b00 b01 b02 b03 b10 b11 b20 wc.heap.size (wc.heap.size + 1) ((wc.alloc (.cells #[.int .i64 a00, .int .i64 b00, .int .i64 a01, .int .i64 b01, .int .i64 a02, .int .i64 b02, .int .i64 a03, .int .i64 b03, .int .i64 3] 26)).alloc (.cells #[.func (.func 73) #[] #[]] 47)) Hc00.out Hc01.out Hc10.out ((Blk.new _ _ _).alloc _) (Blk.new' (by simp))) (fun h k => h.trans k)
      (fun W l o o' hl h hc _ => KeepsTop.putObj (by simp [sz]) hl h hc) (Below.refl _ _) (fun _ => rfl)
      (fun k W => wc.heap.size + 2 ≤ W.heap.size ∧ hI3 w a00 a01 a02 a03 a10 a11 a20 b00 b01 b02 b03 b10 b11 b20 g4 g5 k W) ?own ?start
      (fun k x a' W => ∃ (v0 v2 v3 v8 v9 v10 v11 v12 v13 v14 v15 v18 v19 v20 v21 v22 v23 v24 v25 v26 v27 v28 v29 v30 v31 v32 v33 v34 v35 : Value) (g7 : Nat), wc.heap.size + 2 ≤ g7 ∧ Blk W g7 24 x.2 ∧ hI3 w a00 a01 a02 a03 a10 a11 a20 b00 b01 b02 b03 b10 b11 b20 g4 g5 k W ∧
        a' = ⟨#[v0, .pointer (some ⟨w.heap.size, 0, none⟩), v2, v3, .pointer (some ⟨g4, 0, none⟩), .pointer (some ⟨g5, 0, none⟩), .int .i64 x.1, .pointer (some ⟨g7, 0, none⟩), v8, v9, v10, v11, v12, v13, v14, v15, .int .i64 x.1, .agg x.2, v18, v19, v20, v21, v22, v23, v24, v25, v26, v27, v28, v29, v30, v31, v32, v33, v34, v35], []⟩)
      ?ownM ?assign ?body ?done
    case own =>
      rintro k A B row ⟨l9, a4, a5, bs, b1, b2, hB⟩ hg hr
      rw [sz] at hr
      exact ⟨Nat.le_trans l9 hg.size, a4.grown hg hr (by omega), a5.grown hg hr (by omega), bs.grown hg hr (by omega), b1.grown hg hr (by omega), b2.grown hg hr (by omega), hB.grown hg hB.size (fun k e => by have := hr k e; omega)⟩
    case start =>
      obtain ⟨a4, a5, bs, b1, b2, hB⟩ := HI.out
      exact ⟨by simp, (a4.alloc _).alloc _, (a5.alloc _).alloc _, (bs.alloc _).alloc _, (b1.alloc _).alloc _, (b2.alloc _).alloc _, (hB.alloc hB.size _).alloc (by have := hB.size; simp; omega) _⟩
    case ownM =>
      rintro k x a' s A B row ⟨v0, v2, v3, v8, v9, v10, v11, v12, v13, v14, v15, v18, v19, v20, v21, v22, v23, v24, v25, v26, v27, v28, v29, v30, v31, v32, v33, v34, v35, g7, hg7, h7, ⟨a4, a5, bs, b1, b2, hB⟩, ha⟩ hg hr
      have hr' : ∀ r, row = some r → ∃ o : Obj, A.heap[r]? = some o ∧ o.isCells = false := fun r e => (hr r e).2
      exact ⟨v0, v2, v3, v8, v9, v10, v11, v12, v13, v14, v15, v18, v19, v20, v21, v22, v23, v24, v25, v26, v27, v28, v29, v30, v31, v32, v33, v34, v35, g7, hg7, h7.kept hg hr', ⟨a4.kept hg hr', a5.kept hg hr', bs.kept hg hr', b1.kept hg hr', b2.kept hg hr', hB.grown hg hB.size (fun k e => by have := (hr k e).1; rw [sz] at this; omega)⟩, ha⟩
    case assign =>
      rintro l k x W K hx ⟨l9, a4, a5, bs, b1, b2, hB⟩ hK
      have hI : hI3 w a00 a01 a02 a03 a10 a11 a20 b00 b01 b02 b03 b10 b11 b20 g4 g5 k W := ⟨a4, a5, bs, b1, b2, hB⟩
      have HK := Lib.hid hK
      have HI' := Lib.hid hI
      clear hK hI a4 a5 bs b1 b2 hB
      match k, hx with
      | k + 3, hx => simp at hx
      | 0, hx =>
        obtain rfl := Option.some.inj hx
        simp only [encP]
        gi_wp2
        obtain ⟨a4, a5, bs, b1, b2, hB⟩ := HI'.out
        exact HK.out _ _ ((KeepsOthers.alloc W _).from _) (KeepsTop.grown (grown_alloc W _) (by intro b hb; simp only [List.mem_cons, List.not_mem_nil, or_false] at hb; omega))
          ⟨_, _, _, _, _, _, _, _, _, _, _, _, _, _, _, _, _, _, _, _, _, _, _, _, _, _, _, _, _, W.heap.size, l9, Blk.new _ _ _, ⟨a4.alloc _, a5.alloc _, bs.alloc _, b1.alloc _, b2.alloc _, hB.alloc hB.size _⟩, rfl⟩
      | 1, hx =>
        obtain rfl := Option.some.inj hx
        simp only [encP]
        gi_wp2
        obtain ⟨a4, a5, bs, b1, b2, hB⟩ := HI'.out
        exact HK.out _ _ ((KeepsOthers.alloc W _).from _) (KeepsTop.grown (grown_alloc W _) (by intro b hb; simp only [List.mem_cons, List.not_mem_nil, or_false] at hb; omega))
          ⟨_, _, _, _, _, _, _, _, _, _, _, _, _, _, _, _, _, _, _, _, _, _, _, _, _, _, _, _, _, W.heap.size, l9, Blk.new _ _ _, ⟨a4.alloc _, a5.alloc _, bs.alloc _, b1.alloc _, b2.alloc _, hB.alloc hB.size _⟩, rfl⟩
      | 2, hx =>
        obtain rfl := Option.some.inj hx
        simp only [encP]
        gi_wp2
        obtain ⟨a4, a5, bs, b1, b2, hB⟩ := HI'.out
        exact HK.out _ _ ((KeepsOthers.alloc W _).from _) (KeepsTop.grown (grown_alloc W _) (by intro b hb; simp only [List.mem_cons, List.not_mem_nil, or_false] at hb; omega))
          ⟨_, _, _, _, _, _, _, _, _, _, _, _, _, _, _, _, _, _, _, _, _, _, _, _, _, _, _, _, _, W.heap.size, l9, Blk.new _ _ _, ⟨a4.alloc _, a5.alloc _, bs.alloc _, b1.alloc _, b2.alloc _, hB.alloc hB.size _⟩, rfl⟩
    case body =>
      rintro l k x a' W hx ⟨v0, v2, v3, v8, v9, v10, v11, v12, v13, v14, v15, v18, v19, v20, v21, v22, v23, v24, v25, v26, v27, v28, v29, v30, v31, v32, v33, v34, v35, g7, hg7, h7, ⟨a4, a5, bs, b1, b2, hB⟩, rfl⟩
      have l7 := h7.lt
      match k, hx with
      | k + 3, hx => simp at hx
      | 0, hx =>
        obtain rfl := Option.some.inj hx
        simp only [hA3, hB3] at a4 a5
        dsimp only at h7
        have Ha4 := Lib.hid a4
        have Ha5 := Lib.hid a5
        have Hbs := Lib.hid bs
        have Hb1 := Lib.hid b1
        have Hb2 := Lib.hid b2
        have HB := Lib.hid hB
        obtain ⟨p1, p2, p3⟩ := a4.all
        obtain ⟨q1, q2, q3⟩ := a5.all
        obtain ⟨r1, r2, r3⟩ := bs.all
        obtain ⟨s1, s2, s3⟩ := h7.all
        clear a4 a5 bs b1 b2 hB h7
        have e1 : (w.heap.size == g4) = false := by simp; omega
        have e2 : (w.heap.size == g5) = false := by simp; omega
        have e3 : (g7 == g4) = false := by simp; omega
        have e4 : (g7 == g5) = false := by simp; omega
        gi_wp2
        refine wpIn_region_stores [0, 1, 2, 3, 4, 5, 6, 7, 8, 9, 10, 11, 12, 13, 14, 15, 16, 17] [g4, g5]
          (fun i => if i = 14 then some ⟨g4, .pointer (some ⟨g4, 0, none⟩), .agg #[.int .i64 a00, .int .i64 b00], .cells #[.int .i64 0, .int .i64 0, .int .i64 0, .int .i64 0, .int .i64 0, .int .i64 0, .int .i64 0, .int .i64 0, .int .i64 3] 26, .cells #[.int .i64 a00, .int .i64 b00, .int .i64 0, .int .i64 0, .int .i64 0, .int .i64 0, .int .i64 0, .int .i64 0, .int .i64 3] 26⟩ else if i = 17 then some ⟨g5, .pointer (some ⟨g5, 4, none⟩), .agg #[.int .i64 a02, .int .i64 b02], .cells #[.int .i64 0, .int .i64 0, .int .i64 0, .int .i64 0, .int .i64 0, .int .i64 0, .int .i64 0, .int .i64 0, .int .i64 3] 26, .cells #[.int .i64 0, .int .i64 0, .int .i64 0, .int .i64 0, .int .i64 a02, .int .i64 b02, .int .i64 0, .int .i64 0, .int .i64 3] 26⟩ else none)
          (by kernel_rfl) (by kernel_rfl) rfl rfl ⟨fun i s h => ?_, fun i j s s' h h' hij => ?_⟩ (fun i hi => ?_) (fun i o h ho => noEnter_all rfl ho) ?_
        · by_cases e : i = 14
          · subst e; rw [if_pos rfl] at h; obtain rfl := Option.some.inj h
            exact ⟨_, _, _, _, rfl, rfl, rfl, rfl, by simp, Ha4.out, fun v hv => storePt v _ _ _ _ _ _ hv (by simp)⟩
          · rw [if_neg e] at h
            by_cases e : i = 17
            · subst e; rw [if_pos rfl] at h; obtain rfl := Option.some.inj h
              exact ⟨_, _, _, _, rfl, rfl, rfl, rfl, by simp, Ha5.out, fun v hv => storePt v _ _ _ _ _ _ hv (by simp)⟩
            · rw [if_neg e] at h; cases h
        · by_cases e : i = 14
          · by_cases e' : j = 14
            · omega
            · rw [if_pos e] at h; obtain rfl := Option.some.inj h
              rw [if_neg e'] at h'
              by_cases e' : j = 17
              · rw [if_pos e'] at h'; obtain rfl := Option.some.inj h'; exact hne
              · rw [if_neg e'] at h'; cases h'
          · rw [if_neg e] at h
            by_cases e : i = 17
            · rw [if_pos e] at h; obtain rfl := Option.some.inj h
              by_cases e' : j = 14
              · rw [if_pos e'] at h'; obtain rfl := Option.some.inj h'; exact Ne.symm (hne)
              · rw [if_neg e', if_neg (by omega)] at h'; cases h'
            · rw [if_neg e] at h; cases h
        · rw [if_neg (by simp at hi; omega), if_neg (by simp at hi; omega)]
        refine wpLexS_quiet (r := [14, 15, 16, 17]) [0, 1, 2, 3, 4, 5, 6, 7, 8, 9, 10, 11, 12, 13] _ (fun i hi => ?_) ?_
        · have hi : i ≠ 14 ∧ i ≠ 17 ∧ i < 18 := by revert i; decide
          refine ⟨?_, hi.2.2⟩
          rw [if_neg hi.1]
          rw [if_neg hi.2.1]
        simp only [pick, List.getElem?_cons_zero, List.getElem?_cons_succ]
        repeat (go_big_quiet_step ((first | fail)))
        refine wpQuiet_nil ?_
        refine wpLexS_store rfl ⟨_, _, _, _, rfl, rfl, rfl, rfl⟩ ?_
        refine wpLexS_quiet (r := [17]) [15, 16] _ (fun i hi => ?_) ?_
        · have hi : i ≠ 14 ∧ i ≠ 17 ∧ i < 18 := by revert i; decide
          refine ⟨?_, hi.2.2⟩
          rw [if_neg hi.1]
          rw [if_neg hi.2.1]
        simp only [pick, List.getElem?_cons_zero, List.getElem?_cons_succ]
        repeat (go_big_quiet_step ((first | fail)))
        refine wpQuiet_nil ?_
        refine wpLexS_store rfl ⟨_, _, _, _, rfl, rfl, rfl, rfl⟩ ?_
        refine wpLexS_nil ?_
        intro x hx
        have n4 : Blk x.out g4 26 #[.int .i64 a00, .int .i64 b00, .int .i64 0, .int .i64 0, .int .i64 0, .int .i64 0, .int .i64 0, .int .i64 0, .int .i64 3] := hx 14 _ rfl
        have n5 : Blk x.out g5 26 #[.int .i64 0, .int .i64 0, .int .i64 0, .int .i64 0, .int .i64 a02, .int .i64 b02, .int .i64 0, .int .i64 0, .int .i64 3] := hx 17 _ rfl
        have lb : ∀ b ∈ [g4, g5], b < wc.heap.size := by intro b hb; simp only [List.mem_cons, List.not_mem_nil, or_false] at hb; omega
        gi_wp2
        refine ⟨x.keepsFrom (by rw [sz]; intro b hb; have := lb b hb; omega), x.keepsTop (by rw [sz]; intro b hb; have := lb b hb; omega) (by intro b hb; simp only [List.mem_cons, List.not_mem_nil, or_false] at hb ⊢; omega), by have := x.size; omega, n4, n5, x.blk Hbs.out (by simp only [List.mem_cons, List.not_mem_nil, or_false]; omega), x.blk Hb1.out (by simp only [List.mem_cons, List.not_mem_nil, or_false]; omega), x.blk Hb2.out (by simp only [List.mem_cons, List.not_mem_nil, or_false]; omega), x.below HB.out HB.out.size (by intro b hb; simp only [List.mem_cons, List.not_mem_nil, or_false] at hb; omega)⟩
      | 1, hx =>
        obtain rfl := Option.some.inj hx
        simp only [hA3, hB3] at a4 a5
        dsimp only at h7
        have Ha4 := Lib.hid a4
        have Ha5 := Lib.hid a5
        have Hbs := Lib.hid bs
        have Hb1 := Lib.hid b1
        have Hb2 := Lib.hid b2
        have HB := Lib.hid hB
        obtain ⟨p1, p2, p3⟩ := a4.all
        obtain ⟨q1, q2, q3⟩ := a5.all
        obtain ⟨r1, r2, r3⟩ := bs.all
        obtain ⟨s1, s2, s3⟩ := h7.all
        clear a4 a5 bs b1 b2 hB h7
        have e1 : (w.heap.size == g4) = false := by simp; omega
        have e2 : (w.heap.size == g5) = false := by simp; omega
        have e3 : (g7 == g4) = false := by simp; omega
        have e4 : (g7 == g5) = false := by simp; omega
        gi_wp2
        refine wpIn_region_stores [0, 1, 2, 3, 4, 5, 6, 7, 8, 9, 10, 11, 12, 13, 14, 15, 16, 17] [g4, g5]
          (fun i => if i = 14 then some ⟨g4, .pointer (some ⟨g4, 2, none⟩), .agg #[.int .i64 a10, .int .i64 b10], .cells #[.int .i64 a00, .int .i64 b00, .int .i64 0, .int .i64 0, .int .i64 0, .int .i64 0, .int .i64 0, .int .i64 0, .int .i64 3] 26, .cells #[.int .i64 a00, .int .i64 b00, .int .i64 a10, .int .i64 b10, .int .i64 0, .int .i64 0, .int .i64 0, .int .i64 0, .int .i64 3] 26⟩ else if i = 17 then some ⟨g5, .pointer (some ⟨g5, 2, none⟩), .agg #[.int .i64 a11, .int .i64 b11], .cells #[.int .i64 0, .int .i64 0, .int .i64 0, .int .i64 0, .int .i64 a02, .int .i64 b02, .int .i64 0, .int .i64 0, .int .i64 3] 26, .cells #[.int .i64 0, .int .i64 0, .int .i64 a11, .int .i64 b11, .int .i64 a02, .int .i64 b02, .int .i64 0, .int .i64 0, .int .i64 3] 26⟩ else none)
          (by kernel_rfl) (by kernel_rfl) rfl rfl ⟨fun i s h => ?_, fun i j s s' h h' hij => ?_⟩ (fun i hi => ?_) (fun i o h ho => noEnter_all rfl ho) ?_
        · by_cases e : i = 14
          · subst e; rw [if_pos rfl] at h; obtain rfl := Option.some.inj h
            exact ⟨_, _, _, _, rfl, rfl, rfl, rfl, by simp, Ha4.out, fun v hv => storePt v _ _ _ _ _ _ hv (by simp)⟩
          · rw [if_neg e] at h
            by_cases e : i = 17
            · subst e; rw [if_pos rfl] at h; obtain rfl := Option.some.inj h
              exact ⟨_, _, _, _, rfl, rfl, rfl, rfl, by simp, Ha5.out, fun v hv => storePt v _ _ _ _ _ _ hv (by simp)⟩
            · rw [if_neg e] at h; cases h
        · by_cases e : i = 14
          · by_cases e' : j = 14
            · omega
            · rw [if_pos e] at h; obtain rfl := Option.some.inj h
              rw [if_neg e'] at h'
              by_cases e' : j = 17
              · rw [if_pos e'] at h'; obtain rfl := Option.some.inj h'; exact hne
              · rw [if_neg e'] at h'; cases h'
          · rw [if_neg e] at h
            by_cases e : i = 17
            · rw [if_pos e] at h; obtain rfl := Option.some.inj h
              by_cases e' : j = 14
              · rw [if_pos e'] at h'; obtain rfl := Option.some.inj h'; exact Ne.symm (hne)
              · rw [if_neg e', if_neg (by omega)] at h'; cases h'
            · rw [if_neg e] at h; cases h
        · rw [if_neg (by simp at hi; omega), if_neg (by simp at hi; omega)]
        refine wpLexS_quiet (r := [14, 15, 16, 17]) [0, 1, 2, 3, 4, 5, 6, 7, 8, 9, 10, 11, 12, 13] _ (fun i hi => ?_) ?_
        · have hi : i ≠ 14 ∧ i ≠ 17 ∧ i < 18 := by revert i; decide
          refine ⟨?_, hi.2.2⟩
          rw [if_neg hi.1]
          rw [if_neg hi.2.1]
        simp only [pick, List.getElem?_cons_zero, List.getElem?_cons_succ]
        repeat (go_big_quiet_step ((first | fail)))
        refine wpQuiet_nil ?_
        refine wpLexS_store rfl ⟨_, _, _, _, rfl, rfl, rfl, rfl⟩ ?_
        refine wpLexS_quiet (r := [17]) [15, 16] _ (fun i hi => ?_) ?_
        · have hi : i ≠ 14 ∧ i ≠ 17 ∧ i < 18 := by revert i; decide
          refine ⟨?_, hi.2.2⟩
          rw [if_neg hi.1]
          rw [if_neg hi.2.1]
        simp only [pick, List.getElem?_cons_zero, List.getElem?_cons_succ]
        repeat (go_big_quiet_step ((first | fail)))
        refine wpQuiet_nil ?_
        refine wpLexS_store rfl ⟨_, _, _, _, rfl, rfl, rfl, rfl⟩ ?_
        refine wpLexS_nil ?_
        intro x hx
        have n4 : Blk x.out g4 26 #[.int .i64 a00, .int .i64 b00, .int .i64 a10, .int .i64 b10, .int .i64 0, .int .i64 0, .int .i64 0, .int .i64 0, .int .i64 3] := hx 14 _ rfl
        have n5 : Blk x.out g5 26 #[.int .i64 0, .int .i64 0, .int .i64 a11, .int .i64 b11, .int .i64 a02, .int .i64 b02, .int .i64 0, .int .i64 0, .int .i64 3] := hx 17 _ rfl
        have lb : ∀ b ∈ [g4, g5], b < wc.heap.size := by intro b hb; simp only [List.mem_cons, List.not_mem_nil, or_false] at hb; omega
        gi_wp2
        refine ⟨x.keepsFrom (by rw [sz]; intro b hb; have := lb b hb; omega), x.keepsTop (by rw [sz]; intro b hb; have := lb b hb; omega) (by intro b hb; simp only [List.mem_cons, List.not_mem_nil, or_false] at hb ⊢; omega), by have := x.size; omega, n4, n5, x.blk Hbs.out (by simp only [List.mem_cons, List.not_mem_nil, or_false]; omega), x.blk Hb1.out (by simp only [List.mem_cons, List.not_mem_nil, or_false]; omega), x.blk Hb2.out (by simp only [List.mem_cons, List.not_mem_nil, or_false]; omega), x.below HB.out HB.out.size (by intro b hb; simp only [List.mem_cons, List.not_mem_nil, or_false] at hb; omega)⟩
      | 2, hx =>
        obtain rfl := Option.some.inj hx
        simp only [hA3, hB3] at a4 a5
        dsimp only at h7
        have Ha4 := Lib.hid a4
        have Ha5 := Lib.hid a5
        have Hbs := Lib.hid bs
        have Hb1 := Lib.hid b1
        have Hb2 := Lib.hid b2
        have HB := Lib.hid hB
        obtain ⟨p1, p2, p3⟩ := a4.all
        obtain ⟨q1, q2, q3⟩ := a5.all
        obtain ⟨r1, r2, r3⟩ := bs.all
        obtain ⟨s1, s2, s3⟩ := h7.all
        clear a4 a5 bs b1 b2 hB h7
        have e1 : (w.heap.size == g4) = false := by simp; omega
        have e2 : (w.heap.size == g5) = false := by simp; omega
        have e3 : (g7 == g4) = false := by simp; omega
        have e4 : (g7 == g5) = false := by simp; omega
        gi_wp2
        refine wpIn_region_stores [0, 1, 2, 3, 4, 5, 6, 7, 8, 9, 10, 11, 12, 13, 14, 15, 16, 17] [g4, g5]
          (fun i => if i = 14 then some ⟨g4, .pointer (some ⟨g4, 4, none⟩), .agg #[.int .i64 a20, .int .i64 b20], .cells #[.int .i64 a00, .int .i64 b00, .int .i64 a10, .int .i64 b10, .int .i64 0, .int .i64 0, .int .i64 0, .int .i64 0, .int .i64 3] 26, .cells #[.int .i64 a00, .int .i64 b00, .int .i64 a10, .int .i64 b10, .int .i64 a20, .int .i64 b20, .int .i64 0, .int .i64 0, .int .i64 3] 26⟩ else if i = 17 then some ⟨g5, .pointer (some ⟨g5, 0, none⟩), .agg #[.int .i64 a20, .int .i64 b20], .cells #[.int .i64 0, .int .i64 0, .int .i64 a11, .int .i64 b11, .int .i64 a02, .int .i64 b02, .int .i64 0, .int .i64 0, .int .i64 3] 26, .cells #[.int .i64 a20, .int .i64 b20, .int .i64 a11, .int .i64 b11, .int .i64 a02, .int .i64 b02, .int .i64 0, .int .i64 0, .int .i64 3] 26⟩ else none)
          (by kernel_rfl) (by kernel_rfl) rfl rfl ⟨fun i s h => ?_, fun i j s s' h h' hij => ?_⟩ (fun i hi => ?_) (fun i o h ho => noEnter_all rfl ho) ?_
        · by_cases e : i = 14
          · subst e; rw [if_pos rfl] at h; obtain rfl := Option.some.inj h
            exact ⟨_, _, _, _, rfl, rfl, rfl, rfl, by simp, Ha4.out, fun v hv => storePt v _ _ _ _ _ _ hv (by simp)⟩
          · rw [if_neg e] at h
            by_cases e : i = 17
            · subst e; rw [if_pos rfl] at h; obtain rfl := Option.some.inj h
              exact ⟨_, _, _, _, rfl, rfl, rfl, rfl, by simp, Ha5.out, fun v hv => storePt v _ _ _ _ _ _ hv (by simp)⟩
            · rw [if_neg e] at h; cases h
        · by_cases e : i = 14
          · by_cases e' : j = 14
            · omega
            · rw [if_pos e] at h; obtain rfl := Option.some.inj h
              rw [if_neg e'] at h'
              by_cases e' : j = 17
              · rw [if_pos e'] at h'; obtain rfl := Option.some.inj h'; exact hne
              · rw [if_neg e'] at h'; cases h'
          · rw [if_neg e] at h
            by_cases e : i = 17
            · rw [if_pos e] at h; obtain rfl := Option.some.inj h
              by_cases e' : j = 14
              · rw [if_pos e'] at h'; obtain rfl := Option.some.inj h'; exact Ne.symm (hne)
              · rw [if_neg e', if_neg (by omega)] at h'; cases h'
            · rw [if_neg e] at h; cases h
        · rw [if_neg (by simp at hi; omega), if_neg (by simp at hi; omega)]
        refine wpLexS_quiet (r := [14, 15, 16, 17]) [0, 1, 2, 3, 4, 5, 6, 7, 8, 9, 10, 11, 12, 13] _ (fun i hi => ?_) ?_
        · have hi : i ≠ 14 ∧ i ≠ 17 ∧ i < 18 := by revert i; decide
          refine ⟨?_, hi.2.2⟩
          rw [if_neg hi.1]
          rw [if_neg hi.2.1]
        simp only [pick, List.getElem?_cons_zero, List.getElem?_cons_succ]
        repeat (go_big_quiet_step ((first | fail)))
        refine wpQuiet_nil ?_
        refine wpLexS_store rfl ⟨_, _, _, _, rfl, rfl, rfl, rfl⟩ ?_
        refine wpLexS_quiet (r := [17]) [15, 16] _ (fun i hi => ?_) ?_
        · have hi : i ≠ 14 ∧ i ≠ 17 ∧ i < 18 := by revert i; decide
          refine ⟨?_, hi.2.2⟩
          rw [if_neg hi.1]
          rw [if_neg hi.2.1]
        simp only [pick, List.getElem?_cons_zero, List.getElem?_cons_succ]
        repeat (go_big_quiet_step ((first | fail)))
        refine wpQuiet_nil ?_
        refine wpLexS_store rfl ⟨_, _, _, _, rfl, rfl, rfl, rfl⟩ ?_
        refine wpLexS_nil ?_
        intro x hx
        have n4 : Blk x.out g4 26 #[.int .i64 a00, .int .i64 b00, .int .i64 a10, .int .i64 b10, .int .i64 a20, .int .i64 b20, .int .i64 0, .int .i64 0, .int .i64 3] := hx 14 _ rfl
        have n5 : Blk x.out g5 26 #[.int .i64 a20, .int .i64 b20, .int .i64 a11, .int .i64 b11, .int .i64 a02, .int .i64 b02, .int .i64 0, .int .i64 0, .int .i64 3] := hx 17 _ rfl
        have lb : ∀ b ∈ [g4, g5], b < wc.heap.size := by intro b hb; simp only [List.mem_cons, List.not_mem_nil, or_false] at hb; omega
        gi_wp2
        refine ⟨x.keepsFrom (by rw [sz]; intro b hb; have := lb b hb; omega), x.keepsTop (by rw [sz]; intro b hb; have := lb b hb; omega) (by intro b hb; simp only [List.mem_cons, List.not_mem_nil, or_false] at hb ⊢; omega), by have := x.size; omega, n4, n5, x.blk Hbs.out (by simp only [List.mem_cons, List.not_mem_nil, or_false]; omega), x.blk Hb1.out (by simp only [List.mem_cons, List.not_mem_nil, or_false]; omega), x.blk Hb2.out (by simp only [List.mem_cons, List.not_mem_nil, or_false]; omega), x.below HB.out HB.out.size (by intro b hb; simp only [List.mem_cons, List.not_mem_nil, or_false] at hb; omega)⟩
    case done =>
      rintro D W hD ⟨l9, a4, a5, bs, b1, b2, hB⟩ hK
      simp only [List.length_cons, List.length_nil, hA3, hB3] at a4 a5
      rw [sz] at hD
      have Hb1 := Lib.hid b1
      have Hb2 := Lib.hid b2
      have HB := Lib.hid hB
      obtain ⟨p1, p2, p3⟩ := a4.all
      obtain ⟨q1, q2, q3⟩ := a5.all
      clear a4 a5 bs b1 b2 hB
      have e1 : (g4 == w.heap.size + 1) = false := by simp; omega
      have e2 : (g4 == w.heap.size + 1 + 1) = false := by simp; omega
      have e3 : (g5 == w.heap.size + 1) = false := by simp; omega
      have e4 : (g5 == w.heap.size + 1 + 1) = false := by simp; omega
      go_wp2
      refine wp_region_stores [0, 1, 2, 3] [w.heap.size + 1, w.heap.size + 1 + 1]
        (fun i => if i = 2 then some ⟨w.heap.size + 1, .pointer (some ⟨w.heap.size + 1, 0, none⟩), .agg #[.int .i64 a00, .int .i64 b00, .int .i64 a10, .int .i64 b10, .int .i64 a20, .int .i64 b20, .int .i64 0, .int .i64 0, .int .i64 3], .cells #[.int .i64 0, .int .i64 0, .int .i64 0, .int .i64 0, .int .i64 0, .int .i64 0, .int .i64 0, .int .i64 0, .int .i64 0] 26, .cells #[.int .i64 a00, .int .i64 b00, .int .i64 a10, .int .i64 b10, .int .i64 a20, .int .i64 b20, .int .i64 0, .int .i64 0, .int .i64 3] 26⟩ else if i = 3 then some ⟨w.heap.size + 1 + 1, .pointer (some ⟨w.heap.size + 1 + 1, 0, none⟩), .agg #[.int .i64 a20, .int .i64 b20, .int .i64 a11, .int .i64 b11, .int .i64 a02, .int .i64 b02, .int .i64 0, .int .i64 0, .int .i64 3], .cells #[.int .i64 0, .int .i64 0, .int .i64 0, .int .i64 0, .int .i64 0, .int .i64 0, .int .i64 0, .int .i64 0, .int .i64 0] 26, .cells #[.int .i64 a20, .int .i64 b20, .int .i64 a11, .int .i64 b11, .int .i64 a02, .int .i64 b02, .int .i64 0, .int .i64 0, .int .i64 3] 26⟩ else none)
        (by kernel_rfl) (by kernel_rfl) rfl rfl ⟨fun i s h => ?_, fun i j s s' h h' hij => ?_⟩ (fun i hi => ?_) (fun i o h ho => noEnter_all rfl ho) ?_
      · by_cases e : i = 2
        · subst e; rw [if_pos rfl] at h; obtain rfl := Option.some.inj h
          exact ⟨_, _, _, _, rfl, rfl, rfl, rfl, by simp, Hb1.out, fun v hv => storeRow _ v _ _ _ _ hv (by kernel_rfl) rfl (by kernel_rfl)⟩
        · rw [if_neg e] at h
          by_cases e : i = 3
          · subst e; rw [if_pos rfl] at h; obtain rfl := Option.some.inj h
            exact ⟨_, _, _, _, rfl, rfl, rfl, rfl, by simp, Hb2.out, fun v hv => storeRow _ v _ _ _ _ hv (by kernel_rfl) rfl (by kernel_rfl)⟩
          · rw [if_neg e] at h; cases h
      · by_cases e : i = 2
        · by_cases e' : j = 2
          · omega
          · rw [if_pos e] at h; obtain rfl := Option.some.inj h
            rw [if_neg e'] at h'
            by_cases e' : j = 3
            · rw [if_pos e'] at h'; obtain rfl := Option.some.inj h'; exact by simp
            · rw [if_neg e'] at h'; cases h'
        · rw [if_neg e] at h
          by_cases e : i = 3
          · rw [if_pos e] at h; obtain rfl := Option.some.inj h
            by_cases e' : j = 2
            · rw [if_pos e'] at h'; obtain rfl := Option.some.inj h'; exact Ne.symm (by simp)
            · rw [if_neg e', if_neg (by omega)] at h'; cases h'
          · rw [if_neg e] at h; cases h
      · rw [if_neg (by simp at hi; omega), if_neg (by simp at hi; omega)]
      refine wpLexS_quiet (r := [2, 3]) [0, 1] _ (fun i hi => ?_) ?_
      · have hi : i ≠ 2 ∧ i ≠ 3 ∧ i < 4 := by revert i; decide
        refine ⟨?_, hi.2.2⟩
        rw [if_neg hi.1]
        rw [if_neg hi.2.1]
      simp only [pick, List.getElem?_cons_zero, List.getElem?_cons_succ]
      repeat (go_big_quiet_step ((first | fail)))
      refine wpQuiet_nil ?_
      refine wpLexS_store rfl ⟨_, _, _, _, rfl, rfl, rfl, rfl⟩ ?_
      refine wpLexS_store rfl ⟨_, _, _, _, rfl, rfl, rfl, rfl⟩ ?_
      refine wpLexS_nil ?_
      intro x hx
      have n1 : Blk x.out (w.heap.size + 1) 26 #[.int .i64 a00, .int .i64 b00, .int .i64 a10, .int .i64 b10, .int .i64 a20, .int .i64 b20, .int .i64 0, .int .i64 0, .int .i64 3] := hx 2 _ rfl
      have n2 : Blk x.out (w.heap.size + 1 + 1) 26 #[.int .i64 a20, .int .i64 b20, .int .i64 a11, .int .i64 b11, .int .i64 a02, .int .i64 b02, .int .i64 0, .int .i64 0, .int .i64 3] := hx 3 _ rfl
      have hK' : x.out.heap[D]? = some (.deferred (some [])) := (x.block D (Array.getElem?_eq_some_iff.1 hK).1 (by simp only [List.mem_cons, List.not_mem_nil, or_false]; omega)).trans hK
      have m1 : Blk (x.out.putObj D (.deferred none)) (w.heap.size + 1) 26 #[.int .i64 a00, .int .i64 b00, .int .i64 a10, .int .i64 b10, .int .i64 a20, .int .i64 b20, .int .i64 0, .int .i64 0, .int .i64 3] := (World.putObj_heap_other (by omega)).trans n1
      have m2 : Blk (x.out.putObj D (.deferred none)) (w.heap.size + 1 + 1) 26 #[.int .i64 a20, .int .i64 b20, .int .i64 a11, .int .i64 b11, .int .i64 a02, .int .i64 b02, .int .i64 0, .int .i64 0, .int .i64 3] := (World.putObj_heap_other (by omega)).trans n2
      have hb := x.below HB.out HB.out.size (by intro b hb; simp only [List.mem_cons, List.not_mem_nil, or_false] at hb; omega)
      have mc1 := m1.cell
      have mc2 := m2.cell
      clear n1 n2 m1 m2 hx p1 p2 p3 q1 q2 q3
      go_wp2
      refine ⟨by simp, .inl ⟨_, _, rfl, run_takeDeferred hK', ?_⟩⟩
      refine ⟨.tuple #[.agg #[.int .i64 a00, .int .i64 b00, .int .i64 a10, .int .i64 b10, .int .i64 a20, .int .i64 b20, .int .i64 0, .int .i64 0, .int .i64 3], .agg #[.int .i64 a20, .int .i64 b20, .int .i64 a11, .int .i64 b11, .int .i64 a02, .int .i64 b02, .int .i64 0, .int .i64 0, .int .i64 3]], ?_, rfl, Later.mk_of (hb.trans (belowK_b (w := w) (Nat.le_refl _) _ D _ _ (by omega) hK' rfl rfl))⟩
      simp [results, go_sem, mc1, mc2]

end Go.Proofs.Ytcdnekhpeghkiaa

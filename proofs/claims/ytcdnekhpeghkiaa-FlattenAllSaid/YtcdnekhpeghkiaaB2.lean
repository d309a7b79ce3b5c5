/-
  The rows of a segment's points, each one the middles of the one ahead: what the iterator yields.
-/
import Derived.Test.YtcdnekhpeghkiaaB1
import Derived.Test.YtcdnekhpeghkiaaKC
namespace Go.Proofs.Ytcdnekhpeghkiaa
set_option linter.unusedVariables false
open Go.RowKit Go.Shelf
attribute [local go_sem] Oper.semAt_some
/-- what comes with a row: how many points count, and the points -/
def encP (x : Int × Array Value) : Array Value := #[.int .i64 x.1, .agg x.2]
theorem Later.grown' {w : World} (x : Later w) : w.grownBy x.out none := ⟨x.below.os, x.below.tape, x.below.output, x.below.size, fun k hk _ => x.below.block k hk⟩
theorem grown_alloc (W : World) (o : Obj) : W.grownBy (W.alloc o) none := ⟨rfl, rfl, rfl, by simp, fun k hk _ => Below.heap_alloc W o k hk⟩
theorem grown_setCell (W : World) (b i : Nat) (v : Value) : W.grownBy (W.setCell ⟨b, i, none⟩ v) (some b) :=
  ⟨rfl, rfl, rfl, by simp, fun k _ hk => Below.heap_setCell W _ v k (fun e => hk (by rw [e]))⟩


set_option maxRecDepth 100000 in
set_option maxHeartbeats 2000000 in
theorem rowsMid_2 (a00 a01 a02 a03 a10 b00 b01 b02 b03 b10 : Int) (Bs Bb B l : Nat) (J : Nat → World → Prop) (W : World)
    (hJ : FreeFrom W.heap.size J)
    (hY : ∀ k x W1, ([(2, #[.int .i64 a00, .int .i64 b00, .int .i64 a01, .int .i64 b01, .int .i64 a02, .int .i64 b02, .int .i64 a03, .int .i64 b03]), (1, #[.int .i64 a10, .int .i64 b10, .int .i64 a01, .int .i64 b01, .int .i64 a02, .int .i64 b02, .int .i64 a03, .int .i64 b03])] : List (Int × Array Value))[k]? = some x → J k W1 → YieldAt Fence.wide 2 Try.prog l (encP x) W1 fun e W' => e = .returned (.bool true) ∧ J (k + 1) W' ∧ KeepsTop B [Bs, Bb] W1 W')
    (c00 : ∀ w', Calls Try.prog 73 #[.agg #[.int .i64 a00, .int .i64 b00], .agg #[.int .i64 a01, .int .i64 b01]] w' fun e w'' => e = .returned (.agg #[.int .i64 a10, .int .i64 b10]) ∧ ∃ x : Later w', w'' = x.out)
    (hBW : B ≤ W.heap.size) (hs : Blk W Bs 26 #[.int .i64 a00, .int .i64 b00, .int .i64 a01, .int .i64 b01, .int .i64 a02, .int .i64 b02, .int .i64 a03, .int .i64 b03, .int .i64 2]) (hb : Blk W Bb 47 #[.func (.func 73) #[] #[]]) (h0 : J 0 W) :
    CallsIn Fence.wide 3 Try.prog 85 #[.func (.yield l) #[] #[], .pointer (some ⟨Bs, 0, none⟩), .pointer (some ⟨Bb, 0, none⟩)] W fun e W' => (∃ v, e = .returned v) ∧ J 2 W' := by
  have jl : ∀ (s : Nat) (V : World) (x : Later V), J s V → J s x.out := fun s V x h => hJ _ _ _ none h (Later.grown' x) (fun r e => by cases e)
  have js : ∀ (s : Nat) (V : World) (i : Nat) (v : Value), J s V → J s (V.setCell ⟨W.heap.size, i, none⟩ v) := fun s V i v h => hJ _ _ _ _ h (grown_setCell _ _ i v) (fun r e => by cases e; exact Nat.le_refl _)
  have j0 : J 0 (W.alloc (.cells #[.int .i64 a00, .int .i64 b00, .int .i64 a01, .int .i64 b01, .int .i64 a02, .int .i64 b02, .int .i64 a03, .int .i64 b03] 24)) := hJ _ _ _ none h0 (grown_alloc _ _) (fun r e => by cases e)
  have r0 : Blk (W.alloc (.cells #[.int .i64 a00, .int .i64 b00, .int .i64 a01, .int .i64 b01, .int .i64 a02, .int .i64 b02, .int .i64 a03, .int .i64 b03] 24)) W.heap.size 24 #[.int .i64 a00, .int .i64 b00, .int .i64 a01, .int .i64 b01, .int .i64 a02, .int .i64 b02, .int .i64 a03, .int .i64 b03] := Blk.new _ _ _
  have s0 := hs.alloc (.cells #[.int .i64 a00, .int .i64 b00, .int .i64 a01, .int .i64 b01, .int .i64 a02, .int .i64 b02, .int .i64 a03, .int .i64 b03] 24)
  have b0 := hb.alloc (.cells #[.int .i64 a00, .int .i64 b00, .int .i64 a01, .int .i64 b01, .int .i64 a02, .int .i64 b02, .int .i64 a03, .int .i64 b03] 24)
  have hsB := hs.lt
  have hbB := hb.lt
  have y0 := hY 0 _ _ rfl j0
  simp only [encP] at y0
  have HY := Lib.hid hY
  have HJL := Lib.hid jl
  have HJS := Lib.hid js
  have Hc00 := Lib.hid c00; clear c00
  have Hr0 := Lib.hid r0
  have Hs0 := Lib.hid s0
  have Hb0 := Lib.hid b0
  have HBW := Lib.hid hBW
  obtain ⟨hs1, hs2, hs3⟩ := hs.all
  clear hY hJ jl js j0 r0 s0 b0 hb h0 hs hBW
  refine callsIn_of_wp Try.func85 rfl trivial ?_ rfl
  simp only [Try.ntmps85, List.size_toArray, List.length_cons, List.length_nil, Nat.reduceAdd, Nat.reduceSub, Array.replicate_succ, Array.replicate_zero, List.push_toArray, List.append_toArray, List.nil_append, List.cons_append]
  gi_wp2
  clear hs1 hs2 hs3
  refine wpIn_loop_rounds 3 ?_
  -- round 0
  obtain ⟨fn0, tmps0, assign0, body0, hy0, hR0⟩ := y0
  rw [roundsIn_succ]
  gi_wp2
  refine hR0.mono ?_
  rintro e W0 ⟨rfl, hJ0, hK0⟩
  clear hy0 hR0
  have q0 : Blk W0 W.heap.size 24 #[.int .i64 a00, .int .i64 b00, .int .i64 a01, .int .i64 b01, .int .i64 a02, .int .i64 b02, .int .i64 a03, .int .i64 b03] := hK0.2 _ _ HBW.out Hr0.out rfl
  have t0 : Blk W0 Bs 26 #[.int .i64 a00, .int .i64 b00, .int .i64 a01, .int .i64 b01, .int .i64 a02, .int .i64 b02, .int .i64 a03, .int .i64 b03, .int .i64 2] := Hs0.out.heap (hK0.1 _ (by simp))
  have v0 : Blk W0 Bb 47 #[.func (.func 73) #[] #[]] := Hb0.out.heap (hK0.1 _ (by simp))
  skip
  have HJ0 := Lib.hid hJ0
  have Hq0 := Lib.hid q0
  have Ht0 := Lib.hid t0
  have Hv0 := Lib.hid v0
  obtain ⟨f1, f2, f3⟩ := q0.all
  obtain ⟨g1, g2, g3⟩ := v0.all
  clear hJ0 hK0 q0 t0 v0
  gi_wp2
  refine wpIn_loop_rounds 2 ?_
  rw [roundsIn_succ]
  gi_wp2
  refine wpIn_wide.2 ?_
  refine wp_region_later_tail 11 (by kernel_rfl) (by kernel_rfl) ?_
  simp only [List.take_succ_cons, List.take_zero, List.drop_succ_cons, List.drop_zero]
  repeat (go_big_quiet_step ((first | (go_at_call 73; with_reducible exact Later.call _ (Hc00.out _)))))
  refine wpQuiet_nil ?_
  intro x00
  go_wp2
  gi_wp2
  rw [roundsIn_succ]
  gi_wp2
  have j1 := HJS.out _ _ 1 (.int .i64 b10) (HJS.out _ _ 0 (.int .i64 a10) (HJL.out _ _ x00 (HJ0.out)))
  have r1 := (((Blk.later (Hq0.out) x00).set 0 (.int .i64 a10)).set 1 (.int .i64 b10))
  simp only [List.setIfInBounds_toArray, List.set_cons_zero, List.set_cons_succ] at r1
  have s1 := (((Blk.later (Ht0.out) x00).other 0 (.int .i64 a10) (Nat.ne_of_lt hsB)).other 1 (.int .i64 b10) (Nat.ne_of_lt hsB))
  have b1 := (((Blk.later (Hv0.out) x00).other 0 (.int .i64 a10) (Nat.ne_of_lt hbB)).other 1 (.int .i64 b10) (Nat.ne_of_lt hbB))
  have y1 := HY.out 1 _ _ rfl j1
  simp only [encP] at y1
  clear f1 f2 f3 g1 g2 g3
  generalize hV1 : (World.setCell (World.setCell x00.out ⟨W.heap.size, 0, none⟩ (.int .i64 a10)) ⟨W.heap.size, 1, none⟩ (.int .i64 b10)) = V1 at r1 s1 b1 y1 ⊢
  clear hV1
  obtain ⟨f1, f2, f3⟩ := r1.all
  have Hr1 := Lib.hid r1
  have Hs1 := Lib.hid s1
  have Hb1 := Lib.hid b1
  clear j1 r1 s1 b1
  -- round 1
  obtain ⟨fn1, tmps1, assign1, body1, hy1, hR1⟩ := y1
  rw [roundsIn_succ]
  gi_wp2
  refine hR1.mono ?_
  rintro e W1 ⟨rfl, hJ1, hK1⟩
  clear hy1 hR1
  have q1 : Blk W1 W.heap.size 24 #[.int .i64 a10, .int .i64 b10, .int .i64 a01, .int .i64 b01, .int .i64 a02, .int .i64 b02, .int .i64 a03, .int .i64 b03] := hK1.2 _ _ HBW.out Hr1.out rfl
  have t1 : Blk W1 Bs 26 #[.int .i64 a00, .int .i64 b00, .int .i64 a01, .int .i64 b01, .int .i64 a02, .int .i64 b02, .int .i64 a03, .int .i64 b03, .int .i64 2] := Hs1.out.heap (hK1.1 _ (by simp))
  have v1 : Blk W1 Bb 47 #[.func (.func 73) #[] #[]] := Hb1.out.heap (hK1.1 _ (by simp))
  clear f1 f2 f3
  have HJ1 := Lib.hid hJ1
  have Hq1 := Lib.hid q1
  have Ht1 := Lib.hid t1
  have Hv1 := Lib.hid v1
  obtain ⟨f1, f2, f3⟩ := q1.all
  obtain ⟨g1, g2, g3⟩ := v1.all
  clear hJ1 hK1 q1 t1 v1
  gi_wp2
  refine wpIn_loop_rounds 1 ?_
  rw [roundsIn_succ]
  gi_wp2
  rw [roundsIn_succ]
  gi_wp2
  refine ⟨fun f h => (by cases h), ?_⟩
  gi_wp2
  go_end0
  exact ⟨⟨_, rfl⟩, HJ1.out⟩

theorem rowsMid_2_seq (a00 a01 a02 a03 a10 b00 b01 b02 b03 b10 : Int) (Bs Bb : Nat) (w : World)
    (c00 : ∀ w', Calls Try.prog 73 #[.agg #[.int .i64 a00, .int .i64 b00], .agg #[.int .i64 a01, .int .i64 b01]] w' fun e w'' => e = .returned (.agg #[.int .i64 a10, .int .i64 b10]) ∧ ∃ x : Later w', w'' = x.out)
    (hs : Blk w Bs 26 #[.int .i64 a00, .int .i64 b00, .int .i64 a01, .int .i64 b01, .int .i64 a02, .int .i64 b02, .int .i64 a03, .int .i64 b03, .int .i64 2]) (hb : Blk w Bb 47 #[.func (.func 73) #[] #[]]) :
    SeqIdx Fence.wide 3 Try.prog 85 #[.pointer (some ⟨Bs, 0, none⟩), .pointer (some ⟨Bb, 0, none⟩)] encP (KeepsTop w.heap.size [Bs, Bb]) [(2, #[.int .i64 a00, .int .i64 b00, .int .i64 a01, .int .i64 b01, .int .i64 a02, .int .i64 b02, .int .i64 a03, .int .i64 b03]), (1, #[.int .i64 a10, .int .i64 b10, .int .i64 a01, .int .i64 b01, .int .i64 a02, .int .i64 b02, .int .i64 a03, .int .i64 b03])] w :=
  fun l J W hW hJ hY h0 => rowsMid_2 a00 a01 a02 a03 a10 b00 b01 b02 b03 b10 Bs Bb w.heap.size l J W hJ hY c00 hW.size (hs.below hW hs.lt) (hb.below hW hb.lt) h0


set_option maxRecDepth 100000 in
set_option maxHeartbeats 2000000 in
theorem rowsMid_3 (a00 a01 a02 a03 a10 a11 a20 b00 b01 b02 b03 b10 b11 b20 : Int) (Bs Bb B l : Nat) (J : Nat → World → Prop) (W : World)
    (hJ : FreeFrom W.heap.size J)
    (hY : ∀ k x W1, ([(3, #[.int .i64 a00, .int .i64 b00, .int .i64 a01, .int .i64 b01, .int .i64 a02, .int .i64 b02, .int .i64 a03, .int .i64 b03]), (2, #[.int .i64 a10, .int .i64 b10, .int .i64 a11, .int .i64 b11, .int .i64 a02, .int .i64 b02, .int .i64 a03, .int .i64 b03]), (1, #[.int .i64 a20, .int .i64 b20, .int .i64 a11, .int .i64 b11, .int .i64 a02, .int .i64 b02, .int .i64 a03, .int .i64 b03])] : List (Int × Array Value))[k]? = some x → J k W1 → YieldAt Fence.wide 2 Try.prog l (encP x) W1 fun e W' => e = .returned (.bool true) ∧ J (k + 1) W' ∧ KeepsTop B [Bs, Bb] W1 W')
    (c00 : ∀ w', Calls Try.prog 73 #[.agg #[.int .i64 a00, .int .i64 b00], .agg #[.int .i64 a01, .int .i64 b01]] w' fun e w'' => e = .returned (.agg #[.int .i64 a10, .int .i64 b10]) ∧ ∃ x : Later w', w'' = x.out) (c01 : ∀ w', Calls Try.prog 73 #[.agg #[.int .i64 a01, .int .i64 b01], .agg #[.int .i64 a02, .int .i64 b02]] w' fun e w'' => e = .returned (.agg #[.int .i64 a11, .int .i64 b11]) ∧ ∃ x : Later w', w'' = x.out) (c10 : ∀ w', Calls Try.prog 73 #[.agg #[.int .i64 a10, .int .i64 b10], .agg #[.int .i64 a11, .int .i64 b11]] w' fun e w'' => e = .returned (.agg #[.int .i64 a20, .int .i64 b20]) ∧ ∃ x : Later w', w'' = x.out)
    (hBW : B ≤ W.heap.size) (hs : Blk W Bs 26 #[.int .i64 a00, .int .i64 b00, .int .i64 a01, .int .i64 b01, .int .i64 a02, .int .i64 b02, .int .i64 a03, .int .i64 b03, .int .i64 3]) (hb : Blk W Bb 47 #[.func (.func 73) #[] #[]]) (h0 : J 0 W) :
    CallsIn Fence.wide 3 Try.prog 85 #[.func (.yield l) #[] #[], .pointer (some ⟨Bs, 0, none⟩), .pointer (some ⟨Bb, 0, none⟩)] W fun e W' => (∃ v, e = .returned v) ∧ J 3 W' := by
  have jl : ∀ (s : Nat) (V : World) (x : Later V), J s V → J s x.out := fun s V x h => hJ _ _ _ none h (Later.grown' x) (fun r e => by cases e)
  have js : ∀ (s : Nat) (V : World) (i : Nat) (v : Value), J s V → J s (V.setCell ⟨W.heap.size, i, none⟩ v) := fun s V i v h => hJ _ _ _ _ h (grown_setCell _ _ i v) (fun r e => by cases e; exact Nat.le_refl _)
  have j0 : J 0 (W.alloc (.cells #[.int .i64 a00, .int .i64 b00, .int .i64 a01, .int .i64 b01, .int .i64 a02, .int .i64 b02, .int .i64 a03, .int .i64 b03] 24)) := hJ _ _ _ none h0 (grown_alloc _ _) (fun r e => by cases e)
  have r0 : Blk (W.alloc (.cells #[.int .i64 a00, .int .i64 b00, .int .i64 a01, .int .i64 b01, .int .i64 a02, .int .i64 b02, .int .i64 a03, .int .i64 b03] 24)) W.heap.size 24 #[.int .i64 a00, .int .i64 b00, .int .i64 a01, .int .i64 b01, .int .i64 a02, .int .i64 b02, .int .i64 a03, .int .i64 b03] := Blk.new _ _ _
  have s0 := hs.alloc (.cells #[.int .i64 a00, .int .i64 b00, .int .i64 a01, .int .i64 b01, .int .i64 a02, .int .i64 b02, .int .i64 a03, .int .i64 b03] 24)
  have b0 := hb.alloc (.cells #[.int .i64 a00, .int .i64 b00, .int .i64 a01, .int .i64 b01, .int .i64 a02, .int .i64 b02, .int .i64 a03, .int .i64 b03] 24)
  have hsB := hs.lt
  have hbB := hb.lt
  have y0 := hY 0 _ _ rfl j0
  simp only [encP] at y0
  have HY := Lib.hid hY
  have HJL := Lib.hid jl
  have HJS := Lib.hid js
  have Hc00 := Lib.hid c00; clear c00
  have Hc01 := Lib.hid c01; clear c01
  have Hc10 := Lib.hid c10; clear c10
  have Hr0 := Lib.hid r0
  have Hs0 := Lib.hid s0
  have Hb0 := Lib.hid b0
  have HBW := Lib.hid hBW
  obtain ⟨hs1, hs2, hs3⟩ := hs.all
  clear hY hJ jl js j0 r0 s0 b0 hb h0 hs hBW
  refine callsIn_of_wp Try.func85 rfl trivial ?_ rfl
  simp only [Try.ntmps85, List.size_toArray, List.length_cons, List.length_nil, Nat.reduceAdd, Nat.reduceSub, Array.replicate_succ, Array.replicate_zero, List.push_toArray, List.append_toArray, List.nil_append, List.cons_append]
  gi_wp2
  clear hs1 hs2 hs3
  refine wpIn_loop_rounds 4 ?_
  -- round 0
  obtain ⟨fn0, tmps0, assign0, body0, hy0, hR0⟩ := y0
  rw [roundsIn_succ]
  gi_wp2
  refine hR0.mono ?_
  rintro e W0 ⟨rfl, hJ0, hK0⟩
  clear hy0 hR0
  have q0 : Blk W0 W.heap.size 24 #[.int .i64 a00, .int .i64 b00, .int .i64 a01, .int .i64 b01, .int .i64 a02, .int .i64 b02, .int .i64 a03, .int .i64 b03] := hK0.2 _ _ HBW.out Hr0.out rfl
  have t0 : Blk W0 Bs 26 #[.int .i64 a00, .int .i64 b00, .int .i64 a01, .int .i64 b01, .int .i64 a02, .int .i64 b02, .int .i64 a03, .int .i64 b03, .int .i64 3] := Hs0.out.heap (hK0.1 _ (by simp))
  have v0 : Blk W0 Bb 47 #[.func (.func 73) #[] #[]] := Hb0.out.heap (hK0.1 _ (by simp))
  skip
  have HJ0 := Lib.hid hJ0
  have Hq0 := Lib.hid q0
  have Ht0 := Lib.hid t0
  have Hv0 := Lib.hid v0
  obtain ⟨f1, f2, f3⟩ := q0.all
  obtain ⟨g1, g2, g3⟩ := v0.all
  clear hJ0 hK0 q0 t0 v0
  gi_wp2
  refine wpIn_loop_rounds 3 ?_
  rw [roundsIn_succ]
  gi_wp2
  refine wpIn_wide.2 ?_
  refine wp_region_later_tail 11 (by kernel_rfl) (by kernel_rfl) ?_
  simp only [List.take_succ_cons, List.take_zero, List.drop_succ_cons, List.drop_zero]
  repeat (go_big_quiet_step ((first | (go_at_call 73; with_reducible exact Later.call _ (Hc00.out _)))))
  refine wpQuiet_nil ?_
  intro x00
  go_wp2
  gi_wp2
  rw [roundsIn_succ]
  gi_wp2
  refine wpIn_wide.2 ?_
  refine wp_region_later_tail 11 (by kernel_rfl) (by kernel_rfl) ?_
  simp only [List.take_succ_cons, List.take_zero, List.drop_succ_cons, List.drop_zero]
  repeat (go_big_quiet_step ((first | (go_at_call 73; with_reducible exact Later.call _ (Hc01.out _)))))
  refine wpQuiet_nil ?_
  intro x01
  go_wp2
  gi_wp2
  rw [roundsIn_succ]
  gi_wp2
  have j1 := HJS.out _ _ 3 (.int .i64 b11) (HJS.out _ _ 2 (.int .i64 a11) (HJL.out _ _ x01 (HJS.out _ _ 1 (.int .i64 b10) (HJS.out _ _ 0 (.int .i64 a10) (HJL.out _ _ x00 (HJ0.out))))))
  have r1 := (((Blk.later ((((Blk.later (Hq0.out) x00).set 0 (.int .i64 a10)).set 1 (.int .i64 b10))) x01).set 2 (.int .i64 a11)).set 3 (.int .i64 b11))
  simp only [List.setIfInBounds_toArray, List.set_cons_zero, List.set_cons_succ] at r1
  have s1 := (((Blk.later ((((Blk.later (Ht0.out) x00).other 0 (.int .i64 a10) (Nat.ne_of_lt hsB)).other 1 (.int .i64 b10) (Nat.ne_of_lt hsB))) x01).other 2 (.int .i64 a11) (Nat.ne_of_lt hsB)).other 3 (.int .i64 b11) (Nat.ne_of_lt hsB))
  have b1 := (((Blk.later ((((Blk.later (Hv0.out) x00).other 0 (.int .i64 a10) (Nat.ne_of_lt hbB)).other 1 (.int .i64 b10) (Nat.ne_of_lt hbB))) x01).other 2 (.int .i64 a11) (Nat.ne_of_lt hbB)).other 3 (.int .i64 b11) (Nat.ne_of_lt hbB))
  have y1 := HY.out 1 _ _ rfl j1
  simp only [encP] at y1
  clear f1 f2 f3 g1 g2 g3
  generalize hV1 : (World.setCell (World.setCell x01.out ⟨W.heap.size, 2, none⟩ (.int .i64 a11)) ⟨W.heap.size, 3, none⟩ (.int .i64 b11)) = V1 at r1 s1 b1 y1 ⊢
  clear hV1
  obtain ⟨f1, f2, f3⟩ := r1.all
  have Hr1 := Lib.hid r1
  have Hs1 := Lib.hid s1
  have Hb1 := Lib.hid b1
  clear j1 r1 s1 b1
  -- round 1
  obtain ⟨fn1, tmps1, assign1, body1, hy1, hR1⟩ := y1
  rw [roundsIn_succ]
  gi_wp2
  refine hR1.mono ?_
  rintro e W1 ⟨rfl, hJ1, hK1⟩
  clear hy1 hR1
  have q1 : Blk W1 W.heap.size 24 #[.int .i64 a10, .int .i64 b10, .int .i64 a11, .int .i64 b11, .int .i64 a02, .int .i64 b02, .int .i64 a03, .int .i64 b03] := hK1.2 _ _ HBW.out Hr1.out rfl
  have t1 : Blk W1 Bs 26 #[.int .i64 a00, .int .i64 b00, .int .i64 a01, .int .i64 b01, .int .i64 a02, .int .i64 b02, .int .i64 a03, .int .i64 b03, .int .i64 3] := Hs1.out.heap (hK1.1 _ (by simp))
  have v1 : Blk W1 Bb 47 #[.func (.func 73) #[] #[]] := Hb1.out.heap (hK1.1 _ (by simp))
  clear f1 f2 f3
  have HJ1 := Lib.hid hJ1
  have Hq1 := Lib.hid q1
  have Ht1 := Lib.hid t1
  have Hv1 := Lib.hid v1
  obtain ⟨f1, f2, f3⟩ := q1.all
  obtain ⟨g1, g2, g3⟩ := v1.all
  clear hJ1 hK1 q1 t1 v1
  gi_wp2
  refine wpIn_loop_rounds 2 ?_
  rw [roundsIn_succ]
  gi_wp2
  refine wpIn_wide.2 ?_
  refine wp_region_later_tail 11 (by kernel_rfl) (by kernel_rfl) ?_
  simp only [List.take_succ_cons, List.take_zero, List.drop_succ_cons, List.drop_zero]
  repeat (go_big_quiet_step ((first | (go_at_call 73; with_reducible exact Later.call _ (Hc10.out _)))))
  refine wpQuiet_nil ?_
  intro x10
  go_wp2
  gi_wp2
  rw [roundsIn_succ]
  gi_wp2
  have j2 := HJS.out _ _ 1 (.int .i64 b20) (HJS.out _ _ 0 (.int .i64 a20) (HJL.out _ _ x10 (HJ1.out)))
  have r2 := (((Blk.later (Hq1.out) x10).set 0 (.int .i64 a20)).set 1 (.int .i64 b20))
  simp only [List.setIfInBounds_toArray, List.set_cons_zero, List.set_cons_succ] at r2
  have s2 := (((Blk.later (Ht1.out) x10).other 0 (.int .i64 a20) (Nat.ne_of_lt hsB)).other 1 (.int .i64 b20) (Nat.ne_of_lt hsB))
  have b2 := (((Blk.later (Hv1.out) x10).other 0 (.int .i64 a20) (Nat.ne_of_lt hbB)).other 1 (.int .i64 b20) (Nat.ne_of_lt hbB))
  have y2 := HY.out 2 _ _ rfl j2
  simp only [encP] at y2
  clear f1 f2 f3 g1 g2 g3
  generalize hV2 : (World.setCell (World.setCell x10.out ⟨W.heap.size, 0, none⟩ (.int .i64 a20)) ⟨W.heap.size, 1, none⟩ (.int .i64 b20)) = V2 at r2 s2 b2 y2 ⊢
  clear hV2
  obtain ⟨f1, f2, f3⟩ := r2.all
  have Hr2 := Lib.hid r2
  have Hs2 := Lib.hid s2
  have Hb2 := Lib.hid b2
  clear j2 r2 s2 b2
  -- round 2
  obtain ⟨fn2, tmps2, assign2, body2, hy2, hR2⟩ := y2
  rw [roundsIn_succ]
  gi_wp2
  refine hR2.mono ?_
  rintro e W2 ⟨rfl, hJ2, hK2⟩
  clear hy2 hR2
  have q2 : Blk W2 W.heap.size 24 #[.int .i64 a20, .int .i64 b20, .int .i64 a11, .int .i64 b11, .int .i64 a02, .int .i64 b02, .int .i64 a03, .int .i64 b03] := hK2.2 _ _ HBW.out Hr2.out rfl
  have t2 : Blk W2 Bs 26 #[.int .i64 a00, .int .i64 b00, .int .i64 a01, .int .i64 b01, .int .i64 a02, .int .i64 b02, .int .i64 a03, .int .i64 b03, .int .i64 3] := Hs2.out.heap (hK2.1 _ (by simp))
  have v2 : Blk W2 Bb 47 #[.func (.func 73) #[] #[]] := Hb2.out.heap (hK2.1 _ (by simp))
  clear f1 f2 f3
  have HJ2 := Lib.hid hJ2
  have Hq2 := Lib.hid q2
  have Ht2 := Lib.hid t2
  have Hv2 := Lib.hid v2
  obtain ⟨f1, f2, f3⟩ := q2.all
  obtain ⟨g1, g2, g3⟩ := v2.all
  clear hJ2 hK2 q2 t2 v2
  gi_wp2
  refine wpIn_loop_rounds 1 ?_
  rw [roundsIn_succ]
  gi_wp2
  rw [roundsIn_succ]
  gi_wp2
  refine ⟨fun f h => (by cases h), ?_⟩
  gi_wp2
  go_end0
  exact ⟨⟨_, rfl⟩, HJ2.out⟩

theorem rowsMid_3_seq (a00 a01 a02 a03 a10 a11 a20 b00 b01 b02 b03 b10 b11 b20 : Int) (Bs Bb : Nat) (w : World)
    (c00 : ∀ w', Calls Try.prog 73 #[.agg #[.int .i64 a00, .int .i64 b00], .agg #[.int .i64 a01, .int .i64 b01]] w' fun e w'' => e = .returned (.agg #[.int .i64 a10, .int .i64 b10]) ∧ ∃ x : Later w', w'' = x.out) (c01 : ∀ w', Calls Try.prog 73 #[.agg #[.int .i64 a01, .int .i64 b01], .agg #[.int .i64 a02, .int .i64 b02]] w' fun e w'' => e = .returned (.agg #[.int .i64 a11, .int .i64 b11]) ∧ ∃ x : Later w', w'' = x.out) (c10 : ∀ w', Calls Try.prog 73 #[.agg #[.int .i64 a10, .int .i64 b10], .agg #[.int .i64 a11, .int .i64 b11]] w' fun e w'' => e = .returned (.agg #[.int .i64 a20, .int .i64 b20]) ∧ ∃ x : Later w', w'' = x.out)
    (hs : Blk w Bs 26 #[.int .i64 a00, .int .i64 b00, .int .i64 a01, .int .i64 b01, .int .i64 a02, .int .i64 b02, .int .i64 a03, .int .i64 b03, .int .i64 3]) (hb : Blk w Bb 47 #[.func (.func 73) #[] #[]]) :
    SeqIdx Fence.wide 3 Try.prog 85 #[.pointer (some ⟨Bs, 0, none⟩), .pointer (some ⟨Bb, 0, none⟩)] encP (KeepsTop w.heap.size [Bs, Bb]) [(3, #[.int .i64 a00, .int .i64 b00, .int .i64 a01, .int .i64 b01, .int .i64 a02, .int .i64 b02, .int .i64 a03, .int .i64 b03]), (2, #[.int .i64 a10, .int .i64 b10, .int .i64 a11, .int .i64 b11, .int .i64 a02, .int .i64 b02, .int .i64 a03, .int .i64 b03]), (1, #[.int .i64 a20, .int .i64 b20, .int .i64 a11, .int .i64 b11, .int .i64 a02, .int .i64 b02, .int .i64 a03, .int .i64 b03])] w :=
  fun l J W hW hJ hY h0 => rowsMid_3 a00 a01 a02 a03 a10 a11 a20 b00 b01 b02 b03 b10 b11 b20 Bs Bb w.heap.size l J W hJ hY c00 c01 c10 hW.size (hs.below hW hs.lt) (hb.below hW hb.lt) h0


set_option maxRecDepth 100000 in
set_option maxHeartbeats 2000000 in
theorem rowsMid_4 (a00 a01 a02 a03 a10 a11 a12 a20 a21 a30 b00 b01 b02 b03 b10 b11 b12 b20 b21 b30 : Int) (Bs Bb B l : Nat) (J : Nat → World → Prop) (W : World)
    (hJ : FreeFrom W.heap.size J)
    (hY : ∀ k x W1, ([(4, #[.int .i64 a00, .int .i64 b00, .int .i64 a01, .int .i64 b01, .int .i64 a02, .int .i64 b02, .int .i64 a03, .int .i64 b03]), (3, #[.int .i64 a10, .int .i64 b10, .int .i64 a11, .int .i64 b11, .int .i64 a12, .int .i64 b12, .int .i64 a03, .int .i64 b03]), (2, #[.int .i64 a20, .int .i64 b20, .int .i64 a21, .int .i64 b21, .int .i64 a12, .int .i64 b12, .int .i64 a03, .int .i64 b03]), (1, #[.int .i64 a30, .int .i64 b30, .int .i64 a21, .int .i64 b21, .int .i64 a12, .int .i64 b12, .int .i64 a03, .int .i64 b03])] : List (Int × Array Value))[k]? = some x → J k W1 → YieldAt Fence.wide 2 Try.prog l (encP x) W1 fun e W' => e = .returned (.bool true) ∧ J (k + 1) W' ∧ KeepsTop B [Bs, Bb] W1 W')
    (c00 : ∀ w', Calls Try.prog 73 #[.agg #[.int .i64 a00, .int .i64 b00], .agg #[.int .i64 a01, .int .i64 b01]] w' fun e w'' => e = .returned (.agg #[.int .i64 a10, .int .i64 b10]) ∧ ∃ x : Later w', w'' = x.out) (c01 : ∀ w', Calls Try.prog 73 #[.agg #[.int .i64 a01, .int .i64 b01], .agg #[.int .i64 a02, .int .i64 b02]] w' fun e w'' => e = .returned (.agg #[.int .i64 a11, .int .i64 b11]) ∧ ∃ x : Later w', w'' = x.out) (c02 : ∀ w', Calls Try.prog 73 #[.agg #[.int .i64 a02, .int .i64 b02], .agg #[.int .i64 a03, .int .i64 b03]] w' fun e w'' => e = .returned (.agg #[.int .i64 a12, .int .i64 b12]) ∧ ∃ x : Later w', w'' = x.out) (c10 : ∀ w', Calls Try.prog 73 #[.agg #[.int .i64 a10, .int .i64 b10], .agg #[.int .i64 a11, .int .i64 b11]] w' fun e w'' => e = .returned (.agg #[.int .i64 a20, .int .i64 b20]) ∧ ∃ x : Later w', w'' = x.out) (c11 : ∀ w', Calls Try.prog 73 #[.agg #[.int .i64 a11, .int .i64 b11], .agg #[.int .i64 a12, .int .i64 b12]] w' fun e w'' => e = .returned (.agg #[.int .i64 a21, .int .i64 b21]) ∧ ∃ x : Later w', w'' = x.out) (c20 : ∀ w', Calls Try.prog 73 #[.agg #[.int .i64 a20, .int .i64 b20], .agg #[.int .i64 a21, .int .i64 b21]] w' fun e w'' => e = .returned (.agg #[.int .i64 a30, .int .i64 b30]) ∧ ∃ x : Later w', w'' = x.out)
    (hBW : B ≤ W.heap.size) (hs : Blk W Bs 26 #[.int .i64 a00, .int .i64 b00, .int .i64 a01, .int .i64 b01, .int .i64 a02, .int .i64 b02, .int .i64 a03, .int .i64 b03, .int .i64 4]) (hb : Blk W Bb 47 #[.func (.func 73) #[] #[]]) (h0 : J 0 W) :
    CallsIn Fence.wide 3 Try.prog 85 #[.func (.yield l) #[] #[], .pointer (some ⟨Bs, 0, none⟩), .pointer (some ⟨Bb, 0, none⟩)] W fun e W' => (∃ v, e = .returned v) ∧ J 4 W' := by
  have jl : ∀ (s : Nat) (V : World) (x : Later V), J s V → J s x.out := fun s V x h => hJ _ _ _ none h (Later.grown' x) (fun r e => by cases e)
  have js : ∀ (s : Nat) (V : World) (i : Nat) (v : Value), J s V → J s (V.setCell ⟨W.heap.size, i, none⟩ v) := fun s V i v h => hJ _ _ _ _ h (grown_setCell _ _ i v) (fun r e => by cases e; exact Nat.le_refl _)
  have j0 : J 0 (W.alloc (.cells #[.int .i64 a00, .int .i64 b00, .int .i64 a01, .int .i64 b01, .int .i64 a02, .int .i64 b02, .int .i64 a03, .int .i64 b03] 24)) := hJ _ _ _ none h0 (grown_alloc _ _) (fun r e => by cases e)
  have r0 : Blk (W.alloc (.cells #[.int .i64 a00, .int .i64 b00, .int .i64 a01, .int .i64 b01, .int .i64 a02, .int .i64 b02, .int .i64 a03, .int .i64 b03] 24)) W.heap.size 24 #[.int .i64 a00, .int .i64 b00, .int .i64 a01, .int .i64 b01, .int .i64 a02, .int .i64 b02, .int .i64 a03, .int .i64 b03] := Blk.new _ _ _
  have s0 := hs.alloc (.cells #[.int .i64 a00, .int .i64 b00, .int .i64 a01, .int .i64 b01, .int .i64 a02, .int .i64 b02, .int .i64 a03, .int .i64 b03] 24)
  have b0 := hb.alloc (.cells #[.int .i64 a00, .int .i64 b00, .int .i64 a01, .int .i64 b01, .int .i64 a02, .int .i64 b02, .int .i64 a03, .int .i64 b03] 24)
  have hsB := hs.lt
  have hbB := hb.lt
  have y0 := hY 0 _ _ rfl j0
  simp only [encP] at y0
  have HY := Lib.hid hY
  have HJL := Lib.hid jl
  have HJS := Lib.hid js
  have Hc00 := Lib.hid c00; clear c00
  have Hc01 := Lib.hid c01; clear c01
  have Hc02 := Lib.hid c02; clear c02
  have Hc10 := Lib.hid c10; clear c10
  have Hc11 := Lib.hid c11; clear c11
  have Hc20 := Lib.hid c20; clear c20
  have Hr0 := Lib.hid r0
  have Hs0 := Lib.hid s0
  have Hb0 := Lib.hid b0
  have HBW := Lib.hid hBW
  obtain ⟨hs1, hs2, hs3⟩ := hs.all
  clear hY hJ jl js j0 r0 s0 b0 hb h0 hs hBW
  refine callsIn_of_wp Try.func85 rfl trivial ?_ rfl
  simp only [Try.ntmps85, List.size_toArray, List.length_cons, List.length_nil, Nat.reduceAdd, Nat.reduceSub, Array.replicate_succ, Array.replicate_zero, List.push_toArray, List.append_toArray, List.nil_append, List.cons_append]
  gi_wp2
  clear hs1 hs2 hs3
  refine wpIn_loop_rounds 5 ?_
  -- round 0
  obtain ⟨fn0, tmps0, assign0, body0, hy0, hR0⟩ := y0
  rw [roundsIn_succ]
  gi_wp2
  refine hR0.mono ?_
  rintro e W0 ⟨rfl, hJ0, hK0⟩
  clear hy0 hR0
  have q0 : Blk W0 W.heap.size 24 #[.int .i64 a00, .int .i64 b00, .int .i64 a01, .int .i64 b01, .int .i64 a02, .int .i64 b02, .int .i64 a03, .int .i64 b03] := hK0.2 _ _ HBW.out Hr0.out rfl
  have t0 : Blk W0 Bs 26 #[.int .i64 a00, .int .i64 b00, .int .i64 a01, .int .i64 b01, .int .i64 a02, .int .i64 b02, .int .i64 a03, .int .i64 b03, .int .i64 4] := Hs0.out.heap (hK0.1 _ (by simp))
  have v0 : Blk W0 Bb 47 #[.func (.func 73) #[] #[]] := Hb0.out.heap (hK0.1 _ (by simp))
  skip
  have HJ0 := Lib.hid hJ0
  have Hq0 := Lib.hid q0
  have Ht0 := Lib.hid t0
  have Hv0 := Lib.hid v0
  obtain ⟨f1, f2, f3⟩ := q0.all
  obtain ⟨g1, g2, g3⟩ := v0.all
  clear hJ0 hK0 q0 t0 v0
  gi_wp2
  refine wpIn_loop_rounds 4 ?_
  rw [roundsIn_succ]
  gi_wp2
  refine wpIn_wide.2 ?_
  refine wp_region_later_tail 11 (by kernel_rfl) (by kernel_rfl) ?_
  simp only [List.take_succ_cons, List.take_zero, List.drop_succ_cons, List.drop_zero]
  repeat (go_big_quiet_step ((first | (go_at_call 73; with_reducible exact Later.call _ (Hc00.out _)))))
  refine wpQuiet_nil ?_
  intro x00
  go_wp2
  gi_wp2
  rw [roundsIn_succ]
  gi_wp2
  refine wpIn_wide.2 ?_
  refine wp_region_later_tail 11 (by kernel_rfl) (by kernel_rfl) ?_
  simp only [List.take_succ_cons, List.take_zero, List.drop_succ_cons, List.drop_zero]
  repeat (go_big_quiet_step ((first | (go_at_call 73; with_reducible exact Later.call _ (Hc01.out _)))))
  refine wpQuiet_nil ?_
  intro x01
  go_wp2
  gi_wp2
  rw [roundsIn_succ]
  gi_wp2
  refine wpIn_wide.2 ?_
  refine wp_region_later_tail 11 (by kernel_rfl) (by kernel_rfl) ?_
  simp only [List.take_succ_cons, List.take_zero, List.drop_succ_cons, List.drop_zero]
  repeat (go_big_quiet_step ((first | (go_at_call 73; with_reducible exact Later.call _ (Hc02.out _)))))
  refine wpQuiet_nil ?_
  intro x02
  go_wp2
  gi_wp2
  rw [roundsIn_succ]
  gi_wp2
  have j1 := HJS.out _ _ 5 (.int .i64 b12) (HJS.out _ _ 4 (.int .i64 a12) (HJL.out _ _ x02 (HJS.out _ _ 3 (.int .i64 b11) (HJS.out _ _ 2 (.int .i64 a11) (HJL.out _ _ x01 (HJS.out _ _ 1 (.int .i64 b10) (HJS.out _ _ 0 (.int .i64 a10) (HJL.out _ _ x00 (HJ0.out)))))))))
  have r1 := (((Blk.later ((((Blk.later ((((Blk.later (Hq0.out) x00).set 0 (.int .i64 a10)).set 1 (.int .i64 b10))) x01).set 2 (.int .i64 a11)).set 3 (.int .i64 b11))) x02).set 4 (.int .i64 a12)).set 5 (.int .i64 b12))
  simp only [List.setIfInBounds_toArray, List.set_cons_zero, List.set_cons_succ] at r1
  have s1 := (((Blk.later ((((Blk.later ((((Blk.later (Ht0.out) x00).other 0 (.int .i64 a10) (Nat.ne_of_lt hsB)).other 1 (.int .i64 b10) (Nat.ne_of_lt hsB))) x01).other 2 (.int .i64 a11) (Nat.ne_of_lt hsB)).other 3 (.int .i64 b11) (Nat.ne_of_lt hsB))) x02).other 4 (.int .i64 a12) (Nat.ne_of_lt hsB)).other 5 (.int .i64 b12) (Nat.ne_of_lt hsB))
  have b1 := (((Blk.later ((((Blk.later ((((Blk.later (Hv0.out) x00).other 0 (.int .i64 a10) (Nat.ne_of_lt hbB)).other 1 (.int .i64 b10) (Nat.ne_of_lt hbB))) x01).other 2 (.int .i64 a11) (Nat.ne_of_lt hbB)).other 3 (.int .i64 b11) (Nat.ne_of_lt hbB))) x02).other 4 (.int .i64 a12) (Nat.ne_of_lt hbB)).other 5 (.int .i64 b12) (Nat.ne_of_lt hbB))
  have y1 := HY.out 1 _ _ rfl j1
  simp only [encP] at y1
  clear f1 f2 f3 g1 g2 g3
  generalize hV1 : (World.setCell (World.setCell x02.out ⟨W.heap.size, 4, none⟩ (.int .i64 a12)) ⟨W.heap.size, 5, none⟩ (.int .i64 b12)) = V1 at r1 s1 b1 y1 ⊢
  clear hV1
  obtain ⟨f1, f2, f3⟩ := r1.all
  have Hr1 := Lib.hid r1
  have Hs1 := Lib.hid s1
  have Hb1 := Lib.hid b1
  clear j1 r1 s1 b1
  -- round 1
  obtain ⟨fn1, tmps1, assign1, body1, hy1, hR1⟩ := y1
  rw [roundsIn_succ]
  gi_wp2
  refine hR1.mono ?_
  rintro e W1 ⟨rfl, hJ1, hK1⟩
  clear hy1 hR1
  have q1 : Blk W1 W.heap.size 24 #[.int .i64 a10, .int .i64 b10, .int .i64 a11, .int .i64 b11, .int .i64 a12, .int .i64 b12, .int .i64 a03, .int .i64 b03] := hK1.2 _ _ HBW.out Hr1.out rfl
  have t1 : Blk W1 Bs 26 #[.int .i64 a00, .int .i64 b00, .int .i64 a01, .int .i64 b01, .int .i64 a02, .int .i64 b02, .int .i64 a03, .int .i64 b03, .int .i64 4] := Hs1.out.heap (hK1.1 _ (by simp))
  have v1 : Blk W1 Bb 47 #[.func (.func 73) #[] #[]] := Hb1.out.heap (hK1.1 _ (by simp))
  clear f1 f2 f3
  have HJ1 := Lib.hid hJ1
  have Hq1 := Lib.hid q1
  have Ht1 := Lib.hid t1
  have Hv1 := Lib.hid v1
  obtain ⟨f1, f2, f3⟩ := q1.all
  obtain ⟨g1, g2, g3⟩ := v1.all
  clear hJ1 hK1 q1 t1 v1
  gi_wp2
  refine wpIn_loop_rounds 3 ?_
  rw [roundsIn_succ]
  gi_wp2
  refine wpIn_wide.2 ?_
  refine wp_region_later_tail 11 (by kernel_rfl) (by kernel_rfl) ?_
  simp only [List.take_succ_cons, List.take_zero, List.drop_succ_cons, List.drop_zero]
  repeat (go_big_quiet_step ((first | (go_at_call 73; with_reducible exact Later.call _ (Hc10.out _)))))
  refine wpQuiet_nil ?_
  intro x10
  go_wp2
  gi_wp2
  rw [roundsIn_succ]
  gi_wp2
  refine wpIn_wide.2 ?_
  refine wp_region_later_tail 11 (by kernel_rfl) (by kernel_rfl) ?_
  simp only [List.take_succ_cons, List.take_zero, List.drop_succ_cons, List.drop_zero]
  repeat (go_big_quiet_step ((first | (go_at_call 73; with_reducible exact Later.call _ (Hc11.out _)))))
  refine wpQuiet_nil ?_
  intro x11
  go_wp2
  gi_wp2
  rw [roundsIn_succ]
  gi_wp2
  have j2 := HJS.out _ _ 3 (.int .i64 b21) (HJS.out _ _ 2 (.int .i64 a21) (HJL.out _ _ x11 (HJS.out _ _ 1 (.int .i64 b20) (HJS.out _ _ 0 (.int .i64 a20) (HJL.out _ _ x10 (HJ1.out))))))
  have r2 := (((Blk.later ((((Blk.later (Hq1.out) x10).set 0 (.int .i64 a20)).set 1 (.int .i64 b20))) x11).set 2 (.int .i64 a21)).set 3 (.int .i64 b21))
  simp only [List.setIfInBounds_toArray, List.set_cons_zero, List.set_cons_succ] at r2
  have s2 := (((Blk.later ((((Blk.later (Ht1.out) x10).other 0 (.int .i64 a20) (Nat.ne_of_lt hsB)).other 1 (.int .i64 b20) (Nat.ne_of_lt hsB))) x11).other 2 (.int .i64 a21) (Nat.ne_of_lt hsB)).other 3 (.int .i64 b21) (Nat.ne_of_lt hsB))
  have b2 := (((Blk.later ((((Blk.later (Hv1.out) x10).other 0 (.int .i64 a20) (Nat.ne_of_lt hbB)).other 1 (.int .i64 b20) (Nat.ne_of_lt hbB))) x11).other 2 (.int .i64 a21) (Nat.ne_of_lt hbB)).other 3 (.int .i64 b21) (Nat.ne_of_lt hbB))
  have y2 := HY.out 2 _ _ rfl j2
  simp only [encP] at y2
  clear f1 f2 f3 g1 g2 g3
  generalize hV2 : (World.setCell (World.setCell x11.out ⟨W.heap.size, 2, none⟩ (.int .i64 a21)) ⟨W.heap.size, 3, none⟩ (.int .i64 b21)) = V2 at r2 s2 b2 y2 ⊢
  clear hV2
  obtain ⟨f1, f2, f3⟩ := r2.all
  have Hr2 := Lib.hid r2
  have Hs2 := Lib.hid s2
  have Hb2 := Lib.hid b2
  clear j2 r2 s2 b2
  -- round 2
  obtain ⟨fn2, tmps2, assign2, body2, hy2, hR2⟩ := y2
  rw [roundsIn_succ]
  gi_wp2
  refine hR2.mono ?_
  rintro e W2 ⟨rfl, hJ2, hK2⟩
  clear hy2 hR2
  have q2 : Blk W2 W.heap.size 24 #[.int .i64 a20, .int .i64 b20, .int .i64 a21, .int .i64 b21, .int .i64 a12, .int .i64 b12, .int .i64 a03, .int .i64 b03] := hK2.2 _ _ HBW.out Hr2.out rfl
  have t2 : Blk W2 Bs 26 #[.int .i64 a00, .int .i64 b00, .int .i64 a01, .int .i64 b01, .int .i64 a02, .int .i64 b02, .int .i64 a03, .int .i64 b03, .int .i64 4] := Hs2.out.heap (hK2.1 _ (by simp))
  have v2 : Blk W2 Bb 47 #[.func (.func 73) #[] #[]] := Hb2.out.heap (hK2.1 _ (by simp))
  clear f1 f2 f3
  have HJ2 := Lib.hid hJ2
  have Hq2 := Lib.hid q2
  have Ht2 := Lib.hid t2
  have Hv2 := Lib.hid v2
  obtain ⟨f1, f2, f3⟩ := q2.all
  obtain ⟨g1, g2, g3⟩ := v2.all
  clear hJ2 hK2 q2 t2 v2
  gi_wp2
  refine wpIn_loop_rounds 2 ?_
  rw [roundsIn_succ]
  gi_wp2
  refine wpIn_wide.2 ?_
  refine wp_region_later_tail 11 (by kernel_rfl) (by kernel_rfl) ?_
  simp only [List.take_succ_cons, List.take_zero, List.drop_succ_cons, List.drop_zero]
  repeat (go_big_quiet_step ((first | (go_at_call 73; with_reducible exact Later.call _ (Hc20.out _)))))
  refine wpQuiet_nil ?_
  intro x20
  go_wp2
  gi_wp2
  rw [roundsIn_succ]
  gi_wp2
  have j3 := HJS.out _ _ 1 (.int .i64 b30) (HJS.out _ _ 0 (.int .i64 a30) (HJL.out _ _ x20 (HJ2.out)))
  have r3 := (((Blk.later (Hq2.out) x20).set 0 (.int .i64 a30)).set 1 (.int .i64 b30))
  simp only [List.setIfInBounds_toArray, List.set_cons_zero, List.set_cons_succ] at r3
  have s3 := (((Blk.later (Ht2.out) x20).other 0 (.int .i64 a30) (Nat.ne_of_lt hsB)).other 1 (.int .i64 b30) (Nat.ne_of_lt hsB))
  have b3 := (((Blk.later (Hv2.out) x20).other 0 (.int .i64 a30) (Nat.ne_of_lt hbB)).other 1 (.int .i64 b30) (Nat.ne_of_lt hbB))
  have y3 := HY.out 3 _ _ rfl j3
  simp only [encP] at y3
  clear f1 f2 f3 g1 g2 g3
  generalize hV3 : (World.setCell (World.setCell x20.out ⟨W.heap.size, 0, none⟩ (.int .i64 a30)) ⟨W.heap.size, 1, none⟩ (.int .i64 b30)) = V3 at r3 s3 b3 y3 ⊢
  clear hV3
  obtain ⟨f1, f2, f3⟩ := r3.all
  have Hr3 := Lib.hid r3
  have Hs3 := Lib.hid s3
  have Hb3 := Lib.hid b3
  clear j3 r3 s3 b3
  -- round 3
  obtain ⟨fn3, tmps3, assign3, body3, hy3, hR3⟩ := y3
  rw [roundsIn_succ]
  gi_wp2
  refine hR3.mono ?_
  rintro e W3 ⟨rfl, hJ3, hK3⟩
  clear hy3 hR3
  have q3 : Blk W3 W.heap.size 24 #[.int .i64 a30, .int .i64 b30, .int .i64 a21, .int .i64 b21, .int .i64 a12, .int .i64 b12, .int .i64 a03, .int .i64 b03] := hK3.2 _ _ HBW.out Hr3.out rfl
  have t3 : Blk W3 Bs 26 #[.int .i64 a00, .int .i64 b00, .int .i64 a01, .int .i64 b01, .int .i64 a02, .int .i64 b02, .int .i64 a03, .int .i64 b03, .int .i64 4] := Hs3.out.heap (hK3.1 _ (by simp))
  have v3 : Blk W3 Bb 47 #[.func (.func 73) #[] #[]] := Hb3.out.heap (hK3.1 _ (by simp))
  clear f1 f2 f3
  have HJ3 := Lib.hid hJ3
  have Hq3 := Lib.hid q3
  have Ht3 := Lib.hid t3
  have Hv3 := Lib.hid v3
  obtain ⟨f1, f2, f3⟩ := q3.all
  obtain ⟨g1, g2, g3⟩ := v3.all
  clear hJ3 hK3 q3 t3 v3
  gi_wp2
  refine wpIn_loop_rounds 1 ?_
  rw [roundsIn_succ]
  gi_wp2
  rw [roundsIn_succ]
  gi_wp2
  refine ⟨fun f h => (by cases h), ?_⟩
  gi_wp2
  go_end0
  exact ⟨⟨_, rfl⟩, HJ3.out⟩

theorem rowsMid_4_seq (a00 a01 a02 a03 a10 a11 a12 a20 a21 a30 b00 b01 b02 b03 b10 b11 b12 b20 b21 b30 : Int) (Bs Bb : Nat) (w : World)
    (c00 : ∀ w', Calls Try.prog 73 #[.agg #[.int .i64 a00, .int .i64 b00], .agg #[.int .i64 a01, .int .i64 b01]] w' fun e w'' => e = .returned (.agg #[.int .i64 a10, .int .i64 b10]) ∧ ∃ x : Later w', w'' = x.out) (c01 : ∀ w', Calls Try.prog 73 #[.agg #[.int .i64 a01, .int .i64 b01], .agg #[.int .i64 a02, .int .i64 b02]] w' fun e w'' => e = .returned (.agg #[.int .i64 a11, .int .i64 b11]) ∧ ∃ x : Later w', w'' = x.out) (c02 : ∀ w', Calls Try.prog 73 #[.agg #[.int .i64 a02, .int .i64 b02], .agg #[.int .i64 a03, .int .i64 b03]] w' fun e w'' => e = .returned (.agg #[.int .i64 a12, .int .i64 b12]) ∧ ∃ x : Later w', w'' = x.out) (c10 : ∀ w', Calls Try.prog 73 #[.agg #[.int .i64 a10, .int .i64 b10], .agg #[.int .i64 a11, .int .i64 b11]] w' fun e w'' => e = .returned (.agg #[.int .i64 a20, .int .i64 b20]) ∧ ∃ x : Later w', w'' = x.out) (c11 : ∀ w', Calls Try.prog 73 #[.agg #[.int .i64 a11, .int .i64 b11], .agg #[.int .i64 a12, .int .i64 b12]] w' fun e w'' => e = .returned (.agg #[.int .i64 a21, .int .i64 b21]) ∧ ∃ x : Later w', w'' = x.out) (c20 : ∀ w', Calls Try.prog 73 #[.agg #[.int .i64 a20, .int .i64 b20], .agg #[.int .i64 a21, .int .i64 b21]] w' fun e w'' => e = .returned (.agg #[.int .i64 a30, .int .i64 b30]) ∧ ∃ x : Later w', w'' = x.out)
    (hs : Blk w Bs 26 #[.int .i64 a00, .int .i64 b00, .int .i64 a01, .int .i64 b01, .int .i64 a02, .int .i64 b02, .int .i64 a03, .int .i64 b03, .int .i64 4]) (hb : Blk w Bb 47 #[.func (.func 73) #[] #[]]) :
    SeqIdx Fence.wide 3 Try.prog 85 #[.pointer (some ⟨Bs, 0, none⟩), .pointer (some ⟨Bb, 0, none⟩)] encP (KeepsTop w.heap.size [Bs, Bb]) [(4, #[.int .i64 a00, .int .i64 b00, .int .i64 a01, .int .i64 b01, .int .i64 a02, .int .i64 b02, .int .i64 a03, .int .i64 b03]), (3, #[.int .i64 a10, .int .i64 b10, .int .i64 a11, .int .i64 b11, .int .i64 a12, .int .i64 b12, .int .i64 a03, .int .i64 b03]), (2, #[.int .i64 a20, .int .i64 b20, .int .i64 a21, .int .i64 b21, .int .i64 a12, .int .i64 b12, .int .i64 a03, .int .i64 b03]), (1, #[.int .i64 a30, .int .i64 b30, .int .i64 a21, .int .i64 b21, .int .i64 a12, .int .i64 b12, .int .i64 a03, .int .i64 b03])] w :=
  fun l J W hW hJ hY h0 => rowsMid_4 a00 a01 a02 a03 a10 a11 a12 a20 a21 a30 b00 b01 b02 b03 b10 b11 b12 b20 b21 b30 Bs Bb w.heap.size l J W hJ hY c00 c01 c02 c10 c11 c20 hW.size (hs.below hW hs.lt) (hb.below hW hb.lt) h0

end Go.Proofs.Ytcdnekhpeghkiaa

/-
  The chords of a chain: what the iterator yields.
-/
import Derived.Test.YtcdnekhpeghkiaaKC
import Derived.Test.YtcdnekhpeghkiaaCG
namespace Go.Proofs.Ytcdnekhpeghkiaa
set_option linter.unusedVariables false
open Go.RowKit Go.Shelf
attribute [local go_sem] Oper.semAt_some

theorem grownL {w : World} (x : Later w) : w.grownBy x.out none := ⟨x.below.os, x.below.tape, x.below.output, x.below.size, fun k hk _ => x.below.block k hk⟩
theorem grownA (W : World) (o : Obj) : W.grownBy (W.alloc o) none := ⟨rfl, rfl, rfl, by simp, fun k hk _ => Below.heap_alloc W o k hk⟩
theorem KeepsAll.refl (Bl : List Nat) (W : World) : KeepsAll Bl W W := fun _ _ => rfl
theorem wpIn_region_pick0 {P : Program} {n : Nat} {w : World} {id : Nat} {Q : Exit → Act → World → Prop} {a : Act} {l : List Oper} (hs ts : List Nat) (hm : P.follows .mixedOrders = true) (hB : pickB l.toArray hs ts = true) (hsz : (hs ++ ts).length = l.length) (hnd : noDefer l = true)
    (hh : wpQuiet P l.toArray (fun w' => ∃ x : Later w, w' = x.out) (fun a' => ∀ x : Later w, wpListIn Fence.wide n P l.toArray Q (pick l ts) a' x.out) (pick l hs) a) : (Code.region id l.toArray true).wpIn Fence.wide n P Q a w :=
  wpWide_region_pick (ro := none) hs ts hm hB hsz hnd hh

/-- these points lie in block b, from o on -/
structure PtsB (W : World) (b o : Nat) (pts : List (Int × Int)) : Prop where
  lt : b < W.heap.size
  cell : ∀ (i : Nat) (p : Int × Int), pts[i]? = some p → W.cell? ⟨b, o + i * 2, none⟩ = some (.int .i64 p.1) ∧ W.cell? ⟨b, o + i * 2 + 1, none⟩ = some (.int .i64 p.2)
theorem PtsB.heap {W W' : World} {b o : Nat} {pts : List (Int × Int)} (h : PtsB W b o pts) (k : W'.heap[b]? = W.heap[b]?) : PtsB W' b o pts := by
  have hl : b < W'.heap.size := by
    rw [Array.getElem?_eq_getElem h.lt] at k
    exact (Array.getElem?_eq_some_iff.1 k).1
  refine ⟨hl, fun i p hp => ?_⟩
  obtain ⟨h1, h2⟩ := h.cell i p hp
  exact ⟨(World.cell?_of_block (a := ⟨b, o + i * 2, none⟩) k).trans h1, (World.cell?_of_block (a := ⟨b, o + i * 2 + 1, none⟩) k).trans h2⟩
theorem PtsB.below {W W' : World} {b o B : Nat} {pts : List (Int × Int)} (h : PtsB W b o pts) (k : Below B W W') (hb : b < B) : PtsB W' b o pts := h.heap (k.block b hb)
theorem PtsB.later {W : World} {b o : Nat} {pts : List (Int × Int)} (h : PtsB W b o pts) (x : Later W) : PtsB x.out b o pts := h.below x.below h.lt
/-- the chords -/
def chds (cl : Bool) (pts : List (Int × Int)) : List ((Int × Int) × (Int × Int)) := (List.range (mch cl pts)).map fun i => (cor pts i, cor pts (i + 1))
theorem chds_len (cl : Bool) (pts : List (Int × Int)) : (chds cl pts).length = mch cl pts := by simp [chds]
theorem chds_at (cl : Bool) (pts : List (Int × Int)) (k : Nat) (h : k < mch cl pts) : (chds cl pts)[k]? = some (cor pts k, cor pts (k + 1)) := by
  unfold chds
  rw [List.getElem?_map, List.getElem?_range h]
  rfl
theorem chds_is {cl : Bool} {pts : List (Int × Int)} {k : Nat} {x : (Int × Int) × (Int × Int)} (h : (chds cl pts)[k]? = some x) : k < mch cl pts ∧ x = (cor pts k, cor pts (k + 1)) := by
  have hk : k < mch cl pts := by
    have := (List.getElem?_eq_some_iff.1 h).1
    rwa [chds_len] at this
  rw [chds_at cl pts k hk] at h
  exact ⟨hk, (Option.some.inj h).symm⟩
def encC (x : (Int × Int) × (Int × Int)) : Array Value := #[.agg #[.int .i64 x.1.1, .int .i64 x.1.2], .agg #[.int .i64 x.2.1, .int .i64 x.2.2]]
set_option maxHeartbeats 400000 in
theorem chords_c (sv : Value) (cl : Bool) (w : World) : Calls Try.prog 40 #[.agg #[sv, .bool cl]] w fun e w' => e = .returned (.func (.func 58) #[] #[.pointer (some ⟨w.heap.size, 0, none⟩)]) ∧ w' = w.alloc (.cells #[sv, .bool cl] 36) := by
  go_enter Try.func40, Try.ntmps40
  go_wp2
  go_ret
  exact ⟨rfl, rfl⟩
set_option maxRecDepth 100000 in
set_option maxHeartbeats 2000000 in
theorem chords_run (cl : Bool) (pts : List (Int × Int)) (Bc Bp o n c l : Nat) (J : Nat → World → Prop) (W : World) (hn : pts.length = n) (n1 : 1 ≤ n) (n9 : n ≤ 100) (hc : n ≤ c)
    (hJ : ∀ (k : Nat) (A B : World), J k A → A.grownBy B none → J k B)
    (hY : ∀ k x W1, (chds cl pts)[k]? = some x → J k W1 → YieldAt Fence.wide 2 Try.prog l (encC x) W1 fun e W' => e = .returned (.bool true) ∧ J (k + 1) W' ∧ KeepsAll [Bc, Bp] W1 W')
    (hb : Blk W Bc 36 #[.slice (some ⟨Bp, o, none⟩) n c, .bool cl]) (hp : PtsB W Bp o pts) (h0 : J 0 W) :
    CallsIn Fence.wide 3 Try.prog 58 #[.func (.yield l) #[] #[], .pointer (some ⟨Bc, 0, none⟩)] W fun e W' => (∃ v, e = .returned v) ∧ J (mch cl pts) W' := by
  have hmc : mch cl pts = if cl = true ∧ 1 < n then n else n - 1 := by unfold mch; rw [hn]
  have HMC := Lib.hid hmc
  have HN := Lib.hid hn
  have HJ := Lib.hid hJ
  have HY := Lib.hid hY
  have HB := Lib.hid hb
  have HP := Lib.hid hp
  have H0 := Lib.hid h0
  obtain ⟨b1, b2, b3⟩ := hb.all
  clear hn hJ hY hb hp h0 hmc
  generalize hM : mch cl pts = M at *
  have HMM := Lib.hid hM
  clear hM
  refine callsIn_of_wp Try.func58 rfl trivial ?_ rfl
  simp only [Try.ntmps58, List.size_toArray, List.length_cons, List.length_nil, Nat.reduceAdd, Nat.reduceSub, Array.replicate_succ, Array.replicate_zero, List.push_toArray, List.append_toArray, List.nil_append, List.cons_append]
  gi_wp2
  clear b1 b2 b3
  gi_loopw [8] (fun u wr => ∃ k : Nat, k ≤ n ∧ u = .int .i64 k ∧ Hid (J (min k M) wr) ∧ Hid (KeepsAll [Bc, Bp] W wr)) (fun u _ => n - (intOf u).toNat)
  case atStart => exact ⟨0, by omega, rfl, Lib.hid (by simpa using H0.out), Lib.hid (KeepsAll.refl _ _)⟩
  case round =>
    obtain ⟨k, hk, rfl, hJk, hK⟩ := hrel
    by_cases hlt : k < n
    · have hbk := HB.out.heap (hK.out Bc (by simp))
      have hpk := HP.out.heap (hK.out Bp (by simp))
      obtain ⟨q0, q1⟩ := hpk.cell k _ (cor_at pts k (by rw [HN.out]; exact hlt))
      obtain ⟨b1, b2, b3⟩ := hbk.all
      have p3 := hpk.lt
      have hd : decide (k < n) = true := by simp [hlt]
      by_cases h2 : k + 1 < n
      · obtain ⟨q2, q3⟩ := hpk.cell (k + 1) _ (cor_at pts (k + 1) (by rw [HN.out]; exact h2))
        obtain ⟨K, hKK⟩ : ∃ K, K = k + 1 := ⟨_, rfl⟩
        rw [← hKK] at q2 q3 h2
        have hm : k < M := by rw [HMC.out]; split <;> omega
        have hyk := fun W1 => HY.out k _ W1 (chds_at cl pts k (by rw [HMM.out]; exact hm))
        rw [← hKK] at hyk
        have HYK := Lib.hid hyk
        have HKK := Lib.hid hKK
        have e1 : (k : Int) + 1 = (K : Int) := by omega
        have hbk' := Lib.hid hbk
        have hpk' := Lib.hid hpk
        generalize cor pts k = p at *
        generalize cor pts K = q at *
        obtain ⟨p0, p1⟩ := p
        obtain ⟨z0, z1⟩ := q
        simp only [] at q0 q1 q2 q3
        clear hbk hpk hyk hKK
        gi_wp2
        refine wpIn_region_pick0 [0, 1, 2, 3, 4, 5, 6, 7] [8, 9] (by kernel_rfl) (by kernel_rfl) (by kernel_rfl) (by kernel_rfl) ?_
        simp only [pick, List.getElem?_cons_zero, List.getElem?_cons_succ]
        repeat (go_big_quiet_step ((first | fail)))
        refine wpQuiet_nil ?_
        intro x
        have hj : J k x.out := HJ.out _ _ _ (HJ.out _ _ _ (by have h := hJk.out; rwa [Nat.min_eq_left (by omega)] at h) (grownA _ _)) (grownL x)
        obtain ⟨fn, tmps, assign, body, hy, hR⟩ := HYK.out x.out hj
        simp only [encC] at hy hR
        gi_wp2
        refine hR.mono ?_
        rintro e W3 ⟨rfl, hJ3, hk3⟩
        have hKL : KeepsAll [Bc, Bp] W W3 := (hK.out.trans (KeepsAll.below (B := wr.heap.size) (Later.after ((Below.refl _ wr).alloc (Nat.le_refl _) _) x) (fun b hb => by simp only [List.mem_cons, List.not_mem_nil, or_false] at hb; rcases hb with rfl | rfl <;> omega))).trans hk3
        clear b1 b2 b3 q0 q1 q2 q3 hy hR p3 hbk' hpk'
        have HJ3 := Lib.hid hJ3
        have HKL := Lib.hid hKL
        clear hJ3 hKL hk3 hj
        gi_wp2
        go_roundw
        case rel => exact ⟨k + 1, by omega, by go_num, Lib.hid (by have h := HJ3.out; rw [HKK.out] at h; rwa [Nat.min_eq_left (by omega)]), HKL⟩
        case measure => simp [intOf]; omega
      · have hd2 : decide (k + 1 < n) = false := by simp [h2]
        obtain ⟨q2, q3⟩ := hpk.cell 0 _ (cor_at pts 0 (by rw [HN.out]; omega))
        have kn : k + 1 = n := by omega
        have hn0 : cor pts (k + 1) = cor pts 0 := by rw [kn, ← HN.out]; exact cor_len pts
        have e1 : (k : Int) + 1 = (n : Int) := by omega
        simp only [Nat.zero_mul, Nat.add_zero] at q2 q3
        have hbk' := Lib.hid hbk
        have hpk' := Lib.hid hpk
        clear hbk hpk
        by_cases hcl : cl = true ∧ 1 < n
        · have hm : k < M := by rw [HMC.out, if_pos hcl]; omega
          have hk0 : (0 : Int) < k := by omega
          have hk1 : decide ((0 : Int) < k) = true := by simp; omega
          have hMn : M = n := by rw [HMC.out, if_pos hcl]
          have hyk := fun W1 => HY.out k _ W1 (chds_at cl pts k (by rw [HMM.out]; exact hm))
          rw [hn0] at hyk
          obtain ⟨rfl, hcl⟩ := hcl
          have HYK := Lib.hid hyk
          clear hyk hn0
          generalize cor pts k = p at *
          generalize cor pts 0 = q at *
          obtain ⟨p0, p1⟩ := p
          obtain ⟨z0, z1⟩ := q
          simp only [] at q0 q1 q2 q3
          gi_wp2
          refine wpIn_region_pick0 [0, 1, 2, 3, 4, 5] [6] (by kernel_rfl) (by kernel_rfl) (by kernel_rfl) (by kernel_rfl) ?_
          simp only [pick, List.getElem?_cons_zero, List.getElem?_cons_succ]
          repeat (go_big_quiet_step ((first | fail)))
          refine wpQuiet_nil ?_
          intro x
          have hj : J k x.out := HJ.out _ _ _ (HJ.out _ _ _ (by have h := hJk.out; rwa [Nat.min_eq_left (by omega)] at h) (grownA _ _)) (grownL x)
          obtain ⟨fn, tmps, assign, body, hy, hR⟩ := HYK.out x.out hj
          simp only [encC] at hy hR
          gi_wp2
          refine hR.mono ?_
          rintro e W3 ⟨rfl, hJ3, hk3⟩
          have hKL : KeepsAll [Bc, Bp] W W3 := (hK.out.trans (KeepsAll.below (B := wr.heap.size) (Later.after ((Below.refl _ wr).alloc (Nat.le_refl _) _) x) (fun b hb => by simp only [List.mem_cons, List.not_mem_nil, or_false] at hb; rcases hb with rfl | rfl <;> omega))).trans hk3
          clear b1 b2 b3 q0 q1 q2 q3 hy hR p3 hbk' hpk'
          have HJ3 := Lib.hid hJ3
          have HKL := Lib.hid hKL
          clear hJ3 hKL hk3 hj
          gi_wp2
          go_roundw
          case rel => exact ⟨k + 1, by omega, by go_num, Lib.hid (by have h := HJ3.out; rw [Nat.min_eq_left (by omega)]; exact h), HKL⟩
          case measure => simp [intOf]; omega
        · have hM1 : M = n - 1 := by rw [HMC.out, if_neg hcl]
          have hj : J (min (k + 1) M) (wr.alloc (.cells #[.int .i64 (cor pts k).1, .int .i64 (cor pts k).2] 23)) := HJ.out _ _ _ (by have h := hJk.out; rwa [show min k M = min (k + 1) M by omega] at h) (grownA _ _)
          have hKL : KeepsAll [Bc, Bp] W (wr.alloc (.cells #[.int .i64 (cor pts k).1, .int .i64 (cor pts k).2] 23)) := (hK.out.trans (KeepsAll.below (B := wr.heap.size) ((Below.refl _ wr).alloc (Nat.le_refl _) _) (fun b hb => by simp only [List.mem_cons, List.not_mem_nil, or_false] at hb; rcases hb with rfl | rfl <;> omega)))
          have hz : cl = false ∨ (cl = true ∧ (decide ((0 : Int) < k) = false ∧ decide (0 < k) = false)) := by
            cases cl
            · exact .inl rfl
            · refine .inr ⟨rfl, ?_⟩
              simp at hcl ⊢
              omega
          have HJ3 := Lib.hid hj
          have HKL := Lib.hid hKL
          clear hj hKL hcl hn0
          generalize cor pts k = p at *
          generalize cor pts 0 = q at *
          obtain ⟨p0, p1⟩ := p
          obtain ⟨z0, z1⟩ := q
          simp only [] at q0 q1 q2 q3
          rcases hz with rfl | ⟨rfl, hz, hz2⟩
          all_goals
            gi_wp2
            go_roundw
            case rel => exact ⟨k + 1, by omega, by go_num, HJ3, HKL⟩
            case measure => simp [intOf]; omega
    · obtain rfl : k = n := by omega
      have hM2 : min k M = M := by rw [HMC.out]; split <;> omega
      rw [hM2] at hJk
      gi_wp2
      go_end0
      exact ⟨⟨_, rfl⟩, hJk.out⟩
theorem chords_seq (cl : Bool) (pts : List (Int × Int)) (Bc Bp o n c : Nat) (w : World) (hn : pts.length = n) (n1 : 1 ≤ n) (n9 : n ≤ 100) (hc : n ≤ c)
    (hb : Blk w Bc 36 #[.slice (some ⟨Bp, o, none⟩) n c, .bool cl]) (hp : PtsB w Bp o pts) :
    SeqLst Fence.wide 3 Try.prog 58 #[.pointer (some ⟨Bc, 0, none⟩)] encC (KeepsAll [Bc, Bp]) (chds cl pts) w :=
  fun l J W hW hJ hY h0 => by
    rw [chds_len]
    exact chords_run cl pts Bc Bp o n c l J W hn n1 n9 hc hJ hY (hb.below hW hb.lt) (hp.below hW hp.lt) h0
end Go.Proofs.Ytcdnekhpeghkiaa

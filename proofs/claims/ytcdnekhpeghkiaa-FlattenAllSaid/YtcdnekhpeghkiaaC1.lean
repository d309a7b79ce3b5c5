/-
  The library's Compact, over a slice of points that the caller owns.
-/
import Derived.Test.YtcdnekhpeghkiaaT3
import Derived.Test.YtcdnekhpeghkiaaCP
import Derived.Lib.SliceRun
import Derived.Laws.OwnMore
import Derived.Lib.SmallJoins
namespace Go.Proofs.Ytcdnekhpeghkiaa
set_option linter.unusedVariables false
open Go.RowKit

theorem fl_at (l : List (Int × Int)) (i : Nat) (p : Int × Int) (h : l[i]? = some p) : (fl l)[i * 2]? = some (.int .i64 p.1) ∧ (fl l)[i * 2 + 1]? = some (.int .i64 p.2) := by
  induction l generalizing i with
  | nil => simp at h
  | cons q l ih =>
    cases i with
    | zero =>
      have : q = p := by simpa using h
      subst this
      exact ⟨rfl, rfl⟩
    | succ i =>
      have k := ih i (by simpa using h)
      rw [show (i + 1) * 2 = i * 2 + 1 + 1 by omega]
      exact k
theorem fl_len (l : List (Int × Int)) : (fl l).length = l.length * 2 := by
  induction l with
  | nil => rfl
  | cons q l ih => simp only [fl, List.flatMap_cons, List.length_append, List.length_cons, List.length_nil] at *; omega
theorem fl_set (l : List (Int × Int)) (i : Nat) (p : Int × Int) : ((fl l).set (i * 2) (.int .i64 p.1)).set (i * 2 + 1) (.int .i64 p.2) = fl (l.set i p) := by
  induction l generalizing i with
  | nil => simp [fl]
  | cons q l ih =>
    cases i with
    | zero => rfl
    | succ i =>
      have k := ih i
      rw [show (i + 1) * 2 = i * 2 + 1 + 1 by omega]
      show Value.int .i64 q.1 :: Value.int .i64 q.2 :: ((fl l).set (i * 2) _).set (i * 2 + 1) _ = _
      rw [k]
      rfl
theorem fl_take (l : List (Int × Int)) (k : Nat) : (fl l).take (k * 2) = fl (l.take k) := by
  induction l generalizing k with
  | nil => simp [fl]
  | cons q l ih =>
    cases k with
    | zero => simp [fl]
    | succ k =>
      rw [show (k + 1) * 2 = k * 2 + 1 + 1 by omega]
      show Value.int .i64 q.1 :: Value.int .i64 q.2 :: ((fl l).take (k * 2)) = _
      rw [ih k]
      rfl
/-- the caller's slice, as the loops see it -/
structure COwn (W : World) (base g n cap : Nat) (c : List (Int × Int)) (wr : World) : Prop where
  own : wr.ownsRow base 23 2 (.slice (some ⟨g, 0, none⟩) n cap) n (fl c)
  grown : W.grownBy wr (some g)
theorem COwn.len {W wr : World} {base g n cap : Nat} {c : List (Int × Int)} (h : COwn W base g n cap c wr) : c.length = n := by
  have := h.own.1
  rw [fl_len] at this
  omega
theorem COwn.lt {W wr : World} {base g n cap : Nat} {c : List (Int × Int)} (h : COwn W base g n cap c wr) : g < wr.heap.size := (h.own.lt g rfl).2
theorem COwn.cells {W wr : World} {base g n cap : Nat} {c : List (Int × Int)} (h : COwn W base g n cap c wr) (i : Nat) (p : Int × Int) (hp : c[i]? = some p) : wr.cell? ⟨g, i * 2, none⟩ = some (.int .i64 p.1) ∧ wr.cell? ⟨g, i * 2 + 1, none⟩ = some (.int .i64 p.2) := by
  have hi : i < c.length := (List.getElem?_eq_some_iff.1 hp).1
  rw [h.len] at hi
  rw [h.own.cellAt (i * 2) (by omega), h.own.cellAt (i * 2 + 1) (by omega)]
  exact fl_at c i p hp
theorem COwn.later {W wr : World} {base g n cap : Nat} {c : List (Int × Int)} (h : COwn W base g n cap c wr) (x : Later wr) : COwn W base g n cap c x.out :=
  ⟨own_later h.own x, ⟨x.below.os.trans h.grown.os, x.below.tape.trans h.grown.tape, x.below.output.trans h.grown.output, Nat.le_trans h.grown.size x.below.size, fun k hk hne => (x.below.block k (Nat.lt_of_lt_of_le hk h.grown.size)).trans (h.grown.block k hk hne)⟩⟩
theorem grown_two {W V X : World} {g : Nat} (h : W.grownBy V (some g)) (k : V.grownBy X (some g)) : W.grownBy X (some g) :=
  ⟨k.os.trans h.os, k.tape.trans h.tape, k.output.trans h.output, Nat.le_trans h.size k.size, fun j hj hne => (k.block j (Nat.lt_of_lt_of_le hj h.size) hne).trans (h.block j hj hne)⟩
theorem COwn.set {W wr : World} {base g n cap : Nat} {c : List (Int × Int)} (h : COwn W base g n cap c wr) (k : Nat) (p : Int × Int) :
    COwn W base g n cap (c.set k p) ((wr.setCell ⟨g, k * 2, none⟩ (.int .i64 p.1)).setCell ⟨g, k * 2 + 1, none⟩ (.int .i64 p.2)) := by
  have a := h.own.stored (k * 2) (.int .i64 p.1)
  have b := a.1.stored (k * 2 + 1) (.int .i64 p.2)
  rw [fl_set] at b
  exact ⟨b.1, grown_two h.grown (grown_two a.2 b.2)⟩
theorem own_setCells {base g n cap : Nat} : ∀ (vs : List Value) (o : Nat) (wr : World) (xs : List Value), wr.ownsRow base 23 2 (.slice (some ⟨g, 0, none⟩) n cap) n xs →
    ∃ ys, (wr.setCells g o vs).ownsRow base 23 2 (.slice (some ⟨g, 0, none⟩) n cap) n ys ∧ ys.take o = xs.take o
  | [], o, wr, xs, h => ⟨xs, h, rfl⟩
  | v :: r, o, wr, xs, h => by
    obtain ⟨ys, h1, h2⟩ := own_setCells r (o + 1) _ _ (h.stored o v).1
    refine ⟨ys, h1, ?_⟩
    have e := congrArg (List.take o) h2
    rw [List.take_take, List.take_take, Nat.min_eq_left (by omega), List.take_set_of_le (by omega)] at e
    exact e
theorem run_clear_pt (w : World) (ty : TypeId) (b o n c : Nat) (hn : 0 < n) (hc : ∀ j, j < n * 2 → (w.cell? ⟨b, o + j, none⟩).isSome = true) (hf : ∀ j, j < n * 2 → w.frozen? ⟨b, o + j, none⟩ = false) :
    (Builtin.clear_ #[30] ty #[.slice (some ⟨b, o, none⟩) n c]).run Try.prog w = .ok (.tuple #[]) (w.setCells b o (Builtin.zeroCells #[.int .i64 0, .int .i64 0] n).toList) := by
  have hv : ∀ w, (zeroValue 23).run Try.prog w = .ok (.agg #[.int .i64 0, .int .i64 0]) w := fun w => by kernel_rfl
  have hz : (Builtin.zeroCells #[Value.int .i64 0, .int .i64 0] n).toList.length = n * 2 := by rw [Array.length_toList, size_zeroCells]; rfl
  have h1 : ∀ v ∈ (Builtin.zeroCells #[Value.int .i64 0, .int .i64 0] n).toList, v.oneCell' = true := by
    intro v hv
    simp [Builtin.zeroCells] at hv
    obtain ⟨i, _, rfl⟩ := hv
    have : i % 2 = 0 ∨ i % 2 = 1 := by omega
    rcases this with e | e <;> simp [e, Value.oneCell']
  have hst := run_storeCells_cells (P := Try.prog) b o (Builtin.zeroCells #[Value.int .i64 0, .int .i64 0] n).toList 0 w (by rw [hz]; simpa using hc) (by rw [hz]; simpa using hf) h1
  simp only [Nat.add_zero] at hst
  obtain ⟨m, rfl⟩ : ∃ m, n = m + 1 := ⟨n - 1, by omega⟩
  simp [Builtin.clear_, run_underlying Try.underlying30, hv, Value.cells, hst]
theorem drop_get {c l : List (Int × Int)} {a i : Nat} (h : c.drop a = l.drop a) (hi : a ≤ i) : c[i]? = l[i]? := by
  have := congrArg (fun (x : List (Int × Int)) => x[i - a]?) h
  simp only [List.getElem?_drop] at this
  rwa [show a + (i - a) = i by omega] at this
theorem drop_more {c l : List (Int × Int)} {a b : Nat} (h : c.drop a = l.drop a) (hi : a ≤ b) : c.drop b = l.drop b := by
  have := congrArg (List.drop (b - a)) h
  rwa [List.drop_drop, List.drop_drop, show a + (b - a) = b by omega] at this
/-- the inner loop's state: the first K are done, from one ahead of place r on all is as it was -/
def CIn (l c : List (Int × Int)) (K r : Nat) : Prop := c.take K = cpt (l.take (r + 1)) ∧ c.drop r = l.drop r ∧ 1 ≤ K ∧ K ≤ r
theorem CIn.same {l c : List (Int × Int)} {K r : Nat} (h : CIn l c K r) {a b : Int × Int} (hr : r + 1 < l.length) (ha : l[r]? = some a) (hb : l[r + 1]? = some b) (e : a = b) : CIn l c K (r + 1) := by
  obtain ⟨h1, h2, h3, h4⟩ := h
  exact ⟨by rw [cpt_take l r hr a b ha hb, if_pos e]; exact h1, drop_more h2 (by omega), h3, by omega⟩
theorem CIn.put {l c : List (Int × Int)} {K r : Nat} (h : CIn l c K r) (hc : c.length = l.length) {a b : Int × Int} (hr : r + 1 < l.length) (ha : l[r]? = some a) (hb : l[r + 1]? = some b) (e : a ≠ b) : CIn l (c.set K b) (K + 1) (r + 1) := by
  obtain ⟨h1, h2, h3, h4⟩ := h
  refine ⟨?_, ?_, by omega, by omega⟩
  · rw [cpt_take l r hr a b ha hb, if_neg e, ← h1, List.take_add_one, List.take_set_of_le (Nat.le_refl _), List.getElem?_set_self (by omega)]
    rfl
  · rw [List.drop_set_of_lt (by omega)]
    exact drop_more h2 (by omega)
/-- what Compact hands back -/
def CRet (W : World) (base g cap : Nat) (l : List (Int × Int)) (e : Ending) (w' : World) : Prop :=
  e = .returned (.slice (some ⟨g, 0, none⟩) (cpt l).length cap) ∧ COwn W base g (cpt l).length cap (cpt l) w'
theorem own_take {w : World} {base g n m cap : Nat} {e : TypeId} {xs : List Value} (h : w.ownsRow base e 2 (.slice (some ⟨g, 0, none⟩) n cap) n xs) (hm : m ≤ n) : w.ownsRow base e 2 (.slice (some ⟨g, 0, none⟩) m cap) m (xs.take (m * 2)) := by
  obtain ⟨h1, h2⟩ := h
  refine ⟨by rw [List.length_take, h1]; omega, ?_⟩
  rcases h2 with ⟨h', _⟩ | ⟨g', cap', cur, h', hb, hg, hnc, hcm, hcs, htake⟩
  · simp at h'
  · simp only [Value.slice.injEq, Option.some.injEq, Addr.mk.injEq, and_true, true_and] at h'
    obtain ⟨rfl, rfl⟩ := h'
    refine .inr ⟨g, cap, cur, rfl, hb, hg, by omega, hcm, hcs, ?_⟩
    rw [← htake, List.take_take, Nat.min_eq_left (by omega)]


set_option maxRecDepth 100000 in
set_option maxHeartbeats 4000000 in
theorem compact_1 (W : World) (base g cap : Nat) (p : Int × Int) (h : W.ownsRow base 23 2 (.slice (some ⟨g, 0, none⟩) 1 cap) 1 (fl [p])) :
    Calls Try.prog 39 #[.slice (some ⟨g, 0, none⟩) 1 cap] W (CRet W base g cap [p]) := by
  have H := Lib.hid h
  clear h
  go_enter Try.func39, Try.ntmps39
  go_wp2
  go_ret
  exact ⟨rfl, H.out, ⟨rfl, rfl, rfl, Nat.le_refl _, fun _ _ _ => rfl⟩⟩

set_option maxRecDepth 100000 in
set_option maxHeartbeats 4000000 in
theorem compact_c (W : World) (base g n cap : Nat) (l : List (Int × Int)) (h : W.ownsRow base 23 2 (.slice (some ⟨g, 0, none⟩) n cap) n (fl l)) (h2 : 2 ≤ n) (h9 : n ≤ 1073741824) (hcap : n ≤ cap) (hc9 : cap ≤ maxLen) :
    Calls Try.prog 39 #[.slice (some ⟨g, 0, none⟩) n cap] W (CRet W base g cap l) := by
  have hO : COwn W base g n cap l W := ⟨h, ⟨rfl, rfl, rfl, Nat.le_refl _, fun _ _ _ => rfl⟩⟩
  have hlen := hO.len
  have HO := Lib.hid hO
  have HL := Lib.hid hlen
  clear h hO hlen
  unfold maxLen at hc9
  go_enter Try.func39, Try.ntmps39
  go_wp2
  go_loopw [3] (fun u wr => ∃ k : Nat, 1 ≤ k ∧ k ≤ n ∧ u = .int .i64 k ∧ Hid (cpt (l.take k) = l.take k) ∧ COwn W base g n cap l wr) (fun u _ => n - (intOf u).toNat)
  case atStart =>
    refine ⟨1, by omega, by omega, rfl, Lib.hid ?_, HO.out⟩
    have := HL.out
    match l, this with
    | [], h => simp at h; omega
    | a :: r, _ => rfl
  case round =>
    obtain ⟨k, hk1, hk, rfl, hpre, hW⟩ := hrel
    by_cases hlt : k < n
    · obtain ⟨m, rfl⟩ : ∃ m, k = m + 1 := ⟨k - 1, by omega⟩
      obtain ⟨⟨x, y⟩, e1⟩ : ∃ p, l[m]? = some p := ⟨_, List.getElem?_eq_getElem (by rw [HL.out]; omega)⟩
      obtain ⟨⟨p, q⟩, e2⟩ : ∃ p, l[m + 1]? = some p := ⟨_, List.getElem?_eq_getElem (by rw [HL.out]; omega)⟩
      have step := cpt_take l m (by rw [HL.out]; omega) _ _ e1 e2
      have f1 := hW.cells m _ e1
      have f2 := hW.cells (m + 1) _ e2
      have lg := hW.lt
      obtain ⟨M, hM⟩ : ∃ M, M = m + 1 := ⟨_, rfl⟩
      have em : ((m + 1 : Nat) : Int) = (M : Int) := by rw [hM]
      rw [em]
      rw [← hM] at f2 hk1 hk hlt
      have d1 : IntKind.i64.wrap ((M : Int) - 1) = (m : Int) := by rw [IntWalk.i64_in _ (by omega)]; omega
      have d2 : wrap64 ((M : Int) - 1) = (m : Int) := by unfold wrap64; omega
      have d3 : (M : Int) - 1 = (m : Int) := by omega
      have mn : m < n := by omega
      have m0 : (0 : Int) ≤ m := by omega
      have HW := Lib.hid hW
      have HS := Lib.hid step
      have HM := Lib.hid hM
      have HE1 := Lib.hid e1
      have HE2 := Lib.hid e2
      obtain ⟨f1, f1'⟩ := f1
      obtain ⟨f2, f2'⟩ := f2
      clear hW step hM em e1 e2
      by_cases hx : p = x
      · by_cases hy : q = y
        · subst hx
          subst hy
          go_wp2_with (fail)
          refine wp_region_later (by kernel_rfl) (by kernel_rfl) ?_
          repeat (go_big_quiet_step ((first | fail)))
          refine wpQuiet_nil ?_
          intro x
          go_wp2_with (fail)
          have e0 : cpt (l.take (m + 1 + 1)) = cpt (l.take (m + 1)) := by have e := HS.out; simpa using e
          have hM := HM.out
          have HIN : Hid (CIn l l M M) := Lib.hid ⟨by subst hM; rw [e0, hpre.out], rfl, by omega, by omega⟩
          have HWx := Lib.hid (HW.out.later x)
          clear hpre HS HW e0 hM f1 f1' f2 f2' d1 d2 d3 mn m0
          have hDn : M + (n - M) = n := by omega
          have hD1 : 1 ≤ n - M := by omega
          generalize n - M = D at hDn hD1 ⊢
          generalize cap - M = C2
          go_loopw [3, 5] (fun u v wr => ∃ (K J i : Nat) (c : List (Int × Int)), u = .int .i64 K ∧ v = .int .i64 J ∧ J = i + 1 ∧ J ≤ D ∧ Hid (CIn l c K (M + i)) ∧ COwn W base g n cap c wr) (fun _ v _ => D - (intOf v).toNat)
          case atStart => exact ⟨M, 1, 0, l, rfl, rfl, rfl, hD1, HIN, HWx.out⟩
          case round =>
            obtain ⟨K, J, i, c, rfl, rfl, hJ, hJD, hin, hW⟩ := hrel
            have hKl := hin.out.2.2.2
            have hK1 := hin.out.2.2.1
            by_cases hlt2 : J < D
            · obtain ⟨⟨x0, y0⟩, e1⟩ : ∃ p, l[M + i]? = some p := ⟨_, List.getElem?_eq_getElem (by rw [HL.out]; omega)⟩
              obtain ⟨⟨p0, q0⟩, e2⟩ : ∃ p, l[M + i + 1]? = some p := ⟨_, List.getElem?_eq_getElem (by rw [HL.out]; omega)⟩
              have f1 := hW.cells (M + i) _ ((drop_get hin.out.2.1 (Nat.le_refl _)).trans e1)
              have f2 := hW.cells (M + i + 1) _ ((drop_get hin.out.2.1 (by omega)).trans e2)
              rw [Nat.add_mul] at f1
              rw [Nat.add_assoc, ← hJ, Nat.add_mul] at f2
              obtain ⟨f1, f1'⟩ := f1
              obtain ⟨f2, f2'⟩ := f2
              have d1 : IntKind.i64.wrap ((J : Int) - 1) = (i : Int) := by rw [IntWalk.i64_in _ (by omega)]; omega
              have d2 : wrap64 ((J : Int) - 1) = (i : Int) := by unfold wrap64; omega
              have d3 : (J : Int) - 1 = (i : Int) := by omega
              have i0 : (0 : Int) ≤ i := by omega
              have iD : i < D := by omega
              have lg := hW.lt
              have hKn : K < n := by omega
              obtain ⟨⟨x9, y9⟩, e9⟩ : ∃ p, c[K]? = some p := ⟨_, List.getElem?_eq_getElem (by rw [hW.len]; exact hKn)⟩
              obtain ⟨f3, f3'⟩ := hW.cells K _ e9
              have fz := fun j => hW.own.frozenAt j
              clear e9
              have J9 : (J : Int) ≤ 1073741824 := by omega
              have K9 : (K : Int) ≤ 1073741824 := by omega
              have HW := Lib.hid hW
              have HJ := Lib.hid hJ
              have E1 := Lib.hid e1
              have E2 := Lib.hid e2
              clear hW hJ e1 e2
              by_cases hx : p0 = x0
              · by_cases hy : q0 = y0
                · subst hx
                  subst hy
                  go_wp2_with (fail)
                  refine wp_region_later (by kernel_rfl) (by kernel_rfl) ?_
                  repeat (go_big_quiet_step ((first | fail)))
                  refine wpQuiet_nil ?_
                  intro x
                  go_wp2_with (fail)
                  go_roundw
                  case rel => exact ⟨K, J + 1, J, c, rfl, by go_num, rfl, by omega, Lib.hid (by have hJ := HJ.out; rw [hJ]; exact hin.out.same (by rw [HL.out]; omega) E1.out E2.out rfl), HW.out.later x⟩
                  case measure => simp [intOf]; omega
                · have hy' : (q0 == y0) = false := by simp [hy]
                  have HN : Hid ((x0, y0) ≠ (p0, q0)) := Lib.hid (fun e => hy (congrArg Prod.snd e).symm)
                  subst hx
                  clear hy
                  go_wp2_with (fail)
                  refine wp_region_later (by kernel_rfl) (by kernel_rfl) ?_
                  repeat (go_big_quiet_step ((first | fail)))
                  refine wpQuiet_nil ?_
                  intro x
                  go_wp2_with (fail)
                  go_roundw
                  case rel => exact ⟨K + 1, J + 1, J, c.set K (p0, q0), by go_num, by go_num, rfl, by omega, Lib.hid (by have hJ := HJ.out; rw [hJ]; exact hin.out.put (by rw [HW.out.len, HL.out]) (by rw [HL.out]; omega) E1.out E2.out HN.out), (HW.out.later x).set K (p0, q0)⟩
                  case measure => simp [intOf]; omega
              · have hx' : (p0 == x0) = false := by simp [hx]
                have HN : Hid ((x0, y0) ≠ (p0, q0)) := Lib.hid (fun e => hx (congrArg Prod.fst e).symm)
                clear hx
                go_wp2_with (fail)
                refine wp_region_later (by kernel_rfl) (by kernel_rfl) ?_
                repeat (go_big_quiet_step ((first | fail)))
                refine wpQuiet_nil ?_
                intro x
                go_wp2_with (fail)
                go_roundw
                case rel => exact ⟨K + 1, J + 1, J, c.set K (p0, q0), by go_num, by go_num, rfl, by omega, Lib.hid (by have hJ := HJ.out; rw [hJ]; exact hin.out.put (by rw [HW.out.len, HL.out]) (by rw [HL.out]; omega) E1.out E2.out HN.out), (HW.out.later x).set K (p0, q0)⟩
                case measure => simp [intOf]; omega
            · obtain rfl : J = D := by omega
              have hKn : K < n := by omega
              have hlen := hW.len
              have hcl := run_clear_pt wr
              have hsome : ∀ j, j < (n - K) * 2 → (wr.cell? ⟨g, K * 2 + j, none⟩).isSome = true := fun j hj => by
                rw [hW.own.cellAt (K * 2 + j) (by omega), List.getElem?_eq_getElem (by rw [fl_len, hlen]; omega)]
                rfl
              have hc1 := fun ty => run_clear_pt wr ty g (K * 2) (n - K) (cap - K) (by omega) hsome (fun j _ => hW.own.frozenAt _)
              have HW := Lib.hid hW
              have HJ := Lib.hid hJ
              clear hW hJ hlen hsome hcl
              go_wp2_with (fail)
              go_ret
              obtain ⟨ys, o1, o2⟩ := own_setCells (Builtin.zeroCells #[.int .i64 0, .int .i64 0] (n - K)).toList (K * 2) wr _ HW.out.own
              have hl := HW.out.len
              have e : c.take K = cpt l := by
                have := hin.out.1
                rwa [show M + i + 1 = l.length by rw [HL.out]; have := HJ.out; omega, List.take_length] at this
              have eK : (cpt l).length = K := by rw [← e, List.length_take, hl]; omega
              have o3 := own_take o1 (m := K) (by omega)
              rw [o2, fl_take, e] at o3
              exact ⟨by rw [eK]; rfl, by rw [eK]; exact o3, grown_two HW.out.grown (setCells_grown g _ _ _)⟩
        · have hy' : (q == y) = false := by simp [hy]
          have HN : Hid ((x, y) ≠ (p, q)) := Lib.hid (fun e => hy (congrArg Prod.snd e).symm)
          subst hx
          clear hy
          go_wp2_with (fail)
          refine wp_region_later (by kernel_rfl) (by kernel_rfl) ?_
          repeat (go_big_quiet_step ((first | fail)))
          refine wpQuiet_nil ?_
          intro x
          go_wp2_with (fail)
          go_roundw
          case rel => exact ⟨M + 1, by omega, by omega, by go_num, Lib.hid (by have e := HS.out; rw [if_neg HN.out] at e; have hM := HM.out; subst hM; rw [e, hpre.out, List.take_add_one (i := m + 1), HE2.out]; rfl), HW.out.later x⟩
          case measure => simp [intOf]; omega
      · have hx' : (p == x) = false := by simp [hx]
        have HN : Hid ((x, y) ≠ (p, q)) := Lib.hid (fun e => hx (congrArg Prod.fst e).symm)
        clear hx
        go_wp2_with (fail)
        refine wp_region_later (by kernel_rfl) (by kernel_rfl) ?_
        repeat (go_big_quiet_step ((first | fail)))
        refine wpQuiet_nil ?_
        intro x
        go_wp2_with (fail)
        go_roundw
        case rel => exact ⟨M + 1, by omega, by omega, by go_num, Lib.hid (by have e := HS.out; rw [if_neg HN.out] at e; have hM := HM.out; subst hM; rw [e, hpre.out, List.take_add_one (i := m + 1), HE2.out]; rfl), HW.out.later x⟩
        case measure => simp [intOf]; omega
    · obtain rfl : k = n := by omega
      have HW := Lib.hid hW
      clear hW
      go_wp2_with (fail)
      go_ret
      have e : cpt l = l := by have := hpre.out; rwa [← HL.out, List.take_length] at this
      unfold CRet
      rw [e]
      exact ⟨by rw [HL.out]; rfl, by rw [HL.out]; exact HW.out⟩

/-- Compact over whatever row of its own the caller has, that is not empty -/
theorem compact_own (W : World) (base : Nat) (o : Value) (l : List (Int × Int)) (h : W.ownsRow base 23 2 o l.length (fl l)) (h1 : 1 ≤ l.length) (h9 : l.length ≤ 1073741824) :
    ∃ g cap, o = .slice (some ⟨g, 0, none⟩) l.length cap ∧ Calls Try.prog 39 #[o] W (CRet W base g cap l) := by
  obtain ⟨g, cap, rfl⟩ := Go.Joins.ownsRow_form h (by omega)
  refine ⟨g, cap, rfl, ?_⟩
  have hc : l.length ≤ cap ∧ cap ≤ maxLen := by
    rcases h.2 with ⟨h', _⟩ | ⟨g', cap', cur, h', _, _, hnc, hcm, _⟩
    · simp at h'
    · simp only [Value.slice.injEq] at h'
      obtain ⟨_, _, rfl⟩ := h'
      exact ⟨hnc, hcm⟩
  match l, h, h1, hc with
  | [p], h, _, _ => exact compact_1 W base g cap p h
  | p :: q :: r, h, _, hc => exact compact_c W base g _ cap (p :: q :: r) h (by simp) h9 hc.1 hc.2
end Go.Proofs.Ytcdnekhpeghkiaa

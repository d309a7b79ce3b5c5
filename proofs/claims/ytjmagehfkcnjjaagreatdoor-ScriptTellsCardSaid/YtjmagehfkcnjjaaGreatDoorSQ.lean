/-
  Rows of a text's own beside blocks; the check of a path.
-/
import Derived.Test.YtjmagehfkcnjjaaGreatDoorPathRow
import Derived.Test.YtjmagehfkcnjjaaGreatDoorKC
import Derived.Test.YtjmagehfkcnjjaaGreatDoorSW
import Derived.Test.YtjmagehfkcnjjaaGreatDoorSPL
import Derived.Laws.AppendOwn
import Derived.Laws.OwnMore
import Derived.OwnWalk
namespace Go.Proofs.YtjmagehfkcnjjaaGreatDoor
set_option linter.unusedVariables false
open Go.RowKit

theorem own_ne {W : World} {base size n : Nat} {e T : TypeId} {v : Value} {xs : List Value} {b : Nat} {c : Array Value} (h : W.ownsRow base e size v n xs) (hb : Blk W b T c) (hne : T ≠ e) : v.ownBlock ≠ some b := by
  rcases h.2 with ⟨rfl, _⟩ | ⟨g, cap, cur, rfl, _, hg, _⟩
  · intro k; cases k
  · intro k
    simp only [Value.ownBlock, Option.some.injEq] at k
    subst k
    unfold Blk at hb
    rw [hb] at hg
    simp only [Option.some.injEq, Obj.cells.injEq] at hg
    exact hne hg.2.1
theorem own_keeps {W W' : World} {base size n : Nat} {e : TypeId} {v : Value} {xs : List Value} (h : W.ownsRow base e size v n xs) (hg : W.grownBy W' v.ownBlock) : KeepsOthers W W' := by
  refine ⟨hg.size, fun k o hk ho => (hg.block k (Array.getElem?_eq_some_iff.1 hk).1 (fun e' => ?_)).trans hk⟩
  rcases h.2 with ⟨rfl, _⟩ | ⟨g, cap, cur, rfl, _, hgg, _⟩
  · cases e'
  · simp only [Value.ownBlock, Option.some.injEq] at e'
    subst e'
    rw [hgg] at hk
    obtain rfl := Option.some.inj hk
    cases ho
theorem Blk.apart {W W' : World} {b base size n : Nat} {e T : TypeId} {c : Array Value} {v : Value} {xs : List Value} (h : Blk W b T c) (ho : W.ownsRow base e size v n xs) (hne : T ≠ e) (hg : W.grownBy W' v.ownBlock) : Blk W' b T c :=
  (hg.block b h.lt (fun e' => own_ne ho h hne e'.symm)).trans h
theorem own_kept {W W' : World} {base size n : Nat} {e : TypeId} {v : Value} {xs : List Value} {row : Option Nat} (h : W.ownsRow base e size v n xs) (hg : W.grownBy W' row) (hr : ∀ r, row = some r → ∃ o : Obj, W.heap[r]? = some o ∧ o.isCells = false) : W'.ownsRow base e size v n xs := by
  refine h.kept hg ?_
  rcases h.2 with ⟨rfl, _⟩ | ⟨g, cap, cur, rfl, _, hgg, _⟩
  · exact .inl rfl
  · refine .inr (fun e' => ?_)
    obtain ⟨o, ho, hc⟩ := hr g e'.symm
    rw [hgg] at ho
    obtain rfl := Option.some.inj ho
    cases hc
theorem own_later {w : World} {base : Nat} {T : TypeId} {size n : Nat} {v : Value} {xs : List Value} (h : w.ownsRow base T size v n xs) (x : Later w) : x.out.ownsRow base T size v n xs :=
  h.kept (row := none) ⟨x.below.os, x.below.tape, x.below.output, x.below.size, fun k hk _ => x.below.block k hk⟩ (by cases v.ownBlock <;> simp)
theorem two_new (W : World) (T : TypeId) (p q : Value) : ∀ j u, ([p, q] : List Value)[j]? = some u → (W.alloc (.cells #[p, q] T)).cell? ((⟨W.heap.size, 0, none⟩ : Addr).add j) = some u := by
  intro j u h
  rw [Addr.add_mid, Nat.zero_add, (Blk.new W T #[p, q]).cell]
  simpa using h
theorem infoPt : ∃ i, Tryz.prog.info? 48 = some i ∧ i.zero = some (.agg #[.int .i64 0, .int .i64 0]) ∧ i.size = 2 ∧ i.bytes = 16 := by
  have h : (Tryz.prog.info? 48).map (fun i => (i.zero, i.size, i.bytes)) = some (some (.agg #[.int .i64 0, .int .i64 0]), 2, 16) := by kernel_rfl
  cases e : Tryz.prog.info? 48 with
  | none => rw [e] at h; cases h
  | some i =>
    rw [e] at h
    simp only [Option.map_some, Option.some.injEq, Prod.mk.injEq] at h
    exact ⟨i, rfl, h.1, h.2.1, h.2.2⟩
structure PtsB (W : World) (b o : Nat) (pts : List (Int × Int)) : Prop where
  lt : b < W.heap.size
  cell : ∀ (i : Nat) (p : Int × Int), pts[i]? = some p → W.cell? ⟨b, o + i * 2, none⟩ = some (.int .i64 p.1) ∧ W.cell? ⟨b, o + i * 2 + 1, none⟩ = some (.int .i64 p.2)
theorem PtsB.heap {W W' : World} {b o : Nat} {pts : List (Int × Int)} (h : PtsB W b o pts) (k : W'.heap[b]? = W.heap[b]?) : PtsB W' b o pts := by
  have hl : b < W'.heap.size := by
    rw [Array.getElem?_eq_getElem h.lt] at k
    exact (Array.getElem?_eq_some_iff.1 k).1
  refine ⟨hl, fun i p hp => ?_⟩
  obtain ⟨h1, h2⟩ := h.cell i p hp
  exact ⟨(World.cell?_of_block (a := ⟨b, o + i * 2, none⟩) k).trans h1, (World.cell?_of_block (a := ⟨b, o + i * 2 + 1, none⟩) k).trans h2⟩
theorem PtsB.below {W W' : World} {b o B : Nat} {pts : List (Int × Int)} (h : PtsB W b o pts) (k : Below B W W') (hb : b < B) : PtsB W' b o pts := h.heap (k.block b hb)
theorem PtsB.later {W : World} {b o : Nat} {pts : List (Int × Int)} (h : PtsB W b o pts) (x : Later W) : PtsB x.out b o pts := h.below x.below h.lt
theorem PtsAt.ptsB {w : World} {v : Value} {pts : List (Int × Int)} (h : PtsAt w v pts) (n1 : 1 ≤ pts.length) : ∃ b o c, v = .slice (some ⟨b, o, none⟩) pts.length c ∧ pts.length ≤ c ∧ c ≤ maxLen ∧ PtsB w b o pts := by
  rcases h with ⟨_, rfl⟩ | ⟨_, _, _, rfl⟩ | ⟨b, o, c, rfl, hb, hc, hm, hp⟩
  · simp at n1
  · simp at n1
  · exact ⟨b, o, c, rfl, hc, hm, hb, hp⟩
theorem keepsL {B : Nat} {W : World} (x : Later W) : KeepsFrom B W x.out := KeepsFrom.of_grownBy (grownL x) (fun j e => by cases e)


def nrB (n : Int) : Bool := decide (-268435456 ≤ n) && decide (n ≤ 268435456)
def fl (l : List (Int × Int)) : List Value := l.flatMap fun p => [.int .i64 p.1, .int .i64 p.2]
theorem fl_at (l : List (Int × Int)) (i : Nat) (p : Int × Int) (h : l[i]? = some p) : (fl l)[i * 2]? = some (.int .i64 p.1) ∧ (fl l)[i * 2 + 1]? = some (.int .i64 p.2) := by
  induction l generalizing i with
  | nil => simp at h
  | cons q l ih =>
    cases i with
    | zero =>
      have : q = p := by simpa using h
      subst this
      exact ⟨rfl, rfl⟩
    | succ i =>
      have k := ih i (by simpa using h)
      rw [show (i + 1) * 2 = i * 2 + 1 + 1 by omega]
      exact k
theorem fl_len (l : List (Int × Int)) : (fl l).length = l.length * 2 := by
  induction l with
  | nil => rfl
  | cons q l ih => simp only [fl, List.flatMap_cons, List.length_append, List.length_cons, List.length_nil] at *; omega
theorem fl_one (l : List (Int × Int)) (x : Value) (h : x ∈ fl l) : x.oneCell' = true := by
  unfold fl at h
  rw [List.mem_flatMap] at h
  obtain ⟨q, _, hq⟩ := h
  simp only [List.mem_cons, List.not_mem_nil, or_false] at hq
  rcases hq with rfl | rfl <;> rfl
theorem fl_append (a b : List (Int × Int)) : fl (a ++ b) = fl a ++ fl b := by unfold fl; rw [List.flatMap_append]

def tkV (v : Int) : Int := if v = 1 then 1 else if v = 2 then 1 else if v = 3 then 2 else if v = 4 then 3 else if v = 5 then 0 else -1


set_option maxRecDepth 100000 in
set_option maxHeartbeats 400000 in
theorem tk_lo (v : Int) (w : World)
    (h : v < 1) :
    Calls Tryz.prog 34 #[.int .i64 v] w fun e w' => e = .returned (.int .i64 (-1)) ∧ ∃ x : Later w, w' = x.out := by
  skip
  go_enter Tryz.func34, Tryz.ntmps34
  go_wp2_with (fail)
  exact bodyPost_ret (v := .int .i64 (-1)) (by simp [results, Tryz.results34, go_sem, *]) rfl ⟨rfl, (Later.mk_of (by repeat (first | (with_reducible assumption) | (with_reducible exact Below.refl _ _) | (with_reducible refine Later.after ?_ _) | (with_reducible refine Later.newer ?_ _) | (with_reducible refine Below.drew ?_) | (with_reducible refine Below.setCell ?_ (by first | exact Nat.le_refl _ | exact Nat.le_add_right _ _ | omega | (simp [go_sem]; done) | (simp [go_sem]; omega)) _))))⟩


set_option maxRecDepth 100000 in
set_option maxHeartbeats 400000 in
theorem tk_hi (v : Int) (w : World)
    (h : 5 < v) (d : decide (v < 1) = false) :
    Calls Tryz.prog 34 #[.int .i64 v] w fun e w' => e = .returned (.int .i64 (-1)) ∧ ∃ x : Later w, w' = x.out := by
  skip
  go_enter Tryz.func34, Tryz.ntmps34
  go_wp2_with (fail)
  exact bodyPost_ret (v := .int .i64 (-1)) (by simp [results, Tryz.results34, go_sem, *]) rfl ⟨rfl, (Later.mk_of (by repeat (first | (with_reducible assumption) | (with_reducible exact Below.refl _ _) | (with_reducible refine Later.after ?_ _) | (with_reducible refine Later.newer ?_ _) | (with_reducible refine Below.drew ?_) | (with_reducible refine Below.setCell ?_ (by first | exact Nat.le_refl _ | exact Nat.le_add_right _ _ | omega | (simp [go_sem]; done) | (simp [go_sem]; omega)) _))))⟩


set_option maxRecDepth 100000 in
set_option maxHeartbeats 400000 in
theorem tk_1  (w : World)
     :
    Calls Tryz.prog 34 #[.int .i64 1] w fun e w' => e = .returned (.int .i64 1) ∧ ∃ x : Later w, w' = x.out := by
  skip
  go_enter Tryz.func34, Tryz.ntmps34
  go_wp2_with (fail)
  exact bodyPost_ret (v := .int .i64 1) (by simp [results, Tryz.results34, go_sem, *]) rfl ⟨rfl, (Later.mk_of (by repeat (first | (with_reducible assumption) | (with_reducible exact Below.refl _ _) | (with_reducible refine Later.after ?_ _) | (with_reducible refine Later.newer ?_ _) | (with_reducible refine Below.drew ?_) | (with_reducible refine Below.setCell ?_ (by first | exact Nat.le_refl _ | exact Nat.le_add_right _ _ | omega | (simp [go_sem]; done) | (simp [go_sem]; omega)) _))))⟩


set_option maxRecDepth 100000 in
set_option maxHeartbeats 400000 in
theorem tk_2  (w : World)
     :
    Calls Tryz.prog 34 #[.int .i64 2] w fun e w' => e = .returned (.int .i64 1) ∧ ∃ x : Later w, w' = x.out := by
  skip
  go_enter Tryz.func34, Tryz.ntmps34
  go_wp2_with (fail)
  exact bodyPost_ret (v := .int .i64 1) (by simp [results, Tryz.results34, go_sem, *]) rfl ⟨rfl, (Later.mk_of (by repeat (first | (with_reducible assumption) | (with_reducible exact Below.refl _ _) | (with_reducible refine Later.after ?_ _) | (with_reducible refine Later.newer ?_ _) | (with_reducible refine Below.drew ?_) | (with_reducible refine Below.setCell ?_ (by first | exact Nat.le_refl _ | exact Nat.le_add_right _ _ | omega | (simp [go_sem]; done) | (simp [go_sem]; omega)) _))))⟩


set_option maxRecDepth 100000 in
set_option maxHeartbeats 400000 in
theorem tk_3  (w : World)
     :
    Calls Tryz.prog 34 #[.int .i64 3] w fun e w' => e = .returned (.int .i64 2) ∧ ∃ x : Later w, w' = x.out := by
  skip
  go_enter Tryz.func34, Tryz.ntmps34
  go_wp2_with (fail)
  exact bodyPost_ret (v := .int .i64 2) (by simp [results, Tryz.results34, go_sem, *]) rfl ⟨rfl, (Later.mk_of (by repeat (first | (with_reducible assumption) | (with_reducible exact Below.refl _ _) | (with_reducible refine Later.after ?_ _) | (with_reducible refine Later.newer ?_ _) | (with_reducible refine Below.drew ?_) | (with_reducible refine Below.setCell ?_ (by first | exact Nat.le_refl _ | exact Nat.le_add_right _ _ | omega | (simp [go_sem]; done) | (simp [go_sem]; omega)) _))))⟩


set_option maxRecDepth 100000 in
set_option maxHeartbeats 400000 in
theorem tk_4  (w : World)
     :
    Calls Tryz.prog 34 #[.int .i64 4] w fun e w' => e = .returned (.int .i64 3) ∧ ∃ x : Later w, w' = x.out := by
  skip
  go_enter Tryz.func34, Tryz.ntmps34
  go_wp2_with (fail)
  exact bodyPost_ret (v := .int .i64 3) (by simp [results, Tryz.results34, go_sem, *]) rfl ⟨rfl, (Later.mk_of (by repeat (first | (with_reducible assumption) | (with_reducible exact Below.refl _ _) | (with_reducible refine Later.after ?_ _) | (with_reducible refine Later.newer ?_ _) | (with_reducible refine Below.drew ?_) | (with_reducible refine Below.setCell ?_ (by first | exact Nat.le_refl _ | exact Nat.le_add_right _ _ | omega | (simp [go_sem]; done) | (simp [go_sem]; omega)) _))))⟩


set_option maxRecDepth 100000 in
set_option maxHeartbeats 400000 in
theorem tk_5  (w : World)
     :
    Calls Tryz.prog 34 #[.int .i64 5] w fun e w' => e = .returned (.int .i64 0) ∧ ∃ x : Later w, w' = x.out := by
  skip
  go_enter Tryz.func34, Tryz.ntmps34
  go_wp2_with (fail)
  exact bodyPost_ret (v := .int .i64 0) (by simp [results, Tryz.results34, go_sem, *]) rfl ⟨rfl, (Later.mk_of (by repeat (first | (with_reducible assumption) | (with_reducible exact Below.refl _ _) | (with_reducible refine Later.after ?_ _) | (with_reducible refine Later.newer ?_ _) | (with_reducible refine Below.drew ?_) | (with_reducible refine Below.setCell ?_ (by first | exact Nat.le_refl _ | exact Nat.le_add_right _ _ | omega | (simp [go_sem]; done) | (simp [go_sem]; omega)) _))))⟩


theorem tk_c (v : Int) (w : World) : Calls Tryz.prog 34 #[.int .i64 v] w fun e w' => e = .returned (.int .i64 (tkV v)) ∧ ∃ x : Later w, w' = x.out := by
  by_cases h0 : v < 1
  · rw [show tkV v = -1 by unfold tkV; rw [if_neg (by omega), if_neg (by omega), if_neg (by omega), if_neg (by omega), if_neg (by omega)]]
    exact tk_lo v w h0
  · by_cases h9 : 5 < v
    · rw [show tkV v = -1 by unfold tkV; rw [if_neg (by omega), if_neg (by omega), if_neg (by omega), if_neg (by omega), if_neg (by omega)]]
      exact tk_hi v w h9 (by simp; omega)
    · have : v = 1 ∨ v = 2 ∨ v = 3 ∨ v = 4 ∨ v = 5 := by omega
      rcases this with rfl | rfl | rfl | rfl | rfl
      · exact tk_1 w
      · exact tk_2 w
      · exact tk_3 w
      · exact tk_4 w
      · exact tk_5 w


set_option maxRecDepth 100000 in
set_option maxHeartbeats 400000 in
theorem pnr_yes (n : Int) (w : World)
    (h1 : -268435456 ≤ n) (h2 : n ≤ 268435456) :
    Calls Tryz.prog 64 #[.int .i64 n] w fun e w' => e = .returned (.bool true) ∧ ∃ x : Later w, w' = x.out := by
  skip
  go_enter Tryz.func64, Tryz.ntmps64
  go_wp2_with (fail)
  exact bodyPost_ret (v := .bool true) (by simp [results, Tryz.results64, go_sem, *]) rfl ⟨rfl, (Later.mk_of (by repeat (first | (with_reducible assumption) | (with_reducible exact Below.refl _ _) | (with_reducible refine Later.after ?_ _) | (with_reducible refine Later.newer ?_ _) | (with_reducible refine Below.drew ?_) | (with_reducible refine Below.setCell ?_ (by first | exact Nat.le_refl _ | exact Nat.le_add_right _ _ | omega | (simp [go_sem]; done) | (simp [go_sem]; omega)) _))))⟩


set_option maxRecDepth 100000 in
set_option maxHeartbeats 400000 in
theorem pnr_lo (n : Int) (w : World)
    (h1 : n < -268435456) :
    Calls Tryz.prog 64 #[.int .i64 n] w fun e w' => e = .returned (.bool false) ∧ ∃ x : Later w, w' = x.out := by
  skip
  go_enter Tryz.func64, Tryz.ntmps64
  go_wp2_with (fail)
  exact bodyPost_ret (v := .bool false) (by simp [results, Tryz.results64, go_sem, *]) rfl ⟨rfl, (Later.mk_of (by repeat (first | (with_reducible assumption) | (with_reducible exact Below.refl _ _) | (with_reducible refine Later.after ?_ _) | (with_reducible refine Later.newer ?_ _) | (with_reducible refine Below.drew ?_) | (with_reducible refine Below.setCell ?_ (by first | exact Nat.le_refl _ | exact Nat.le_add_right _ _ | omega | (simp [go_sem]; done) | (simp [go_sem]; omega)) _))))⟩


set_option maxRecDepth 100000 in
set_option maxHeartbeats 400000 in
theorem pnr_hi (n : Int) (w : World)
    (h1 : -268435456 ≤ n) (h2 : 268435456 < n) :
    Calls Tryz.prog 64 #[.int .i64 n] w fun e w' => e = .returned (.bool false) ∧ ∃ x : Later w, w' = x.out := by
  skip
  go_enter Tryz.func64, Tryz.ntmps64
  go_wp2_with (fail)
  exact bodyPost_ret (v := .bool false) (by simp [results, Tryz.results64, go_sem, *]) rfl ⟨rfl, (Later.mk_of (by repeat (first | (with_reducible assumption) | (with_reducible exact Below.refl _ _) | (with_reducible refine Later.after ?_ _) | (with_reducible refine Later.newer ?_ _) | (with_reducible refine Below.drew ?_) | (with_reducible refine Below.setCell ?_ (by first | exact Nat.le_refl _ | exact Nat.le_add_right _ _ | omega | (simp [go_sem]; done) | (simp [go_sem]; omega)) _))))⟩


theorem pnr_c (n : Int) (w : World) : Calls Tryz.prog 64 #[.int .i64 n] w fun e w' => e = .returned (.bool (nrB n)) ∧ ∃ x : Later w, w' = x.out := by
  unfold nrB
  by_cases h1 : -268435456 ≤ n
  · by_cases h2 : n ≤ 268435456
    · simpa [h1, h2] using pnr_yes n w h1 h2
    · simpa [h1, h2] using pnr_hi n w h1 (by omega)
  · simpa [h1] using pnr_lo n w (by omega)
def farB (p : Int × Int) : Bool := !nrB p.1 || !nrB p.2


set_option maxRecDepth 100000 in
set_option maxHeartbeats 400000 in
theorem far_1 (p q : Int) (w : World)
    (c1 : ∀ w', Calls Tryz.prog 64 #[.int .i64 p] w' fun e w'' => e = .returned (.bool false) ∧ ∃ x : Later w', w'' = x.out) :
    Calls Tryz.prog 63 #[.agg #[.int .i64 p, .int .i64 q]] w fun e w' => e = .returned (.bool true) ∧ ∃ x : Later w, w' = x.out := by
  have Hc1 := Lib.hid c1; clear c1
  go_enter Tryz.func63, Tryz.ntmps63
  go_wp2_with (first | (go_at_call 64; (with_reducible refine (Hc1.out _).mono ?_); rintro e _ ⟨rfl, x, rfl⟩))
  exact bodyPost_ret (v := .bool true) (by simp [results, Tryz.results63, go_sem, *]) rfl ⟨rfl, (Later.mk_of (by repeat (first | (with_reducible assumption) | (with_reducible exact Below.refl _ _) | (with_reducible refine Later.after ?_ _) | (with_reducible refine Later.newer ?_ _) | (with_reducible refine Below.drew ?_) | (with_reducible refine Below.setCell ?_ (by first | exact Nat.le_refl _ | exact Nat.le_add_right _ _ | omega | (simp [go_sem]; done) | (simp [go_sem]; omega)) _))))⟩


set_option maxRecDepth 100000 in
set_option maxHeartbeats 400000 in
theorem far_2 (p q : Int) (b : Bool) (w : World)
    (c1 : ∀ w', Calls Tryz.prog 64 #[.int .i64 p] w' fun e w'' => e = .returned (.bool true) ∧ ∃ x : Later w', w'' = x.out) (c2 : ∀ w', Calls Tryz.prog 64 #[.int .i64 q] w' fun e w'' => e = .returned (.bool b) ∧ ∃ x : Later w', w'' = x.out) :
    Calls Tryz.prog 63 #[.agg #[.int .i64 p, .int .i64 q]] w fun e w' => e = .returned (.bool (!b)) ∧ ∃ x : Later w, w' = x.out := by
  have Hc1 := Lib.hid c1; clear c1
  have Hc2 := Lib.hid c2; clear c2
  go_enter Tryz.func63, Tryz.ntmps63
  go_wp2_with (first | (go_at_call 64; (with_reducible refine (Hc1.out _).mono ?_); rintro e _ ⟨rfl, x, rfl⟩) | (go_at_call 64; (with_reducible refine (Hc2.out _).mono ?_); rintro e _ ⟨rfl, x, rfl⟩))
  exact bodyPost_ret (v := .bool (!b)) (by simp [results, Tryz.results63, go_sem, *]) rfl ⟨rfl, (Later.mk_of (by repeat (first | (with_reducible assumption) | (with_reducible exact Below.refl _ _) | (with_reducible refine Later.after ?_ _) | (with_reducible refine Later.newer ?_ _) | (with_reducible refine Below.drew ?_) | (with_reducible refine Below.setCell ?_ (by first | exact Nat.le_refl _ | exact Nat.le_add_right _ _ | omega | (simp [go_sem]; done) | (simp [go_sem]; omega)) _))))⟩


theorem far_c (p q : Int) (w : World) : Calls Tryz.prog 63 #[.agg #[.int .i64 p, .int .i64 q]] w fun e w' => e = .returned (.bool (farB (p, q))) ∧ ∃ x : Later w, w' = x.out := by
  have c1 := fun v => pnr_c p v
  have c2 := fun v => pnr_c q v
  unfold farB
  cases e : nrB p
  · rw [e] at c1
    simpa [e] using far_1 p q w c1
  · rw [e] at c1
    simpa [e] using far_2 p q (nrB q) w c1 c2
theorem ptsAt_form {W : World} {v : Value} {l : List (Int × Int)} (h : PtsAt W v l) : ∃ a c, v = .slice a l.length c := by
  rcases h with ⟨rfl, rfl⟩ | ⟨a, c, rfl, rfl⟩ | ⟨b, o, c, rfl, _⟩ <;> exact ⟨_, _, rfl⟩
theorem ptsAt_le {W : World} {v : Value} {l : List (Int × Int)} (h : PtsAt W v l) : l.length ≤ maxLen := by
  rcases h with ⟨h1, rfl⟩ | ⟨a, c, h1, rfl⟩ | ⟨b, o, c, h1, _, h2, h3, _⟩
  · simp
  · simp
  · omega
/-- the first point that is too far away -/
def farI : List (Int × Int) → Nat → Int
  | [], _ => -1
  | p :: r, i => if farB p then i else farI r (i + 1)
theorem farI_any : ∀ (l : List (Int × Int)) (i : Nat), decide (0 ≤ farI l i) = l.any farB
  | [], i => rfl
  | p :: r, i => by
    unfold farI
    rw [List.any_cons]
    cases e : farB p
    · simpa using farI_any r (i + 1)
    · simp
set_option maxRecDepth 100000 in
set_option maxHeartbeats 2000000 in
theorem idx_c (l : List (Int × Int)) (sv : Value) (w : World) (h : PtsAt w sv l) : Calls Tryz.prog 93 #[sv, .func (.func 63) #[] #[]] w fun e w' => e = .returned (.int .i64 (farI l 0)) ∧ ∃ x : Later w, w' = x.out := by
  obtain ⟨av, cv, hsv⟩ := ptsAt_form h
  have hl9 := ptsAt_le h
  unfold maxLen at hl9
  obtain ⟨n, hn⟩ : ∃ n, l.length = n := ⟨_, rfl⟩
  rw [hn] at hsv hl9
  subst hsv
  have H := Lib.hid h
  have HN := Lib.hid hn
  clear h hn
  go_enter Tryz.func93, Tryz.ntmps93
  go_wp2
  go_loopw [8] (fun u wr => ∃ k : Nat, k ≤ n ∧ u = .int .i64 k ∧ Hid (farI l 0 = farI (l.drop k) k) ∧ ∃ y : Later w, wr = y.out) (fun u _ => n - (intOf u).toNat)
  case atStart => exact ⟨0, by omega, rfl, Lib.hid rfl, ⟨w, Below.refl _ _⟩, rfl⟩
  case round =>
    obtain ⟨k, hk, rfl, hpre, y, rfl⟩ := hrel
    by_cases hlt : k < n
    · have hd : decide (k < n) = true := by simp [hlt]
      obtain ⟨⟨p0, p1⟩, hp0⟩ : ∃ p, l[k]? = some p := ⟨_, List.getElem?_eq_getElem (by rw [HN.out]; exact hlt)⟩
      obtain ⟨Bp, o, c, hv, hc, hm, hp⟩ := H.out.ptsB (by rw [HN.out]; omega)
      rw [HN.out] at hv hc
      simp only [Value.slice.injEq, true_and] at hv
      obtain ⟨rfl, rfl⟩ := hv
      obtain ⟨q0, q1⟩ := hp.cell k _ hp0
      have lp := hp.lt
      simp only [] at q0 q1
      have hdr : l.drop k = (p0, p1) :: l.drop (k + 1) := by
        obtain ⟨hk', e⟩ := List.getElem?_eq_some_iff.1 hp0
        rw [List.drop_eq_getElem_cons hk', e]
      have hf := fun v => far_c p0 p1 v
      have HDR := Lib.hid hdr
      cases e : farB (p0, p1)
      · rw [e] at hf
        have HF := Lib.hid hf
        have HE := Lib.hid e
        clear hf hp0 hp hdr e
        go_wp2_with (first | (go_at_call 63; (with_reducible refine (HF.out _).mono ?_); rintro e _ ⟨rfl, x, rfl⟩))
        go_roundw
        case rel => exact ⟨k + 1, by omega, by go_num, Lib.hid (by rw [hpre.out, HDR.out, farI, if_neg (by rw [HE.out]; simp)]), ⟨x.out, y.below.trans (x.below.mono y.below.size)⟩, rfl⟩
        case measure => simp [intOf]; omega
      · rw [e] at hf
        have HF := Lib.hid hf
        have hr : farI l 0 = k := by rw [hpre.out, hdr]; unfold farI; rw [e]; rfl
        have HR := Lib.hid hr
        clear hf hp0 hp hdr e hr
        go_wp2_with (first | (go_at_call 63; (with_reducible refine (HF.out _).mono ?_); rintro e _ ⟨rfl, x, rfl⟩))
        exact bodyPost_ret (v := .int .i64 k) (by simp [results, Tryz.results93, go_sem, *]) rfl ⟨by rw [HR.out], (Later.mk_of (by repeat (first | (with_reducible assumption) | (with_reducible exact Below.refl _ _) | (with_reducible refine Later.after ?_ _) | (with_reducible refine Later.newer ?_ _) | (with_reducible refine Below.drew ?_) | (with_reducible refine Below.setCell ?_ (by first | exact Nat.le_refl _ | exact Nat.le_add_right _ _ | omega | (simp [go_sem]; done) | (simp [go_sem]; omega)) _))))⟩
    · obtain rfl : k = n := by omega
      have hr : farI l 0 = -1 := by rw [hpre.out, List.drop_of_length_le (by rw [HN.out]; exact Nat.le_refl _)]; rfl
      have HR := Lib.hid hr
      clear hr
      go_wp2_with (fail)
      exact bodyPost_ret (v := .int .i64 (-1)) (by simp [results, Tryz.results93, go_sem, *]) rfl ⟨by rw [HR.out], (Later.mk_of (by repeat (first | (with_reducible assumption) | (with_reducible exact Below.refl _ _) | (with_reducible refine Later.after ?_ _) | (with_reducible refine Later.newer ?_ _) | (with_reducible refine Below.drew ?_) | (with_reducible refine Below.setCell ?_ (by first | exact Nat.le_refl _ | exact Nat.le_add_right _ _ | omega | (simp [go_sem]; done) | (simp [go_sem]; omega)) _))))⟩
set_option maxHeartbeats 400000 in
theorem cont_c (l : List (Int × Int)) (sv : Value) (w : World) (h : PtsAt w sv l) : Calls Tryz.prog 62 #[sv, .func (.func 63) #[] #[]] w fun e w' => e = .returned (.bool (l.any farB)) ∧ ∃ x : Later w, w' = x.out := by
  have hc := fun w' h' => idx_c l sv w' h'
  rw [← farI_any l 0]
  generalize farI l 0 = z at *
  have HC := Lib.hid hc
  have H := Lib.hid h
  clear hc h
  go_enter Tryz.func62, Tryz.ntmps62
  go_wp2_with (first | (go_at_call 93; (with_reducible refine (HC.out _ H.out).mono ?_); rintro e _ ⟨rfl, x, rfl⟩))
  exact bodyPost_ret (v := .bool (decide (0 ≤ z))) (by simp [results, Tryz.results62, go_sem, *]) rfl ⟨rfl, (Later.mk_of (by repeat (first | (with_reducible assumption) | (with_reducible exact Below.refl _ _) | (with_reducible refine Later.after ?_ _) | (with_reducible refine Later.newer ?_ _) | (with_reducible refine Below.drew ?_) | (with_reducible refine Below.setCell ?_ (by first | exact Nat.le_refl _ | exact Nat.le_add_right _ _ | omega | (simp [go_sem]; done) | (simp [go_sem]; omega)) _))))⟩

/-- what is left of the points behind these verbs, or why they are no path -/
def chkL : List Int → Int → Int → Except Int Int
  | [], left, _ => .ok left
  | v :: r, left, b => if tkV v < 0 then .error 1 else if b = 5 ∧ v ≠ 1 then .error 70 else chkL r (left - tkV v) v
def chk (vs : List Int) (pts : List (Int × Int)) : Int :=
  if 512 < vs.length then 74 else
    match chkL vs pts.length 5 with
    | .error e => e
    | .ok left => if left ≠ 0 then 71 else if pts.any farB then 72 else 0
theorem tkV_lo (v : Int) : -1 ≤ tkV v := by unfold tkV; repeat (first | split | omega)
theorem tkV_hi (v : Int) : tkV v ≤ 3 := by unfold tkV; repeat (first | split | omega)
theorem ptsAt_under {w w' : World} {B : Nat} {v : Value} {pts : List (Int × Int)} (h : PtsAt w v pts) (k : Below B w w') (hB : w.heap.size ≤ B) : PtsAt w' v pts := by
  rcases h with h | h | ⟨b, o, c, rfl, hb, hc, hm, hp⟩
  · exact .inl h
  · exact .inr (.inl h)
  · refine .inr (.inr ⟨b, o, c, rfl, ?_, hc, hm, fun i p hi => ?_⟩)
    · have := k.block b (by omega)
      rw [Array.getElem?_eq_getElem hb] at this
      exact (Array.getElem?_eq_some_iff.1 this).1
    · obtain ⟨h1, h2⟩ := hp i p hi
      exact ⟨(k.cell (p := ⟨b, o + i * 2, none⟩) (by show b < B; omega)).trans h1, (k.cell (p := ⟨b, o + i * 2 + 1, none⟩) (by show b < B; omega)).trans h2⟩
set_option maxRecDepth 100000 in
set_option maxHeartbeats 400000 in
theorem check_many (vs : List Int) (n : Nat) (av : Option Addr) (cv : Nat) (sv : Value) (w : World) (h : 512 < n) (h9 : n ≤ maxLen) :
    Calls Tryz.prog 33 #[.agg #[.slice av n cv, sv]] w fun e w' => e = .returned (.int .i64 74) ∧ ∃ x : Later w, w' = x.out := by
  have hd : decide (512 < n) = true := by simp [h]
  unfold maxLen at h9
  go_enter Tryz.func33, Tryz.ntmps33
  go_wp2_with (fail)
  exact bodyPost_ret (v := .int .i64 74) (by simp [results, Tryz.results33, go_sem, *]) rfl ⟨rfl, (Later.mk_of (by repeat (first | (with_reducible assumption) | (with_reducible exact Below.refl _ _) | (with_reducible refine Later.after ?_ _) | (with_reducible refine Later.newer ?_ _) | (with_reducible refine Below.drew ?_) | (with_reducible refine Below.setCell ?_ (by first | exact Nat.le_refl _ | exact Nat.le_add_right _ _ | omega | (simp [go_sem]; done) | (simp [go_sem]; omega)) _))))⟩


set_option maxRecDepth 100000 in
set_option maxHeartbeats 4000000 in
theorem check_in (vs : List Int) (pts : List (Int × Int)) (n m : Nat) (av ap : Option Addr) (cv cp : Nat) (w : World) (hn : vs.length = n) (hm : pts.length = m) (h : n ≤ 512)
    (hv : IntsAt w (.slice av n cv) vs) (hp : PtsAt w (.slice ap m cp) pts) :
    Calls Tryz.prog 33 #[.agg #[.slice av n cv, .slice ap m cp]] w fun e w' => e = .returned (.int .i64 (chk vs pts)) ∧ ∃ x : Later w, w' = x.out := by
  have hm9 := ptsAt_le hp
  rw [hm] at hm9
  unfold maxLen at hm9
  have hd : decide (512 < n) = false := by simp; omega
  have HC : Hid (chk vs pts = match chkL vs m 5 with | .error e => e | .ok left => if left ≠ 0 then 71 else if pts.any farB then 72 else 0) := Lib.hid (by unfold chk; rw [if_neg (by omega), hm])
  have HV := Lib.hid hv
  have HP := Lib.hid hp
  have HN := Lib.hid hn
  clear hv hp hn hm
  go_enter Tryz.func33, Tryz.ntmps33
  go_wp2_with (fail)
  go_loopw [3, 4, 18] (fun u3 u4 u wr => ∃ (k : Nat) (left b : Int), k ≤ n ∧ u = .int .i64 k ∧ u3 = .int .i64 left ∧ u4 = .int .i64 b ∧ -(3 * k) ≤ left ∧ left ≤ m ∧ Hid (chkL vs m 5 = chkL (vs.drop k) left b) ∧ Blk wr w.heap.size 31 #[.slice av n cv, .slice ap m cp] ∧ Below w.heap.size w wr) (fun _ _ u _ => n - (intOf u).toNat)
  case atStart => exact ⟨0, m, 5, by omega, rfl, rfl, rfl, by omega, by omega, Lib.hid rfl, Blk.new _ _ _, (by repeat (first | (with_reducible exact Below.refl _ _) | (with_reducible refine Later.newer ?_ _)))⟩
  case round =>
    obtain ⟨k, left, b, hk, rfl, rfl, rfl, hl0, hl9, hpre, hb, hB⟩ := hrel
    have f0 : wr.cell? ⟨w.heap.size, 0, none⟩ = some (.slice av n cv) := by rw [hb.cell]; rfl
    have f1 : wr.cell? ⟨w.heap.size, 1, none⟩ = some (.slice ap m cp) := by rw [hb.cell]; rfl
    have lB := hb.lt
    have HK := Lib.hid hb
    have HB := Lib.hid hB
    clear hb hB
    by_cases hlt : k < n
    · have hdk : decide (k < n) = true := by simp [hlt]
      obtain ⟨v, hvk⟩ : ∃ p, vs[k]? = some p := ⟨_, List.getElem?_eq_getElem (by rw [HN.out]; exact hlt)⟩
      have hdr : vs.drop k = v :: vs.drop (k + 1) := by
        obtain ⟨hk', e⟩ := List.getElem?_eq_some_iff.1 hvk
        rw [List.drop_eq_getElem_cons hk', e]
      obtain ⟨Bp, o, c, hvf, hbp, hc, hmx, hcells⟩ := HV.out.cell (by intro e; have := HN.out; rw [e] at this; simp at this; omega)
      rw [HN.out] at hvf hc
      simp only [Value.slice.injEq, true_and] at hvf
      obtain ⟨rfl, rfl⟩ := hvf
      have q0 := (HB.out.cell (p := ⟨Bp, o + k, none⟩) hbp).trans (hcells k _ hvk)
      have lp : Bp < wr.heap.size := Nat.lt_of_lt_of_le hbp HB.out.size
      clear hcells
      have ht := fun x => tk_c v x
      have t0 := tkV_lo v
      have t9 := tkV_hi v
      have HN1 : Hid (chkL (vs.drop k) left b = if tkV v < 0 then .error 1 else if b = 5 ∧ v ≠ 1 then .error 70 else chkL (vs.drop (k + 1)) (left - tkV v) v) := Lib.hid (by rw [hdr, chkL])
      clear hdr hvk
      generalize tkV v = t at *
      have HT := Lib.hid ht
      clear ht
      by_cases tn : t < 0
      · have hdt : decide (t < 0) = true := by simp [tn]
        have HR : Hid (chk vs pts = 1) := Lib.hid (by rw [HC.out, hpre.out, HN1.out, if_pos tn])
        clear HN1 hpre HC
        go_wp2_with (first | (go_at_call 34; (with_reducible refine (HT.out _).mono ?_); rintro e _ ⟨rfl, x, rfl⟩))
        have hB := HB.out; exact bodyPost_ret (v := .int .i64 1) (by simp [results, Tryz.results33, go_sem, *]) rfl ⟨by rw [HR.out], (Later.mk_of (by repeat (first | (with_reducible assumption) | (with_reducible exact Below.refl _ _) | (with_reducible refine Later.after ?_ _) | (with_reducible refine Later.newer ?_ _) | (with_reducible refine Below.drew ?_) | (with_reducible refine Below.setCell ?_ (by first | exact Nat.le_refl _ | exact Nat.le_add_right _ _ | omega | (simp [go_sem]; done) | (simp [go_sem]; omega)) _))))⟩
      · have hdt : decide (t < 0) = false := by simp; omega
        rw [if_neg tn] at HN1
        by_cases b5 : b = 5
        · subst b5
          by_cases v1 : v = 1
          · subst v1
            rw [if_neg (by simp)] at HN1
            go_wp2_with (first | (go_at_call 34; (with_reducible refine (HT.out _).mono ?_); rintro e _ ⟨rfl, x, rfl⟩))
            go_roundw
            case rel => exact ⟨k + 1, left - t, 1, by omega, by go_num, by go_num, rfl, by omega, by omega, Lib.hid (by rw [hpre.out, HN1.out]), (by repeat (first | (with_reducible exact HK.out) | (with_reducible refine Blk.later ?_ _))), (by repeat (first | (with_reducible exact HB.out) | (with_reducible refine Later.trans _ (HB.out.size) ?_) | (with_reducible refine Later.after ?_ _)))⟩
            case measure => simp [intOf]; omega
          · have hv1 : (v != 1) = true := by simp [v1]
            have HR : Hid (chk vs pts = 70) := Lib.hid (by rw [HC.out, hpre.out, HN1.out, if_pos ⟨rfl, v1⟩])
            clear HN1 hpre HC
            go_wp2_with (first | (go_at_call 34; (with_reducible refine (HT.out _).mono ?_); rintro e _ ⟨rfl, x, rfl⟩))
            have hB := HB.out; exact bodyPost_ret (v := .int .i64 70) (by simp [results, Tryz.results33, go_sem, *]) rfl ⟨by rw [HR.out], (Later.mk_of (by repeat (first | (with_reducible assumption) | (with_reducible exact Below.refl _ _) | (with_reducible refine Later.after ?_ _) | (with_reducible refine Later.newer ?_ _) | (with_reducible refine Below.drew ?_) | (with_reducible refine Below.setCell ?_ (by first | exact Nat.le_refl _ | exact Nat.le_add_right _ _ | omega | (simp [go_sem]; done) | (simp [go_sem]; omega)) _))))⟩
        · have hb5 : (b == 5) = false := by simp [b5]
          rw [if_neg (fun e => b5 e.1)] at HN1
          go_wp2_with (first | (go_at_call 34; (with_reducible refine (HT.out _).mono ?_); rintro e _ ⟨rfl, x, rfl⟩))
          go_roundw
          case rel => exact ⟨k + 1, left - t, v, by omega, by go_num, by go_num, rfl, by omega, by omega, Lib.hid (by rw [hpre.out, HN1.out]), (by repeat (first | (with_reducible exact HK.out) | (with_reducible refine Blk.later ?_ _))), (by repeat (first | (with_reducible exact HB.out) | (with_reducible refine Later.trans _ (HB.out.size) ?_) | (with_reducible refine Later.after ?_ _)))⟩
          case measure => simp [intOf]; omega
    · obtain rfl : k = n := by omega
      have e9 : vs.drop k = [] := List.drop_of_length_le (by rw [HN.out]; exact Nat.le_refl _)
      have hE : chkL vs m 5 = .ok left := by rw [hpre.out, e9]; rfl
      have hF := fun x hx => cont_c pts (.slice ap m cp) x hx
      have HR0 : Hid (chk vs pts = if left ≠ 0 then 71 else if pts.any farB then 72 else 0) := Lib.hid (by rw [HC.out, hE])
      clear e9 hE HC hpre
      generalize pts.any farB = fb at *
      have HF := Lib.hid hF
      clear hF
      by_cases l0 : left = 0
      · subst l0
        cases fb
        · have HR : Hid (chk vs pts = 0) := Lib.hid (by rw [HR0.out]; rfl)
          go_wp2_with (first | (go_at_call 62; (with_reducible refine (HF.out _ (ptsAt_under HP.out HB.out (Nat.le_refl _))).mono ?_); rintro e _ ⟨rfl, x, rfl⟩))
          have hB := HB.out; exact bodyPost_ret (v := .int .i64 0) (by simp [results, Tryz.results33, go_sem, *]) rfl ⟨by rw [HR.out], (Later.mk_of (by repeat (first | (with_reducible assumption) | (with_reducible exact Below.refl _ _) | (with_reducible refine Later.after ?_ _) | (with_reducible refine Later.newer ?_ _) | (with_reducible refine Below.drew ?_) | (with_reducible refine Below.setCell ?_ (by first | exact Nat.le_refl _ | exact Nat.le_add_right _ _ | omega | (simp [go_sem]; done) | (simp [go_sem]; omega)) _))))⟩
        · have HR : Hid (chk vs pts = 72) := Lib.hid (by rw [HR0.out]; rfl)
          go_wp2_with (first | (go_at_call 62; (with_reducible refine (HF.out _ (ptsAt_under HP.out HB.out (Nat.le_refl _))).mono ?_); rintro e _ ⟨rfl, x, rfl⟩))
          have hB := HB.out; exact bodyPost_ret (v := .int .i64 72) (by simp [results, Tryz.results33, go_sem, *]) rfl ⟨by rw [HR.out], (Later.mk_of (by repeat (first | (with_reducible assumption) | (with_reducible exact Below.refl _ _) | (with_reducible refine Later.after ?_ _) | (with_reducible refine Later.newer ?_ _) | (with_reducible refine Below.drew ?_) | (with_reducible refine Below.setCell ?_ (by first | exact Nat.le_refl _ | exact Nat.le_add_right _ _ | omega | (simp [go_sem]; done) | (simp [go_sem]; omega)) _))))⟩
      · have hl : (left != 0) = true := by simp [l0]
        have HR : Hid (chk vs pts = 71) := Lib.hid (by rw [HR0.out, if_pos l0])
        go_wp2_with (fail)
        have hB := HB.out; exact bodyPost_ret (v := .int .i64 71) (by simp [results, Tryz.results33, go_sem, *]) rfl ⟨by rw [HR.out], (Later.mk_of (by repeat (first | (with_reducible assumption) | (with_reducible exact Below.refl _ _) | (with_reducible refine Later.after ?_ _) | (with_reducible refine Later.newer ?_ _) | (with_reducible refine Below.drew ?_) | (with_reducible refine Below.setCell ?_ (by first | exact Nat.le_refl _ | exact Nat.le_add_right _ _ | omega | (simp [go_sem]; done) | (simp [go_sem]; omega)) _))))⟩
theorem check_c (vs : List Int) (pts : List (Int × Int)) (vv sv : Value) (w : World) (hv : IntsAt w vv vs) (hp : PtsAt w sv pts) :
    Calls Tryz.prog 33 #[.agg #[vv, sv]] w fun e w' => e = .returned (.int .i64 (chk vs pts)) ∧ ∃ x : Later w, w' = x.out := by
  obtain ⟨av, cv, rfl⟩ := hv.form
  obtain ⟨ap, cp, rfl⟩ := ptsAt_form hp
  by_cases h : 512 < vs.length
  · have e : chk vs pts = 74 := by unfold chk; rw [if_pos h]
    rw [e]
    exact check_many vs _ av cv _ w h hv.le
  · exact check_in vs pts _ _ av ap cv cp w rfl rfl (by omega) hv hp
end Go.Proofs.YtjmagehfkcnjjaaGreatDoor

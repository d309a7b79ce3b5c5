/-
  A range over a function whose assignment stores into a box ('for x = range seq {}'): what holds between the assignment and the body is a word of its own, that may speak of what has come. No way out of the loop but its end.
-/
import Derived.Test.YtdlemjecocmbgaaLater
import Derived.RangeFuncNested
import Derived.RangeFuncBound
import Derived.RangeFuncCalls
import Derived.RangeFuncLeaves
import Derived.RangeFuncFrom
import Derived.Shelf.Abstract
import Derived.Shelf.RegionOpen
import Derived.OwnWalkIn
import Derived.TacticsInMore
import Derived.LoopNIn
import Derived.LoopIn
namespace Go.Proofs.Ytdlemjecocmbgaa
set_option linter.unusedVariables false
open Go.RowKit Go.Shelf

section
variable {P : Program} {F : Fence} {n : Nat}

/-- the loop's record in a state -/
def recAt (fn : FuncId) (tmps : Array Value) (ps : Array Tmp) (assign body : Code) (D : Nat) (st : LoopState) (pe : Option Code) : Obj :=
  .loop { state := st, pending := pe, fn, tmps, params := ps, assign, body, defers := D }

theorem wpIn_rangeFunc_mid {α : Type} {g : Operand} {ps : Array Tmp} {assign body : Code} {Q : Exit → Act → World → Prop} {a : Act} {w : World}
    (hro : F.round = none) (h1 : 1 ≤ n) {gf : Nat} {lb : Array Value} (hg : a.eval g = .func (.func gf) #[] lb) (hF : F.fn gf) (eg : ∀ args w, (callFunc gf args).run P w = .ok (.enter gf args) w)
    {encs : α → Array Value} {Kp : World → World → Prop} {S : List α → Prop} {N : Nat} {w0 : World} (hseq : SeqStopsK F (n - 1) P gf lb encs Kp S (fun _ => True) N w0)
    (hKt : ∀ {A B C : World}, Kp A B → Kp B C → Kp A C) (hKb : ∀ (W : World) (l : Nat) (o o' : Obj), w.heap.size ≤ l → W.heap[l]? = some o → o.isCells = false → o.isWalk = false → Kp W (W.putObj l o'))
    (hb0 : Below w0.heap.size w0 w) (hps : ∀ x, (encs x).size = ps.size)
    (I : List α → World → Prop) (hI : OwnFrom w.heap.size I) (h0 : I [] w) (M : List α → α → Act → World → Prop) (hM : ∀ pre x a', OwnFrom w.heap.size (fun (_ : Unit) W => M pre x a' W))
    (hassign : ∀ (l : Nat) (pre : List α) (x : α) (W : World) (K : Act → World → Prop), I pre W → (∀ a' W', KeepsFrom w.heap.size W W' → Kp W W' → M pre x a' W' → K a' W') →
      assign.wpIn (F.inRound l) (n - 1 - 1) P (Exit.then K (fun _ _ _ => False)) { tmps := (ps.zip (encs x)).foldl (fun t (p, v) => t.setIfInBounds p v) a.tmps, defers := [] } W)
    (hbody : ∀ (l : Nat) (pre : List α) (x : α) (a' : Act) (W : World), M pre x a' W → pre.length < N →
      body.wpIn (F.inRound l) (n - 1 - 1) P (Exit.then (fun _ W' => KeepsFrom w.heap.size W W' ∧ Kp W W' ∧ I (pre ++ [x]) W') (fun _ _ _ => False)) a' W)
    (hdone : ∀ (D : Nat) (xs : List α) (W : World), w.heap.size ≤ D → S xs → I xs W → W.heap[D]? = some (.deferred (some [])) → Q .normal { a with defers := { target := .collected D, args := #[] } :: a.defers } W) :
    (Code.rangeFunc g ps assign body).wpIn F n P Q a w := by
  refine wpIn_rangeFunc ?_
  intro fn hfn
  rw [hro]
  have nd : (w.alloc (.deferred (some []))).heap.size = w.heap.size + 1 := World.size_alloc _ _
  obtain ⟨R, hR⟩ : ∃ R : LoopState → Option Code → Obj, R = recAt fn a.tmps ps assign body w.heap.size := ⟨_, rfl⟩
  have Rcells : ∀ st pe, (R st pe).isCells = false := fun _ _ => by rw [hR]; rfl
  have Rwalk : ∀ st pe, (R st pe).isWalk = false := fun _ _ => by rw [hR]; rfl
  obtain ⟨V, hV⟩ : ∃ V, (w.alloc (.deferred (some []))).alloc (R .ready none) = V := ⟨_, rfl⟩
  have vs : V.heap.size = w.heap.size + 1 + 1 := by rw [← hV]; simp
  have vl : V.heap[w.heap.size + 1]? = some (R .ready none) := by
    have := World.alloc_heap_new (w.alloc (.deferred (some []))) (R .ready none)
    rwa [nd, hV] at this
  have vd : V.heap[w.heap.size]? = some (.deferred (some [])) := by
    rw [← hV]; exact (Below.heap_alloc _ _ _ (by rw [nd]; omega)).trans (World.alloc_heap_new w _)
  have vI : I [] V := by rw [← hV]; exact hI.alloc _ (hI.alloc _ h0)
  have vb : Below w0.heap.size w0 V := by
    have : Below w.heap.size w V := by rw [← hV]; exact ((Below.refl _ w).alloc (Nat.le_refl _) _).alloc (by rw [nd]; omega) _
    exact hb0.trans (this.mono hb0.size)
  -- what a step that turns no cells and nothing below the loop keeps
  have cast : ∀ {A : World} {row : Option Nat}, (∀ r, row = some r → V.heap.size ≤ r ∧ ∃ o : Obj, A.heap[r]? = some o ∧ o.isWalk = true) → (∀ r, row = some r → w.heap.size ≤ r ∧ ∃ o : Obj, A.heap[r]? = some o ∧ o.isCells = false) :=
    fun h r e => let ⟨hB, o, ho, hw⟩ := h r e; ⟨by omega, o, ho, Obj.not_cells_of_walk hw⟩
  refine ⟨w.heap.size + 1, [{ target := .collected w.heap.size, args := #[] }], V, { target := .fn (.func gf) lb, args := #[.func (.yield (w.heap.size + 1)) #[] #[]] }, V, gf,
    #[.func (.yield (w.heap.size + 1)) #[] #[]] ++ lb, V, ?_, ?_, ?_, ?_, fun _ => h1, ?_⟩
  · rw [← hV, hR]; exact run_enterLoop_outer _ _ _ _ _
  · simp only [resolve, hg]
    simp [go_sem]
  · intro f' hf'
    simp [Target.leads] at hf'
    subst hf'
    exact hF
  · simp [invoke, go_sem, eg]
  · refine (hseq (w.heap.size + 1)
      (fun pre W => I pre W ∧ W.heap[w.heap.size + 1]? = some (R .ready none) ∧ W.heap[w.heap.size]? = some (.deferred (some [])))
      (fun _ _ => False) V vb
      (fun s A B row hs hk hr => ⟨hI s A B row hs.1 hk (cast hr), (grownBy_keeps hk (fun r e => (hr r e).2) hs.2.1 (Rwalk _ _)).trans hs.2.1, (grownBy_keeps hk (fun r e => (hr r e).2) hs.2.2 rfl).trans hs.2.2⟩)
      (fun _ _ _ _ hs _ _ => hs) ?_ ⟨vI, vl, vd⟩).mono ?_
    · rintro pre x W ⟨hi, hl, hk⟩ hlen
      have hl0 := hl
      rw [hR] at hl0
      have hy := run_yield (P := P) (args := encs x) hl0 (hps x)
      refine ⟨fn, _, assign, body, hy, roundIn_of_wpIn hfn (hassign _ pre x W _ hi ?_)⟩
      intro a' X kx bx mx
      have xl := kx.same _ _ (by omega) hl (Rcells _ _)
      have xd := kx.same _ _ (Nat.le_refl _) hk rfl
      have xlt : w.heap.size + 1 < X.heap.size := (Array.getElem?_eq_some_iff.1 xl).1
      have xl0 := xl
      rw [hR] at xl0
      refine ⟨_, run_beginRound xl0 rfl, ?_⟩
      obtain ⟨Y, hY⟩ : ∃ Y, X.putObj (w.heap.size + 1) (R .busy none) = Y := ⟨_, rfl⟩
      have yl : Y.heap[w.heap.size + 1]? = some (R .busy none) := by rw [← hY]; exact World.putObj_heap_same xlt
      have yd : Y.heap[w.heap.size]? = some (.deferred (some [])) := by rw [← hY]; exact (World.putObj_heap_other (by omega)).trans xd
      have yb : Kp X Y := by rw [← hY]; exact hKb X _ _ _ (by omega) xl (Rcells _ _) (Rwalk _ _)
      have ym : M pre x a' Y := by rw [← hY]; exact (hM pre x a').putObj (s := ()) _ mx (by omega) xl (Rcells _ _)
      have hY' : X.putObj (w.heap.size + 1) (.loop { state := .busy, pending := none, fn, tmps := a.tmps, params := ps, assign, body, defers := w.heap.size }) = Y := by rw [← hY, hR]; rfl
      refine wpIn_mono (by rw [hY']; exact hbody _ pre x a' Y ym hlen) ?_
      rintro e a3 Z hz
      cases e with
      | normal =>
        obtain ⟨kz, bz, iz⟩ := hz
        have zl := kz.same _ _ (by omega) yl (Rcells _ _)
        have zd := kz.same _ _ (Nat.le_refl _) yd rfl
        have zlt := (Array.getElem?_eq_some_iff.1 zl).1
        have zl0 := zl
        rw [hR] at zl0
        refine ⟨_, _, run_endRound (P := P) none zl0, .inl ⟨rfl, ⟨hI.putObj _ iz (by omega) zl (Rcells _ _), ?_, (World.putObj_heap_other (by omega)).trans zd⟩, hKt bx (hKt (hKt yb bz) (hKb Z _ _ _ (by omega) zl (Rcells _ _) (Rwalk _ _)))⟩⟩
        rw [World.putObj_heap_same zlt, hR]
        rfl
      | ret => exact hz.elim
      | exit id => exact hz.elim
      | goto t => exact hz.elim
      | panic ch => exact hz.elim
      | outgrown => exact hz.elim
    · rintro e Z ⟨⟨v, rfl⟩, (⟨xs, hS, iz, zl, zd⟩ | ⟨_, _, h⟩)⟩
      · have zl0 := zl
        rw [hR] at zl0
        exact ⟨none, _, run_endLoop (P := P) zl0 (by simp), hdone _ xs _ (Nat.le_refl _) hS (hI.putObj _ iz (by omega) zl (Rcells _ _)) ((World.putObj_heap_other (by omega)).trans zd)⟩
      · exact h.elim
end
end Go.Proofs.Ytdlemjecocmbgaa

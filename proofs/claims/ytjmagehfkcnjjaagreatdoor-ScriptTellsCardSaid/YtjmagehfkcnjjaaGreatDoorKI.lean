/-
  Texts that stand as one.
-/
import Derived.Test.YtjmagehfkcnjjaaGreatDoorKA
import Derived.RangeFuncNested
import Derived.RangeFuncBound
import Derived.RangeFuncCalls
import Derived.RangeFuncLeaves
import Derived.RangeFuncFrom
import Derived.Shelf.Abstract
import Derived.Shelf.RegionOpen
import Derived.OwnWalkIn
import Derived.TacticsInMore
import Derived.LoopNIn
import Derived.LoopIn
import Derived.Test.YtjmagehfkcnjjaaGreatDoorKC
/-
  A range over a function whose assignment stores into a box ('for x = range seq {}'): what holds between the assignment and the body is a word of its own, that may speak of what has come. No way out of the loop but its end.
-/
namespace Go.Proofs.YtjmagehfkcnjjaaGreatDoor
set_option linter.unusedVariables false
open Go.RowKit Go.Shelf

section
variable {P : Program} {F : Fence} {n : Nat}

/-- the loop's record in a state -/
def recAt (fn : FuncId) (tmps : Array Value) (ps : Array Tmp) (assign body : Code) (D : Nat) (st : LoopState) (pe : Option Code) : Obj :=
  .loop { state := st, pending := pe, fn, tmps, params := ps, assign, body, defers := D }

theorem wpIn_rangeFunc_mid {α : Type} {g : Operand} {ps : Array Tmp} {assign body : Code} {Q : Exit → Act → World → Prop} {a : Act} {w : World}
    (hro : F.round = none) (h1 : 1 ≤ n) {gf : Nat} {lb : Array Value} (hg : a.eval g = .func (.func gf) #[] lb) (hF : F.fn gf) (eg : ∀ args w, (callFunc gf args).run P w = .ok (.enter gf args) w)
    {encs : α → Array Value} {Kp : World → World → Prop} {S : List α → Prop} {N : Nat} {w0 : World} (hseq : SeqStopsK F (n - 1) P gf lb encs Kp S (fun _ => True) N w0)
    (hKt : ∀ {A B C : World}, Kp A B → Kp B C → Kp A C) (hKb : ∀ (W : World) (l : Nat) (o o' : Obj), w.heap.size ≤ l → W.heap[l]? = some o → o.isCells = false → o.isWalk = false → Kp W (W.putObj l o'))
    (hb0 : Below w0.heap.size w0 w) (hps : ∀ x, (encs x).size = ps.size)
    (I : List α → World → Prop) (hI : OwnFrom w.heap.size I) (h0 : I [] w) (M : List α → α → Act → World → Prop) (hM : ∀ pre x a', OwnFrom w.heap.size (fun (_ : Unit) W => M pre x a' W))
    (hassign : ∀ (l : Nat) (pre : List α) (x : α) (W : World) (K : Act → World → Prop), I pre W → (∀ a' W', KeepsFrom w.heap.size W W' → Kp W W' → M pre x a' W' → K a' W') →
      assign.wpIn (F.inRound l) (n - 1 - 1) P (Exit.then K (fun _ _ _ => False)) { tmps := (ps.zip (encs x)).foldl (fun t (p, v) => t.setIfInBounds p v) a.tmps, defers := [] } W)
    (hbody : ∀ (l : Nat) (pre : List α) (x : α) (a' : Act) (W : World), M pre x a' W → pre.length < N →
      body.wpIn (F.inRound l) (n - 1 - 1) P (Exit.then (fun _ W' => KeepsFrom w.heap.size W W' ∧ Kp W W' ∧ I (pre ++ [x]) W') (fun _ _ _ => False)) a' W)
    (hdone : ∀ (D : Nat) (xs : List α) (W : World), w.heap.size ≤ D → S xs → I xs W → W.heap[D]? = some (.deferred (some [])) → Q .normal { a with defers := { target := .collected D, args := #[] } :: a.defers } W) :
    (Code.rangeFunc g ps assign body).wpIn F n P Q a w := by
  refine wpIn_rangeFunc ?_
  intro fn hfn
  rw [hro]
  have nd : (w.alloc (.deferred (some []))).heap.size = w.heap.size + 1 := World.size_alloc _ _
  obtain ⟨R, hR⟩ : ∃ R : LoopState → Option Code → Obj, R = recAt fn a.tmps ps assign body w.heap.size := ⟨_, rfl⟩
  have Rcells : ∀ st pe, (R st pe).isCells = false := fun _ _ => by rw [hR]; rfl
  have Rwalk : ∀ st pe, (R st pe).isWalk = false := fun _ _ => by rw [hR]; rfl
  obtain ⟨V, hV⟩ : ∃ V, (w.alloc (.deferred (some []))).alloc (R .ready none) = V := ⟨_, rfl⟩
  have vs : V.heap.size = w.heap.size + 1 + 1 := by rw [← hV]; simp
  have vl : V.heap[w.heap.size + 1]? = some (R .ready none) := by
    have := World.alloc_heap_new (w.alloc (.deferred (some []))) (R .ready none)
    rwa [nd, hV] at this
  have vd : V.heap[w.heap.size]? = some (.deferred (some [])) := by
    rw [← hV]; exact (Below.heap_alloc _ _ _ (by rw [nd]; omega)).trans (World.alloc_heap_new w _)
  have vI : I [] V := by rw [← hV]; exact hI.alloc _ (hI.alloc _ h0)
  have vb : Below w0.heap.size w0 V := by
    have : Below w.heap.size w V := by rw [← hV]; exact ((Below.refl _ w).alloc (Nat.le_refl _) _).alloc (by rw [nd]; omega) _
    exact hb0.trans (this.mono hb0.size)
  -- what a step that turns no cells and nothing below the loop keeps
  have cast : ∀ {A : World} {row : Option Nat}, (∀ r, row = some r → V.heap.size ≤ r ∧ ∃ o : Obj, A.heap[r]? = some o ∧ o.isWalk = true) → (∀ r, row = some r → w.heap.size ≤ r ∧ ∃ o : Obj, A.heap[r]? = some o ∧ o.isCells = false) :=
    fun h r e => let ⟨hB, o, ho, hw⟩ := h r e; ⟨by omega, o, ho, Obj.not_cells_of_walk hw⟩
  refine ⟨w.heap.size + 1, [{ target := .collected w.heap.size, args := #[] }], V, { target := .fn (.func gf) lb, args := #[.func (.yield (w.heap.size + 1)) #[] #[]] }, V, gf,
    #[.func (.yield (w.heap.size + 1)) #[] #[]] ++ lb, V, ?_, ?_, ?_, ?_, fun _ => h1, ?_⟩
  · rw [← hV, hR]; exact run_enterLoop_outer _ _ _ _ _
  · simp only [resolve, hg]
    simp [go_sem]
  · intro f' hf'
    simp [Target.leads] at hf'
    subst hf'
    exact hF
  · simp [invoke, go_sem, eg]
  · refine (hseq (w.heap.size + 1)
      (fun pre W => I pre W ∧ W.heap[w.heap.size + 1]? = some (R .ready none) ∧ W.heap[w.heap.size]? = some (.deferred (some [])))
      (fun _ _ => False) V vb
      (fun s A B row hs hk hr => ⟨hI s A B row hs.1 hk (cast hr), (grownBy_keeps hk (fun r e => (hr r e).2) hs.2.1 (Rwalk _ _)).trans hs.2.1, (grownBy_keeps hk (fun r e => (hr r e).2) hs.2.2 rfl).trans hs.2.2⟩)
      (fun _ _ _ _ hs _ _ => hs) ?_ ⟨vI, vl, vd⟩).mono ?_
    · rintro pre x W ⟨hi, hl, hk⟩ hlen
      have hl0 := hl
      rw [hR] at hl0
      have hy := run_yield (P := P) (args := encs x) hl0 (hps x)
      refine ⟨fn, _, assign, body, hy, roundIn_of_wpIn hfn (hassign _ pre x W _ hi ?_)⟩
      intro a' X kx bx mx
      have xl := kx.same _ _ (by omega) hl (Rcells _ _)
      have xd := kx.same _ _ (Nat.le_refl _) hk rfl
      have xlt : w.heap.size + 1 < X.heap.size := (Array.getElem?_eq_some_iff.1 xl).1
      have xl0 := xl
      rw [hR] at xl0
      refine ⟨_, run_beginRound xl0 rfl, ?_⟩
      obtain ⟨Y, hY⟩ : ∃ Y, X.putObj (w.heap.size + 1) (R .busy none) = Y := ⟨_, rfl⟩
      have yl : Y.heap[w.heap.size + 1]? = some (R .busy none) := by rw [← hY]; exact World.putObj_heap_same xlt
      have yd : Y.heap[w.heap.size]? = some (.deferred (some [])) := by rw [← hY]; exact (World.putObj_heap_other (by omega)).trans xd
      have yb : Kp X Y := by rw [← hY]; exact hKb X _ _ _ (by omega) xl (Rcells _ _) (Rwalk _ _)
      have ym : M pre x a' Y := by rw [← hY]; exact (hM pre x a').putObj (s := ()) _ mx (by omega) xl (Rcells _ _)
      have hY' : X.putObj (w.heap.size + 1) (.loop { state := .busy, pending := none, fn, tmps := a.tmps, params := ps, assign, body, defers := w.heap.size }) = Y := by rw [← hY, hR]; rfl
      refine wpIn_mono (by rw [hY']; exact hbody _ pre x a' Y ym hlen) ?_
      rintro e a3 Z hz
      cases e with
      | normal =>
        obtain ⟨kz, bz, iz⟩ := hz
        have zl := kz.same _ _ (by omega) yl (Rcells _ _)
        have zd := kz.same _ _ (Nat.le_refl _) yd rfl
        have zlt := (Array.getElem?_eq_some_iff.1 zl).1
        have zl0 := zl
        rw [hR] at zl0
        refine ⟨_, _, run_endRound (P := P) none zl0, .inl ⟨rfl, ⟨hI.putObj _ iz (by omega) zl (Rcells _ _), ?_, (World.putObj_heap_other (by omega)).trans zd⟩, hKt bx (hKt (hKt yb bz) (hKb Z _ _ _ (by omega) zl (Rcells _ _) (Rwalk _ _)))⟩⟩
        rw [World.putObj_heap_same zlt, hR]
        rfl
      | ret => exact hz.elim
      | exit id => exact hz.elim
      | goto t => exact hz.elim
      | panic ch => exact hz.elim
      | outgrown => exact hz.elim
    · rintro e Z ⟨⟨v, rfl⟩, (⟨xs, hS, iz, zl, zd⟩ | ⟨_, _, h⟩)⟩
      · have zl0 := zl
        rw [hR] at zl0
        exact ⟨none, _, run_endLoop (P := P) zl0 (by simp), hdone _ xs _ (Nat.le_refl _) hS (hI.putObj _ iz (by omega) zl (Rcells _ _)) ((World.putObj_heap_other (by omega)).trans zd)⟩
      · exact h.elim
end
end Go.Proofs.YtjmagehfkcnjjaaGreatDoor

/-
  A range over a function that yields known values, one behind the other: what holds is told by how many have come. No way out of the loop but its end.
-/
namespace Go.Proofs.YtjmagehfkcnjjaaGreatDoor
set_option linter.unusedVariables false
open Go.RowKit Go.Shelf

section
variable {P : Program} {F : Fence} {n : Nat}
/-- what speaks of what lies below B alone -/
def FreeFrom {β : Type} (B : Nat) (I : β → World → Prop) : Prop :=
  ∀ s W W' row, I s W → W.grownBy W' row → (∀ r, row = some r → B ≤ r) → I s W'
theorem FreeFrom.putObj {β : Type} {B : Nat} {I : β → World → Prop} (h : FreeFrom B I) {s : β} {W : World} {l : Nat} (o' : Obj) (hs : I s W) (hB : B ≤ l) : I s (W.putObj l o') :=
  h s W _ (some l) hs (grownBy_putObj' W l o') (fun r e => by cases e; exact hB)
theorem FreeFrom.alloc {β : Type} {B : Nat} {I : β → World → Prop} (h : FreeFrom B I) {s : β} {W : World} (o : Obj) (hs : I s W) : I s (W.alloc o) :=
  h s W _ none hs ⟨rfl, rfl, rfl, by simp, fun k hk _ => Below.heap_alloc W o k hk⟩ (fun r e => by cases e)
theorem grownBy_old {W W' : World} {row : Option Nat} (hg : W.grownBy W' row) {B k : Nat} {o : Obj} (hr : ∀ r, row = some r → B ≤ r) (hk : W.heap[k]? = some o) (hB : k < B) : W'.heap[k]? = some o :=
  (hg.block k (Array.getElem?_eq_some_iff.1 hk).1 (fun e => by have := hr k e.symm; omega)).trans hk
/-- the boxes of Bl, and all cells from B on, are kept -/
def KeepsTop (B : Nat) (Bl : List Nat) (W W' : World) : Prop := (∀ b ∈ Bl, W'.heap[b]? = W.heap[b]?) ∧ ∀ (k : Nat) (o : Obj), B ≤ k → W.heap[k]? = some o → o.isCells = true → W'.heap[k]? = some o
theorem KeepsTop.refl (B : Nat) (Bl : List Nat) (W : World) : KeepsTop B Bl W W := ⟨fun _ _ => rfl, fun _ _ _ h _ => h⟩
theorem KeepsTop.trans {B : Nat} {Bl : List Nat} {X Y Z : World} (h : KeepsTop B Bl X Y) (k : KeepsTop B Bl Y Z) : KeepsTop B Bl X Z :=
  ⟨fun b hb => (k.1 b hb).trans (h.1 b hb), fun i o h1 h2 h3 => k.2 i o h1 (h.2 i o h1 h2 h3) h3⟩
theorem KeepsTop.putObj {B : Nat} {Bl : List Nat} {W : World} {l : Nat} {o o' : Obj} (hb : ∀ b ∈ Bl, b < B) (hl : B ≤ l) (ho : W.heap[l]? = some o) (hc : o.isCells = false) : KeepsTop B Bl W (W.putObj l o') :=
  ⟨fun b h => World.putObj_heap_other (by have := hb b h; omega), fun k q h1 h2 h3 => by
    have hne : k ≠ l := fun e => by subst e; rw [ho] at h2; cases h2; rw [hc] at h3; cases h3
    exact (World.putObj_heap_other hne).trans h2⟩
theorem KeepsTop.setCell {B : Nat} {Bl : List Nat} {W : World} {p : Addr} (v : Value) (hb : ∀ b ∈ Bl, b ≠ p.block) (hp : p.block < B) : KeepsTop B Bl W (W.setCell p v) :=
  ⟨fun b h => Below.heap_setCell W p v b (hb b h), fun k q h1 h2 _ => (Below.heap_setCell W p v k (by omega)).trans h2⟩
theorem KeepsTop.grown {B : Nat} {Bl : List Nat} {W W' : World} (hg : W.grownBy W' none) (hb : ∀ b ∈ Bl, b < W.heap.size) : KeepsTop B Bl W W' :=
  ⟨fun b h => hg.block b (hb b h) (by simp), fun k q _ h2 _ => (hg.block k (Array.getElem?_eq_some_iff.1 h2).1 (by simp)).trans h2⟩
/-- an iterator that yields these values, one behind the other, whatever the loop's body does that lets the iterator's own go on -/
def SeqIdx {α : Type} (F : Fence) (n : Nat) (P : Program) (g : Nat) (lb : Array Value) (encs : α → Array Value) (Kp : World → World → Prop) (xs : List α) (w : World) : Prop :=
  ∀ (l : Nat) (J : Nat → World → Prop) (W : World), Below w.heap.size w W → FreeFrom W.heap.size J →
    (∀ k x W1, xs[k]? = some x → J k W1 → YieldAt F (n - 1) P l (encs x) W1 fun e W' => e = .returned (.bool true) ∧ J (k + 1) W' ∧ Kp W1 W') →
    J 0 W →
    CallsIn F n P g (#[.func (.yield l) #[] #[]] ++ lb) W fun e W' => (∃ v, e = .returned v) ∧ J xs.length W'

theorem wpIn_rangeFunc_idx {α : Type} {g : Operand} {ps : Array Tmp} {assign body : Code} {Q : Exit → Act → World → Prop} {a : Act} {w : World}
    (hro : F.round = none) (h1 : 1 ≤ n) {gf : Nat} {lb : Array Value} (hg : a.eval g = .func (.func gf) #[] lb) (hF : F.fn gf) (eg : ∀ args w, (callFunc gf args).run P w = .ok (.enter gf args) w)
    {encs : α → Array Value} {Kp : World → World → Prop} {xs : List α} {w0 : World} (hseq : SeqIdx F (n - 1) P gf lb encs Kp xs w0)
    (hKt : ∀ {A B C : World}, Kp A B → Kp B C → Kp A C) (hKb : ∀ (W : World) (l : Nat) (o o' : Obj), w.heap.size ≤ l → W.heap[l]? = some o → o.isCells = false → o.isWalk = false → Kp W (W.putObj l o'))
    (hb0 : Below w0.heap.size w0 w) (hps : ∀ x, (encs x).size = ps.size)
    (I : Nat → World → Prop) (hI : FreeFrom w.heap.size I) (h0 : I 0 w) (M : Nat → α → Act → World → Prop) (hM : ∀ pre x a', OwnFrom w.heap.size (fun (_ : Unit) W => M pre x a' W))
    (hassign : ∀ (l : Nat) (pre : Nat) (x : α) (W : World) (K : Act → World → Prop), xs[pre]? = some x → I pre W → (∀ a' W', KeepsFrom w.heap.size W W' → Kp W W' → M pre x a' W' → K a' W') →
      assign.wpIn (F.inRound l) (n - 1 - 1) P (Exit.then K (fun _ _ _ => False)) { tmps := (ps.zip (encs x)).foldl (fun t (p, v) => t.setIfInBounds p v) a.tmps, defers := [] } W)
    (hbody : ∀ (l : Nat) (pre : Nat) (x : α) (a' : Act) (W : World), xs[pre]? = some x → M pre x a' W →
      body.wpIn (F.inRound l) (n - 1 - 1) P (Exit.then (fun _ W' => KeepsFrom w.heap.size W W' ∧ Kp W W' ∧ I (pre + 1) W') (fun _ _ _ => False)) a' W)
    (hdone : ∀ (D : Nat) (W : World), w.heap.size ≤ D → I xs.length W → W.heap[D]? = some (.deferred (some [])) → Q .normal { a with defers := { target := .collected D, args := #[] } :: a.defers } W) :
    (Code.rangeFunc g ps assign body).wpIn F n P Q a w := by
  refine wpIn_rangeFunc ?_
  intro fn hfn
  rw [hro]
  have nd : (w.alloc (.deferred (some []))).heap.size = w.heap.size + 1 := World.size_alloc _ _
  obtain ⟨R, hR⟩ : ∃ R : LoopState → Option Code → Obj, R = recAt fn a.tmps ps assign body w.heap.size := ⟨_, rfl⟩
  have Rcells : ∀ st pe, (R st pe).isCells = false := fun _ _ => by rw [hR]; rfl
  have Rwalk : ∀ st pe, (R st pe).isWalk = false := fun _ _ => by rw [hR]; rfl
  obtain ⟨V, hV⟩ : ∃ V, (w.alloc (.deferred (some []))).alloc (R .ready none) = V := ⟨_, rfl⟩
  have vs : V.heap.size = w.heap.size + 1 + 1 := by rw [← hV]; simp
  have vl : V.heap[w.heap.size + 1]? = some (R .ready none) := by
    have := World.alloc_heap_new (w.alloc (.deferred (some []))) (R .ready none)
    rwa [nd, hV] at this
  have vd : V.heap[w.heap.size]? = some (.deferred (some [])) := by
    rw [← hV]; exact (Below.heap_alloc _ _ _ (by rw [nd]; omega)).trans (World.alloc_heap_new w _)
  have vI : I 0 V := by rw [← hV]; exact hI.alloc _ (hI.alloc _ h0)
  have vb : Below w0.heap.size w0 V := by
    have : Below w.heap.size w V := by rw [← hV]; exact ((Below.refl _ w).alloc (Nat.le_refl _) _).alloc (by rw [nd]; omega) _
    exact hb0.trans (this.mono hb0.size)
  refine ⟨w.heap.size + 1, [{ target := .collected w.heap.size, args := #[] }], V, { target := .fn (.func gf) lb, args := #[.func (.yield (w.heap.size + 1)) #[] #[]] }, V, gf,
    #[.func (.yield (w.heap.size + 1)) #[] #[]] ++ lb, V, ?_, ?_, ?_, ?_, fun _ => h1, ?_⟩
  · rw [← hV, hR]; exact run_enterLoop_outer _ _ _ _ _
  · simp only [resolve, hg]
    simp [go_sem]
  · intro f' hf'
    simp [Target.leads] at hf'
    subst hf'
    exact hF
  · simp [invoke, go_sem, eg]
  · refine (hseq (w.heap.size + 1)
      (fun pre W => I pre W ∧ W.heap[w.heap.size + 1]? = some (R .ready none) ∧ W.heap[w.heap.size]? = some (.deferred (some []))) V vb
      (fun s A B row hs hk hr => ⟨hI s A B row hs.1 hk (fun r e => by have := hr r e; omega), grownBy_old hk hr hs.2.1 (by omega), grownBy_old hk hr hs.2.2 (by omega)⟩)
      ?_ ⟨vI, vl, vd⟩).mono ?_
    · rintro pre x W hx ⟨hi, hl, hk⟩
      have hl0 := hl
      rw [hR] at hl0
      have hy := run_yield (P := P) (args := encs x) hl0 (hps x)
      refine ⟨fn, _, assign, body, hy, roundIn_of_wpIn hfn (hassign _ pre x W _ hx hi ?_)⟩
      intro a' X kx bx mx
      have xl := kx.same _ _ (by omega) hl (Rcells _ _)
      have xd := kx.same _ _ (Nat.le_refl _) hk rfl
      have xlt : w.heap.size + 1 < X.heap.size := (Array.getElem?_eq_some_iff.1 xl).1
      have xl0 := xl
      rw [hR] at xl0
      refine ⟨_, run_beginRound xl0 rfl, ?_⟩
      obtain ⟨Y, hY⟩ : ∃ Y, X.putObj (w.heap.size + 1) (R .busy none) = Y := ⟨_, rfl⟩
      have yl : Y.heap[w.heap.size + 1]? = some (R .busy none) := by rw [← hY]; exact World.putObj_heap_same xlt
      have yd : Y.heap[w.heap.size]? = some (.deferred (some [])) := by rw [← hY]; exact (World.putObj_heap_other (by omega)).trans xd
      have yb : Kp X Y := by rw [← hY]; exact hKb X _ _ _ (by omega) xl (Rcells _ _) (Rwalk _ _)
      have ym : M pre x a' Y := by rw [← hY]; exact (hM pre x a').putObj (s := ()) _ mx (by omega) xl (Rcells _ _)
      have hY' : X.putObj (w.heap.size + 1) (.loop { state := .busy, pending := none, fn, tmps := a.tmps, params := ps, assign, body, defers := w.heap.size }) = Y := by rw [← hY, hR]; rfl
      refine wpIn_mono (by rw [hY']; exact hbody _ pre x a' Y hx ym) ?_
      rintro e a3 Z hz
      cases e with
      | normal =>
        obtain ⟨kz, bz, iz⟩ := hz
        have zl := kz.same _ _ (by omega) yl (Rcells _ _)
        have zd := kz.same _ _ (Nat.le_refl _) yd rfl
        have zlt := (Array.getElem?_eq_some_iff.1 zl).1
        have zl0 := zl
        rw [hR] at zl0
        refine ⟨_, _, run_endRound (P := P) none zl0, ⟨rfl, ⟨hI.putObj _ iz (by omega), ?_, (World.putObj_heap_other (by omega)).trans zd⟩, hKt bx (hKt (hKt yb bz) (hKb Z _ _ _ (by omega) zl (Rcells _ _) (Rwalk _ _)))⟩⟩
        rw [World.putObj_heap_same zlt, hR]
        rfl
      | ret => exact hz.elim
      | exit id => exact hz.elim
      | goto t => exact hz.elim
      | panic ch => exact hz.elim
      | outgrown => exact hz.elim
    · rintro e Z ⟨⟨v, rfl⟩, iz, zl, zd⟩
      have zl0 := zl
      rw [hR] at zl0
      exact ⟨none, _, run_endLoop (P := P) zl0 (by simp), hdone _ _ (Nat.le_refl _) (hI.putObj _ iz (by omega)) ((World.putObj_heap_other (by omega)).trans zd)⟩
/-- where the row that turned holds no cells -/
theorem Blk.kept {W W' : World} {b : Nat} {T : TypeId} {c : Array Value} {row : Option Nat} (h : Blk W b T c) (hg : W.grownBy W' row) (hr : ∀ r, row = some r → ∃ o : Obj, W.heap[r]? = some o ∧ o.isCells = false) : Blk W' b T c :=
  (hg.block b h.lt (fun e => by
    obtain ⟨o, ho, hc⟩ := hr b e.symm
    unfold Blk at h
    rw [h] at ho
    cases ho
    cases hc)).trans h
end
end Go.Proofs.YtjmagehfkcnjjaaGreatDoor

/-
  A range over a function that yields known values, one behind the other, and makes no cells turn of its own: what holds is told by how many have come. The body may turn any cells but those of some blocks. No way out of the loop but its end.
-/
namespace Go.Proofs.YtjmagehfkcnjjaaGreatDoor
set_option linter.unusedVariables false
open Go.RowKit Go.Shelf

section
variable {P : Program} {F : Fence} {n : Nat}
/-- the blocks of Bl are kept -/
def KeepsAll (Bl : List Nat) (W W' : World) : Prop := ∀ b ∈ Bl, W'.heap[b]? = W.heap[b]?
theorem KeepsAll.trans {Bl : List Nat} {X Y Z : World} (h : KeepsAll Bl X Y) (k : KeepsAll Bl Y Z) : KeepsAll Bl X Z := fun b hb => (k b hb).trans (h b hb)
theorem KeepsAll.putObj {Bl : List Nat} {W : World} {l : Nat} (o' : Obj) (hb : ∀ b ∈ Bl, b < l) : KeepsAll Bl W (W.putObj l o') := fun b h => World.putObj_heap_other (by have := hb b h; omega)
theorem KeepsAll.setCell {Bl : List Nat} {W : World} {p : Addr} (v : Value) (hb : ∀ b ∈ Bl, b ≠ p.block) : KeepsAll Bl W (W.setCell p v) := fun b h => Below.heap_setCell W p v b (hb b h)
theorem KeepsAll.grown {Bl : List Nat} {W W' : World} {row : Option Nat} (hg : W.grownBy W' row) (hb : ∀ b ∈ Bl, b < W.heap.size ∧ row ≠ some b) : KeepsAll Bl W W' := fun b h => hg.block b (hb b h).1 (fun e => (hb b h).2 e.symm)
theorem KeepsAll.below {Bl : List Nat} {W W' : World} {B : Nat} (h : Below B W W') (hb : ∀ b ∈ Bl, b < B) : KeepsAll Bl W W' := fun b hb' => h.block b (hb b hb')
/-- An iterator that yields these values. -/
def SeqLst {α : Type} (F : Fence) (n : Nat) (P : Program) (g : Nat) (lb : Array Value) (encs : α → Array Value) (Kp : World → World → Prop) (xs : List α) (w : World) : Prop :=
  ∀ (l : Nat) (J : Nat → World → Prop) (W : World), Below w.heap.size w W → (∀ (k : Nat) (A B : World), J k A → A.grownBy B none → J k B) →
    (∀ k x W1, xs[k]? = some x → J k W1 → YieldAt F (n - 1) P l (encs x) W1 fun e W' => e = .returned (.bool true) ∧ J (k + 1) W' ∧ Kp W1 W') →
    J 0 W →
    CallsIn F n P g (#[.func (.yield l) #[] #[]] ++ lb) W fun e W' => (∃ v, e = .returned v) ∧ J xs.length W'

theorem wpIn_rangeFunc_lst {α : Type} {g : Operand} {ps : Array Tmp} {assign body : Code} {Q : Exit → Act → World → Prop} {a : Act} {w : World}
    (hro : F.round = none) (h1 : 1 ≤ n) {gf : Nat} {lb : Array Value} (hg : a.eval g = .func (.func gf) #[] lb) (hF : F.fn gf) (eg : ∀ args w, (callFunc gf args).run P w = .ok (.enter gf args) w)
    {encs : α → Array Value} {Kp : World → World → Prop} {xs : List α} {w0 : World} (hseq : SeqLst F (n - 1) P gf lb encs Kp xs w0)
    (hKt : ∀ {A B C : World}, Kp A B → Kp B C → Kp A C) (hKb : ∀ (W : World) (l : Nat) (o o' : Obj), w.heap.size ≤ l → W.heap[l]? = some o → o.isCells = false → o.isWalk = false → Kp W (W.putObj l o'))
    (hb0 : Below w0.heap.size w0 w) (hps : ∀ x, (encs x).size = ps.size)
    (I : Nat → World → Prop) (hI : OwnFrom w.heap.size I) (h0 : I 0 w) (M : Nat → α → Act → World → Prop) (hM : ∀ pre x a', OwnFrom w.heap.size (fun (_ : Unit) W => M pre x a' W))
    (hassign : ∀ (l : Nat) (pre : Nat) (x : α) (W : World) (K : Act → World → Prop), xs[pre]? = some x → I pre W → (∀ a' W', KeepsFrom w.heap.size W W' → Kp W W' → M pre x a' W' → K a' W') →
      assign.wpIn (F.inRound l) (n - 1 - 1) P (Exit.then K (fun _ _ _ => False)) { tmps := (ps.zip (encs x)).foldl (fun t (p, v) => t.setIfInBounds p v) a.tmps, defers := [] } W)
    (hbody : ∀ (l : Nat) (pre : Nat) (x : α) (a' : Act) (W : World), xs[pre]? = some x → M pre x a' W →
      body.wpIn (F.inRound l) (n - 1 - 1) P (Exit.then (fun _ W' => KeepsFrom w.heap.size W W' ∧ Kp W W' ∧ I (pre + 1) W') (fun _ _ _ => False)) a' W)
    (hdone : ∀ (D : Nat) (W : World), w.heap.size ≤ D → I xs.length W → W.heap[D]? = some (.deferred (some [])) → Q .normal { a with defers := { target := .collected D, args := #[] } :: a.defers } W) :
    (Code.rangeFunc g ps assign body).wpIn F n P Q a w := by
  refine wpIn_rangeFunc ?_
  intro fn hfn
  rw [hro]
  have nd : (w.alloc (.deferred (some []))).heap.size = w.heap.size + 1 := World.size_alloc _ _
  obtain ⟨R, hR⟩ : ∃ R : LoopState → Option Code → Obj, R = recAt fn a.tmps ps assign body w.heap.size := ⟨_, rfl⟩
  have Rcells : ∀ st pe, (R st pe).isCells = false := fun _ _ => by rw [hR]; rfl
  have Rwalk : ∀ st pe, (R st pe).isWalk = false := fun _ _ => by rw [hR]; rfl
  obtain ⟨V, hV⟩ : ∃ V, (w.alloc (.deferred (some []))).alloc (R .ready none) = V := ⟨_, rfl⟩
  have vs : V.heap.size = w.heap.size + 1 + 1 := by rw [← hV]; simp
  have vl : V.heap[w.heap.size + 1]? = some (R .ready none) := by
    have := World.alloc_heap_new (w.alloc (.deferred (some []))) (R .ready none)
    rwa [nd, hV] at this
  have vd : V.heap[w.heap.size]? = some (.deferred (some [])) := by
    rw [← hV]; exact (Below.heap_alloc _ _ _ (by rw [nd]; omega)).trans (World.alloc_heap_new w _)
  have vI : I 0 V := by rw [← hV]; exact hI.alloc _ (hI.alloc _ h0)
  have vb : Below w0.heap.size w0 V := by
    have : Below w.heap.size w V := by rw [← hV]; exact ((Below.refl _ w).alloc (Nat.le_refl _) _).alloc (by rw [nd]; omega) _
    exact hb0.trans (this.mono hb0.size)
  refine ⟨w.heap.size + 1, [{ target := .collected w.heap.size, args := #[] }], V, { target := .fn (.func gf) lb, args := #[.func (.yield (w.heap.size + 1)) #[] #[]] }, V, gf,
    #[.func (.yield (w.heap.size + 1)) #[] #[]] ++ lb, V, ?_, ?_, ?_, ?_, fun _ => h1, ?_⟩
  · rw [← hV, hR]; exact run_enterLoop_outer _ _ _ _ _
  · simp only [resolve, hg]
    simp [go_sem]
  · intro f' hf'
    simp [Target.leads] at hf'
    subst hf'
    exact hF
  · simp [invoke, go_sem, eg]
  · refine (hseq (w.heap.size + 1)
      (fun pre W => I pre W ∧ W.heap[w.heap.size + 1]? = some (R .ready none) ∧ W.heap[w.heap.size]? = some (.deferred (some []))) V vb
      (fun s A B hs hk => ⟨hI s A B none hs.1 hk (fun r e => by cases e), (hk.block _ (Array.getElem?_eq_some_iff.1 hs.2.1).1 (by simp)).trans hs.2.1, (hk.block _ (Array.getElem?_eq_some_iff.1 hs.2.2).1 (by simp)).trans hs.2.2⟩)
      ?_ ⟨vI, vl, vd⟩).mono ?_
    · rintro pre x W hx ⟨hi, hl, hk⟩
      have hl0 := hl
      rw [hR] at hl0
      have hy := run_yield (P := P) (args := encs x) hl0 (hps x)
      refine ⟨fn, _, assign, body, hy, roundIn_of_wpIn hfn (hassign _ pre x W _ hx hi ?_)⟩
      intro a' X kx bx mx
      have xl := kx.same _ _ (by omega) hl (Rcells _ _)
      have xd := kx.same _ _ (Nat.le_refl _) hk rfl
      have xlt : w.heap.size + 1 < X.heap.size := (Array.getElem?_eq_some_iff.1 xl).1
      have xl0 := xl
      rw [hR] at xl0
      refine ⟨_, run_beginRound xl0 rfl, ?_⟩
      obtain ⟨Y, hY⟩ : ∃ Y, X.putObj (w.heap.size + 1) (R .busy none) = Y := ⟨_, rfl⟩
      have yl : Y.heap[w.heap.size + 1]? = some (R .busy none) := by rw [← hY]; exact World.putObj_heap_same xlt
      have yd : Y.heap[w.heap.size]? = some (.deferred (some [])) := by rw [← hY]; exact (World.putObj_heap_other (by omega)).trans xd
      have yb : Kp X Y := by rw [← hY]; exact hKb X _ _ _ (by omega) xl (Rcells _ _) (Rwalk _ _)
      have ym : M pre x a' Y := by rw [← hY]; exact (hM pre x a').putObj (s := ()) _ mx (by omega) xl (Rcells _ _)
      have hY' : X.putObj (w.heap.size + 1) (.loop { state := .busy, pending := none, fn, tmps := a.tmps, params := ps, assign, body, defers := w.heap.size }) = Y := by rw [← hY, hR]; rfl
      refine wpIn_mono (by rw [hY']; exact hbody _ pre x a' Y hx ym) ?_
      rintro e a3 Z hz
      cases e with
      | normal =>
        obtain ⟨kz, bz, iz⟩ := hz
        have zl := kz.same _ _ (by omega) yl (Rcells _ _)
        have zd := kz.same _ _ (Nat.le_refl _) yd rfl
        have zlt := (Array.getElem?_eq_some_iff.1 zl).1
        have zl0 := zl
        rw [hR] at zl0
        refine ⟨_, _, run_endRound (P := P) none zl0, ⟨rfl, ⟨hI.putObj _ iz (by omega) zl (Rcells _ _), ?_, (World.putObj_heap_other (by omega)).trans zd⟩, hKt bx (hKt (hKt yb bz) (hKb Z _ _ _ (by omega) zl (Rcells _ _) (Rwalk _ _)))⟩⟩
        rw [World.putObj_heap_same zlt, hR]
        rfl
      | ret => exact hz.elim
      | exit id => exact hz.elim
      | goto t => exact hz.elim
      | panic ch => exact hz.elim
      | outgrown => exact hz.elim
    · rintro e Z ⟨⟨v, rfl⟩, iz, zl, zd⟩
      have zl0 := zl
      rw [hR] at zl0
      exact ⟨none, _, run_endLoop (P := P) zl0 (by simp), hdone _ _ (Nat.le_refl _) (hI.putObj _ iz (by omega) zl (Rcells _ _)) ((World.putObj_heap_other (by omega)).trans zd)⟩
end
end Go.Proofs.YtjmagehfkcnjjaaGreatDoor

/-
  A range over a function that yields known values, one behind the other, and makes no cells turn of its own: what holds is told by how many have come. The body may turn any cells but those of some blocks. The body may return: the iterator is told, and stops.
-/
namespace Go.Proofs.YtjmagehfkcnjjaaGreatDoor
set_option linter.unusedVariables false
open Go.RowKit Go.Shelf

section
variable {P : Program} {F : Fence} {n : Nat}
/-- An iterator that yields these values. -/
def SeqStop {α : Type} (F : Fence) (n : Nat) (P : Program) (g : Nat) (lb : Array Value) (encs : α → Array Value) (Kp : World → World → Prop) (xs : List α) (w : World) : Prop :=
  ∀ (l : Nat) (J : Nat → World → Prop) (Z : World → Prop) (W : World), Below w.heap.size w W → (∀ (k : Nat) (A B : World), J k A → A.grownBy B none → J k B) → (∀ (A B : World), Z A → A.grownBy B none → Z B) →
    (∀ k x W1, xs[k]? = some x → J k W1 → YieldAt F (n - 1) P l (encs x) W1 fun e W' => Kp W1 W' ∧ ((e = .returned (.bool true) ∧ J (k + 1) W') ∨ (e = .returned (.bool false) ∧ Z W'))) →
    J 0 W →
    CallsIn F n P g (#[.func (.yield l) #[] #[]] ++ lb) W fun e W' => (∃ v, e = .returned v) ∧ (J xs.length W' ∨ Z W')

/-- how a round's body may end: at its end, or by a return -/
def bodyEnd (B : Nat) (Kp : World → World → Prop) (I Y : World → Prop) (W : World) : Exit → Act → World → Prop
  | .normal, _, W' => KeepsFrom B W W' ∧ Kp W W' ∧ I W'
  | .ret, _, W' => KeepsFrom B W W' ∧ Kp W W' ∧ Y W'
  | _, _, _ => False
theorem wpIn_rangeFunc_stop {α : Type} {g : Operand} {ps : Array Tmp} {assign body : Code} {Q : Exit → Act → World → Prop} {a : Act} {w : World}
    (hro : F.round = none) (h1 : 1 ≤ n) {gf : Nat} {lb : Array Value} (hg : a.eval g = .func (.func gf) #[] lb) (hF : F.fn gf) (eg : ∀ args w, (callFunc gf args).run P w = .ok (.enter gf args) w)
    {encs : α → Array Value} {Kp : World → World → Prop} {xs : List α} {w0 : World} (hseq : SeqStop F (n - 1) P gf lb encs Kp xs w0)
    (hKt : ∀ {A B C : World}, Kp A B → Kp B C → Kp A C) (hKb : ∀ (W : World) (l : Nat) (o o' : Obj), w.heap.size ≤ l → W.heap[l]? = some o → o.isCells = false → o.isWalk = false → Kp W (W.putObj l o'))
    (hb0 : Below w0.heap.size w0 w) (hps : ∀ x, (encs x).size = ps.size)
    (I : Nat → World → Prop) (hI : OwnFrom w.heap.size I) (h0 : I 0 w) (Rt : World → Prop) (hRt : OwnFrom w.heap.size (fun (_ : Unit) => Rt)) (M : Nat → α → Act → World → Prop) (hM : ∀ pre x a', OwnFrom w.heap.size (fun (_ : Unit) W => M pre x a' W))
    (hassign : ∀ (l : Nat) (pre : Nat) (x : α) (W : World) (K : Act → World → Prop), xs[pre]? = some x → I pre W → (∀ a' W', KeepsFrom w.heap.size W W' → Kp W W' → M pre x a' W' → K a' W') →
      assign.wpIn (F.inRound l) (n - 1 - 1) P (Exit.then K (fun _ _ _ => False)) { tmps := (ps.zip (encs x)).foldl (fun t (p, v) => t.setIfInBounds p v) a.tmps, defers := [] } W)
    (hbody : ∀ (l : Nat) (pre : Nat) (x : α) (a' : Act) (W : World), xs[pre]? = some x → M pre x a' W →
      body.wpIn (F.inRound l) (n - 1 - 1) P (bodyEnd w.heap.size Kp (I (pre + 1)) Rt W) a' W)
    (hdone : ∀ (D : Nat) (W : World), w.heap.size ≤ D → I xs.length W → W.heap[D]? = some (.deferred (some [])) → Q .normal { a with defers := { target := .collected D, args := #[] } :: a.defers } W)
    (hret : ∀ (D : Nat) (W : World), w.heap.size ≤ D → Rt W → W.heap[D]? = some (.deferred (some [])) → Q .ret { a with defers := { target := .collected D, args := #[] } :: a.defers } W) :
    (Code.rangeFunc g ps assign body).wpIn F n P Q a w := by
  refine wpIn_rangeFunc ?_
  intro fn hfn
  rw [hro]
  have nd : (w.alloc (.deferred (some []))).heap.size = w.heap.size + 1 := World.size_alloc _ _
  obtain ⟨R, hR⟩ : ∃ R : LoopState → Option Code → Obj, R = recAt fn a.tmps ps assign body w.heap.size := ⟨_, rfl⟩
  have Rcells : ∀ st pe, (R st pe).isCells = false := fun _ _ => by rw [hR]; rfl
  have Rwalk : ∀ st pe, (R st pe).isWalk = false := fun _ _ => by rw [hR]; rfl
  obtain ⟨V, hV⟩ : ∃ V, (w.alloc (.deferred (some []))).alloc (R .ready none) = V := ⟨_, rfl⟩
  have vs : V.heap.size = w.heap.size + 1 + 1 := by rw [← hV]; simp
  have vl : V.heap[w.heap.size + 1]? = some (R .ready none) := by
    have := World.alloc_heap_new (w.alloc (.deferred (some []))) (R .ready none)
    rwa [nd, hV] at this
  have vd : V.heap[w.heap.size]? = some (.deferred (some [])) := by
    rw [← hV]; exact (Below.heap_alloc _ _ _ (by rw [nd]; omega)).trans (World.alloc_heap_new w _)
  have vI : I 0 V := by rw [← hV]; exact hI.alloc _ (hI.alloc _ h0)
  have vb : Below w0.heap.size w0 V := by
    have : Below w.heap.size w V := by rw [← hV]; exact ((Below.refl _ w).alloc (Nat.le_refl _) _).alloc (by rw [nd]; omega) _
    exact hb0.trans (this.mono hb0.size)
  refine ⟨w.heap.size + 1, [{ target := .collected w.heap.size, args := #[] }], V, { target := .fn (.func gf) lb, args := #[.func (.yield (w.heap.size + 1)) #[] #[]] }, V, gf,
    #[.func (.yield (w.heap.size + 1)) #[] #[]] ++ lb, V, ?_, ?_, ?_, ?_, fun _ => h1, ?_⟩
  · rw [← hV, hR]; exact run_enterLoop_outer _ _ _ _ _
  · simp only [resolve, hg]
    simp [go_sem]
  · intro f' hf'
    simp [Target.leads] at hf'
    subst hf'
    exact hF
  · simp [invoke, go_sem, eg]
  · refine (hseq (w.heap.size + 1)
      (fun pre W => I pre W ∧ W.heap[w.heap.size + 1]? = some (R .ready none) ∧ W.heap[w.heap.size]? = some (.deferred (some [])))
      (fun W => Rt W ∧ W.heap[w.heap.size + 1]? = some (R .done (some .ret)) ∧ W.heap[w.heap.size]? = some (.deferred (some []))) V vb
      (fun s A B hs hk => ⟨hI s A B none hs.1 hk (fun r e => by cases e), (hk.block _ (Array.getElem?_eq_some_iff.1 hs.2.1).1 (by simp)).trans hs.2.1, (hk.block _ (Array.getElem?_eq_some_iff.1 hs.2.2).1 (by simp)).trans hs.2.2⟩)
      (fun A B hs hk => ⟨hRt () A B none hs.1 hk (fun r e => by cases e), (hk.block _ (Array.getElem?_eq_some_iff.1 hs.2.1).1 (by simp)).trans hs.2.1, (hk.block _ (Array.getElem?_eq_some_iff.1 hs.2.2).1 (by simp)).trans hs.2.2⟩)
      ?_ ⟨vI, vl, vd⟩).mono ?_
    · rintro pre x W hx ⟨hi, hl, hk⟩
      have hl0 := hl
      rw [hR] at hl0
      have hy := run_yield (P := P) (args := encs x) hl0 (hps x)
      refine ⟨fn, _, assign, body, hy, roundIn_of_wpIn hfn (hassign _ pre x W _ hx hi ?_)⟩
      intro a' X kx bx mx
      have xl := kx.same _ _ (by omega) hl (Rcells _ _)
      have xd := kx.same _ _ (Nat.le_refl _) hk rfl
      have xlt : w.heap.size + 1 < X.heap.size := (Array.getElem?_eq_some_iff.1 xl).1
      have xl0 := xl
      rw [hR] at xl0
      refine ⟨_, run_beginRound xl0 rfl, ?_⟩
      obtain ⟨Y, hY⟩ : ∃ Y, X.putObj (w.heap.size + 1) (R .busy none) = Y := ⟨_, rfl⟩
      have yl : Y.heap[w.heap.size + 1]? = some (R .busy none) := by rw [← hY]; exact World.putObj_heap_same xlt
      have yd : Y.heap[w.heap.size]? = some (.deferred (some [])) := by rw [← hY]; exact (World.putObj_heap_other (by omega)).trans xd
      have yb : Kp X Y := by rw [← hY]; exact hKb X _ _ _ (by omega) xl (Rcells _ _) (Rwalk _ _)
      have ym : M pre x a' Y := by rw [← hY]; exact (hM pre x a').putObj (s := ()) _ mx (by omega) xl (Rcells _ _)
      have hY' : X.putObj (w.heap.size + 1) (.loop { state := .busy, pending := none, fn, tmps := a.tmps, params := ps, assign, body, defers := w.heap.size }) = Y := by rw [← hY, hR]; rfl
      refine wpIn_mono (by rw [hY']; exact hbody _ pre x a' Y hx ym) ?_
      rintro e a3 Z hz
      cases e with
      | normal =>
        obtain ⟨kz, bz, iz⟩ := hz
        have zl := kz.same _ _ (by omega) yl (Rcells _ _)
        have zd := kz.same _ _ (Nat.le_refl _) yd rfl
        have zlt := (Array.getElem?_eq_some_iff.1 zl).1
        have zl0 := zl
        rw [hR] at zl0
        refine ⟨_, _, run_endRound (P := P) none zl0, ⟨hKt bx (hKt (hKt yb bz) (hKb Z _ _ _ (by omega) zl (Rcells _ _) (Rwalk _ _))), .inl ⟨rfl, ⟨hI.putObj _ iz (by omega) zl (Rcells _ _), ?_, (World.putObj_heap_other (by omega)).trans zd⟩⟩⟩⟩
        rw [World.putObj_heap_same zlt, hR]
        rfl
      | ret =>
        obtain ⟨kz, bz, iz⟩ := hz
        have zl := kz.same _ _ (by omega) yl (Rcells _ _)
        have zd := kz.same _ _ (Nat.le_refl _) yd rfl
        have zlt := (Array.getElem?_eq_some_iff.1 zl).1
        have zl0 := zl
        rw [hR] at zl0
        refine ⟨_, _, run_endRound (P := P) (some .ret) zl0, ⟨hKt bx (hKt (hKt yb bz) (hKb Z _ _ _ (by omega) zl (Rcells _ _) (Rwalk _ _))), .inr ⟨rfl, ⟨hRt.putObj (s := ()) _ iz (by omega) zl (Rcells _ _), ?_, (World.putObj_heap_other (by omega)).trans zd⟩⟩⟩⟩
        rw [World.putObj_heap_same zlt, hR]
        rfl
      | exit id => exact hz.elim
      | goto t => exact hz.elim
      | panic ch => exact hz.elim
      | outgrown => exact hz.elim
    · rintro e Z ⟨⟨v, rfl⟩, ⟨iz, zl, zd⟩ | ⟨iz, zl, zd⟩⟩
      · have zl0 := zl
        rw [hR] at zl0
        exact ⟨none, _, run_endLoop (P := P) zl0 (by simp), hdone _ _ (Nat.le_refl _) (hI.putObj _ iz (by omega) zl (Rcells _ _)) ((World.putObj_heap_other (by omega)).trans zd)⟩
      · have zl0 := zl
        rw [hR] at zl0
        exact ⟨some .ret, _, run_endLoop (P := P) zl0 (by simp), wpIn_ret (hret _ _ (Nat.le_refl _) (hRt.putObj (s := ()) _ iz (by omega) zl (Rcells _ _)) ((World.putObj_heap_other (by omega)).trans zd))⟩
end
end Go.Proofs.YtjmagehfkcnjjaaGreatDoor

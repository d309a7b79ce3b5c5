/-
  The worlds that come after a given one and keep all that lay in it ('Later'), the walk's own rules for them, and the rule for a region that draws its order and whose operations read, reckon, and call functions that keep what lay before.
-/
import Derived.WalkKit
import Derived.WalkSpells
import Derived.WalkLawsBesides
import Derived.Deep.QuietTactic
import Derived.BigQuiet
import Derived.StillTail
import Derived.Deep.RegionWith
import Derived.Deep.DeepCutAuto
import Derived.Deep.CutBlock
import Derived.Lib.Hide
namespace Go.Proofs.YtjmagehfkcnjjaaDoor
set_option linter.unusedVariables false
open Go.RowKit

/-- What a cell reads as behind a store into it, with no premise. -/
@[go_sem] theorem cell_set_same (w : World) (b o : Nat) (v : Value) : (w.setCell ⟨b, o, none⟩ v).cell? ⟨b, o, none⟩ = (w.cell? ⟨b, o, none⟩).map fun _ => v := by
  cases h : w.cell? ⟨b, o, none⟩ with
  | some u => rw [World.cell?_setCell_same w _ v h]; rfl
  | none =>
    unfold World.cell? World.setCell at *
    simp only [Array.getElem?_modify, if_true]
    cases hb : w.heap[b]? with
    | none => simp
    | some x => cases x <;> simp_all

structure Later (w : World) where
  out : World
  below : Below w.heap.size w out

instance (w : World) : Nonempty (Later w) := ⟨⟨w, Below.refl _ _⟩⟩

section
variable {w : World}
/-- What the walk need not know: behind names, so that each rule below is an equation with no premise. -/
def Later.hc (x : Later w) (b o : Nat) : Option Value := x.out.cell? ⟨b, o, none⟩
def Later.hf (x : Later w) (b o : Nat) : Bool := x.out.frozen? ⟨b, o, none⟩
def Later.hl (x : Later w) (b k : Nat) : Prop := b < x.out.heap.size + k
def Later.hm (x : Later w) (b k : Nat) : Prop := b ≤ x.out.heap.size + k
def Later.he (x : Later w) (b k : Nat) : Prop := x.out.heap.size + k = b
@[go_sem] theorem Later.cell (x : Later w) (b o : Nat) : x.out.cell? ⟨b, o, none⟩ = bif decide (b < w.heap.size) then w.cell? ⟨b, o, none⟩ else x.hc b o := by
  by_cases h : b < w.heap.size
  · rw [decide_eq_true h]; exact x.below.cell (p := ⟨b, o, none⟩) h
  · rw [decide_eq_false h]; rfl
@[go_sem] theorem Later.frozen (x : Later w) (b o : Nat) : x.out.frozen? ⟨b, o, none⟩ = bif decide (b < w.heap.size) then w.frozen? ⟨b, o, none⟩ else x.hf b o := by
  by_cases h : b < w.heap.size
  · rw [decide_eq_true h]; exact x.below.frozen (p := ⟨b, o, none⟩) h
  · rw [decide_eq_false h]; rfl
@[go_sem] theorem Later.tape (x : Later w) : x.out.tape = w.tape := x.below.tape
@[go_sem] theorem Later.lt_iff (x : Later w) (b : Nat) : (b < x.out.heap.size) = (b < w.heap.size ∨ x.hl b 0) := by
  have := x.below.size; unfold Later.hl; apply propext; omega
@[go_sem] theorem Later.lt_add_iff (x : Later w) (b k : Nat) : (b < x.out.heap.size + k) = (b < w.heap.size + k ∨ x.hl b k) := by
  have := x.below.size; unfold Later.hl; apply propext; omega
@[go_sem] theorem Later.le_iff (x : Later w) (b : Nat) : (b ≤ x.out.heap.size) = (b ≤ w.heap.size ∨ x.hm b 0) := by
  have := x.below.size; unfold Later.hm; apply propext; omega
@[go_sem] theorem Later.le_add_iff (x : Later w) (b k : Nat) : (b ≤ x.out.heap.size + k) = (b ≤ w.heap.size + k ∨ x.hm b k) := by
  have := x.below.size; unfold Later.hm; apply propext; omega
@[go_sem] theorem Later.eq_iff (x : Later w) (b : Nat) : (x.out.heap.size = b) = (¬ b < w.heap.size ∧ x.he b 0) := by
  have := x.below.size; unfold Later.he; apply propext; omega
@[go_sem] theorem Later.eq_iff' (x : Later w) (b : Nat) : (b = x.out.heap.size) = (¬ b < w.heap.size ∧ x.he b 0) := by
  have := x.below.size; unfold Later.he; apply propext; omega
@[go_sem] theorem Later.eq_add_iff (x : Later w) (b k : Nat) : (x.out.heap.size + k = b) = (¬ b < w.heap.size + k ∧ x.he b k) := by
  have := x.below.size; unfold Later.he; apply propext; omega
@[go_sem] theorem Later.eq_add_iff' (x : Later w) (b k : Nat) : (b = x.out.heap.size + k) = (¬ b < w.heap.size + k ∧ x.he b k) := by
  have := x.below.size; unfold Later.he; apply propext; omega
theorem Later.lt (x : Later w) (b : Nat) (h : b < w.heap.size) : b < x.out.heap.size := Nat.lt_of_lt_of_le h x.below.size
theorem Later.size_le (x : Later w) : w.heap.size ≤ x.out.heap.size := x.below.size
theorem Later.trans {B : Nat} {a : World} (x : Later w) (hB : B ≤ w.heap.size) (h : Below B a w) : Below B a x.out := h.trans (x.below.mono hB)
theorem Later.after {W : World} (h : Below w.heap.size w W) (x : Later W) : Below w.heap.size w x.out := h.trans (x.below.mono h.size)
theorem Later.newer {W : World} (h : Below w.heap.size w W) (o : Obj) : Below w.heap.size w (W.alloc o) := h.alloc h.size o
theorem Later.mk_of {W : World} (h : Below w.heap.size w W) : ∃ x : Later w, W = x.out := ⟨⟨W, h⟩, rfl⟩
theorem Later.self : ∃ x : Later w, w = x.out := ⟨⟨w, Below.refl _ _⟩, rfl⟩

@[go_sem] theorem lt_up2 (n : Nat) : n < n + 1 + 1 := by omega
@[go_sem] theorem lt_up3 (n : Nat) : n < n + 1 + 1 + 1 := by omega
@[go_sem] theorem lt_up4 (n : Nat) : n < n + 1 + 1 + 1 + 1 := by omega
@[go_sem] theorem lt_up5 (n : Nat) : n < n + 1 + 1 + 1 + 1 + 1 := by omega
@[go_sem] theorem lt_up6 (n : Nat) : n < n + 1 + 1 + 1 + 1 + 1 + 1 := by omega
@[go_sem] theorem lt_up7 (n : Nat) : n < n + 1 + 1 + 1 + 1 + 1 + 1 + 1 := by omega
@[go_sem] theorem lt_up8 (n : Nat) : n < n + 1 + 1 + 1 + 1 + 1 + 1 + 1 + 1 := by omega
@[go_sem] theorem lt_up9 (n : Nat) : n < n + 1 + 1 + 1 + 1 + 1 + 1 + 1 + 1 + 1 := by omega
@[go_sem] theorem lt_up10 (n : Nat) : n < n + 1 + 1 + 1 + 1 + 1 + 1 + 1 + 1 + 1 + 1 := by omega
@[go_sem] theorem lt_up11 (n : Nat) : n < n + 1 + 1 + 1 + 1 + 1 + 1 + 1 + 1 + 1 + 1 + 1 := by omega
@[go_sem] theorem lt_up12 (n : Nat) : n < n + 1 + 1 + 1 + 1 + 1 + 1 + 1 + 1 + 1 + 1 + 1 + 1 := by omega

/-- A callee's contract, met in a later world. -/
theorem Later.call {P : Program} {f : FuncId} {args : Array Value} {v : Value} (x : Later w)
    (h : Calls P f args x.out fun e w' => e = .returned v ∧ ∃ y : Later x.out, w' = y.out) :
    Calls P f args x.out fun e w'' => e = .returned v ∧ ∃ y : Later w, w'' = y.out :=
  h.mono fun _ _ ⟨he, y, hy⟩ => ⟨he, ⟨⟨_, x.below.trans (y.below.mono x.below.size)⟩, hy⟩⟩

theorem Later.call_same {P : Program} {f : FuncId} {args : Array Value} {v : Value} (x : Later w)
    (h : Calls P f args x.out fun e w' => e = .returned v ∧ x.out = w') :
    Calls P f args x.out fun e w'' => e = .returned v ∧ ∃ y : Later w, w'' = y.out :=
  h.mono fun _ _ ⟨he, hy⟩ => ⟨he, ⟨x, hy.symm⟩⟩

theorem wpQuiet_post {P : Program} {ops : Array Oper} {C : World → Prop} {Q Q' : Act → Prop} (h : ∀ a, Q a → Q' a) : ∀ (l : List Oper) (a : Act), wpQuiet P ops C Q l a → wpQuiet P ops C Q' l a
  | [], a, hh => h a hh
  | o :: l, a, hh => by
    unfold wpQuiet at *
    split
    · rename_i hw
      rw [if_pos hw] at hh
      exact Oper.quiet_mono (wpQuiet_post h l) hh
    · rename_i hw
      rw [if_neg hw] at hh
      exact wpQuiet_post h l _ hh

theorem wp_region_later {P : Program} {id : Nat} {Q : Exit → Act → World → Prop} {a : Act} {l : List Oper} (hm : P.follows .mixedOrders = true) (hB : Region.lexB .any l.toArray = true)
    (h : wpQuiet P l.toArray (fun w' => ∃ x : Later w, w' = x.out) (fun a' => ∀ x : Later w, Q .normal a' x.out) l a) : (Code.region id l.toArray true).wp P Q a w := by
  refine wp_region_quiet (C := fun w' => ∃ x : Later w, w' = x.out) hm hB ⟨⟨w.drew, (Below.refl _ _).drew⟩, rfl⟩ ?_
  refine wpQuiet_post (fun a' h' w' ⟨x, hx⟩ => ?_) _ _ (by simpa using h)
  rw [hx]
  exact h' x
end

/-! ### the same, with a tail whose order is forced -/
section
variable {P : Program} {ops : Array Oper} {md : Region.Mode} {C : World → Prop}
def wpAnyM (P : Program) (md : Region.Mode) (ops : Array Oper) (C : World → Prop) (n : Nat) (L : Array Bool → Act → Prop) : Nat → Array Bool → Act → Prop
  | 0, listed, a => L listed a
  | f + 1, listed, a =>
    Region.ready md ops listed ≠ [] ∧ ∀ i ∈ Region.ready md ops listed, i < n ∧ qOp P ops C i (wpAnyM P md ops C n L f (listed.setIfInBounds i true)) a

theorem wpAny_of_headM {n g : Nat} {L : Array Bool → Act → Prop} {Q' : Exit → Act → World → Prop} (hL : ∀ listed a w, C w → L listed a → wpAny P md ops Q' g listed a w) :
    ∀ (f : Nat) (listed : Array Bool) (a : Act) (w : World), C w → wpAnyM P md ops C n L f listed a → wpAny P md ops Q' (f + g) listed a w
  | 0, listed, a, w, hw, h => by rw [Nat.zero_add]; exact hL _ _ _ hw h
  | f + 1, listed, a, w, hw, h => by
    rw [show f + 1 + g = (f + g) + 1 by omega]
    exact ⟨fun h0 => absurd h0 h.1, fun i hi => wpOp_of_qOp hw (fun a' w' hw' h' => wpAny_of_headM hL f _ a' w' hw' h') (h.2 i hi).2⟩

theorem wpAnyM_first {n i : Nat} {oi : Oper} {v : Value} {L : Array Bool → Act → Prop} (hi : ops[i]? = some oi) (hsel : ∀ (j : Nat) (o : Oper) cs b, ops[j]? = some o → o.op ≠ .select cs b)
    (hs : Region.sinkB md ops n = true) (hc : Region.chainB md ops n = true) (hn : n < ops.size) (hin : i < n)
    (hdone : ∀ listed a, L listed a → ∀ j ∈ Region.ready md ops listed, n ≤ j) :
    ∀ (f : Nat) (listed : Array Bool) (a : Act), HeadInv md ops n listed →
      (∀ j oj, ops[j]? = some oj → j ≠ i → listed.getD j true = false → (∀ e ∈ oj.after, Region.binds md e = true → e.on ≠ i) → oi.apart ops oj = true) →
      i ∈ Region.ready md ops listed → YieldsIn P ops C oi v a →
      wpAnyM P md ops C n L f (listed.setIfInBounds i true) (a.put oi.dst v) → wpAnyM P md ops C n L (f + 1) listed a := by
  intro f
  induction f with
  | zero =>
    intro listed a inv _ hr hy H
    have hun := (mem_ready.1 hr).1
    refine ⟨fun h => (by rw [h] at hr; cases hr), fun j hj => ?_⟩
    have hjn : j < n := by
      rcases Nat.lt_or_ge j n with h | h
      · exact h
      · exact absurd hj (tail_waits hs hc hn inv _ i rfl hin hun j h)
    refine ⟨hjn, ?_⟩
    by_cases hji : j = i
    · subst hji; exact hy.qOp hi H
    · have := hdone _ _ H j (ready_mono hj hji)
      omega
  | succ f ih =>
    intro listed a inv hfree hr hy H
    have hun := (mem_ready.1 hr).1
    refine ⟨fun h => (by rw [h] at hr; cases hr), fun j hj => ?_⟩
    have hjn : j < n := by
      rcases Nat.lt_or_ge j n with h | h
      · exact h
      · exact absurd hj (tail_waits hs hc hn inv _ i rfl hin hun j h)
    refine ⟨hjn, ?_⟩
    by_cases hji : j = i
    · subst hji; exact hy.qOp hi H
    · have h1 := (H.2 j (ready_mono hj hji)).2
      obtain ⟨hjun, oj, hoj, hall⟩ := mem_ready.1 hj
      have hnot : ∀ e ∈ oj.after, Region.binds md e = true → e.on ≠ i := fun e he hb heq => by
        have h1 := hall e he hb
        rw [heq, getD_both hun] at h1
        cases h1
      have h2 := qOp_put hoj (hfree j oj hoj hji hjun hnot) (fun cs b => hsel i oi cs b hi) (fun cs b => hsel j oj cs b hoj) hy h1
      have hfree' : ∀ k ok, ops[k]? = some ok → k ≠ i → (listed.setIfInBounds j true).getD k true = false →
          (∀ e ∈ ok.after, Region.binds md e = true → e.on ≠ i) → oi.apart ops ok = true := fun k ok hk hki hun hno => by
        refine hfree k ok hk hki ?_ hno
        by_cases hjk : j = k
        · subst hjk; exact hjun
        · rw [getD_set_ne true hjk] at hun; exact hun
      refine qOp_mono (fun a' h3 => ih (listed.setIfInBounds j true) a' (inv.set hj hjn) hfree' (ready_mono hr (Ne.symm hji)) h3.1 ?_) h2
      rw [Array.setIfInBounds_comm _ _ hji]
      exact h3.2

theorem wpAnyM_lex {n g : Nat} {Lq : Act → Prop} (hsel : Region.noSelect ops = true) (hs : Region.sinkB md ops n = true) (hc : Region.chainB md ops n = true) (hn : n < ops.size) :
    ∀ (l : List Oper) (k : Nat) (listed : Array Bool) (a : Act), (∀ j, j < l.length → l[j]? = ops[k + j]?) → k + l.length = n → HeadInv md ops n listed →
    Region.lexHead md ops g l.length k listed = true → wpQuiet P ops C Lq l a →
    wpAnyM P md ops C n (fun listed' a' => Region.seqB md ops g n listed' = true ∧ Lq a') l.length listed a
  | [], k, listed, a, _, hk, _, hB, h => by
    have : k = n := by simpa using hk
    subst this
    exact ⟨by simpa [Region.lexHead] using hB, h⟩
  | o :: l, k, listed, a, hl, hk, inv, hB, h => by
    have h0 : ops[k]? = some o := by simpa using (hl 0 (by simp)).symm
    simp only [List.length_cons, Region.lexHead, Bool.and_eq_true] at hB
    obtain ⟨⟨hr, hf⟩, hB'⟩ := hB
    have hkn : k < n := by simp only [List.length_cons] at hk; omega
    have hr' : k ∈ Region.ready md ops listed := by simpa using hr
    have hst : qOp P ops C k (wpQuiet P ops C Lq l) a := by unfold qOp; simp only [h0]; exact h
    obtain ⟨v, hy, hK⟩ := yieldsIn_of_qOp h0 hst
    exact wpAnyM_first h0 (Region.noSelect_spec hsel) hs hc hn hkn (fun listed' a' hL => seqB_ready hL.1) l.length listed a inv (Region.free_spec h0 hf) hr' hy
      (wpAnyM_lex hsel hs hc hn l (k + 1) _ _ (fun j hj => by have := hl (j + 1) (by simp; omega); simpa [Nat.add_assoc, Nat.add_comm 1 j] using this) (by simp only [List.length_cons] at hk; omega) (inv.set hr' hkn) hB' hK)

theorem wp_region_later_tail {w : World} {id : Nat} {Q : Exit → Act → World → Prop} {a : Act} {l : List Oper} (n : Nat) (hm : P.follows .mixedOrders = true) (hB : Region.lexTailB .any l.toArray n = true)
    (h : wpQuiet P l.toArray (fun w' => ∃ x : Later w, w' = x.out) (fun a' => ∀ x : Later w, wpList P l.toArray Q (l.drop n) a' x.out) (l.take n) a) : (Code.region id l.toArray true).wp P Q a w := by
  simp only [Region.lexTailB, Bool.and_eq_true, decide_eq_true_eq] at hB
  obtain ⟨⟨⟨⟨hsel, hn⟩, hs⟩, hc⟩, hlex⟩ := hB
  have hn' : n < l.length := by simpa using hn
  have htl : (l.take n).length = n := by simp; omega
  have hdl : (l.drop n).length = l.toArray.size - n := by simp
  have inv0 : HeadInv .any l.toArray n (Array.replicate l.toArray.size false) :=
    ⟨by simp, fun j oj _ hl => (by rw [getD_replicate_false] at hl; cases hl), fun t _ ht => getD_in (by simpa using ht) (getD_replicate_false _ _)⟩
  have H := wpAnyM_lex (md := .any) (g := l.toArray.size - n) hsel hs hc hn (l.take n) 0 _ a (fun j hj => by
    have hj' : j < n := by rw [htl] at hj; exact hj
    simp [hj']) (by simpa using htl) inv0 (by rw [htl]; exact hlex) h
  refine wp_region_any hm ?_
  have hC : ∃ x : Later w, w.drew = x.out := ⟨⟨w.drew, (Below.refl _ _).drew⟩, rfl⟩
  have := wpAny_of_headM (Q' := Q) (g := l.toArray.size - n) (C := fun w' => ∃ x : Later w, w' = x.out) (fun listed a' w' hw' hL => by
    obtain ⟨x, rfl⟩ := hw'
    have := wpAny_of_seq (md := .any) (Q' := Q) (l.drop n) n listed a' x.out (fun j => by simp [List.getElem?_drop]) (by rw [hdl]; exact hL.1) (hL.2 x)
    rwa [hdl] at this) _ _ _ w.drew hC H
  rw [htl, show n + (l.toArray.size - n) = l.toArray.size by omega] at this
  exact this
end

/-- the guide's own small lemma -/
theorem ret_int {k : IntKind} {a b : Int} (h : a = b) : Ending.returned (.int k a) = .returned (.int k b) := by rw [h]
end Go.Proofs.YtjmagehfkcnjjaaDoor

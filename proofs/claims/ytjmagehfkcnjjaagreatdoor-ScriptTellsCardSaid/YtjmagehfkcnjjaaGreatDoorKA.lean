/-
  Texts that stand as one.
-/
import Derived.WalkKit
import Derived.WalkSpells
import Derived.WalkLawsBesides
import Derived.Deep.QuietTactic
import Derived.BigQuiet
import Derived.StillTail
import Derived.Deep.RegionWith
import Derived.Deep.DeepCutAuto
import Derived.Deep.CutBlock
import Derived.Lib.Hide
import Derived.Laws.Bits64b
import Derived.Laws.MathBits
import Derived.Lib.BitFns
import Derived.Test.YtjmagehfkcnjjaaGreatDoorRows
import Derived.Shelf.Spec.BitsCarry
import Derived.Test.YtjmagehfkcnjjaaGreatDoorShelf
/-
  The worlds that come after a given one and keep all that lay in it ('Later'), the walk's own rules for them, and the rule for a region that draws its order and whose operations read, reckon, and call functions that keep what lay before.
-/
namespace Go.Proofs.YtjmagehfkcnjjaaGreatDoor
set_option linter.unusedVariables false
open Go.RowKit

/-- What a cell reads as behind a store into it, with no premise. -/
@[go_sem] theorem cell_set_same (w : World) (b o : Nat) (v : Value) : (w.setCell ⟨b, o, none⟩ v).cell? ⟨b, o, none⟩ = (w.cell? ⟨b, o, none⟩).map fun _ => v := by
  cases h : w.cell? ⟨b, o, none⟩ with
  | some u => rw [World.cell?_setCell_same w _ v h]; rfl
  | none =>
    unfold World.cell? World.setCell at *
    simp only [Array.getElem?_modify, if_true]
    cases hb : w.heap[b]? with
    | none => simp
    | some x => cases x <;> simp_all

structure Later (w : World) where
  out : World
  below : Below w.heap.size w out

instance (w : World) : Nonempty (Later w) := ⟨⟨w, Below.refl _ _⟩⟩

section
variable {w : World}
/-- What the walk need not know: behind names, so that each rule below is an equation with no premise. -/
def Later.hc (x : Later w) (b o : Nat) : Option Value := x.out.cell? ⟨b, o, none⟩
def Later.hf (x : Later w) (b o : Nat) : Bool := x.out.frozen? ⟨b, o, none⟩
def Later.hl (x : Later w) (b k : Nat) : Prop := b < x.out.heap.size + k
def Later.hm (x : Later w) (b k : Nat) : Prop := b ≤ x.out.heap.size + k
def Later.he (x : Later w) (b k : Nat) : Prop := x.out.heap.size + k = b
@[go_sem] theorem Later.cell (x : Later w) (b o : Nat) : x.out.cell? ⟨b, o, none⟩ = bif decide (b < w.heap.size) then w.cell? ⟨b, o, none⟩ else x.hc b o := by
  by_cases h : b < w.heap.size
  · rw [decide_eq_true h]; exact x.below.cell (p := ⟨b, o, none⟩) h
  · rw [decide_eq_false h]; rfl
@[go_sem] theorem Later.frozen (x : Later w) (b o : Nat) : x.out.frozen? ⟨b, o, none⟩ = bif decide (b < w.heap.size) then w.frozen? ⟨b, o, none⟩ else x.hf b o := by
  by_cases h : b < w.heap.size
  · rw [decide_eq_true h]; exact x.below.frozen (p := ⟨b, o, none⟩) h
  · rw [decide_eq_false h]; rfl
@[go_sem] theorem Later.tape (x : Later w) : x.out.tape = w.tape := x.below.tape
@[go_sem] theorem Later.lt_iff (x : Later w) (b : Nat) : (b < x.out.heap.size) = (b < w.heap.size ∨ x.hl b 0) := by
  have := x.below.size; unfold Later.hl; apply propext; omega
@[go_sem] theorem Later.lt_add_iff (x : Later w) (b k : Nat) : (b < x.out.heap.size + k) = (b < w.heap.size + k ∨ x.hl b k) := by
  have := x.below.size; unfold Later.hl; apply propext; omega
@[go_sem] theorem Later.le_iff (x : Later w) (b : Nat) : (b ≤ x.out.heap.size) = (b ≤ w.heap.size ∨ x.hm b 0) := by
  have := x.below.size; unfold Later.hm; apply propext; omega
@[go_sem] theorem Later.le_add_iff (x : Later w) (b k : Nat) : (b ≤ x.out.heap.size + k) = (b ≤ w.heap.size + k ∨ x.hm b k) := by
  have := x.below.size; unfold Later.hm; apply propext; omega
@[go_sem] theorem Later.eq_iff (x : Later w) (b : Nat) : (x.out.heap.size = b) = (¬ b < w.heap.size ∧ x.he b 0) := by
  have := x.below.size; unfold Later.he; apply propext; omega
@[go_sem] theorem Later.eq_iff' (x : Later w) (b : Nat) : (b = x.out.heap.size) = (¬ b < w.heap.size ∧ x.he b 0) := by
  have := x.below.size; unfold Later.he; apply propext; omega
@[go_sem] theorem Later.eq_add_iff (x : Later w) (b k : Nat) : (x.out.heap.size + k = b) = (¬ b < w.heap.size + k ∧ x.he b k) := by
  have := x.below.size; unfold Later.he; apply propext; omega
@[go_sem] theorem Later.eq_add_iff' (x : Later w) (b k : Nat) : (b = x.out.heap.size + k) = (¬ b < w.heap.size + k ∧ x.he b k) := by
  have := x.below.size; unfold Later.he; apply propext; omega
theorem Later.lt (x : Later w) (b : Nat) (h : b < w.heap.size) : b < x.out.heap.size := Nat.lt_of_lt_of_le h x.below.size
theorem Later.size_le (x : Later w) : w.heap.size ≤ x.out.heap.size := x.below.size
theorem Later.trans {B : Nat} {a : World} (x : Later w) (hB : B ≤ w.heap.size) (h : Below B a w) : Below B a x.out := h.trans (x.below.mono hB)
theorem Later.after {W : World} (h : Below w.heap.size w W) (x : Later W) : Below w.heap.size w x.out := h.trans (x.below.mono h.size)
theorem Later.newer {W : World} (h : Below w.heap.size w W) (o : Obj) : Below w.heap.size w (W.alloc o) := h.alloc h.size o
theorem Later.mk_of {W : World} (h : Below w.heap.size w W) : ∃ x : Later w, W = x.out := ⟨⟨W, h⟩, rfl⟩
theorem Later.self : ∃ x : Later w, w = x.out := ⟨⟨w, Below.refl _ _⟩, rfl⟩

@[go_sem] theorem lt_up2 (n : Nat) : n < n + 1 + 1 := by omega
@[go_sem] theorem lt_up3 (n : Nat) : n < n + 1 + 1 + 1 := by omega
@[go_sem] theorem lt_up4 (n : Nat) : n < n + 1 + 1 + 1 + 1 := by omega
@[go_sem] theorem lt_up5 (n : Nat) : n < n + 1 + 1 + 1 + 1 + 1 := by omega
@[go_sem] theorem lt_up6 (n : Nat) : n < n + 1 + 1 + 1 + 1 + 1 + 1 := by omega
@[go_sem] theorem lt_up7 (n : Nat) : n < n + 1 + 1 + 1 + 1 + 1 + 1 + 1 := by omega
@[go_sem] theorem lt_up8 (n : Nat) : n < n + 1 + 1 + 1 + 1 + 1 + 1 + 1 + 1 := by omega
@[go_sem] theorem lt_up9 (n : Nat) : n < n + 1 + 1 + 1 + 1 + 1 + 1 + 1 + 1 + 1 := by omega
@[go_sem] theorem lt_up10 (n : Nat) : n < n + 1 + 1 + 1 + 1 + 1 + 1 + 1 + 1 + 1 + 1 := by omega
@[go_sem] theorem lt_up11 (n : Nat) : n < n + 1 + 1 + 1 + 1 + 1 + 1 + 1 + 1 + 1 + 1 + 1 := by omega
@[go_sem] theorem lt_up12 (n : Nat) : n < n + 1 + 1 + 1 + 1 + 1 + 1 + 1 + 1 + 1 + 1 + 1 + 1 := by omega

/-- A callee's contract, met in a later world. -/
theorem Later.call {P : Program} {f : FuncId} {args : Array Value} {v : Value} (x : Later w)
    (h : Calls P f args x.out fun e w' => e = .returned v ∧ ∃ y : Later x.out, w' = y.out) :
    Calls P f args x.out fun e w'' => e = .returned v ∧ ∃ y : Later w, w'' = y.out :=
  h.mono fun _ _ ⟨he, y, hy⟩ => ⟨he, ⟨⟨_, x.below.trans (y.below.mono x.below.size)⟩, hy⟩⟩

theorem Later.call_same {P : Program} {f : FuncId} {args : Array Value} {v : Value} (x : Later w)
    (h : Calls P f args x.out fun e w' => e = .returned v ∧ x.out = w') :
    Calls P f args x.out fun e w'' => e = .returned v ∧ ∃ y : Later w, w'' = y.out :=
  h.mono fun _ _ ⟨he, hy⟩ => ⟨he, ⟨x, hy.symm⟩⟩

theorem wpQuiet_post {P : Program} {ops : Array Oper} {C : World → Prop} {Q Q' : Act → Prop} (h : ∀ a, Q a → Q' a) : ∀ (l : List Oper) (a : Act), wpQuiet P ops C Q l a → wpQuiet P ops C Q' l a
  | [], a, hh => h a hh
  | o :: l, a, hh => by
    unfold wpQuiet at *
    split
    · rename_i hw
      rw [if_pos hw] at hh
      exact Oper.quiet_mono (wpQuiet_post h l) hh
    · rename_i hw
      rw [if_neg hw] at hh
      exact wpQuiet_post h l _ hh

theorem wp_region_later {P : Program} {id : Nat} {Q : Exit → Act → World → Prop} {a : Act} {l : List Oper} (hm : P.follows .mixedOrders = true) (hB : Region.lexB .any l.toArray = true)
    (h : wpQuiet P l.toArray (fun w' => ∃ x : Later w, w' = x.out) (fun a' => ∀ x : Later w, Q .normal a' x.out) l a) : (Code.region id l.toArray true).wp P Q a w := by
  refine wp_region_quiet (C := fun w' => ∃ x : Later w, w' = x.out) hm hB ⟨⟨w.drew, (Below.refl _ _).drew⟩, rfl⟩ ?_
  refine wpQuiet_post (fun a' h' w' ⟨x, hx⟩ => ?_) _ _ (by simpa using h)
  rw [hx]
  exact h' x
end

/-! ### the same, with a tail whose order is forced -/
section
variable {P : Program} {ops : Array Oper} {md : Region.Mode} {C : World → Prop}
def wpAnyM (P : Program) (md : Region.Mode) (ops : Array Oper) (C : World → Prop) (n : Nat) (L : Array Bool → Act → Prop) : Nat → Array Bool → Act → Prop
  | 0, listed, a => L listed a
  | f + 1, listed, a =>
    Region.ready md ops listed ≠ [] ∧ ∀ i ∈ Region.ready md ops listed, i < n ∧ qOp P ops C i (wpAnyM P md ops C n L f (listed.setIfInBounds i true)) a

theorem wpAny_of_headM {n g : Nat} {L : Array Bool → Act → Prop} {Q' : Exit → Act → World → Prop} (hL : ∀ listed a w, C w → L listed a → wpAny P md ops Q' g listed a w) :
    ∀ (f : Nat) (listed : Array Bool) (a : Act) (w : World), C w → wpAnyM P md ops C n L f listed a → wpAny P md ops Q' (f + g) listed a w
  | 0, listed, a, w, hw, h => by rw [Nat.zero_add]; exact hL _ _ _ hw h
  | f + 1, listed, a, w, hw, h => by
    rw [show f + 1 + g = (f + g) + 1 by omega]
    exact ⟨fun h0 => absurd h0 h.1, fun i hi => wpOp_of_qOp hw (fun a' w' hw' h' => wpAny_of_headM hL f _ a' w' hw' h') (h.2 i hi).2⟩

theorem wpAnyM_first {n i : Nat} {oi : Oper} {v : Value} {L : Array Bool → Act → Prop} (hi : ops[i]? = some oi) (hsel : ∀ (j : Nat) (o : Oper) cs b, ops[j]? = some o → o.op ≠ .select cs b)
    (hs : Region.sinkB md ops n = true) (hc : Region.chainB md ops n = true) (hn : n < ops.size) (hin : i < n)
    (hdone : ∀ listed a, L listed a → ∀ j ∈ Region.ready md ops listed, n ≤ j) :
    ∀ (f : Nat) (listed : Array Bool) (a : Act), HeadInv md ops n listed →
      (∀ j oj, ops[j]? = some oj → j ≠ i → listed.getD j true = false → (∀ e ∈ oj.after, Region.binds md e = true → e.on ≠ i) → oi.apart ops oj = true) →
      i ∈ Region.ready md ops listed → YieldsIn P ops C oi v a →
      wpAnyM P md ops C n L f (listed.setIfInBounds i true) (a.put oi.dst v) → wpAnyM P md ops C n L (f + 1) listed a := by
  intro f
  induction f with
  | zero =>
    intro listed a inv _ hr hy H
    have hun := (mem_ready.1 hr).1
    refine ⟨fun h => (by rw [h] at hr; cases hr), fun j hj => ?_⟩
    have hjn : j < n := by
      rcases Nat.lt_or_ge j n with h | h
      · exact h
      · exact absurd hj (tail_waits hs hc hn inv _ i rfl hin hun j h)
    refine ⟨hjn, ?_⟩
    by_cases hji : j = i
    · subst hji; exact hy.qOp hi H
    · have := hdone _ _ H j (ready_mono hj hji)
      omega
  | succ f ih =>
    intro listed a inv hfree hr hy H
    have hun := (mem_ready.1 hr).1
    refine ⟨fun h => (by rw [h] at hr; cases hr), fun j hj => ?_⟩
    have hjn : j < n := by
      rcases Nat.lt_or_ge j n with h | h
      · exact h
      · exact absurd hj (tail_waits hs hc hn inv _ i rfl hin hun j h)
    refine ⟨hjn, ?_⟩
    by_cases hji : j = i
    · subst hji; exact hy.qOp hi H
    · have h1 := (H.2 j (ready_mono hj hji)).2
      obtain ⟨hjun, oj, hoj, hall⟩ := mem_ready.1 hj
      have hnot : ∀ e ∈ oj.after, Region.binds md e = true → e.on ≠ i := fun e he hb heq => by
        have h1 := hall e he hb
        rw [heq, getD_both hun] at h1
        cases h1
      have h2 := qOp_put hoj (hfree j oj hoj hji hjun hnot) (fun cs b => hsel i oi cs b hi) (fun cs b => hsel j oj cs b hoj) hy h1
      have hfree' : ∀ k ok, ops[k]? = some ok → k ≠ i → (listed.setIfInBounds j true).getD k true = false →
          (∀ e ∈ ok.after, Region.binds md e = true → e.on ≠ i) → oi.apart ops ok = true := fun k ok hk hki hun hno => by
        refine hfree k ok hk hki ?_ hno
        by_cases hjk : j = k
        · subst hjk; exact hjun
        · rw [getD_set_ne true hjk] at hun; exact hun
      refine qOp_mono (fun a' h3 => ih (listed.setIfInBounds j true) a' (inv.set hj hjn) hfree' (ready_mono hr (Ne.symm hji)) h3.1 ?_) h2
      rw [Array.setIfInBounds_comm _ _ hji]
      exact h3.2

theorem wpAnyM_lex {n g : Nat} {Lq : Act → Prop} (hsel : Region.noSelect ops = true) (hs : Region.sinkB md ops n = true) (hc : Region.chainB md ops n = true) (hn : n < ops.size) :
    ∀ (l : List Oper) (k : Nat) (listed : Array Bool) (a : Act), (∀ j, j < l.length → l[j]? = ops[k + j]?) → k + l.length = n → HeadInv md ops n listed →
    Region.lexHead md ops g l.length k listed = true → wpQuiet P ops C Lq l a →
    wpAnyM P md ops C n (fun listed' a' => Region.seqB md ops g n listed' = true ∧ Lq a') l.length listed a
  | [], k, listed, a, _, hk, _, hB, h => by
    have : k = n := by simpa using hk
    subst this
    exact ⟨by simpa [Region.lexHead] using hB, h⟩
  | o :: l, k, listed, a, hl, hk, inv, hB, h => by
    have h0 : ops[k]? = some o := by simpa using (hl 0 (by simp)).symm
    simp only [List.length_cons, Region.lexHead, Bool.and_eq_true] at hB
    obtain ⟨⟨hr, hf⟩, hB'⟩ := hB
    have hkn : k < n := by simp only [List.length_cons] at hk; omega
    have hr' : k ∈ Region.ready md ops listed := by simpa using hr
    have hst : qOp P ops C k (wpQuiet P ops C Lq l) a := by unfold qOp; simp only [h0]; exact h
    obtain ⟨v, hy, hK⟩ := yieldsIn_of_qOp h0 hst
    exact wpAnyM_first h0 (Region.noSelect_spec hsel) hs hc hn hkn (fun listed' a' hL => seqB_ready hL.1) l.length listed a inv (Region.free_spec h0 hf) hr' hy
      (wpAnyM_lex hsel hs hc hn l (k + 1) _ _ (fun j hj => by have := hl (j + 1) (by simp; omega); simpa [Nat.add_assoc, Nat.add_comm 1 j] using this) (by simp only [List.length_cons] at hk; omega) (inv.set hr' hkn) hB' hK)

theorem wp_region_later_tail {w : World} {id : Nat} {Q : Exit → Act → World → Prop} {a : Act} {l : List Oper} (n : Nat) (hm : P.follows .mixedOrders = true) (hB : Region.lexTailB .any l.toArray n = true)
    (h : wpQuiet P l.toArray (fun w' => ∃ x : Later w, w' = x.out) (fun a' => ∀ x : Later w, wpList P l.toArray Q (l.drop n) a' x.out) (l.take n) a) : (Code.region id l.toArray true).wp P Q a w := by
  simp only [Region.lexTailB, Bool.and_eq_true, decide_eq_true_eq] at hB
  obtain ⟨⟨⟨⟨hsel, hn⟩, hs⟩, hc⟩, hlex⟩ := hB
  have hn' : n < l.length := by simpa using hn
  have htl : (l.take n).length = n := by simp; omega
  have hdl : (l.drop n).length = l.toArray.size - n := by simp
  have inv0 : HeadInv .any l.toArray n (Array.replicate l.toArray.size false) :=
    ⟨by simp, fun j oj _ hl => (by rw [getD_replicate_false] at hl; cases hl), fun t _ ht => getD_in (by simpa using ht) (getD_replicate_false _ _)⟩
  have H := wpAnyM_lex (md := .any) (g := l.toArray.size - n) hsel hs hc hn (l.take n) 0 _ a (fun j hj => by
    have hj' : j < n := by rw [htl] at hj; exact hj
    simp [hj']) (by simpa using htl) inv0 (by rw [htl]; exact hlex) h
  refine wp_region_any hm ?_
  have hC : ∃ x : Later w, w.drew = x.out := ⟨⟨w.drew, (Below.refl _ _).drew⟩, rfl⟩
  have := wpAny_of_headM (Q' := Q) (g := l.toArray.size - n) (C := fun w' => ∃ x : Later w, w' = x.out) (fun listed a' w' hw' hL => by
    obtain ⟨x, rfl⟩ := hw'
    have := wpAny_of_seq (md := .any) (Q' := Q) (l.drop n) n listed a' x.out (fun j => by simp [List.getElem?_drop]) (by rw [hdl]; exact hL.1) (hL.2 x)
    rwa [hdl] at this) _ _ _ w.drew hC H
  rw [htl, show n + (l.toArray.size - n) = l.toArray.size by omega] at this
  exact this
end

/-- the guide's own small lemma -/
theorem ret_int {k : IntKind} {a b : Int} (h : a = b) : Ending.returned (.int k a) = .returned (.int k b) := by rw [h]
end Go.Proofs.YtjmagehfkcnjjaaGreatDoor

/-
  Plain arithmetic for numbers of 128 bits: what the two halves of a number are, and how they go through sums, products and orders.
-/
namespace Go.Proofs.YtjmagehfkcnjjaaGreatDoor
set_option linter.unusedVariables false

/-- the high half, signed -/
def hiW (n : Int) : Int := (n / 18446744073709551616 + 9223372036854775808) % 18446744073709551616 - 9223372036854775808
/-- the low half -/
def loW (n : Int) : Int := n % 18446744073709551616
/-- a number of 64 bits without sign -/
def uW (n : Int) : Int := n % 18446744073709551616
/-- a number of 128 bits -/
def R128 (n : Int) : Prop := -170141183460469231731687303715884105728 ≤ n ∧ n < 170141183460469231731687303715884105728
def R64 (n : Int) : Prop := -9223372036854775808 ≤ n ∧ n < 9223372036854775808
def U64 (n : Int) : Prop := 0 ≤ n ∧ n < 18446744073709551616
/-- a number wrapped to 128 bits -/
def w128 (n : Int) : Int := (n + 170141183460469231731687303715884105728) % 340282366920938463463374607431768211456 - 170141183460469231731687303715884105728
def ordW (a b : Int) : Int := if a = b then 0 else if a < b then -1 else 1

theorem loW_bd (n : Int) : 0 ≤ loW n ∧ loW n ≤ 18446744073709551615 := by unfold loW; omega
theorem hiW_bd (n : Int) : -9223372036854775808 ≤ hiW n ∧ hiW n ≤ 9223372036854775807 := by unfold hiW; omega
theorem uW_bd (n : Int) : 0 ≤ uW n ∧ uW n ≤ 18446744073709551615 := by unfold uW; omega
theorem halves (n : Int) (h : R128 n) : hiW n * 18446744073709551616 + loW n = n := by unfold R128 at h; unfold hiW loW; omega
theorem hiW_of (h l : Int) (hh : -9223372036854775808 ≤ h ∧ h ≤ 9223372036854775807) (hl : 0 ≤ l ∧ l ≤ 18446744073709551615) : hiW (h * 18446744073709551616 + l) = h := by unfold hiW; omega
theorem loW_of (h l : Int) (hl : 0 ≤ l ∧ l ≤ 18446744073709551615) : loW (h * 18446744073709551616 + l) = l := by unfold loW; omega
theorem R128_of (h l : Int) (hh : -9223372036854775808 ≤ h ∧ h ≤ 9223372036854775807) (hl : 0 ≤ l ∧ l ≤ 18446744073709551615) : R128 (h * 18446744073709551616 + l) := by unfold R128; omega
theorem both_of (h l : Int) (hh : -9223372036854775808 ≤ h ∧ h ≤ 9223372036854775807) (hl : 0 ≤ l ∧ l ≤ 18446744073709551615) : ∃ n, R128 n ∧ h = hiW n ∧ l = loW n :=
  ⟨_, R128_of h l hh hl, (hiW_of h l hh hl).symm, (loW_of h l hl).symm⟩
theorem hiW_small (n : Int) (h : R64 n) : hiW n = n / 9223372036854775808 := by unfold R64 at h; unfold hiW; omega
/-- the sum, by halves -/
theorem add_lo (n m : Int) : (loW n + loW m + 0) % 18446744073709551616 = loW (n + m) := by unfold loW; omega
theorem add_hi (n m : Int) : hiW ((uW (hiW n) + uW (hiW m) + (loW n + loW m + 0) / 18446744073709551616) % 18446744073709551616 * 18446744073709551616) = hiW (n + m) := by unfold uW hiW loW; omega
theorem sub_lo (n m : Int) : (loW n + 18446744073709551616 - loW m - 0) % 18446744073709551616 = loW (n - m) := by unfold loW; omega
theorem eq_of_halves (n m : Int) (hn : R128 n) (hm : R128 m) (h1 : hiW n = hiW m) (h2 : loW n = loW m) : n = m := by rw [← halves n hn, ← halves m hm, h1, h2]
end Go.Proofs.YtjmagehfkcnjjaaGreatDoor

/-
  Plain arithmetic: the long division of Knuth, two digits of 32 bits; floors and remainders.
-/
namespace Go.Proofs.YtjmagehfkcnjjaaGreatDoor
set_option linter.unusedVariables false

/-! ### one digit. 'a' is what is divided but for its last digit d; the divisor is h * 2^32 + l -/
theorem y_mul (q h l : Int) : q * (h * 4294967296 + l) = q * h * 4294967296 + q * l := by
  rw [Int.mul_add, Int.mul_assoc]

structure Digit (a d h l : Int) : Prop where
  h1 : 2147483648 ≤ h
  h2 : h < 4294967296
  l0 : 0 ≤ l
  l1 : l < 4294967296
  a0 : 0 ≤ a
  a1 : a < h * 4294967296 + l
  d0 : 0 ≤ d
  d1 : d < 4294967296

/-- the true digit -/
def dig (a d h l : Int) : Int := (a * 4294967296 + d) / (h * 4294967296 + l)

theorem dig_lt {a d h l : Int} (D : Digit a d h l) : 0 ≤ dig a d h l ∧ dig a d h l < 4294967296 := by
  obtain ⟨h1, h2, l0, l1, a0, a1, d0, d1⟩ := D
  unfold dig
  refine ⟨Int.ediv_nonneg (by omega) (by omega), Int.ediv_lt_of_lt_mul (by omega) (by omega)⟩

/-- what holds of the guess and its rest at the head of each round -/
structure Guess (a d h l q r : Int) : Prop where
  sum : q * h + r = a
  over : dig a d h l ≤ q
  r0 : 0 ≤ r
  rB : r < 4294967296
  qB : q ≤ 4294967297

theorem guess_first {a d h l : Int} (D : Digit a d h l) : Guess a d h l (a / h) (a - a / h * h) := by
  obtain ⟨h1, h2, l0, l1, a0, a1, d0, d1⟩ := D
  have e := Int.mul_ediv_add_emod a h
  have m0 := Int.emod_nonneg a (show h ≠ 0 by omega)
  have m1 := Int.emod_lt_of_pos a (show 0 < h by omega)
  have c : a / h * h = h * (a / h) := Int.mul_comm _ _
  have q0 : 0 ≤ a / h := Int.ediv_nonneg a0 (by omega)
  generalize a / h = q at *
  refine ⟨by omega, ?_, by omega, by omega, ?_⟩
  · have k1 : (q + 1) * (h * 4294967296 + l) = (q + 1) * h * 4294967296 + (q + 1) * l := y_mul _ _ _
    have k2 : (q + 1) * h = q * h + h := by rw [Int.add_mul, Int.one_mul]
    have k3 : 0 ≤ (q + 1) * l := Int.mul_nonneg (by omega) l0
    have k4 : dig a d h l < q + 1 := by
      unfold dig
      refine Int.ediv_lt_of_lt_mul (by omega) ?_
      rw [k1, k2]
      omega
    omega
  · rcases Int.lt_or_le 4294967297 q with hq | hq
    · have k : 4294967298 * h ≤ q * h := Int.mul_le_mul_of_nonneg_right (by omega) (by omega)
      omega
    · exact hq

theorem over_of {a d h l q r : Int} (D : Digit a d h l) (g : Guess a d h l q r) (hc : 4294967296 ≤ q ∨ 4294967296 * r + d < q * l) : dig a d h l ≤ q - 1 := by
  have t := dig_lt D
  rcases hc with hc | hc
  · omega
  · have hs := g.sum
    obtain ⟨h1, h2, l0, l1, a0, a1, d0, d1⟩ := D
    have k4 : dig a d h l < q := by
      unfold dig
      refine Int.ediv_lt_of_lt_mul (by omega) ?_
      rw [y_mul]
      omega
    omega

theorem guess_next {a d h l q r : Int} (D : Digit a d h l) (g : Guess a d h l q r) (hc : 4294967296 ≤ q ∨ 4294967296 * r + d < q * l) (hr : r + h < 4294967296) : Guess a d h l (q - 1) (r + h) := by
  have o := over_of D g hc
  have hs := g.sum
  have h1 := D.h1
  have k : (q - 1) * h = q * h - h := by rw [Int.sub_mul, Int.one_mul]
  exact ⟨by omega, o, by have := g.r0; omega, hr, by have := g.qB; omega⟩

theorem digit_of_le {a d h l q : Int} (D : Digit a d h l) (o : dig a d h l ≤ q) (hq : q * (h * 4294967296 + l) ≤ a * 4294967296 + d) : q = dig a d h l := by
  have : q ≤ dig a d h l := by
    unfold dig
    exact (Int.le_ediv_iff_mul_le (by have := D.h1; have := D.l0; omega)).2 hq
  omega

theorem guess_end {a d h l q r : Int} (D : Digit a d h l) (g : Guess a d h l q r) (hq : q < 4294967296) (hc : q * l ≤ 4294967296 * r + d) : q = dig a d h l := by
  refine digit_of_le D g.over ?_
  rw [y_mul]
  have hs := g.sum
  omega

theorem guess_break {a d h l q r : Int} (D : Digit a d h l) (g : Guess a d h l q r) (hc : 4294967296 ≤ q ∨ 4294967296 * r + d < q * l) (hr : 4294967296 ≤ r + h) : q - 1 = dig a d h l := by
  have o := over_of D g hc
  refine digit_of_le D o ?_
  rw [y_mul]
  have hs := g.sum
  have k : (q - 1) * h = q * h - h := by rw [Int.sub_mul, Int.one_mul]
  have hb := g.qB
  have hd := D.d0
  have t := dig_lt D
  have k2 : (q - 1) * l ≤ 4294967296 * 4294967296 := Int.mul_le_mul (by omega) (by have := D.l1; omega) D.l0 (by omega)
  omega

/-- the rest behind a digit -/
theorem digit_rest {a d h l : Int} (D : Digit a d h l) : 0 ≤ a * 4294967296 + d - dig a d h l * (h * 4294967296 + l) ∧ a * 4294967296 + d - dig a d h l * (h * 4294967296 + l) < h * 4294967296 + l := by
  obtain ⟨h1, h2, l0, l1, a0, a1, d0, d1⟩ := D
  have e := Int.mul_ediv_add_emod (a * 4294967296 + d) (h * 4294967296 + l)
  have m0 := Int.emod_nonneg (a * 4294967296 + d) (show h * 4294967296 + l ≠ 0 by omega)
  have m1 := Int.emod_lt_of_pos (a * 4294967296 + d) (show 0 < h * 4294967296 + l by omega)
  unfold dig
  rw [Int.mul_comm ((a * 4294967296 + d) / (h * 4294967296 + l))]
  omega
end Go.Proofs.YtjmagehfkcnjjaaGreatDoor

/-
  Plain arithmetic: a divisor is shifted till its highest bit stands first; the dividend goes with it; what the two digits of the quotient come to.
-/
namespace Go.Proofs.YtjmagehfkcnjjaaGreatDoor
set_option linter.unusedVariables false

theorem bitLen_is : ∀ (n x : Nat), x ≤ n → x ≠ 0 → x < 2 ^ 64 → ∃ k, Lib.bitLen x = k + 1 ∧ 2 ^ k ≤ x ∧ x < 2 ^ (k + 1)
  | 0, x, h, h0, _ => absurd (Nat.le_zero.1 h) h0
  | n + 1, x, h, h0, h1 => by
    by_cases h2 : x = 1
    · subst h2
      exact ⟨0, by decide +kernel, by omega, by omega⟩
    · obtain ⟨k, e, a, b⟩ := bitLen_is n (x / 2) (by omega) (by omega) (by omega)
      refine ⟨k + 1, by rw [Lib.bitLen_half x h0 h1, e]; omega, ?_, ?_⟩
      · rw [Nat.pow_succ]; omega
      · rw [Nat.pow_succ]; omega

theorem shift_is (y : Nat) (h0 : y ≠ 0) (h1 : y < 18446744073709551616) : ∃ s, s ≤ 63 ∧ 64 - Lib.bitLen y = s ∧ Lib.bitLen y ≤ 64 ∧ 9223372036854775808 ≤ y * 2 ^ s ∧ y * 2 ^ s < 18446744073709551616 := by
  obtain ⟨k, e, a, b⟩ := bitLen_is y y (Nat.le_refl _) h0 (by simpa using h1)
  have hk : k ≤ 63 := by
    rcases Nat.lt_or_ge 63 k with h | h
    · have : 2 ^ 64 ≤ 2 ^ k := Nat.pow_le_pow_right (by omega) (by omega)
      omega
    · exact h
  refine ⟨63 - k, by omega, by omega, by omega, ?_, ?_⟩
  · have e1 : 2 ^ k * 2 ^ (63 - k) = 9223372036854775808 := by rw [← Nat.pow_add, show k + (63 - k) = 63 by omega]
    have := Nat.mul_le_mul_right (2 ^ (63 - k)) a
    omega
  · have e1 : 2 ^ (k + 1) * 2 ^ (63 - k) = 18446744073709551616 := by rw [← Nat.pow_add, show k + 1 + (63 - k) = 64 by omega]
    have := Nat.mul_lt_mul_of_lt_of_le b (Nat.le_refl (2 ^ (63 - k))) (Nat.two_pow_pos _)
    omega

/-- the shifted dividend's upper and lower half -/
theorem shifted (hi lo s : Nat) (hs : s ≤ 63) :
    (hi * 2 ^ s + lo / 2 ^ (64 - s)) * 18446744073709551616 + lo * 2 ^ s % 18446744073709551616 = (hi * 18446744073709551616 + lo) * 2 ^ s := by
  have e1 : (2 : Nat) ^ (64 - s) * 2 ^ s = 18446744073709551616 := by rw [← Nat.pow_add, show 64 - s + s = 64 by omega]
  have e2 : lo * 2 ^ s / 18446744073709551616 = lo / 2 ^ (64 - s) := by rw [← e1, Nat.mul_div_mul_right _ _ (Nat.two_pow_pos s)]
  have e3 := Nat.div_add_mod (lo * 2 ^ s) 18446744073709551616
  rw [e2] at e3
  rw [Nat.add_mul, Nat.add_mul (hi * 18446744073709551616), Nat.mul_right_comm hi]
  omega

theorem or_parts (hi lo s : Nat) (hs : s ≤ 63) (hlo : lo < 18446744073709551616) (hu : hi * 2 ^ s + lo / 2 ^ (64 - s) < 18446744073709551616) :
    bits .or .u64 ((hi * 2 ^ s : Nat) : Int) ((lo / 2 ^ (64 - s) : Nat) : Int) = ((hi * 2 ^ s + lo / 2 ^ (64 - s) : Nat) : Int) := by
  rw [bits_or_u64_nat _ _ (Nat.lt_of_le_of_lt (Nat.le_add_right _ _) hu) (Nat.lt_of_le_of_lt (Nat.le_add_left _ _) hu)]
  have e1 : (2 : Nat) ^ (64 - s) * 2 ^ s = 18446744073709551616 := by rw [← Nat.pow_add, show 64 - s + s = 64 by omega]
  have b : lo / 2 ^ (64 - s) < 2 ^ s := by
    rw [Nat.div_lt_iff_lt_mul (Nat.two_pow_pos _), Nat.mul_comm, e1]
    exact hlo
  rw [Nat.mul_comm hi, ← Nat.two_pow_add_eq_or_of_lt b]

theorem mask_is (z : Int) (h0 : 0 ≤ z) (h1 : z < 18446744073709551616) : bits .and .u64 z 4294967295 = z % 4294967296 := and_low32 z h0 h1

/-- what the two digits come to -/
theorem quo_of (N y p Y U L d1 d0 V R a b : Int) (hp : 0 < p) (hN : N * p = U * 18446744073709551616 + L) (hY : Y = y * p) (hL : L = d1 * 4294967296 + d0)
    (hV : V = U * 4294967296 + d1 - a * Y) (hR : R = V * 4294967296 + d0 - b * Y) (hR0 : 0 ≤ R) (hR1 : R < Y) :
    N / y = a * 4294967296 + b ∧ N % y = R / p := by
  have hy : 0 < y := by
    rcases Int.lt_or_le 0 y with h | h
    · exact h
    · have := Int.mul_le_mul_of_nonneg_right h (Int.le_of_lt hp)
      omega
  have k : N * p = (a * 4294967296 + b) * y * p + R := by
    rw [Int.mul_assoc, ← hY, Int.add_mul, Int.mul_right_comm a]
    generalize a * Y = u at *
    generalize b * Y = v at *
    omega
  generalize a * 4294967296 + b = q at k ⊢
  have k2 : R = (N - q * y) * p := by rw [Int.sub_mul]; omega
  generalize hr : N - q * y = r at k2
  have r0 : 0 ≤ r := by
    rcases Int.lt_or_le r 0 with h | h
    · have := Int.mul_neg_of_neg_of_pos h hp
      omega
    · exact h
  have r1 : r < y := by
    rcases Int.lt_or_le r y with h | h
    · exact h
    · have := Int.mul_le_mul_of_nonneg_right h (Int.le_of_lt hp)
      omega
  have e : N = r + y * q := by rw [Int.mul_comm]; omega
  refine ⟨?_, ?_⟩
  · rw [e, Int.add_mul_ediv_left _ _ (by omega), Int.ediv_eq_zero_of_lt r0 r1]; omega
  · rw [k2, Int.mul_ediv_cancel _ (by omega), e, Int.add_mul_emod_self_left, Int.emod_eq_of_lt r0 r1]
end Go.Proofs.YtjmagehfkcnjjaaGreatDoor

/-
  Contracts of the functions of the layer of wide numbers: each returns what plain arithmetic says, and keeps what lay in memory.
-/
namespace Go.Proofs.YtjmagehfkcnjjaaGreatDoor
set_option linter.unusedVariables false
open Go.RowKit

/-! ### sums and differences with a carry -/
def Bit (n : Int) : Prop := n = 0 ∨ n = 1
def addS (x y c : Int) : Int := (x + y + c) % 18446744073709551616
def addC (x y c : Int) : Int := if x + y + c < 18446744073709551616 then 0 else 1
def subS (x y c : Int) : Int := (x - y - c) % 18446744073709551616
def subC (x y c : Int) : Int := if x < y + c then 1 else 0
@[go_sem] theorem U64_lo (n : Int) : U64 (loW n) := by unfold U64 loW; omega
@[go_sem] theorem U64_wrap (n : Int) : U64 (IntKind.u64.wrap n) := by rw [IntKind.wrap_u64]; unfold U64; omega
@[go_sem] theorem U64_addS (x y c : Int) : U64 (addS x y c) := by unfold U64 addS; omega
@[go_sem] theorem U64_subS (x y c : Int) : U64 (subS x y c) := by unfold U64 subS; omega
@[go_sem] theorem U64_zero : U64 0 := by unfold U64; omega
@[go_sem] theorem Bit_zero : Bit 0 := .inl rfl
@[go_sem] theorem Bit_addC (x y c : Int) : Bit (addC x y c) := by unfold Bit addC; split <;> simp
@[go_sem] theorem Bit_subC (x y c : Int) : Bit (subC x y c) := by unfold Bit subC; split <;> simp

@[go_sem] theorem run_bits_add (x y c : Int) (hx : U64 x) (hy : U64 y) (hc : Bit c) (w : World) :
    (callFunc 81 #[.int .u64 x, .int .u64 y, .int .u64 c]).run Tryz.prog w = .ok (.value (.tuple #[.int .u64 (addS x y c), .int .u64 (addC x y c)])) w := by
  unfold U64 at hx hy
  unfold Bit at hc
  rw [run_callFunc_extern Tryz.func81 (by kernel_rfl) (by kernel_rfl) (by kernel_rfl) (e := add64Entry) (by kernel_rfl), run_add64 x y c (by omega) (by omega) (by omega) (by omega)]
  have e : (x + y + c) / 18446744073709551616 = addC x y c := by unfold addC; split <;> omega
  rw [e]
  rfl

@[go_sem] theorem run_bits_sub (x y c : Int) (hx : U64 x) (hy : U64 y) (hc : Bit c) (w : World) :
    (callFunc 101 #[.int .u64 x, .int .u64 y, .int .u64 c]).run Tryz.prog w = .ok (.value (.tuple #[.int .u64 (subS x y c), .int .u64 (subC x y c)])) w := by
  unfold U64 at hx hy
  unfold Bit at hc
  obtain ⟨X, rfl⟩ := Int.eq_ofNat_of_zero_le hx.1
  obtain ⟨Y, rfl⟩ := Int.eq_ofNat_of_zero_le hy.1
  obtain ⟨C, rfl⟩ := Int.eq_ofNat_of_zero_le (show 0 ≤ c by omega)
  rw [run_callFunc_extern Tryz.func101 (by kernel_rfl) (by kernel_rfl) (by kernel_rfl) (e := sub64Entry) (by kernel_rfl), run_sub64 X Y C (by omega)]
  have e1 : (((X + 18446744073709551616 - Y - C) % 18446744073709551616 : Nat) : Int) = subS X Y C := by unfold subS; omega
  have e2 : ((if X < Y + C then 1 else 0 : Nat) : Int) = subC X Y C := by unfold subC; split <;> split <;> omega
  rw [e1, e2]
  rfl

theorem add_lo' (n m : Int) : addS (loW n) (loW m) 0 = loW (n + m) := by unfold addS loW; omega
theorem sub_lo' (n m : Int) : subS (loW n) (loW m) 0 = loW (n - m) := by unfold subS loW; omega
theorem add_hi' (n m : Int) : wrap64 (addS (IntKind.u64.wrap (hiW n)) (IntKind.u64.wrap (hiW m)) (addC (loW n) (loW m) 0)) = hiW (n + m) := by
  rw [IntKind.wrap_u64, IntKind.wrap_u64]; unfold wrap64 addS addC hiW loW; split <;> omega
theorem sub_hi' (n m : Int) : wrap64 (subS (IntKind.u64.wrap (hiW n)) (IntKind.u64.wrap (hiW m)) (subC (loW n) (loW m) 0)) = hiW (n - m) := by
  rw [IntKind.wrap_u64, IntKind.wrap_u64]; unfold wrap64 subS subC hiW loW; split <;> omega

/-! ### the layer itself -/
set_option maxHeartbeats 400000 in
theorem of_c (n : Int) (w : World) (h : R64 n) :
    Calls Tryz.prog 47 #[.int .i64 n] w fun e w' => e = .returned (.agg #[.int .i64 (hiW n), .int .u64 (loW n)]) ∧ ∃ x : Later w, w' = x.out := by
  have e1 := hiW_small n h
  have e2 : IntKind.u64.wrap n = loW n := by rw [IntKind.wrap_u64]; rfl
  rw [e1, ← e2]
  clear e1 e2
  go_enter Tryz.func47, Tryz.ntmps47
  go_wp2
  exact bodyPost_ret (v := .agg #[.int .i64 (n / 9223372036854775808), .int .u64 (IntKind.u64.wrap n)]) (by simp [results, Tryz.results47, go_sem, *]) rfl ⟨rfl, (Later.mk_of (by repeat (first | (with_reducible assumption) | (with_reducible exact Below.refl _ _) | (with_reducible refine Later.after ?_ _) | (with_reducible refine Later.newer ?_ _) | (with_reducible refine Below.drew ?_) | (with_reducible refine Below.setCell ?_ (by first | exact Nat.le_refl _ | exact Nat.le_add_right _ _ | omega | (simp [go_sem]; done) | (simp [go_sem]; omega)) _))))⟩

set_option maxHeartbeats 400000 in
theorem add_c (n m : Int) (w : World) :
    Calls Tryz.prog 46 #[.agg #[.int .i64 (hiW n), .int .u64 (loW n)], .agg #[.int .i64 (hiW m), .int .u64 (loW m)]] w fun e w' => e = .returned (.agg #[.int .i64 (hiW (n + m)), .int .u64 (loW (n + m))]) ∧ ∃ x : Later w, w' = x.out := by
  go_enter Tryz.func46, Tryz.ntmps46
  go_wp2
  rw [add_hi' n m, add_lo' n m]
  exact bodyPost_ret (v := .agg #[.int .i64 (hiW (n + m)), .int .u64 (loW (n + m))]) (by simp [results, Tryz.results46, go_sem, *]) rfl ⟨rfl, (Later.mk_of (by repeat (first | (with_reducible assumption) | (with_reducible exact Below.refl _ _) | (with_reducible refine Later.after ?_ _) | (with_reducible refine Later.newer ?_ _) | (with_reducible refine Below.drew ?_) | (with_reducible refine Below.setCell ?_ (by first | exact Nat.le_refl _ | exact Nat.le_add_right _ _ | omega | (simp [go_sem]; done) | (simp [go_sem]; omega)) _))))⟩

set_option maxHeartbeats 400000 in
theorem sub_c (n m : Int) (w : World) :
    Calls Tryz.prog 78 #[.agg #[.int .i64 (hiW n), .int .u64 (loW n)], .agg #[.int .i64 (hiW m), .int .u64 (loW m)]] w fun e w' => e = .returned (.agg #[.int .i64 (hiW (n - m)), .int .u64 (loW (n - m))]) ∧ ∃ x : Later w, w' = x.out := by
  go_enter Tryz.func78, Tryz.ntmps78
  go_wp2
  rw [sub_hi' n m, sub_lo' n m]
  exact bodyPost_ret (v := .agg #[.int .i64 (hiW (n - m)), .int .u64 (loW (n - m))]) (by simp [results, Tryz.results78, go_sem, *]) rfl ⟨rfl, (Later.mk_of (by repeat (first | (with_reducible assumption) | (with_reducible exact Below.refl _ _) | (with_reducible refine Later.after ?_ _) | (with_reducible refine Later.newer ?_ _) | (with_reducible refine Below.drew ?_) | (with_reducible refine Below.setCell ?_ (by first | exact Nat.le_refl _ | exact Nat.le_add_right _ _ | omega | (simp [go_sem]; done) | (simp [go_sem]; omega)) _))))⟩


theorem halves_lt (n m : Int) (hn : R128 n) (hm : R128 m) : n < m ↔ hiW n < hiW m ∨ (hiW n = hiW m ∧ loW n < loW m) := by
  have h1 := halves n hn; have h2 := halves m hm; have h3 := loW_bd n; have h4 := loW_bd m; omega
set_option maxHeartbeats 400000 in
theorem cmp_eq (n : Int) (w : World) :
    Calls Tryz.prog 100 #[.agg #[.int .i64 (hiW n), .int .u64 (loW n)], .agg #[.int .i64 (hiW n), .int .u64 (loW n)]] w fun e w' => e = .returned (.int .i64 0) ∧ ∃ x : Later w, w' = x.out := by
    go_enter Tryz.func100, Tryz.ntmps100
    go_wp2
    all_goals (go_ret; exact ⟨rfl, (Later.mk_of (by repeat (first | (with_reducible assumption) | (with_reducible exact Below.refl _ _) | (with_reducible refine Later.after ?_ _) | (with_reducible refine Later.newer ?_ _) | (with_reducible refine Below.drew ?_) | (with_reducible refine Below.setCell ?_ (by first | exact Nat.le_refl _ | exact Nat.le_add_right _ _ | omega | (simp [go_sem]; done) | (simp [go_sem]; omega)) _))))⟩)
set_option maxHeartbeats 400000 in
theorem cmp_lt (a b c d : Int) (w : World) (h : a < c ∨ (a = c ∧ b < d)) :
    Calls Tryz.prog 100 #[.agg #[.int .i64 a, .int .u64 b], .agg #[.int .i64 c, .int .u64 d]] w fun e w' => e = .returned (.int .i64 (-1)) ∧ ∃ x : Later w, w' = x.out := by
  rcases h with h | ⟨rfl, h⟩
  · have h2 : (a == c) = false := by simp; omega
    go_enter Tryz.func100, Tryz.ntmps100
    go_wp2
    all_goals (go_ret; exact ⟨rfl, (Later.mk_of (by repeat (first | (with_reducible assumption) | (with_reducible exact Below.refl _ _) | (with_reducible refine Later.after ?_ _) | (with_reducible refine Later.newer ?_ _) | (with_reducible refine Below.drew ?_) | (with_reducible refine Below.setCell ?_ (by first | exact Nat.le_refl _ | exact Nat.le_add_right _ _ | omega | (simp [go_sem]; done) | (simp [go_sem]; omega)) _))))⟩)
  · have h2 : (b == d) = false := by simp; omega
    go_enter Tryz.func100, Tryz.ntmps100
    go_wp2
    all_goals (go_ret; exact ⟨rfl, (Later.mk_of (by repeat (first | (with_reducible assumption) | (with_reducible exact Below.refl _ _) | (with_reducible refine Later.after ?_ _) | (with_reducible refine Later.newer ?_ _) | (with_reducible refine Below.drew ?_) | (with_reducible refine Below.setCell ?_ (by first | exact Nat.le_refl _ | exact Nat.le_add_right _ _ | omega | (simp [go_sem]; done) | (simp [go_sem]; omega)) _))))⟩)
set_option maxHeartbeats 400000 in
theorem cmp_gt (a b c d : Int) (w : World) (h : c < a ∨ (c = a ∧ d < b)) :
    Calls Tryz.prog 100 #[.agg #[.int .i64 a, .int .u64 b], .agg #[.int .i64 c, .int .u64 d]] w fun e w' => e = .returned (.int .i64 1) ∧ ∃ x : Later w, w' = x.out := by
  rcases h with h | ⟨rfl, h⟩
  · have h2 : (a == c) = false := by simp; omega
    have h3 : decide (a < c) = false := by simp; omega
    go_enter Tryz.func100, Tryz.ntmps100
    go_wp2
    all_goals (go_ret; exact ⟨rfl, (Later.mk_of (by repeat (first | (with_reducible assumption) | (with_reducible exact Below.refl _ _) | (with_reducible refine Later.after ?_ _) | (with_reducible refine Later.newer ?_ _) | (with_reducible refine Below.drew ?_) | (with_reducible refine Below.setCell ?_ (by first | exact Nat.le_refl _ | exact Nat.le_add_right _ _ | omega | (simp [go_sem]; done) | (simp [go_sem]; omega)) _))))⟩)
  · have h2 : (b == d) = false := by simp; omega
    have h3 : decide (b < d) = false := by simp; omega
    go_enter Tryz.func100, Tryz.ntmps100
    go_wp2
    all_goals (go_ret; exact ⟨rfl, (Later.mk_of (by repeat (first | (with_reducible assumption) | (with_reducible exact Below.refl _ _) | (with_reducible refine Later.after ?_ _) | (with_reducible refine Later.newer ?_ _) | (with_reducible refine Below.drew ?_) | (with_reducible refine Below.setCell ?_ (by first | exact Nat.le_refl _ | exact Nat.le_add_right _ _ | omega | (simp [go_sem]; done) | (simp [go_sem]; omega)) _))))⟩)
theorem cmp_c (n m : Int) (w : World) (hn : R128 n) (hm : R128 m) :
    Calls Tryz.prog 100 #[.agg #[.int .i64 (hiW n), .int .u64 (loW n)], .agg #[.int .i64 (hiW m), .int .u64 (loW m)]] w fun e w' => e = .returned (.int .i64 (ordW n m)) ∧ ∃ x : Later w, w' = x.out := by
  unfold ordW
  by_cases h1 : n = m
  · subst h1
    rw [if_pos rfl]
    exact cmp_eq n w
  · rw [if_neg h1]
    by_cases h2 : n < m
    · rw [if_pos h2]
      exact cmp_lt _ _ _ _ w ((halves_lt n m hn hm).1 h2)
    · rw [if_neg h2]
      exact cmp_gt _ _ _ _ w ((halves_lt m n hm hn).1 (by omega))


theorem W_zero : hiW 0 = 0 ∧ loW 0 = 0 := by unfold hiW loW; omega
set_option maxHeartbeats 400000 in
theorem sign_c (n : Int) (w : World) (hn : R128 n) :
    Calls Tryz.prog 77 #[.agg #[.int .i64 (hiW n), .int .u64 (loW n)]] w fun e w' => e = .returned (.int .i64 (ordW n 0)) ∧ ∃ x : Later w, w' = x.out := by
  have hc := fun w' => cmp_c n 0 w' hn (by unfold R128; omega)
  rw [W_zero.1, W_zero.2] at hc
  have HC := Lib.hid hc
  clear hc
  go_enter Tryz.func77, Tryz.ntmps77
  go_wp2_with (first | (go_at_call 100; refine (HC.out _).mono ?_; rintro e _ ⟨rfl, x, rfl⟩))
  go_ret
  exact ⟨rfl, (Later.mk_of (by repeat (first | (with_reducible assumption) | (with_reducible exact Below.refl _ _) | (with_reducible refine Later.after ?_ _) | (with_reducible refine Later.newer ?_ _) | (with_reducible refine Below.drew ?_) | (with_reducible refine Below.setCell ?_ (by first | exact Nat.le_refl _ | exact Nat.le_add_right _ _ | omega | (simp [go_sem]; done) | (simp [go_sem]; omega)) _))))⟩


theorem w64_lo (n : Int) : wrap64 (loW n) = (n + 9223372036854775808) % 18446744073709551616 - 9223372036854775808 := by unfold wrap64 loW; omega
set_option maxHeartbeats 400000 in
theorem narrow_yes (n : Int) (w : World) (hn : R64 n) :
    Calls Tryz.prog 48 #[.agg #[.int .i64 (hiW n), .int .u64 (loW n)]] w fun e w' => e = .returned (.tuple #[.int .i64 n, .bool true]) ∧ ∃ x : Later w, w' = x.out := by
  have hc := fun w' => of_c n w' hn
  have e : wrap64 (loW n) = n := by rw [w64_lo]; unfold R64 at hn; omega
  have HC := Lib.hid hc
  clear hc
  go_enter Tryz.func48, Tryz.ntmps48
  go_wp2_with (fail)
  refine wp_region_later (by kernel_rfl) (by kernel_rfl) ?_
  repeat (go_big_quiet_step ((first | (go_at_call 47; exact Later.call _ (HC.out _)))))
  refine wpQuiet_nil ?_
  intro x
  go_wp2
  go_ret2
  exact ⟨by simp [e], (Later.mk_of (by repeat (first | (with_reducible assumption) | (with_reducible exact Below.refl _ _) | (with_reducible refine Later.after ?_ _) | (with_reducible refine Later.newer ?_ _) | (with_reducible refine Below.drew ?_) | (with_reducible refine Below.setCell ?_ (by first | exact Nat.le_refl _ | exact Nat.le_add_right _ _ | omega | (simp [go_sem]; done) | (simp [go_sem]; omega)) _))))⟩
set_option maxHeartbeats 400000 in
theorem narrow_no (n : Int) (w : World) (hr : R128 n) (hn : ¬ R64 n) :
    Calls Tryz.prog 48 #[.agg #[.int .i64 (hiW n), .int .u64 (loW n)]] w fun e w' => e = .returned (.tuple #[.int .i64 0, .bool false]) ∧ ∃ x : Later w, w' = x.out := by
  have hk : R64 (wrap64 (loW n)) := by unfold R64 wrap64; have := loW_bd n; omega
  have hc := fun w' => of_c (wrap64 (loW n)) w' hk
  have e1 : ¬ (hiW n = hiW (wrap64 (loW n)) ∧ loW n = loW (wrap64 (loW n))) := fun h => hn (by
    have := eq_of_halves n _ hr (by unfold R64 at hk; unfold R128; omega) h.1 h.2
    rw [this]; exact hk)
  have e2 : hiW n = hiW (wrap64 (loW n)) ∧ (loW n == loW (wrap64 (loW n))) = false ∨ (hiW n == hiW (wrap64 (loW n))) = false := by
    by_cases h : hiW n = hiW (wrap64 (loW n))
    · exact .inl ⟨h, by simp; exact fun h2 => e1 ⟨h, h2⟩⟩
    · exact .inr (by simp; exact h)
  clear e1 hn hr
  have HC := Lib.hid hc
  clear hc hk
  generalize hk1 : hiW (wrap64 (loW n)) = k1 at *
  generalize hk2 : loW (wrap64 (loW n)) = k2 at *
  have HK1 := Lib.hid hk1
  have HK2 := Lib.hid hk2
  clear hk1 hk2
  rcases e2 with ⟨rfl, e2⟩ | e2
  all_goals
    go_enter Tryz.func48, Tryz.ntmps48
    go_wp2_with (fail)
    refine wp_region_later (by kernel_rfl) (by kernel_rfl) ?_
    repeat (go_big_quiet_step ((first | (go_at_call 47; exact Later.call _ (HC.out _)))))
    refine wpQuiet_nil ?_
    intro x
    go_wp2
    go_ret2
    exact ⟨rfl, (Later.mk_of (by repeat (first | (with_reducible assumption) | (with_reducible exact Below.refl _ _) | (with_reducible refine Later.after ?_ _) | (with_reducible refine Later.newer ?_ _) | (with_reducible refine Below.drew ?_) | (with_reducible refine Below.setCell ?_ (by first | exact Nat.le_refl _ | exact Nat.le_add_right _ _ | omega | (simp [go_sem]; done) | (simp [go_sem]; omega)) _))))⟩
end Go.Proofs.YtjmagehfkcnjjaaGreatDoor

/-
  The contracts of products and quotients of wide numbers.
-/
namespace Go.Proofs.YtjmagehfkcnjjaaGreatDoor
set_option linter.unusedVariables false
open Go.RowKit


set_option maxHeartbeats 1000000 in
theorem div64_small (lo y : Int) (w : World) (h0 : 0 ≤ lo) (h1 : lo ≤ 18446744073709551615) (y0 : 1 ≤ y) (y1 : y ≤ 18446744073709551615) :
    Calls Tryz.prog 79 #[.int .u64 0, .int .u64 lo, .int .u64 y] w fun e w' => e = .returned (.tuple #[.int .u64 (lo / y), .int .u64 (lo % y)]) ∧ ∃ x : Later w, w' = x.out := by
  go_enter Tryz.func79, Tryz.ntmps79
  go_wp2_with (fail)
  refine wp_region_later (by kernel_rfl) (by kernel_rfl) ?_
  repeat (go_big_quiet_step ((first | fail)))
  refine wpQuiet_nil ?_
  intro x
  go_wp2
  go_ret2
  exact ⟨rfl, (Later.mk_of (by repeat (first | (with_reducible assumption) | (with_reducible exact Below.refl _ _) | (with_reducible refine Later.after ?_ _) | (with_reducible refine Later.newer ?_ _) | (with_reducible refine Below.drew ?_) | (with_reducible refine Below.setCell ?_ (by first | exact Nat.le_refl _ | exact Nat.le_add_right _ _ | omega | (simp [go_sem]; done) | (simp [go_sem]; omega)) _))))⟩



set_option maxHeartbeats 1000000 in
theorem div64_walk (s : Nat) (hi lo y Y U L h l d1 d0 V R : Int) (w : World) (g0 : 1 ≤ hi) (g1 : hi < y) (h0 : 0 ≤ lo) (h1 : lo ≤ 18446744073709551615) (y1 : y ≤ 18446744073709551615)
    (hlz : ∀ w', Calls Tryz.prog 102 #[.int .u64 y] w' fun e w'' => e = .returned (.int .i64 (s : Int)) ∧ w' = w'') (hs : s ≤ 63)
    (e1 : IntKind.u64.wrap (y * 2 ^ s) = Y) (e2 : Y / 4294967296 = h) (e3 : bits .and .u64 Y 4294967295 = l) (hh1 : 2147483648 ≤ h) (hh2 : h ≤ 4294967295) (hl0 : 0 ≤ l) (hl1 : l ≤ 4294967295)
    (e4 : bits .or .u64 (IntKind.u64.wrap (hi * 2 ^ s)) (lo / 2 ^ (64 - s)) = U) (e5 : IntKind.u64.wrap (lo * 2 ^ s) = L) (e6 : L / 4294967296 = d1) (e7 : bits .and .u64 L 4294967295 = d0)
    (hU0 : 0 ≤ U) (hU1 : U ≤ 18446744073709551615) (hq0 : 0 ≤ U / h) (hq1 : U / h ≤ 4294967297) (hqh : 0 ≤ U / h * h ∧ U / h * h ≤ U) (DG : Hid (Digit U d1 h l)) (GF : Hid (Guess U d1 h l (U / h) (U - U / h * h))) (hd0 : 0 ≤ d1) (hd1 : d1 ≤ 4294967295)
    (hY : 0 ≤ Y ∧ Y ≤ 18446744073709551615) (DV : Hid (V = U * 4294967296 + d1 - dig U d1 h l * Y)) (hV0 : 0 ≤ V) (hV1 : V < Y) (DG2 : Hid (Digit V d0 h l)) (GF2 : Hid (Guess V d0 h l (V / h) (V - V / h * h))) (he0 : 0 ≤ d0) (he1 : d0 ≤ 4294967295)
    (hv0 : 0 ≤ V / h) (hv1 : V / h ≤ 4294967297) (hvh : 0 ≤ V / h * h ∧ V / h * h ≤ V) (DR : Hid (R = V * 4294967296 + d0 - dig V d0 h l * Y)) (hR0 : 0 ≤ R) (hR1 : R < Y)
    (HF : Hid ((hi * 18446744073709551616 + lo) / y = dig U d1 h l * 4294967296 + dig V d0 h l)) (HM : Hid ((hi * 18446744073709551616 + lo) % y = R / 2 ^ s)) :
    Calls Tryz.prog 79 #[.int .u64 hi, .int .u64 lo, .int .u64 y] w fun e w' => e = .returned (.tuple #[.int .u64 ((hi * 18446744073709551616 + lo) / y), .int .u64 ((hi * 18446744073709551616 + lo) % y)]) ∧ ∃ x : Later w, w' = x.out := by
  have hm1 : min s 64 = s := by omega
  obtain ⟨hqh1, hqh2⟩ := hqh
  have HLZ := Lib.hid hlz
  clear hlz
  go_enter Tryz.func79, Tryz.ntmps79
  go_upto_block 0 with (go_at_call 102; refine (HLZ.out _).mono ?_; rintro e _ ⟨rfl, rfl⟩)
  go_cut [15] (fun x wx => ∃ a : Int, x = .int .u64 a ∧ a = dig U d1 h l ∧ w = wx)
  case first =>
    go_wp2_with fail
    
    go_loop [15, 16] (fun x y => ∃ a b : Int, x = .int .u64 a ∧ y = .int .u64 b ∧ 0 ≤ a ∧ Guess U d1 h l a b) (fun x _ => (intOf x).toNat)
    case atStart => exact ⟨_, _, rfl, rfl, by omega, GF.out⟩
    case round =>
      obtain ⟨a, b, rfl, rfl, a0, g⟩ := hrel
      have b0 := g.r0
      have b1 := g.rB
      have a1 := g.qB
      have t := dig_lt DG.out
      by_cases hc : 4294967296 ≤ a
      · have ap : 1 ≤ a := by omega
        have hn : 4294967296 ≤ a ∨ 4294967296 * b + d1 < a * l := .inl hc
        have o := over_of DG.out g hn
        by_cases hr : 4294967296 ≤ b + h
        · have e := Lib.hid (guess_break DG.out g hn hr)
          go_wp2
          go_meet
          exact ⟨a - 1, rfl, e.out, rfl⟩
        · have e := guess_next DG.out g hn (by omega)
          go_wp2
          go_round
          case rel => exact ⟨a - 1, b + h, rfl, rfl, by omega, e⟩
          case measure => simp [intOf]; omega
      · have p0 : 0 ≤ a * l := Int.mul_nonneg a0 hl0
        have p1 : a * l ≤ 4294967295 * 4294967295 := Int.mul_le_mul (by omega) hl1 hl0 (by omega)
        by_cases hc2 : 4294967296 * b + d1 < a * l
        · have hn : 4294967296 ≤ a ∨ 4294967296 * b + d1 < a * l := .inr hc2
          have o := over_of DG.out g hn
          have ap : 1 ≤ a := by omega
          by_cases hr : 4294967296 ≤ b + h
          · have e := Lib.hid (guess_break DG.out g hn hr)
            go_wp2
            go_meet
            exact ⟨a - 1, rfl, e.out, rfl⟩
          · have e := guess_next DG.out g hn (by omega)
            go_wp2
            go_round
            case rel => exact ⟨a - 1, b + h, rfl, rfl, by omega, e⟩
            case measure => simp [intOf]; omega
        · have e := Lib.hid (guess_end DG.out g (by omega) (by omega))
          go_wp2
          go_meet
          exact ⟨a, rfl, e.out, rfl⟩
  case rest =>
    obtain ⟨hY0, hY1⟩ := hY
    obtain ⟨hvh1, hvh2⟩ := hvh
    obtain ⟨q1, rfl, hq, rfl⟩ := hcut
    have t1 := dig_lt DG.out
    have b1 : 0 ≤ q1 := by omega
    have b2 : q1 ≤ 4294967295 := by omega
    have e9 : IntKind.u64.wrap (IntKind.u64.wrap (IntKind.u64.wrap (U * 4294967296) + d1) - IntKind.u64.wrap (q1 * Y)) = V := by
      rw [DV.out, ← hq]
      rw [DV.out, ← hq] at hV0 hV1
      clear t1
      simp only [IntKind.wrap_u64]
      generalize q1 * Y = p at *
      omega
    have HQ := Lib.hid hq
    clear hq t1
    go_upto_block 2 with fail
    go_cut [18] (fun x wx => ∃ a : Int, x = .int .u64 a ∧ a = dig V d0 h l ∧ w = wx)
    case first =>
      go_wp2_with fail
  
      go_loop [18, 16] (fun x y => ∃ a b : Int, x = .int .u64 a ∧ y = .int .u64 b ∧ 0 ≤ a ∧ Guess V d0 h l a b) (fun x _ => (intOf x).toNat)
      case atStart => exact ⟨_, _, rfl, rfl, by omega, GF2.out⟩
      case round =>
        obtain ⟨a, b, rfl, rfl, a0, g⟩ := hrel
        have b0 := g.r0
        have b1 := g.rB
        have a1 := g.qB
        have t := dig_lt DG2.out
        by_cases hc : 4294967296 ≤ a
        · have ap : 1 ≤ a := by omega
          have hn : 4294967296 ≤ a ∨ 4294967296 * b + d0 < a * l := .inl hc
          have o := over_of DG2.out g hn
          by_cases hr : 4294967296 ≤ b + h
          · have e := Lib.hid (guess_break DG2.out g hn hr)
            go_wp2
            go_meet
            exact ⟨a - 1, rfl, e.out, rfl⟩
          · have e := guess_next DG2.out g hn (by omega)
            go_wp2
            go_round
            case rel => exact ⟨a - 1, b + h, rfl, rfl, by omega, e⟩
            case measure => simp [intOf]; omega
        · have p0 : 0 ≤ a * l := Int.mul_nonneg a0 hl0
          have p1 : a * l ≤ 4294967295 * 4294967295 := Int.mul_le_mul (by omega) hl1 hl0 (by omega)
          by_cases hc2 : 4294967296 * b + d0 < a * l
          · have hn : 4294967296 ≤ a ∨ 4294967296 * b + d0 < a * l := .inr hc2
            have o := over_of DG2.out g hn
            have ap : 1 ≤ a := by omega
            by_cases hr : 4294967296 ≤ b + h
            · have e := Lib.hid (guess_break DG2.out g hn hr)
              go_wp2
              go_meet
              exact ⟨a - 1, rfl, e.out, rfl⟩
            · have e := guess_next DG2.out g hn (by omega)
              go_wp2
              go_round
              case rel => exact ⟨a - 1, b + h, rfl, rfl, by omega, e⟩
              case measure => simp [intOf]; omega
          · have e := Lib.hid (guess_end DG2.out g (by omega) (by omega))
            go_wp2
            go_meet
            exact ⟨a, rfl, e.out, rfl⟩
    case rest =>
      obtain ⟨q0, rfl, hq, rfl⟩ := hcut
      have t2 := dig_lt DG2.out
      have b3 : 0 ≤ q0 := by omega
      have b4 : q0 ≤ 4294967295 := by omega
      have e10 : IntKind.u64.wrap (IntKind.u64.wrap (IntKind.u64.wrap (V * 4294967296) + d0) - IntKind.u64.wrap (q0 * Y)) = R := by
        rw [DR.out, ← hq]
        rw [DR.out, ← hq] at hR0 hR1
        clear t2 e9
        simp only [IntKind.wrap_u64]
        generalize q0 * Y = p at *
        omega
      have HQ0 := Lib.hid hq
      clear hq t2
      go_wp2
      go_ret2
      refine ⟨?_, (Later.mk_of (by repeat (first | (with_reducible assumption) | (with_reducible exact Below.refl _ _) | (with_reducible refine Later.after ?_ _) | (with_reducible refine Later.newer ?_ _) | (with_reducible refine Below.drew ?_) | (with_reducible refine Below.setCell ?_ (by first | exact Nat.le_refl _ | exact Nat.le_add_right _ _ | omega | (simp [go_sem]; done) | (simp [go_sem]; omega)) _))))⟩
      rw [HF.out, HM.out, ← HQ.out, ← HQ0.out]
      rfl

theorem div64_great (hi lo y : Int) (w : World) (g0 : 1 ≤ hi) (g1 : hi < y) (h0 : 0 ≤ lo) (h1 : lo ≤ 18446744073709551615) (y1 : y ≤ 18446744073709551615) :
    Calls Tryz.prog 79 #[.int .u64 hi, .int .u64 lo, .int .u64 y] w fun e w' => e = .returned (.tuple #[.int .u64 ((hi * 18446744073709551616 + lo) / y), .int .u64 ((hi * 18446744073709551616 + lo) % y)]) ∧ ∃ x : Later w, w' = x.out := by
  obtain ⟨HI, rfl⟩ := Int.eq_ofNat_of_zero_le (show 0 ≤ hi by omega)
  obtain ⟨LO, rfl⟩ := Int.eq_ofNat_of_zero_le h0
  obtain ⟨Y0, rfl⟩ := Int.eq_ofNat_of_zero_le (show 0 ≤ y by omega)
  obtain ⟨s, hs, es, hl, hb0, hb1⟩ := shift_is Y0 (by omega) (by omega)
  have hsh := shifted HI LO s hs
  have hlt : HI * 2 ^ s + 2 ^ s ≤ Y0 * 2 ^ s := by
    have := Nat.mul_le_mul_right (2 ^ s) (show HI + 1 ≤ Y0 by omega)
    rwa [Nat.add_mul, Nat.one_mul] at this
  have e1 : (2 : Nat) ^ (64 - s) * 2 ^ s = 18446744073709551616 := by rw [← Nat.pow_add, show 64 - s + s = 64 by omega]
  have hlo : LO / 2 ^ (64 - s) < 2 ^ s := by
    rw [Nat.div_lt_iff_lt_mul (Nat.two_pow_pos _), Nat.mul_comm, e1]
    omega
  have hor := or_parts HI LO s hs (by omega) (by omega)
  have hp : (0 : Int) < ((2 ^ s : Nat) : Int) := by have := Nat.two_pow_pos s; omega
  have c1 : ((Y0 : Int) * 2 ^ s) = ((Y0 * 2 ^ s : Nat) : Int) := by rw [Int.natCast_mul, Int.natCast_pow]; rfl
  have c2 : ((HI : Int) * 2 ^ s) = ((HI * 2 ^ s : Nat) : Int) := by rw [Int.natCast_mul, Int.natCast_pow]; rfl
  have c3 : ((LO : Int) * 2 ^ s) = ((LO * 2 ^ s : Nat) : Int) := by rw [Int.natCast_mul, Int.natCast_pow]; rfl
  have c4 : ((LO : Int) / 2 ^ (64 - s)) = ((LO / 2 ^ (64 - s) : Nat) : Int) := by rw [Int.natCast_ediv, Int.natCast_pow]; rfl
  have c5 : ((2 : Int) ^ s) = ((2 ^ s : Nat) : Int) := by rw [Int.natCast_pow]; rfl
  have hYc : ((Y0 * 2 ^ s : Nat) : Int) = (Y0 : Int) * ((2 ^ s : Nat) : Int) := Int.natCast_mul _ _
  have hN : ((HI : Int) * 18446744073709551616 + LO) * ((2 ^ s : Nat) : Int) = ((HI * 2 ^ s + LO / 2 ^ (64 - s) : Nat) : Int) * 18446744073709551616 + ((LO * 2 ^ s % 18446744073709551616 : Nat) : Int) := by
    have := congrArg (fun n : Nat => (n : Int)) hsh
    simp only [Int.natCast_add, Int.natCast_mul] at this ⊢
    exact this.symm
  have l0 := Nat.mod_lt (LO * 2 ^ s) (show 0 < 18446744073709551616 by omega)
  have hu : HI * 2 ^ s + LO / 2 ^ (64 - s) < Y0 * 2 ^ s := by omega
  clear hsh hlt e1 hlo
  generalize Y0 * 2 ^ s = Y at *
  generalize HI * 2 ^ s + LO / 2 ^ (64 - s) = U at *
  generalize hLg : LO * 2 ^ s % 18446744073709551616 = L at *
  have e4 : bits .or .u64 (IntKind.u64.wrap ((HI : Int) * 2 ^ s)) ((LO : Int) / 2 ^ (64 - s)) = (U : Int) := by
    have hle : HI * 2 ^ s < 18446744073709551616 := by
      have := Nat.mul_le_mul_right (2 ^ s) (show HI ≤ Y0 by omega)
      omega
    rw [c2, c4, IntWalk.u64_in _ (by omega), hor]
  clear hor
  have D1 : Digit (U : Int) ((L : Int) / 4294967296) ((Y : Int) / 4294967296) ((Y : Int) % 4294967296) := ⟨by omega, by omega, by omega, by omega, by omega, by omega, by omega, by omega⟩
  have hYY : (Y : Int) / 4294967296 * 4294967296 + (Y : Int) % 4294967296 = Y := by omega
  have r1 := digit_rest D1
  rw [hYY] at r1
  generalize hV : (U : Int) * 4294967296 + (L : Int) / 4294967296 - dig (U : Int) ((L : Int) / 4294967296) ((Y : Int) / 4294967296) ((Y : Int) % 4294967296) * Y = V at r1
  have D2 : Digit V ((L : Int) % 4294967296) ((Y : Int) / 4294967296) ((Y : Int) % 4294967296) := ⟨by omega, by omega, by omega, by omega, by omega, by omega, by omega, by omega⟩
  have r2 := digit_rest D2
  rw [hYY] at r2
  generalize hR : V * 4294967296 + (L : Int) % 4294967296 - dig V ((L : Int) % 4294967296) ((Y : Int) / 4294967296) ((Y : Int) % 4294967296) * Y = R at r2
  have G1 := guess_first D1
  have G2 := guess_first D2
  have fin := quo_of _ (Y0 : Int) ((2 ^ s : Nat) : Int) (Y : Int) U L _ _ V R _ _ hp hN hYc (show (L : Int) = (L : Int) / 4294967296 * 4294967296 + (L : Int) % 4294967296 by omega) hV.symm hR.symm r2.1 r2.2
  rw [← c5] at fin
  have hlz : ∀ w', Calls Tryz.prog 102 #[.int .u64 (Y0 : Int)] w' fun e w'' => e = .returned (.int .i64 (s : Int)) ∧ w' = w'' := fun w' =>
    (Tryz.bits_LeadingZeros64 (Y0 : Int) w' (by omega) (by omega)).mono fun e w'' ⟨he, hw⟩ => ⟨by
      rw [he]
      refine congrArg Ending.returned (congrArg (Value.int IntKind.i64) ?_)
      simp only [Int.toNat_natCast]
      omega, hw.symm⟩
  refine div64_walk s _ _ _ Y U L _ _ _ _ V R w g0 g1 (by omega) h1 y1 hlz hs ?_ rfl (mask_is _ (by omega) (by omega)) (by omega) (by omega) (by omega) (by omega) e4 ?_ rfl (mask_is _ (by omega) (by omega)) (by omega) (by omega)
    (Int.ediv_nonneg (by omega) (by omega)) G1.qB ?_ (Lib.hid D1) (Lib.hid G1) (by omega) (by omega) (by omega) (Lib.hid hV.symm) r1.1 r1.2 (Lib.hid D2) (Lib.hid G2) (by omega) (by omega)
    (Int.ediv_nonneg (by omega) (by omega)) G2.qB ?_ (Lib.hid hR.symm) r2.1 r2.2 (Lib.hid fin.1) (Lib.hid fin.2)
  · rw [c1, IntWalk.u64_in _ (by omega)]
  · rw [c3, IntKind.wrap_u64, ← hLg]; omega
  · have := G1.r0; exact ⟨Int.mul_nonneg (Int.ediv_nonneg (by omega) (by omega)) (by omega), by omega⟩
  · have := G2.r0; exact ⟨Int.mul_nonneg (Int.ediv_nonneg (by omega) (by omega)) (by omega), by omega⟩

/-- math/bits.Div64, for a divisor above the upper half -/
theorem div64_c (hi lo y : Int) (w : World) (g0 : 0 ≤ hi) (g1 : hi < y) (h0 : 0 ≤ lo) (h1 : lo ≤ 18446744073709551615) (y1 : y ≤ 18446744073709551615) :
    Calls Tryz.prog 79 #[.int .u64 hi, .int .u64 lo, .int .u64 y] w fun e w' => e = .returned (.tuple #[.int .u64 ((hi * 18446744073709551616 + lo) / y), .int .u64 ((hi * 18446744073709551616 + lo) % y)]) ∧ ∃ x : Later w, w' = x.out := by
  by_cases h : hi = 0
  · subst h
    have := div64_small lo y w h0 h1 (by omega) y1
    rwa [show (0 : Int) * 18446744073709551616 + lo = lo by omega]
  · exact div64_great hi lo y w (by omega) g1 h0 h1 y1
end Go.Proofs.YtjmagehfkcnjjaaGreatDoor

/-
  The contracts of products and quotients of wide numbers.
-/
namespace Go.Proofs.YtjmagehfkcnjjaaGreatDoor
set_option linter.unusedVariables false
open Go.RowKit


theorem mul64_c (x y : Int) (w : World) (hx0 : 0 ≤ x) (hx1 : x ≤ 18446744073709551615) (hy0 : 0 ≤ y) (hy1 : y ≤ 18446744073709551615) :
    Calls Tryz.prog 80 #[.int .u64 x, .int .u64 y] w fun e w' => e = .returned (.tuple #[.int .u64 (x * y / 18446744073709551616), .int .u64 (x * y % 18446744073709551616)]) ∧ w = w' := by
  obtain ⟨X, rfl⟩ := Int.eq_ofNat_of_zero_le hx0
  obtain ⟨Y, rfl⟩ := Int.eq_ofNat_of_zero_le hy0
  refine (Tryz.bits_Mul64 X Y (by omega) (by omega) w).mono fun e w' ⟨he, hw⟩ => ⟨?_, hw.symm⟩
  rw [he]
  rfl

theorem wrapu_bd (n : Int) : 0 ≤ IntKind.u64.wrap n ∧ IntKind.u64.wrap n ≤ 18446744073709551615 := by rw [IntKind.wrap_u64]; omega
theorem wrapu_pos (n : Int) (h : R64 n) (h0 : ¬ n < 0) : IntKind.u64.wrap n = n := by rw [IntKind.wrap_u64]; unfold R64 at h; omega
theorem wrapu_neg (n : Int) (h : R64 n) (h0 : n < 0) : IntKind.u64.wrap n = n + 18446744073709551616 := by rw [IntKind.wrap_u64]; unfold R64 at h; omega

set_option maxHeartbeats 400000 in
theorem mul_0 (a b : Int) (w : World) (ha : 0 ≤ a) (hb : 0 ≤ b) (ra : R64 a) (rb : R64 b) :
    Calls Tryz.prog 45 #[.int .i64 a, .int .i64 b] w fun e w' => e = .returned (.agg #[.int .i64 (hiW (a * b)), .int .u64 (loW (a * b))]) ∧ ∃ x : Later w, w' = x.out := by
  have ex : (a) * (b) = a * b := rfl
  have e1 : wrap64 (IntKind.u64.wrap a * IntKind.u64.wrap b / 18446744073709551616) = hiW (a * b) := by
    rw [wrapu_pos a ra (by omega), wrapu_pos b rb (by omega), ex]
    try simp only [IntKind.wrap_u64]
    unfold wrap64 hiW
    unfold R64 at ra rb
    generalize a * b = p at *
    omega
  have e2 : IntKind.u64.wrap a * IntKind.u64.wrap b % 18446744073709551616 = loW (a * b) := by
    rw [wrapu_pos a ra (by omega), wrapu_pos b rb (by omega), ex]
    unfold loW
    generalize a * b = p at *
    omega
  have E1 := Lib.hid e1
  have E2 := Lib.hid e2
  clear e1 e2 ex
  have ua := wrapu_bd a
  have ub := wrapu_bd b
  obtain ⟨ua0, ua1⟩ := ua
  obtain ⟨ub0, ub1⟩ := ub
  go_enter Tryz.func45, Tryz.ntmps45
  go_wp2_with (go_at_call 80; refine (mul64_c _ _ _ (by omega) (by omega) (by omega) (by omega)).mono ?_; rintro e _ ⟨rfl, rfl⟩)
  rw [E1.out, E2.out]
  exact bodyPost_ret (v := .agg #[.int .i64 (hiW (a * b)), .int .u64 (loW (a * b))]) (by simp [results, Tryz.results45, go_sem, *]) rfl ⟨rfl, (Later.mk_of (by repeat (first | (with_reducible assumption) | (with_reducible exact Below.refl _ _) | (with_reducible refine Later.after ?_ _) | (with_reducible refine Later.newer ?_ _) | (with_reducible refine Below.drew ?_) | (with_reducible refine Below.setCell ?_ (by first | exact Nat.le_refl _ | exact Nat.le_add_right _ _ | omega | (simp [go_sem]; done) | (simp [go_sem]; omega)) _))))⟩

set_option maxHeartbeats 400000 in
theorem mul_1 (a b : Int) (w : World) (ha : 0 ≤ a) (hb : b < 0) (ra : R64 a) (rb : R64 b) :
    Calls Tryz.prog 45 #[.int .i64 a, .int .i64 b] w fun e w' => e = .returned (.agg #[.int .i64 (hiW (a * b)), .int .u64 (loW (a * b))]) ∧ ∃ x : Later w, w' = x.out := by
  have ex : (a) * (b + 18446744073709551616) = a * b + a * 18446744073709551616 := Int.mul_add _ _ _
  have e1 : wrap64 (IntKind.u64.wrap (IntKind.u64.wrap a * IntKind.u64.wrap b / 18446744073709551616 - IntKind.u64.wrap a)) = hiW (a * b) := by
    rw [wrapu_pos a ra (by omega), wrapu_neg b rb (by omega), ex]
    try simp only [IntKind.wrap_u64]
    unfold wrap64 hiW
    unfold R64 at ra rb
    generalize a * b = p at *
    omega
  have e2 : IntKind.u64.wrap a * IntKind.u64.wrap b % 18446744073709551616 = loW (a * b) := by
    rw [wrapu_pos a ra (by omega), wrapu_neg b rb (by omega), ex]
    unfold loW
    generalize a * b = p at *
    omega
  have E1 := Lib.hid e1
  have E2 := Lib.hid e2
  clear e1 e2 ex
  have ua := wrapu_bd a
  have ub := wrapu_bd b
  obtain ⟨ua0, ua1⟩ := ua
  obtain ⟨ub0, ub1⟩ := ub
  go_enter Tryz.func45, Tryz.ntmps45
  go_wp2_with (go_at_call 80; refine (mul64_c _ _ _ (by omega) (by omega) (by omega) (by omega)).mono ?_; rintro e _ ⟨rfl, rfl⟩)
  rw [E1.out, E2.out]
  exact bodyPost_ret (v := .agg #[.int .i64 (hiW (a * b)), .int .u64 (loW (a * b))]) (by simp [results, Tryz.results45, go_sem, *]) rfl ⟨rfl, (Later.mk_of (by repeat (first | (with_reducible assumption) | (with_reducible exact Below.refl _ _) | (with_reducible refine Later.after ?_ _) | (with_reducible refine Later.newer ?_ _) | (with_reducible refine Below.drew ?_) | (with_reducible refine Below.setCell ?_ (by first | exact Nat.le_refl _ | exact Nat.le_add_right _ _ | omega | (simp [go_sem]; done) | (simp [go_sem]; omega)) _))))⟩

set_option maxHeartbeats 400000 in
theorem mul_2 (a b : Int) (w : World) (ha : a < 0) (hb : 0 ≤ b) (ra : R64 a) (rb : R64 b) :
    Calls Tryz.prog 45 #[.int .i64 a, .int .i64 b] w fun e w' => e = .returned (.agg #[.int .i64 (hiW (a * b)), .int .u64 (loW (a * b))]) ∧ ∃ x : Later w, w' = x.out := by
  have ex : (a + 18446744073709551616) * (b) = a * b + 18446744073709551616 * b := Int.add_mul _ _ _
  have e1 : wrap64 (IntKind.u64.wrap (IntKind.u64.wrap a * IntKind.u64.wrap b / 18446744073709551616 - IntKind.u64.wrap b)) = hiW (a * b) := by
    rw [wrapu_neg a ra (by omega), wrapu_pos b rb (by omega), ex]
    try simp only [IntKind.wrap_u64]
    unfold wrap64 hiW
    unfold R64 at ra rb
    generalize a * b = p at *
    omega
  have e2 : IntKind.u64.wrap a * IntKind.u64.wrap b % 18446744073709551616 = loW (a * b) := by
    rw [wrapu_neg a ra (by omega), wrapu_pos b rb (by omega), ex]
    unfold loW
    generalize a * b = p at *
    omega
  have E1 := Lib.hid e1
  have E2 := Lib.hid e2
  clear e1 e2 ex
  have ua := wrapu_bd a
  have ub := wrapu_bd b
  obtain ⟨ua0, ua1⟩ := ua
  obtain ⟨ub0, ub1⟩ := ub
  go_enter Tryz.func45, Tryz.ntmps45
  go_wp2_with (go_at_call 80; refine (mul64_c _ _ _ (by omega) (by omega) (by omega) (by omega)).mono ?_; rintro e _ ⟨rfl, rfl⟩)
  rw [E1.out, E2.out]
  exact bodyPost_ret (v := .agg #[.int .i64 (hiW (a * b)), .int .u64 (loW (a * b))]) (by simp [results, Tryz.results45, go_sem, *]) rfl ⟨rfl, (Later.mk_of (by repeat (first | (with_reducible assumption) | (with_reducible exact Below.refl _ _) | (with_reducible refine Later.after ?_ _) | (with_reducible refine Later.newer ?_ _) | (with_reducible refine Below.drew ?_) | (with_reducible refine Below.setCell ?_ (by first | exact Nat.le_refl _ | exact Nat.le_add_right _ _ | omega | (simp [go_sem]; done) | (simp [go_sem]; omega)) _))))⟩

set_option maxHeartbeats 400000 in
theorem mul_3 (a b : Int) (w : World) (ha : a < 0) (hb : b < 0) (ra : R64 a) (rb : R64 b) :
    Calls Tryz.prog 45 #[.int .i64 a, .int .i64 b] w fun e w' => e = .returned (.agg #[.int .i64 (hiW (a * b)), .int .u64 (loW (a * b))]) ∧ ∃ x : Later w, w' = x.out := by
  have ex : (a + 18446744073709551616) * (b + 18446744073709551616) = a * b + a * 18446744073709551616 + (18446744073709551616 * b + 18446744073709551616 * 18446744073709551616) := by rw [Int.add_mul, Int.mul_add, Int.mul_add]
  have e1 : wrap64 (IntKind.u64.wrap (IntKind.u64.wrap (IntKind.u64.wrap a * IntKind.u64.wrap b / 18446744073709551616 - IntKind.u64.wrap b) - IntKind.u64.wrap a)) = hiW (a * b) := by
    rw [wrapu_neg a ra (by omega), wrapu_neg b rb (by omega), ex]
    try simp only [IntKind.wrap_u64]
    unfold wrap64 hiW
    unfold R64 at ra rb
    generalize a * b = p at *
    omega
  have e2 : IntKind.u64.wrap a * IntKind.u64.wrap b % 18446744073709551616 = loW (a * b) := by
    rw [wrapu_neg a ra (by omega), wrapu_neg b rb (by omega), ex]
    unfold loW
    generalize a * b = p at *
    omega
  have E1 := Lib.hid e1
  have E2 := Lib.hid e2
  clear e1 e2 ex
  have ua := wrapu_bd a
  have ub := wrapu_bd b
  obtain ⟨ua0, ua1⟩ := ua
  obtain ⟨ub0, ub1⟩ := ub
  go_enter Tryz.func45, Tryz.ntmps45
  go_wp2_with (go_at_call 80; refine (mul64_c _ _ _ (by omega) (by omega) (by omega) (by omega)).mono ?_; rintro e _ ⟨rfl, rfl⟩)
  rw [E1.out, E2.out]
  exact bodyPost_ret (v := .agg #[.int .i64 (hiW (a * b)), .int .u64 (loW (a * b))]) (by simp [results, Tryz.results45, go_sem, *]) rfl ⟨rfl, (Later.mk_of (by repeat (first | (with_reducible assumption) | (with_reducible exact Below.refl _ _) | (with_reducible refine Later.after ?_ _) | (with_reducible refine Later.newer ?_ _) | (with_reducible refine Below.drew ?_) | (with_reducible refine Below.setCell ?_ (by first | exact Nat.le_refl _ | exact Nat.le_add_right _ _ | omega | (simp [go_sem]; done) | (simp [go_sem]; omega)) _))))⟩


theorem mul_c (a b : Int) (w : World) (ra : R64 a) (rb : R64 b) :
    Calls Tryz.prog 45 #[.int .i64 a, .int .i64 b] w fun e w' => e = .returned (.agg #[.int .i64 (hiW (a * b)), .int .u64 (loW (a * b))]) ∧ ∃ x : Later w, w' = x.out := by
  rcases Int.lt_or_le a 0 with ha | ha <;> rcases Int.lt_or_le b 0 with hb | hb
  · exact mul_3 a b w ha hb ra rb
  · exact mul_2 a b w ha hb ra rb
  · exact mul_1 a b w ha hb ra rb
  · exact mul_0 a b w ha hb ra rb

end Go.Proofs.YtjmagehfkcnjjaaGreatDoor

/-
  The contracts of products and quotients of wide numbers.
-/
namespace Go.Proofs.YtjmagehfkcnjjaaGreatDoor
set_option linter.unusedVariables false
open Go.RowKit


set_option maxHeartbeats 200000 in
theorem div_bad (nh nl b s : Int) (w : World) (hb : b ≤ 0) (hs : ∀ w', Calls Tryz.prog 77 #[.agg #[.int .i64 nh, .int .u64 nl]] w' fun e w'' => e = .returned (.int .i64 s) ∧ ∃ x : Later w', w'' = x.out) :
    Calls Tryz.prog 44 #[.agg #[.int .i64 nh, .int .u64 nl], .int .i64 b] w fun e w' => e = .returned (.tuple #[.agg #[.int .i64 0, .int .u64 0], .int .i64 0, .int .i64 1]) ∧ ∃ x : Later w, w' = x.out := by
  have Hhs := Lib.hid hs; clear hs
  go_enter Tryz.func44, Tryz.ntmps44
  go_wp2_with (first | (go_at_call 77; refine (Hhs.out _).mono ?_; rintro e _ ⟨rfl, x, rfl⟩))
  exact bodyPost_ret (v := .tuple #[.agg #[.int .i64 0, .int .u64 0], .int .i64 0, .int .i64 1]) (by simp [results, Tryz.results44, go_sem, *]) rfl ⟨rfl, (Later.mk_of (by repeat (first | (with_reducible assumption) | (with_reducible exact Below.refl _ _) | (with_reducible refine Later.after ?_ _) | (with_reducible refine Later.newer ?_ _) | (with_reducible refine Below.drew ?_) | (with_reducible refine Below.setCell ?_ (by first | exact Nat.le_refl _ | exact Nat.le_add_right _ _ | omega | (simp [go_sem]; done) | (simp [go_sem]; omega)) _))))⟩


set_option maxHeartbeats 200000 in
theorem div_pos (nh nl b s h o q1 q0 r Qh : Int) (w : World) (hb : 0 < b) (hb1 : b ≤ 9223372036854775807) (hs : ∀ w', Calls Tryz.prog 77 #[.agg #[.int .i64 nh, .int .u64 nl]] w' fun e w'' => e = .returned (.int .i64 s) ∧ ∃ x : Later w', w'' = x.out) (hs0 : 0 ≤ s)
    (e1 : IntKind.u64.wrap nh = h) (hd1 : ∀ w', Calls Tryz.prog 79 #[.int .u64 0, .int .u64 h, .int .u64 b] w' fun e w'' => e = .returned (.tuple #[.int .u64 q1, .int .u64 o]) ∧ ∃ x : Later w', w'' = x.out) (hd2 : ∀ w', Calls Tryz.prog 79 #[.int .u64 o, .int .u64 nl, .int .u64 b] w' fun e w'' => e = .returned (.tuple #[.int .u64 q0, .int .u64 r]) ∧ ∃ x : Later w', w'' = x.out)
    (e2 : wrap64 q1 = Qh) (r0 : 0 ≤ r) (r1 : r < b) (q10 : 0 ≤ q1) :
    Calls Tryz.prog 44 #[.agg #[.int .i64 nh, .int .u64 nl], .int .i64 b] w fun e w' => e = .returned (.tuple #[.agg #[.int .i64 Qh, .int .u64 q0], .int .i64 r, .int .i64 0]) ∧ ∃ x : Later w, w' = x.out := by
  have Hhs := Lib.hid hs; clear hs
  have Hhd1 := Lib.hid hd1; clear hd1
  have Hhd2 := Lib.hid hd2; clear hd2
  go_enter Tryz.func44, Tryz.ntmps44
  go_wp2_with (first | (go_at_call 77; refine (Hhs.out _).mono ?_; rintro e _ ⟨rfl, x, rfl⟩) | (go_at_call_of 79 (Value.int .u64 h); refine (Hhd1.out _).mono ?_; rintro e _ ⟨rfl, x, rfl⟩) | (go_at_call_of 79 (Value.int .u64 nl); refine (Hhd2.out _).mono ?_; rintro e _ ⟨rfl, x, rfl⟩))
  exact bodyPost_ret (v := .tuple #[.agg #[.int .i64 Qh, .int .u64 q0], .int .i64 r, .int .i64 0]) (by simp [results, Tryz.results44, go_sem, *]) rfl ⟨rfl, (Later.mk_of (by repeat (first | (with_reducible assumption) | (with_reducible exact Below.refl _ _) | (with_reducible refine Later.after ?_ _) | (with_reducible refine Later.newer ?_ _) | (with_reducible refine Below.drew ?_) | (with_reducible refine Below.setCell ?_ (by first | exact Nat.le_refl _ | exact Nat.le_add_right _ _ | omega | (simp [go_sem]; done) | (simp [go_sem]; omega)) _))))⟩


set_option maxHeartbeats 400000 in
theorem div_neg0 (nh nl mh ml b s h o q1 q0 r Qh Ph pl th tl : Int) (w : World) (hb : 0 < b) (hb1 : b ≤ 9223372036854775807) (hs : ∀ w', Calls Tryz.prog 77 #[.agg #[.int .i64 nh, .int .u64 nl]] w' fun e w'' => e = .returned (.int .i64 s) ∧ ∃ x : Later w', w'' = x.out) (hs0 : s < 0)
    (hn : ∀ w', Calls Tryz.prog 78 #[.agg #[.int .i64 0, .int .u64 0], .agg #[.int .i64 nh, .int .u64 nl]] w' fun e w'' => e = .returned (.agg #[.int .i64 mh, .int .u64 ml]) ∧ ∃ x : Later w', w'' = x.out) (e1 : IntKind.u64.wrap mh = h) (hd1 : ∀ w', Calls Tryz.prog 79 #[.int .u64 0, .int .u64 h, .int .u64 b] w' fun e w'' => e = .returned (.tuple #[.int .u64 q1, .int .u64 o]) ∧ ∃ x : Later w', w'' = x.out) (hd2 : ∀ w', Calls Tryz.prog 79 #[.int .u64 o, .int .u64 ml, .int .u64 b] w' fun e w'' => e = .returned (.tuple #[.int .u64 q0, .int .u64 r]) ∧ ∃ x : Later w', w'' = x.out)
    (e2 : wrap64 q1 = Qh) (r1 : r < b) (q10 : 0 ≤ q1) (hn2 : ∀ w', Calls Tryz.prog 78 #[.agg #[.int .i64 0, .int .u64 0], .agg #[.int .i64 Qh, .int .u64 q0]] w' fun e w'' => e = .returned (.agg #[.int .i64 Ph, .int .u64 pl]) ∧ ∃ x : Later w', w'' = x.out) (r0 : r = 0) :
    Calls Tryz.prog 44 #[.agg #[.int .i64 nh, .int .u64 nl], .int .i64 b] w fun e w' => e = .returned (.tuple #[.agg #[.int .i64 Ph, .int .u64 pl], .int .i64 0, .int .i64 0]) ∧ ∃ x : Later w, w' = x.out := by
  have Hhs := Lib.hid hs; clear hs
  have Hhn := Lib.hid hn; clear hn
  have Hhd1 := Lib.hid hd1; clear hd1
  have Hhd2 := Lib.hid hd2; clear hd2
  have Hhn2 := Lib.hid hn2; clear hn2
  subst r0
  go_enter Tryz.func44, Tryz.ntmps44
  go_wp2_with (first | (go_at_call 77; refine (Hhs.out _).mono ?_; rintro e _ ⟨rfl, x, rfl⟩) | (go_at_call_of 78 (Value.int .i64 nh); refine (Hhn.out _).mono ?_; rintro e _ ⟨rfl, x, rfl⟩) | (go_at_call_of 79 (Value.int .u64 h); refine (Hhd1.out _).mono ?_; rintro e _ ⟨rfl, x, rfl⟩) | (go_at_call_of 79 (Value.int .u64 ml); refine (Hhd2.out _).mono ?_; rintro e _ ⟨rfl, x, rfl⟩) | (go_at_call_of 78 (Value.int .i64 Qh); refine (Hhn2.out _).mono ?_; rintro e _ ⟨rfl, x, rfl⟩))
  exact bodyPost_ret (v := .tuple #[.agg #[.int .i64 Ph, .int .u64 pl], .int .i64 0, .int .i64 0]) (by simp [results, Tryz.results44, go_sem, *]) rfl ⟨rfl, (Later.mk_of (by repeat (first | (with_reducible assumption) | (with_reducible exact Below.refl _ _) | (with_reducible refine Later.after ?_ _) | (with_reducible refine Later.newer ?_ _) | (with_reducible refine Below.drew ?_) | (with_reducible refine Below.setCell ?_ (by first | exact Nat.le_refl _ | exact Nat.le_add_right _ _ | omega | (simp [go_sem]; done) | (simp [go_sem]; omega)) _))))⟩

set_option maxHeartbeats 400000 in
theorem div_neg1 (nh nl mh ml b s h o q1 q0 r Qh Ph pl th tl : Int) (w : World) (hb : 0 < b) (hb1 : b ≤ 9223372036854775807) (hs : ∀ w', Calls Tryz.prog 77 #[.agg #[.int .i64 nh, .int .u64 nl]] w' fun e w'' => e = .returned (.int .i64 s) ∧ ∃ x : Later w', w'' = x.out) (hs0 : s < 0)
    (hn : ∀ w', Calls Tryz.prog 78 #[.agg #[.int .i64 0, .int .u64 0], .agg #[.int .i64 nh, .int .u64 nl]] w' fun e w'' => e = .returned (.agg #[.int .i64 mh, .int .u64 ml]) ∧ ∃ x : Later w', w'' = x.out) (e1 : IntKind.u64.wrap mh = h) (hd1 : ∀ w', Calls Tryz.prog 79 #[.int .u64 0, .int .u64 h, .int .u64 b] w' fun e w'' => e = .returned (.tuple #[.int .u64 q1, .int .u64 o]) ∧ ∃ x : Later w', w'' = x.out) (hd2 : ∀ w', Calls Tryz.prog 79 #[.int .u64 o, .int .u64 ml, .int .u64 b] w' fun e w'' => e = .returned (.tuple #[.int .u64 q0, .int .u64 r]) ∧ ∃ x : Later w', w'' = x.out)
    (e2 : wrap64 q1 = Qh) (r1 : r < b) (q10 : 0 ≤ q1) (hn2 : ∀ w', Calls Tryz.prog 78 #[.agg #[.int .i64 0, .int .u64 0], .agg #[.int .i64 Qh, .int .u64 q0]] w' fun e w'' => e = .returned (.agg #[.int .i64 Ph, .int .u64 pl]) ∧ ∃ x : Later w', w'' = x.out) (r0 : 0 < r) (ho : ∀ w', Calls Tryz.prog 47 #[.int .i64 1] w' fun e w'' => e = .returned (.agg #[.int .i64 0, .int .u64 1]) ∧ ∃ x : Later w', w'' = x.out) (hn3 : ∀ w', Calls Tryz.prog 78 #[.agg #[.int .i64 Ph, .int .u64 pl], .agg #[.int .i64 0, .int .u64 1]] w' fun e w'' => e = .returned (.agg #[.int .i64 th, .int .u64 tl]) ∧ ∃ x : Later w', w'' = x.out) :
    Calls Tryz.prog 44 #[.agg #[.int .i64 nh, .int .u64 nl], .int .i64 b] w fun e w' => e = .returned (.tuple #[.agg #[.int .i64 th, .int .u64 tl], .int .i64 (b - r), .int .i64 0]) ∧ ∃ x : Later w, w' = x.out := by
  have Hhs := Lib.hid hs; clear hs
  have Hhn := Lib.hid hn; clear hn
  have Hhd1 := Lib.hid hd1; clear hd1
  have Hhd2 := Lib.hid hd2; clear hd2
  have Hhn2 := Lib.hid hn2; clear hn2
  have Hho := Lib.hid ho; clear ho
  have Hhn3 := Lib.hid hn3; clear hn3
  go_enter Tryz.func44, Tryz.ntmps44
  go_wp2_with (first | (go_at_call 77; refine (Hhs.out _).mono ?_; rintro e _ ⟨rfl, x, rfl⟩) | (go_at_call_of 78 (Value.int .i64 nh); refine (Hhn.out _).mono ?_; rintro e _ ⟨rfl, x, rfl⟩) | (go_at_call_of 79 (Value.int .u64 h); refine (Hhd1.out _).mono ?_; rintro e _ ⟨rfl, x, rfl⟩) | (go_at_call_of 79 (Value.int .u64 ml); refine (Hhd2.out _).mono ?_; rintro e _ ⟨rfl, x, rfl⟩) | (go_at_call_of 78 (Value.int .i64 Qh); refine (Hhn2.out _).mono ?_; rintro e _ ⟨rfl, x, rfl⟩))
  go_region_with (first | (go_at_call 47; refine (Hho.out _).mono ?_; rintro e _ ⟨rfl, x, rfl⟩) | (go_at_call_of 78 (Value.int .i64 Ph); refine (Hhn3.out _).mono ?_; rintro e _ ⟨rfl, x, rfl⟩))
  all_goals go_wp2
  all_goals (exact bodyPost_ret (v := .tuple #[.agg #[.int .i64 th, .int .u64 tl], .int .i64 (b - r), .int .i64 0]) (by simp [results, Tryz.results44, go_sem, *]) rfl ⟨rfl, (Later.mk_of (by repeat (first | (with_reducible assumption) | (with_reducible exact Below.refl _ _) | (with_reducible refine Later.after ?_ _) | (with_reducible refine Later.newer ?_ _) | (with_reducible refine Below.drew ?_) | (with_reducible refine Below.setCell ?_ (by first | exact Nat.le_refl _ | exact Nat.le_add_right _ _ | omega | (simp [go_sem]; done) | (simp [go_sem]; omega)) _))))⟩)

/-! ### the plain side -/
theorem long_div (h l b : Int) (hb : 0 < b) (h0 : 0 ≤ h) (l0 : 0 ≤ l) (l1 : l ≤ 18446744073709551615) :
    (h * 18446744073709551616 + l) / b = h / b * 18446744073709551616 + (h % b * 18446744073709551616 + l) / b ∧ (h * 18446744073709551616 + l) % b = (h % b * 18446744073709551616 + l) % b ∧
    0 ≤ (h % b * 18446744073709551616 + l) / b ∧ (h % b * 18446744073709551616 + l) / b ≤ 18446744073709551615 := by
  have e := Int.mul_ediv_add_emod h b
  have m0 := Int.emod_nonneg h (show b ≠ 0 by omega)
  have m1 := Int.emod_lt_of_pos h hb
  have k : h * 18446744073709551616 + l = (h % b * 18446744073709551616 + l) + b * (h / b * 18446744073709551616) := by
    rw [← Int.mul_assoc]
    omega
  have d : (h % b * 18446744073709551616 + l) / b < 18446744073709551616 := Int.ediv_lt_of_lt_mul hb (by omega)
  refine ⟨?_, ?_, Int.ediv_nonneg (by omega) (by omega), by omega⟩
  · rw [k, Int.add_mul_ediv_left _ _ (by omega), Int.add_comm]
  · rw [k, Int.add_mul_emod_self_left]

theorem hi_wrap (m : Int) (h0 : 0 ≤ m) (h1 : m < 340282366920938463463374607431768211456) : IntKind.u64.wrap (hiW m) = m / 18446744073709551616 := by rw [IntKind.wrap_u64]; unfold hiW; omega
theorem wrap_hi (q h l : Int) (e : q = h * 18446744073709551616 + l) (l0 : 0 ≤ l) (l1 : l ≤ 18446744073709551615) : wrap64 h = hiW q ∧ l = loW q := by unfold wrap64 hiW loW; omega
theorem halves_pos (m : Int) : m = m / 18446744073709551616 * 18446744073709551616 + loW m := by unfold loW; omega

theorem div_c_bad (n b : Int) (w : World) (hn : R128 n) (hb : b ≤ 0) :
    Calls Tryz.prog 44 #[.agg #[.int .i64 (hiW n), .int .u64 (loW n)], .int .i64 b] w fun e w' => e = .returned (.tuple #[.agg #[.int .i64 0, .int .u64 0], .int .i64 0, .int .i64 1]) ∧ ∃ x : Later w, w' = x.out :=
  div_bad _ _ b _ w hb fun w' => sign_c n w' hn

theorem div_c (n b : Int) (w : World) (hn : R128 n) (hb : 0 < b) (hb1 : b ≤ 9223372036854775807) :
    Calls Tryz.prog 44 #[.agg #[.int .i64 (hiW n), .int .u64 (loW n)], .int .i64 b] w fun e w' => e = .returned (.tuple #[.agg #[.int .i64 (hiW (n / b)), .int .u64 (loW (n / b))], .int .i64 (n % b), .int .i64 0]) ∧ ∃ x : Later w, w' = x.out := by
  have hz := W_zero
  have g : ∀ m : Int, 0 ≤ m → m < 340282366920938463463374607431768211456 → ∃ q1 o q0 r : Int, m / b = q1 * 18446744073709551616 + q0 ∧ m % b = r ∧ 0 ≤ q1 ∧ 0 ≤ q0 ∧ q0 ≤ 18446744073709551615 ∧ 0 ≤ r ∧ r < b ∧ wrap64 q1 = hiW (m / b) ∧ q0 = loW (m / b) ∧
      (∀ w', Calls Tryz.prog 79 #[.int .u64 0, .int .u64 (m / 18446744073709551616), .int .u64 b] w' fun e w'' => e = .returned (.tuple #[.int .u64 q1, .int .u64 o]) ∧ ∃ x : Later w', w'' = x.out) ∧
      (∀ w', Calls Tryz.prog 79 #[.int .u64 o, .int .u64 (loW m), .int .u64 b] w' fun e w'' => e = .returned (.tuple #[.int .u64 q0, .int .u64 r]) ∧ ∃ x : Later w', w'' = x.out) := by
    intro m m0 m1
    have lb := loW_bd m
    have L := long_div (m / 18446744073709551616) (loW m) b hb (by omega) lb.1 lb.2
    rw [← halves_pos m] at L
    have n0 := Int.emod_nonneg (m / 18446744073709551616) (show b ≠ 0 by omega)
    have n1 := Int.emod_lt_of_pos (m / 18446744073709551616) hb
    have r0 := Int.emod_nonneg m (show b ≠ 0 by omega)
    have r1 := Int.emod_lt_of_pos m hb
    have wh := wrap_hi _ _ _ L.1 L.2.2.1 L.2.2.2
    refine ⟨m / 18446744073709551616 / b, m / 18446744073709551616 % b, (m / 18446744073709551616 % b * 18446744073709551616 + loW m) / b, m % b, L.1, rfl, Int.ediv_nonneg (by omega) (by omega), L.2.2.1, L.2.2.2, r0, r1, wh.1, wh.2, fun w' => ?_, fun w' => ?_⟩
    · have := div64_c 0 (m / 18446744073709551616) b w' (by omega) hb (by omega) (by omega) (by omega)
      rwa [show (0 : Int) * 18446744073709551616 + m / 18446744073709551616 = m / 18446744073709551616 by omega] at this
    · have := div64_c (m / 18446744073709551616 % b) (loW m) b w' n0 n1 lb.1 lb.2 (by omega)
      rwa [← L.2.1] at this
  unfold R128 at hn
  rcases Int.lt_or_le n 0 with h | h
  · obtain ⟨q1, o, q0, r, hq, hr, q10, q00, q01, r0, r1, eh, el, c1, c2⟩ := g (-n) (by omega) (by omega)
    have s1 := fun w' => sub_c 0 n w'
    have s2 := fun w' => sub_c 0 (-n / b) w'
    rw [hz.1, hz.2, show (0 : Int) - n = -n by omega] at s1
    rw [hz.1, hz.2, ← el, show (0 : Int) - -n / b = -(-n / b) by omega] at s2
    have e0 := Int.mul_ediv_add_emod (-n) b
    have hs : ordW n 0 < 0 := by unfold ordW; rw [if_neg (by omega), if_pos h]; omega
    rcases Int.lt_or_eq_of_le r0 with hp | hp
    · have s3 := fun w' => sub_c (-(-n / b)) 1 w'
      have o1 := fun w' => of_c 1 w' (by unfold R64; omega)
      have h1 : hiW 1 = 0 ∧ loW 1 = 1 := by unfold hiW loW; omega
      rw [h1.1, h1.2] at s3 o1
      have k : n = (b - r) + b * (-(-n / b) - 1) := by rw [Int.mul_sub, Int.mul_neg]; omega
      have e1 : n / b = -(-n / b) - 1 := by rw [k, Int.add_mul_ediv_left _ _ (by omega), Int.ediv_eq_zero_of_lt (by omega) (by omega), ← k]; omega
      have e2 : n % b = b - r := by rw [k, Int.add_mul_emod_self_left, Int.emod_eq_of_lt (by omega) (by omega)]
      rw [e1, e2]
      exact div_neg1 _ _ _ _ b _ _ o q1 q0 r _ _ _ _ _ w hb hb1 (fun w' => sign_c n w' hn) hs s1 (hi_wrap _ (by omega) (by omega)) c1 c2 eh r1 q10 s2 hp o1 s3
    · have k : n = b * (-(-n / b)) := by rw [Int.mul_neg]; omega
      have e1 : n / b = -(-n / b) := by
        have := Int.mul_ediv_cancel_left (-(-n / b)) (show b ≠ 0 by omega)
        rwa [← k] at this
      have e2 : n % b = 0 := by
        have := Int.mul_emod_right b (-(-n / b))
        rwa [← k] at this
      rw [e1, e2]
      exact div_neg0 _ _ _ _ b _ _ o q1 q0 r _ _ _ 0 0 w hb hb1 (fun w' => sign_c n w' hn) hs s1 (hi_wrap _ (by omega) (by omega)) c1 c2 eh r1 q10 s2 hp.symm
  · obtain ⟨q1, o, q0, r, hq, hr, q10, q00, q01, r0, r1, eh, el, c1, c2⟩ := g n h (by omega)
    have hs : 0 ≤ ordW n 0 := by unfold ordW; split <;> (try split) <;> omega
    rw [hr, ← el]
    exact div_pos _ _ b _ _ o q1 q0 r _ w hb hb1 (fun w' => sign_c n w' hn) hs (hi_wrap n h (by omega)) c1 c2 eh r0 r1 q10
end Go.Proofs.YtjmagehfkcnjjaaGreatDoor

/-
  The contracts of the reference's functions on wide numbers.
-/
namespace Go.Proofs.YtjmagehfkcnjjaaGreatDoor
set_option linter.unusedVariables false
open Go.RowKit

set_option maxHeartbeats 400000 in
theorem of_r (n : Int) (w : World) (h : R64 n) :
    Calls Tryz.prog 30 #[.int .i64 n] w fun e w' => e = .returned (.agg #[.int .i64 (hiW n), .int .u64 (loW n)]) ∧ ∃ x : Later w, w' = x.out := by
  have e2 : IntKind.u64.wrap n = loW n := by rw [IntKind.wrap_u64]; rfl
  by_cases hn : n < 0
  · have e1 : hiW n = -1 := by unfold R64 at h; unfold hiW; omega
    rw [e1, ← e2]
    clear e1 e2
    go_enter Tryz.func30, Tryz.ntmps30
    go_wp2
    exact bodyPost_ret (v := .agg #[.int .i64 (-1), .int .u64 (IntKind.u64.wrap n)]) (by simp [results, Tryz.results30, go_sem, *]) rfl ⟨rfl, (Later.mk_of (by repeat (first | (with_reducible assumption) | (with_reducible exact Below.refl _ _) | (with_reducible refine Later.after ?_ _) | (with_reducible refine Later.newer ?_ _) | (with_reducible refine Below.drew ?_) | (with_reducible refine Below.setCell ?_ (by first | exact Nat.le_refl _ | exact Nat.le_add_right _ _ | omega | (simp [go_sem]; done) | (simp [go_sem]; omega)) _))))⟩
  · have e1 : hiW n = 0 := by unfold R64 at h; unfold hiW; omega
    rw [e1, ← e2]
    clear e1 e2
    go_enter Tryz.func30, Tryz.ntmps30
    go_wp2
    exact bodyPost_ret (v := .agg #[.int .i64 0, .int .u64 (IntKind.u64.wrap n)]) (by simp [results, Tryz.results30, go_sem, *]) rfl ⟨rfl, (Later.mk_of (by repeat (first | (with_reducible assumption) | (with_reducible exact Below.refl _ _) | (with_reducible refine Later.after ?_ _) | (with_reducible refine Later.newer ?_ _) | (with_reducible refine Below.drew ?_) | (with_reducible refine Below.setCell ?_ (by first | exact Nat.le_refl _ | exact Nat.le_add_right _ _ | omega | (simp [go_sem]; done) | (simp [go_sem]; omega)) _))))⟩

set_option maxHeartbeats 400000 in
theorem add_r (n m : Int) (w : World) :
    Calls Tryz.prog 29 #[.agg #[.int .i64 (hiW n), .int .u64 (loW n)], .agg #[.int .i64 (hiW m), .int .u64 (loW m)]] w fun e w' => e = .returned (.agg #[.int .i64 (hiW (n + m)), .int .u64 (loW (n + m))]) ∧ ∃ x : Later w, w' = x.out := by
  have e1 : IntKind.u64.wrap (loW n + loW m) = loW (n + m) := by rw [IntKind.wrap_u64]; unfold loW; omega
  have bn := loW_bd n
  have bm := loW_bd m
  by_cases h : loW (n + m) < loW n
  · have E : Hid (wrap64 (IntKind.u64.wrap (IntKind.u64.wrap (IntKind.u64.wrap (hiW n) + IntKind.u64.wrap (hiW m)) + 1)) = hiW (n + m)) := by
      refine Lib.hid ?_
      clear e1
      simp only [IntKind.wrap_u64]
      unfold wrap64 hiW
      unfold loW at *
      omega
    clear bn bm
    go_enter Tryz.func29, Tryz.ntmps29
    go_wp2
    rw [E.out]
    exact bodyPost_ret (v := .agg #[.int .i64 (hiW (n + m)), .int .u64 (loW (n + m))]) (by simp [results, Tryz.results29, go_sem, *]) rfl ⟨rfl, (Later.mk_of (by repeat (first | (with_reducible assumption) | (with_reducible exact Below.refl _ _) | (with_reducible refine Later.after ?_ _) | (with_reducible refine Later.newer ?_ _) | (with_reducible refine Below.drew ?_) | (with_reducible refine Below.setCell ?_ (by first | exact Nat.le_refl _ | exact Nat.le_add_right _ _ | omega | (simp [go_sem]; done) | (simp [go_sem]; omega)) _))))⟩
  · have E : Hid (wrap64 (IntKind.u64.wrap (IntKind.u64.wrap (hiW n) + IntKind.u64.wrap (hiW m))) = hiW (n + m)) := by
      refine Lib.hid ?_
      clear e1
      simp only [IntKind.wrap_u64]
      unfold wrap64 hiW
      unfold loW at *
      omega
    clear bn bm
    go_enter Tryz.func29, Tryz.ntmps29
    go_wp2
    rw [E.out]
    exact bodyPost_ret (v := .agg #[.int .i64 (hiW (n + m)), .int .u64 (loW (n + m))]) (by simp [results, Tryz.results29, go_sem, *]) rfl ⟨rfl, (Later.mk_of (by repeat (first | (with_reducible assumption) | (with_reducible exact Below.refl _ _) | (with_reducible refine Later.after ?_ _) | (with_reducible refine Later.newer ?_ _) | (with_reducible refine Below.drew ?_) | (with_reducible refine Below.setCell ?_ (by first | exact Nat.le_refl _ | exact Nat.le_add_right _ _ | omega | (simp [go_sem]; done) | (simp [go_sem]; omega)) _))))⟩

set_option maxHeartbeats 400000 in
theorem neg_r (n : Int) (w : World) :
    Calls Tryz.prog 49 #[.agg #[.int .i64 (hiW n), .int .u64 (loW n)]] w fun e w' => e = .returned (.agg #[.int .i64 (hiW (-n)), .int .u64 (loW (-n))]) ∧ ∃ x : Later w, w' = x.out := by
  have e1 : wrap64 (-1 - hiW n) = hiW (-1 - n) := by unfold wrap64 hiW; omega
  have e2 : IntKind.u64.wrap (18446744073709551615 - loW n) = loW (-1 - n) := by rw [IntKind.wrap_u64]; unfold loW; omega
  have o1 := fun w' => of_r 1 w' (by unfold R64; omega)
  have s1 := fun w' => add_r (-1 - n) 1 w'
  rw [show (-1 - n + 1) = -n by omega] at s1
  have Ho1 := Lib.hid o1; clear o1
  have Hs1 := Lib.hid s1; clear s1
  go_enter Tryz.func49, Tryz.ntmps49
  go_wp2_with (fail)
  refine wp_region_later_tail 9 (by kernel_rfl) (by kernel_rfl) ?_
  simp only [List.take_succ_cons, List.take_zero, List.drop_succ_cons, List.drop_zero]
  repeat (go_big_quiet_step ((first | (go_at_call 30; exact Later.call _ (Ho1.out _)) | (go_at_call 29; exact Later.call _ (Hs1.out _)))))
  refine wpQuiet_nil ?_
  intro x
  go_wp2
  exact bodyPost_ret (v := .agg #[.int .i64 (hiW (-n)), .int .u64 (loW (-n))]) (by simp [results, Tryz.results49, go_sem, *]) rfl ⟨rfl, (Later.mk_of (by repeat (first | (with_reducible assumption) | (with_reducible exact Below.refl _ _) | (with_reducible refine Later.after ?_ _) | (with_reducible refine Later.newer ?_ _) | (with_reducible refine Below.drew ?_) | (with_reducible refine Below.setCell ?_ (by first | exact Nat.le_refl _ | exact Nat.le_add_right _ _ | omega | (simp [go_sem]; done) | (simp [go_sem]; omega)) _))))⟩

set_option maxHeartbeats 400000 in
theorem sub_r (n m : Int) (w : World) :
    Calls Tryz.prog 50 #[.agg #[.int .i64 (hiW n), .int .u64 (loW n)], .agg #[.int .i64 (hiW m), .int .u64 (loW m)]] w fun e w' => e = .returned (.agg #[.int .i64 (hiW (n - m)), .int .u64 (loW (n - m))]) ∧ ∃ x : Later w, w' = x.out := by
  have o1 := fun w' => neg_r m w'
  have s1 := fun w' => add_r n (-m) w'
  rw [show (n + -m) = n - m by omega] at s1
  have Ho1 := Lib.hid o1; clear o1
  have Hs1 := Lib.hid s1; clear s1
  go_enter Tryz.func50, Tryz.ntmps50
  go_wp2_with (fail)
  refine wp_region_later_tail 4 (by kernel_rfl) (by kernel_rfl) ?_
  simp only [List.take_succ_cons, List.take_zero, List.drop_succ_cons, List.drop_zero]
  repeat (go_big_quiet_step ((first | (go_at_call 49; exact Later.call _ (Ho1.out _)) | (go_at_call 29; exact Later.call _ (Hs1.out _)))))
  refine wpQuiet_nil ?_
  intro x
  go_wp2
  exact bodyPost_ret (v := .agg #[.int .i64 (hiW (n - m)), .int .u64 (loW (n - m))]) (by simp [results, Tryz.results50, go_sem, *]) rfl ⟨rfl, (Later.mk_of (by repeat (first | (with_reducible assumption) | (with_reducible exact Below.refl _ _) | (with_reducible refine Later.after ?_ _) | (with_reducible refine Later.newer ?_ _) | (with_reducible refine Below.drew ?_) | (with_reducible refine Below.setCell ?_ (by first | exact Nat.le_refl _ | exact Nat.le_add_right _ _ | omega | (simp [go_sem]; done) | (simp [go_sem]; omega)) _))))⟩

set_option maxHeartbeats 400000 in
theorem raised_r (n : Int) (w : World) (h0 : 0 ≤ n) (h1 : n ≤ 18446744073709551615) :
    Calls Tryz.prog 51 #[.int .u64 n] w fun e w' => e = .returned (.agg #[.int .i64 (hiW (n * 4294967296)), .int .u64 (loW (n * 4294967296))]) ∧ ∃ x : Later w, w' = x.out := by
  have e1 : n / 4294967296 = hiW (n * 4294967296) := by unfold hiW; omega
  have e2 : n % 4294967296 * 4294967296 = loW (n * 4294967296) := by unfold loW; omega
  have E1 := Lib.hid e1
  have E2 := Lib.hid e2
  clear e1 e2
  go_enter Tryz.func51, Tryz.ntmps51
  go_wp2
  rw [E1.out, E2.out]
  exact bodyPost_ret (v := .agg #[.int .i64 (hiW (n * 4294967296)), .int .u64 (loW (n * 4294967296))]) (by simp [results, Tryz.results51, go_sem, *]) rfl ⟨rfl, (Later.mk_of (by repeat (first | (with_reducible assumption) | (with_reducible exact Below.refl _ _) | (with_reducible refine Later.after ?_ _) | (with_reducible refine Later.newer ?_ _) | (with_reducible refine Below.drew ?_) | (with_reducible refine Below.setCell ?_ (by first | exact Nat.le_refl _ | exact Nat.le_add_right _ _ | omega | (simp [go_sem]; done) | (simp [go_sem]; omega)) _))))⟩

end Go.Proofs.YtjmagehfkcnjjaaGreatDoor

/-
  The contracts of the reference's product and of what is narrow.
-/
namespace Go.Proofs.YtjmagehfkcnjjaaGreatDoor
set_option linter.unusedVariables false
open Go.RowKit

set_option maxHeartbeats 400000 in
theorem narrow_r_yes (n : Int) (w : World) (hn : R64 n) :
    Calls Tryz.prog 52 #[.agg #[.int .i64 (hiW n), .int .u64 (loW n)]] w fun e w' => e = .returned (.tuple #[.int .i64 n, .bool true]) ∧ ∃ x : Later w, w' = x.out := by
  have hc := fun w' => of_r n w' hn
  have e : wrap64 (loW n) = n := by rw [w64_lo]; unfold R64 at hn; omega
  have HC := Lib.hid hc
  clear hc
  go_enter Tryz.func52, Tryz.ntmps52
  go_wp2_with (fail)
  refine wp_region_later (by kernel_rfl) (by kernel_rfl) ?_
  repeat (go_big_quiet_step ((first | (go_at_call 30; exact Later.call _ (HC.out _)))))
  refine wpQuiet_nil ?_
  intro x
  go_wp2
  go_ret2
  exact ⟨by simp [e], (Later.mk_of (by repeat (first | (with_reducible assumption) | (with_reducible exact Below.refl _ _) | (with_reducible refine Later.after ?_ _) | (with_reducible refine Later.newer ?_ _) | (with_reducible refine Below.drew ?_) | (with_reducible refine Below.setCell ?_ (by first | exact Nat.le_refl _ | exact Nat.le_add_right _ _ | omega | (simp [go_sem]; done) | (simp [go_sem]; omega)) _))))⟩
set_option maxHeartbeats 400000 in
theorem narrow_r_no (n : Int) (w : World) (hr : R128 n) (hn : ¬ R64 n) :
    Calls Tryz.prog 52 #[.agg #[.int .i64 (hiW n), .int .u64 (loW n)]] w fun e w' => e = .returned (.tuple #[.int .i64 0, .bool false]) ∧ ∃ x : Later w, w' = x.out := by
  have hk : R64 (wrap64 (loW n)) := by unfold R64 wrap64; have := loW_bd n; omega
  have hc := fun w' => of_r (wrap64 (loW n)) w' hk
  have e1 : ¬ (hiW n = hiW (wrap64 (loW n)) ∧ loW n = loW (wrap64 (loW n))) := fun h => hn (by
    have := eq_of_halves n _ hr (by unfold R64 at hk; unfold R128; omega) h.1 h.2
    rw [this]; exact hk)
  have e2 : hiW n = hiW (wrap64 (loW n)) ∧ (loW n == loW (wrap64 (loW n))) = false ∨ (hiW n == hiW (wrap64 (loW n))) = false := by
    by_cases h : hiW n = hiW (wrap64 (loW n))
    · exact .inl ⟨h, by simp; exact fun h2 => e1 ⟨h, h2⟩⟩
    · exact .inr (by simp; exact h)
  clear e1 hn hr
  have HC := Lib.hid hc
  clear hc hk
  generalize hk1 : hiW (wrap64 (loW n)) = k1 at *
  generalize hk2 : loW (wrap64 (loW n)) = k2 at *
  have HK1 := Lib.hid hk1
  have HK2 := Lib.hid hk2
  clear hk1 hk2
  rcases e2 with ⟨rfl, e2⟩ | e2
  all_goals
    go_enter Tryz.func52, Tryz.ntmps52
    go_wp2_with (fail)
    refine wp_region_later (by kernel_rfl) (by kernel_rfl) ?_
    repeat (go_big_quiet_step ((first | (go_at_call 30; exact Later.call _ (HC.out _)))))
    refine wpQuiet_nil ?_
    intro x
    go_wp2
    go_ret2
    exact ⟨rfl, (Later.mk_of (by repeat (first | (with_reducible assumption) | (with_reducible exact Below.refl _ _) | (with_reducible refine Later.after ?_ _) | (with_reducible refine Later.newer ?_ _) | (with_reducible refine Below.drew ?_) | (with_reducible refine Below.setCell ?_ (by first | exact Nat.le_refl _ | exact Nat.le_add_right _ _ | omega | (simp [go_sem]; done) | (simp [go_sem]; omega)) _))))⟩


set_option maxHeartbeats 600000 in
theorem mul_r_0 (a b x y p q r s H1 pr qs ps qr h1 l1 h2 l2 h3 l3 h4 l4 h5 l5 h6 l6 : Int) (w : World) (ha : 0 ≤ a) (hb : 0 ≤ b)
    (ex : IntKind.u64.wrap a = x) (ey : IntKind.u64.wrap b = y) (hx : 0 ≤ x) (hx1 : x ≤ 18446744073709551615) (hy : 0 ≤ y) (hy1 : y ≤ 18446744073709551615)
    (ep : x / 4294967296 = p) (eq : x % 4294967296 = q) (er : y / 4294967296 = r) (es : y % 4294967296 = s)
    (e1 : IntKind.u64.wrap (p * r) = pr) (e2 : wrap64 pr = H1) (e3 : IntKind.u64.wrap (q * s) = qs) (e4 : IntKind.u64.wrap (p * s) = ps) (e5 : IntKind.u64.wrap (q * r) = qr)
    (s1 : ∀ w', Calls Tryz.prog 29 #[.agg #[.int .i64 H1, .int .u64 0], .agg #[.int .i64 0, .int .u64 qs]] w' fun e w'' => e = .returned (.agg #[.int .i64 h1, .int .u64 l1]) ∧ ∃ x : Later w', w'' = x.out) (ra1 : ∀ w', Calls Tryz.prog 51 #[.int .u64 ps] w' fun e w'' => e = .returned (.agg #[.int .i64 h2, .int .u64 l2]) ∧ ∃ x : Later w', w'' = x.out) (s2 : ∀ w', Calls Tryz.prog 29 #[.agg #[.int .i64 h1, .int .u64 l1], .agg #[.int .i64 h2, .int .u64 l2]] w' fun e w'' => e = .returned (.agg #[.int .i64 h3, .int .u64 l3]) ∧ ∃ x : Later w', w'' = x.out) (ra2 : ∀ w', Calls Tryz.prog 51 #[.int .u64 qr] w' fun e w'' => e = .returned (.agg #[.int .i64 h4, .int .u64 l4]) ∧ ∃ x : Later w', w'' = x.out) (s3 : ∀ w', Calls Tryz.prog 29 #[.agg #[.int .i64 h3, .int .u64 l3], .agg #[.int .i64 h4, .int .u64 l4]] w' fun e w'' => e = .returned (.agg #[.int .i64 h5, .int .u64 l5]) ∧ ∃ x : Later w', w'' = x.out)  :
    Calls Tryz.prog 27 #[.int .i64 a, .int .i64 b] w fun e w' => e = .returned (.agg #[.int .i64 h5, .int .u64 l5]) ∧ ∃ x : Later w, w' = x.out := by
  have Hs1 := Lib.hid s1; clear s1
  have Hra1 := Lib.hid ra1; clear ra1
  have Hs2 := Lib.hid s2; clear s2
  have Hra2 := Lib.hid ra2; clear ra2
  have Hs3 := Lib.hid s3; clear s3
  have da : decide (a < 0) = false := by simp; omega
  have db : decide (b < 0) = false := by simp; omega
  go_enter Tryz.func27, Tryz.ntmps27
  go_wp2_with (first | (go_at_call 29; refine (Hs1.out _).mono ?_; rintro e _ ⟨rfl, x, rfl⟩))
  refine wp_region_later_tail 11 (by kernel_rfl) (by kernel_rfl) ?_
  simp only [List.take_succ_cons, List.take_zero, List.drop_succ_cons, List.drop_zero]
  repeat (go_big_quiet_step ((first | (go_at_call_of 51 (Value.int .u64 ps); exact Later.call _ (Hra1.out _)) | (go_at_call_of 51 (Value.int .u64 qr); exact Later.call _ (Hra2.out _)) | (go_at_call_of 29 (Value.int .i64 h1); exact Later.call _ (Hs2.out _)) | (go_at_call_of 29 (Value.int .i64 h3); exact Later.call _ (Hs3.out _)))))
  refine wpQuiet_nil ?_
  intro x
  go_wp2
  exact bodyPost_ret (v := .agg #[.int .i64 h5, .int .u64 l5]) (by simp [results, Tryz.results27, go_sem, *]) rfl ⟨rfl, (Later.mk_of (by repeat (first | (with_reducible assumption) | (with_reducible exact Below.refl _ _) | (with_reducible refine Later.after ?_ _) | (with_reducible refine Later.newer ?_ _) | (with_reducible refine Below.drew ?_) | (with_reducible refine Below.setCell ?_ (by first | exact Nat.le_refl _ | exact Nat.le_add_right _ _ | omega | (simp [go_sem]; done) | (simp [go_sem]; omega)) _))))⟩


set_option maxHeartbeats 600000 in
theorem mul_r_1 (a b x y p q r s H1 pr qs ps qr h1 l1 h2 l2 h3 l3 h4 l4 h5 l5 h6 l6 : Int) (w : World) (ha : 0 ≤ a) (hb : b < 0)
    (ex : IntKind.u64.wrap a = x) (ey : IntKind.u64.wrap (-IntKind.u64.wrap b) = y) (hx : 0 ≤ x) (hx1 : x ≤ 18446744073709551615) (hy : 0 ≤ y) (hy1 : y ≤ 18446744073709551615)
    (ep : x / 4294967296 = p) (eq : x % 4294967296 = q) (er : y / 4294967296 = r) (es : y % 4294967296 = s)
    (e1 : IntKind.u64.wrap (p * r) = pr) (e2 : wrap64 pr = H1) (e3 : IntKind.u64.wrap (q * s) = qs) (e4 : IntKind.u64.wrap (p * s) = ps) (e5 : IntKind.u64.wrap (q * r) = qr)
    (s1 : ∀ w', Calls Tryz.prog 29 #[.agg #[.int .i64 H1, .int .u64 0], .agg #[.int .i64 0, .int .u64 qs]] w' fun e w'' => e = .returned (.agg #[.int .i64 h1, .int .u64 l1]) ∧ ∃ x : Later w', w'' = x.out) (ra1 : ∀ w', Calls Tryz.prog 51 #[.int .u64 ps] w' fun e w'' => e = .returned (.agg #[.int .i64 h2, .int .u64 l2]) ∧ ∃ x : Later w', w'' = x.out) (s2 : ∀ w', Calls Tryz.prog 29 #[.agg #[.int .i64 h1, .int .u64 l1], .agg #[.int .i64 h2, .int .u64 l2]] w' fun e w'' => e = .returned (.agg #[.int .i64 h3, .int .u64 l3]) ∧ ∃ x : Later w', w'' = x.out) (ra2 : ∀ w', Calls Tryz.prog 51 #[.int .u64 qr] w' fun e w'' => e = .returned (.agg #[.int .i64 h4, .int .u64 l4]) ∧ ∃ x : Later w', w'' = x.out) (s3 : ∀ w', Calls Tryz.prog 29 #[.agg #[.int .i64 h3, .int .u64 l3], .agg #[.int .i64 h4, .int .u64 l4]] w' fun e w'' => e = .returned (.agg #[.int .i64 h5, .int .u64 l5]) ∧ ∃ x : Later w', w'' = x.out) (n1 : ∀ w', Calls Tryz.prog 49 #[.agg #[.int .i64 h5, .int .u64 l5]] w' fun e w'' => e = .returned (.agg #[.int .i64 h6, .int .u64 l6]) ∧ ∃ x : Later w', w'' = x.out) :
    Calls Tryz.prog 27 #[.int .i64 a, .int .i64 b] w fun e w' => e = .returned (.agg #[.int .i64 h6, .int .u64 l6]) ∧ ∃ x : Later w, w' = x.out := by
  have Hs1 := Lib.hid s1; clear s1
  have Hra1 := Lib.hid ra1; clear ra1
  have Hs2 := Lib.hid s2; clear s2
  have Hra2 := Lib.hid ra2; clear ra2
  have Hs3 := Lib.hid s3; clear s3
  have Hn1 := Lib.hid n1; clear n1
  have da : decide (a < 0) = false := by simp; omega
  have db : decide (b < 0) = true := by simp; omega
  go_enter Tryz.func27, Tryz.ntmps27
  go_wp2_with (first | (go_at_call 29; refine (Hs1.out _).mono ?_; rintro e _ ⟨rfl, x, rfl⟩))
  refine wp_region_later_tail 11 (by kernel_rfl) (by kernel_rfl) ?_
  simp only [List.take_succ_cons, List.take_zero, List.drop_succ_cons, List.drop_zero]
  repeat (go_big_quiet_step ((first | (go_at_call_of 51 (Value.int .u64 ps); exact Later.call _ (Hra1.out _)) | (go_at_call_of 51 (Value.int .u64 qr); exact Later.call _ (Hra2.out _)) | (go_at_call_of 29 (Value.int .i64 h1); exact Later.call _ (Hs2.out _)) | (go_at_call_of 29 (Value.int .i64 h3); exact Later.call _ (Hs3.out _)))))
  refine wpQuiet_nil ?_
  intro x
  go_wp2_with (first | (go_at_call 49; refine (Hn1.out _).mono ?_; rintro e _ ⟨rfl, x, rfl⟩))
  exact bodyPost_ret (v := .agg #[.int .i64 h6, .int .u64 l6]) (by simp [results, Tryz.results27, go_sem, *]) rfl ⟨rfl, (Later.mk_of (by repeat (first | (with_reducible assumption) | (with_reducible exact Below.refl _ _) | (with_reducible refine Later.after ?_ _) | (with_reducible refine Later.newer ?_ _) | (with_reducible refine Below.drew ?_) | (with_reducible refine Below.setCell ?_ (by first | exact Nat.le_refl _ | exact Nat.le_add_right _ _ | omega | (simp [go_sem]; done) | (simp [go_sem]; omega)) _))))⟩


set_option maxHeartbeats 600000 in
theorem mul_r_2 (a b x y p q r s H1 pr qs ps qr h1 l1 h2 l2 h3 l3 h4 l4 h5 l5 h6 l6 : Int) (w : World) (ha : a < 0) (hb : 0 ≤ b)
    (ex : IntKind.u64.wrap (-IntKind.u64.wrap a) = x) (ey : IntKind.u64.wrap b = y) (hx : 0 ≤ x) (hx1 : x ≤ 18446744073709551615) (hy : 0 ≤ y) (hy1 : y ≤ 18446744073709551615)
    (ep : x / 4294967296 = p) (eq : x % 4294967296 = q) (er : y / 4294967296 = r) (es : y % 4294967296 = s)
    (e1 : IntKind.u64.wrap (p * r) = pr) (e2 : wrap64 pr = H1) (e3 : IntKind.u64.wrap (q * s) = qs) (e4 : IntKind.u64.wrap (p * s) = ps) (e5 : IntKind.u64.wrap (q * r) = qr)
    (s1 : ∀ w', Calls Tryz.prog 29 #[.agg #[.int .i64 H1, .int .u64 0], .agg #[.int .i64 0, .int .u64 qs]] w' fun e w'' => e = .returned (.agg #[.int .i64 h1, .int .u64 l1]) ∧ ∃ x : Later w', w'' = x.out) (ra1 : ∀ w', Calls Tryz.prog 51 #[.int .u64 ps] w' fun e w'' => e = .returned (.agg #[.int .i64 h2, .int .u64 l2]) ∧ ∃ x : Later w', w'' = x.out) (s2 : ∀ w', Calls Tryz.prog 29 #[.agg #[.int .i64 h1, .int .u64 l1], .agg #[.int .i64 h2, .int .u64 l2]] w' fun e w'' => e = .returned (.agg #[.int .i64 h3, .int .u64 l3]) ∧ ∃ x : Later w', w'' = x.out) (ra2 : ∀ w', Calls Tryz.prog 51 #[.int .u64 qr] w' fun e w'' => e = .returned (.agg #[.int .i64 h4, .int .u64 l4]) ∧ ∃ x : Later w', w'' = x.out) (s3 : ∀ w', Calls Tryz.prog 29 #[.agg #[.int .i64 h3, .int .u64 l3], .agg #[.int .i64 h4, .int .u64 l4]] w' fun e w'' => e = .returned (.agg #[.int .i64 h5, .int .u64 l5]) ∧ ∃ x : Later w', w'' = x.out) (n1 : ∀ w', Calls Tryz.prog 49 #[.agg #[.int .i64 h5, .int .u64 l5]] w' fun e w'' => e = .returned (.agg #[.int .i64 h6, .int .u64 l6]) ∧ ∃ x : Later w', w'' = x.out) :
    Calls Tryz.prog 27 #[.int .i64 a, .int .i64 b] w fun e w' => e = .returned (.agg #[.int .i64 h6, .int .u64 l6]) ∧ ∃ x : Later w, w' = x.out := by
  have Hs1 := Lib.hid s1; clear s1
  have Hra1 := Lib.hid ra1; clear ra1
  have Hs2 := Lib.hid s2; clear s2
  have Hra2 := Lib.hid ra2; clear ra2
  have Hs3 := Lib.hid s3; clear s3
  have Hn1 := Lib.hid n1; clear n1
  have da : decide (a < 0) = true := by simp; omega
  have db : decide (b < 0) = false := by simp; omega
  go_enter Tryz.func27, Tryz.ntmps27
  go_wp2_with (first | (go_at_call 29; refine (Hs1.out _).mono ?_; rintro e _ ⟨rfl, x, rfl⟩))
  refine wp_region_later_tail 11 (by kernel_rfl) (by kernel_rfl) ?_
  simp only [List.take_succ_cons, List.take_zero, List.drop_succ_cons, List.drop_zero]
  repeat (go_big_quiet_step ((first | (go_at_call_of 51 (Value.int .u64 ps); exact Later.call _ (Hra1.out _)) | (go_at_call_of 51 (Value.int .u64 qr); exact Later.call _ (Hra2.out _)) | (go_at_call_of 29 (Value.int .i64 h1); exact Later.call _ (Hs2.out _)) | (go_at_call_of 29 (Value.int .i64 h3); exact Later.call _ (Hs3.out _)))))
  refine wpQuiet_nil ?_
  intro x
  go_wp2_with (first | (go_at_call 49; refine (Hn1.out _).mono ?_; rintro e _ ⟨rfl, x, rfl⟩))
  exact bodyPost_ret (v := .agg #[.int .i64 h6, .int .u64 l6]) (by simp [results, Tryz.results27, go_sem, *]) rfl ⟨rfl, (Later.mk_of (by repeat (first | (with_reducible assumption) | (with_reducible exact Below.refl _ _) | (with_reducible refine Later.after ?_ _) | (with_reducible refine Later.newer ?_ _) | (with_reducible refine Below.drew ?_) | (with_reducible refine Below.setCell ?_ (by first | exact Nat.le_refl _ | exact Nat.le_add_right _ _ | omega | (simp [go_sem]; done) | (simp [go_sem]; omega)) _))))⟩


set_option maxHeartbeats 600000 in
theorem mul_r_3 (a b x y p q r s H1 pr qs ps qr h1 l1 h2 l2 h3 l3 h4 l4 h5 l5 h6 l6 : Int) (w : World) (ha : a < 0) (hb : b < 0)
    (ex : IntKind.u64.wrap (-IntKind.u64.wrap a) = x) (ey : IntKind.u64.wrap (-IntKind.u64.wrap b) = y) (hx : 0 ≤ x) (hx1 : x ≤ 18446744073709551615) (hy : 0 ≤ y) (hy1 : y ≤ 18446744073709551615)
    (ep : x / 4294967296 = p) (eq : x % 4294967296 = q) (er : y / 4294967296 = r) (es : y % 4294967296 = s)
    (e1 : IntKind.u64.wrap (p * r) = pr) (e2 : wrap64 pr = H1) (e3 : IntKind.u64.wrap (q * s) = qs) (e4 : IntKind.u64.wrap (p * s) = ps) (e5 : IntKind.u64.wrap (q * r) = qr)
    (s1 : ∀ w', Calls Tryz.prog 29 #[.agg #[.int .i64 H1, .int .u64 0], .agg #[.int .i64 0, .int .u64 qs]] w' fun e w'' => e = .returned (.agg #[.int .i64 h1, .int .u64 l1]) ∧ ∃ x : Later w', w'' = x.out) (ra1 : ∀ w', Calls Tryz.prog 51 #[.int .u64 ps] w' fun e w'' => e = .returned (.agg #[.int .i64 h2, .int .u64 l2]) ∧ ∃ x : Later w', w'' = x.out) (s2 : ∀ w', Calls Tryz.prog 29 #[.agg #[.int .i64 h1, .int .u64 l1], .agg #[.int .i64 h2, .int .u64 l2]] w' fun e w'' => e = .returned (.agg #[.int .i64 h3, .int .u64 l3]) ∧ ∃ x : Later w', w'' = x.out) (ra2 : ∀ w', Calls Tryz.prog 51 #[.int .u64 qr] w' fun e w'' => e = .returned (.agg #[.int .i64 h4, .int .u64 l4]) ∧ ∃ x : Later w', w'' = x.out) (s3 : ∀ w', Calls Tryz.prog 29 #[.agg #[.int .i64 h3, .int .u64 l3], .agg #[.int .i64 h4, .int .u64 l4]] w' fun e w'' => e = .returned (.agg #[.int .i64 h5, .int .u64 l5]) ∧ ∃ x : Later w', w'' = x.out)  :
    Calls Tryz.prog 27 #[.int .i64 a, .int .i64 b] w fun e w' => e = .returned (.agg #[.int .i64 h5, .int .u64 l5]) ∧ ∃ x : Later w, w' = x.out := by
  have Hs1 := Lib.hid s1; clear s1
  have Hra1 := Lib.hid ra1; clear ra1
  have Hs2 := Lib.hid s2; clear s2
  have Hra2 := Lib.hid ra2; clear ra2
  have Hs3 := Lib.hid s3; clear s3
  have da : decide (a < 0) = true := by simp; omega
  have db : decide (b < 0) = true := by simp; omega
  go_enter Tryz.func27, Tryz.ntmps27
  go_wp2_with (first | (go_at_call 29; refine (Hs1.out _).mono ?_; rintro e _ ⟨rfl, x, rfl⟩))
  refine wp_region_later_tail 11 (by kernel_rfl) (by kernel_rfl) ?_
  simp only [List.take_succ_cons, List.take_zero, List.drop_succ_cons, List.drop_zero]
  repeat (go_big_quiet_step ((first | (go_at_call_of 51 (Value.int .u64 ps); exact Later.call _ (Hra1.out _)) | (go_at_call_of 51 (Value.int .u64 qr); exact Later.call _ (Hra2.out _)) | (go_at_call_of 29 (Value.int .i64 h1); exact Later.call _ (Hs2.out _)) | (go_at_call_of 29 (Value.int .i64 h3); exact Later.call _ (Hs3.out _)))))
  refine wpQuiet_nil ?_
  intro x
  go_wp2
  exact bodyPost_ret (v := .agg #[.int .i64 h5, .int .u64 l5]) (by simp [results, Tryz.results27, go_sem, *]) rfl ⟨rfl, (Later.mk_of (by repeat (first | (with_reducible assumption) | (with_reducible exact Below.refl _ _) | (with_reducible refine Later.after ?_ _) | (with_reducible refine Later.newer ?_ _) | (with_reducible refine Below.drew ?_) | (with_reducible refine Below.setCell ?_ (by first | exact Nat.le_refl _ | exact Nat.le_add_right _ _ | omega | (simp [go_sem]; done) | (simp [go_sem]; omega)) _))))⟩


theorem mul_parts (x y : Int) (hx : 0 ≤ x) (hx1 : x ≤ 9223372036854775808) (hy : 0 ≤ y) (hy1 : y ≤ 9223372036854775808) :
    ∃ p q r s pr qs ps qr : Int, x / 4294967296 = p ∧ x % 4294967296 = q ∧ y / 4294967296 = r ∧ y % 4294967296 = s ∧
      IntKind.u64.wrap (p * r) = pr ∧ IntKind.u64.wrap (q * s) = qs ∧ IntKind.u64.wrap (p * s) = ps ∧ IntKind.u64.wrap (q * r) = qr ∧
      (0 ≤ qs ∧ qs ≤ 18446744073709551615) ∧ (0 ≤ ps ∧ ps ≤ 18446744073709551615) ∧ (0 ≤ qr ∧ qr ≤ 18446744073709551615) ∧ pr * 18446744073709551616 + qs + ps * 4294967296 + qr * 4294967296 = x * y := by
  have b1 := prod_bound (x / 4294967296) (y / 4294967296) (by omega) (by omega) (by omega) (by omega)
  have b2 := prod_bound (x % 4294967296) (y % 4294967296) (by omega) (by omega) (by omega) (by omega)
  have b3 := prod_bound (x / 4294967296) (y % 4294967296) (by omega) (by omega) (by omega) (by omega)
  have b4 := prod_bound (x % 4294967296) (y / 4294967296) (by omega) (by omega) (by omega) (by omega)
  have k := split_mul (x / 4294967296) (x % 4294967296) (y / 4294967296) (y % 4294967296)
  rw [show x / 4294967296 * 4294967296 + x % 4294967296 = x by omega, show y / 4294967296 * 4294967296 + y % 4294967296 = y by omega] at k
  refine ⟨_, _, _, _, _, _, _, _, rfl, rfl, rfl, rfl, IntWalk.u64_in _ (by omega), IntWalk.u64_in _ (by omega), IntWalk.u64_in _ (by omega), IntWalk.u64_in _ (by omega), ⟨b2.1, by omega⟩, ⟨b3.1, by omega⟩, ⟨b4.1, by omega⟩, ?_⟩
  rw [k, Int.add_mul]
  omega
theorem hi_of_up (n : Int) : hiW (n * 18446744073709551616) = wrap64 n := by unfold hiW wrap64; omega
theorem lo_of_up (n : Int) : loW (n * 18446744073709551616) = 0 := by unfold loW; omega
theorem hi_of_small (n : Int) (h : 0 ≤ n ∧ n ≤ 18446744073709551615) : hiW n = 0 := by unfold hiW; omega
theorem lo_of_small (n : Int) (h : 0 ≤ n ∧ n ≤ 18446744073709551615) : loW n = n := by unfold loW; omega


theorem mul_rc_0 (a b : Int) (w : World) (ha : 0 ≤ a) (hb : 0 ≤ b) (ra : R64 a) (rb : R64 b) :
    Calls Tryz.prog 27 #[.int .i64 a, .int .i64 b] w fun e w' => e = .returned (.agg #[.int .i64 (hiW (a * b)), .int .u64 (loW (a * b))]) ∧ ∃ x : Later w, w' = x.out := by
  obtain ⟨p, q, r, s, pr, qs, ps, qr, ep, eq, er, es, e1, e3, e4, e5, b1, b2, b3, hk⟩ := mul_parts a b (by omega) (by unfold R64 at ra; omega) (by omega) (by unfold R64 at rb; omega)
  have s1 := fun w' => add_r (pr * 18446744073709551616) qs w'
  rw [hi_of_up, lo_of_up, hi_of_small qs b1, lo_of_small qs b1] at s1
  have s3 := fun w' => add_r (pr * 18446744073709551616 + qs + ps * 4294967296) (qr * 4294967296) w'
  rw [hk] at s3
  have this := mul_r_0 a b a b p q r s _ pr qs ps qr _ _ _ _ _ _ _ _ _ _ 0 0 w ha hb (by simp only [IntKind.wrap_u64]; unfold R64 at ra; omega) (by simp only [IntKind.wrap_u64]; unfold R64 at rb; omega) (by omega) (by unfold R64 at ra; omega) (by omega) (by unfold R64 at rb; omega) ep eq er es e1 rfl e3 e4 e5
    s1 (fun w' => raised_r ps w' b2.1 b2.2) (fun w' => add_r _ _ w') (fun w' => raised_r qr w' b3.1 b3.2) s3 
  exact this


theorem mul_rc_1 (a b : Int) (w : World) (ha : 0 ≤ a) (hb : b < 0) (ra : R64 a) (rb : R64 b) :
    Calls Tryz.prog 27 #[.int .i64 a, .int .i64 b] w fun e w' => e = .returned (.agg #[.int .i64 (hiW (a * b)), .int .u64 (loW (a * b))]) ∧ ∃ x : Later w, w' = x.out := by
  obtain ⟨p, q, r, s, pr, qs, ps, qr, ep, eq, er, es, e1, e3, e4, e5, b1, b2, b3, hk⟩ := mul_parts a (-b) (by omega) (by unfold R64 at ra; omega) (by omega) (by unfold R64 at rb; omega)
  have s1 := fun w' => add_r (pr * 18446744073709551616) qs w'
  rw [hi_of_up, lo_of_up, hi_of_small qs b1, lo_of_small qs b1] at s1
  have s3 := fun w' => add_r (pr * 18446744073709551616 + qs + ps * 4294967296) (qr * 4294967296) w'
  rw [hk] at s3
  have this := mul_r_1 a b a (-b) p q r s _ pr qs ps qr _ _ _ _ _ _ _ _ _ _ _ _ w ha hb (by simp only [IntKind.wrap_u64]; unfold R64 at ra; omega) (by simp only [IntKind.wrap_u64]; unfold R64 at rb; omega) (by omega) (by unfold R64 at ra; omega) (by omega) (by unfold R64 at rb; omega) ep eq er es e1 rfl e3 e4 e5
    s1 (fun w' => raised_r ps w' b2.1 b2.2) (fun w' => add_r _ _ w') (fun w' => raised_r qr w' b3.1 b3.2) s3 (fun w' => neg_r _ w')
  rw [show -(a * -b) = a * b by rw [Int.mul_neg, Int.neg_neg]] at this
  exact this


theorem mul_rc_2 (a b : Int) (w : World) (ha : a < 0) (hb : 0 ≤ b) (ra : R64 a) (rb : R64 b) :
    Calls Tryz.prog 27 #[.int .i64 a, .int .i64 b] w fun e w' => e = .returned (.agg #[.int .i64 (hiW (a * b)), .int .u64 (loW (a * b))]) ∧ ∃ x : Later w, w' = x.out := by
  obtain ⟨p, q, r, s, pr, qs, ps, qr, ep, eq, er, es, e1, e3, e4, e5, b1, b2, b3, hk⟩ := mul_parts (-a) b (by omega) (by unfold R64 at ra; omega) (by omega) (by unfold R64 at rb; omega)
  have s1 := fun w' => add_r (pr * 18446744073709551616) qs w'
  rw [hi_of_up, lo_of_up, hi_of_small qs b1, lo_of_small qs b1] at s1
  have s3 := fun w' => add_r (pr * 18446744073709551616 + qs + ps * 4294967296) (qr * 4294967296) w'
  rw [hk] at s3
  have this := mul_r_2 a b (-a) b p q r s _ pr qs ps qr _ _ _ _ _ _ _ _ _ _ _ _ w ha hb (by simp only [IntKind.wrap_u64]; unfold R64 at ra; omega) (by simp only [IntKind.wrap_u64]; unfold R64 at rb; omega) (by omega) (by unfold R64 at ra; omega) (by omega) (by unfold R64 at rb; omega) ep eq er es e1 rfl e3 e4 e5
    s1 (fun w' => raised_r ps w' b2.1 b2.2) (fun w' => add_r _ _ w') (fun w' => raised_r qr w' b3.1 b3.2) s3 (fun w' => neg_r _ w')
  rw [show -(-a * b) = a * b by rw [Int.neg_mul, Int.neg_neg]] at this
  exact this


theorem mul_rc_3 (a b : Int) (w : World) (ha : a < 0) (hb : b < 0) (ra : R64 a) (rb : R64 b) :
    Calls Tryz.prog 27 #[.int .i64 a, .int .i64 b] w fun e w' => e = .returned (.agg #[.int .i64 (hiW (a * b)), .int .u64 (loW (a * b))]) ∧ ∃ x : Later w, w' = x.out := by
  obtain ⟨p, q, r, s, pr, qs, ps, qr, ep, eq, er, es, e1, e3, e4, e5, b1, b2, b3, hk⟩ := mul_parts (-a) (-b) (by omega) (by unfold R64 at ra; omega) (by omega) (by unfold R64 at rb; omega)
  have s1 := fun w' => add_r (pr * 18446744073709551616) qs w'
  rw [hi_of_up, lo_of_up, hi_of_small qs b1, lo_of_small qs b1] at s1
  have s3 := fun w' => add_r (pr * 18446744073709551616 + qs + ps * 4294967296) (qr * 4294967296) w'
  rw [hk] at s3
  have this := mul_r_3 a b (-a) (-b) p q r s _ pr qs ps qr _ _ _ _ _ _ _ _ _ _ 0 0 w ha hb (by simp only [IntKind.wrap_u64]; unfold R64 at ra; omega) (by simp only [IntKind.wrap_u64]; unfold R64 at rb; omega) (by omega) (by unfold R64 at ra; omega) (by omega) (by unfold R64 at rb; omega) ep eq er es e1 rfl e3 e4 e5
    s1 (fun w' => raised_r ps w' b2.1 b2.2) (fun w' => add_r _ _ w') (fun w' => raised_r qr w' b3.1 b3.2) s3 
  rw [show -a * -b = a * b by rw [Int.neg_mul_neg]] at this
  exact this


theorem mul_r (a b : Int) (w : World) (ra : R64 a) (rb : R64 b) :
    Calls Tryz.prog 27 #[.int .i64 a, .int .i64 b] w fun e w' => e = .returned (.agg #[.int .i64 (hiW (a * b)), .int .u64 (loW (a * b))]) ∧ ∃ x : Later w, w' = x.out := by
  rcases Int.lt_or_le a 0 with ha | ha <;> rcases Int.lt_or_le b 0 with hb | hb
  · exact mul_rc_3 a b w ha hb ra rb
  · exact mul_rc_2 a b w ha hb ra rb
  · exact mul_rc_1 a b w ha hb ra rb
  · exact mul_rc_0 a b w ha hb ra rb
end Go.Proofs.YtjmagehfkcnjjaaGreatDoor

/-
  The contract of the reference's quotient: bit by bit, from the highest one on.
-/
namespace Go.Proofs.YtjmagehfkcnjjaaGreatDoor
set_option linter.unusedVariables false
open Go.RowKit

def top63 (x : Int) : Int := x / 9223372036854775808
@[local go_sem] theorem fold63 (x : Int) : x / 9223372036854775808 = top63 x := rfl

/-- what holds at the head of each round: T has been divided, its quotient is Q and its rest t; h and l are the halves of what is left of N -/
structure Bits (N b Q T h l t : Int) (k : Nat) : Prop where
  q : Q = T / b
  r : t = T % b
  all : T * 340282366920938463463374607431768211456 + (h * 18446744073709551616 + l) = N * 2 ^ k

theorem bits_first (N b : Int) (b0 : 0 < b) : Bits N b 0 0 (N / 18446744073709551616) (N % 18446744073709551616) 0 0 :=
  ⟨by simp, by simp, by simp; omega⟩

theorem bits_next (N b Q T h l t h2 l2 c d : Int) (k : Nat) (g : Bits N b Q T h l t k) (hc : top63 h = c) (hd : top63 l = d) (hh : h2 = h * 2 + d - c * 18446744073709551616) (hl : l2 = l * 2 - d * 18446744073709551616) (b0 : 0 < b) (t0 : 0 ≤ t) (t1 : t < b) (c0 : 0 ≤ c) (c1 : c ≤ 1) :
    (t * 2 + c < b → Bits N b (Q + Q) (T * 2 + c) h2 l2 (t * 2 + c) (k + 1)) ∧ (b ≤ t * 2 + c → Bits N b (Q + Q + 1) (T * 2 + c) h2 l2 (t * 2 + c - b) (k + 1)) := by
  obtain ⟨q, r, a⟩ := g
  unfold top63 at hc hd
  have e := Int.mul_ediv_add_emod T b
  rw [← q, ← r] at e
  have k2 : T * 2 + c = t * 2 + c + b * (Q + Q) := by rw [Int.mul_add]; omega
  have all : (T * 2 + c) * 340282366920938463463374607431768211456 + (h2 * 18446744073709551616 + l2) = N * 2 ^ (k + 1) := by
    rw [Int.pow_succ, ← Int.mul_assoc, ← a, hh, hl]
    omega
  refine ⟨fun hlt => ⟨?_, ?_, all⟩, fun hge => ⟨?_, ?_, all⟩⟩
  · rw [k2, Int.add_mul_ediv_left _ _ (by omega), Int.ediv_eq_zero_of_lt (by omega) (by omega)]; omega
  · rw [k2, Int.add_mul_emod_self_left, Int.emod_eq_of_lt (by omega) (by omega)]
  · have k3 : T * 2 + c = t * 2 + c - b + b * (Q + Q + 1) := by rw [Int.mul_add, Int.mul_one]; omega
    rw [k3, Int.add_mul_ediv_left _ _ (by omega), Int.ediv_eq_zero_of_lt (by omega) (by omega)]; omega
  · have k3 : T * 2 + c = t * 2 + c - b + b * (Q + Q + 1) := by rw [Int.mul_add, Int.mul_one]; omega
    rw [k3, Int.add_mul_emod_self_left, Int.emod_eq_of_lt (by omega) (by omega)]

theorem bits_last (N b Q T h l t : Int) (g : Bits N b Q T h l t 128) (h0 : 0 ≤ h) (h1 : h ≤ 18446744073709551615) (l0 : 0 ≤ l) (l1 : l ≤ 18446744073709551615) : Q = N / b ∧ t = N % b := by
  obtain ⟨q, r, a⟩ := g
  have e : (2 : Int) ^ 128 = 340282366920938463463374607431768211456 := by decide +kernel
  rw [e] at a
  have : T = N := by omega
  rw [← this]
  exact ⟨q, r⟩


set_option maxHeartbeats 400000 in
theorem div_r_bad (n b : Int) (w : World) (hb : b ≤ 0) :
    Calls Tryz.prog 26 #[.agg #[.int .i64 (hiW n), .int .u64 (loW n)], .int .i64 b] w fun e w' => e = .returned (.tuple #[.agg #[.int .i64 0, .int .u64 0], .int .i64 0, .int .i64 1]) ∧ ∃ x : Later w, w' = x.out := by
  go_enter Tryz.func26, Tryz.ntmps26
  go_wp2
  exact bodyPost_ret (v := .tuple #[.agg #[.int .i64 0, .int .u64 0], .int .i64 0, .int .i64 1]) (by simp [results, Tryz.results26, go_sem, *]) rfl ⟨rfl, (Later.mk_of (by repeat (first | (with_reducible assumption) | (with_reducible exact Below.refl _ _) | (with_reducible refine Later.after ?_ _) | (with_reducible refine Later.newer ?_ _) | (with_reducible refine Below.drew ?_) | (with_reducible refine Below.setCell ?_ (by first | exact Nat.le_refl _ | exact Nat.le_add_right _ _ | omega | (simp [go_sem]; done) | (simp [go_sem]; omega)) _))))⟩

set_option maxRecDepth 100000 in
set_option maxHeartbeats 1000000 in
theorem div_r_pos (nh N b : Int) (w : World) (hb : 0 < b) (hb1 : b ≤ 9223372036854775807) (hnh : 0 ≤ nh) (e0 : IntKind.u64.wrap nh = N / 18446744073709551616) (N0 : 0 ≤ N) (N1 : N < 340282366920938463463374607431768211456) :
    Calls Tryz.prog 26 #[.agg #[.int .i64 nh, .int .u64 (N % 18446744073709551616)], .int .i64 b] w fun e w' => e = .returned (.tuple #[.agg #[.int .i64 (hiW (N / b)), .int .u64 (loW (N / b))], .int .i64 (N % b), .int .i64 0]) ∧ ∃ x : Later w, w' = x.out := by
  have o1 := fun w' => of_r 1 w' (by unfold R64; omega)
  have Ho1 := Lib.hid o1; clear o1
  have HN0 := Lib.hid N0; clear N0
  have HN1 := Lib.hid N1; clear N1
  go_enter Tryz.func26, Tryz.ntmps26
  go_wp2_with (fail)
  go_loopw [8, 9, 11, 12] (fun u v r i wr => ∃ (k : Nat) (Q T h l t : Int), k ≤ 128 ∧ i = .int .i64 k ∧ u = .int .u64 h ∧ v = .int .u64 l ∧ r = .int .u64 t ∧ 0 ≤ h ∧ h ≤ 18446744073709551615 ∧ 0 ≤ l ∧ l ≤ 18446744073709551615 ∧ 0 ≤ t ∧ t < b ∧ Hid (Bits N b Q T h l t k) ∧
      wr.cell? ⟨w.heap.size + 1 + 1, 0, none⟩ = some (.int .i64 (hiW Q)) ∧ wr.cell? ⟨w.heap.size + 1 + 1, 1, none⟩ = some (.int .u64 (loW Q)) ∧ wr.frozen? ⟨w.heap.size + 1 + 1, 0, none⟩ = false ∧ wr.frozen? ⟨w.heap.size + 1 + 1, 1, none⟩ = false ∧
      wr.cell? ⟨w.heap.size + 1, 0, none⟩ = some (.int .i64 0) ∧ wr.cell? ⟨w.heap.size + 1, 1, none⟩ = some (.int .u64 0) ∧ wr.frozen? ⟨w.heap.size + 1, 0, none⟩ = false ∧ wr.frozen? ⟨w.heap.size + 1, 1, none⟩ = false ∧
      w.heap.size + 1 + 1 < wr.heap.size ∧ w.heap.size + 1 < w.heap.size + 1 + 1 ∧ Below w.heap.size w wr)
      (fun _ _ _ i _ => 128 - (intOf i).toNat)
  case atStart =>
    have N0 := HN0.out
    have N1 := HN1.out
    exact ⟨0, 0, 0, N / 18446744073709551616, N % 18446744073709551616, 0, by omega, rfl, rfl, rfl, rfl, by omega, by omega, by omega, by omega, by omega, by omega, Lib.hid (bits_first N b hb), by simp [go_sem, W_zero, *], by simp [go_sem, W_zero, *], by simp [go_sem, *], by simp [go_sem, *], by simp [go_sem, *], by simp [go_sem, *], by simp [go_sem, *], by simp [go_sem, *], by simp [go_sem], by first | omega | (simp [go_sem, *]; done), by repeat (first | (with_reducible exact Below.refl _ _) | (with_reducible refine Later.after ?_ _) | (with_reducible refine Later.newer ?_ _) | (with_reducible refine Below.setCell ?_ (by first | exact Nat.le_refl _ | exact Nat.le_add_right _ _ | (dsimp only; omega)) _))⟩
  case round =>
    obtain ⟨k, Q, T, h, l, t, hk, rfl, rfl, rfl, rfl, h0, h1, l0, l1, t0, t1, BI, c0, c1, fz0, fz1, rc0, rc1, rf0, rf1, hq, hqw, hB⟩ := hrel
    have hwq : w.heap.size + 1 < wr.heap.size := by omega
    by_cases hlt : k < 128
    · have hd1 : 0 ≤ top63 h ∧ top63 h ≤ 1 := by unfold top63; omega
      have hd2 : 0 ≤ top63 l ∧ top63 l ≤ 1 := by unfold top63; omega
      have hu1 : h / 9223372036854775808 = top63 h := rfl
      have hu2 : l / 9223372036854775808 = top63 l := rfl
      obtain ⟨c, hc⟩ : ∃ c, top63 h = c := ⟨_, rfl⟩
      obtain ⟨d, hd⟩ : ∃ d, top63 l = d := ⟨_, rfl⟩
      rw [hc] at hu1
      rw [hd] at hu2
      obtain ⟨h2, hh2⟩ : ∃ h2, h2 = h * 2 + d - c * 18446744073709551616 := ⟨_, rfl⟩
      obtain ⟨l2, hl2⟩ : ∃ l2, l2 = l * 2 - d * 18446744073709551616 := ⟨_, rfl⟩
      have e1 : IntKind.u64.wrap (IntKind.u64.wrap (h * 2) + d) = h2 := by simp only [IntKind.wrap_u64]; omega
      have e2 : IntKind.u64.wrap (l * 2) = l2 := by simp only [IntKind.wrap_u64]; omega
      have G' := bits_next N b Q T h l t _ _ c d k BI.out hc hd hh2 hl2 hb t0 t1 (by omega) (by omega)
      have p0 : 0 ≤ h2 := by omega
      have p1 : h2 ≤ 18446744073709551615 := by omega
      have p2 : 0 ≤ l2 := by omega
      have p3 : l2 ≤ 18446744073709551615 := by omega
      clear hh2 hl2 hu1 hu2
      rw [hc] at hd1
      rw [hd] at hd2
      obtain ⟨hc0, hc1⟩ := hd1
      obtain ⟨hd0, hd1⟩ := hd2
      by_cases hge : b ≤ t * 2 + c
      · have G := Lib.hid (G'.2 hge)
        clear G'
        go_wp2_with (first | (go_at_call 29; refine (add_r _ _ _).mono ?_; rintro e _ ⟨rfl, y, rfl⟩))
        have f0 : w.heap.size + 1 + 1 < y.out.heap.size := Later.lt y _ hq
        have f1 : w.heap.size + 1 < y.out.heap.size := Later.lt y _ hwq
        refine wp_region_later_tail 3 (by kernel_rfl) (by kernel_rfl) ?_
        simp only [List.take_succ_cons, List.take_zero, List.drop_succ_cons, List.drop_zero]
        repeat (go_big_quiet_step ((first | (go_at_call 30; exact Later.call _ (Ho1.out _)) | (go_at_call 29; exact Later.call _ (add_r _ _ _)))))
        refine wpQuiet_nil ?_
        intro z
        have g0 : w.heap.size + 1 + 1 < z.out.heap.size := Later.lt z _ (by rw [World.size_setCell, World.size_setCell]; exact f0)
        have g1 : w.heap.size + 1 < z.out.heap.size := Later.lt z _ (by rw [World.size_setCell, World.size_setCell]; exact f1)
        go_wp2
        go_roundw
        case rel => exact ⟨k + 1, _, _, _, _, _, by omega, by go_num, rfl, rfl, rfl, by omega, by omega, by omega, by omega, by omega, by omega, G, by simp [go_sem, *], by simp [go_sem, *], by simp [go_sem, *], by simp [go_sem, *], by simp [go_sem, *], by simp [go_sem, *], by simp [go_sem, *], by simp [go_sem, *], by first | (simp [go_sem, *]; done) | (simp [go_sem, *]; omega), hqw, by repeat (first | (with_reducible assumption) | (with_reducible refine Later.after ?_ _) | (with_reducible refine Below.setCell ?_ (by first | exact Nat.le_refl _ | exact Nat.le_add_right _ _ | (dsimp only; omega)) _))⟩
        case measure => simp [intOf]; omega
      · have G := Lib.hid (G'.1 (by omega))
        clear G'
        go_wp2_with (first | (go_at_call 29; refine (add_r _ _ _).mono ?_; rintro e _ ⟨rfl, y, rfl⟩))
        have f0 : w.heap.size + 1 + 1 < y.out.heap.size := Later.lt y _ hq
        have f1 : w.heap.size + 1 < y.out.heap.size := Later.lt y _ hwq
        go_roundw
        case rel => exact ⟨k + 1, _, _, _, _, _, by omega, by go_num, rfl, rfl, rfl, by omega, by omega, by omega, by omega, by omega, by omega, G, by simp [go_sem, *], by simp [go_sem, *], by simp [go_sem, *], by simp [go_sem, *], by simp [go_sem, *], by simp [go_sem, *], by simp [go_sem, *], by simp [go_sem, *], by first | (simp [go_sem, *]; done) | (simp [go_sem, *]; omega), hqw, by repeat (first | (with_reducible assumption) | (with_reducible refine Later.after ?_ _) | (with_reducible refine Below.setCell ?_ (by first | exact Nat.le_refl _ | exact Nat.le_add_right _ _ | (dsimp only; omega)) _))⟩
        case measure => simp [intOf]; omega
    · obtain rfl : k = 128 := by omega
      have LB := bits_last N b Q T h l t BI.out h0 h1 l0 l1
      have HQ := Lib.hid LB.1
      have HT := Lib.hid LB.2
      clear LB
      have HB := Lib.hid hB
      clear hB e0
      go_wp2
      have hB := HB.out
      rw [← HQ.out, ← HT.out]
      exact bodyPost_ret (v := .tuple #[.agg #[.int .i64 (hiW Q), .int .u64 (loW Q)], .int .i64 t, .int .i64 0]) (by simp [results, Tryz.results26, go_sem, *]) rfl ⟨rfl, (Later.mk_of (by repeat (first | (with_reducible assumption) | (with_reducible exact Below.refl _ _) | (with_reducible refine Later.after ?_ _) | (with_reducible refine Later.newer ?_ _) | (with_reducible refine Below.drew ?_) | (with_reducible refine Below.setCell ?_ (by first | exact Nat.le_refl _ | exact Nat.le_add_right _ _ | omega | (simp [go_sem]; done) | (simp [go_sem]; omega)) _))))⟩


set_option maxRecDepth 100000 in
set_option maxHeartbeats 1000000 in
theorem div_r_neg0 (nh nl mh N b ph pl oh ol th tl : Int) (w : World) (hb : 0 < b) (hb1 : b ≤ 9223372036854775807) (hnh : nh < 0) (hn : ∀ w', Calls Tryz.prog 49 #[.agg #[.int .i64 nh, .int .u64 nl]] w' fun e w'' => e = .returned (.agg #[.int .i64 mh, .int .u64 (N % 18446744073709551616)]) ∧ ∃ x : Later w', w'' = x.out) (e0 : IntKind.u64.wrap mh = N / 18446744073709551616) (N0 : 0 ≤ N) (N1 : N < 340282366920938463463374607431768211456)
    (nq : ∀ w', Calls Tryz.prog 49 #[.agg #[.int .i64 (hiW (N / b)), .int .u64 (loW (N / b))]] w' fun e w'' => e = .returned (.agg #[.int .i64 ph, .int .u64 pl]) ∧ ∃ x : Later w', w'' = x.out) (hr : N % b = 0) :
    Calls Tryz.prog 26 #[.agg #[.int .i64 nh, .int .u64 nl], .int .i64 b] w fun e w' => e = .returned (.tuple #[.agg #[.int .i64 ph, .int .u64 pl], .int .i64 0, .int .i64 0]) ∧ ∃ x : Later w, w' = x.out := by
  have o1 := fun w' => of_r 1 w' (by unfold R64; omega)
  have Ho1 := Lib.hid o1; clear o1
  have HN0 := Lib.hid N0; clear N0
  have HN1 := Lib.hid N1; clear N1
  have Hhn := Lib.hid hn; clear hn
  have Hnq := Lib.hid nq; clear nq
  have Hhr := Lib.hid hr; clear hr
  go_enter Tryz.func26, Tryz.ntmps26
  go_wp2_with (first | (go_at_call 49; refine (Hhn.out _).mono ?_; rintro e _ ⟨rfl, x, rfl⟩))
  go_loopw [8, 9, 11, 12] (fun u v r i wr => ∃ (k : Nat) (Q T h l t : Int), k ≤ 128 ∧ i = .int .i64 k ∧ u = .int .u64 h ∧ v = .int .u64 l ∧ r = .int .u64 t ∧ 0 ≤ h ∧ h ≤ 18446744073709551615 ∧ 0 ≤ l ∧ l ≤ 18446744073709551615 ∧ 0 ≤ t ∧ t < b ∧ Hid (Bits N b Q T h l t k) ∧
      wr.cell? ⟨x.out.heap.size, 0, none⟩ = some (.int .i64 (hiW Q)) ∧ wr.cell? ⟨x.out.heap.size, 1, none⟩ = some (.int .u64 (loW Q)) ∧ wr.frozen? ⟨x.out.heap.size, 0, none⟩ = false ∧ wr.frozen? ⟨x.out.heap.size, 1, none⟩ = false ∧
      wr.cell? ⟨w.heap.size + 1, 0, none⟩ = some (.int .i64 0) ∧ wr.cell? ⟨w.heap.size + 1, 1, none⟩ = some (.int .u64 0) ∧ wr.frozen? ⟨w.heap.size + 1, 0, none⟩ = false ∧ wr.frozen? ⟨w.heap.size + 1, 1, none⟩ = false ∧
      x.out.heap.size < wr.heap.size ∧ w.heap.size + 1 < x.out.heap.size ∧ Below w.heap.size w wr)
      (fun _ _ _ i _ => 128 - (intOf i).toNat)
  case atStart =>
    have N0 := HN0.out
    have N1 := HN1.out
    exact ⟨0, 0, 0, N / 18446744073709551616, N % 18446744073709551616, 0, by omega, rfl, rfl, rfl, rfl, by omega, by omega, by omega, by omega, by omega, by omega, Lib.hid (bits_first N b hb), by simp [go_sem, W_zero, *], by simp [go_sem, W_zero, *], by simp [go_sem, *], by simp [go_sem, *], by simp [go_sem, *], by simp [go_sem, *], by simp [go_sem, *], by simp [go_sem, *], by simp [go_sem], by first | omega | (simp [go_sem, *]; done), by repeat (first | (with_reducible exact Below.refl _ _) | (with_reducible refine Later.after ?_ _) | (with_reducible refine Later.newer ?_ _) | (with_reducible refine Below.setCell ?_ (by first | exact Nat.le_refl _ | exact Nat.le_add_right _ _ | (dsimp only; omega)) _))⟩
  case round =>
    obtain ⟨k, Q, T, h, l, t, hk, rfl, rfl, rfl, rfl, h0, h1, l0, l1, t0, t1, BI, c0, c1, fz0, fz1, rc0, rc1, rf0, rf1, hq, hqw, hB⟩ := hrel
    have hwq : w.heap.size + 1 < wr.heap.size := by omega
    by_cases hlt : k < 128
    · have hd1 : 0 ≤ top63 h ∧ top63 h ≤ 1 := by unfold top63; omega
      have hd2 : 0 ≤ top63 l ∧ top63 l ≤ 1 := by unfold top63; omega
      have hu1 : h / 9223372036854775808 = top63 h := rfl
      have hu2 : l / 9223372036854775808 = top63 l := rfl
      obtain ⟨c, hc⟩ : ∃ c, top63 h = c := ⟨_, rfl⟩
      obtain ⟨d, hd⟩ : ∃ d, top63 l = d := ⟨_, rfl⟩
      rw [hc] at hu1
      rw [hd] at hu2
      obtain ⟨h2, hh2⟩ : ∃ h2, h2 = h * 2 + d - c * 18446744073709551616 := ⟨_, rfl⟩
      obtain ⟨l2, hl2⟩ : ∃ l2, l2 = l * 2 - d * 18446744073709551616 := ⟨_, rfl⟩
      have e1 : IntKind.u64.wrap (IntKind.u64.wrap (h * 2) + d) = h2 := by simp only [IntKind.wrap_u64]; omega
      have e2 : IntKind.u64.wrap (l * 2) = l2 := by simp only [IntKind.wrap_u64]; omega
      have G' := bits_next N b Q T h l t _ _ c d k BI.out hc hd hh2 hl2 hb t0 t1 (by omega) (by omega)
      have p0 : 0 ≤ h2 := by omega
      have p1 : h2 ≤ 18446744073709551615 := by omega
      have p2 : 0 ≤ l2 := by omega
      have p3 : l2 ≤ 18446744073709551615 := by omega
      clear hh2 hl2 hu1 hu2
      rw [hc] at hd1
      rw [hd] at hd2
      obtain ⟨hc0, hc1⟩ := hd1
      obtain ⟨hd0, hd1⟩ := hd2
      by_cases hge : b ≤ t * 2 + c
      · have G := Lib.hid (G'.2 hge)
        clear G'
        go_wp2_with (first | (go_at_call 29; refine (add_r _ _ _).mono ?_; rintro e _ ⟨rfl, y, rfl⟩))
        have f0 : x.out.heap.size < y.out.heap.size := Later.lt y _ hq
        have f1 : w.heap.size + 1 < y.out.heap.size := Later.lt y _ hwq
        refine wp_region_later_tail 3 (by kernel_rfl) (by kernel_rfl) ?_
        simp only [List.take_succ_cons, List.take_zero, List.drop_succ_cons, List.drop_zero]
        repeat (go_big_quiet_step ((first | (go_at_call 30; exact Later.call _ (Ho1.out _)) | (go_at_call 29; exact Later.call _ (add_r _ _ _)))))
        refine wpQuiet_nil ?_
        intro z
        have g0 : x.out.heap.size < z.out.heap.size := Later.lt z _ (by rw [World.size_setCell, World.size_setCell]; exact f0)
        have g1 : w.heap.size + 1 < z.out.heap.size := Later.lt z _ (by rw [World.size_setCell, World.size_setCell]; exact f1)
        go_wp2
        go_roundw
        case rel => exact ⟨k + 1, _, _, _, _, _, by omega, by go_num, rfl, rfl, rfl, by omega, by omega, by omega, by omega, by omega, by omega, G, by simp [go_sem, *], by simp [go_sem, *], by simp [go_sem, *], by simp [go_sem, *], by simp [go_sem, *], by simp [go_sem, *], by simp [go_sem, *], by simp [go_sem, *], by first | (simp [go_sem, *]; done) | (simp [go_sem, *]; omega), hqw, by repeat (first | (with_reducible assumption) | (with_reducible refine Later.after ?_ _) | (with_reducible refine Below.setCell ?_ (by first | exact Nat.le_refl _ | exact Nat.le_add_right _ _ | (dsimp only; omega)) _))⟩
        case measure => simp [intOf]; omega
      · have G := Lib.hid (G'.1 (by omega))
        clear G'
        go_wp2_with (first | (go_at_call 29; refine (add_r _ _ _).mono ?_; rintro e _ ⟨rfl, y, rfl⟩))
        have f0 : x.out.heap.size < y.out.heap.size := Later.lt y _ hq
        have f1 : w.heap.size + 1 < y.out.heap.size := Later.lt y _ hwq
        go_roundw
        case rel => exact ⟨k + 1, _, _, _, _, _, by omega, by go_num, rfl, rfl, rfl, by omega, by omega, by omega, by omega, by omega, by omega, G, by simp [go_sem, *], by simp [go_sem, *], by simp [go_sem, *], by simp [go_sem, *], by simp [go_sem, *], by simp [go_sem, *], by simp [go_sem, *], by simp [go_sem, *], by first | (simp [go_sem, *]; done) | (simp [go_sem, *]; omega), hqw, by repeat (first | (with_reducible assumption) | (with_reducible refine Later.after ?_ _) | (with_reducible refine Below.setCell ?_ (by first | exact Nat.le_refl _ | exact Nat.le_add_right _ _ | (dsimp only; omega)) _))⟩
        case measure => simp [intOf]; omega
    · obtain rfl : k = 128 := by omega
      have LB := bits_last N b Q T h l t BI.out h0 h1 l0 l1
      have HQ := Lib.hid LB.1
      have HT := Lib.hid LB.2
      clear LB
      have nq := Hnq.out
      rw [← HQ.out] at nq
      clear Hnq
      have Hnq := Lib.hid nq
      clear nq
      obtain rfl : t = 0 := by rw [HT.out, Hhr.out]
      have HB := Lib.hid hB
      clear hB e0
      go_wp2_with (first | (go_at_call 49; refine (Hnq.out _).mono ?_; rintro e _ ⟨rfl, y, rfl⟩; have f0 : x.out.heap.size < y.out.heap.size := Later.lt y _ (by assumption); have f1 : w.heap.size + 1 < y.out.heap.size := Later.lt y _ (by assumption)))
      have hB := HB.out
      try rw [← HT.out]
      exact bodyPost_ret (v := .tuple #[.agg #[.int .i64 ph, .int .u64 pl], .int .i64 0, .int .i64 0]) (by simp [results, Tryz.results26, go_sem, *]) rfl ⟨rfl, (Later.mk_of (by repeat (first | (with_reducible assumption) | (with_reducible exact Below.refl _ _) | (with_reducible refine Later.after ?_ _) | (with_reducible refine Later.newer ?_ _) | (with_reducible refine Below.drew ?_) | (with_reducible refine Below.setCell ?_ (by first | exact Nat.le_refl _ | exact Nat.le_add_right _ _ | omega | (simp [go_sem]; done) | (simp [go_sem]; omega)) _))))⟩


set_option maxRecDepth 100000 in
set_option maxHeartbeats 1000000 in
theorem div_r_neg1 (nh nl mh N b ph pl oh ol th tl : Int) (w : World) (hb : 0 < b) (hb1 : b ≤ 9223372036854775807) (hnh : nh < 0) (hn : ∀ w', Calls Tryz.prog 49 #[.agg #[.int .i64 nh, .int .u64 nl]] w' fun e w'' => e = .returned (.agg #[.int .i64 mh, .int .u64 (N % 18446744073709551616)]) ∧ ∃ x : Later w', w'' = x.out) (e0 : IntKind.u64.wrap mh = N / 18446744073709551616) (N0 : 0 ≤ N) (N1 : N < 340282366920938463463374607431768211456)
    (nq : ∀ w', Calls Tryz.prog 49 #[.agg #[.int .i64 (hiW (N / b)), .int .u64 (loW (N / b))]] w' fun e w'' => e = .returned (.agg #[.int .i64 ph, .int .u64 pl]) ∧ ∃ x : Later w', w'' = x.out) (hr : 0 < N % b) (oo : ∀ w', Calls Tryz.prog 30 #[.int .i64 1] w' fun e w'' => e = .returned (.agg #[.int .i64 oh, .int .u64 ol]) ∧ ∃ x : Later w', w'' = x.out) (sb : ∀ w', Calls Tryz.prog 50 #[.agg #[.int .i64 ph, .int .u64 pl], .agg #[.int .i64 oh, .int .u64 ol]] w' fun e w'' => e = .returned (.agg #[.int .i64 th, .int .u64 tl]) ∧ ∃ x : Later w', w'' = x.out) :
    Calls Tryz.prog 26 #[.agg #[.int .i64 nh, .int .u64 nl], .int .i64 b] w fun e w' => e = .returned (.tuple #[.agg #[.int .i64 th, .int .u64 tl], .int .i64 (b - N % b), .int .i64 0]) ∧ ∃ x : Later w, w' = x.out := by
  have o1 := fun w' => of_r 1 w' (by unfold R64; omega)
  have Ho1 := Lib.hid o1; clear o1
  have HN0 := Lib.hid N0; clear N0
  have HN1 := Lib.hid N1; clear N1
  have Hhn := Lib.hid hn; clear hn
  have Hnq := Lib.hid nq; clear nq
  have Hhr := Lib.hid hr; clear hr
  have Hoo := Lib.hid oo; clear oo
  have Hsb := Lib.hid sb; clear sb
  go_enter Tryz.func26, Tryz.ntmps26
  go_wp2_with (first | (go_at_call 49; refine (Hhn.out _).mono ?_; rintro e _ ⟨rfl, x, rfl⟩))
  go_loopw [8, 9, 11, 12] (fun u v r i wr => ∃ (k : Nat) (Q T h l t : Int), k ≤ 128 ∧ i = .int .i64 k ∧ u = .int .u64 h ∧ v = .int .u64 l ∧ r = .int .u64 t ∧ 0 ≤ h ∧ h ≤ 18446744073709551615 ∧ 0 ≤ l ∧ l ≤ 18446744073709551615 ∧ 0 ≤ t ∧ t < b ∧ Hid (Bits N b Q T h l t k) ∧
      wr.cell? ⟨x.out.heap.size, 0, none⟩ = some (.int .i64 (hiW Q)) ∧ wr.cell? ⟨x.out.heap.size, 1, none⟩ = some (.int .u64 (loW Q)) ∧ wr.frozen? ⟨x.out.heap.size, 0, none⟩ = false ∧ wr.frozen? ⟨x.out.heap.size, 1, none⟩ = false ∧
      wr.cell? ⟨w.heap.size + 1, 0, none⟩ = some (.int .i64 0) ∧ wr.cell? ⟨w.heap.size + 1, 1, none⟩ = some (.int .u64 0) ∧ wr.frozen? ⟨w.heap.size + 1, 0, none⟩ = false ∧ wr.frozen? ⟨w.heap.size + 1, 1, none⟩ = false ∧
      x.out.heap.size < wr.heap.size ∧ w.heap.size + 1 < x.out.heap.size ∧ Below w.heap.size w wr)
      (fun _ _ _ i _ => 128 - (intOf i).toNat)
  case atStart =>
    have N0 := HN0.out
    have N1 := HN1.out
    exact ⟨0, 0, 0, N / 18446744073709551616, N % 18446744073709551616, 0, by omega, rfl, rfl, rfl, rfl, by omega, by omega, by omega, by omega, by omega, by omega, Lib.hid (bits_first N b hb), by simp [go_sem, W_zero, *], by simp [go_sem, W_zero, *], by simp [go_sem, *], by simp [go_sem, *], by simp [go_sem, *], by simp [go_sem, *], by simp [go_sem, *], by simp [go_sem, *], by simp [go_sem], by first | omega | (simp [go_sem, *]; done), by repeat (first | (with_reducible exact Below.refl _ _) | (with_reducible refine Later.after ?_ _) | (with_reducible refine Later.newer ?_ _) | (with_reducible refine Below.setCell ?_ (by first | exact Nat.le_refl _ | exact Nat.le_add_right _ _ | (dsimp only; omega)) _))⟩
  case round =>
    obtain ⟨k, Q, T, h, l, t, hk, rfl, rfl, rfl, rfl, h0, h1, l0, l1, t0, t1, BI, c0, c1, fz0, fz1, rc0, rc1, rf0, rf1, hq, hqw, hB⟩ := hrel
    have hwq : w.heap.size + 1 < wr.heap.size := by omega
    by_cases hlt : k < 128
    · have hd1 : 0 ≤ top63 h ∧ top63 h ≤ 1 := by unfold top63; omega
      have hd2 : 0 ≤ top63 l ∧ top63 l ≤ 1 := by unfold top63; omega
      have hu1 : h / 9223372036854775808 = top63 h := rfl
      have hu2 : l / 9223372036854775808 = top63 l := rfl
      obtain ⟨c, hc⟩ : ∃ c, top63 h = c := ⟨_, rfl⟩
      obtain ⟨d, hd⟩ : ∃ d, top63 l = d := ⟨_, rfl⟩
      rw [hc] at hu1
      rw [hd] at hu2
      obtain ⟨h2, hh2⟩ : ∃ h2, h2 = h * 2 + d - c * 18446744073709551616 := ⟨_, rfl⟩
      obtain ⟨l2, hl2⟩ : ∃ l2, l2 = l * 2 - d * 18446744073709551616 := ⟨_, rfl⟩
      have e1 : IntKind.u64.wrap (IntKind.u64.wrap (h * 2) + d) = h2 := by simp only [IntKind.wrap_u64]; omega
      have e2 : IntKind.u64.wrap (l * 2) = l2 := by simp only [IntKind.wrap_u64]; omega
      have G' := bits_next N b Q T h l t _ _ c d k BI.out hc hd hh2 hl2 hb t0 t1 (by omega) (by omega)
      have p0 : 0 ≤ h2 := by omega
      have p1 : h2 ≤ 18446744073709551615 := by omega
      have p2 : 0 ≤ l2 := by omega
      have p3 : l2 ≤ 18446744073709551615 := by omega
      clear hh2 hl2 hu1 hu2
      rw [hc] at hd1
      rw [hd] at hd2
      obtain ⟨hc0, hc1⟩ := hd1
      obtain ⟨hd0, hd1⟩ := hd2
      by_cases hge : b ≤ t * 2 + c
      · have G := Lib.hid (G'.2 hge)
        clear G'
        go_wp2_with (first | (go_at_call 29; refine (add_r _ _ _).mono ?_; rintro e _ ⟨rfl, y, rfl⟩))
        have f0 : x.out.heap.size < y.out.heap.size := Later.lt y _ hq
        have f1 : w.heap.size + 1 < y.out.heap.size := Later.lt y _ hwq
        refine wp_region_later_tail 3 (by kernel_rfl) (by kernel_rfl) ?_
        simp only [List.take_succ_cons, List.take_zero, List.drop_succ_cons, List.drop_zero]
        repeat (go_big_quiet_step ((first | (go_at_call 30; exact Later.call _ (Ho1.out _)) | (go_at_call 29; exact Later.call _ (add_r _ _ _)))))
        refine wpQuiet_nil ?_
        intro z
        have g0 : x.out.heap.size < z.out.heap.size := Later.lt z _ (by rw [World.size_setCell, World.size_setCell]; exact f0)
        have g1 : w.heap.size + 1 < z.out.heap.size := Later.lt z _ (by rw [World.size_setCell, World.size_setCell]; exact f1)
        go_wp2
        go_roundw
        case rel => exact ⟨k + 1, _, _, _, _, _, by omega, by go_num, rfl, rfl, rfl, by omega, by omega, by omega, by omega, by omega, by omega, G, by simp [go_sem, *], by simp [go_sem, *], by simp [go_sem, *], by simp [go_sem, *], by simp [go_sem, *], by simp [go_sem, *], by simp [go_sem, *], by simp [go_sem, *], by first | (simp [go_sem, *]; done) | (simp [go_sem, *]; omega), hqw, by repeat (first | (with_reducible assumption) | (with_reducible refine Later.after ?_ _) | (with_reducible refine Below.setCell ?_ (by first | exact Nat.le_refl _ | exact Nat.le_add_right _ _ | (dsimp only; omega)) _))⟩
        case measure => simp [intOf]; omega
      · have G := Lib.hid (G'.1 (by omega))
        clear G'
        go_wp2_with (first | (go_at_call 29; refine (add_r _ _ _).mono ?_; rintro e _ ⟨rfl, y, rfl⟩))
        have f0 : x.out.heap.size < y.out.heap.size := Later.lt y _ hq
        have f1 : w.heap.size + 1 < y.out.heap.size := Later.lt y _ hwq
        go_roundw
        case rel => exact ⟨k + 1, _, _, _, _, _, by omega, by go_num, rfl, rfl, rfl, by omega, by omega, by omega, by omega, by omega, by omega, G, by simp [go_sem, *], by simp [go_sem, *], by simp [go_sem, *], by simp [go_sem, *], by simp [go_sem, *], by simp [go_sem, *], by simp [go_sem, *], by simp [go_sem, *], by first | (simp [go_sem, *]; done) | (simp [go_sem, *]; omega), hqw, by repeat (first | (with_reducible assumption) | (with_reducible refine Later.after ?_ _) | (with_reducible refine Below.setCell ?_ (by first | exact Nat.le_refl _ | exact Nat.le_add_right _ _ | (dsimp only; omega)) _))⟩
        case measure => simp [intOf]; omega
    · obtain rfl : k = 128 := by omega
      have LB := bits_last N b Q T h l t BI.out h0 h1 l0 l1
      have HQ := Lib.hid LB.1
      have HT := Lib.hid LB.2
      clear LB
      have nq := Hnq.out
      rw [← HQ.out] at nq
      clear Hnq
      have Hnq := Lib.hid nq
      clear nq
      have tp : 0 < t := by rw [HT.out]; exact Hhr.out
      have HB := Lib.hid hB
      clear hB e0
      go_wp2_with (first | (go_at_call 49; refine (Hnq.out _).mono ?_; rintro e _ ⟨rfl, y, rfl⟩; have f0 : x.out.heap.size < y.out.heap.size := Later.lt y _ (by assumption); have f1 : w.heap.size + 1 < y.out.heap.size := Later.lt y _ (by assumption)) | (go_at_call 30; refine (Hoo.out _).mono ?_; rintro e _ ⟨rfl, y, rfl⟩; have f0 : x.out.heap.size < y.out.heap.size := Later.lt y _ (by assumption); have f1 : w.heap.size + 1 < y.out.heap.size := Later.lt y _ (by assumption)) | (go_at_call 50; refine (Hsb.out _).mono ?_; rintro e _ ⟨rfl, y, rfl⟩; have f0 : x.out.heap.size < y.out.heap.size := Later.lt y _ (by assumption); have f1 : w.heap.size + 1 < y.out.heap.size := Later.lt y _ (by assumption)))
      have hB := HB.out
      try rw [← HT.out]
      exact bodyPost_ret (v := .tuple #[.agg #[.int .i64 th, .int .u64 tl], .int .i64 (b - t), .int .i64 0]) (by simp [results, Tryz.results26, go_sem, *]) rfl ⟨rfl, (Later.mk_of (by repeat (first | (with_reducible assumption) | (with_reducible exact Below.refl _ _) | (with_reducible refine Later.after ?_ _) | (with_reducible refine Later.newer ?_ _) | (with_reducible refine Below.drew ?_) | (with_reducible refine Below.setCell ?_ (by first | exact Nat.le_refl _ | exact Nat.le_add_right _ _ | omega | (simp [go_sem]; done) | (simp [go_sem]; omega)) _))))⟩

end Go.Proofs.YtjmagehfkcnjjaaGreatDoor

/-
  The contract of the reference's quotient; what each layer shows of itself.
-/
namespace Go.Proofs.YtjmagehfkcnjjaaGreatDoor
set_option linter.unusedVariables false
open Go.RowKit

theorem div_r (n b : Int) (w : World) (hn : R128 n) (hb : 0 < b) (hb1 : b ≤ 9223372036854775807) :
    Calls Tryz.prog 26 #[.agg #[.int .i64 (hiW n), .int .u64 (loW n)], .int .i64 b] w fun e w' => e = .returned (.tuple #[.agg #[.int .i64 (hiW (n / b)), .int .u64 (loW (n / b))], .int .i64 (n % b), .int .i64 0]) ∧ ∃ x : Later w, w' = x.out := by
  have hh := halves n hn
  have lb := loW_bd n
  unfold R128 at hn
  rcases Int.lt_or_le n 0 with h | h
  · have e0 := Int.mul_ediv_add_emod (-n) b
    have m0 := Int.emod_nonneg (-n) (show b ≠ 0 by omega)
    have m1 := Int.emod_lt_of_pos (-n) hb
    have k1 : hiW n < 0 := by omega
    have k2 := hi_wrap (-n) (by omega) (by omega)
    rcases Int.lt_or_eq_of_le m0 with hp | hp
    · have k : n = (b - -n % b) + b * (-(-n / b) - 1) := by rw [Int.mul_sub, Int.mul_neg]; omega
      have e1 : n / b = -(-n / b) - 1 := by
        have := Int.add_mul_ediv_left (b - -n % b) (-(-n / b) - 1) (show b ≠ 0 by omega)
        rw [← k, show (b - -n % b) / b = 0 from Int.ediv_eq_zero_of_lt (by omega) (by omega)] at this
        omega
      have e2 : n % b = b - -n % b := by
        have := Int.add_mul_emod_self_left (b - -n % b) b (-(-n / b) - 1)
        rw [← k, show (b - -n % b) % b = b - -n % b from Int.emod_eq_of_lt (by omega) (by omega)] at this
        omega
      rw [e1, e2]
      exact div_r_neg1 _ _ _ (-n) b _ _ _ _ _ _ w hb hb1 k1 (fun w' => neg_r n w') k2 (by omega) (by omega) (fun w' => neg_r _ w') hp (fun w' => of_r 1 w' (by unfold R64; omega)) (fun w' => sub_r _ 1 w')
    · have k : n = b * (-(-n / b)) := by rw [Int.mul_neg]; omega
      have e1 : n / b = -(-n / b) := by
        have := Int.mul_ediv_cancel_left (-(-n / b)) (show b ≠ 0 by omega)
        rwa [← k] at this
      have e2 : n % b = 0 := by
        have := Int.mul_emod_right b (-(-n / b))
        rwa [← k] at this
      rw [e1, e2]
      exact div_r_neg0 _ _ _ (-n) b _ _ 0 0 0 0 w hb hb1 k1 (fun w' => neg_r n w') k2 (by omega) (by omega) (fun w' => neg_r _ w') hp.symm
  · exact div_r_pos _ n b w hb hb1 (by omega) (hi_wrap n h (by omega)) h (by omega)

theorem sh1 (w : World) : Calls Tryz.prog 47 #[.int .i64 (-7)] w fun e w' => e = .returned (.agg #[.int .i64 (-1), .int .u64 18446744073709551609]) ∧ ∃ x : Later w, w' = x.out := by
  have h := of_c (-7) w (by unfold R64; omega)
  rw [show hiW (-7) = -1 by unfold hiW; omega, show loW (-7) = 18446744073709551609 by unfold loW; omega] at h
  exact h

theorem sh2 (w : World) : Calls Tryz.prog 44 #[.agg #[.int .i64 (-1), .int .u64 18446744073709551609], .int .i64 2] w fun e w' => e = .returned (.tuple #[.agg #[.int .i64 (-1), .int .u64 18446744073709551612], .int .i64 1, .int .i64 0]) ∧ ∃ x : Later w, w' = x.out := by
  have h := div_c (-7) 2 w (by unfold R128; omega) (by omega) (by omega)
  rw [show hiW (-7) = -1 by unfold hiW; omega, show loW (-7) = 18446744073709551609 by unfold loW; omega, show (-7 : Int) / 2 = -4 by omega, show (-7 : Int) % 2 = 1 by omega, show hiW (-4) = -1 by unfold hiW; omega, show loW (-4) = 18446744073709551612 by unfold loW; omega] at h
  exact h

theorem sh3 (w : World) : Calls Tryz.prog 48 #[.agg #[.int .i64 (-1), .int .u64 18446744073709551612]] w fun e w' => e = .returned (.tuple #[.int .i64 (-4), .bool true]) ∧ ∃ x : Later w, w' = x.out := by
  have h := narrow_yes (-4) w (by unfold R64; omega)
  rw [show hiW (-4) = -1 by unfold hiW; omega, show loW (-4) = 18446744073709551612 by unfold loW; omega] at h
  exact h

theorem sh4 (w : World) : Calls Tryz.prog 45 #[.int .i64 9223372036854775807, .int .i64 2] w fun e w' => e = .returned (.agg #[.int .i64 0, .int .u64 18446744073709551614]) ∧ ∃ x : Later w, w' = x.out := by
  have h := mul_c 9223372036854775807 2 w (by unfold R64; omega) (by unfold R64; omega)
  rw [show hiW (9223372036854775807 * 2) = 0 by unfold hiW; omega, show loW (9223372036854775807 * 2) = 18446744073709551614 by unfold loW; omega] at h
  exact h

theorem sh5 (w : World) : Calls Tryz.prog 47 #[.int .i64 (-1)] w fun e w' => e = .returned (.agg #[.int .i64 (-1), .int .u64 18446744073709551615]) ∧ ∃ x : Later w, w' = x.out := by
  have h := of_c (-1) w (by unfold R64; omega)
  rw [show hiW (-1) = -1 by unfold hiW; omega, show loW (-1) = 18446744073709551615 by unfold loW; omega] at h
  exact h

theorem sh6 (w : World) : Calls Tryz.prog 47 #[.int .i64 1] w fun e w' => e = .returned (.agg #[.int .i64 0, .int .u64 1]) ∧ ∃ x : Later w, w' = x.out := by
  have h := of_c 1 w (by unfold R64; omega)
  rw [show hiW 1 = 0 by unfold hiW; omega, show loW 1 = 1 by unfold loW; omega] at h
  exact h

theorem sh7 (w : World) : Calls Tryz.prog 100 #[.agg #[.int .i64 (-1), .int .u64 18446744073709551615], .agg #[.int .i64 0, .int .u64 1]] w fun e w' => e = .returned (.int .i64 (-1)) ∧ ∃ x : Later w, w' = x.out := by
  have h := cmp_c (-1) 1 w (by unfold R128; omega) (by unfold R128; omega)
  rw [show hiW (-1) = -1 by unfold hiW; omega, show loW (-1) = 18446744073709551615 by unfold loW; omega, show hiW 1 = 0 by unfold hiW; omega, show loW 1 = 1 by unfold loW; omega, show ordW (-1) 1 = -1 by unfold ordW; omega] at h
  exact h


end Go.Proofs.YtjmagehfkcnjjaaGreatDoor

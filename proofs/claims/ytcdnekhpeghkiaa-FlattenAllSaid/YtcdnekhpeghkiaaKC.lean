/-
  Texts that stand as one.
-/
import Derived.Test.YtcdnekhpeghkiaaKA
import Derived.Test.YtcdnekhpeghkiaaKB
import Derived.RangeFuncNested
import Derived.RangeFuncBound
import Derived.RangeFuncCalls
import Derived.RangeFuncLeaves
import Derived.RangeFuncFrom
import Derived.Shelf.Abstract
import Derived.Shelf.RegionOpen
import Derived.OwnWalkIn
import Derived.TacticsInMore
import Derived.LoopNIn
import Derived.LoopIn
import Derived.OrdersIn
import Derived.TacticsIn
/-
  A region that draws its order, whose operations read, reckon, and call functions that keep what lay before, and that makes new blocks beside these; with a tail whose order is forced.
-/
namespace Go.Proofs.Ytcdnekhpeghkiaa
set_option linter.unusedVariables false
open Go.RowKit

/-- an operation that enters none of the program's initial functions -/
def NoInitOp (P : Program) (o : Oper) : Prop := ∀ (a : Act) (w : World) (f : FuncId) (args : Array Value) (w' : World), (execOp a.eval o).run P w = .ok (.enter f args) w' → P.inits.idxOf? f = none
def NoInit (P : Program) : List Oper → Prop
  | [] => True
  | o :: r => NoInitOp P o ∧ NoInit P r
theorem NoInit.at {P : Program} {l : List Oper} : ∀ {i : Nat} {o : Oper}, NoInit P l → l[i]? = some o → NoInitOp P o := by
  induction l with
  | nil => intro i o h e; simp at e
  | cons x l ih =>
    intro i o h e
    unfold NoInit at h
    cases i with
    | zero =>
      have : x = o := by simpa using e
      rw [← this]; exact h.1
    | succ i => exact ih h.2 (by simpa using e)
theorem noInit_v {P : Program} {o : Oper} (s : (Operand → Value) → Sem Value) (h : ∀ ρ, execOp ρ o = (do pure (.value (← s ρ)))) : NoInitOp P o := by
  unfold NoInitOp
  intro a w f args w' e
  rw [h, Sem.run_bind] at e
  cases hr : (s a.eval).run P w with
  | ok u w1 => rw [hr] at e; simp [Result.andThen] at e
  | halt x w1 => rw [hr] at e; simp [Result.andThen] at e
theorem noInit_m {P : Program} {o : Oper} (s : (Operand → Value) → Value) (h : ∀ ρ, execOp ρ o = pure (.value (s ρ))) : NoInitOp P o := by
  unfold NoInitOp
  intro a w f args w' e
  rw [h] at e
  simp at e
theorem noInit_call {P : Program} {o : Oper} (k : Nat) {c : Call} (ho : o.op = .call c) (hc : c.callee = .value (.func k)) (he : ∀ args w, (callFunc k args).run P w = .ok (.enter k args) w) (hi : P.inits.idxOf? k = none) : NoInitOp P o := by
  unfold NoInitOp
  intro a w f args w' e
  have hv : a.eval (.func k) = .func (.func k) #[] #[] := rfl
  unfold execOp at e
  rw [ho] at e
  simp [resolve, hc, hv, Deferred.ofValue, invoke, he] at e
  rw [← e.1.1]
  exact hi

/-- two contracts on one call speak of one value -/
theorem calls_one {P : Program} {f : FuncId} {args : Array Value} {w : World} {v v' : Value} {C C' : World → Prop}
    (h : Calls P f args w fun e w'' => e = .returned v ∧ C w'') (h' : Calls P f args w fun e w'' => e = .returned v' ∧ C' w'') (hi : P.inits.idxOf? f = none) : v = v' := by
  have k : Calls P f args w fun | .returned u, _ => u = v | _, _ => False := h.mono fun e w' ⟨he, _⟩ => by subst he; rfl
  have k' : Calls P f args w fun | .returned u, _ => u = v' | _, _ => False := h'.mono fun e w' ⟨he, _⟩ => by subst he; rfl
  obtain ⟨n, u, w1, e1, r1⟩ := k.done hi
  obtain ⟨m, u', w2, e2, r2⟩ := k'.done hi
  have a := runN_ended e1 m
  have b := runN_ended e2 n
  rw [Nat.add_comm, a] at b
  injection b with ho hw
  injection ho with hv
  exact r1.symm.trans (hv.trans r2)
theorem upon_one {P : Program} {C C' : World → Prop} {w : World} {v v' : Value} {r : Result Next} (hn : ∀ f args w', r = .ok (.enter f args) w' → P.inits.idxOf? f = none)
    (h : Oper.quietUpon P C w v r) (h' : Oper.quietUpon P C' w v' r) : v = v' := by
  cases r with
  | halt => exact h.elim
  | ok n w1 =>
    cases n with
    | value u => exact h.2.symm.trans h'.2
    | skip => exact h.2.trans h'.2.symm
    | enter f args => exact calls_one h.2 h'.2 (hn _ _ _ rfl)
    | _ => exact h.elim

section
variable {P : Program} {ops : Array Oper} {md : Region.Mode} {C : World → Prop}
theorem yields_one {C' : World → Prop} {o : Oper} {v v' : Value} {a : Act} {w : World} (hn : NoInitOp P o) (hw : C w) (hw' : C' w) (h : YieldsIn P ops C o v a) (h' : YieldsIn P ops C' o v' a) : v = v' := by
  rcases h with ⟨h1, h2⟩ | ⟨h1, h2⟩
  · rcases h' with ⟨k1, k2⟩ | ⟨k1, k2⟩
    · exact upon_one (fun f args w' e => hn a w f args w' e) (h2 w hw) (k2 w hw')
    · rw [h1] at k1; cases k1
  · rcases h' with ⟨k1, k2⟩ | ⟨k1, k2⟩
    · rw [h1] at k1; cases k1
    · exact h2.trans k2.symm

def ptrAt (g : Nat) : Value := .pointer (some ⟨g, 0, none⟩)
def dstOf (ops : Array Oper) (i : Nat) : Option Tmp := (ops[i]?).bind (·.dst)
/-- operation number i comes up: quiet ones as before; behind these, a new block, wherever it lies -/
def gOp (P : Program) (ops : Array Oper) (C : World → Prop) (h i : Nat) (K : Act → Prop) (a : Act) : Prop :=
  if i < h then qOp P ops C i K a else ∀ g : Nat, K (a.put (dstOf ops i) (ptrAt g))
theorem gOp_mono {h i : Nat} {a : Act} {K K' : Act → Prop} (hk : ∀ a, K a → K' a) (hh : gOp P ops C h i K a) : gOp P ops C h i K' a := by
  unfold gOp at *
  split
  · rw [if_pos ‹_›] at hh; exact qOp_mono hk hh
  · rw [if_neg ‹_›] at hh; exact fun g => hk _ (hh g)
theorem gOp_put {h j : Nat} {oi oj : Oper} {v : Value} (hj : ops[j]? = some oj) (hap : oi.apart ops oj = true)
    (hsi : ∀ cs b, oi.op ≠ .select cs b) (hsj : ∀ cs b, oj.op ≠ .select cs b) {K : Act → Prop} {a : Act}
    (hy : YieldsIn P ops C oi v a) (hh : gOp P ops C h j K (a.put oi.dst v)) :
    gOp P ops C h j (fun a' => YieldsIn P ops C oi v a' ∧ K (a'.put oi.dst v)) a := by
  unfold gOp at *
  split
  · rw [if_pos ‹_›] at hh; exact qOp_put hj hap hsi hsj hy hh
  · rw [if_neg ‹_›] at hh
    obtain ⟨h1, h2, h3⟩ := Oper.apart_spec hap
    intro g
    have hg := hh g
    have ed : dstOf ops j = oj.dst := by simp [dstOf, hj]
    rw [ed] at hg ⊢
    exact ⟨hy.of_same (execOp_put oi hsi a oj.dst _ h3) (wanted_put oi a oj.dst _ h3), by rw [← Act.put_comm a v _ h2]; exact hg⟩

def wpAnyG (P : Program) (md : Region.Mode) (ops : Array Oper) (C : World → Prop) (h n : Nat) (L : Array Bool → Act → Prop) : Nat → Array Bool → Act → Prop
  | 0, listed, a => L listed a
  | f + 1, listed, a =>
    Region.ready md ops listed ≠ [] ∧ ∀ i ∈ Region.ready md ops listed, i < n ∧ gOp P ops C h i (wpAnyG P md ops C h n L f (listed.setIfInBounds i true)) a

theorem wpAnyG_first {h n i : Nat} {oi : Oper} {v : Value} {L : Array Bool → Act → Prop} (hi : ops[i]? = some oi) (hsel : ∀ (j : Nat) (o : Oper) cs b, ops[j]? = some o → o.op ≠ .select cs b)
    (hs : Region.sinkB md ops n = true) (hc : Region.chainB md ops n = true) (hn : n < ops.size) (hin : i < n) (hih : i < h)
    (hdone : ∀ listed a, L listed a → ∀ j ∈ Region.ready md ops listed, n ≤ j) :
    ∀ (f : Nat) (listed : Array Bool) (a : Act), HeadInv md ops n listed →
      (∀ j oj, ops[j]? = some oj → j ≠ i → listed.getD j true = false → (∀ e ∈ oj.after, Region.binds md e = true → e.on ≠ i) → oi.apart ops oj = true) →
      i ∈ Region.ready md ops listed → YieldsIn P ops C oi v a →
      wpAnyG P md ops C h n L f (listed.setIfInBounds i true) (a.put oi.dst v) → wpAnyG P md ops C h n L (f + 1) listed a := by
  have one : ∀ {f : Nat} {listed : Array Bool} {a : Act}, YieldsIn P ops C oi v a → wpAnyG P md ops C h n L f listed (a.put oi.dst v) → gOp P ops C h i (wpAnyG P md ops C h n L f listed) a := fun hy H => by
    unfold gOp; rw [if_pos hih]; exact hy.qOp hi H
  intro f
  induction f with
  | zero =>
    intro listed a inv _ hr hy H
    have hun := (mem_ready.1 hr).1
    refine ⟨fun h => (by rw [h] at hr; cases hr), fun j hj => ?_⟩
    have hjn : j < n := by
      rcases Nat.lt_or_ge j n with h | h
      · exact h
      · exact absurd hj (tail_waits hs hc hn inv _ i rfl hin hun j h)
    refine ⟨hjn, ?_⟩
    by_cases hji : j = i
    · subst hji; exact one hy H
    · have := hdone _ _ H j (ready_mono hj hji)
      omega
  | succ f ih =>
    intro listed a inv hfree hr hy H
    have hun := (mem_ready.1 hr).1
    refine ⟨fun h => (by rw [h] at hr; cases hr), fun j hj => ?_⟩
    have hjn : j < n := by
      rcases Nat.lt_or_ge j n with h | h
      · exact h
      · exact absurd hj (tail_waits hs hc hn inv _ i rfl hin hun j h)
    refine ⟨hjn, ?_⟩
    by_cases hji : j = i
    · subst hji; exact one hy H
    · have h1 := (H.2 j (ready_mono hj hji)).2
      obtain ⟨hjun, oj, hoj, hall⟩ := mem_ready.1 hj
      have hnot : ∀ e ∈ oj.after, Region.binds md e = true → e.on ≠ i := fun e he hb heq => by
        have h1 := hall e he hb
        rw [heq, getD_both hun] at h1
        cases h1
      have h2 := gOp_put hoj (hfree j oj hoj hji hjun hnot) (fun cs b => hsel i oi cs b hi) (fun cs b => hsel j oj cs b hoj) hy h1
      have hfree' : ∀ k ok, ops[k]? = some ok → k ≠ i → (listed.setIfInBounds j true).getD k true = false →
          (∀ e ∈ ok.after, Region.binds md e = true → e.on ≠ i) → oi.apart ops ok = true := fun k ok hk hki hun hno => by
        refine hfree k ok hk hki ?_ hno
        by_cases hjk : j = k
        · subst hjk; exact hjun
        · rw [getD_set_ne true hjk] at hun; exact hun
      refine gOp_mono (fun a' h3 => ih (listed.setIfInBounds j true) a' (inv.set hj hjn) hfree' (ready_mono hr (Ne.symm hji)) h3.1 ?_) h2
      rw [Array.setIfInBounds_comm _ _ hji]
      exact h3.2

theorem wpAnyG_firstA {h n i : Nat} {oi : Oper} {L : Array Bool → Act → Prop} (hi : ops[i]? = some oi)
    (hs : Region.sinkB md ops n = true) (hc : Region.chainB md ops n = true) (hn : n < ops.size) (hin : i < n) (hih : h ≤ i)
    (hdone : ∀ listed a, L listed a → ∀ j ∈ Region.ready md ops listed, n ≤ j) :
    ∀ (f : Nat) (listed : Array Bool) (a : Act), HeadInv md ops n listed → (∀ j, j < h → listed.getD j false = true) →
      (∀ j oj, ops[j]? = some oj → j ≠ i → listed.getD j true = false → (∀ e ∈ oj.after, Region.binds md e = true → e.on ≠ i) → oi.apart ops oj = true) →
      i ∈ Region.ready md ops listed →
      (∀ g, wpAnyG P md ops C h n L f (listed.setIfInBounds i true) (a.put oi.dst (ptrAt g))) → wpAnyG P md ops C h n L (f + 1) listed a := by
  have ed : dstOf ops i = oi.dst := by simp [dstOf, hi]
  have one : ∀ {f : Nat} {listed : Array Bool} {a : Act}, (∀ g, wpAnyG P md ops C h n L f listed (a.put oi.dst (ptrAt g))) → gOp P ops C h i (wpAnyG P md ops C h n L f listed) a := fun H => by
    unfold gOp; rw [if_neg (by omega), ed]; exact H
  intro f
  induction f with
  | zero =>
    intro listed a inv _ _ hr H
    have hun := (mem_ready.1 hr).1
    refine ⟨fun h => (by rw [h] at hr; cases hr), fun j hj => ?_⟩
    have hjn : j < n := by
      rcases Nat.lt_or_ge j n with h | h
      · exact h
      · exact absurd hj (tail_waits hs hc hn inv _ i rfl hin hun j h)
    refine ⟨hjn, ?_⟩
    by_cases hji : j = i
    · subst hji; exact one H
    · have := hdone _ _ (H 0) j (ready_mono hj hji)
      omega
  | succ f ih =>
    intro listed a inv hall0 hfree hr H
    have hun := (mem_ready.1 hr).1
    refine ⟨fun h => (by rw [h] at hr; cases hr), fun j hj => ?_⟩
    have hjn : j < n := by
      rcases Nat.lt_or_ge j n with h | h
      · exact h
      · exact absurd hj (tail_waits hs hc hn inv _ i rfl hin hun j h)
    refine ⟨hjn, ?_⟩
    by_cases hji : j = i
    · subst hji; exact one H
    · obtain ⟨hjun, oj, hoj, hall⟩ := mem_ready.1 hj
      have hjh : h ≤ j := by
        rcases Nat.lt_or_ge j h with k | k
        · have := hall0 j k
          rw [getD_both hjun] at this
          cases this
        · exact k
      have hnot : ∀ e ∈ oj.after, Region.binds md e = true → e.on ≠ i := fun e he hb heq => by
        have h1 := hall e he hb
        rw [heq, getD_both hun] at h1
        cases h1
      have hap := hfree j oj hoj hji hjun hnot
      obtain ⟨_, h2, _⟩ := Oper.apart_spec hap
      have edj : dstOf ops j = oj.dst := by simp [dstOf, hoj]
      have hfree' : ∀ k ok, ops[k]? = some ok → k ≠ i → (listed.setIfInBounds j true).getD k true = false →
          (∀ e ∈ ok.after, Region.binds md e = true → e.on ≠ i) → oi.apart ops ok = true := fun k ok hk hki hun hno => by
        refine hfree k ok hk hki ?_ hno
        by_cases hjk : j = k
        · subst hjk; exact hjun
        · rw [getD_set_ne true hjk] at hun; exact hun
      unfold gOp
      rw [if_neg (by omega)]
      intro g'
      refine ih (listed.setIfInBounds j true) _ (inv.set hj hjn) (fun k hk => by rw [getD_set_ne false (by omega)]; exact hall0 k hk) hfree' (ready_mono hr (Ne.symm hji)) (fun g => ?_)
      have h1 := ((H g).2 j (ready_mono hj hji)).2
      unfold gOp at h1
      rw [if_neg (by omega)] at h1
      have h3 := h1 g'
      rw [edj] at h3 ⊢
      rw [Array.setIfInBounds_comm _ _ hji, ← Act.put_comm a _ _ h2]
      exact h3

/-- the lexical walk: q quiet operations, then new blocks -/
def wpLexG (P : Program) (ops : Array Oper) (C : World → Prop) (Lq : Act → Prop) : Nat → List Oper → Act → Prop
  | _, [], a => Lq a
  | 0, o :: l, a => ∀ g, wpLexG P ops C Lq 0 l (a.put o.dst (ptrAt g))
  | q + 1, o :: l, a => if Region.wanted o (yielded ops a.tmps) then o.quiet P a C (wpLexG P ops C Lq q l) else wpLexG P ops C Lq q l (a.put o.dst undef)
def alWalk (Lq : Act → Prop) : List Oper → Act → Prop
  | [], a => Lq a
  | o :: l, a => ∀ g, alWalk Lq l (a.put o.dst (ptrAt g))
theorem wpLexG_zero {Lq : Act → Prop} : ∀ (l : List Oper) (a : Act), alWalk Lq l a → wpLexG P ops C Lq 0 l a
  | [], _, h => h
  | _ :: l, _, h => fun g => wpLexG_zero l _ (h g)
theorem wpLexG_of {Lq : Act → Prop} : ∀ (q : Nat) (l : List Oper) (a : Act), wpQuiet P ops C (alWalk Lq (l.drop q)) (l.take q) a → wpLexG P ops C Lq q l a
  | 0, l, a, h => wpLexG_zero l a h
  | _ + 1, [], a, h => h
  | q + 1, o :: l, a, h => by
    simp only [List.take_succ_cons, List.drop_succ_cons] at h
    unfold wpQuiet at h
    unfold wpLexG
    split
    · rw [if_pos ‹_›] at h; exact Oper.quiet_mono (fun a' h' => wpLexG_of q l a' h') h
    · rw [if_neg ‹_›] at h; exact wpLexG_of q l _ h

theorem wpAnyG_lex {h n g : Nat} {Lq : Act → Prop} (hsel : Region.noSelect ops = true) (hs : Region.sinkB md ops n = true) (hc : Region.chainB md ops n = true) (hn : n < ops.size) :
    ∀ (l : List Oper) (k q : Nat) (listed : Array Bool) (a : Act), (∀ j, j < l.length → l[j]? = ops[k + j]?) → k + l.length = n → q = h - k → HeadInv md ops n listed → (∀ j, j < k → listed.getD j false = true) →
    Region.lexHead md ops g l.length k listed = true → wpLexG P ops C Lq q l a →
    wpAnyG P md ops C h n (fun listed' a' => Region.seqB md ops g n listed' = true ∧ Lq a') l.length listed a
  | [], k, q, listed, a, _, hk, _, _, _, hB, hh => by
    have : k = n := by simpa using hk
    subst this
    exact ⟨by simpa [Region.lexHead] using hB, by cases q <;> exact hh⟩
  | o :: l, k, q, listed, a, hl, hk, hq, inv, hL, hB, hh => by
    have h0 : ops[k]? = some o := by simpa using (hl 0 (by simp)).symm
    simp only [List.length_cons, Region.lexHead, Bool.and_eq_true] at hB
    obtain ⟨⟨hr, hf⟩, hB'⟩ := hB
    have hkn : k < n := by simp only [List.length_cons] at hk; omega
    have hr' : k ∈ Region.ready md ops listed := by simpa using hr
    have hL' : ∀ j, j < k + 1 → (listed.setIfInBounds k true).getD j false = true := fun j hj => by
      by_cases e : k = j
      · subst e
        have hlt : k < listed.size := by rw [inv.size]; omega
        simp [hlt]
      · rw [getD_set_ne false e]; exact hL j (by omega)
    have next := fun (a' : Act) (q' : Nat) (hq' : q' = h - (k + 1)) (hh' : wpLexG P ops C Lq q' l a') => wpAnyG_lex (Lq := Lq) (h := h) (g := g) hsel hs hc hn l (k + 1) q' (listed.setIfInBounds k true) a' (fun j hj => by have := hl (j + 1) (by simp; omega); simpa [Nat.add_assoc, Nat.add_comm 1 j] using this) (by simp only [List.length_cons] at hk; omega) hq' (inv.set hr' hkn) hL' hB' hh'
    match q, hq, hh with
    | 0, hq, hh =>
      exact wpAnyG_firstA h0 hs hc hn hkn (by omega) (fun listed' a' hL => seqB_ready hL.1) l.length listed a inv (fun j hj => hL j (by omega)) (Region.free_spec h0 hf) hr' (fun g => next _ 0 (by omega) (hh g))
    | q + 1, hq, hh =>
      have hst : qOp P ops C k (wpLexG P ops C Lq q l) a := by unfold qOp; simp only [h0]; exact hh
      obtain ⟨v, hy, hK⟩ := yieldsIn_of_qOp h0 hst
      exact wpAnyG_first h0 (Region.noSelect_spec hsel) hs hc hn hkn (by omega) (fun listed' a' hL => seqB_ready hL.1) l.length listed a inv (Region.free_spec h0 hf) hr' hy (next _ q (by omega) hK)
end
end Go.Proofs.Ytcdnekhpeghkiaa

/-
  The rule for a region that draws its order, with new blocks beside reads and calls, and a forced tail.
-/
namespace Go.Proofs.Ytcdnekhpeghkiaa
set_option linter.unusedVariables false
open Go.RowKit

section
variable {P : Program} {ops : Array Oper} {md : Region.Mode} {w : World}

/-- what holds of the new blocks -/
structure Laid (md : Region.Mode) (ops : Array Oper) (w : World) (h n : Nat) (z : Nat → Obj) (S : Nat) (listed : Array Bool) (a : Act) (wc : World) (G : Nat → Nat) : Prop where
  inv : HeadInv md ops n listed
  size : a.tmps.size = S
  below : Below w.heap.size w wc
  at_ : ∀ i d, h ≤ i → i < n → listed.getD i false = true → dstOf ops i = some d → a.tmps[d]? = some (ptrAt (G i)) ∧ w.heap.size ≤ G i ∧ wc.heap[G i]? = some (z i)
  ne : ∀ i j, h ≤ i → i < n → h ≤ j → j < n → listed.getD i false = true → listed.getD j false = true → i ≠ j → G i ≠ G j

/-- which operations make blocks, and of what -/
def AlOps (P : Program) (ops : Array Oper) (h n : Nat) (z : Nat → Obj) (S : Nat) : Prop :=
  (∀ i, h ≤ i → i < n → ∃ o d T, ops[i]? = some o ∧ o.op = .alloc T ∧ o.dst = some d ∧ o.guard = none ∧ d < S ∧ (∀ v : World, (Instr.alloc T true (.tuple #[])).run P v = .ok (ptrAt v.heap.size) (v.alloc (z i)))) ∧
  (∀ i j d, h ≤ i → i < n → j < n → j ≠ i → dstOf ops i = some d → dstOf ops j ≠ some d)

theorem alloc_new (v : World) (o : Obj) : (v.alloc o).heap[v.heap.size]? = some o := by unfold World.alloc; simp
theorem put_size (a : Act) (d : Option Tmp) (v : Value) : (a.put d v).tmps.size = a.tmps.size := by
  cases d <;> simp [Act.put]
theorem put_other (a : Act) (d : Option Tmp) (e : Tmp) (v : Value) (h : d ≠ some e) : (a.put d v).tmps[e]? = a.tmps[e]? := by
  cases d with
  | none => rfl
  | some d => simp only [Act.put]; rw [Array.getElem?_setIfInBounds_ne (fun k => h (by rw [k]))]
theorem put_same (a : Act) (e : Tmp) (v : Value) (h : e < a.tmps.size) : (a.put (some e) v).tmps[e]? = some v := by
  simp [Act.put, h]

theorem wpAny_of_G {h n g S : Nat} {z : Nat → Obj} {Q' : Exit → Act → World → Prop} {L : Array Bool → Act → Prop} (hA : AlOps P ops h n z S) (hni : ∀ i o, i < h → ops[i]? = some o → NoInitOp P o)
    (hL : ∀ listed a wc G, Laid md ops w h n z S listed a wc G → L listed a → wpAny P md ops Q' g listed a wc) :
    ∀ (f : Nat) (listed : Array Bool) (a : Act) (wc : World) (G : Nat → Nat), Laid md ops w h n z S listed a wc G →
      (∀ y : Later wc, wpAnyG P md ops (fun w' => ∃ x : Later y.out, w' = x.out) h n L f listed a) → wpAny P md ops Q' (f + g) listed a wc
  | 0, listed, a, wc, G, hl, hT => by rw [Nat.zero_add]; exact hL _ _ _ _ hl (hT ⟨wc, Below.refl _ _⟩)
  | f + 1, listed, a, wc, G, hl, hT => by
    rw [show f + 1 + g = (f + g) + 1 by omega]
    have h0 := hT ⟨wc, Below.refl _ _⟩
    refine ⟨fun e => absurd e h0.1, fun i hi => ?_⟩
    obtain ⟨hin, h1⟩ := h0.2 i hi
    obtain ⟨hun, oi, hoi, hall⟩ := mem_ready.1 hi
    have hoth : ∀ k, k ≠ i → (listed.setIfInBounds i true).getD k false = listed.getD k false := fun k e => getD_set_ne false (Ne.symm e)
    by_cases hq : i < h
    · unfold gOp at h1
      rw [if_pos hq] at h1
      obtain ⟨v, hy, hK⟩ := yieldsIn_of_qOp hoi h1
      refine wpOp_of_qOp (C := fun w' => ∃ x : Later wc, w' = x.out) (K := fun a' => a' = a.put oi.dst v) ⟨⟨wc, Below.refl _ _⟩, rfl⟩ ?_ (hy.qOp hoi rfl)
      rintro a' w' ⟨x, rfl⟩ rfl
      have hdi : dstOf ops i = oi.dst := by simp [dstOf, hoi]
      refine wpAny_of_G hA hni hL f _ _ _ G ⟨hl.inv.set hi hin, by rw [put_size]; exact hl.size, hl.below.trans (x.below.mono hl.below.size), ?_, ?_⟩ (fun y => ?_)
      · intro k d k1 k2 k3 k4
        have hne : k ≠ i := by omega
        rw [hoth k hne] at k3
        obtain ⟨e1, e2, e3⟩ := hl.at_ k d k1 k2 k3 k4
        refine ⟨?_, e2, ?_⟩
        · rw [put_other _ _ _ _ (by rw [← hdi]; exact hA.2 k i d k1 k2 hin (Ne.symm hne) k4)]; exact e1
        · exact (x.below.block _ (Array.getElem?_eq_some_iff.1 e3).1).trans e3
      · intro k j k1 k2 j1 j2 k3 j3 hkj
        rw [hoth k (by omega)] at k3
        rw [hoth j (by omega)] at j3
        exact hl.ne k j k1 k2 j1 j2 k3 j3 hkj
      · have h2 := ((hT ⟨y.out, x.below.trans (y.below.mono x.below.size)⟩).2 i hi).2
        unfold gOp at h2
        rw [if_pos hq] at h2
        obtain ⟨v', hy', hK'⟩ := yieldsIn_of_qOp hoi h2
        have e : v = v' := yields_one (w := y.out) (hni i oi hq hoi) ⟨⟨y.out, x.below.trans (y.below.mono x.below.size)⟩, rfl⟩ ⟨⟨y.out, Below.refl _ _⟩, rfl⟩ hy hy'
        subst e
        exact hK'
    · obtain ⟨o, d, T, ho, hop, hd, hg, hds, hrun⟩ := hA.1 i (by omega) hin
      obtain rfl : o = oi := Option.some.inj (ho.symm.trans hoi)
      have hdi : dstOf ops i = some d := by simp [dstOf, hoi, hd]
      unfold wpOp
      simp only [hoi]
      have hw : Region.wanted o (yielded ops a.tmps) = true := by simp [Region.wanted, hg]
      rw [if_pos hw]
      refine .inl ?_
      unfold Oper.wp
      have hx : (execOp a.eval o).run P wc = .ok (.value (ptrAt wc.heap.size)) (wc.alloc (z i)) := by
        unfold execOp
        rw [hop]
        simp [hrun]
      rw [hx, Oper.upon_value, hd]
      have hb : Below wc.heap.size wc (wc.alloc (z i)) := (Below.refl _ wc).alloc (Nat.le_refl _) _
      refine wpAny_of_G hA hni hL f _ _ _ (fun k => if k = i then wc.heap.size else G k) ⟨hl.inv.set hi hin, by rw [put_size]; exact hl.size, hl.below.trans (hb.mono hl.below.size), ?_, ?_⟩ (fun y => ?_)
      · intro k e k1 k2 k3 k4
        by_cases hki : k = i
        · subst hki
          rw [if_pos rfl]
          obtain rfl : e = d := Option.some.inj (k4.symm.trans hdi)
          exact ⟨put_same _ _ _ (by rw [hl.size]; exact hds), hl.below.size, alloc_new _ _⟩
        · rw [if_neg hki]
          rw [hoth k hki] at k3
          obtain ⟨e1, e2, e3⟩ := hl.at_ k e k1 k2 k3 k4
          refine ⟨?_, e2, ?_⟩
          · rw [put_other _ _ _ _ (by rw [← hdi]; exact hA.2 k i e k1 k2 hin (Ne.symm hki) k4)]; exact e1
          · exact (hb.block _ (Array.getElem?_eq_some_iff.1 e3).1).trans e3
      · have lt : ∀ k, h ≤ k → k < n → k ≠ i → (listed.setIfInBounds i true).getD k false = true → G k < wc.heap.size := fun k k1 k2 hki k3 => by
          rw [hoth k hki] at k3
          obtain ⟨o', d', T', ho', _, hd', _⟩ := hA.1 k k1 k2
          have := (hl.at_ k d' k1 k2 k3 (by simp [dstOf, ho', hd'])).2.2
          exact (Array.getElem?_eq_some_iff.1 this).1
        intro k j k1 k2 j1 j2 k3 j3 hkj
        by_cases hki : k = i
        · subst hki
          rw [if_pos rfl, if_neg (Ne.symm hkj)]
          have := lt j j1 j2 (Ne.symm hkj) j3
          omega
        · by_cases hji : j = i
          · subst hji
            rw [if_pos rfl, if_neg hki]
            have := lt k k1 k2 hki k3
            omega
          · rw [if_neg hki, if_neg hji]
            rw [hoth k hki] at k3
            rw [hoth j hji] at j3
            exact hl.ne k j k1 k2 j1 j2 k3 j3 hkj
      · have h2 := ((hT ⟨y.out, hb.trans (y.below.mono hb.size)⟩).2 i hi).2
        unfold gOp at h2
        rw [if_neg hq, hdi] at h2
        exact h2 wc.heap.size

theorem wp_region_later_als {id : Nat} {Q : Exit → Act → World → Prop} {a : Act} {l : List Oper} (h n : Nat) (z : Nat → Obj) (hhn : h ≤ n) (hm : P.follows .mixedOrders = true) (hB : Region.lexTailB .any l.toArray n = true)
    (hA : AlOps P l.toArray h n z a.tmps.size) (hni : NoInit P (l.take h))
    (H : ∀ y : Later w, wpQuiet P l.toArray (fun w' => ∃ x : Later y.out, w' = x.out) (alWalk (fun a' => ∀ (x : Later w) (G : Nat → Nat),
        (∀ i d, h ≤ i → i < n → dstOf l.toArray i = some d → a'.tmps[d]? = some (ptrAt (G i)) ∧ w.heap.size ≤ G i ∧ x.out.heap[G i]? = some (z i)) →
        (∀ i j, h ≤ i → i < n → h ≤ j → j < n → i ≠ j → G i ≠ G j) → wpList P l.toArray Q (l.drop n) a' x.out) ((l.take n).drop h)) (l.take h) a) : (Code.region id l.toArray true).wp P Q a w := by
  simp only [Region.lexTailB, Bool.and_eq_true, decide_eq_true_eq] at hB
  obtain ⟨⟨⟨⟨hsel, hn⟩, hs⟩, hc⟩, hlex⟩ := hB
  have hn' : n < l.length := by simpa using hn
  have htl : (l.take n).length = n := by simp; omega
  have hdl : (l.drop n).length = l.toArray.size - n := by simp
  have hth : (l.take n).take h = l.take h := by rw [List.take_take]; congr 1; omega
  have inv0 : HeadInv .any l.toArray n (Array.replicate l.toArray.size false) :=
    ⟨by simp, fun j oj _ hl => (by rw [getD_replicate_false] at hl; cases hl), fun t _ ht => getD_in (by simpa using ht) (getD_replicate_false _ _)⟩
  refine wp_region_any hm ?_
  have hb : Below w.heap.size w w.drew := (Below.refl _ w).drew
  have := wpAny_of_G (P := P) (ops := l.toArray) (md := .any) (w := w) (h := h) (n := n) (g := l.toArray.size - n) (S := a.tmps.size) (z := z) (Q' := Q)
    (L := fun listed' a' => Region.seqB .any l.toArray (l.toArray.size - n) n listed' = true ∧ (∀ (x : Later w) (G : Nat → Nat),
        (∀ i d, h ≤ i → i < n → dstOf l.toArray i = some d → a'.tmps[d]? = some (ptrAt (G i)) ∧ w.heap.size ≤ G i ∧ x.out.heap[G i]? = some (z i)) →
        (∀ i j, h ≤ i → i < n → h ≤ j → j < n → i ≠ j → G i ≠ G j) → wpList P l.toArray Q (l.drop n) a' x.out))
    hA (fun i o hi ho => hni.at (i := i) (by rw [List.getElem?_take_of_lt hi]; simpa using ho)) ?_ (l.take n).length (Array.replicate l.toArray.size false) a w.drew (fun _ => 0)
    ⟨inv0, rfl, hb, fun i d _ _ hl _ => (by rw [getD_replicate_false] at hl; cases hl), fun i j _ _ _ _ hl _ _ => (by rw [getD_replicate_false] at hl; cases hl)⟩ ?_
  · rw [htl, show n + (l.toArray.size - n) = l.toArray.size by omega] at this
    exact this
  · rintro listed a' wc G hl ⟨hL, hq⟩
    have all : ∀ i, i < n → listed.getD i false = true := fun i hi => by
      rcases hx : listed.getD i false with _ | _
      · have hlt : i < listed.size := by rw [hl.inv.size]; omega
        have hno := tail_waits hs hc hn hl.inv _ i rfl hi (getD_in hlt hx) n (Nat.le_refl _)
        obtain ⟨g, hg⟩ : ∃ g, l.toArray.size - n = g + 1 := ⟨l.toArray.size - n - 1, by omega⟩
        rw [hg] at hL
        simp only [Region.seqB, Bool.and_eq_true, decide_eq_true_eq] at hL
        rw [hL.1] at hno
        simp at hno
      · rfl
    have hf := hq ⟨wc, hl.below⟩ G (fun i d h1 h2 h3 => hl.at_ i d h1 h2 (all i h2) h3) (fun i j h1 h2 h3 h4 hij => hl.ne i j h1 h2 h3 h4 (all i h2) (all j h4) hij)
    have := wpAny_of_seq (md := .any) (Q' := Q) (l.drop n) n listed a' wc (fun j => by simp [List.getElem?_drop]) (by rw [hdl]; exact hL) hf
    rwa [hdl] at this
  · intro y
    have hw := H ⟨y.out, hb.trans (y.below.mono hb.size)⟩
    exact wpAnyG_lex (md := .any) (g := l.toArray.size - n) hsel hs hc hn (l.take n) 0 h _ a (fun j hj => by
      have hj' : j < n := by rw [htl] at hj; exact hj
      simp [hj']) (by simpa using htl) (by omega) inv0 (fun j hj => by omega) (by rw [htl]; exact hlex) (wpLexG_of h (l.take n) a (by rw [hth]; exact hw))

/-- one new block -/
theorem wp_region_later_al1 {id : Nat} {Q : Exit → Act → World → Prop} {a : Act} {l : List Oper} (h d : Nat) (z : Obj) (hm : P.follows .mixedOrders = true) (hB : Region.lexTailB .any l.toArray (h + 1) = true)
    (hA : ∃ o T, l[h]? = some o ∧ o.op = .alloc T ∧ o.dst = some d ∧ o.guard = none ∧ (∀ v : World, (Instr.alloc T true (.tuple #[])).run P v = .ok (ptrAt v.heap.size) (v.alloc z)))
    (hd : d < a.tmps.size) (hne : (l.take h).all (fun o => o.dst != some d) = true) (hni : NoInit P (l.take h))
    (H : ∀ y : Later w, wpQuiet P l.toArray (fun w' => ∃ x : Later y.out, w' = x.out) (fun a' => ∀ (g : Nat) (x : Later w), w.heap.size ≤ g → x.out.heap[g]? = some z →
        wpList P l.toArray Q (l.drop (h + 1)) (a'.put (some d) (.pointer (some ⟨g, 0, none⟩))) x.out) (l.take h) a) : (Code.region id l.toArray true).wp P Q a w := by
  obtain ⟨o, T, ho, hop, hdst, hg, hrun⟩ := hA
  have ho' : l.toArray[h]? = some o := by simpa using ho
  have hdo : dstOf l.toArray h = some d := by simp [dstOf, ho, hdst]
  have hhl : h < l.length := by
    rcases Nat.lt_or_ge h l.length with k | k
    · exact k
    · rw [List.getElem?_eq_none k] at ho; cases ho
  refine wp_region_later_als h (h + 1) (fun _ => z) (by omega) hm hB ⟨fun i h1 h2 => ?_, fun i j e h1 h2 h3 h4 h5 => ?_⟩ hni (fun y => ?_)
  · obtain rfl : i = h := by omega
    exact ⟨o, d, T, ho', hop, hdst, hg, hd, hrun⟩
  · obtain rfl : i = h := by omega
    obtain rfl : e = d := Option.some.inj (h5.symm.trans hdo)
    have hjl : j < l.length := by omega
    have hj := List.all_eq_true.1 hne (l[j]) (by rw [List.mem_take_iff_getElem]; exact ⟨j, by omega, rfl⟩)
    simp only [bne_iff_ne, ne_eq] at hj
    simpa [dstOf, hjl] using hj
  · refine wpQuiet_post (fun a' h' => ?_) _ _ (H y)
    have e : (l.take (h + 1)).drop h = [o] := by
      rw [List.take_add_one, ho, List.drop_append_of_le_length (by simp; omega)]
      simp
    rw [e]
    intro g x G hG _
    have k := hG h d (Nat.le_refl _) (by omega) hdo
    rw [hdst] at k ⊢
    have hlt : d < a'.tmps.size := by
      rcases Nat.lt_or_ge d a'.tmps.size with q | q
      · exact q
      · have := k.1
        rw [Array.getElem?_eq_none (by rw [put_size]; exact q)] at this
        cases this
    rw [put_same _ _ _ hlt] at k
    have eg : g = G h := by have := k.1; unfold ptrAt at this; simpa using this
    exact h' g x (by rw [eg]; exact k.2.1) (by rw [eg]; exact k.2.2)
end
end Go.Proofs.Ytcdnekhpeghkiaa

/-
  What a block holds, as one word; how stores, new blocks and calls keep it.
-/
namespace Go.Proofs.Ytcdnekhpeghkiaa
set_option linter.unusedVariables false
open Go.RowKit

/-- block b holds these cells, none of them frozen -/
def Blk (W : World) (b : Nat) (T : TypeId) (c : Array Value) : Prop := W.heap[b]? = some (.cells c T)
theorem Blk.lt {W : World} {b : Nat} {T : TypeId} {c : Array Value} (h : Blk W b T c) : b < W.heap.size := (Array.getElem?_eq_some_iff.1 h).1
theorem Blk.cell {W : World} {b : Nat} {T : TypeId} {c : Array Value} (h : Blk W b T c) (i : Nat) : W.cell? ⟨b, i, none⟩ = c[i]? := by
  unfold Blk at h; simp [World.cell?, h]
theorem Blk.frozen {W : World} {b : Nat} {T : TypeId} {c : Array Value} (h : Blk W b T c) (i : Nat) : W.frozen? ⟨b, i, none⟩ = false := by
  unfold Blk at h; simp [World.frozen?, h]
theorem Blk.set {W : World} {b : Nat} {T : TypeId} {c : Array Value} (h : Blk W b T c) (i : Nat) (v : Value) : Blk (W.setCell ⟨b, i, none⟩ v) b T (c.setIfInBounds i v) := by
  have hl := h.lt
  unfold Blk at *
  simp only [World.setCell, Array.getElem?_modify, if_true, h]
  simp
theorem Blk.other {W : World} {b b' : Nat} {T : TypeId} {c : Array Value} (h : Blk W b T c) (i : Nat) (v : Value) (hne : b ≠ b') : Blk (W.setCell ⟨b', i, none⟩ v) b T c :=
  (Below.heap_setCell W ⟨b', i, none⟩ v b hne).trans h
theorem Blk.new (W : World) (T : TypeId) (c : Array Value) : Blk (W.alloc (.cells c T)) W.heap.size T c := alloc_new W _
theorem Blk.new' {W : World} {b : Nat} {T : TypeId} {c : Array Value} (h : b = W.heap.size) : Blk (W.alloc (.cells c T)) b T c := h ▸ Blk.new W T c
theorem Blk.alloc {W : World} {b : Nat} {T : TypeId} {c : Array Value} (h : Blk W b T c) (o : Obj) : Blk (W.alloc o) b T c := (Below.heap_alloc W o b h.lt).trans h
theorem Blk.drew {W : World} {b : Nat} {T : TypeId} {c : Array Value} (h : Blk W b T c) : Blk W.drew b T c := h
theorem Blk.later {W : World} {b : Nat} {T : TypeId} {c : Array Value} (h : Blk W b T c) (x : Later W) : Blk x.out b T c := (x.below.block b h.lt).trans h
theorem Blk.below {W W' : World} {B b : Nat} {T : TypeId} {c : Array Value} (h : Blk W b T c) (k : Below B W W') (hb : b < B) : Blk W' b T c := (k.block b hb).trans h
theorem Blk.heap {W W' : World} {b : Nat} {T : TypeId} {c : Array Value} (h : Blk W b T c) (k : W'.heap[b]? = W.heap[b]?) : Blk W' b T c := k.trans h
theorem Blk.eq {W : World} {b : Nat} {T : TypeId} {c c' : Array Value} (h : Blk W b T c) (e : c = c') : Blk W b T c' := e ▸ h
theorem Blk.grown {W W' : World} {b N : Nat} {T : TypeId} {c : Array Value} {row : Option Nat} (h : Blk W b T c) (hg : W.grownBy W' row) (hr : ∀ r, row = some r → N ≤ r) (hb : b < N) : Blk W' b T c :=
  (hg.block b h.lt (fun e => by have := hr b e.symm; omega)).trans h
/-- what the walk is given of a block -/
theorem Blk.all {W : World} {b : Nat} {T : TypeId} {c : Array Value} (h : Blk W b T c) : (∀ i, W.cell? ⟨b, i, none⟩ = c[i]?) ∧ (∀ i, W.frozen? ⟨b, i, none⟩ = false) ∧ b < W.heap.size := ⟨h.cell, h.frozen, h.lt⟩
end Go.Proofs.Ytcdnekhpeghkiaa

/-
  A range over a function that yields known values, one behind the other: what holds is told by how many have come. No way out of the loop but its end.
-/
namespace Go.Proofs.Ytcdnekhpeghkiaa
set_option linter.unusedVariables false
open Go.RowKit Go.Shelf

section
variable {P : Program} {F : Fence} {n : Nat}
/-- what speaks of what lies below B alone -/
def FreeFrom {β : Type} (B : Nat) (I : β → World → Prop) : Prop :=
  ∀ s W W' row, I s W → W.grownBy W' row → (∀ r, row = some r → B ≤ r) → I s W'
theorem FreeFrom.putObj {β : Type} {B : Nat} {I : β → World → Prop} (h : FreeFrom B I) {s : β} {W : World} {l : Nat} (o' : Obj) (hs : I s W) (hB : B ≤ l) : I s (W.putObj l o') :=
  h s W _ (some l) hs (grownBy_putObj' W l o') (fun r e => by cases e; exact hB)
theorem FreeFrom.alloc {β : Type} {B : Nat} {I : β → World → Prop} (h : FreeFrom B I) {s : β} {W : World} (o : Obj) (hs : I s W) : I s (W.alloc o) :=
  h s W _ none hs ⟨rfl, rfl, rfl, by simp, fun k hk _ => Below.heap_alloc W o k hk⟩ (fun r e => by cases e)
theorem grownBy_old {W W' : World} {row : Option Nat} (hg : W.grownBy W' row) {B k : Nat} {o : Obj} (hr : ∀ r, row = some r → B ≤ r) (hk : W.heap[k]? = some o) (hB : k < B) : W'.heap[k]? = some o :=
  (hg.block k (Array.getElem?_eq_some_iff.1 hk).1 (fun e => by have := hr k e.symm; omega)).trans hk
/-- the boxes of Bl, and all cells from B on, are kept -/
def KeepsTop (B : Nat) (Bl : List Nat) (W W' : World) : Prop := (∀ b ∈ Bl, W'.heap[b]? = W.heap[b]?) ∧ ∀ (k : Nat) (o : Obj), B ≤ k → W.heap[k]? = some o → o.isCells = true → W'.heap[k]? = some o
theorem KeepsTop.refl (B : Nat) (Bl : List Nat) (W : World) : KeepsTop B Bl W W := ⟨fun _ _ => rfl, fun _ _ _ h _ => h⟩
theorem KeepsTop.trans {B : Nat} {Bl : List Nat} {X Y Z : World} (h : KeepsTop B Bl X Y) (k : KeepsTop B Bl Y Z) : KeepsTop B Bl X Z :=
  ⟨fun b hb => (k.1 b hb).trans (h.1 b hb), fun i o h1 h2 h3 => k.2 i o h1 (h.2 i o h1 h2 h3) h3⟩
theorem KeepsTop.putObj {B : Nat} {Bl : List Nat} {W : World} {l : Nat} {o o' : Obj} (hb : ∀ b ∈ Bl, b < B) (hl : B ≤ l) (ho : W.heap[l]? = some o) (hc : o.isCells = false) : KeepsTop B Bl W (W.putObj l o') :=
  ⟨fun b h => World.putObj_heap_other (by have := hb b h; omega), fun k q h1 h2 h3 => by
    have hne : k ≠ l := fun e => by subst e; rw [ho] at h2; cases h2; rw [hc] at h3; cases h3
    exact (World.putObj_heap_other hne).trans h2⟩
theorem KeepsTop.setCell {B : Nat} {Bl : List Nat} {W : World} {p : Addr} (v : Value) (hb : ∀ b ∈ Bl, b ≠ p.block) (hp : p.block < B) : KeepsTop B Bl W (W.setCell p v) :=
  ⟨fun b h => Below.heap_setCell W p v b (hb b h), fun k q h1 h2 _ => (Below.heap_setCell W p v k (by omega)).trans h2⟩
theorem KeepsTop.grown {B : Nat} {Bl : List Nat} {W W' : World} (hg : W.grownBy W' none) (hb : ∀ b ∈ Bl, b < W.heap.size) : KeepsTop B Bl W W' :=
  ⟨fun b h => hg.block b (hb b h) (by simp), fun k q _ h2 _ => (hg.block k (Array.getElem?_eq_some_iff.1 h2).1 (by simp)).trans h2⟩
/-- an iterator that yields these values, one behind the other, whatever the loop's body does that lets the iterator's own go on -/
def SeqIdx {α : Type} (F : Fence) (n : Nat) (P : Program) (g : Nat) (lb : Array Value) (encs : α → Array Value) (Kp : World → World → Prop) (xs : List α) (w : World) : Prop :=
  ∀ (l : Nat) (J : Nat → World → Prop) (W : World), Below w.heap.size w W → FreeFrom W.heap.size J →
    (∀ k x W1, xs[k]? = some x → J k W1 → YieldAt F (n - 1) P l (encs x) W1 fun e W' => e = .returned (.bool true) ∧ J (k + 1) W' ∧ Kp W1 W') →
    J 0 W →
    CallsIn F n P g (#[.func (.yield l) #[] #[]] ++ lb) W fun e W' => (∃ v, e = .returned v) ∧ J xs.length W'

theorem wpIn_rangeFunc_idx {α : Type} {g : Operand} {ps : Array Tmp} {assign body : Code} {Q : Exit → Act → World → Prop} {a : Act} {w : World}
    (hro : F.round = none) (h1 : 1 ≤ n) {gf : Nat} {lb : Array Value} (hg : a.eval g = .func (.func gf) #[] lb) (hF : F.fn gf) (eg : ∀ args w, (callFunc gf args).run P w = .ok (.enter gf args) w)
    {encs : α → Array Value} {Kp : World → World → Prop} {xs : List α} {w0 : World} (hseq : SeqIdx F (n - 1) P gf lb encs Kp xs w0)
    (hKt : ∀ {A B C : World}, Kp A B → Kp B C → Kp A C) (hKb : ∀ (W : World) (l : Nat) (o o' : Obj), w.heap.size ≤ l → W.heap[l]? = some o → o.isCells = false → o.isWalk = false → Kp W (W.putObj l o'))
    (hb0 : Below w0.heap.size w0 w) (hps : ∀ x, (encs x).size = ps.size)
    (I : Nat → World → Prop) (hI : FreeFrom w.heap.size I) (h0 : I 0 w) (M : Nat → α → Act → World → Prop) (hM : ∀ pre x a', OwnFrom w.heap.size (fun (_ : Unit) W => M pre x a' W))
    (hassign : ∀ (l : Nat) (pre : Nat) (x : α) (W : World) (K : Act → World → Prop), xs[pre]? = some x → I pre W → (∀ a' W', KeepsFrom w.heap.size W W' → Kp W W' → M pre x a' W' → K a' W') →
      assign.wpIn (F.inRound l) (n - 1 - 1) P (Exit.then K (fun _ _ _ => False)) { tmps := (ps.zip (encs x)).foldl (fun t (p, v) => t.setIfInBounds p v) a.tmps, defers := [] } W)
    (hbody : ∀ (l : Nat) (pre : Nat) (x : α) (a' : Act) (W : World), xs[pre]? = some x → M pre x a' W →
      body.wpIn (F.inRound l) (n - 1 - 1) P (Exit.then (fun _ W' => KeepsFrom w.heap.size W W' ∧ Kp W W' ∧ I (pre + 1) W') (fun _ _ _ => False)) a' W)
    (hdone : ∀ (D : Nat) (W : World), w.heap.size ≤ D → I xs.length W → W.heap[D]? = some (.deferred (some [])) → Q .normal { a with defers := { target := .collected D, args := #[] } :: a.defers } W) :
    (Code.rangeFunc g ps assign body).wpIn F n P Q a w := by
  refine wpIn_rangeFunc ?_
  intro fn hfn
  rw [hro]
  have nd : (w.alloc (.deferred (some []))).heap.size = w.heap.size + 1 := World.size_alloc _ _
  obtain ⟨R, hR⟩ : ∃ R : LoopState → Option Code → Obj, R = recAt fn a.tmps ps assign body w.heap.size := ⟨_, rfl⟩
  have Rcells : ∀ st pe, (R st pe).isCells = false := fun _ _ => by rw [hR]; rfl
  have Rwalk : ∀ st pe, (R st pe).isWalk = false := fun _ _ => by rw [hR]; rfl
  obtain ⟨V, hV⟩ : ∃ V, (w.alloc (.deferred (some []))).alloc (R .ready none) = V := ⟨_, rfl⟩
  have vs : V.heap.size = w.heap.size + 1 + 1 := by rw [← hV]; simp
  have vl : V.heap[w.heap.size + 1]? = some (R .ready none) := by
    have := World.alloc_heap_new (w.alloc (.deferred (some []))) (R .ready none)
    rwa [nd, hV] at this
  have vd : V.heap[w.heap.size]? = some (.deferred (some [])) := by
    rw [← hV]; exact (Below.heap_alloc _ _ _ (by rw [nd]; omega)).trans (World.alloc_heap_new w _)
  have vI : I 0 V := by rw [← hV]; exact hI.alloc _ (hI.alloc _ h0)
  have vb : Below w0.heap.size w0 V := by
    have : Below w.heap.size w V := by rw [← hV]; exact ((Below.refl _ w).alloc (Nat.le_refl _) _).alloc (by rw [nd]; omega) _
    exact hb0.trans (this.mono hb0.size)
  refine ⟨w.heap.size + 1, [{ target := .collected w.heap.size, args := #[] }], V, { target := .fn (.func gf) lb, args := #[.func (.yield (w.heap.size + 1)) #[] #[]] }, V, gf,
    #[.func (.yield (w.heap.size + 1)) #[] #[]] ++ lb, V, ?_, ?_, ?_, ?_, fun _ => h1, ?_⟩
  · rw [← hV, hR]; exact run_enterLoop_outer _ _ _ _ _
  · simp only [resolve, hg]
    simp [go_sem]
  · intro f' hf'
    simp [Target.leads] at hf'
    subst hf'
    exact hF
  · simp [invoke, go_sem, eg]
  · refine (hseq (w.heap.size + 1)
      (fun pre W => I pre W ∧ W.heap[w.heap.size + 1]? = some (R .ready none) ∧ W.heap[w.heap.size]? = some (.deferred (some []))) V vb
      (fun s A B row hs hk hr => ⟨hI s A B row hs.1 hk (fun r e => by have := hr r e; omega), grownBy_old hk hr hs.2.1 (by omega), grownBy_old hk hr hs.2.2 (by omega)⟩)
      ?_ ⟨vI, vl, vd⟩).mono ?_
    · rintro pre x W hx ⟨hi, hl, hk⟩
      have hl0 := hl
      rw [hR] at hl0
      have hy := run_yield (P := P) (args := encs x) hl0 (hps x)
      refine ⟨fn, _, assign, body, hy, roundIn_of_wpIn hfn (hassign _ pre x W _ hx hi ?_)⟩
      intro a' X kx bx mx
      have xl := kx.same _ _ (by omega) hl (Rcells _ _)
      have xd := kx.same _ _ (Nat.le_refl _) hk rfl
      have xlt : w.heap.size + 1 < X.heap.size := (Array.getElem?_eq_some_iff.1 xl).1
      have xl0 := xl
      rw [hR] at xl0
      refine ⟨_, run_beginRound xl0 rfl, ?_⟩
      obtain ⟨Y, hY⟩ : ∃ Y, X.putObj (w.heap.size + 1) (R .busy none) = Y := ⟨_, rfl⟩
      have yl : Y.heap[w.heap.size + 1]? = some (R .busy none) := by rw [← hY]; exact World.putObj_heap_same xlt
      have yd : Y.heap[w.heap.size]? = some (.deferred (some [])) := by rw [← hY]; exact (World.putObj_heap_other (by omega)).trans xd
      have yb : Kp X Y := by rw [← hY]; exact hKb X _ _ _ (by omega) xl (Rcells _ _) (Rwalk _ _)
      have ym : M pre x a' Y := by rw [← hY]; exact (hM pre x a').putObj (s := ()) _ mx (by omega) xl (Rcells _ _)
      have hY' : X.putObj (w.heap.size + 1) (.loop { state := .busy, pending := none, fn, tmps := a.tmps, params := ps, assign, body, defers := w.heap.size }) = Y := by rw [← hY, hR]; rfl
      refine wpIn_mono (by rw [hY']; exact hbody _ pre x a' Y hx ym) ?_
      rintro e a3 Z hz
      cases e with
      | normal =>
        obtain ⟨kz, bz, iz⟩ := hz
        have zl := kz.same _ _ (by omega) yl (Rcells _ _)
        have zd := kz.same _ _ (Nat.le_refl _) yd rfl
        have zlt := (Array.getElem?_eq_some_iff.1 zl).1
        have zl0 := zl
        rw [hR] at zl0
        refine ⟨_, _, run_endRound (P := P) none zl0, ⟨rfl, ⟨hI.putObj _ iz (by omega), ?_, (World.putObj_heap_other (by omega)).trans zd⟩, hKt bx (hKt (hKt yb bz) (hKb Z _ _ _ (by omega) zl (Rcells _ _) (Rwalk _ _)))⟩⟩
        rw [World.putObj_heap_same zlt, hR]
        rfl
      | ret => exact hz.elim
      | exit id => exact hz.elim
      | goto t => exact hz.elim
      | panic ch => exact hz.elim
      | outgrown => exact hz.elim
    · rintro e Z ⟨⟨v, rfl⟩, iz, zl, zd⟩
      have zl0 := zl
      rw [hR] at zl0
      exact ⟨none, _, run_endLoop (P := P) zl0 (by simp), hdone _ _ (Nat.le_refl _) (hI.putObj _ iz (by omega)) ((World.putObj_heap_other (by omega)).trans zd)⟩
/-- where the row that turned holds no cells -/
theorem Blk.kept {W W' : World} {b : Nat} {T : TypeId} {c : Array Value} {row : Option Nat} (h : Blk W b T c) (hg : W.grownBy W' row) (hr : ∀ r, row = some r → ∃ o : Obj, W.heap[r]? = some o ∧ o.isCells = false) : Blk W' b T c :=
  (hg.block b h.lt (fun e => by
    obtain ⟨o, ho, hc⟩ := hr b e.symm
    unfold Blk at h
    rw [h] at ho
    cases ho
    cases hc)).trans h
end
end Go.Proofs.Ytcdnekhpeghkiaa

/-
  A region that draws its order, in a loop's body that an iterator calls: reads, reckonings and calls that keep what lay before, and a tail whose order is forced.
-/
namespace Go.Proofs.Ytcdnekhpeghkiaa
set_option linter.unusedVariables false
open Go.RowKit

section
variable {P : Program} {ops : Array Oper} {md : Region.Mode} {C : World → Prop} {r n : Nat}
def noDefer (l : List Oper) : Bool := l.all fun o => match o.op with | .defer _ => false | _ => true
theorem noDefer_at {l : List Oper} (h : noDefer l = true) {i : Nat} {o : Oper} (ho : l.toArray[i]? = some o) : ∀ c, o.op ≠ .defer c := by
  intro c e
  have hm : o ∈ l := List.mem_of_getElem? (by simpa using ho)
  have := List.all_eq_true.1 h o hm
  rw [e] at this
  cases this
theorem callsInRound {f : FuncId} {args : Array Value} {w : World} {R : Ending → World → Prop} {k : Nat} (h : Calls P f args w R) : CallsIn (Fence.wide.inRound r) k P f args w R :=
  (callsIn_wide (n := k)).2 h
theorem wpInRound_of_quiet {o : Oper} {a : Act} {K : Act → Prop} {K' : Act → World → Prop} {Q' : Exit → Act → World → Prop} {w : World} (hd : ∀ c, o.op ≠ .defer c) (hw : C w) (h : ∀ a w', C w' → K a → K' a w')
    (hh : o.quiet P a C K) : o.wpIn (Fence.wide.inRound r) n P a w K' Q' := by
  obtain ⟨v, h1, h2⟩ := hh
  have h3 := h1 w hw
  unfold Oper.quietAt at h3
  unfold Oper.wpIn
  refine ⟨fun _ _ => trivial, ?_⟩
  rw [Fence.inRound_round, Oper.semAt_some _ _ _ hd]
  generalize (execOp a.eval o).run P w = q at *
  cases q with
  | ok x w' =>
    cases x <;> simp only [Oper.quietUpon] at h3 <;> simp only [Oper.uponIn]
    case value u =>
      obtain ⟨e1, e2⟩ := h3
      rw [e1, e2]
      exact h _ _ hw h2
    case skip =>
      obtain ⟨e1, e2⟩ := h3
      rw [e1, ← e2]
      exact h _ _ hw h2
    case enter f args =>
      obtain ⟨e1, hc⟩ := h3
      rw [e1]
      exact ⟨fun hd => by simp [Fence.wide] at hd, callsInRound (hc.mono fun e w'' ⟨he, hw''⟩ => by subst he; exact h _ _ hw'' h2)⟩
  | halt x w' => simp only [Oper.quietUpon] at h3
theorem wpOpInRound_of_qOp {i : Nat} {a : Act} {K : Act → Prop} {K' : Act → World → Prop} {Q' : Exit → Act → World → Prop} {w : World} (hd : ∀ o, ops[i]? = some o → ∀ c, o.op ≠ .defer c) (hC : C w) (h : ∀ a w', C w' → K a → K' a w')
    (hh : qOp P ops C i K a) : wpOpIn (Fence.wide.inRound r) n P ops Q' i K' a w := by
  unfold qOp at hh
  unfold wpOpIn
  split
  · rename_i ho; simp only [ho] at hh; exact h _ _ hC hh
  · rename_i o ho
    simp only [ho] at hh
    split
    · rename_i hw; simp only [hw, if_true] at hh; exact wpInRound_of_quiet (hd o ho) hC h hh
    · rename_i hw; simp only [hw] at hh; exact ⟨fun _ _ => trivial, h _ _ hC hh⟩
theorem wpAnyIn_of_headM {h g : Nat} {L : Array Bool → Act → Prop} {Q' : Exit → Act → World → Prop} (hd : ∀ (i : Nat) (o : Oper), ops[i]? = some o → ∀ c, o.op ≠ .defer c) (hL : ∀ listed a w, C w → L listed a → wpAnyIn (Fence.wide.inRound r) n P md ops Q' g listed a w) :
    ∀ (f : Nat) (listed : Array Bool) (a : Act) (w : World), C w → wpAnyM P md ops C h L f listed a → wpAnyIn (Fence.wide.inRound r) n P md ops Q' (f + g) listed a w
  | 0, listed, a, w, hw, hh => by rw [Nat.zero_add]; exact hL _ _ _ hw hh
  | f + 1, listed, a, w, hw, hh => by
    rw [show f + 1 + g = (f + g) + 1 by omega]
    exact ⟨fun h0 => absurd h0 hh.1, fun i hi => wpOpInRound_of_qOp (hd i) hw (fun a' w' hw' h' => wpAnyIn_of_headM hd hL f _ a' w' hw' h') (hh.2 i hi).2⟩
theorem wpAnyIn_of_seq {F : Fence} {Q' : Exit → Act → World → Prop} : ∀ (l : List Oper) (k : Nat) (listed : Array Bool) (a : Act) (w : World), (∀ j, l[j]? = ops[k + j]?) →
    Region.seqB md ops l.length k listed = true → wpListIn F n P ops Q' l a w → wpAnyIn F n P md ops Q' l.length listed a w
  | [], _, _, _, _, _, hB, h => ⟨by simpa [Region.seqB] using hB, h⟩
  | o :: l, k, listed, a, w, hl, hB, h => by
    have h0 : ops[k]? = some o := by simpa using (hl 0).symm
    simp only [List.length_cons, Region.seqB, Bool.and_eq_true, decide_eq_true_eq] at hB
    obtain ⟨hr, hB'⟩ := hB
    refine ⟨fun h1 => (by rw [hr] at h1; cases h1), fun i hi => ?_⟩
    rw [hr] at hi
    obtain rfl : i = k := by simpa using hi
    have next : ∀ a' w', wpListIn F n P ops Q' l a' w' → wpAnyIn F n P md ops Q' l.length (listed.setIfInBounds i true) a' w' := fun a' w' h' =>
      wpAnyIn_of_seq l (i + 1) _ a' w' (fun j => by have := hl (j + 1); simpa [Nat.add_assoc, Nat.add_comm 1 j] using this) hB' h'
    unfold wpOpIn
    simp only [h0]
    unfold wpListIn at h
    split
    · rw [if_pos ‹_›] at h; exact Oper.wpIn_mono next h
    · rw [if_neg ‹_›] at h; exact ⟨h.1, next _ _ h.2⟩

theorem wpIn_region_later_tail {w : World} {id : Nat} {Q : Exit → Act → World → Prop} {a : Act} {l : List Oper} (h : Nat) (hm : P.follows .mixedOrders = true) (hB : Region.lexTailB .any l.toArray h = true) (hnd : noDefer l = true)
    (hh : wpQuiet P l.toArray (fun w' => ∃ x : Later w, w' = x.out) (fun a' => ∀ x : Later w, wpListIn (Fence.wide.inRound r) n P l.toArray Q (l.drop h) a' x.out) (l.take h) a) : (Code.region id l.toArray true).wpIn (Fence.wide.inRound r) n P Q a w := by
  simp only [Region.lexTailB, Bool.and_eq_true, decide_eq_true_eq] at hB
  obtain ⟨⟨⟨⟨hsel, hn⟩, hs⟩, hc⟩, hlex⟩ := hB
  have hn' : h < l.length := by simpa using hn
  have htl : (l.take h).length = h := by simp; omega
  have hdl : (l.drop h).length = l.toArray.size - h := by simp
  have inv0 : HeadInv .any l.toArray h (Array.replicate l.toArray.size false) :=
    ⟨by simp, fun j oj _ hl => (by rw [getD_replicate_false] at hl; cases hl), fun t _ ht => getD_in (by simpa using ht) (getD_replicate_false _ _)⟩
  have H := wpAnyM_lex (md := .any) (g := l.toArray.size - h) hsel hs hc hn (l.take h) 0 _ a (fun j hj => by
    have hj' : j < h := by rw [htl] at hj; exact hj
    simp [hj']) (by simpa using htl) inv0 (by rw [htl]; exact hlex) hh
  refine wpIn_region_any hm ?_
  have hC : ∃ x : Later w, w.drew = x.out := ⟨⟨w.drew, (Below.refl _ _).drew⟩, rfl⟩
  have := wpAnyIn_of_headM (r := r) (n := n) (Q' := Q) (g := l.toArray.size - h) (C := fun w' => ∃ x : Later w, w' = x.out) (fun i o ho => noDefer_at hnd ho) (fun listed a' w' hw' hL => by
    obtain ⟨x, rfl⟩ := hw'
    have := wpAnyIn_of_seq (F := Fence.wide.inRound r) (n := n) (md := .any) (Q' := Q) (l.drop h) h listed a' x.out (fun j => by simp [List.getElem?_drop]) (by rw [hdl]; exact hL.1) (hL.2 x)
    rwa [hdl] at this) _ _ _ w.drew hC H
  rw [htl, show h + (l.toArray.size - h) = l.toArray.size by omega] at this
  exact this
theorem wpIn_region_later {w : World} {id : Nat} {Q : Exit → Act → World → Prop} {a : Act} {l : List Oper} (hm : P.follows .mixedOrders = true) (hB : Region.lexB .any l.toArray = true) (hnd : noDefer l = true)
    (hh : wpQuiet P l.toArray (fun w' => ∃ x : Later w, w' = x.out) (fun a' => ∀ x : Later w, Q .normal a' x.out) l a) : (Code.region id l.toArray true).wpIn (Fence.wide.inRound r) n P Q a w := by
  simp only [Region.lexB, Bool.and_eq_true] at hB
  refine wpIn_region_any hm ?_
  have hC : ∃ x : Later w, w.drew = x.out := ⟨⟨w.drew, (Below.refl _ _).drew⟩, rfl⟩
  have go : ∀ (fuel : Nat) (listed : Array Bool) (a : Act) (v : World), (∃ x : Later w, v = x.out) → wpAnyQ P .any l.toArray (fun w' => ∃ x : Later w, w' = x.out) (fun a' => ∀ x : Later w, Q .normal a' x.out) fuel listed a →
      wpAnyIn (Fence.wide.inRound r) n P .any l.toArray Q fuel listed a v := by
    intro fuel
    induction fuel with
    | zero => rintro listed a v ⟨x, rfl⟩ h; exact ⟨h.1, h.2 x⟩
    | succ f ih =>
      rintro listed a v ⟨x, rfl⟩ h
      exact ⟨fun h0 => h.1 h0 x, fun i hi => wpOpInRound_of_qOp (fun o ho => noDefer_at hnd ho) ⟨x, rfl⟩ (fun a' w' hw' h' => ih _ a' w' hw' h') (h.2 i hi)⟩
  have := wpAnyQ_lex (C := fun w' => ∃ x : Later w, w' = x.out) (md := .any) hB.1 l 0 (Array.replicate l.toArray.size false) a (by simp) (by simpa using hB.2) hh
  exact go _ _ a w.drew hC (by simpa using this)
end
end Go.Proofs.Ytcdnekhpeghkiaa

/-
  A region that draws its order, and whose operations are told in two lists of places: those that read, reckon, and call functions that keep what lay before, in one order that is allowed; and those behind them all, in a forced order.
-/
namespace Go.Proofs.Ytcdnekhpeghkiaa
set_option linter.unusedVariables false
open Go.RowKit

def wideAt (ro : Option Nat) : Fence := { Fence.wide with round := ro }
section
variable {P : Program} {ops : Array Oper} {C : World → Prop} {ro : Option Nat} {n : Nat}

/-- the operations at these places -/
def pick (l : List Oper) : List Nat → List Oper
  | [] => []
  | i :: r => match l[i]? with
    | some o => o :: pick l r
    | none => pick l r

def listedBy (m : Nat) (hs : List Nat) : Array Bool := hs.foldl (fun b i => b.setIfInBounds i true) (Array.replicate m false)
/-- places hs may come in this order, each one free of what is behind it -/
def headB (ops : Array Oper) : List Nat → Array Bool → Bool
  | [], _ => true
  | i :: r, b => decide (i < ops.size) && (Region.ready .any ops b).contains i && Region.free .any ops b i && headB ops r (b.setIfInBounds i true)
/-- places ts come in this order, and then none -/
def tailB (ops : Array Oper) : List Nat → Array Bool → Bool
  | [], b => (Region.ready .any ops b).isEmpty
  | t :: r, b => decide (Region.ready .any ops b = [t]) && tailB ops r (b.setIfInBounds t true)
/-- each of hs is waited for by a later one of hs, or by t0 -/
def sinkL (ops : Array Oper) (t0 : Nat) : List Nat → Bool
  | [] => true
  | i :: r => (Region.waitsFor .any ops t0 i || r.any fun j => Region.waitsFor .any ops j i) && sinkL ops t0 r
/-- a later one of the tail waits for the one ahead of it -/
def chainL (ops : Array Oper) : List Nat → Bool
  | t :: u :: r => Region.waitsFor .any ops u t && chainL ops (u :: r)
  | _ => true
def pickB (ops : Array Oper) (hs ts : List Nat) : Bool :=
  match ts with
  | [] => false
  | t0 :: r => Region.noSelect ops && headB ops hs (Array.replicate ops.size false) && tailB ops (t0 :: r) (listedBy ops.size hs) && sinkL ops t0 hs && chainL ops (t0 :: r) &&
    (List.range ops.size).all (fun i => hs.contains i || (t0 :: r).contains i) && (t0 :: r).all (fun t => !hs.contains t)

/-- while places of hs are open -/
structure Open (ops : Array Oper) (ts : List Nat) (listed : Array Bool) : Prop where
  size : listed.size = ops.size
  closed : ∀ j oj, ops[j]? = some oj → listed.getD j false = true → ∀ e ∈ oj.after, Region.binds .any e = true → listed.getD e.on false = true
  tail : ∀ t ∈ ts, listed.getD t false = false

theorem getD_false_in {b : Array Bool} {i : Nat} (h : b.getD i true = false) : b.getD i false = false := getD_both h

theorem Open.set {ts : List Nat} {i : Nat} {listed : Array Bool} (inv : Open ops ts listed) (hi : i ∈ Region.ready .any ops listed) (hin : i ∉ ts) : Open ops ts (listed.setIfInBounds i true) := by
  obtain ⟨_, oi, hoi, hall⟩ := mem_ready.1 hi
  refine ⟨by simp [inv.size], fun j oj hj hl e he hb => ?_, fun t ht => by rw [getD_set_ne false (fun h : i = t => hin (by rw [h]; exact ht))]; exact inv.tail t ht⟩
  by_cases hij : i = j
  · subst hij
    have : oj = oi := Option.some.inj (hj.symm.trans hoi)
    subst this
    exact getD_set_true (hall e he hb)
  · rw [getD_set_ne false hij] at hl
    exact getD_set_true (inv.closed j oj hj hl e he hb)

theorem sink_all {t0 : Nat} {listed : Array Bool} (hc : ∀ j oj, ops[j]? = some oj → listed.getD j false = true → ∀ e ∈ oj.after, Region.binds .any e = true → listed.getD e.on false = true)
    (ht : ∀ i, Region.waitsFor .any ops t0 i = true → listed.getD i false = true) : ∀ hs : List Nat, sinkL ops t0 hs = true → ∀ i ∈ hs, listed.getD i false = true
  | [], _, i, hi => by cases hi
  | k :: r, h, i, hi => by
    simp only [sinkL, Bool.and_eq_true, Bool.or_eq_true, List.any_eq_true] at h
    have rest := sink_all hc ht r h.2
    rcases List.mem_cons.1 hi with rfl | hi
    · rcases h.1 with h1 | ⟨j, hj, h1⟩
      · exact ht _ h1
      · obtain ⟨oj, hoj, e, he, hb, rfl⟩ := Region.waitsFor_spec h1
        exact hc j oj hoj (rest j hj) e he hb
    · exact rest i hi
theorem chain_wait : ∀ (q : List Nat) (p : Nat), chainL ops (p :: q) = true → ∀ t ∈ q, ∃ u, u ∈ p :: q ∧ Region.waitsFor .any ops t u = true
  | [], p, _, t, ht => by cases ht
  | u :: q, p, h, t, ht => by
    simp only [chainL, Bool.and_eq_true] at h
    rcases List.mem_cons.1 ht with rfl | ht
    · exact ⟨p, by simp, h.1⟩
    · obtain ⟨v, hv, h2⟩ := chain_wait q u h.2 t ht
      exact ⟨v, List.mem_cons_of_mem _ hv, h2⟩
/-- while one of hs is open none of the tail may come -/
theorem pick_waits {hs : List Nat} {t0 : Nat} {r : List Nat} (hsk : sinkL ops t0 hs = true) (hch : chainL ops (t0 :: r) = true) {listed : Array Bool} (inv : Open ops (t0 :: r) listed) {i : Nat} (hi : i ∈ hs) (hun : listed.getD i false = false) :
    ∀ t ∈ t0 :: r, t ∉ Region.ready .any ops listed := by
  intro t ht hr
  obtain ⟨_, ot, hot, hall⟩ := mem_ready.1 hr
  have dep : ∀ i, Region.waitsFor .any ops t i = true → listed.getD i false = true := fun i h => by
    obtain ⟨o', ho', e, he, hb, rfl⟩ := Region.waitsFor_spec h
    obtain rfl : o' = ot := Option.some.inj (ho'.symm.trans hot)
    exact hall e he hb
  rcases List.mem_cons.1 ht with rfl | ht'
  · have := sink_all inv.closed dep hs hsk i hi
    rw [hun] at this; cases this
  · obtain ⟨u, hu, h2⟩ := chain_wait r t0 hch t ht'
    have := dep u h2
    rw [inv.tail u hu] at this; cases this

def wpAnyH (P : Program) (ops : Array Oper) (C : World → Prop) (hs : List Nat) (L : Array Bool → Act → Prop) : Nat → Array Bool → Act → Prop
  | 0, listed, a => L listed a
  | f + 1, listed, a =>
    Region.ready .any ops listed ≠ [] ∧ ∀ i ∈ Region.ready .any ops listed, i ∈ hs ∧ qOp P ops C i (wpAnyH P ops C hs L f (listed.setIfInBounds i true)) a

theorem wpAnyH_first {hs : List Nat} {t0 : Nat} {r : List Nat} {i : Nat} {oi : Oper} {v : Value} {L : Array Bool → Act → Prop} (hi : ops[i]? = some oi) (hsel : ∀ (j : Nat) (o : Oper) cs b, ops[j]? = some o → o.op ≠ .select cs b)
    (hsk : sinkL ops t0 hs = true) (hch : chainL ops (t0 :: r) = true) (hcov : ∀ j, j < ops.size → j ∈ hs ∨ j ∈ t0 :: r) (hdis : ∀ t ∈ t0 :: r, t ∉ hs) (hin : i ∈ hs)
    (hdone : ∀ listed a, L listed a → ∀ j ∈ Region.ready .any ops listed, j ∉ hs) :
    ∀ (f : Nat) (listed : Array Bool) (a : Act), Open ops (t0 :: r) listed →
      (∀ j oj, ops[j]? = some oj → j ≠ i → listed.getD j true = false → (∀ e ∈ oj.after, Region.binds .any e = true → e.on ≠ i) → oi.apart ops oj = true) →
      i ∈ Region.ready .any ops listed → YieldsIn P ops C oi v a →
      wpAnyH P ops C hs L f (listed.setIfInBounds i true) (a.put oi.dst v) → wpAnyH P ops C hs L (f + 1) listed a := by
  have inH : ∀ {listed : Array Bool}, Open ops (t0 :: r) listed → i ∈ Region.ready .any ops listed → ∀ j ∈ Region.ready .any ops listed, j ∈ hs := fun {listed} inv hr j hj => by
    obtain ⟨_, oj, hoj, _⟩ := mem_ready.1 hj
    rcases hcov j (Array.getElem?_eq_some_iff.1 hoj).1 with h | h
    · exact h
    · exact absurd hj (pick_waits hsk hch inv hin (getD_both (mem_ready.1 hr).1) j h)
  intro f
  induction f with
  | zero =>
    intro listed a inv _ hr hy H
    refine ⟨fun h => (by rw [h] at hr; cases hr), fun j hj => ⟨inH inv hr j hj, ?_⟩⟩
    by_cases hji : j = i
    · subst hji; exact hy.qOp hi H
    · exact absurd (inH inv hr j hj) (hdone _ _ H j (ready_mono hj hji))
  | succ f ih =>
    intro listed a inv hfree hr hy H
    have hun := (mem_ready.1 hr).1
    refine ⟨fun h => (by rw [h] at hr; cases hr), fun j hj => ⟨inH inv hr j hj, ?_⟩⟩
    by_cases hji : j = i
    · subst hji; exact hy.qOp hi H
    · have h1 := (H.2 j (ready_mono hj hji)).2
      obtain ⟨hjun, oj, hoj, hall⟩ := mem_ready.1 hj
      have hnot : ∀ e ∈ oj.after, Region.binds .any e = true → e.on ≠ i := fun e he hb heq => by
        have h1 := hall e he hb
        rw [heq, getD_both hun] at h1
        cases h1
      have h2 := qOp_put hoj (hfree j oj hoj hji hjun hnot) (fun cs b => hsel i oi cs b hi) (fun cs b => hsel j oj cs b hoj) hy h1
      have hfree' : ∀ k ok, ops[k]? = some ok → k ≠ i → (listed.setIfInBounds j true).getD k true = false →
          (∀ e ∈ ok.after, Region.binds .any e = true → e.on ≠ i) → oi.apart ops ok = true := fun k ok hk hki hun hno => by
        refine hfree k ok hk hki ?_ hno
        by_cases hjk : j = k
        · subst hjk; exact hjun
        · rw [getD_set_ne true hjk] at hun; exact hun
      refine qOp_mono (fun a' h3 => ih (listed.setIfInBounds j true) a' (inv.set hj (fun h => hdis j h (inH inv hr j hj))) hfree' (ready_mono hr (Ne.symm hji)) h3.1 ?_) h2
      rw [Array.setIfInBounds_comm _ _ hji]
      exact h3.2

theorem wpAnyH_lex {l : List Oper} (hops : ops = l.toArray) {hs0 : List Nat} {t0 : Nat} {r : List Nat} {Lq : Act → Prop} (hsel : Region.noSelect ops = true)
    (hsk : sinkL ops t0 hs0 = true) (hch : chainL ops (t0 :: r) = true) (hcov : ∀ j, j < ops.size → j ∈ hs0 ∨ j ∈ t0 :: r) (hdis : ∀ t ∈ t0 :: r, t ∉ hs0) :
    ∀ (hs : List Nat) (listed : Array Bool) (a : Act), (∀ i ∈ hs, i ∈ hs0) → Open ops (t0 :: r) listed → headB ops hs listed = true → tailB ops (t0 :: r) (hs.foldl (fun b i => b.setIfInBounds i true) listed) = true →
    wpQuiet P ops C Lq (pick l hs) a →
    wpAnyH P ops C hs0 (fun listed' a' => tailB ops (t0 :: r) listed' = true ∧ Open ops (t0 :: r) listed' ∧ Lq a') hs.length listed a
  | [], listed, a, _, inv, _, hT, h => ⟨hT, inv, h⟩
  | i :: hs, listed, a, hin, inv, hB, hT, h => by
    simp only [headB, Bool.and_eq_true, decide_eq_true_eq] at hB
    obtain ⟨⟨⟨hlt, hr⟩, hf⟩, hB'⟩ := hB
    have hr' : i ∈ Region.ready .any ops listed := by simpa using hr
    have h0 : ops[i]? = some ops[i] := Array.getElem?_eq_getElem hlt
    have hl0 : l[i]? = some ops[i] := by rw [← h0, hops]; simp
    unfold pick at h
    rw [hl0] at h
    have hst : qOp P ops C i (wpQuiet P ops C Lq (pick l hs)) a := by unfold qOp; simp only [h0]; exact h
    obtain ⟨v, hy, hK⟩ := yieldsIn_of_qOp h0 hst
    refine wpAnyH_first h0 (Region.noSelect_spec hsel) hsk hch hcov hdis (hin i (by simp)) (fun listed' a' hL j hj hjh => ?_) hs.length listed a inv (Region.free_spec h0 hf) hr' hy
      (wpAnyH_lex hops hsel hsk hch hcov hdis hs _ _ (fun k hk => hin k (List.mem_cons_of_mem _ hk)) (inv.set hr' (fun h => hdis i h (hin i (by simp)))) hB' (by simpa using hT) hK)
    have h1 := hL.1
    simp only [tailB, Bool.and_eq_true, decide_eq_true_eq] at h1
    rw [h1.1] at hj
    obtain rfl : j = t0 := by simpa using hj
    exact hdis j (by simp) hjh

/-! ### in a fence that lets everything in, in a round or not -/
theorem wpWide_of_quiet {o : Oper} {a : Act} {K : Act → Prop} {K' : Act → World → Prop} {Q' : Exit → Act → World → Prop} {w : World} (hd : ∀ c, o.op ≠ .defer c) (hw : C w) (h : ∀ a w', C w' → K a → K' a w')
    (hh : o.quiet P a C K) : o.wpIn (wideAt ro) n P a w K' Q' := by
  obtain ⟨v, h1, h2⟩ := hh
  have h3 := h1 w hw
  unfold Oper.quietAt at h3
  unfold Oper.wpIn
  refine ⟨fun _ _ => trivial, ?_⟩
  rw [show (wideAt ro).round = ro from rfl, Oper.semAt_eq _ _ _ hd]
  generalize (execOp a.eval o).run P w = q at *
  cases q with
  | ok x w' =>
    cases x <;> simp only [Oper.quietUpon] at h3 <;> simp only [Oper.uponIn]
    case value u =>
      obtain ⟨e1, e2⟩ := h3
      rw [e1, e2]
      exact h _ _ hw h2
    case skip =>
      obtain ⟨e1, e2⟩ := h3
      rw [e1, ← e2]
      exact h _ _ hw h2
    case enter f args =>
      obtain ⟨e1, hc⟩ := h3
      rw [e1]
      exact ⟨fun hd => by simp [wideAt, Fence.wide] at hd, (callsIn_wide (n := n - 1)).2 (hc.mono fun e w'' ⟨he, hw''⟩ => by subst he; exact h _ _ hw'' h2)⟩
  | halt x w' => simp only [Oper.quietUpon] at h3
theorem wpOpWide_of_qOp {i : Nat} {a : Act} {K : Act → Prop} {K' : Act → World → Prop} {Q' : Exit → Act → World → Prop} {w : World} (hd : ∀ o, ops[i]? = some o → ∀ c, o.op ≠ .defer c) (hC : C w) (h : ∀ a w', C w' → K a → K' a w')
    (hh : qOp P ops C i K a) : wpOpIn (wideAt ro) n P ops Q' i K' a w := by
  unfold qOp at hh
  unfold wpOpIn
  split
  · rename_i ho; simp only [ho] at hh; exact h _ _ hC hh
  · rename_i o ho
    simp only [ho] at hh
    split
    · rename_i hw; simp only [hw, if_true] at hh; exact wpWide_of_quiet (hd o ho) hC h hh
    · rename_i hw; simp only [hw] at hh; exact ⟨fun _ _ => trivial, h _ _ hC hh⟩
theorem wpAnyWide_of_headH {hs : List Nat} {g : Nat} {L : Array Bool → Act → Prop} {Q' : Exit → Act → World → Prop} (hd : ∀ (i : Nat) (o : Oper), ops[i]? = some o → ∀ c, o.op ≠ .defer c) (hL : ∀ listed a w, C w → L listed a → wpAnyIn (wideAt ro) n P .any ops Q' g listed a w) :
    ∀ (f : Nat) (listed : Array Bool) (a : Act) (w : World), C w → wpAnyH P ops C hs L f listed a → wpAnyIn (wideAt ro) n P .any ops Q' (f + g) listed a w
  | 0, listed, a, w, hw, hh => by rw [Nat.zero_add]; exact hL _ _ _ hw hh
  | f + 1, listed, a, w, hw, hh => by
    rw [show f + 1 + g = (f + g) + 1 by omega]
    exact ⟨fun h0 => absurd h0 hh.1, fun i hi => wpOpWide_of_qOp (hd i) hw (fun a' w' hw' h' => wpAnyWide_of_headH hd hL f _ a' w' hw' h') (hh.2 i hi).2⟩
theorem wpAnyIn_of_tail {F : Fence} {l : List Oper} (hops : ops = l.toArray) {Q' : Exit → Act → World → Prop} : ∀ (ts : List Nat) (listed : Array Bool) (a : Act) (w : World), (∀ t ∈ ts, t < ops.size) →
    tailB ops ts listed = true → wpListIn F n P ops Q' (pick l ts) a w → wpAnyIn F n P .any ops Q' ts.length listed a w
  | [], listed, a, w, _, hB, h => ⟨by simpa [tailB] using hB, h⟩
  | t :: ts, listed, a, w, hlt, hB, h => by
    simp only [tailB, Bool.and_eq_true, decide_eq_true_eq] at hB
    obtain ⟨hr, hB'⟩ := hB
    have hl := hlt t (by simp)
    have h0 : ops[t]? = some ops[t] := Array.getElem?_eq_getElem hl
    have hl0 : l[t]? = some ops[t] := by rw [← h0, hops]; simp
    unfold pick at h
    rw [hl0] at h
    refine ⟨fun h1 => (by rw [hr] at h1; cases h1), fun i hi => ?_⟩
    rw [hr] at hi
    obtain rfl : i = t := by simpa using hi
    have next : ∀ a' w', wpListIn F n P ops Q' (pick l ts) a' w' → wpAnyIn F n P .any ops Q' ts.length (listed.setIfInBounds i true) a' w' := fun a' w' h' =>
      wpAnyIn_of_tail hops ts _ a' w' (fun j hj => hlt j (List.mem_cons_of_mem _ hj)) hB' h'
    unfold wpOpIn
    simp only [h0]
    unfold wpListIn at h
    split
    · rw [if_pos ‹_›] at h; exact Oper.wpIn_mono next h
    · rw [if_neg ‹_›] at h; exact ⟨h.1, next _ _ h.2⟩

theorem wpWide_region_pick {w : World} {id : Nat} {Q : Exit → Act → World → Prop} {a : Act} {l : List Oper} (hs ts : List Nat) (hm : P.follows .mixedOrders = true) (hB : pickB l.toArray hs ts = true) (hsz : (hs ++ ts).length = l.length) (hnd : noDefer l = true)
    (hh : wpQuiet P l.toArray (fun w' => ∃ x : Later w, w' = x.out) (fun a' => ∀ x : Later w, wpListIn (wideAt ro) n P l.toArray Q (pick l ts) a' x.out) (pick l hs) a) : (Code.region id l.toArray true).wpIn (wideAt ro) n P Q a w := by
  cases ts with
  | nil => simp [pickB] at hB
  | cons t0 r =>
    simp only [pickB, Bool.and_eq_true] at hB
    obtain ⟨⟨⟨⟨⟨⟨hsel, hH⟩, hT⟩, hsk⟩, hch⟩, hcov⟩, hdis⟩ := hB
    have hcov' : ∀ j, j < l.toArray.size → j ∈ hs ∨ j ∈ t0 :: r := fun j hj => by
      have := List.all_eq_true.1 hcov j (by simpa using hj)
      simpa using this
    have hdis' : ∀ t ∈ t0 :: r, t ∉ hs := fun t ht h => by
      have := List.all_eq_true.1 hdis t ht
      simp [h] at this
    have inv0 : Open l.toArray (t0 :: r) (Array.replicate l.toArray.size false) :=
      ⟨by simp, fun j oj _ hl => (by rw [getD_replicate_false] at hl; cases hl), fun t _ => getD_replicate_false _ _⟩
    have H := wpAnyH_lex (P := P) (C := fun w' => ∃ x : Later w, w' = x.out) rfl hsel hsk hch hcov' hdis' hs _ a (fun _ h => h) inv0 hH hT hh
    refine wpIn_region_any hm ?_
    have hC : ∃ x : Later w, w.drew = x.out := ⟨⟨w.drew, (Below.refl _ _).drew⟩, rfl⟩
    have hlt : ∀ (ts : List Nat) (b : Array Bool), tailB l.toArray ts b = true → ∀ t ∈ ts, t < l.toArray.size := by
      intro ts
      induction ts with
      | nil => intro b _ t ht; cases ht
      | cons u q ih =>
        intro b hb t ht
        simp only [tailB, Bool.and_eq_true, decide_eq_true_eq] at hb
        rcases List.mem_cons.1 ht with rfl | ht
        · have : t ∈ Region.ready .any l.toArray b := by rw [hb.1]; simp
          obtain ⟨_, o, ho, _⟩ := mem_ready.1 this
          exact (Array.getElem?_eq_some_iff.1 ho).1
        · exact ih _ hb.2 t ht
    have := wpAnyWide_of_headH (ro := ro) (n := n) (Q' := Q) (g := (t0 :: r).length) (C := fun w' => ∃ x : Later w, w' = x.out) (fun i o ho => noDefer_at hnd ho) (fun listed' a' w' hw' hL => by
      obtain ⟨x, rfl⟩ := hw'
      exact wpAnyIn_of_tail rfl (t0 :: r) listed' a' x.out (hlt _ _ hL.1) hL.1 (hL.2.2 x)) _ _ _ w.drew hC H
    have e : hs.length + (t0 :: r).length = l.toArray.size := by simpa using hsz
    rw [e] at this
    exact this
/-- in a round -/
theorem wpIn_region_pick {w : World} {id k : Nat} {Q : Exit → Act → World → Prop} {a : Act} {l : List Oper} (hs ts : List Nat) (hm : P.follows .mixedOrders = true) (hB : pickB l.toArray hs ts = true) (hsz : (hs ++ ts).length = l.length) (hnd : noDefer l = true)
    (hh : wpQuiet P l.toArray (fun w' => ∃ x : Later w, w' = x.out) (fun a' => ∀ x : Later w, wpListIn (Fence.wide.inRound k) n P l.toArray Q (pick l ts) a' x.out) (pick l hs) a) : (Code.region id l.toArray true).wpIn (Fence.wide.inRound k) n P Q a w :=
  wpWide_region_pick (ro := some k) hs ts hm hB hsz hnd hh
/-- in no round -/
theorem wp_region_pick {w : World} {id : Nat} {Q : Exit → Act → World → Prop} {a : Act} {l : List Oper} (hs ts : List Nat) (hm : P.follows .mixedOrders = true) (hB : pickB l.toArray hs ts = true) (hsz : (hs ++ ts).length = l.length) (hnd : noDefer l = true)
    (hh : wpQuiet P l.toArray (fun w' => ∃ x : Later w, w' = x.out) (fun a' => ∀ x : Later w, wpListIn Fence.wide 0 P l.toArray Q (pick l ts) a' x.out) (pick l hs) a) : (Code.region id l.toArray true).wp P Q a w :=
  (wpIn_wide (n := 0)).1 (wpWide_region_pick (ro := none) hs ts hm hB hsz hnd hh)
end
end Go.Proofs.Ytcdnekhpeghkiaa

/-
  A region that draws its order, with no call of a function: reads and reckonings, and stores into blocks that nothing else in it reads, each store into a block of its own.
-/
namespace Go.Proofs.Ytcdnekhpeghkiaa
set_option linter.unusedVariables false
open Go.RowKit

/-- the worlds that keep all blocks but Bs -/
structure LaterX (Bs : List Nat) (w : World) where
  out : World
  os : out.os = w.os
  tape_ : out.tape = w.tape
  output : out.output = w.output
  size : w.heap.size ≤ out.heap.size
  block : ∀ k, k < w.heap.size → k ∉ Bs → out.heap[k]? = w.heap[k]?
section
variable {w : World} {Bs : List Nat}
def LaterX.self (Bs : List Nat) (w : World) : LaterX Bs w := ⟨w, rfl, rfl, rfl, Nat.le_refl _, fun _ _ _ => rfl⟩
instance : Nonempty (LaterX Bs w) := ⟨LaterX.self Bs w⟩
def LaterX.step {W' : World} (x : LaterX Bs w) {b : Nat} (hb : b ∈ Bs) (h : x.out.grownBy W' (some b)) : LaterX Bs w :=
  ⟨W', h.os.trans x.os, h.tape.trans x.tape_, h.output.trans x.output, Nat.le_trans x.size h.size, fun k hk hn => (h.block k (Nat.lt_of_lt_of_le hk x.size) (fun e => hn (by cases e; exact hb))).trans (x.block k hk hn)⟩
def LaterX.hc (x : LaterX Bs w) (b o : Nat) : Option Value := x.out.cell? ⟨b, o, none⟩
def LaterX.hf (x : LaterX Bs w) (b o : Nat) : Bool := x.out.frozen? ⟨b, o, none⟩
theorem LaterX.cell_eq (x : LaterX Bs w) (b o : Nat) : x.out.cell? ⟨b, o, none⟩ = bif decide (b < w.heap.size) && !Bs.contains b then w.cell? ⟨b, o, none⟩ else x.hc b o := by
  by_cases h : b < w.heap.size ∧ b ∉ Bs
  · have e : (decide (b < w.heap.size) && !Bs.contains b) = true := by simp [h.1, h.2]
    rw [e]; exact World.cell?_of_block (a := ⟨b, o, none⟩) (x.block b h.1 h.2)
  · have e : (decide (b < w.heap.size) && !Bs.contains b) = false := by
      rw [Bool.eq_false_iff]; intro k; simp at k; exact h k
    rw [e]; rfl
theorem LaterX.frozen_eq (x : LaterX Bs w) (b o : Nat) : x.out.frozen? ⟨b, o, none⟩ = bif decide (b < w.heap.size) && !Bs.contains b then w.frozen? ⟨b, o, none⟩ else x.hf b o := by
  by_cases h : b < w.heap.size ∧ b ∉ Bs
  · have e : (decide (b < w.heap.size) && !Bs.contains b) = true := by simp [h.1, h.2]
    rw [e]; exact World.frozen?_of_block (a := ⟨b, o, none⟩) (x.block b h.1 h.2)
  · have e : (decide (b < w.heap.size) && !Bs.contains b) = false := by
      rw [Bool.eq_false_iff]; intro k; simp at k; exact h k
    rw [e]; rfl
/-- the rule for a list of two blocks, written out -/
@[go_sem] theorem LaterX.cell2 {g h : Nat} (x : LaterX [g, h] w) (b o : Nat) : x.out.cell? ⟨b, o, none⟩ = bif decide (b < w.heap.size) && !(b == g) && !(b == h) then w.cell? ⟨b, o, none⟩ else x.hc b o := by
  rw [x.cell_eq, show [g, h].contains b = (b == g || (b == h || false)) from rfl]
  cases (b == g) <;> cases (b == h) <;> cases decide (b < w.heap.size) <;> rfl
@[go_sem] theorem LaterX.cell1 {g : Nat} (x : LaterX [g] w) (b o : Nat) : x.out.cell? ⟨b, o, none⟩ = bif decide (b < w.heap.size) && !(b == g) then w.cell? ⟨b, o, none⟩ else x.hc b o := by
  rw [x.cell_eq, show [g].contains b = (b == g || false) from rfl]
  cases (b == g) <;> cases decide (b < w.heap.size) <;> rfl
theorem LaterX.blk (x : LaterX Bs w) {b : Nat} {T : TypeId} {c : Array Value} (h : Blk w b T c) (hb : b ∉ Bs) : Blk x.out b T c := (x.block b h.lt hb).trans h
theorem LaterX.below {B : Nat} {w0 : World} (x : LaterX Bs w) (h : Below B w0 w) (hB : B ≤ w.heap.size) (hb : ∀ b ∈ Bs, B ≤ b) : Below B w0 x.out :=
  ⟨x.os.trans h.os, x.tape_.trans h.tape, x.output.trans h.output, Nat.le_trans h.size x.size, fun k hk => (x.block k (Nat.lt_of_lt_of_le hk hB) (fun e => by have := hb k e; omega)).trans (h.block k hk)⟩
theorem LaterX.grown (x : LaterX Bs w) {b : Nat} (h : Bs = [b]) : w.grownBy x.out (some b) := ⟨x.os, x.tape_, x.output, x.size, fun k hk hn => x.block k hk (by subst h; simpa using fun e => hn (by rw [e]))⟩
end

structure St where
  b : Nat
  A : Value
  V : Value
  old : Obj
  new : Obj
section
variable {P : Program} {ops : Array Oper} {C : World → Prop} {ro : Option Nat} {n : Nat} {st : Nat → Option St}

/-- a store's address and value, as the frame has them -/
def StCond (ops : Array Oper) (i : Nat) (s : St) (a : Act) : Prop := ∃ o t x y, ops[i]? = some o ∧ o.op = .store t x y ∧ a.eval x = s.A ∧ a.eval y = s.V
def gOpS (P : Program) (ops : Array Oper) (C : World → Prop) (st : Nat → Option St) (i : Nat) (K : Act → Prop) (a : Act) : Prop :=
  match st i with
  | none => qOp P ops C i K a
  | some s => StCond ops i s a ∧ K a
theorem gOpS_mono {i : Nat} {a : Act} {K K' : Act → Prop} (hk : ∀ a, K a → K' a) (hh : gOpS P ops C st i K a) : gOpS P ops C st i K' a := by
  unfold gOpS at *
  split
  · rename_i e; rw [e] at hh; exact qOp_mono hk hh
  · rename_i s e; rw [e] at hh; exact ⟨hh.1, hk _ hh.2⟩
theorem stCond_put {i : Nat} {s : St} {a : Act} {d : Option Tmp} {v : Value} {oi : Oper} (hi : ops[i]? = some oi) (hd : ∀ e, d = some e → e ∉ oi.looksAt ops) : StCond ops i s (a.put d v) ↔ StCond ops i s a := by
  have key : ∀ o t x y, ops[i]? = some o → o.op = .store t x y → ((a.put d v).eval x = a.eval x ∧ (a.put d v).eval y = a.eval y) := by
    intro o t x y ho hop
    obtain rfl : o = oi := Option.some.inj (ho.symm.trans hi)
    have mem : ∀ z, z ∈ o.op.operands → (a.put d v).eval z = a.eval z := fun z hz => Act.eval_put fun e he hze => hd e he (by
      subst hze
      exact List.mem_append_left _ (List.mem_filterMap.2 ⟨.tmp e, by simpa using hz, rfl⟩))
    exact ⟨mem x (by rw [hop]; simp [Op.operands]), mem y (by rw [hop]; simp [Op.operands])⟩
  constructor
  · rintro ⟨o, t, x, y, ho, hop, h1, h2⟩
    obtain ⟨k1, k2⟩ := key o t x y ho hop
    exact ⟨o, t, x, y, ho, hop, k1 ▸ h1, k2 ▸ h2⟩
  · rintro ⟨o, t, x, y, ho, hop, h1, h2⟩
    obtain ⟨k1, k2⟩ := key o t x y ho hop
    exact ⟨o, t, x, y, ho, hop, k1.trans h1, k2.trans h2⟩
theorem gOpS_put {j : Nat} {oi oj : Oper} {v : Value} (hj : ops[j]? = some oj) (hap : oi.apart ops oj = true)
    (hsi : ∀ cs b, oi.op ≠ .select cs b) (hsj : ∀ cs b, oj.op ≠ .select cs b) {K : Act → Prop} {a : Act}
    (hy : YieldsIn P ops C oi v a) (hh : gOpS P ops C st j K (a.put oi.dst v)) :
    gOpS P ops C st j (fun a' => YieldsIn P ops C oi v a' ∧ K (a'.put oi.dst v)) a := by
  unfold gOpS at *
  split
  · rename_i e; rw [e] at hh; exact qOp_put hj hap hsi hsj hy hh
  · rename_i s e; rw [e] at hh
    exact ⟨(stCond_put hj (Oper.apart_spec hap).1).1 hh.1, hy, hh.2⟩
theorem gOpS_keep {i j : Nat} {s : St} {oi oj : Oper} (hi : ops[i]? = some oi) (hj : ops[j]? = some oj) (hap : oi.apart ops oj = true) {K : Act → Prop} {a : Act} (hc : StCond ops i s a) (hh : gOpS P ops C st j K a) :
    gOpS P ops C st j (fun a' => StCond ops i s a' ∧ K a') a := by
  have keep : ∀ u, StCond ops i s (a.put oj.dst u) := fun u => (stCond_put hi (Oper.apart_spec hap).2.2).2 hc
  unfold gOpS at *
  split
  · rename_i e
    rw [e] at hh
    unfold qOp at *
    simp only [hj] at *
    split
    · rw [if_pos ‹_›] at hh
      obtain ⟨v, h1, h2⟩ := hh
      exact ⟨v, h1, keep v, h2⟩
    · rw [if_neg ‹_›] at hh; exact ⟨keep _, hh⟩
  · rename_i s' e; rw [e] at hh; exact ⟨hh.1, hc, hh.2⟩

def wpAnyS (P : Program) (ops : Array Oper) (C : World → Prop) (st : Nat → Option St) (L : Array Bool → Act → Prop) : Nat → Array Bool → Act → Prop
  | 0, listed, a => L listed a
  | f + 1, listed, a => Region.ready .any ops listed ≠ [] ∧ ∀ i ∈ Region.ready .any ops listed, gOpS P ops C st i (wpAnyS P ops C st L f (listed.setIfInBounds i true)) a

theorem wpAnyS_first {i : Nat} {oi : Oper} {v : Value} {L : Array Bool → Act → Prop} (hi : ops[i]? = some oi) (hsel : ∀ (j : Nat) (o : Oper) cs b, ops[j]? = some o → o.op ≠ .select cs b) (hsi : st i = none)
    (hdone : ∀ listed a, L listed a → Region.ready .any ops listed = []) :
    ∀ (f : Nat) (listed : Array Bool) (a : Act),
      (∀ j oj, ops[j]? = some oj → j ≠ i → listed.getD j true = false → (∀ e ∈ oj.after, Region.binds .any e = true → e.on ≠ i) → oi.apart ops oj = true) →
      i ∈ Region.ready .any ops listed → YieldsIn P ops C oi v a →
      wpAnyS P ops C st L f (listed.setIfInBounds i true) (a.put oi.dst v) → wpAnyS P ops C st L (f + 1) listed a := by
  have one : ∀ {a : Act} {K : Act → Prop}, YieldsIn P ops C oi v a → K (a.put oi.dst v) → gOpS P ops C st i K a := fun hy H => by
    unfold gOpS; rw [hsi]; exact hy.qOp hi H
  intro f
  induction f with
  | zero =>
    intro listed a _ hr hy H
    refine ⟨fun h => (by rw [h] at hr; cases hr), fun j hj => ?_⟩
    by_cases hji : j = i
    · subst hji; exact one hy H
    · have := ready_mono hj hji
      rw [hdone _ _ H] at this
      cases this
  | succ f ih =>
    intro listed a hfree hr hy H
    have hun := (mem_ready.1 hr).1
    refine ⟨fun h => (by rw [h] at hr; cases hr), fun j hj => ?_⟩
    by_cases hji : j = i
    · subst hji; exact one hy H
    · have h1 := H.2 j (ready_mono hj hji)
      obtain ⟨hjun, oj, hoj, hall⟩ := mem_ready.1 hj
      have hnot : ∀ e ∈ oj.after, Region.binds .any e = true → e.on ≠ i := fun e he hb heq => by
        have h1 := hall e he hb
        rw [heq, getD_both hun] at h1
        cases h1
      have h2 := gOpS_put hoj (hfree j oj hoj hji hjun hnot) (fun cs b => hsel i oi cs b hi) (fun cs b => hsel j oj cs b hoj) hy h1
      have hfree' : ∀ k ok, ops[k]? = some ok → k ≠ i → (listed.setIfInBounds j true).getD k true = false →
          (∀ e ∈ ok.after, Region.binds .any e = true → e.on ≠ i) → oi.apart ops ok = true := fun k ok hk hki hun hno => by
        refine hfree k ok hk hki ?_ hno
        by_cases hjk : j = k
        · subst hjk; exact hjun
        · rw [getD_set_ne true hjk] at hun; exact hun
      refine gOpS_mono (fun a' h3 => ih (listed.setIfInBounds j true) a' hfree' (ready_mono hr (Ne.symm hji)) h3.1 ?_) h2
      rw [Array.setIfInBounds_comm _ _ hji]
      exact h3.2

theorem wpAnyS_firstS {i : Nat} {oi : Oper} {s : St} {L : Array Bool → Act → Prop} (hi : ops[i]? = some oi) (hsi : st i = some s)
    (hdone : ∀ listed a, L listed a → Region.ready .any ops listed = []) :
    ∀ (f : Nat) (listed : Array Bool) (a : Act),
      (∀ j oj, ops[j]? = some oj → j ≠ i → listed.getD j true = false → (∀ e ∈ oj.after, Region.binds .any e = true → e.on ≠ i) → oi.apart ops oj = true) →
      i ∈ Region.ready .any ops listed → StCond ops i s a →
      wpAnyS P ops C st L f (listed.setIfInBounds i true) a → wpAnyS P ops C st L (f + 1) listed a := by
  have one : ∀ {a : Act} {K : Act → Prop}, StCond ops i s a → K a → gOpS P ops C st i K a := fun hy H => by
    unfold gOpS; rw [hsi]; exact ⟨hy, H⟩
  intro f
  induction f with
  | zero =>
    intro listed a _ hr hy H
    refine ⟨fun h => (by rw [h] at hr; cases hr), fun j hj => ?_⟩
    by_cases hji : j = i
    · subst hji; exact one hy H
    · have := ready_mono hj hji
      rw [hdone _ _ H] at this
      cases this
  | succ f ih =>
    intro listed a hfree hr hy H
    have hun := (mem_ready.1 hr).1
    refine ⟨fun h => (by rw [h] at hr; cases hr), fun j hj => ?_⟩
    by_cases hji : j = i
    · subst hji; exact one hy H
    · have h1 := H.2 j (ready_mono hj hji)
      obtain ⟨hjun, oj, hoj, hall⟩ := mem_ready.1 hj
      have hnot : ∀ e ∈ oj.after, Region.binds .any e = true → e.on ≠ i := fun e he hb heq => by
        have h1 := hall e he hb
        rw [heq, getD_both hun] at h1
        cases h1
      have h2 := gOpS_keep hi hoj (hfree j oj hoj hji hjun hnot) hy h1
      have hfree' : ∀ k ok, ops[k]? = some ok → k ≠ i → (listed.setIfInBounds j true).getD k true = false →
          (∀ e ∈ ok.after, Region.binds .any e = true → e.on ≠ i) → oi.apart ops ok = true := fun k ok hk hki hun hno => by
        refine hfree k ok hk hki ?_ hno
        by_cases hjk : j = k
        · subst hjk; exact hjun
        · rw [getD_set_ne true hjk] at hun; exact hun
      refine gOpS_mono (fun a' h3 => ih (listed.setIfInBounds j true) a' hfree' (ready_mono hr (Ne.symm hji)) h3.1 ?_) h2
      rw [Array.setIfInBounds_comm _ _ hji]
      exact h3.2

/-- the walk in the order of hs -/
def wpLexS (P : Program) (l : List Oper) (C : World → Prop) (st : Nat → Option St) (Lq : Act → Prop) : List Nat → Act → Prop
  | [], a => Lq a
  | i :: r, a => match st i with
    | none => wpQuiet P l.toArray C (wpLexS P l C st Lq r) (pick l [i]) a
    | some s => StCond l.toArray i s a ∧ wpLexS P l C st Lq r a
theorem wpLexS_quiet {l : List Oper} {Lq : Act → Prop} {r : List Nat} : ∀ (qs : List Nat) (a : Act), (∀ i ∈ qs, st i = none ∧ i < l.length) → wpQuiet P l.toArray C (wpLexS P l C st Lq r) (pick l qs) a → wpLexS P l C st Lq (qs ++ r) a
  | [], a, _, h => h
  | i :: qs, a, hs, h => by
    obtain ⟨h1, h2⟩ := hs i (by simp)
    have next := fun a' (h' : wpQuiet P l.toArray C (wpLexS P l C st Lq r) (pick l qs) a') => wpLexS_quiet qs a' (fun k hk => hs k (List.mem_cons_of_mem _ hk)) h'
    have hl : l[i]? = some l[i] := List.getElem?_eq_getElem h2
    simp only [List.cons_append]
    unfold wpLexS
    rw [h1]
    simp only [pick, hl] at h ⊢
    unfold wpQuiet at h ⊢
    split
    · rw [if_pos ‹_›] at h; exact Oper.quiet_mono (fun a' h' => next a' h') h
    · rw [if_neg ‹_›] at h; exact next _ h

theorem wpAnyS_lex {l : List Oper} (hops : ops = l.toArray) {m : Nat} {Lq : Act → Prop} (hsel : Region.noSelect ops = true) (hdst : ∀ i s o, st i = some s → ops[i]? = some o → o.dst = none) :
    ∀ (hs : List Nat) (listed : Array Bool) (a : Act), headB ops hs listed = true → (Region.ready .any ops (hs.foldl (fun b i => b.setIfInBounds i true) listed)).isEmpty = true → (∀ i, i < m → (hs.foldl (fun b i => b.setIfInBounds i true) listed).getD i false = true) →
    wpLexS P l C st Lq hs a →
    wpAnyS P ops C st (fun listed' a' => Region.ready .any ops listed' = [] ∧ (∀ i, i < m → listed'.getD i false = true) ∧ Lq a') hs.length listed a
  | [], listed, a, _, hT, hA, h => ⟨by simpa using hT, hA, h⟩
  | i :: hs, listed, a, hB, hT, hA, h => by
    simp only [headB, Bool.and_eq_true, decide_eq_true_eq] at hB
    obtain ⟨⟨⟨hlt, hr⟩, hf⟩, hB'⟩ := hB
    have hr' : i ∈ Region.ready .any ops listed := by simpa using hr
    have h0 : ops[i]? = some ops[i] := Array.getElem?_eq_getElem hlt
    have hl0 : l[i]? = some ops[i] := by rw [← h0, hops]; simp
    have next := fun a' h' => wpAnyS_lex hops (m := m) (Lq := Lq) hsel hdst hs (listed.setIfInBounds i true) a' hB' (by simpa using hT) (by simpa using hA) h'
    unfold wpLexS at h
    cases hsi : st i with
    | none =>
      rw [hsi] at h
      simp only [pick, hl0] at h
      have hst : qOp P ops C i (wpLexS P l C st Lq hs) a := by
        unfold qOp; simp only [h0]
        unfold wpQuiet at h
        rw [← hops] at h
        exact h
      obtain ⟨v, hy, hK⟩ := yieldsIn_of_qOp h0 hst
      exact wpAnyS_first h0 (Region.noSelect_spec hsel) hsi (fun _ _ hL => hL.1) hs.length listed a (Region.free_spec h0 hf) hr' hy (next _ hK)
    | some s =>
      rw [hsi] at h
      rw [← hops] at h
      exact wpAnyS_firstS h0 hsi (fun _ _ hL => hL.1) hs.length listed a (Region.free_spec h0 hf) hr' h.1 (next _ h.2)

/-- no call of a function, no defer -/
def noCall (l : List Oper) : Bool := l.all fun o => match o.op with
  | .defer _ => false
  | .call c => (match c.callee with | .builtin .min => true | .builtin .max => true | .builtin .len => true | _ => false)
  | _ => true

structure StInv (w : World) (Bs : List Nat) (st : Nat → Option St) (listed : Array Bool) (wc : World) : Prop where
  lx : ∃ x : LaterX Bs w, wc = x.out
  at_ : ∀ i s, st i = some s → wc.heap[s.b]? = some (if listed.getD i false then s.new else s.old)

/-- what the rule must know of the stores -/
structure StOps (P : Program) (l : List Oper) (w : World) (Bs : List Nat) (st : Nat → Option St) : Prop where
  op : ∀ i s, st i = some s → ∃ o t x y, l[i]? = some o ∧ o.op = .store t x y ∧ o.guard = none ∧ o.dst = none ∧ s.b ∈ Bs ∧ w.heap[s.b]? = some s.old ∧
    (∀ v : World, v.heap[s.b]? = some s.old → ∃ v', (Instr.storeAt t s.A s.V).run P v = .ok () v' ∧ v.grownBy v' (some s.b) ∧ v'.heap[s.b]? = some s.new)
  ne : ∀ i j s s', st i = some s → st j = some s' → i ≠ j → s.b ≠ s'.b

theorem quiet_same {o : Oper} {a : Act} {v : Value} {w : World} (hn : ∀ f args w', (execOp a.eval o).run P w ≠ .ok (.enter f args) w') (h : o.quietAt P a C w v) :
    (execOp a.eval o).run P w = .ok (.value v) w ∨ ((execOp a.eval o).run P w = .ok .skip w ∧ v = undef) := by
  unfold Oper.quietAt at h
  cases hr : (execOp a.eval o).run P w with
  | halt => rw [hr] at h; exact h.elim
  | ok x w' =>
    rw [hr] at h
    cases x with
    | value u => obtain ⟨rfl, rfl⟩ := h; exact .inl rfl
    | skip => obtain ⟨rfl, rfl⟩ := h; exact .inr ⟨rfl, rfl⟩
    | enter f args => exact absurd hr (hn f args w')
    | _ => exact h.elim

/-- an operation that enters no function -/
def NoEnter (P : Program) (o : Oper) : Prop := ∀ (a : Act) (w : World) (f : FuncId) (args : Array Value) (w' : World), (execOp a.eval o).run P w ≠ .ok (.enter f args) w'

theorem wpAnyIn_of_S {l : List Oper} {w : World} {Bs : List Nat} {Q' : Exit → Act → World → Prop} {L : Array Bool → Act → Prop} (hS : StOps P l w Bs st) (hd : noDefer l = true) (hne : ∀ i o, st i = none → l[i]? = some o → NoEnter P o)
    (hL : ∀ listed a wc, StInv w Bs st listed wc → L listed a → wpAnyIn (wideAt ro) n P .any l.toArray Q' 0 listed a wc) :
    ∀ (f : Nat) (listed : Array Bool) (a : Act) (wc : World), StInv w Bs st listed wc → wpAnyS P l.toArray (fun w' => ∃ x : LaterX Bs w, w' = x.out) st L f listed a → wpAnyIn (wideAt ro) n P .any l.toArray Q' f listed a wc
  | 0, listed, a, wc, hI, hh => hL _ _ _ hI hh
  | f + 1, listed, a, wc, hI, hh => by
    refine ⟨fun h0 => absurd h0 hh.1, fun i hi => ?_⟩
    have h1 := hh.2 i hi
    obtain ⟨hun, o, ho, _⟩ := mem_ready.1 hi
    have ho' : l[i]? = some o := by simpa using ho
    have hoth : ∀ k, k ≠ i → (listed.setIfInBounds i true).getD k false = listed.getD k false := fun k e => getD_set_ne false (Ne.symm e)
    have hdf := noDefer_at hd ho
    unfold gOpS at h1
    unfold wpOpIn
    simp only [ho]
    cases hsi : st i with
    | none =>
      rw [hsi] at h1
      have hI' : StInv w Bs st (listed.setIfInBounds i true) wc := ⟨hI.lx, fun k s hk => by
        rw [hoth k (fun e => by rw [e, hsi] at hk; cases hk)]; exact hI.at_ k s hk⟩
      unfold qOp at h1
      simp only [ho] at h1
      split
      · rename_i hw
        rw [if_pos hw] at h1
        obtain ⟨v, h2, h3⟩ := h1
        refine ⟨fun _ _ => trivial, ?_⟩
        rw [show (wideAt ro).round = ro from rfl, Oper.semAt_eq _ _ _ hdf]
        rcases quiet_same (hne i o hsi ho' a wc) (h2 wc hI.lx) with e | ⟨e, rfl⟩
        · rw [e]; exact wpAnyIn_of_S hS hd hne hL f _ _ wc hI' h3
        · rw [e]; exact wpAnyIn_of_S hS hd hne hL f _ _ wc hI' h3
      · rename_i hw
        rw [if_neg hw] at h1
        exact ⟨fun _ _ => trivial, wpAnyIn_of_S hS hd hne hL f _ _ wc hI' h1⟩
    | some s =>
      rw [hsi] at h1
      obtain ⟨o', t, x, y, k1, k2, k3, k4, k5, k6, hrun⟩ := hS.op i s hsi
      obtain rfl : o' = o := Option.some.inj (k1.symm.trans ho')
      obtain ⟨⟨o2, t2, x2, y2, q1, q2, q3, q4⟩, hK⟩ := h1
      obtain rfl : o2 = o' := Option.some.inj (q1.symm.trans ho)
      rw [k2] at q2
      obtain ⟨rfl, rfl, rfl⟩ : t = t2 ∧ x = x2 ∧ y = y2 := by injection q2 with a1 a2 a3; exact ⟨a1, a2, a3⟩
      have hw : Region.wanted o2 (yielded l.toArray a.tmps) = true := by simp [Region.wanted, k3]
      rw [if_pos hw]
      have hold := hI.at_ i s hsi
      rw [getD_both hun] at hold
      obtain ⟨v', r1, r2, r3⟩ := hrun wc (by simpa using hold)
      refine ⟨fun _ _ => trivial, ?_⟩
      rw [show (wideAt ro).round = ro from rfl, Oper.semAt_eq _ _ _ hdf]
      have e : (execOp a.eval o2).run P wc = .ok .skip v' := by
        unfold execOp
        rw [k2]
        simp [q3, q4, r1]
      rw [e]
      simp only [Oper.uponIn]
      rw [k4]
      have ea : a.put none undef = a := rfl
      rw [ea]
      refine wpAnyIn_of_S hS hd hne hL f _ _ v' ⟨?_, fun k s' hk => ?_⟩ hK
      · obtain ⟨x, rfl⟩ := hI.lx
        exact ⟨x.step k5 r2, rfl⟩
      · by_cases hki : k = i
        · subst hki
          obtain rfl : s' = s := Option.some.inj (hk.symm.trans hsi)
          have hlt : k < listed.size := by
            rcases Nat.lt_or_ge k listed.size with q | q
            · exact q
            · simp [Array.getElem?_eq_none q] at hun
          have : (listed.setIfInBounds k true).getD k false = true := by simp [hlt]
          rw [this]; exact r3
        · rw [hoth k hki]
          have hb := hS.ne k i s' s hk hsi hki
          have h5 := hI.at_ k s' hk
          rw [← h5]
          exact r2.block _ (Array.getElem?_eq_some_iff.1 h5).1 (fun e => hb (Option.some.inj e))

theorem wpWide_region_stores {w : World} {id : Nat} {Q : Exit → Act → World → Prop} {a : Act} {l : List Oper} (hs : List Nat) (Bs : List Nat) (st : Nat → Option St) (hm : P.follows .mixedOrders = true)
    (hB : (Region.noSelect l.toArray && headB l.toArray hs (Array.replicate l.toArray.size false) && (Region.ready .any l.toArray (listedBy l.toArray.size hs)).isEmpty && (List.range l.length).all fun i => (listedBy l.toArray.size hs).getD i false) = true) (hsz : hs.length = l.length) (hnd : noDefer l = true)
    (hS : StOps P l w Bs st) (hst : ∀ i, l.length ≤ i → st i = none) (hne : ∀ i o, st i = none → l[i]? = some o → NoEnter P o)
    (hh : wpLexS P l (fun w' => ∃ x : LaterX Bs w, w' = x.out) st (fun a' => ∀ x : LaterX Bs w, (∀ i s, st i = some s → x.out.heap[s.b]? = some s.new) → Q .normal a' x.out) hs a) : (Code.region id l.toArray true).wpIn (wideAt ro) n P Q a w := by
  simp only [Bool.and_eq_true] at hB
  obtain ⟨⟨⟨hsel, hH⟩, hT⟩, hA⟩ := hB
  have hA' : ∀ i, i < l.length → (listedBy l.toArray.size hs).getD i false = true := fun i hi => List.all_eq_true.1 hA i (by simpa using hi)
  have hdst : ∀ i s o, st i = some s → l.toArray[i]? = some o → o.dst = none := fun i s o h1 h2 => by
    obtain ⟨o', t, x, y, k1, _, _, k4, _⟩ := hS.op i s h1
    obtain rfl : o' = o := Option.some.inj (k1.symm.trans (by simpa using h2))
    exact k4
  have H := wpAnyS_lex (P := P) (C := fun w' => ∃ x : LaterX Bs w, w' = x.out) (m := l.length) rfl hsel hdst hs (Array.replicate l.toArray.size false) a hH hT hA' hh
  refine wpIn_region_any hm ?_
  have hC : StInv w Bs st (Array.replicate l.toArray.size false) w.drew := ⟨⟨⟨w.drew, rfl, rfl, rfl, Nat.le_refl _, fun _ _ _ => rfl⟩, rfl⟩, fun i s h => by
    obtain ⟨o', t, x, y, _, _, _, _, _, k6, _⟩ := hS.op i s h
    rw [getD_replicate_false]; exact k6⟩
  have := wpAnyIn_of_S (ro := ro) (n := n) (Q' := Q) hS hnd hne (fun listed' a' wc hI hL => by
    obtain ⟨h1, h2, h3⟩ := hL
    obtain ⟨x, rfl⟩ := hI.lx
    refine ⟨h1, h3 x (fun i s h => ?_)⟩
    have hi : i < l.length := by
      rcases Nat.lt_or_ge i l.length with q | q
      · exact q
      · rw [hst i q] at h; cases h
    have := hI.at_ i s h
    rw [h2 i hi] at this
    exact this) _ _ _ _ hC H
  rw [hsz] at this
  simpa using this
theorem wpIn_region_stores {w : World} {id k : Nat} {Q : Exit → Act → World → Prop} {a : Act} {l : List Oper} (hs : List Nat) (Bs : List Nat) (st : Nat → Option St) (hm : P.follows .mixedOrders = true)
    (hB : (Region.noSelect l.toArray && headB l.toArray hs (Array.replicate l.toArray.size false) && (Region.ready .any l.toArray (listedBy l.toArray.size hs)).isEmpty && (List.range l.length).all fun i => (listedBy l.toArray.size hs).getD i false) = true) (hsz : hs.length = l.length) (hnd : noDefer l = true)
    (hS : StOps P l w Bs st) (hst : ∀ i, l.length ≤ i → st i = none) (hne : ∀ i o, st i = none → l[i]? = some o → NoEnter P o)
    (hh : wpLexS P l (fun w' => ∃ x : LaterX Bs w, w' = x.out) st (fun a' => ∀ x : LaterX Bs w, (∀ i s, st i = some s → x.out.heap[s.b]? = some s.new) → Q .normal a' x.out) hs a) : (Code.region id l.toArray true).wpIn (Fence.wide.inRound k) n P Q a w :=
  wpWide_region_stores (ro := some k) hs Bs st hm hB hsz hnd hS hst hne hh
end
end Go.Proofs.Ytcdnekhpeghkiaa

/-
  A range over a function that yields known values, one behind the other, and makes no cells turn of its own: what holds is told by how many have come. The body may turn any cells but those of some blocks. No way out of the loop but its end.
-/
namespace Go.Proofs.Ytcdnekhpeghkiaa
set_option linter.unusedVariables false
open Go.RowKit Go.Shelf

section
variable {P : Program} {F : Fence} {n : Nat}
/-- the blocks of Bl are kept -/
def KeepsAll (Bl : List Nat) (W W' : World) : Prop := ∀ b ∈ Bl, W'.heap[b]? = W.heap[b]?
theorem KeepsAll.trans {Bl : List Nat} {X Y Z : World} (h : KeepsAll Bl X Y) (k : KeepsAll Bl Y Z) : KeepsAll Bl X Z := fun b hb => (k b hb).trans (h b hb)
theorem KeepsAll.putObj {Bl : List Nat} {W : World} {l : Nat} (o' : Obj) (hb : ∀ b ∈ Bl, b < l) : KeepsAll Bl W (W.putObj l o') := fun b h => World.putObj_heap_other (by have := hb b h; omega)
theorem KeepsAll.setCell {Bl : List Nat} {W : World} {p : Addr} (v : Value) (hb : ∀ b ∈ Bl, b ≠ p.block) : KeepsAll Bl W (W.setCell p v) := fun b h => Below.heap_setCell W p v b (hb b h)
theorem KeepsAll.grown {Bl : List Nat} {W W' : World} {row : Option Nat} (hg : W.grownBy W' row) (hb : ∀ b ∈ Bl, b < W.heap.size ∧ row ≠ some b) : KeepsAll Bl W W' := fun b h => hg.block b (hb b h).1 (fun e => (hb b h).2 e.symm)
theorem KeepsAll.below {Bl : List Nat} {W W' : World} {B : Nat} (h : Below B W W') (hb : ∀ b ∈ Bl, b < B) : KeepsAll Bl W W' := fun b hb' => h.block b (hb b hb')
/-- An iterator that yields these values. -/
def SeqLst {α : Type} (F : Fence) (n : Nat) (P : Program) (g : Nat) (lb : Array Value) (encs : α → Array Value) (Kp : World → World → Prop) (xs : List α) (w : World) : Prop :=
  ∀ (l : Nat) (J : Nat → World → Prop) (W : World), Below w.heap.size w W → (∀ (k : Nat) (A B : World), J k A → A.grownBy B none → J k B) →
    (∀ k x W1, xs[k]? = some x → J k W1 → YieldAt F (n - 1) P l (encs x) W1 fun e W' => e = .returned (.bool true) ∧ J (k + 1) W' ∧ Kp W1 W') →
    J 0 W →
    CallsIn F n P g (#[.func (.yield l) #[] #[]] ++ lb) W fun e W' => (∃ v, e = .returned v) ∧ J xs.length W'

theorem wpIn_rangeFunc_lst {α : Type} {g : Operand} {ps : Array Tmp} {assign body : Code} {Q : Exit → Act → World → Prop} {a : Act} {w : World}
    (hro : F.round = none) (h1 : 1 ≤ n) {gf : Nat} {lb : Array Value} (hg : a.eval g = .func (.func gf) #[] lb) (hF : F.fn gf) (eg : ∀ args w, (callFunc gf args).run P w = .ok (.enter gf args) w)
    {encs : α → Array Value} {Kp : World → World → Prop} {xs : List α} {w0 : World} (hseq : SeqLst F (n - 1) P gf lb encs Kp xs w0)
    (hKt : ∀ {A B C : World}, Kp A B → Kp B C → Kp A C) (hKb : ∀ (W : World) (l : Nat) (o o' : Obj), w.heap.size ≤ l → W.heap[l]? = some o → o.isCells = false → o.isWalk = false → Kp W (W.putObj l o'))
    (hb0 : Below w0.heap.size w0 w) (hps : ∀ x, (encs x).size = ps.size)
    (I : Nat → World → Prop) (hI : OwnFrom w.heap.size I) (h0 : I 0 w) (M : Nat → α → Act → World → Prop) (hM : ∀ pre x a', OwnFrom w.heap.size (fun (_ : Unit) W => M pre x a' W))
    (hassign : ∀ (l : Nat) (pre : Nat) (x : α) (W : World) (K : Act → World → Prop), xs[pre]? = some x → I pre W → (∀ a' W', KeepsFrom w.heap.size W W' → Kp W W' → M pre x a' W' → K a' W') →
      assign.wpIn (F.inRound l) (n - 1 - 1) P (Exit.then K (fun _ _ _ => False)) { tmps := (ps.zip (encs x)).foldl (fun t (p, v) => t.setIfInBounds p v) a.tmps, defers := [] } W)
    (hbody : ∀ (l : Nat) (pre : Nat) (x : α) (a' : Act) (W : World), xs[pre]? = some x → M pre x a' W →
      body.wpIn (F.inRound l) (n - 1 - 1) P (Exit.then (fun _ W' => KeepsFrom w.heap.size W W' ∧ Kp W W' ∧ I (pre + 1) W') (fun _ _ _ => False)) a' W)
    (hdone : ∀ (D : Nat) (W : World), w.heap.size ≤ D → I xs.length W → W.heap[D]? = some (.deferred (some [])) → Q .normal { a with defers := { target := .collected D, args := #[] } :: a.defers } W) :
    (Code.rangeFunc g ps assign body).wpIn F n P Q a w := by
  refine wpIn_rangeFunc ?_
  intro fn hfn
  rw [hro]
  have nd : (w.alloc (.deferred (some []))).heap.size = w.heap.size + 1 := World.size_alloc _ _
  obtain ⟨R, hR⟩ : ∃ R : LoopState → Option Code → Obj, R = recAt fn a.tmps ps assign body w.heap.size := ⟨_, rfl⟩
  have Rcells : ∀ st pe, (R st pe).isCells = false := fun _ _ => by rw [hR]; rfl
  have Rwalk : ∀ st pe, (R st pe).isWalk = false := fun _ _ => by rw [hR]; rfl
  obtain ⟨V, hV⟩ : ∃ V, (w.alloc (.deferred (some []))).alloc (R .ready none) = V := ⟨_, rfl⟩
  have vs : V.heap.size = w.heap.size + 1 + 1 := by rw [← hV]; simp
  have vl : V.heap[w.heap.size + 1]? = some (R .ready none) := by
    have := World.alloc_heap_new (w.alloc (.deferred (some []))) (R .ready none)
    rwa [nd, hV] at this
  have vd : V.heap[w.heap.size]? = some (.deferred (some [])) := by
    rw [← hV]; exact (Below.heap_alloc _ _ _ (by rw [nd]; omega)).trans (World.alloc_heap_new w _)
  have vI : I 0 V := by rw [← hV]; exact hI.alloc _ (hI.alloc _ h0)
  have vb : Below w0.heap.size w0 V := by
    have : Below w.heap.size w V := by rw [← hV]; exact ((Below.refl _ w).alloc (Nat.le_refl _) _).alloc (by rw [nd]; omega) _
    exact hb0.trans (this.mono hb0.size)
  refine ⟨w.heap.size + 1, [{ target := .collected w.heap.size, args := #[] }], V, { target := .fn (.func gf) lb, args := #[.func (.yield (w.heap.size + 1)) #[] #[]] }, V, gf,
    #[.func (.yield (w.heap.size + 1)) #[] #[]] ++ lb, V, ?_, ?_, ?_, ?_, fun _ => h1, ?_⟩
  · rw [← hV, hR]; exact run_enterLoop_outer _ _ _ _ _
  · simp only [resolve, hg]
    simp [go_sem]
  · intro f' hf'
    simp [Target.leads] at hf'
    subst hf'
    exact hF
  · simp [invoke, go_sem, eg]
  · refine (hseq (w.heap.size + 1)
      (fun pre W => I pre W ∧ W.heap[w.heap.size + 1]? = some (R .ready none) ∧ W.heap[w.heap.size]? = some (.deferred (some []))) V vb
      (fun s A B hs hk => ⟨hI s A B none hs.1 hk (fun r e => by cases e), (hk.block _ (Array.getElem?_eq_some_iff.1 hs.2.1).1 (by simp)).trans hs.2.1, (hk.block _ (Array.getElem?_eq_some_iff.1 hs.2.2).1 (by simp)).trans hs.2.2⟩)
      ?_ ⟨vI, vl, vd⟩).mono ?_
    · rintro pre x W hx ⟨hi, hl, hk⟩
      have hl0 := hl
      rw [hR] at hl0
      have hy := run_yield (P := P) (args := encs x) hl0 (hps x)
      refine ⟨fn, _, assign, body, hy, roundIn_of_wpIn hfn (hassign _ pre x W _ hx hi ?_)⟩
      intro a' X kx bx mx
      have xl := kx.same _ _ (by omega) hl (Rcells _ _)
      have xd := kx.same _ _ (Nat.le_refl _) hk rfl
      have xlt : w.heap.size + 1 < X.heap.size := (Array.getElem?_eq_some_iff.1 xl).1
      have xl0 := xl
      rw [hR] at xl0
      refine ⟨_, run_beginRound xl0 rfl, ?_⟩
      obtain ⟨Y, hY⟩ : ∃ Y, X.putObj (w.heap.size + 1) (R .busy none) = Y := ⟨_, rfl⟩
      have yl : Y.heap[w.heap.size + 1]? = some (R .busy none) := by rw [← hY]; exact World.putObj_heap_same xlt
      have yd : Y.heap[w.heap.size]? = some (.deferred (some [])) := by rw [← hY]; exact (World.putObj_heap_other (by omega)).trans xd
      have yb : Kp X Y := by rw [← hY]; exact hKb X _ _ _ (by omega) xl (Rcells _ _) (Rwalk _ _)
      have ym : M pre x a' Y := by rw [← hY]; exact (hM pre x a').putObj (s := ()) _ mx (by omega) xl (Rcells _ _)
      have hY' : X.putObj (w.heap.size + 1) (.loop { state := .busy, pending := none, fn, tmps := a.tmps, params := ps, assign, body, defers := w.heap.size }) = Y := by rw [← hY, hR]; rfl
      refine wpIn_mono (by rw [hY']; exact hbody _ pre x a' Y hx ym) ?_
      rintro e a3 Z hz
      cases e with
      | normal =>
        obtain ⟨kz, bz, iz⟩ := hz
        have zl := kz.same _ _ (by omega) yl (Rcells _ _)
        have zd := kz.same _ _ (Nat.le_refl _) yd rfl
        have zlt := (Array.getElem?_eq_some_iff.1 zl).1
        have zl0 := zl
        rw [hR] at zl0
        refine ⟨_, _, run_endRound (P := P) none zl0, ⟨rfl, ⟨hI.putObj _ iz (by omega) zl (Rcells _ _), ?_, (World.putObj_heap_other (by omega)).trans zd⟩, hKt bx (hKt (hKt yb bz) (hKb Z _ _ _ (by omega) zl (Rcells _ _) (Rwalk _ _)))⟩⟩
        rw [World.putObj_heap_same zlt, hR]
        rfl
      | ret => exact hz.elim
      | exit id => exact hz.elim
      | goto t => exact hz.elim
      | panic ch => exact hz.elim
      | outgrown => exact hz.elim
    · rintro e Z ⟨⟨v, rfl⟩, iz, zl, zd⟩
      have zl0 := zl
      rw [hR] at zl0
      exact ⟨none, _, run_endLoop (P := P) zl0 (by simp), hdone _ _ (Nat.le_refl _) (hI.putObj _ iz (by omega) zl (Rcells _ _)) ((World.putObj_heap_other (by omega)).trans zd)⟩
end
end Go.Proofs.Ytcdnekhpeghkiaa

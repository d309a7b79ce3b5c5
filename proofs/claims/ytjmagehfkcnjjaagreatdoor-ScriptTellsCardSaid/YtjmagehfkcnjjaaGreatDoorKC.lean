/-
  Texts that stand as one.
-/
import Derived.Test.YtjmagehfkcnjjaaGreatDoorKA
import Derived.OrdersIn
import Derived.TacticsIn
/-
  A region that draws its order, whose operations read, reckon, and call functions that keep what lay before, and that makes new blocks beside these; with a tail whose order is forced.
-/
namespace Go.Proofs.YtjmagehfkcnjjaaGreatDoor
set_option linter.unusedVariables false
open Go.RowKit

/-- an operation that enters none of the program's initial functions -/
def NoInitOp (P : Program) (o : Oper) : Prop := ∀ (a : Act) (w : World) (f : FuncId) (args : Array Value) (w' : World), (execOp a.eval o).run P w = .ok (.enter f args) w' → P.inits.idxOf? f = none
def NoInit (P : Program) : List Oper → Prop
  | [] => True
  | o :: r => NoInitOp P o ∧ NoInit P r
theorem NoInit.at {P : Program} {l : List Oper} : ∀ {i : Nat} {o : Oper}, NoInit P l → l[i]? = some o → NoInitOp P o := by
  induction l with
  | nil => intro i o h e; simp at e
  | cons x l ih =>
    intro i o h e
    unfold NoInit at h
    cases i with
    | zero =>
      have : x = o := by simpa using e
      rw [← this]; exact h.1
    | succ i => exact ih h.2 (by simpa using e)
theorem noInit_v {P : Program} {o : Oper} (s : (Operand → Value) → Sem Value) (h : ∀ ρ, execOp ρ o = (do pure (.value (← s ρ)))) : NoInitOp P o := by
  unfold NoInitOp
  intro a w f args w' e
  rw [h, Sem.run_bind] at e
  cases hr : (s a.eval).run P w with
  | ok u w1 => rw [hr] at e; simp [Result.andThen] at e
  | halt x w1 => rw [hr] at e; simp [Result.andThen] at e
theorem noInit_m {P : Program} {o : Oper} (s : (Operand → Value) → Value) (h : ∀ ρ, execOp ρ o = pure (.value (s ρ))) : NoInitOp P o := by
  unfold NoInitOp
  intro a w f args w' e
  rw [h] at e
  simp at e
theorem noInit_call {P : Program} {o : Oper} (k : Nat) {c : Call} (ho : o.op = .call c) (hc : c.callee = .value (.func k)) (he : ∀ args w, (callFunc k args).run P w = .ok (.enter k args) w) (hi : P.inits.idxOf? k = none) : NoInitOp P o := by
  unfold NoInitOp
  intro a w f args w' e
  have hv : a.eval (.func k) = .func (.func k) #[] #[] := rfl
  unfold execOp at e
  rw [ho] at e
  simp [resolve, hc, hv, Deferred.ofValue, invoke, he] at e
  rw [← e.1.1]
  exact hi

/-- two contracts on one call speak of one value -/
theorem calls_one {P : Program} {f : FuncId} {args : Array Value} {w : World} {v v' : Value} {C C' : World → Prop}
    (h : Calls P f args w fun e w'' => e = .returned v ∧ C w'') (h' : Calls P f args w fun e w'' => e = .returned v' ∧ C' w'') (hi : P.inits.idxOf? f = none) : v = v' := by
  have k : Calls P f args w fun | .returned u, _ => u = v | _, _ => False := h.mono fun e w' ⟨he, _⟩ => by subst he; rfl
  have k' : Calls P f args w fun | .returned u, _ => u = v' | _, _ => False := h'.mono fun e w' ⟨he, _⟩ => by subst he; rfl
  obtain ⟨n, u, w1, e1, r1⟩ := k.done hi
  obtain ⟨m, u', w2, e2, r2⟩ := k'.done hi
  have a := runN_ended e1 m
  have b := runN_ended e2 n
  rw [Nat.add_comm, a] at b
  injection b with ho hw
  injection ho with hv
  exact r1.symm.trans (hv.trans r2)
theorem upon_one {P : Program} {C C' : World → Prop} {w : World} {v v' : Value} {r : Result Next} (hn : ∀ f args w', r = .ok (.enter f args) w' → P.inits.idxOf? f = none)
    (h : Oper.quietUpon P C w v r) (h' : Oper.quietUpon P C' w v' r) : v = v' := by
  cases r with
  | halt => exact h.elim
  | ok n w1 =>
    cases n with
    | value u => exact h.2.symm.trans h'.2
    | skip => exact h.2.trans h'.2.symm
    | enter f args => exact calls_one h.2 h'.2 (hn _ _ _ rfl)
    | _ => exact h.elim

section
variable {P : Program} {ops : Array Oper} {md : Region.Mode} {C : World → Prop}
theorem yields_one {C' : World → Prop} {o : Oper} {v v' : Value} {a : Act} {w : World} (hn : NoInitOp P o) (hw : C w) (hw' : C' w) (h : YieldsIn P ops C o v a) (h' : YieldsIn P ops C' o v' a) : v = v' := by
  rcases h with ⟨h1, h2⟩ | ⟨h1, h2⟩
  · rcases h' with ⟨k1, k2⟩ | ⟨k1, k2⟩
    · exact upon_one (fun f args w' e => hn a w f args w' e) (h2 w hw) (k2 w hw')
    · rw [h1] at k1; cases k1
  · rcases h' with ⟨k1, k2⟩ | ⟨k1, k2⟩
    · rw [h1] at k1; cases k1
    · exact h2.trans k2.symm

def ptrAt (g : Nat) : Value := .pointer (some ⟨g, 0, none⟩)
def dstOf (ops : Array Oper) (i : Nat) : Option Tmp := (ops[i]?).bind (·.dst)
/-- operation number i comes up: quiet ones as before; behind these, a new block, wherever it lies -/
def gOp (P : Program) (ops : Array Oper) (C : World → Prop) (h i : Nat) (K : Act → Prop) (a : Act) : Prop :=
  if i < h then qOp P ops C i K a else ∀ g : Nat, K (a.put (dstOf ops i) (ptrAt g))
theorem gOp_mono {h i : Nat} {a : Act} {K K' : Act → Prop} (hk : ∀ a, K a → K' a) (hh : gOp P ops C h i K a) : gOp P ops C h i K' a := by
  unfold gOp at *
  split
  · rw [if_pos ‹_›] at hh; exact qOp_mono hk hh
  · rw [if_neg ‹_›] at hh; exact fun g => hk _ (hh g)
theorem gOp_put {h j : Nat} {oi oj : Oper} {v : Value} (hj : ops[j]? = some oj) (hap : oi.apart ops oj = true)
    (hsi : ∀ cs b, oi.op ≠ .select cs b) (hsj : ∀ cs b, oj.op ≠ .select cs b) {K : Act → Prop} {a : Act}
    (hy : YieldsIn P ops C oi v a) (hh : gOp P ops C h j K (a.put oi.dst v)) :
    gOp P ops C h j (fun a' => YieldsIn P ops C oi v a' ∧ K (a'.put oi.dst v)) a := by
  unfold gOp at *
  split
  · rw [if_pos ‹_›] at hh; exact qOp_put hj hap hsi hsj hy hh
  · rw [if_neg ‹_›] at hh
    obtain ⟨h1, h2, h3⟩ := Oper.apart_spec hap
    intro g
    have hg := hh g
    have ed : dstOf ops j = oj.dst := by simp [dstOf, hj]
    rw [ed] at hg ⊢
    exact ⟨hy.of_same (execOp_put oi hsi a oj.dst _ h3) (wanted_put oi a oj.dst _ h3), by rw [← Act.put_comm a v _ h2]; exact hg⟩

def wpAnyG (P : Program) (md : Region.Mode) (ops : Array Oper) (C : World → Prop) (h n : Nat) (L : Array Bool → Act → Prop) : Nat → Array Bool → Act → Prop
  | 0, listed, a => L listed a
  | f + 1, listed, a =>
    Region.ready md ops listed ≠ [] ∧ ∀ i ∈ Region.ready md ops listed, i < n ∧ gOp P ops C h i (wpAnyG P md ops C h n L f (listed.setIfInBounds i true)) a

theorem wpAnyG_first {h n i : Nat} {oi : Oper} {v : Value} {L : Array Bool → Act → Prop} (hi : ops[i]? = some oi) (hsel : ∀ (j : Nat) (o : Oper) cs b, ops[j]? = some o → o.op ≠ .select cs b)
    (hs : Region.sinkB md ops n = true) (hc : Region.chainB md ops n = true) (hn : n < ops.size) (hin : i < n) (hih : i < h)
    (hdone : ∀ listed a, L listed a → ∀ j ∈ Region.ready md ops listed, n ≤ j) :
    ∀ (f : Nat) (listed : Array Bool) (a : Act), HeadInv md ops n listed →
      (∀ j oj, ops[j]? = some oj → j ≠ i → listed.getD j true = false → (∀ e ∈ oj.after, Region.binds md e = true → e.on ≠ i) → oi.apart ops oj = true) →
      i ∈ Region.ready md ops listed → YieldsIn P ops C oi v a →
      wpAnyG P md ops C h n L f (listed.setIfInBounds i true) (a.put oi.dst v) → wpAnyG P md ops C h n L (f + 1) listed a := by
  have one : ∀ {f : Nat} {listed : Array Bool} {a : Act}, YieldsIn P ops C oi v a → wpAnyG P md ops C h n L f listed (a.put oi.dst v) → gOp P ops C h i (wpAnyG P md ops C h n L f listed) a := fun hy H => by
    unfold gOp; rw [if_pos hih]; exact hy.qOp hi H
  intro f
  induction f with
  | zero =>
    intro listed a inv _ hr hy H
    have hun := (mem_ready.1 hr).1
    refine ⟨fun h => (by rw [h] at hr; cases hr), fun j hj => ?_⟩
    have hjn : j < n := by
      rcases Nat.lt_or_ge j n with h | h
      · exact h
      · exact absurd hj (tail_waits hs hc hn inv _ i rfl hin hun j h)
    refine ⟨hjn, ?_⟩
    by_cases hji : j = i
    · subst hji; exact one hy H
    · have := hdone _ _ H j (ready_mono hj hji)
      omega
  | succ f ih =>
    intro listed a inv hfree hr hy H
    have hun := (mem_ready.1 hr).1
    refine ⟨fun h => (by rw [h] at hr; cases hr), fun j hj => ?_⟩
    have hjn : j < n := by
      rcases Nat.lt_or_ge j n with h | h
      · exact h
      · exact absurd hj (tail_waits hs hc hn inv _ i rfl hin hun j h)
    refine ⟨hjn, ?_⟩
    by_cases hji : j = i
    · subst hji; exact one hy H
    · have h1 := (H.2 j (ready_mono hj hji)).2
      obtain ⟨hjun, oj, hoj, hall⟩ := mem_ready.1 hj
      have hnot : ∀ e ∈ oj.after, Region.binds md e = true → e.on ≠ i := fun e he hb heq => by
        have h1 := hall e he hb
        rw [heq, getD_both hun] at h1
        cases h1
      have h2 := gOp_put hoj (hfree j oj hoj hji hjun hnot) (fun cs b => hsel i oi cs b hi) (fun cs b => hsel j oj cs b hoj) hy h1
      have hfree' : ∀ k ok, ops[k]? = some ok → k ≠ i → (listed.setIfInBounds j true).getD k true = false →
          (∀ e ∈ ok.after, Region.binds md e = true → e.on ≠ i) → oi.apart ops ok = true := fun k ok hk hki hun hno => by
        refine hfree k ok hk hki ?_ hno
        by_cases hjk : j = k
        · subst hjk; exact hjun
        · rw [getD_set_ne true hjk] at hun; exact hun
      refine gOp_mono (fun a' h3 => ih (listed.setIfInBounds j true) a' (inv.set hj hjn) hfree' (ready_mono hr (Ne.symm hji)) h3.1 ?_) h2
      rw [Array.setIfInBounds_comm _ _ hji]
      exact h3.2

theorem wpAnyG_firstA {h n i : Nat} {oi : Oper} {L : Array Bool → Act → Prop} (hi : ops[i]? = some oi)
    (hs : Region.sinkB md ops n = true) (hc : Region.chainB md ops n = true) (hn : n < ops.size) (hin : i < n) (hih : h ≤ i)
    (hdone : ∀ listed a, L listed a → ∀ j ∈ Region.ready md ops listed, n ≤ j) :
    ∀ (f : Nat) (listed : Array Bool) (a : Act), HeadInv md ops n listed → (∀ j, j < h → listed.getD j false = true) →
      (∀ j oj, ops[j]? = some oj → j ≠ i → listed.getD j true = false → (∀ e ∈ oj.after, Region.binds md e = true → e.on ≠ i) → oi.apart ops oj = true) →
      i ∈ Region.ready md ops listed →
      (∀ g, wpAnyG P md ops C h n L f (listed.setIfInBounds i true) (a.put oi.dst (ptrAt g))) → wpAnyG P md ops C h n L (f + 1) listed a := by
  have ed : dstOf ops i = oi.dst := by simp [dstOf, hi]
  have one : ∀ {f : Nat} {listed : Array Bool} {a : Act}, (∀ g, wpAnyG P md ops C h n L f listed (a.put oi.dst (ptrAt g))) → gOp P ops C h i (wpAnyG P md ops C h n L f listed) a := fun H => by
    unfold gOp; rw [if_neg (by omega), ed]; exact H
  intro f
  induction f with
  | zero =>
    intro listed a inv _ _ hr H
    have hun := (mem_ready.1 hr).1
    refine ⟨fun h => (by rw [h] at hr; cases hr), fun j hj => ?_⟩
    have hjn : j < n := by
      rcases Nat.lt_or_ge j n with h | h
      · exact h
      · exact absurd hj (tail_waits hs hc hn inv _ i rfl hin hun j h)
    refine ⟨hjn, ?_⟩
    by_cases hji : j = i
    · subst hji; exact one H
    · have := hdone _ _ (H 0) j (ready_mono hj hji)
      omega
  | succ f ih =>
    intro listed a inv hall0 hfree hr H
    have hun := (mem_ready.1 hr).1
    refine ⟨fun h => (by rw [h] at hr; cases hr), fun j hj => ?_⟩
    have hjn : j < n := by
      rcases Nat.lt_or_ge j n with h | h
      · exact h
      · exact absurd hj (tail_waits hs hc hn inv _ i rfl hin hun j h)
    refine ⟨hjn, ?_⟩
    by_cases hji : j = i
    · subst hji; exact one H
    · obtain ⟨hjun, oj, hoj, hall⟩ := mem_ready.1 hj
      have hjh : h ≤ j := by
        rcases Nat.lt_or_ge j h with k | k
        · have := hall0 j k
          rw [getD_both hjun] at this
          cases this
        · exact k
      have hnot : ∀ e ∈ oj.after, Region.binds md e = true → e.on ≠ i := fun e he hb heq => by
        have h1 := hall e he hb
        rw [heq, getD_both hun] at h1
        cases h1
      have hap := hfree j oj hoj hji hjun hnot
      obtain ⟨_, h2, _⟩ := Oper.apart_spec hap
      have edj : dstOf ops j = oj.dst := by simp [dstOf, hoj]
      have hfree' : ∀ k ok, ops[k]? = some ok → k ≠ i → (listed.setIfInBounds j true).getD k true = false →
          (∀ e ∈ ok.after, Region.binds md e = true → e.on ≠ i) → oi.apart ops ok = true := fun k ok hk hki hun hno => by
        refine hfree k ok hk hki ?_ hno
        by_cases hjk : j = k
        · subst hjk; exact hjun
        · rw [getD_set_ne true hjk] at hun; exact hun
      unfold gOp
      rw [if_neg (by omega)]
      intro g'
      refine ih (listed.setIfInBounds j true) _ (inv.set hj hjn) (fun k hk => by rw [getD_set_ne false (by omega)]; exact hall0 k hk) hfree' (ready_mono hr (Ne.symm hji)) (fun g => ?_)
      have h1 := ((H g).2 j (ready_mono hj hji)).2
      unfold gOp at h1
      rw [if_neg (by omega)] at h1
      have h3 := h1 g'
      rw [edj] at h3 ⊢
      rw [Array.setIfInBounds_comm _ _ hji, ← Act.put_comm a _ _ h2]
      exact h3

/-- the lexical walk: q quiet operations, then new blocks -/
def wpLexG (P : Program) (ops : Array Oper) (C : World → Prop) (Lq : Act → Prop) : Nat → List Oper → Act → Prop
  | _, [], a => Lq a
  | 0, o :: l, a => ∀ g, wpLexG P ops C Lq 0 l (a.put o.dst (ptrAt g))
  | q + 1, o :: l, a => if Region.wanted o (yielded ops a.tmps) then o.quiet P a C (wpLexG P ops C Lq q l) else wpLexG P ops C Lq q l (a.put o.dst undef)
def alWalk (Lq : Act → Prop) : List Oper → Act → Prop
  | [], a => Lq a
  | o :: l, a => ∀ g, alWalk Lq l (a.put o.dst (ptrAt g))
theorem wpLexG_zero {Lq : Act → Prop} : ∀ (l : List Oper) (a : Act), alWalk Lq l a → wpLexG P ops C Lq 0 l a
  | [], _, h => h
  | _ :: l, _, h => fun g => wpLexG_zero l _ (h g)
theorem wpLexG_of {Lq : Act → Prop} : ∀ (q : Nat) (l : List Oper) (a : Act), wpQuiet P ops C (alWalk Lq (l.drop q)) (l.take q) a → wpLexG P ops C Lq q l a
  | 0, l, a, h => wpLexG_zero l a h
  | _ + 1, [], a, h => h
  | q + 1, o :: l, a, h => by
    simp only [List.take_succ_cons, List.drop_succ_cons] at h
    unfold wpQuiet at h
    unfold wpLexG
    split
    · rw [if_pos ‹_›] at h; exact Oper.quiet_mono (fun a' h' => wpLexG_of q l a' h') h
    · rw [if_neg ‹_›] at h; exact wpLexG_of q l _ h

theorem wpAnyG_lex {h n g : Nat} {Lq : Act → Prop} (hsel : Region.noSelect ops = true) (hs : Region.sinkB md ops n = true) (hc : Region.chainB md ops n = true) (hn : n < ops.size) :
    ∀ (l : List Oper) (k q : Nat) (listed : Array Bool) (a : Act), (∀ j, j < l.length → l[j]? = ops[k + j]?) → k + l.length = n → q = h - k → HeadInv md ops n listed → (∀ j, j < k → listed.getD j false = true) →
    Region.lexHead md ops g l.length k listed = true → wpLexG P ops C Lq q l a →
    wpAnyG P md ops C h n (fun listed' a' => Region.seqB md ops g n listed' = true ∧ Lq a') l.length listed a
  | [], k, q, listed, a, _, hk, _, _, _, hB, hh => by
    have : k = n := by simpa using hk
    subst this
    exact ⟨by simpa [Region.lexHead] using hB, by cases q <;> exact hh⟩
  | o :: l, k, q, listed, a, hl, hk, hq, inv, hL, hB, hh => by
    have h0 : ops[k]? = some o := by simpa using (hl 0 (by simp)).symm
    simp only [List.length_cons, Region.lexHead, Bool.and_eq_true] at hB
    obtain ⟨⟨hr, hf⟩, hB'⟩ := hB
    have hkn : k < n := by simp only [List.length_cons] at hk; omega
    have hr' : k ∈ Region.ready md ops listed := by simpa using hr
    have hL' : ∀ j, j < k + 1 → (listed.setIfInBounds k true).getD j false = true := fun j hj => by
      by_cases e : k = j
      · subst e
        have hlt : k < listed.size := by rw [inv.size]; omega
        simp [hlt]
      · rw [getD_set_ne false e]; exact hL j (by omega)
    have next := fun (a' : Act) (q' : Nat) (hq' : q' = h - (k + 1)) (hh' : wpLexG P ops C Lq q' l a') => wpAnyG_lex (Lq := Lq) (h := h) (g := g) hsel hs hc hn l (k + 1) q' (listed.setIfInBounds k true) a' (fun j hj => by have := hl (j + 1) (by simp; omega); simpa [Nat.add_assoc, Nat.add_comm 1 j] using this) (by simp only [List.length_cons] at hk; omega) hq' (inv.set hr' hkn) hL' hB' hh'
    match q, hq, hh with
    | 0, hq, hh =>
      exact wpAnyG_firstA h0 hs hc hn hkn (by omega) (fun listed' a' hL => seqB_ready hL.1) l.length listed a inv (fun j hj => hL j (by omega)) (Region.free_spec h0 hf) hr' (fun g => next _ 0 (by omega) (hh g))
    | q + 1, hq, hh =>
      have hst : qOp P ops C k (wpLexG P ops C Lq q l) a := by unfold qOp; simp only [h0]; exact hh
      obtain ⟨v, hy, hK⟩ := yieldsIn_of_qOp h0 hst
      exact wpAnyG_first h0 (Region.noSelect_spec hsel) hs hc hn hkn (by omega) (fun listed' a' hL => seqB_ready hL.1) l.length listed a inv (Region.free_spec h0 hf) hr' hy (next _ q (by omega) hK)
end
end Go.Proofs.YtjmagehfkcnjjaaGreatDoor

/-
  The rule for a region that draws its order, with new blocks beside reads and calls, and a forced tail.
-/
namespace Go.Proofs.YtjmagehfkcnjjaaGreatDoor
set_option linter.unusedVariables false
open Go.RowKit

section
variable {P : Program} {ops : Array Oper} {md : Region.Mode} {w : World}

/-- what holds of the new blocks -/
structure Laid (md : Region.Mode) (ops : Array Oper) (w : World) (h n : Nat) (z : Nat → Obj) (S : Nat) (listed : Array Bool) (a : Act) (wc : World) (G : Nat → Nat) : Prop where
  inv : HeadInv md ops n listed
  size : a.tmps.size = S
  below : Below w.heap.size w wc
  at_ : ∀ i d, h ≤ i → i < n → listed.getD i false = true → dstOf ops i = some d → a.tmps[d]? = some (ptrAt (G i)) ∧ w.heap.size ≤ G i ∧ wc.heap[G i]? = some (z i)
  ne : ∀ i j, h ≤ i → i < n → h ≤ j → j < n → listed.getD i false = true → listed.getD j false = true → i ≠ j → G i ≠ G j

/-- which operations make blocks, and of what -/
def AlOps (P : Program) (ops : Array Oper) (h n : Nat) (z : Nat → Obj) (S : Nat) : Prop :=
  (∀ i, h ≤ i → i < n → ∃ o d T, ops[i]? = some o ∧ o.op = .alloc T ∧ o.dst = some d ∧ o.guard = none ∧ d < S ∧ (∀ v : World, (Instr.alloc T true (.tuple #[])).run P v = .ok (ptrAt v.heap.size) (v.alloc (z i)))) ∧
  (∀ i j d, h ≤ i → i < n → j < n → j ≠ i → dstOf ops i = some d → dstOf ops j ≠ some d)

theorem alloc_new (v : World) (o : Obj) : (v.alloc o).heap[v.heap.size]? = some o := by unfold World.alloc; simp
theorem put_size (a : Act) (d : Option Tmp) (v : Value) : (a.put d v).tmps.size = a.tmps.size := by
  cases d <;> simp [Act.put]
theorem put_other (a : Act) (d : Option Tmp) (e : Tmp) (v : Value) (h : d ≠ some e) : (a.put d v).tmps[e]? = a.tmps[e]? := by
  cases d with
  | none => rfl
  | some d => simp only [Act.put]; rw [Array.getElem?_setIfInBounds_ne (fun k => h (by rw [k]))]
theorem put_same (a : Act) (e : Tmp) (v : Value) (h : e < a.tmps.size) : (a.put (some e) v).tmps[e]? = some v := by
  simp [Act.put, h]

theorem wpAny_of_G {h n g S : Nat} {z : Nat → Obj} {Q' : Exit → Act → World → Prop} {L : Array Bool → Act → Prop} (hA : AlOps P ops h n z S) (hni : ∀ i o, i < h → ops[i]? = some o → NoInitOp P o)
    (hL : ∀ listed a wc G, Laid md ops w h n z S listed a wc G → L listed a → wpAny P md ops Q' g listed a wc) :
    ∀ (f : Nat) (listed : Array Bool) (a : Act) (wc : World) (G : Nat → Nat), Laid md ops w h n z S listed a wc G →
      (∀ y : Later wc, wpAnyG P md ops (fun w' => ∃ x : Later y.out, w' = x.out) h n L f listed a) → wpAny P md ops Q' (f + g) listed a wc
  | 0, listed, a, wc, G, hl, hT => by rw [Nat.zero_add]; exact hL _ _ _ _ hl (hT ⟨wc, Below.refl _ _⟩)
  | f + 1, listed, a, wc, G, hl, hT => by
    rw [show f + 1 + g = (f + g) + 1 by omega]
    have h0 := hT ⟨wc, Below.refl _ _⟩
    refine ⟨fun e => absurd e h0.1, fun i hi => ?_⟩
    obtain ⟨hin, h1⟩ := h0.2 i hi
    obtain ⟨hun, oi, hoi, hall⟩ := mem_ready.1 hi
    have hoth : ∀ k, k ≠ i → (listed.setIfInBounds i true).getD k false = listed.getD k false := fun k e => getD_set_ne false (Ne.symm e)
    by_cases hq : i < h
    · unfold gOp at h1
      rw [if_pos hq] at h1
      obtain ⟨v, hy, hK⟩ := yieldsIn_of_qOp hoi h1
      refine wpOp_of_qOp (C := fun w' => ∃ x : Later wc, w' = x.out) (K := fun a' => a' = a.put oi.dst v) ⟨⟨wc, Below.refl _ _⟩, rfl⟩ ?_ (hy.qOp hoi rfl)
      rintro a' w' ⟨x, rfl⟩ rfl
      have hdi : dstOf ops i = oi.dst := by simp [dstOf, hoi]
      refine wpAny_of_G hA hni hL f _ _ _ G ⟨hl.inv.set hi hin, by rw [put_size]; exact hl.size, hl.below.trans (x.below.mono hl.below.size), ?_, ?_⟩ (fun y => ?_)
      · intro k d k1 k2 k3 k4
        have hne : k ≠ i := by omega
        rw [hoth k hne] at k3
        obtain ⟨e1, e2, e3⟩ := hl.at_ k d k1 k2 k3 k4
        refine ⟨?_, e2, ?_⟩
        · rw [put_other _ _ _ _ (by rw [← hdi]; exact hA.2 k i d k1 k2 hin (Ne.symm hne) k4)]; exact e1
        · exact (x.below.block _ (Array.getElem?_eq_some_iff.1 e3).1).trans e3
      · intro k j k1 k2 j1 j2 k3 j3 hkj
        rw [hoth k (by omega)] at k3
        rw [hoth j (by omega)] at j3
        exact hl.ne k j k1 k2 j1 j2 k3 j3 hkj
      · have h2 := ((hT ⟨y.out, x.below.trans (y.below.mono x.below.size)⟩).2 i hi).2
        unfold gOp at h2
        rw [if_pos hq] at h2
        obtain ⟨v', hy', hK'⟩ := yieldsIn_of_qOp hoi h2
        have e : v = v' := yields_one (w := y.out) (hni i oi hq hoi) ⟨⟨y.out, x.below.trans (y.below.mono x.below.size)⟩, rfl⟩ ⟨⟨y.out, Below.refl _ _⟩, rfl⟩ hy hy'
        subst e
        exact hK'
    · obtain ⟨o, d, T, ho, hop, hd, hg, hds, hrun⟩ := hA.1 i (by omega) hin
      obtain rfl : o = oi := Option.some.inj (ho.symm.trans hoi)
      have hdi : dstOf ops i = some d := by simp [dstOf, hoi, hd]
      unfold wpOp
      simp only [hoi]
      have hw : Region.wanted o (yielded ops a.tmps) = true := by simp [Region.wanted, hg]
      rw [if_pos hw]
      refine .inl ?_
      unfold Oper.wp
      have hx : (execOp a.eval o).run P wc = .ok (.value (ptrAt wc.heap.size)) (wc.alloc (z i)) := by
        unfold execOp
        rw [hop]
        simp [hrun]
      rw [hx, Oper.upon_value, hd]
      have hb : Below wc.heap.size wc (wc.alloc (z i)) := (Below.refl _ wc).alloc (Nat.le_refl _) _
      refine wpAny_of_G hA hni hL f _ _ _ (fun k => if k = i then wc.heap.size else G k) ⟨hl.inv.set hi hin, by rw [put_size]; exact hl.size, hl.below.trans (hb.mono hl.below.size), ?_, ?_⟩ (fun y => ?_)
      · intro k e k1 k2 k3 k4
        by_cases hki : k = i
        · subst hki
          rw [if_pos rfl]
          obtain rfl : e = d := Option.some.inj (k4.symm.trans hdi)
          exact ⟨put_same _ _ _ (by rw [hl.size]; exact hds), hl.below.size, alloc_new _ _⟩
        · rw [if_neg hki]
          rw [hoth k hki] at k3
          obtain ⟨e1, e2, e3⟩ := hl.at_ k e k1 k2 k3 k4
          refine ⟨?_, e2, ?_⟩
          · rw [put_other _ _ _ _ (by rw [← hdi]; exact hA.2 k i e k1 k2 hin (Ne.symm hki) k4)]; exact e1
          · exact (hb.block _ (Array.getElem?_eq_some_iff.1 e3).1).trans e3
      · have lt : ∀ k, h ≤ k → k < n → k ≠ i → (listed.setIfInBounds i true).getD k false = true → G k < wc.heap.size := fun k k1 k2 hki k3 => by
          rw [hoth k hki] at k3
          obtain ⟨o', d', T', ho', _, hd', _⟩ := hA.1 k k1 k2
          have := (hl.at_ k d' k1 k2 k3 (by simp [dstOf, ho', hd'])).2.2
          exact (Array.getElem?_eq_some_iff.1 this).1
        intro k j k1 k2 j1 j2 k3 j3 hkj
        by_cases hki : k = i
        · subst hki
          rw [if_pos rfl, if_neg (Ne.symm hkj)]
          have := lt j j1 j2 (Ne.symm hkj) j3
          omega
        · by_cases hji : j = i
          · subst hji
            rw [if_pos rfl, if_neg hki]
            have := lt k k1 k2 hki k3
            omega
          · rw [if_neg hki, if_neg hji]
            rw [hoth k hki] at k3
            rw [hoth j hji] at j3
            exact hl.ne k j k1 k2 j1 j2 k3 j3 hkj
      · have h2 := ((hT ⟨y.out, hb.trans (y.below.mono hb.size)⟩).2 i hi).2
        unfold gOp at h2
        rw [if_neg hq, hdi] at h2
        exact h2 wc.heap.size

theorem wp_region_later_als {id : Nat} {Q : Exit → Act → World → Prop} {a : Act} {l : List Oper} (h n : Nat) (z : Nat → Obj) (hhn : h ≤ n) (hm : P.follows .mixedOrders = true) (hB : Region.lexTailB .any l.toArray n = true)
    (hA : AlOps P l.toArray h n z a.tmps.size) (hni : NoInit P (l.take h))
    (H : ∀ y : Later w, wpQuiet P l.toArray (fun w' => ∃ x : Later y.out, w' = x.out) (alWalk (fun a' => ∀ (x : Later w) (G : Nat → Nat),
        (∀ i d, h ≤ i → i < n → dstOf l.toArray i = some d → a'.tmps[d]? = some (ptrAt (G i)) ∧ w.heap.size ≤ G i ∧ x.out.heap[G i]? = some (z i)) →
        (∀ i j, h ≤ i → i < n → h ≤ j → j < n → i ≠ j → G i ≠ G j) → wpList P l.toArray Q (l.drop n) a' x.out) ((l.take n).drop h)) (l.take h) a) : (Code.region id l.toArray true).wp P Q a w := by
  simp only [Region.lexTailB, Bool.and_eq_true, decide_eq_true_eq] at hB
  obtain ⟨⟨⟨⟨hsel, hn⟩, hs⟩, hc⟩, hlex⟩ := hB
  have hn' : n < l.length := by simpa using hn
  have htl : (l.take n).length = n := by simp; omega
  have hdl : (l.drop n).length = l.toArray.size - n := by simp
  have hth : (l.take n).take h = l.take h := by rw [List.take_take]; congr 1; omega
  have inv0 : HeadInv .any l.toArray n (Array.replicate l.toArray.size false) :=
    ⟨by simp, fun j oj _ hl => (by rw [getD_replicate_false] at hl; cases hl), fun t _ ht => getD_in (by simpa using ht) (getD_replicate_false _ _)⟩
  refine wp_region_any hm ?_
  have hb : Below w.heap.size w w.drew := (Below.refl _ w).drew
  have := wpAny_of_G (P := P) (ops := l.toArray) (md := .any) (w := w) (h := h) (n := n) (g := l.toArray.size - n) (S := a.tmps.size) (z := z) (Q' := Q)
    (L := fun listed' a' => Region.seqB .any l.toArray (l.toArray.size - n) n listed' = true ∧ (∀ (x : Later w) (G : Nat → Nat),
        (∀ i d, h ≤ i → i < n → dstOf l.toArray i = some d → a'.tmps[d]? = some (ptrAt (G i)) ∧ w.heap.size ≤ G i ∧ x.out.heap[G i]? = some (z i)) →
        (∀ i j, h ≤ i → i < n → h ≤ j → j < n → i ≠ j → G i ≠ G j) → wpList P l.toArray Q (l.drop n) a' x.out))
    hA (fun i o hi ho => hni.at (i := i) (by rw [List.getElem?_take_of_lt hi]; simpa using ho)) ?_ (l.take n).length (Array.replicate l.toArray.size false) a w.drew (fun _ => 0)
    ⟨inv0, rfl, hb, fun i d _ _ hl _ => (by rw [getD_replicate_false] at hl; cases hl), fun i j _ _ _ _ hl _ _ => (by rw [getD_replicate_false] at hl; cases hl)⟩ ?_
  · rw [htl, show n + (l.toArray.size - n) = l.toArray.size by omega] at this
    exact this
  · rintro listed a' wc G hl ⟨hL, hq⟩
    have all : ∀ i, i < n → listed.getD i false = true := fun i hi => by
      rcases hx : listed.getD i false with _ | _
      · have hlt : i < listed.size := by rw [hl.inv.size]; omega
        have hno := tail_waits hs hc hn hl.inv _ i rfl hi (getD_in hlt hx) n (Nat.le_refl _)
        obtain ⟨g, hg⟩ : ∃ g, l.toArray.size - n = g + 1 := ⟨l.toArray.size - n - 1, by omega⟩
        rw [hg] at hL
        simp only [Region.seqB, Bool.and_eq_true, decide_eq_true_eq] at hL
        rw [hL.1] at hno
        simp at hno
      · rfl
    have hf := hq ⟨wc, hl.below⟩ G (fun i d h1 h2 h3 => hl.at_ i d h1 h2 (all i h2) h3) (fun i j h1 h2 h3 h4 hij => hl.ne i j h1 h2 h3 h4 (all i h2) (all j h4) hij)
    have := wpAny_of_seq (md := .any) (Q' := Q) (l.drop n) n listed a' wc (fun j => by simp [List.getElem?_drop]) (by rw [hdl]; exact hL) hf
    rwa [hdl] at this
  · intro y
    have hw := H ⟨y.out, hb.trans (y.below.mono hb.size)⟩
    exact wpAnyG_lex (md := .any) (g := l.toArray.size - n) hsel hs hc hn (l.take n) 0 h _ a (fun j hj => by
      have hj' : j < n := by rw [htl] at hj; exact hj
      simp [hj']) (by simpa using htl) (by omega) inv0 (fun j hj => by omega) (by rw [htl]; exact hlex) (wpLexG_of h (l.take n) a (by rw [hth]; exact hw))

/-- one new block -/
theorem wp_region_later_al1 {id : Nat} {Q : Exit → Act → World → Prop} {a : Act} {l : List Oper} (h d : Nat) (z : Obj) (hm : P.follows .mixedOrders = true) (hB : Region.lexTailB .any l.toArray (h + 1) = true)
    (hA : ∃ o T, l[h]? = some o ∧ o.op = .alloc T ∧ o.dst = some d ∧ o.guard = none ∧ (∀ v : World, (Instr.alloc T true (.tuple #[])).run P v = .ok (ptrAt v.heap.size) (v.alloc z)))
    (hd : d < a.tmps.size) (hne : (l.take h).all (fun o => o.dst != some d) = true) (hni : NoInit P (l.take h))
    (H : ∀ y : Later w, wpQuiet P l.toArray (fun w' => ∃ x : Later y.out, w' = x.out) (fun a' => ∀ (g : Nat) (x : Later w), w.heap.size ≤ g → x.out.heap[g]? = some z →
        wpList P l.toArray Q (l.drop (h + 1)) (a'.put (some d) (.pointer (some ⟨g, 0, none⟩))) x.out) (l.take h) a) : (Code.region id l.toArray true).wp P Q a w := by
  obtain ⟨o, T, ho, hop, hdst, hg, hrun⟩ := hA
  have ho' : l.toArray[h]? = some o := by simpa using ho
  have hdo : dstOf l.toArray h = some d := by simp [dstOf, ho, hdst]
  have hhl : h < l.length := by
    rcases Nat.lt_or_ge h l.length with k | k
    · exact k
    · rw [List.getElem?_eq_none k] at ho; cases ho
  refine wp_region_later_als h (h + 1) (fun _ => z) (by omega) hm hB ⟨fun i h1 h2 => ?_, fun i j e h1 h2 h3 h4 h5 => ?_⟩ hni (fun y => ?_)
  · obtain rfl : i = h := by omega
    exact ⟨o, d, T, ho', hop, hdst, hg, hd, hrun⟩
  · obtain rfl : i = h := by omega
    obtain rfl : e = d := Option.some.inj (h5.symm.trans hdo)
    have hjl : j < l.length := by omega
    have hj := List.all_eq_true.1 hne (l[j]) (by rw [List.mem_take_iff_getElem]; exact ⟨j, by omega, rfl⟩)
    simp only [bne_iff_ne, ne_eq] at hj
    simpa [dstOf, hjl] using hj
  · refine wpQuiet_post (fun a' h' => ?_) _ _ (H y)
    have e : (l.take (h + 1)).drop h = [o] := by
      rw [List.take_add_one, ho, List.drop_append_of_le_length (by simp; omega)]
      simp
    rw [e]
    intro g x G hG _
    have k := hG h d (Nat.le_refl _) (by omega) hdo
    rw [hdst] at k ⊢
    have hlt : d < a'.tmps.size := by
      rcases Nat.lt_or_ge d a'.tmps.size with q | q
      · exact q
      · have := k.1
        rw [Array.getElem?_eq_none (by rw [put_size]; exact q)] at this
        cases this
    rw [put_same _ _ _ hlt] at k
    have eg : g = G h := by have := k.1; unfold ptrAt at this; simpa using this
    exact h' g x (by rw [eg]; exact k.2.1) (by rw [eg]; exact k.2.2)
end
end Go.Proofs.YtjmagehfkcnjjaaGreatDoor

/-
  What a block holds, as one word; how stores, new blocks and calls keep it.
-/
namespace Go.Proofs.YtjmagehfkcnjjaaGreatDoor
set_option linter.unusedVariables false
open Go.RowKit

/-- block b holds these cells, none of them frozen -/
def Blk (W : World) (b : Nat) (T : TypeId) (c : Array Value) : Prop := W.heap[b]? = some (.cells c T)
theorem Blk.lt {W : World} {b : Nat} {T : TypeId} {c : Array Value} (h : Blk W b T c) : b < W.heap.size := (Array.getElem?_eq_some_iff.1 h).1
theorem Blk.cell {W : World} {b : Nat} {T : TypeId} {c : Array Value} (h : Blk W b T c) (i : Nat) : W.cell? ⟨b, i, none⟩ = c[i]? := by
  unfold Blk at h; simp [World.cell?, h]
theorem Blk.frozen {W : World} {b : Nat} {T : TypeId} {c : Array Value} (h : Blk W b T c) (i : Nat) : W.frozen? ⟨b, i, none⟩ = false := by
  unfold Blk at h; simp [World.frozen?, h]
theorem Blk.set {W : World} {b : Nat} {T : TypeId} {c : Array Value} (h : Blk W b T c) (i : Nat) (v : Value) : Blk (W.setCell ⟨b, i, none⟩ v) b T (c.setIfInBounds i v) := by
  have hl := h.lt
  unfold Blk at *
  simp only [World.setCell, Array.getElem?_modify, if_true, h]
  simp
theorem Blk.other {W : World} {b b' : Nat} {T : TypeId} {c : Array Value} (h : Blk W b T c) (i : Nat) (v : Value) (hne : b ≠ b') : Blk (W.setCell ⟨b', i, none⟩ v) b T c :=
  (Below.heap_setCell W ⟨b', i, none⟩ v b hne).trans h
theorem Blk.new (W : World) (T : TypeId) (c : Array Value) : Blk (W.alloc (.cells c T)) W.heap.size T c := alloc_new W _
theorem Blk.new' {W : World} {b : Nat} {T : TypeId} {c : Array Value} (h : b = W.heap.size) : Blk (W.alloc (.cells c T)) b T c := h ▸ Blk.new W T c
theorem Blk.alloc {W : World} {b : Nat} {T : TypeId} {c : Array Value} (h : Blk W b T c) (o : Obj) : Blk (W.alloc o) b T c := (Below.heap_alloc W o b h.lt).trans h
theorem Blk.drew {W : World} {b : Nat} {T : TypeId} {c : Array Value} (h : Blk W b T c) : Blk W.drew b T c := h
theorem Blk.later {W : World} {b : Nat} {T : TypeId} {c : Array Value} (h : Blk W b T c) (x : Later W) : Blk x.out b T c := (x.below.block b h.lt).trans h
theorem Blk.below {W W' : World} {B b : Nat} {T : TypeId} {c : Array Value} (h : Blk W b T c) (k : Below B W W') (hb : b < B) : Blk W' b T c := (k.block b hb).trans h
theorem Blk.heap {W W' : World} {b : Nat} {T : TypeId} {c : Array Value} (h : Blk W b T c) (k : W'.heap[b]? = W.heap[b]?) : Blk W' b T c := k.trans h
theorem Blk.eq {W : World} {b : Nat} {T : TypeId} {c c' : Array Value} (h : Blk W b T c) (e : c = c') : Blk W b T c' := e ▸ h
theorem Blk.grown {W W' : World} {b N : Nat} {T : TypeId} {c : Array Value} {row : Option Nat} (h : Blk W b T c) (hg : W.grownBy W' row) (hr : ∀ r, row = some r → N ≤ r) (hb : b < N) : Blk W' b T c :=
  (hg.block b h.lt (fun e => by have := hr b e.symm; omega)).trans h
/-- what the walk is given of a block -/
theorem Blk.all {W : World} {b : Nat} {T : TypeId} {c : Array Value} (h : Blk W b T c) : (∀ i, W.cell? ⟨b, i, none⟩ = c[i]?) ∧ (∀ i, W.frozen? ⟨b, i, none⟩ = false) ∧ b < W.heap.size := ⟨h.cell, h.frozen, h.lt⟩
end Go.Proofs.YtjmagehfkcnjjaaGreatDoor

/-
  A region that draws its order, in a loop's body that an iterator calls: reads, reckonings and calls that keep what lay before, and a tail whose order is forced.
-/
namespace Go.Proofs.YtjmagehfkcnjjaaGreatDoor
set_option linter.unusedVariables false
open Go.RowKit

section
variable {P : Program} {ops : Array Oper} {md : Region.Mode} {C : World → Prop} {r n : Nat}
def noDefer (l : List Oper) : Bool := l.all fun o => match o.op with | .defer _ => false | _ => true
theorem noDefer_at {l : List Oper} (h : noDefer l = true) {i : Nat} {o : Oper} (ho : l.toArray[i]? = some o) : ∀ c, o.op ≠ .defer c := by
  intro c e
  have hm : o ∈ l := List.mem_of_getElem? (by simpa using ho)
  have := List.all_eq_true.1 h o hm
  rw [e] at this
  cases this
theorem callsInRound {f : FuncId} {args : Array Value} {w : World} {R : Ending → World → Prop} {k : Nat} (h : Calls P f args w R) : CallsIn (Fence.wide.inRound r) k P f args w R :=
  (callsIn_wide (n := k)).2 h
theorem wpInRound_of_quiet {o : Oper} {a : Act} {K : Act → Prop} {K' : Act → World → Prop} {Q' : Exit → Act → World → Prop} {w : World} (hd : ∀ c, o.op ≠ .defer c) (hw : C w) (h : ∀ a w', C w' → K a → K' a w')
    (hh : o.quiet P a C K) : o.wpIn (Fence.wide.inRound r) n P a w K' Q' := by
  obtain ⟨v, h1, h2⟩ := hh
  have h3 := h1 w hw
  unfold Oper.quietAt at h3
  unfold Oper.wpIn
  refine ⟨fun _ _ => trivial, ?_⟩
  rw [Fence.inRound_round, Oper.semAt_some _ _ _ hd]
  generalize (execOp a.eval o).run P w = q at *
  cases q with
  | ok x w' =>
    cases x <;> simp only [Oper.quietUpon] at h3 <;> simp only [Oper.uponIn]
    case value u =>
      obtain ⟨e1, e2⟩ := h3
      rw [e1, e2]
      exact h _ _ hw h2
    case skip =>
      obtain ⟨e1, e2⟩ := h3
      rw [e1, ← e2]
      exact h _ _ hw h2
    case enter f args =>
      obtain ⟨e1, hc⟩ := h3
      rw [e1]
      exact ⟨fun hd => by simp [Fence.wide] at hd, callsInRound (hc.mono fun e w'' ⟨he, hw''⟩ => by subst he; exact h _ _ hw'' h2)⟩
  | halt x w' => simp only [Oper.quietUpon] at h3
theorem wpOpInRound_of_qOp {i : Nat} {a : Act} {K : Act → Prop} {K' : Act → World → Prop} {Q' : Exit → Act → World → Prop} {w : World} (hd : ∀ o, ops[i]? = some o → ∀ c, o.op ≠ .defer c) (hC : C w) (h : ∀ a w', C w' → K a → K' a w')
    (hh : qOp P ops C i K a) : wpOpIn (Fence.wide.inRound r) n P ops Q' i K' a w := by
  unfold qOp at hh
  unfold wpOpIn
  split
  · rename_i ho; simp only [ho] at hh; exact h _ _ hC hh
  · rename_i o ho
    simp only [ho] at hh
    split
    · rename_i hw; simp only [hw, if_true] at hh; exact wpInRound_of_quiet (hd o ho) hC h hh
    · rename_i hw; simp only [hw] at hh; exact ⟨fun _ _ => trivial, h _ _ hC hh⟩
theorem wpAnyIn_of_headM {h g : Nat} {L : Array Bool → Act → Prop} {Q' : Exit → Act → World → Prop} (hd : ∀ (i : Nat) (o : Oper), ops[i]? = some o → ∀ c, o.op ≠ .defer c) (hL : ∀ listed a w, C w → L listed a → wpAnyIn (Fence.wide.inRound r) n P md ops Q' g listed a w) :
    ∀ (f : Nat) (listed : Array Bool) (a : Act) (w : World), C w → wpAnyM P md ops C h L f listed a → wpAnyIn (Fence.wide.inRound r) n P md ops Q' (f + g) listed a w
  | 0, listed, a, w, hw, hh => by rw [Nat.zero_add]; exact hL _ _ _ hw hh
  | f + 1, listed, a, w, hw, hh => by
    rw [show f + 1 + g = (f + g) + 1 by omega]
    exact ⟨fun h0 => absurd h0 hh.1, fun i hi => wpOpInRound_of_qOp (hd i) hw (fun a' w' hw' h' => wpAnyIn_of_headM hd hL f _ a' w' hw' h') (hh.2 i hi).2⟩
theorem wpAnyIn_of_seq {F : Fence} {Q' : Exit → Act → World → Prop} : ∀ (l : List Oper) (k : Nat) (listed : Array Bool) (a : Act) (w : World), (∀ j, l[j]? = ops[k + j]?) →
    Region.seqB md ops l.length k listed = true → wpListIn F n P ops Q' l a w → wpAnyIn F n P md ops Q' l.length listed a w
  | [], _, _, _, _, _, hB, h => ⟨by simpa [Region.seqB] using hB, h⟩
  | o :: l, k, listed, a, w, hl, hB, h => by
    have h0 : ops[k]? = some o := by simpa using (hl 0).symm
    simp only [List.length_cons, Region.seqB, Bool.and_eq_true, decide_eq_true_eq] at hB
    obtain ⟨hr, hB'⟩ := hB
    refine ⟨fun h1 => (by rw [hr] at h1; cases h1), fun i hi => ?_⟩
    rw [hr] at hi
    obtain rfl : i = k := by simpa using hi
    have next : ∀ a' w', wpListIn F n P ops Q' l a' w' → wpAnyIn F n P md ops Q' l.length (listed.setIfInBounds i true) a' w' := fun a' w' h' =>
      wpAnyIn_of_seq l (i + 1) _ a' w' (fun j => by have := hl (j + 1); simpa [Nat.add_assoc, Nat.add_comm 1 j] using this) hB' h'
    unfold wpOpIn
    simp only [h0]
    unfold wpListIn at h
    split
    · rw [if_pos ‹_›] at h; exact Oper.wpIn_mono next h
    · rw [if_neg ‹_›] at h; exact ⟨h.1, next _ _ h.2⟩

theorem wpIn_region_later_tail {w : World} {id : Nat} {Q : Exit → Act → World → Prop} {a : Act} {l : List Oper} (h : Nat) (hm : P.follows .mixedOrders = true) (hB : Region.lexTailB .any l.toArray h = true) (hnd : noDefer l = true)
    (hh : wpQuiet P l.toArray (fun w' => ∃ x : Later w, w' = x.out) (fun a' => ∀ x : Later w, wpListIn (Fence.wide.inRound r) n P l.toArray Q (l.drop h) a' x.out) (l.take h) a) : (Code.region id l.toArray true).wpIn (Fence.wide.inRound r) n P Q a w := by
  simp only [Region.lexTailB, Bool.and_eq_true, decide_eq_true_eq] at hB
  obtain ⟨⟨⟨⟨hsel, hn⟩, hs⟩, hc⟩, hlex⟩ := hB
  have hn' : h < l.length := by simpa using hn
  have htl : (l.take h).length = h := by simp; omega
  have hdl : (l.drop h).length = l.toArray.size - h := by simp
  have inv0 : HeadInv .any l.toArray h (Array.replicate l.toArray.size false) :=
    ⟨by simp, fun j oj _ hl => (by rw [getD_replicate_false] at hl; cases hl), fun t _ ht => getD_in (by simpa using ht) (getD_replicate_false _ _)⟩
  have H := wpAnyM_lex (md := .any) (g := l.toArray.size - h) hsel hs hc hn (l.take h) 0 _ a (fun j hj => by
    have hj' : j < h := by rw [htl] at hj; exact hj
    simp [hj']) (by simpa using htl) inv0 (by rw [htl]; exact hlex) hh
  refine wpIn_region_any hm ?_
  have hC : ∃ x : Later w, w.drew = x.out := ⟨⟨w.drew, (Below.refl _ _).drew⟩, rfl⟩
  have := wpAnyIn_of_headM (r := r) (n := n) (Q' := Q) (g := l.toArray.size - h) (C := fun w' => ∃ x : Later w, w' = x.out) (fun i o ho => noDefer_at hnd ho) (fun listed a' w' hw' hL => by
    obtain ⟨x, rfl⟩ := hw'
    have := wpAnyIn_of_seq (F := Fence.wide.inRound r) (n := n) (md := .any) (Q' := Q) (l.drop h) h listed a' x.out (fun j => by simp [List.getElem?_drop]) (by rw [hdl]; exact hL.1) (hL.2 x)
    rwa [hdl] at this) _ _ _ w.drew hC H
  rw [htl, show h + (l.toArray.size - h) = l.toArray.size by omega] at this
  exact this
theorem wpIn_region_later {w : World} {id : Nat} {Q : Exit → Act → World → Prop} {a : Act} {l : List Oper} (hm : P.follows .mixedOrders = true) (hB : Region.lexB .any l.toArray = true) (hnd : noDefer l = true)
    (hh : wpQuiet P l.toArray (fun w' => ∃ x : Later w, w' = x.out) (fun a' => ∀ x : Later w, Q .normal a' x.out) l a) : (Code.region id l.toArray true).wpIn (Fence.wide.inRound r) n P Q a w := by
  simp only [Region.lexB, Bool.and_eq_true] at hB
  refine wpIn_region_any hm ?_
  have hC : ∃ x : Later w, w.drew = x.out := ⟨⟨w.drew, (Below.refl _ _).drew⟩, rfl⟩
  have go : ∀ (fuel : Nat) (listed : Array Bool) (a : Act) (v : World), (∃ x : Later w, v = x.out) → wpAnyQ P .any l.toArray (fun w' => ∃ x : Later w, w' = x.out) (fun a' => ∀ x : Later w, Q .normal a' x.out) fuel listed a →
      wpAnyIn (Fence.wide.inRound r) n P .any l.toArray Q fuel listed a v := by
    intro fuel
    induction fuel with
    | zero => rintro listed a v ⟨x, rfl⟩ h; exact ⟨h.1, h.2 x⟩
    | succ f ih =>
      rintro listed a v ⟨x, rfl⟩ h
      exact ⟨fun h0 => h.1 h0 x, fun i hi => wpOpInRound_of_qOp (fun o ho => noDefer_at hnd ho) ⟨x, rfl⟩ (fun a' w' hw' h' => ih _ a' w' hw' h') (h.2 i hi)⟩
  have := wpAnyQ_lex (C := fun w' => ∃ x : Later w, w' = x.out) (md := .any) hB.1 l 0 (Array.replicate l.toArray.size false) a (by simp) (by simpa using hB.2) hh
  exact go _ _ a w.drew hC (by simpa using this)
end
end Go.Proofs.YtjmagehfkcnjjaaGreatDoor

/-
  A region that draws its order, and whose operations are told in two lists of places: those that read, reckon, and call functions that keep what lay before, in one order that is allowed; and those behind them all, in a forced order.
-/
namespace Go.Proofs.YtjmagehfkcnjjaaGreatDoor
set_option linter.unusedVariables false
open Go.RowKit

def wideAt (ro : Option Nat) : Fence := { Fence.wide with round := ro }
section
variable {P : Program} {ops : Array Oper} {C : World → Prop} {ro : Option Nat} {n : Nat}

/-- the operations at these places -/
def pick (l : List Oper) : List Nat → List Oper
  | [] => []
  | i :: r => match l[i]? with
    | some o => o :: pick l r
    | none => pick l r

def listedBy (m : Nat) (hs : List Nat) : Array Bool := hs.foldl (fun b i => b.setIfInBounds i true) (Array.replicate m false)
/-- places hs may come in this order, each one free of what is behind it -/
def headB (ops : Array Oper) : List Nat → Array Bool → Bool
  | [], _ => true
  | i :: r, b => decide (i < ops.size) && (Region.ready .any ops b).contains i && Region.free .any ops b i && headB ops r (b.setIfInBounds i true)
/-- places ts come in this order, and then none -/
def tailB (ops : Array Oper) : List Nat → Array Bool → Bool
  | [], b => (Region.ready .any ops b).isEmpty
  | t :: r, b => decide (Region.ready .any ops b = [t]) && tailB ops r (b.setIfInBounds t true)
/-- each of hs is waited for by a later one of hs, or by t0 -/
def sinkL (ops : Array Oper) (t0 : Nat) : List Nat → Bool
  | [] => true
  | i :: r => (Region.waitsFor .any ops t0 i || r.any fun j => Region.waitsFor .any ops j i) && sinkL ops t0 r
/-- a later one of the tail waits for the one ahead of it -/
def chainL (ops : Array Oper) : List Nat → Bool
  | t :: u :: r => Region.waitsFor .any ops u t && chainL ops (u :: r)
  | _ => true
def pickB (ops : Array Oper) (hs ts : List Nat) : Bool :=
  match ts with
  | [] => false
  | t0 :: r => Region.noSelect ops && headB ops hs (Array.replicate ops.size false) && tailB ops (t0 :: r) (listedBy ops.size hs) && sinkL ops t0 hs && chainL ops (t0 :: r) &&
    (List.range ops.size).all (fun i => hs.contains i || (t0 :: r).contains i) && (t0 :: r).all (fun t => !hs.contains t)

/-- while places of hs are open -/
structure Open (ops : Array Oper) (ts : List Nat) (listed : Array Bool) : Prop where
  size : listed.size = ops.size
  closed : ∀ j oj, ops[j]? = some oj → listed.getD j false = true → ∀ e ∈ oj.after, Region.binds .any e = true → listed.getD e.on false = true
  tail : ∀ t ∈ ts, listed.getD t false = false

theorem getD_false_in {b : Array Bool} {i : Nat} (h : b.getD i true = false) : b.getD i false = false := getD_both h

theorem Open.set {ts : List Nat} {i : Nat} {listed : Array Bool} (inv : Open ops ts listed) (hi : i ∈ Region.ready .any ops listed) (hin : i ∉ ts) : Open ops ts (listed.setIfInBounds i true) := by
  obtain ⟨_, oi, hoi, hall⟩ := mem_ready.1 hi
  refine ⟨by simp [inv.size], fun j oj hj hl e he hb => ?_, fun t ht => by rw [getD_set_ne false (fun h : i = t => hin (by rw [h]; exact ht))]; exact inv.tail t ht⟩
  by_cases hij : i = j
  · subst hij
    have : oj = oi := Option.some.inj (hj.symm.trans hoi)
    subst this
    exact getD_set_true (hall e he hb)
  · rw [getD_set_ne false hij] at hl
    exact getD_set_true (inv.closed j oj hj hl e he hb)

theorem sink_all {t0 : Nat} {listed : Array Bool} (hc : ∀ j oj, ops[j]? = some oj → listed.getD j false = true → ∀ e ∈ oj.after, Region.binds .any e = true → listed.getD e.on false = true)
    (ht : ∀ i, Region.waitsFor .any ops t0 i = true → listed.getD i false = true) : ∀ hs : List Nat, sinkL ops t0 hs = true → ∀ i ∈ hs, listed.getD i false = true
  | [], _, i, hi => by cases hi
  | k :: r, h, i, hi => by
    simp only [sinkL, Bool.and_eq_true, Bool.or_eq_true, List.any_eq_true] at h
    have rest := sink_all hc ht r h.2
    rcases List.mem_cons.1 hi with rfl | hi
    · rcases h.1 with h1 | ⟨j, hj, h1⟩
      · exact ht _ h1
      · obtain ⟨oj, hoj, e, he, hb, rfl⟩ := Region.waitsFor_spec h1
        exact hc j oj hoj (rest j hj) e he hb
    · exact rest i hi
theorem chain_wait : ∀ (q : List Nat) (p : Nat), chainL ops (p :: q) = true → ∀ t ∈ q, ∃ u, u ∈ p :: q ∧ Region.waitsFor .any ops t u = true
  | [], p, _, t, ht => by cases ht
  | u :: q, p, h, t, ht => by
    simp only [chainL, Bool.and_eq_true] at h
    rcases List.mem_cons.1 ht with rfl | ht
    · exact ⟨p, by simp, h.1⟩
    · obtain ⟨v, hv, h2⟩ := chain_wait q u h.2 t ht
      exact ⟨v, List.mem_cons_of_mem _ hv, h2⟩
/-- while one of hs is open none of the tail may come -/
theorem pick_waits {hs : List Nat} {t0 : Nat} {r : List Nat} (hsk : sinkL ops t0 hs = true) (hch : chainL ops (t0 :: r) = true) {listed : Array Bool} (inv : Open ops (t0 :: r) listed) {i : Nat} (hi : i ∈ hs) (hun : listed.getD i false = false) :
    ∀ t ∈ t0 :: r, t ∉ Region.ready .any ops listed := by
  intro t ht hr
  obtain ⟨_, ot, hot, hall⟩ := mem_ready.1 hr
  have dep : ∀ i, Region.waitsFor .any ops t i = true → listed.getD i false = true := fun i h => by
    obtain ⟨o', ho', e, he, hb, rfl⟩ := Region.waitsFor_spec h
    obtain rfl : o' = ot := Option.some.inj (ho'.symm.trans hot)
    exact hall e he hb
  rcases List.mem_cons.1 ht with rfl | ht'
  · have := sink_all inv.closed dep hs hsk i hi
    rw [hun] at this; cases this
  · obtain ⟨u, hu, h2⟩ := chain_wait r t0 hch t ht'
    have := dep u h2
    rw [inv.tail u hu] at this; cases this

def wpAnyH (P : Program) (ops : Array Oper) (C : World → Prop) (hs : List Nat) (L : Array Bool → Act → Prop) : Nat → Array Bool → Act → Prop
  | 0, listed, a => L listed a
  | f + 1, listed, a =>
    Region.ready .any ops listed ≠ [] ∧ ∀ i ∈ Region.ready .any ops listed, i ∈ hs ∧ qOp P ops C i (wpAnyH P ops C hs L f (listed.setIfInBounds i true)) a

theorem wpAnyH_first {hs : List Nat} {t0 : Nat} {r : List Nat} {i : Nat} {oi : Oper} {v : Value} {L : Array Bool → Act → Prop} (hi : ops[i]? = some oi) (hsel : ∀ (j : Nat) (o : Oper) cs b, ops[j]? = some o → o.op ≠ .select cs b)
    (hsk : sinkL ops t0 hs = true) (hch : chainL ops (t0 :: r) = true) (hcov : ∀ j, j < ops.size → j ∈ hs ∨ j ∈ t0 :: r) (hdis : ∀ t ∈ t0 :: r, t ∉ hs) (hin : i ∈ hs)
    (hdone : ∀ listed a, L listed a → ∀ j ∈ Region.ready .any ops listed, j ∉ hs) :
    ∀ (f : Nat) (listed : Array Bool) (a : Act), Open ops (t0 :: r) listed →
      (∀ j oj, ops[j]? = some oj → j ≠ i → listed.getD j true = false → (∀ e ∈ oj.after, Region.binds .any e = true → e.on ≠ i) → oi.apart ops oj = true) →
      i ∈ Region.ready .any ops listed → YieldsIn P ops C oi v a →
      wpAnyH P ops C hs L f (listed.setIfInBounds i true) (a.put oi.dst v) → wpAnyH P ops C hs L (f + 1) listed a := by
  have inH : ∀ {listed : Array Bool}, Open ops (t0 :: r) listed → i ∈ Region.ready .any ops listed → ∀ j ∈ Region.ready .any ops listed, j ∈ hs := fun {listed} inv hr j hj => by
    obtain ⟨_, oj, hoj, _⟩ := mem_ready.1 hj
    rcases hcov j (Array.getElem?_eq_some_iff.1 hoj).1 with h | h
    · exact h
    · exact absurd hj (pick_waits hsk hch inv hin (getD_both (mem_ready.1 hr).1) j h)
  intro f
  induction f with
  | zero =>
    intro listed a inv _ hr hy H
    refine ⟨fun h => (by rw [h] at hr; cases hr), fun j hj => ⟨inH inv hr j hj, ?_⟩⟩
    by_cases hji : j = i
    · subst hji; exact hy.qOp hi H
    · exact absurd (inH inv hr j hj) (hdone _ _ H j (ready_mono hj hji))
  | succ f ih =>
    intro listed a inv hfree hr hy H
    have hun := (mem_ready.1 hr).1
    refine ⟨fun h => (by rw [h] at hr; cases hr), fun j hj => ⟨inH inv hr j hj, ?_⟩⟩
    by_cases hji : j = i
    · subst hji; exact hy.qOp hi H
    · have h1 := (H.2 j (ready_mono hj hji)).2
      obtain ⟨hjun, oj, hoj, hall⟩ := mem_ready.1 hj
      have hnot : ∀ e ∈ oj.after, Region.binds .any e = true → e.on ≠ i := fun e he hb heq => by
        have h1 := hall e he hb
        rw [heq, getD_both hun] at h1
        cases h1
      have h2 := qOp_put hoj (hfree j oj hoj hji hjun hnot) (fun cs b => hsel i oi cs b hi) (fun cs b => hsel j oj cs b hoj) hy h1
      have hfree' : ∀ k ok, ops[k]? = some ok → k ≠ i → (listed.setIfInBounds j true).getD k true = false →
          (∀ e ∈ ok.after, Region.binds .any e = true → e.on ≠ i) → oi.apart ops ok = true := fun k ok hk hki hun hno => by
        refine hfree k ok hk hki ?_ hno
        by_cases hjk : j = k
        · subst hjk; exact hjun
        · rw [getD_set_ne true hjk] at hun; exact hun
      refine qOp_mono (fun a' h3 => ih (listed.setIfInBounds j true) a' (inv.set hj (fun h => hdis j h (inH inv hr j hj))) hfree' (ready_mono hr (Ne.symm hji)) h3.1 ?_) h2
      rw [Array.setIfInBounds_comm _ _ hji]
      exact h3.2

theorem wpAnyH_lex {l : List Oper} (hops : ops = l.toArray) {hs0 : List Nat} {t0 : Nat} {r : List Nat} {Lq : Act → Prop} (hsel : Region.noSelect ops = true)
    (hsk : sinkL ops t0 hs0 = true) (hch : chainL ops (t0 :: r) = true) (hcov : ∀ j, j < ops.size → j ∈ hs0 ∨ j ∈ t0 :: r) (hdis : ∀ t ∈ t0 :: r, t ∉ hs0) :
    ∀ (hs : List Nat) (listed : Array Bool) (a : Act), (∀ i ∈ hs, i ∈ hs0) → Open ops (t0 :: r) listed → headB ops hs listed = true → tailB ops (t0 :: r) (hs.foldl (fun b i => b.setIfInBounds i true) listed) = true →
    wpQuiet P ops C Lq (pick l hs) a →
    wpAnyH P ops C hs0 (fun listed' a' => tailB ops (t0 :: r) listed' = true ∧ Open ops (t0 :: r) listed' ∧ Lq a') hs.length listed a
  | [], listed, a, _, inv, _, hT, h => ⟨hT, inv, h⟩
  | i :: hs, listed, a, hin, inv, hB, hT, h => by
    simp only [headB, Bool.and_eq_true, decide_eq_true_eq] at hB
    obtain ⟨⟨⟨hlt, hr⟩, hf⟩, hB'⟩ := hB
    have hr' : i ∈ Region.ready .any ops listed := by simpa using hr
    have h0 : ops[i]? = some ops[i] := Array.getElem?_eq_getElem hlt
    have hl0 : l[i]? = some ops[i] := by rw [← h0, hops]; simp
    unfold pick at h
    rw [hl0] at h
    have hst : qOp P ops C i (wpQuiet P ops C Lq (pick l hs)) a := by unfold qOp; simp only [h0]; exact h
    obtain ⟨v, hy, hK⟩ := yieldsIn_of_qOp h0 hst
    refine wpAnyH_first h0 (Region.noSelect_spec hsel) hsk hch hcov hdis (hin i (by simp)) (fun listed' a' hL j hj hjh => ?_) hs.length listed a inv (Region.free_spec h0 hf) hr' hy
      (wpAnyH_lex hops hsel hsk hch hcov hdis hs _ _ (fun k hk => hin k (List.mem_cons_of_mem _ hk)) (inv.set hr' (fun h => hdis i h (hin i (by simp)))) hB' (by simpa using hT) hK)
    have h1 := hL.1
    simp only [tailB, Bool.and_eq_true, decide_eq_true_eq] at h1
    rw [h1.1] at hj
    obtain rfl : j = t0 := by simpa using hj
    exact hdis j (by simp) hjh

/-! ### in a fence that lets everything in, in a round or not -/
theorem wpWide_of_quiet {o : Oper} {a : Act} {K : Act → Prop} {K' : Act → World → Prop} {Q' : Exit → Act → World → Prop} {w : World} (hd : ∀ c, o.op ≠ .defer c) (hw : C w) (h : ∀ a w', C w' → K a → K' a w')
    (hh : o.quiet P a C K) : o.wpIn (wideAt ro) n P a w K' Q' := by
  obtain ⟨v, h1, h2⟩ := hh
  have h3 := h1 w hw
  unfold Oper.quietAt at h3
  unfold Oper.wpIn
  refine ⟨fun _ _ => trivial, ?_⟩
  rw [show (wideAt ro).round = ro from rfl, Oper.semAt_eq _ _ _ hd]
  generalize (execOp a.eval o).run P w = q at *
  cases q with
  | ok x w' =>
    cases x <;> simp only [Oper.quietUpon] at h3 <;> simp only [Oper.uponIn]
    case value u =>
      obtain ⟨e1, e2⟩ := h3
      rw [e1, e2]
      exact h _ _ hw h2
    case skip =>
      obtain ⟨e1, e2⟩ := h3
      rw [e1, ← e2]
      exact h _ _ hw h2
    case enter f args =>
      obtain ⟨e1, hc⟩ := h3
      rw [e1]
      exact ⟨fun hd => by simp [wideAt, Fence.wide] at hd, (callsIn_wide (n := n - 1)).2 (hc.mono fun e w'' ⟨he, hw''⟩ => by subst he; exact h _ _ hw'' h2)⟩
  | halt x w' => simp only [Oper.quietUpon] at h3
theorem wpOpWide_of_qOp {i : Nat} {a : Act} {K : Act → Prop} {K' : Act → World → Prop} {Q' : Exit → Act → World → Prop} {w : World} (hd : ∀ o, ops[i]? = some o → ∀ c, o.op ≠ .defer c) (hC : C w) (h : ∀ a w', C w' → K a → K' a w')
    (hh : qOp P ops C i K a) : wpOpIn (wideAt ro) n P ops Q' i K' a w := by
  unfold qOp at hh
  unfold wpOpIn
  split
  · rename_i ho; simp only [ho] at hh; exact h _ _ hC hh
  · rename_i o ho
    simp only [ho] at hh
    split
    · rename_i hw; simp only [hw, if_true] at hh; exact wpWide_of_quiet (hd o ho) hC h hh
    · rename_i hw; simp only [hw] at hh; exact ⟨fun _ _ => trivial, h _ _ hC hh⟩
theorem wpAnyWide_of_headH {hs : List Nat} {g : Nat} {L : Array Bool → Act → Prop} {Q' : Exit → Act → World → Prop} (hd : ∀ (i : Nat) (o : Oper), ops[i]? = some o → ∀ c, o.op ≠ .defer c) (hL : ∀ listed a w, C w → L listed a → wpAnyIn (wideAt ro) n P .any ops Q' g listed a w) :
    ∀ (f : Nat) (listed : Array Bool) (a : Act) (w : World), C w → wpAnyH P ops C hs L f listed a → wpAnyIn (wideAt ro) n P .any ops Q' (f + g) listed a w
  | 0, listed, a, w, hw, hh => by rw [Nat.zero_add]; exact hL _ _ _ hw hh
  | f + 1, listed, a, w, hw, hh => by
    rw [show f + 1 + g = (f + g) + 1 by omega]
    exact ⟨fun h0 => absurd h0 hh.1, fun i hi => wpOpWide_of_qOp (hd i) hw (fun a' w' hw' h' => wpAnyWide_of_headH hd hL f _ a' w' hw' h') (hh.2 i hi).2⟩
theorem wpAnyIn_of_tail {F : Fence} {l : List Oper} (hops : ops = l.toArray) {Q' : Exit → Act → World → Prop} : ∀ (ts : List Nat) (listed : Array Bool) (a : Act) (w : World), (∀ t ∈ ts, t < ops.size) →
    tailB ops ts listed = true → wpListIn F n P ops Q' (pick l ts) a w → wpAnyIn F n P .any ops Q' ts.length listed a w
  | [], listed, a, w, _, hB, h => ⟨by simpa [tailB] using hB, h⟩
  | t :: ts, listed, a, w, hlt, hB, h => by
    simp only [tailB, Bool.and_eq_true, decide_eq_true_eq] at hB
    obtain ⟨hr, hB'⟩ := hB
    have hl := hlt t (by simp)
    have h0 : ops[t]? = some ops[t] := Array.getElem?_eq_getElem hl
    have hl0 : l[t]? = some ops[t] := by rw [← h0, hops]; simp
    unfold pick at h
    rw [hl0] at h
    refine ⟨fun h1 => (by rw [hr] at h1; cases h1), fun i hi => ?_⟩
    rw [hr] at hi
    obtain rfl : i = t := by simpa using hi
    have next : ∀ a' w', wpListIn F n P ops Q' (pick l ts) a' w' → wpAnyIn F n P .any ops Q' ts.length (listed.setIfInBounds i true) a' w' := fun a' w' h' =>
      wpAnyIn_of_tail hops ts _ a' w' (fun j hj => hlt j (List.mem_cons_of_mem _ hj)) hB' h'
    unfold wpOpIn
    simp only [h0]
    unfold wpListIn at h
    split
    · rw [if_pos ‹_›] at h; exact Oper.wpIn_mono next h
    · rw [if_neg ‹_›] at h; exact ⟨h.1, next _ _ h.2⟩

theorem wpWide_region_pick {w : World} {id : Nat} {Q : Exit → Act → World → Prop} {a : Act} {l : List Oper} (hs ts : List Nat) (hm : P.follows .mixedOrders = true) (hB : pickB l.toArray hs ts = true) (hsz : (hs ++ ts).length = l.length) (hnd : noDefer l = true)
    (hh : wpQuiet P l.toArray (fun w' => ∃ x : Later w, w' = x.out) (fun a' => ∀ x : Later w, wpListIn (wideAt ro) n P l.toArray Q (pick l ts) a' x.out) (pick l hs) a) : (Code.region id l.toArray true).wpIn (wideAt ro) n P Q a w := by
  cases ts with
  | nil => simp [pickB] at hB
  | cons t0 r =>
    simp only [pickB, Bool.and_eq_true] at hB
    obtain ⟨⟨⟨⟨⟨⟨hsel, hH⟩, hT⟩, hsk⟩, hch⟩, hcov⟩, hdis⟩ := hB
    have hcov' : ∀ j, j < l.toArray.size → j ∈ hs ∨ j ∈ t0 :: r := fun j hj => by
      have := List.all_eq_true.1 hcov j (by simpa using hj)
      simpa using this
    have hdis' : ∀ t ∈ t0 :: r, t ∉ hs := fun t ht h => by
      have := List.all_eq_true.1 hdis t ht
      simp [h] at this
    have inv0 : Open l.toArray (t0 :: r) (Array.replicate l.toArray.size false) :=
      ⟨by simp, fun j oj _ hl => (by rw [getD_replicate_false] at hl; cases hl), fun t _ => getD_replicate_false _ _⟩
    have H := wpAnyH_lex (P := P) (C := fun w' => ∃ x : Later w, w' = x.out) rfl hsel hsk hch hcov' hdis' hs _ a (fun _ h => h) inv0 hH hT hh
    refine wpIn_region_any hm ?_
    have hC : ∃ x : Later w, w.drew = x.out := ⟨⟨w.drew, (Below.refl _ _).drew⟩, rfl⟩
    have hlt : ∀ (ts : List Nat) (b : Array Bool), tailB l.toArray ts b = true → ∀ t ∈ ts, t < l.toArray.size := by
      intro ts
      induction ts with
      | nil => intro b _ t ht; cases ht
      | cons u q ih =>
        intro b hb t ht
        simp only [tailB, Bool.and_eq_true, decide_eq_true_eq] at hb
        rcases List.mem_cons.1 ht with rfl | ht
        · have : t ∈ Region.ready .any l.toArray b := by rw [hb.1]; simp
          obtain ⟨_, o, ho, _⟩ := mem_ready.1 this
          exact (Array.getElem?_eq_some_iff.1 ho).1
        · exact ih _ hb.2 t ht
    have := wpAnyWide_of_headH (ro := ro) (n := n) (Q' := Q) (g := (t0 :: r).length) (C := fun w' => ∃ x : Later w, w' = x.out) (fun i o ho => noDefer_at hnd ho) (fun listed' a' w' hw' hL => by
      obtain ⟨x, rfl⟩ := hw'
      exact wpAnyIn_of_tail rfl (t0 :: r) listed' a' x.out (hlt _ _ hL.1) hL.1 (hL.2.2 x)) _ _ _ w.drew hC H
    have e : hs.length + (t0 :: r).length = l.toArray.size := by simpa using hsz
    rw [e] at this
    exact this
/-- in a round -/
theorem wpIn_region_pick {w : World} {id k : Nat} {Q : Exit → Act → World → Prop} {a : Act} {l : List Oper} (hs ts : List Nat) (hm : P.follows .mixedOrders = true) (hB : pickB l.toArray hs ts = true) (hsz : (hs ++ ts).length = l.length) (hnd : noDefer l = true)
    (hh : wpQuiet P l.toArray (fun w' => ∃ x : Later w, w' = x.out) (fun a' => ∀ x : Later w, wpListIn (Fence.wide.inRound k) n P l.toArray Q (pick l ts) a' x.out) (pick l hs) a) : (Code.region id l.toArray true).wpIn (Fence.wide.inRound k) n P Q a w :=
  wpWide_region_pick (ro := some k) hs ts hm hB hsz hnd hh
/-- in no round -/
theorem wp_region_pick {w : World} {id : Nat} {Q : Exit → Act → World → Prop} {a : Act} {l : List Oper} (hs ts : List Nat) (hm : P.follows .mixedOrders = true) (hB : pickB l.toArray hs ts = true) (hsz : (hs ++ ts).length = l.length) (hnd : noDefer l = true)
    (hh : wpQuiet P l.toArray (fun w' => ∃ x : Later w, w' = x.out) (fun a' => ∀ x : Later w, wpListIn Fence.wide 0 P l.toArray Q (pick l ts) a' x.out) (pick l hs) a) : (Code.region id l.toArray true).wp P Q a w :=
  (wpIn_wide (n := 0)).1 (wpWide_region_pick (ro := none) hs ts hm hB hsz hnd hh)
end
end Go.Proofs.YtjmagehfkcnjjaaGreatDoor

/-
  A region that draws its order, in a fence that lets everything in: reads, reckonings and calls that keep what lay before; one operation, of any kind, that makes a new block; and a tail whose order is forced.
-/
namespace Go.Proofs.YtjmagehfkcnjjaaGreatDoor
set_option linter.unusedVariables false
open Go.RowKit

section
variable {P : Program} {ops : Array Oper} {C : World → Prop} {ro : Option Nat} {n m : Nat} {V : Nat → Value} {z : Obj}

/-- operation number m makes a block: it yields V of the block's number -/
def MkCond (P : Program) (ops : Array Oper) (m : Nat) (V : Nat → Value) (z : Obj) (a : Act) : Prop :=
  ∀ o, ops[m]? = some o → Region.wanted o (yielded ops a.tmps) = true ∧ ∀ wc : World, (execOp a.eval o).run P wc = .ok (.value (V wc.heap.size)) (wc.alloc z)

def wpAnyX (P : Program) (ops : Array Oper) (C : World → Prop) (m : Nat) (V : Nat → Value) (z : Obj) (hs : List Nat) (L : Nat → Array Bool → Act → Prop) : Nat → Option Nat → Array Bool → Act → Prop
  | 0, some g, listed, a => L g listed a
  | 0, none, _, _ => False
  | f + 1, s, listed, a => Region.ready .any ops listed ≠ [] ∧ ∀ i ∈ Region.ready .any ops listed,
      (i = m → MkCond P ops m V z a ∧ ∀ g, wpAnyX P ops C m V z hs L f (some g) (listed.setIfInBounds m true) (a.put (dstOf ops m) (V g))) ∧
      (i ≠ m → i ∈ hs ∧ qOp P ops C i (wpAnyX P ops C m V z hs L f s (listed.setIfInBounds i true)) a)

theorem wpAnyX_first {hs : List Nat} {t0 : Nat} {r : List Nat} {i : Nat} {oi : Oper} {v : Value} {L : Nat → Array Bool → Act → Prop} (hi : ops[i]? = some oi) (hsel : ∀ (j : Nat) (o : Oper) cs b, ops[j]? = some o → o.op ≠ .select cs b)
    (hsk : sinkL ops t0 (hs ++ [m]) = true) (hch : chainL ops (t0 :: r) = true) (hcov : ∀ j, j < ops.size → j ∈ hs ++ [m] ∨ j ∈ t0 :: r) (hdis : ∀ t ∈ t0 :: r, t ∉ hs ++ [m]) (hin : i ∈ hs) (him : i ≠ m)
    (hdone : ∀ g listed a, L g listed a → ∀ j ∈ Region.ready .any ops listed, j ∉ hs ++ [m]) :
    ∀ (f : Nat) (s : Option Nat) (listed : Array Bool) (a : Act), Open ops (t0 :: r) listed →
      (∀ j oj, ops[j]? = some oj → j ≠ i → listed.getD j true = false → (∀ e ∈ oj.after, Region.binds .any e = true → e.on ≠ i) → oi.apart ops oj = true) →
      i ∈ Region.ready .any ops listed → YieldsIn P ops C oi v a →
      wpAnyX P ops C m V z hs L f s (listed.setIfInBounds i true) (a.put oi.dst v) → wpAnyX P ops C m V z hs L (f + 1) s listed a := by
  have inH : ∀ {listed : Array Bool}, Open ops (t0 :: r) listed → i ∈ Region.ready .any ops listed → ∀ j ∈ Region.ready .any ops listed, j ∈ hs ++ [m] := fun {listed} inv hr j hj => by
    obtain ⟨_, oj, hoj, _⟩ := mem_ready.1 hj
    rcases hcov j (Array.getElem?_eq_some_iff.1 hoj).1 with h | h
    · exact h
    · exact absurd hj (pick_waits hsk hch inv (List.mem_append_left _ hin) (getD_both (mem_ready.1 hr).1) j h)
  intro f
  induction f with
  | zero =>
    intro s listed a inv _ hr hy H
    refine ⟨fun h => (by rw [h] at hr; cases hr), fun j hj => ?_⟩
    have hjH := inH inv hr j hj
    have no : j ≠ i → False := fun hji => by
      cases s with
      | none => exact H
      | some g => exact hdone g _ _ H j (ready_mono hj hji) hjH
    refine ⟨fun hjm => (no (fun e => him (e.symm.trans hjm))).elim, fun hjm => ?_⟩
    by_cases hji : j = i
    · subst hji; exact ⟨hin, hy.qOp hi H⟩
    · exact (no hji).elim
  | succ f ih =>
    intro s listed a inv hfree hr hy H
    have hun := (mem_ready.1 hr).1
    refine ⟨fun h => (by rw [h] at hr; cases hr), fun j hj => ?_⟩
    have hjH := inH inv hr j hj
    by_cases hji : j = i
    · subst hji; exact ⟨fun e => absurd e him, fun _ => ⟨hin, hy.qOp hi H⟩⟩
    · have h1 := H.2 j (ready_mono hj hji)
      obtain ⟨hjun, oj, hoj, hall⟩ := mem_ready.1 hj
      have hnot : ∀ e ∈ oj.after, Region.binds .any e = true → e.on ≠ i := fun e he hb heq => by
        have h1 := hall e he hb
        rw [heq, getD_both hun] at h1
        cases h1
      have hap := hfree j oj hoj hji hjun hnot
      have hfree' : ∀ k ok, ops[k]? = some ok → k ≠ i → (listed.setIfInBounds j true).getD k true = false →
          (∀ e ∈ ok.after, Region.binds .any e = true → e.on ≠ i) → oi.apart ops ok = true := fun k ok hk hki hun hno => by
        refine hfree k ok hk hki ?_ hno
        by_cases hjk : j = k
        · subst hjk; exact hjun
        · rw [getD_set_ne true hjk] at hun; exact hun
      have hinv := inv.set hj (fun h => hdis j h hjH)
      have hcomm : (listed.setIfInBounds i true).setIfInBounds j true = (listed.setIfInBounds j true).setIfInBounds i true := Array.setIfInBounds_comm _ _ (Ne.symm hji)
      refine ⟨fun hjm => ?_, fun hjm => ?_⟩
      · subst hjm
        obtain ⟨k1, k2⟩ := h1.1 rfl
        obtain ⟨a1, a2, a3⟩ := Oper.apart_spec hap
        have ed : dstOf ops j = oj.dst := by simp [dstOf, hoj]
        refine ⟨fun o ho => ?_, fun g => ?_⟩
        · obtain rfl : o = oj := Option.some.inj (ho.symm.trans hoj)
          obtain ⟨q1, q2⟩ := k1 o ho
          have ex := execOp_put (ops := ops) o (fun cs b => hsel j o cs b hoj) a oi.dst v a1
          have ew := wanted_put (ops := ops) o a oi.dst v a1
          rw [ew] at q1
          refine ⟨q1, fun wc => ?_⟩
          rw [← ex]
          exact q2 wc
        · have hg := k2 g
          rw [ed] at hg ⊢
          rw [hcomm] at hg
          exact ih (some g) (listed.setIfInBounds j true) _ hinv hfree' (ready_mono hr (Ne.symm hji))
            (hy.of_same (execOp_put oi (fun cs b => hsel i oi cs b hi) a oj.dst _ a3) (wanted_put oi a oj.dst _ a3)) (by rw [← Act.put_comm a v _ a2]; exact hg)
      · obtain ⟨_, h1⟩ := h1.2 hjm
        have h2 := qOp_put hoj hap (fun cs b => hsel i oi cs b hi) (fun cs b => hsel j oj cs b hoj) hy h1
        refine ⟨?_, qOp_mono (fun a' h3 => ih s (listed.setIfInBounds j true) a' hinv hfree' (ready_mono hr (Ne.symm hji)) h3.1 ?_) h2⟩
        · rcases List.mem_append.1 hjH with h | h
          · exact h
          · exact absurd (by simpa using h) hjm
        · rw [← hcomm]
          exact h3.2

theorem wpAnyX_lex {l : List Oper} (hops : ops = l.toArray) {hs0 : List Nat} {t0 : Nat} {r : List Nat} {Lq : Nat → Act → Prop} (hsel : Region.noSelect ops = true)
    (hsk : sinkL ops t0 (hs0 ++ [m]) = true) (hch : chainL ops (t0 :: r) = true) (hcov : ∀ j, j < ops.size → j ∈ hs0 ++ [m] ∨ j ∈ t0 :: r) (hdis : ∀ t ∈ t0 :: r, t ∉ hs0 ++ [m]) (hm0 : m ∉ hs0) :
    ∀ (hs : List Nat) (listed : Array Bool) (a : Act), (∀ i ∈ hs, i ∈ hs0) → (∀ i ∈ hs0, i ∉ hs → listed.getD i false = true) → Open ops (t0 :: r) listed → headB ops (hs ++ [m]) listed = true →
    tailB ops (t0 :: r) ((hs ++ [m]).foldl (fun b i => b.setIfInBounds i true) listed) = true →
    wpQuiet P ops C (fun a' => MkCond P ops m V z a' ∧ ∀ g, Lq g (a'.put (dstOf ops m) (V g))) (pick l hs) a →
    wpAnyX P ops C m V z hs0 (fun g listed' a' => tailB ops (t0 :: r) listed' = true ∧ Open ops (t0 :: r) listed' ∧ Lq g a') (hs.length + 1) none listed a
  | [], listed, a, _, hall, inv, hB, hT, h => by
    simp only [List.nil_append, headB, Bool.and_eq_true, decide_eq_true_eq] at hB
    obtain ⟨⟨⟨hlt, hr⟩, hf⟩, _⟩ := hB
    have hr' : m ∈ Region.ready .any ops listed := by simpa using hr
    have hun := getD_both (mem_ready.1 hr').1
    refine ⟨fun h => (by rw [h] at hr'; cases hr'), fun i hi => ?_⟩
    have him : i = m := by
      obtain ⟨hiun, oi, hoi, _⟩ := mem_ready.1 hi
      rcases hcov i (Array.getElem?_eq_some_iff.1 hoi).1 with h | h
      · rcases List.mem_append.1 h with h | h
        · have := hall i h (by simp)
          rw [getD_both hiun] at this
          cases this
        · simpa using h
      · exact absurd hi (pick_waits hsk hch inv (List.mem_append_right _ (by simp)) hun i h)
    refine ⟨fun _ => ⟨h.1, fun g => ⟨by simpa using hT, inv.set hr' (fun k => hdis m k (by simp)), h.2 g⟩⟩, fun e => absurd him e⟩
  | i :: hs, listed, a, hin, hall, inv, hB, hT, h => by
    simp only [List.cons_append, headB, Bool.and_eq_true, decide_eq_true_eq] at hB
    obtain ⟨⟨⟨hlt, hr⟩, hf⟩, hB'⟩ := hB
    have hr' : i ∈ Region.ready .any ops listed := by simpa using hr
    have h0 : ops[i]? = some ops[i] := Array.getElem?_eq_getElem hlt
    have hl0 : l[i]? = some ops[i] := by rw [← h0, hops]; simp
    unfold pick at h
    rw [hl0] at h
    have hi0 := hin i (by simp)
    have him : i ≠ m := fun e => hm0 (e ▸ hi0)
    have hst : qOp P ops C i (wpQuiet P ops C (fun a' => MkCond P ops m V z a' ∧ ∀ g, Lq g (a'.put (dstOf ops m) (V g))) (pick l hs)) a := by unfold qOp; simp only [h0]; exact h
    obtain ⟨v, hy, hK⟩ := yieldsIn_of_qOp h0 hst
    refine wpAnyX_first h0 (Region.noSelect_spec hsel) hsk hch hcov hdis hi0 him (fun g listed' a' hL j hj hjh => ?_) (hs.length + 1) none listed a inv (Region.free_spec h0 hf) hr' hy
      (wpAnyX_lex hops hsel hsk hch hcov hdis hm0 hs _ _ (fun k hk => hin k (List.mem_cons_of_mem _ hk)) (fun k hk hkn => ?_) (inv.set hr' (fun h => hdis i h (List.mem_append_left _ hi0))) hB' (by simpa using hT) hK)
    · have h1 := hL.1
      simp only [tailB, Bool.and_eq_true, decide_eq_true_eq] at h1
      rw [h1.1] at hj
      obtain rfl : j = t0 := by simpa using hj
      exact hdis j (by simp) hjh
    · by_cases e : i = k
      · subst e
        have hlt' : i < listed.size := by rw [inv.size]; exact hlt
        simp [hlt']
      · exact getD_set_true (hall k hk (by simp [Ne.symm e, hkn]))

theorem wpAnyWide_of_X {w0 : World} {hs : List Nat} {g : Nat} {L : Nat → Array Bool → Act → Prop} {Q' : Exit → Act → World → Prop} (hd : ∀ (i : Nat) (o : Oper), ops[i]? = some o → ∀ c, o.op ≠ .defer c)
    (hni : ∀ i o, i ∈ hs → ops[i]? = some o → NoInitOp P o)
    (hL : ∀ b listed a wc, Below w0.heap.size w0 wc → w0.heap.size ≤ b → wc.heap[b]? = some z → L b listed a → wpAnyIn (wideAt ro) n P .any ops Q' g listed a wc) :
    ∀ (f : Nat) (s : Option Nat) (listed : Array Bool) (a : Act) (wc : World), Below w0.heap.size w0 wc → (∀ b, s = some b → w0.heap.size ≤ b ∧ wc.heap[b]? = some z) →
      (∀ y : Later wc, wpAnyX P ops (fun w' => ∃ x : Later y.out, w' = x.out) m V z hs L f s listed a) → wpAnyIn (wideAt ro) n P .any ops Q' (f + g) listed a wc
  | 0, none, listed, a, wc, _, _, hT => (hT ⟨wc, Below.refl _ _⟩).elim
  | 0, some b, listed, a, wc, hb, hs', hT => by rw [Nat.zero_add]; exact hL b _ _ _ hb (hs' b rfl).1 (hs' b rfl).2 (hT ⟨wc, Below.refl _ _⟩)
  | f + 1, s, listed, a, wc, hb, hs', hT => by
    rw [show f + 1 + g = (f + g) + 1 by omega]
    have h0 := hT ⟨wc, Below.refl _ _⟩
    refine ⟨fun e => absurd e h0.1, fun i hi => ?_⟩
    obtain ⟨hun, oi, hoi, hall⟩ := mem_ready.1 hi
    by_cases him : i = m
    · subst i
      obtain ⟨h1, _⟩ := (h0.2 m hi).1 rfl
      obtain ⟨hw, hx⟩ := h1 oi hoi
      unfold wpOpIn
      simp only [hoi]
      rw [if_pos hw]
      unfold Oper.wpIn
      refine ⟨fun _ _ => trivial, ?_⟩
      rw [show (wideAt ro).round = ro from rfl, Oper.semAt_eq _ _ _ (hd m oi hoi), hx]
      simp only [Oper.uponIn]
      have hb' : Below wc.heap.size wc (wc.alloc z) := (Below.refl _ wc).alloc (Nat.le_refl _) _
      have ed : dstOf ops m = oi.dst := by simp [dstOf, hoi]
      refine wpAnyWide_of_X hd hni hL f (some wc.heap.size) _ _ _ (hb.trans (hb'.mono hb.size)) (fun b e => by cases e; exact ⟨hb.size, alloc_new _ _⟩) (fun y => ?_)
      have h2 := (((hT ⟨y.out, hb'.trans (y.below.mono hb'.size)⟩).2 m hi).1 rfl).2 wc.heap.size
      rw [ed] at h2
      exact h2
    · obtain ⟨hih, h1⟩ := (h0.2 i hi).2 him
      obtain ⟨v, hy, hK⟩ := yieldsIn_of_qOp hoi h1
      refine wpOpWide_of_qOp (C := fun w' => ∃ x : Later wc, w' = x.out) (K := fun a' => a' = a.put oi.dst v) (fun o ho => hd i o ho) ⟨⟨wc, Below.refl _ _⟩, rfl⟩ ?_ (hy.qOp hoi rfl)
      rintro a' w' ⟨x, rfl⟩ rfl
      refine wpAnyWide_of_X hd hni hL f s _ _ _ (hb.trans (x.below.mono hb.size)) (fun b e => ⟨(hs' b e).1, (x.below.block _ (Array.getElem?_eq_some_iff.1 (hs' b e).2).1).trans (hs' b e).2⟩) (fun y => ?_)
      have h2 := ((hT ⟨y.out, x.below.trans (y.below.mono x.below.size)⟩).2 i hi).2 him
      obtain ⟨v', hy', hK'⟩ := yieldsIn_of_qOp hoi h2.2
      have e : v = v' := yields_one (w := y.out) (hni i oi hih hoi) ⟨⟨y.out, x.below.trans (y.below.mono x.below.size)⟩, rfl⟩ ⟨⟨y.out, Below.refl _ _⟩, rfl⟩ hy hy'
      subst e
      exact hK'

theorem wpWide_region_one {w : World} {id : Nat} {Q : Exit → Act → World → Prop} {a : Act} {l : List Oper} (hs : List Nat) (m : Nat) (ts : List Nat) (V : Nat → Value) (z : Obj) (hm : P.follows .mixedOrders = true) (hB : pickB l.toArray (hs ++ [m]) ts = true) (hmn : hs.contains m = false)
    (hsz : ((hs ++ [m]) ++ ts).length = l.length) (hnd : noDefer l = true) (hni : NoInit P (pick l hs))
    (hh : ∀ y : Later w, wpQuiet P l.toArray (fun w' => ∃ x : Later y.out, w' = x.out) (fun a' => MkCond P l.toArray m V z a' ∧ ∀ (g : Nat) (x : Later w), w.heap.size ≤ g → x.out.heap[g]? = some z →
        wpListIn (wideAt ro) n P l.toArray Q (pick l ts) (a'.put (dstOf l.toArray m) (V g)) x.out) (pick l hs) a) : (Code.region id l.toArray true).wpIn (wideAt ro) n P Q a w := by
  cases ts with
  | nil => simp [pickB] at hB
  | cons t0 r =>
    simp only [pickB, Bool.and_eq_true] at hB
    obtain ⟨⟨⟨⟨⟨⟨hsel, hH⟩, hT⟩, hsk⟩, hch⟩, hcov⟩, hdis⟩ := hB
    have hcov' : ∀ j, j < l.toArray.size → j ∈ hs ++ [m] ∨ j ∈ t0 :: r := fun j hj => by
      have := List.all_eq_true.1 hcov j (by simpa using hj)
      simpa using this
    have hdis' : ∀ t ∈ t0 :: r, t ∉ hs ++ [m] := fun t ht h => by
      have := List.all_eq_true.1 hdis t ht
      simp at this h
      rcases h with h | h
      · exact this.1 h
      · exact this.2 h
    have hm0 : m ∉ hs := fun h => by simp [h] at hmn
    have inv0 : Open l.toArray (t0 :: r) (Array.replicate l.toArray.size false) :=
      ⟨by simp, fun j oj _ hl => (by rw [getD_replicate_false] at hl; cases hl), fun t _ => getD_replicate_false _ _⟩
    have hlt : ∀ (ts : List Nat) (b : Array Bool), tailB l.toArray ts b = true → ∀ t ∈ ts, t < l.toArray.size := by
      intro ts
      induction ts with
      | nil => intro b _ t ht; cases ht
      | cons u q ih =>
        intro b hb t ht
        simp only [tailB, Bool.and_eq_true, decide_eq_true_eq] at hb
        rcases List.mem_cons.1 ht with rfl | ht
        · have : t ∈ Region.ready .any l.toArray b := by rw [hb.1]; simp
          obtain ⟨_, o, ho, _⟩ := mem_ready.1 this
          exact (Array.getElem?_eq_some_iff.1 ho).1
        · exact ih _ hb.2 t ht
    have hmem : ∀ (q : List Nat) (i : Nat) (o : Oper), i ∈ q → l[i]? = some o → o ∈ pick l q := by
      intro q
      induction q with
      | nil => intro i o h; cases h
      | cons u q ih =>
        intro i o h ho
        unfold pick
        rcases List.mem_cons.1 h with rfl | h
        · rw [ho]; simp
        · split
          · exact List.mem_cons_of_mem _ (ih i o h ho)
          · exact ih i o h ho
    have hni' : ∀ i o, i ∈ hs → l.toArray[i]? = some o → NoInitOp P o := fun i o hi ho => by
      have hm := hmem hs i o hi (by simpa using ho)
      obtain ⟨k, hk, rfl⟩ := List.getElem_of_mem hm
      exact hni.at (i := k) (List.getElem?_eq_getElem hk)
    refine wpIn_region_any hm ?_
    have hb : Below w.heap.size w w.drew := (Below.refl _ w).drew
    have := wpAnyWide_of_X (P := P) (ops := l.toArray) (ro := ro) (n := n) (m := m) (V := V) (z := z) (w0 := w) (hs := hs) (g := (t0 :: r).length) (Q' := Q)
      (L := fun g listed' a' => tailB l.toArray (t0 :: r) listed' = true ∧ Open l.toArray (t0 :: r) listed' ∧ ∀ (x : Later w), w.heap.size ≤ g → x.out.heap[g]? = some z →
        wpListIn (wideAt ro) n P l.toArray Q (pick l (t0 :: r)) a' x.out)
      (fun i o ho => noDefer_at hnd ho) hni' (fun b listed' a' wc hbw hbs hz hL => wpAnyIn_of_tail rfl (t0 :: r) listed' a' wc (hlt _ _ hL.1) hL.1 (hL.2.2 ⟨wc, hbw⟩ hbs hz))
      (hs.length + 1) none (Array.replicate l.toArray.size false) a w.drew hb (fun b e => by cases e) (fun y => ?_)
    · have e : hs.length + 1 + (t0 :: r).length = l.toArray.size := by simp at hsz ⊢; omega
      rw [e] at this
      exact this
    · have hw := hh ⟨y.out, hb.trans (y.below.mono hb.size)⟩
      refine wpAnyX_lex rfl hsel hsk hch hcov' hdis' hm0 hs _ a (fun _ h => h) (fun i h1 h2 => absurd h1 h2) inv0 hH hT (wpQuiet_post (fun a' h' => ⟨h'.1, fun g x h1 h2 => h'.2 g x h1 h2⟩) _ _ hw)
/-- in a round -/
theorem wpIn_region_one {w : World} {id k : Nat} {Q : Exit → Act → World → Prop} {a : Act} {l : List Oper} (hs : List Nat) (m : Nat) (ts : List Nat) (V : Nat → Value) (z : Obj) (hm : P.follows .mixedOrders = true) (hB : pickB l.toArray (hs ++ [m]) ts = true) (hmn : hs.contains m = false)
    (hsz : ((hs ++ [m]) ++ ts).length = l.length) (hnd : noDefer l = true) (hni : NoInit P (pick l hs))
    (hh : ∀ y : Later w, wpQuiet P l.toArray (fun w' => ∃ x : Later y.out, w' = x.out) (fun a' => MkCond P l.toArray m V z a' ∧ ∀ (g : Nat) (x : Later w), w.heap.size ≤ g → x.out.heap[g]? = some z →
        wpListIn (Fence.wide.inRound k) n P l.toArray Q (pick l ts) (a'.put (dstOf l.toArray m) (V g)) x.out) (pick l hs) a) : (Code.region id l.toArray true).wpIn (Fence.wide.inRound k) n P Q a w :=
  wpWide_region_one (ro := some k) hs m ts V z hm hB hmn hsz hnd hni hh
/-- in no round -/
theorem wp_region_one {w : World} {id : Nat} {Q : Exit → Act → World → Prop} {a : Act} {l : List Oper} (hs : List Nat) (m : Nat) (ts : List Nat) (V : Nat → Value) (z : Obj) (hm : P.follows .mixedOrders = true) (hB : pickB l.toArray (hs ++ [m]) ts = true) (hmn : hs.contains m = false)
    (hsz : ((hs ++ [m]) ++ ts).length = l.length) (hnd : noDefer l = true) (hni : NoInit P (pick l hs))
    (hh : ∀ y : Later w, wpQuiet P l.toArray (fun w' => ∃ x : Later y.out, w' = x.out) (fun a' => MkCond P l.toArray m V z a' ∧ ∀ (g : Nat) (x : Later w), w.heap.size ≤ g → x.out.heap[g]? = some z →
        wpListIn Fence.wide 0 P l.toArray Q (pick l ts) (a'.put (dstOf l.toArray m) (V g)) x.out) (pick l hs) a) : (Code.region id l.toArray true).wp P Q a w :=
  (wpIn_wide (n := 0)).1 (wpWide_region_one (ro := none) (n := 0) hs m ts V z hm hB hmn hsz hnd hni hh)
end
end Go.Proofs.YtjmagehfkcnjjaaGreatDoor

/-
  As in One, with one operation ahead of the rest that waits for nothing and reads no memory (it may be drawn late: it may as well be taken first).
-/
namespace Go.Proofs.YtjmagehfkcnjjaaGreatDoor
set_option linter.unusedVariables false
open Go.RowKit

section
variable {P : Program} {ops : Array Oper} {C : World → Prop} {ro : Option Nat} {n m : Nat} {V : Nat → Value} {z : Obj}

def pickBF (ops : Array Oper) (f0 : Nat) (hs ts : List Nat) : Bool :=
  match ts with
  | [] => false
  | t0 :: r => Region.noSelect ops && Region.free .any ops (Array.replicate ops.size false) f0 && (Region.ready .any ops (Array.replicate ops.size false)).contains f0 &&
    headB ops hs ((Array.replicate ops.size false).setIfInBounds f0 true) && tailB ops (t0 :: r) (hs.foldl (fun b i => b.setIfInBounds i true) ((Array.replicate ops.size false).setIfInBounds f0 true)) && sinkL ops t0 hs && chainL ops (t0 :: r) &&
    (List.range ops.size).all (fun i => (hs.contains i || i == f0) || (t0 :: r).contains i) && (t0 :: r).all (fun t => !hs.contains t) && (t0 :: r).all (fun t => !(t == f0))
theorem wpAnyX_firstF {hs : List Nat} {t0 : Nat} {r : List Nat} {i : Nat} {oi : Oper} {v : Value} {L : Nat → Array Bool → Act → Prop} (hi : ops[i]? = some oi) (hsel : ∀ (j : Nat) (o : Oper) cs b, ops[j]? = some o → o.op ≠ .select cs b)
    (hsk : sinkL ops t0 (hs ++ [m]) = true) (hch : chainL ops (t0 :: r) = true) {fs : List Nat} (hcov : ∀ j, j < ops.size → (j ∈ hs ++ [m] ∨ j ∈ fs) ∨ j ∈ t0 :: r) (hdis : ∀ t ∈ t0 :: r, t ∉ hs ++ [m]) (hin : i ∈ hs) (him : i ≠ m)
    (hdone : ∀ g listed a, L g listed a → ∀ j ∈ Region.ready .any ops listed, j ∉ hs ++ [m]) :
    ∀ (f : Nat) (s : Option Nat) (listed : Array Bool) (a : Act), (∀ j ∈ fs, listed.getD j false = true) → Open ops (t0 :: r) listed →
      (∀ j oj, ops[j]? = some oj → j ≠ i → listed.getD j true = false → (∀ e ∈ oj.after, Region.binds .any e = true → e.on ≠ i) → oi.apart ops oj = true) →
      i ∈ Region.ready .any ops listed → YieldsIn P ops C oi v a →
      wpAnyX P ops C m V z hs L f s (listed.setIfInBounds i true) (a.put oi.dst v) → wpAnyX P ops C m V z hs L (f + 1) s listed a := by
  have inH : ∀ {listed : Array Bool}, (∀ j ∈ fs, listed.getD j false = true) → Open ops (t0 :: r) listed → i ∈ Region.ready .any ops listed → ∀ j ∈ Region.ready .any ops listed, j ∈ hs ++ [m] := fun {listed} HF inv hr j hj => by
    obtain ⟨hjun0, oj, hoj, _⟩ := mem_ready.1 hj
    rcases hcov j (Array.getElem?_eq_some_iff.1 hoj).1 with (h | h) | h
    · exact h
    · have := HF j h
      rw [getD_both hjun0] at this
      cases this
    · exact absurd hj (pick_waits hsk hch inv (List.mem_append_left _ hin) (getD_both (mem_ready.1 hr).1) j h)
  intro f
  induction f with
  | zero =>
    intro s listed a HF inv _ hr hy H
    refine ⟨fun h => (by rw [h] at hr; cases hr), fun j hj => ?_⟩
    have hjH := inH HF inv hr j hj
    have no : j ≠ i → False := fun hji => by
      cases s with
      | none => exact H
      | some g => exact hdone g _ _ H j (ready_mono hj hji) hjH
    refine ⟨fun hjm => (no (fun e => him (e.symm.trans hjm))).elim, fun hjm => ?_⟩
    by_cases hji : j = i
    · subst hji; exact ⟨hin, hy.qOp hi H⟩
    · exact (no hji).elim
  | succ f ih =>
    intro s listed a HF inv hfree hr hy H
    have hun := (mem_ready.1 hr).1
    refine ⟨fun h => (by rw [h] at hr; cases hr), fun j hj => ?_⟩
    have hjH := inH HF inv hr j hj
    by_cases hji : j = i
    · subst hji; exact ⟨fun e => absurd e him, fun _ => ⟨hin, hy.qOp hi H⟩⟩
    · have h1 := H.2 j (ready_mono hj hji)
      obtain ⟨hjun, oj, hoj, hall⟩ := mem_ready.1 hj
      have hnot : ∀ e ∈ oj.after, Region.binds .any e = true → e.on ≠ i := fun e he hb heq => by
        have h1 := hall e he hb
        rw [heq, getD_both hun] at h1
        cases h1
      have hap := hfree j oj hoj hji hjun hnot
      have hfree' : ∀ k ok, ops[k]? = some ok → k ≠ i → (listed.setIfInBounds j true).getD k true = false →
          (∀ e ∈ ok.after, Region.binds .any e = true → e.on ≠ i) → oi.apart ops ok = true := fun k ok hk hki hun hno => by
        refine hfree k ok hk hki ?_ hno
        by_cases hjk : j = k
        · subst hjk; exact hjun
        · rw [getD_set_ne true hjk] at hun; exact hun
      have hinv := inv.set hj (fun h => hdis j h hjH)
      have HF' : ∀ k ∈ fs, (listed.setIfInBounds j true).getD k false = true := fun k hk => getD_set_true (HF k hk)
      have hcomm : (listed.setIfInBounds i true).setIfInBounds j true = (listed.setIfInBounds j true).setIfInBounds i true := Array.setIfInBounds_comm _ _ (Ne.symm hji)
      refine ⟨fun hjm => ?_, fun hjm => ?_⟩
      · subst hjm
        obtain ⟨k1, k2⟩ := h1.1 rfl
        obtain ⟨a1, a2, a3⟩ := Oper.apart_spec hap
        have ed : dstOf ops j = oj.dst := by simp [dstOf, hoj]
        refine ⟨fun o ho => ?_, fun g => ?_⟩
        · obtain rfl : o = oj := Option.some.inj (ho.symm.trans hoj)
          obtain ⟨q1, q2⟩ := k1 o ho
          have ex := execOp_put (ops := ops) o (fun cs b => hsel j o cs b hoj) a oi.dst v a1
          have ew := wanted_put (ops := ops) o a oi.dst v a1
          rw [ew] at q1
          refine ⟨q1, fun wc => ?_⟩
          rw [← ex]
          exact q2 wc
        · have hg := k2 g
          rw [ed] at hg ⊢
          rw [hcomm] at hg
          exact ih (some g) (listed.setIfInBounds j true) _ HF' hinv hfree' (ready_mono hr (Ne.symm hji))
            (hy.of_same (execOp_put oi (fun cs b => hsel i oi cs b hi) a oj.dst _ a3) (wanted_put oi a oj.dst _ a3)) (by rw [← Act.put_comm a v _ a2]; exact hg)
      · obtain ⟨_, h1⟩ := h1.2 hjm
        have h2 := qOp_put hoj hap (fun cs b => hsel i oi cs b hi) (fun cs b => hsel j oj cs b hoj) hy h1
        refine ⟨?_, qOp_mono (fun a' h3 => ih s (listed.setIfInBounds j true) a' HF' hinv hfree' (ready_mono hr (Ne.symm hji)) h3.1 ?_) h2⟩
        · rcases List.mem_append.1 hjH with h | h
          · exact h
          · exact absurd (by simpa using h) hjm
        · rw [← hcomm]
          exact h3.2

theorem wpAnyX_lexF {l : List Oper} (hops : ops = l.toArray) {hs0 : List Nat} {t0 : Nat} {r : List Nat} {Lq : Nat → Act → Prop} (hsel : Region.noSelect ops = true)
    (hsk : sinkL ops t0 (hs0 ++ [m]) = true) (hch : chainL ops (t0 :: r) = true) {fs : List Nat} (hcov : ∀ j, j < ops.size → (j ∈ hs0 ++ [m] ∨ j ∈ fs) ∨ j ∈ t0 :: r) (hdis : ∀ t ∈ t0 :: r, t ∉ hs0 ++ [m]) (hm0 : m ∉ hs0) :
    ∀ (hs : List Nat) (listed : Array Bool) (a : Act), (∀ j ∈ fs, listed.getD j false = true) → (∀ i ∈ hs, i ∈ hs0) → (∀ i ∈ hs0, i ∉ hs → listed.getD i false = true) → Open ops (t0 :: r) listed → headB ops (hs ++ [m]) listed = true →
    tailB ops (t0 :: r) ((hs ++ [m]).foldl (fun b i => b.setIfInBounds i true) listed) = true →
    wpQuiet P ops C (fun a' => MkCond P ops m V z a' ∧ ∀ g, Lq g (a'.put (dstOf ops m) (V g))) (pick l hs) a →
    wpAnyX P ops C m V z hs0 (fun g listed' a' => tailB ops (t0 :: r) listed' = true ∧ Open ops (t0 :: r) listed' ∧ Lq g a') (hs.length + 1) none listed a
  | [], listed, a, HF, _, hall, inv, hB, hT, h => by
    simp only [List.nil_append, headB, Bool.and_eq_true, decide_eq_true_eq] at hB
    obtain ⟨⟨⟨hlt, hr⟩, hf⟩, _⟩ := hB
    have hr' : m ∈ Region.ready .any ops listed := by simpa using hr
    have hun := getD_both (mem_ready.1 hr').1
    refine ⟨fun h => (by rw [h] at hr'; cases hr'), fun i hi => ?_⟩
    have him : i = m := by
      obtain ⟨hiun, oi, hoi, _⟩ := mem_ready.1 hi
      rcases hcov i (Array.getElem?_eq_some_iff.1 hoi).1 with (h | h) | h
      · rcases List.mem_append.1 h with h | h
        · have := hall i h (by simp)
          rw [getD_both hiun] at this
          cases this
        · simpa using h
      · have := HF i h
        rw [getD_both hiun] at this
        cases this
      · exact absurd hi (pick_waits hsk hch inv (List.mem_append_right _ (by simp)) hun i h)
    refine ⟨fun _ => ⟨h.1, fun g => ⟨by simpa using hT, inv.set hr' (fun k => hdis m k (by simp)), h.2 g⟩⟩, fun e => absurd him e⟩
  | i :: hs, listed, a, HF, hin, hall, inv, hB, hT, h => by
    simp only [List.cons_append, headB, Bool.and_eq_true, decide_eq_true_eq] at hB
    obtain ⟨⟨⟨hlt, hr⟩, hf⟩, hB'⟩ := hB
    have hr' : i ∈ Region.ready .any ops listed := by simpa using hr
    have h0 : ops[i]? = some ops[i] := Array.getElem?_eq_getElem hlt
    have hl0 : l[i]? = some ops[i] := by rw [← h0, hops]; simp
    unfold pick at h
    rw [hl0] at h
    have hi0 := hin i (by simp)
    have him : i ≠ m := fun e => hm0 (e ▸ hi0)
    have hst : qOp P ops C i (wpQuiet P ops C (fun a' => MkCond P ops m V z a' ∧ ∀ g, Lq g (a'.put (dstOf ops m) (V g))) (pick l hs)) a := by unfold qOp; simp only [h0]; exact h
    obtain ⟨v, hy, hK⟩ := yieldsIn_of_qOp h0 hst
    refine wpAnyX_firstF h0 (Region.noSelect_spec hsel) hsk hch hcov hdis hi0 him (fun g listed' a' hL j hj hjh => ?_) (hs.length + 1) none listed a HF inv (Region.free_spec h0 hf) hr' hy
      (wpAnyX_lexF hops hsel hsk hch hcov hdis hm0 hs _ _ (fun k hk => getD_set_true (HF k hk)) (fun k hk => hin k (List.mem_cons_of_mem _ hk)) (fun k hk hkn => ?_) (inv.set hr' (fun h => hdis i h (List.mem_append_left _ hi0))) hB' (by simpa using hT) hK)
    · have h1 := hL.1
      simp only [tailB, Bool.and_eq_true, decide_eq_true_eq] at h1
      rw [h1.1] at hj
      obtain rfl : j = t0 := by simpa using hj
      exact hdis j (by simp) hjh
    · by_cases e : i = k
      · subst e
        have hlt' : i < listed.size := by rw [inv.size]; exact hlt
        simp [hlt']
      · exact getD_set_true (hall k hk (by simp [Ne.symm e, hkn]))

theorem wpWide_region_oneF {w : World} {id : Nat} {Q : Exit → Act → World → Prop} {a : Act} {l : List Oper} (f0 : Nat) (of0 : Oper) (v0 : Value) (hs : List Nat) (m : Nat) (ts : List Nat) (V : Nat → Value) (z : Obj) (hm : P.follows .mixedOrders = true) (hf0 : l[f0]? = some of0) (hfy : YieldsFenced P l.toArray of0 v0 a) (hQ : ∀ c a w, Q (.panic c) (a.put of0.dst v0) w → Q (.panic c) a w) (hB : pickBF l.toArray f0 (hs ++ [m]) ts = true) (hmn : hs.contains m = false)
    (hsz : ((hs ++ [m]) ++ ts).length + 1 = l.length) (hnd : noDefer l = true) (hni : NoInit P (pick l hs))
    (hh : ∀ y : Later w, wpQuiet P l.toArray (fun w' => ∃ x : Later y.out, w' = x.out) (fun a' => MkCond P l.toArray m V z a' ∧ ∀ (g : Nat) (x : Later w), w.heap.size ≤ g → x.out.heap[g]? = some z →
        wpListIn (wideAt none) n P l.toArray Q (pick l ts) (a'.put (dstOf l.toArray m) (V g)) x.out) (pick l hs) (a.put of0.dst v0)) : (Code.region id l.toArray true).wpIn (wideAt none) n P Q a w := by
  cases ts with
  | nil => simp [pickBF] at hB
  | cons t0 r =>
    simp only [pickBF, Bool.and_eq_true] at hB
    obtain ⟨⟨⟨⟨⟨⟨⟨⟨⟨hsel, hfr⟩, hrd⟩, hH⟩, hT⟩, hsk⟩, hch⟩, hcov⟩, hdis⟩, hop⟩ := hB
    have hcov' : ∀ j, j < l.toArray.size → (j ∈ hs ++ [m] ∨ j ∈ [f0]) ∨ j ∈ t0 :: r := fun j hj => by
      have := List.all_eq_true.1 hcov j (by simpa using hj)
      simp only [Bool.or_eq_true, List.contains_iff_mem, beq_iff_eq, List.mem_singleton] at this ⊢
      rcases this with (h | h) | h
      · exact .inl (.inl h)
      · exact .inl (.inr h)
      · exact .inr h
    have hdis' : ∀ t ∈ t0 :: r, t ∉ hs ++ [m] := fun t ht h => by
      have := List.all_eq_true.1 hdis t ht
      simp at this h
      rcases h with h | h
      · exact this.1 h
      · exact this.2 h
    have hm0 : m ∉ hs := fun h => by simp [h] at hmn
    have inv00 : Open l.toArray (t0 :: r) (Array.replicate l.toArray.size false) :=
      ⟨by simp, fun j oj _ hl => (by rw [getD_replicate_false] at hl; cases hl), fun t _ => getD_replicate_false _ _⟩
    have hrd' : f0 ∈ Region.ready .any l.toArray (Array.replicate l.toArray.size false) := by simpa using hrd
    have inv0 : Open l.toArray (t0 :: r) ((Array.replicate l.toArray.size false).setIfInBounds f0 true) :=
      inv00.set hrd' (fun h => by have := List.all_eq_true.1 hop f0 h; simp at this)
    have hlt0 : f0 < l.toArray.size := by
      obtain ⟨_, o, ho, _⟩ := mem_ready.1 hrd'
      exact (Array.getElem?_eq_some_iff.1 ho).1
    have hF0 : ∀ j ∈ [f0], ((Array.replicate l.toArray.size false).setIfInBounds f0 true).getD j false = true := fun j hj => by
      obtain rfl := List.mem_singleton.1 hj
      have hlt9 : j < l.length := by simpa using hlt0
      simp [hlt9]
    have hlt : ∀ (ts : List Nat) (b : Array Bool), tailB l.toArray ts b = true → ∀ t ∈ ts, t < l.toArray.size := by
      intro ts
      induction ts with
      | nil => intro b _ t ht; cases ht
      | cons u q ih =>
        intro b hb t ht
        simp only [tailB, Bool.and_eq_true, decide_eq_true_eq] at hb
        rcases List.mem_cons.1 ht with rfl | ht
        · have : t ∈ Region.ready .any l.toArray b := by rw [hb.1]; simp
          obtain ⟨_, o, ho, _⟩ := mem_ready.1 this
          exact (Array.getElem?_eq_some_iff.1 ho).1
        · exact ih _ hb.2 t ht
    have hmem : ∀ (q : List Nat) (i : Nat) (o : Oper), i ∈ q → l[i]? = some o → o ∈ pick l q := by
      intro q
      induction q with
      | nil => intro i o h; cases h
      | cons u q ih =>
        intro i o h ho
        unfold pick
        rcases List.mem_cons.1 h with rfl | h
        · rw [ho]; simp
        · split
          · exact List.mem_cons_of_mem _ (ih i o h ho)
          · exact ih i o h ho
    have hni' : ∀ i o, i ∈ hs → l.toArray[i]? = some o → NoInitOp P o := fun i o hi ho => by
      have hm := hmem hs i o hi (by simpa using ho)
      obtain ⟨k, hk, rfl⟩ := List.getElem_of_mem hm
      exact hni.at (i := k) (List.getElem?_eq_getElem hk)
    refine wpIn_region_any hm ?_
    have hb : Below w.heap.size w w.drew := (Below.refl _ w).drew
    have := wpAnyWide_of_X (P := P) (ops := l.toArray) (ro := none) (n := n) (m := m) (V := V) (z := z) (w0 := w) (hs := hs) (g := (t0 :: r).length) (Q' := Q)
      (L := fun g listed' a' => tailB l.toArray (t0 :: r) listed' = true ∧ Open l.toArray (t0 :: r) listed' ∧ ∀ (x : Later w), w.heap.size ≤ g → x.out.heap[g]? = some z →
        wpListIn (wideAt none) n P l.toArray Q (pick l (t0 :: r)) a' x.out)
      (fun i o ho => noDefer_at hnd ho) hni' (fun b listed' a' wc hbw hbs hz hL => wpAnyIn_of_tail rfl (t0 :: r) listed' a' wc (hlt _ _ hL.1) hL.1 (hL.2.2 ⟨wc, hbw⟩ hbs hz))
      (hs.length + 1) none ((Array.replicate l.toArray.size false).setIfInBounds f0 true) (a.put of0.dst v0) w.drew hb (fun b e => by cases e) (fun y => ?_)
    · have e : hs.length + 1 + (t0 :: r).length + 1 = l.toArray.size := by simp at hsz ⊢; omega
      have h0 : l.toArray[f0]? = some of0 := by simpa using hf0
      have key := wpAnyIn_take (i := f0) (oi := of0) (v := v0) rfl h0 hsel hfr hrd hQ hfy this
      rw [e] at key
      exact key
    · have hw := hh ⟨y.out, hb.trans (y.below.mono hb.size)⟩
      refine wpAnyX_lexF rfl hsel hsk hch hcov' hdis' hm0 hs _ _ hF0 (fun _ h => h) (fun i h1 h2 => absurd h1 h2) inv0 hH hT (wpQuiet_post (fun a' h' => ⟨h'.1, fun g x h1 h2 => h'.2 g x h1 h2⟩) _ _ hw)
/-- in no round -/
theorem wp_region_oneF {w : World} {id : Nat} {Q : Exit → Act → World → Prop} {a : Act} {l : List Oper} (f0 : Nat) (of0 : Oper) (v0 : Value) (hs : List Nat) (m : Nat) (ts : List Nat) (V : Nat → Value) (z : Obj) (hm : P.follows .mixedOrders = true) (hf0 : l[f0]? = some of0) (hfy : YieldsFenced P l.toArray of0 v0 a) (hQ : ∀ c a w, Q (.panic c) (a.put of0.dst v0) w → Q (.panic c) a w) (hB : pickBF l.toArray f0 (hs ++ [m]) ts = true) (hmn : hs.contains m = false)
    (hsz : ((hs ++ [m]) ++ ts).length + 1 = l.length) (hnd : noDefer l = true) (hni : NoInit P (pick l hs))
    (hh : ∀ y : Later w, wpQuiet P l.toArray (fun w' => ∃ x : Later y.out, w' = x.out) (fun a' => MkCond P l.toArray m V z a' ∧ ∀ (g : Nat) (x : Later w), w.heap.size ≤ g → x.out.heap[g]? = some z →
        wpListIn Fence.wide 0 P l.toArray Q (pick l ts) (a'.put (dstOf l.toArray m) (V g)) x.out) (pick l hs) (a.put of0.dst v0)) : (Code.region id l.toArray true).wp P Q a w :=
  (wpIn_wide (n := 0)).1 (wpWide_region_oneF (n := 0) f0 of0 v0 hs m ts V z hm hf0 hfy hQ hB hmn hsz hnd hni hh)
end
end Go.Proofs.YtjmagehfkcnjjaaGreatDoor

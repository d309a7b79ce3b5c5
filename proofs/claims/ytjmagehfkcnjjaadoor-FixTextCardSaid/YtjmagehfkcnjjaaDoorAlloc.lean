/-
  A region that draws its order, whose operations read, reckon, and call functions that keep what lay before, and that makes new blocks beside these; with a tail whose order is forced.
-/
import Derived.Test.YtjmagehfkcnjjaaDoorLater
namespace Go.Proofs.YtjmagehfkcnjjaaDoor
set_option linter.unusedVariables false
open Go.RowKit

/-- an operation that enters none of the program's initial functions -/
def NoInitOp (P : Program) (o : Oper) : Prop := ∀ (a : Act) (w : World) (f : FuncId) (args : Array Value) (w' : World), (execOp a.eval o).run P w = .ok (.enter f args) w' → P.inits.idxOf? f = none
def NoInit (P : Program) : List Oper → Prop
  | [] => True
  | o :: r => NoInitOp P o ∧ NoInit P r
theorem NoInit.at {P : Program} {l : List Oper} : ∀ {i : Nat} {o : Oper}, NoInit P l → l[i]? = some o → NoInitOp P o := by
  induction l with
  | nil => intro i o h e; simp at e
  | cons x l ih =>
    intro i o h e
    unfold NoInit at h
    cases i with
    | zero =>
      have : x = o := by simpa using e
      rw [← this]; exact h.1
    | succ i => exact ih h.2 (by simpa using e)
theorem noInit_v {P : Program} {o : Oper} (s : (Operand → Value) → Sem Value) (h : ∀ ρ, execOp ρ o = (do pure (.value (← s ρ)))) : NoInitOp P o := by
  unfold NoInitOp
  intro a w f args w' e
  rw [h, Sem.run_bind] at e
  cases hr : (s a.eval).run P w with
  | ok u w1 => rw [hr] at e; simp [Result.andThen] at e
  | halt x w1 => rw [hr] at e; simp [Result.andThen] at e
theorem noInit_m {P : Program} {o : Oper} (s : (Operand → Value) → Value) (h : ∀ ρ, execOp ρ o = pure (.value (s ρ))) : NoInitOp P o := by
  unfold NoInitOp
  intro a w f args w' e
  rw [h] at e
  simp at e
theorem noInit_call {P : Program} {o : Oper} (k : Nat) {c : Call} (ho : o.op = .call c) (hc : c.callee = .value (.func k)) (he : ∀ args w, (callFunc k args).run P w = .ok (.enter k args) w) (hi : P.inits.idxOf? k = none) : NoInitOp P o := by
  unfold NoInitOp
  intro a w f args w' e
  have hv : a.eval (.func k) = .func (.func k) #[] #[] := rfl
  unfold execOp at e
  rw [ho] at e
  simp [resolve, hc, hv, Deferred.ofValue, invoke, he] at e
  rw [← e.1.1]
  exact hi

/-- two contracts on one call speak of one value -/
theorem calls_one {P : Program} {f : FuncId} {args : Array Value} {w : World} {v v' : Value} {C C' : World → Prop}
    (h : Calls P f args w fun e w'' => e = .returned v ∧ C w'') (h' : Calls P f args w fun e w'' => e = .returned v' ∧ C' w'') (hi : P.inits.idxOf? f = none) : v = v' := by
  have k : Calls P f args w fun | .returned u, _ => u = v | _, _ => False := h.mono fun e w' ⟨he, _⟩ => by subst he; rfl
  have k' : Calls P f args w fun | .returned u, _ => u = v' | _, _ => False := h'.mono fun e w' ⟨he, _⟩ => by subst he; rfl
  obtain ⟨n, u, w1, e1, r1⟩ := k.done hi
  obtain ⟨m, u', w2, e2, r2⟩ := k'.done hi
  have a := runN_ended e1 m
  have b := runN_ended e2 n
  rw [Nat.add_comm, a] at b
  injection b with ho hw
  injection ho with hv
  exact r1.symm.trans (hv.trans r2)
theorem upon_one {P : Program} {C C' : World → Prop} {w : World} {v v' : Value} {r : Result Next} (hn : ∀ f args w', r = .ok (.enter f args) w' → P.inits.idxOf? f = none)
    (h : Oper.quietUpon P C w v r) (h' : Oper.quietUpon P C' w v' r) : v = v' := by
  cases r with
  | halt => exact h.elim
  | ok n w1 =>
    cases n with
    | value u => exact h.2.symm.trans h'.2
    | skip => exact h.2.trans h'.2.symm
    | enter f args => exact calls_one h.2 h'.2 (hn _ _ _ rfl)
    | _ => exact h.elim

section
variable {P : Program} {ops : Array Oper} {md : Region.Mode} {C : World → Prop}
theorem yields_one {C' : World → Prop} {o : Oper} {v v' : Value} {a : Act} {w : World} (hn : NoInitOp P o) (hw : C w) (hw' : C' w) (h : YieldsIn P ops C o v a) (h' : YieldsIn P ops C' o v' a) : v = v' := by
  rcases h with ⟨h1, h2⟩ | ⟨h1, h2⟩
  · rcases h' with ⟨k1, k2⟩ | ⟨k1, k2⟩
    · exact upon_one (fun f args w' e => hn a w f args w' e) (h2 w hw) (k2 w hw')
    · rw [h1] at k1; cases k1
  · rcases h' with ⟨k1, k2⟩ | ⟨k1, k2⟩
    · rw [h1] at k1; cases k1
    · exact h2.trans k2.symm

def ptrAt (g : Nat) : Value := .pointer (some ⟨g, 0, none⟩)
def dstOf (ops : Array Oper) (i : Nat) : Option Tmp := (ops[i]?).bind (·.dst)
/-- operation number i comes up: quiet ones as before; behind these, a new block, wherever it lies -/
def gOp (P : Program) (ops : Array Oper) (C : World → Prop) (h i : Nat) (K : Act → Prop) (a : Act) : Prop :=
  if i < h then qOp P ops C i K a else ∀ g : Nat, K (a.put (dstOf ops i) (ptrAt g))
theorem gOp_mono {h i : Nat} {a : Act} {K K' : Act → Prop} (hk : ∀ a, K a → K' a) (hh : gOp P ops C h i K a) : gOp P ops C h i K' a := by
  unfold gOp at *
  split
  · rw [if_pos ‹_›] at hh; exact qOp_mono hk hh
  · rw [if_neg ‹_›] at hh; exact fun g => hk _ (hh g)
theorem gOp_put {h j : Nat} {oi oj : Oper} {v : Value} (hj : ops[j]? = some oj) (hap : oi.apart ops oj = true)
    (hsi : ∀ cs b, oi.op ≠ .select cs b) (hsj : ∀ cs b, oj.op ≠ .select cs b) {K : Act → Prop} {a : Act}
    (hy : YieldsIn P ops C oi v a) (hh : gOp P ops C h j K (a.put oi.dst v)) :
    gOp P ops C h j (fun a' => YieldsIn P ops C oi v a' ∧ K (a'.put oi.dst v)) a := by
  unfold gOp at *
  split
  · rw [if_pos ‹_›] at hh; exact qOp_put hj hap hsi hsj hy hh
  · rw [if_neg ‹_›] at hh
    obtain ⟨h1, h2, h3⟩ := Oper.apart_spec hap
    intro g
    have hg := hh g
    have ed : dstOf ops j = oj.dst := by simp [dstOf, hj]
    rw [ed] at hg ⊢
    exact ⟨hy.of_same (execOp_put oi hsi a oj.dst _ h3) (wanted_put oi a oj.dst _ h3), by rw [← Act.put_comm a v _ h2]; exact hg⟩

def wpAnyG (P : Program) (md : Region.Mode) (ops : Array Oper) (C : World → Prop) (h n : Nat) (L : Array Bool → Act → Prop) : Nat → Array Bool → Act → Prop
  | 0, listed, a => L listed a
  | f + 1, listed, a =>
    Region.ready md ops listed ≠ [] ∧ ∀ i ∈ Region.ready md ops listed, i < n ∧ gOp P ops C h i (wpAnyG P md ops C h n L f (listed.setIfInBounds i true)) a

theorem wpAnyG_first {h n i : Nat} {oi : Oper} {v : Value} {L : Array Bool → Act → Prop} (hi : ops[i]? = some oi) (hsel : ∀ (j : Nat) (o : Oper) cs b, ops[j]? = some o → o.op ≠ .select cs b)
    (hs : Region.sinkB md ops n = true) (hc : Region.chainB md ops n = true) (hn : n < ops.size) (hin : i < n) (hih : i < h)
    (hdone : ∀ listed a, L listed a → ∀ j ∈ Region.ready md ops listed, n ≤ j) :
    ∀ (f : Nat) (listed : Array Bool) (a : Act), HeadInv md ops n listed →
      (∀ j oj, ops[j]? = some oj → j ≠ i → listed.getD j true = false → (∀ e ∈ oj.after, Region.binds md e = true → e.on ≠ i) → oi.apart ops oj = true) →
      i ∈ Region.ready md ops listed → YieldsIn P ops C oi v a →
      wpAnyG P md ops C h n L f (listed.setIfInBounds i true) (a.put oi.dst v) → wpAnyG P md ops C h n L (f + 1) listed a := by
  have one : ∀ {f : Nat} {listed : Array Bool} {a : Act}, YieldsIn P ops C oi v a → wpAnyG P md ops C h n L f listed (a.put oi.dst v) → gOp P ops C h i (wpAnyG P md ops C h n L f listed) a := fun hy H => by
    unfold gOp; rw [if_pos hih]; exact hy.qOp hi H
  intro f
  induction f with
  | zero =>
    intro listed a inv _ hr hy H
    have hun := (mem_ready.1 hr).1
    refine ⟨fun h => (by rw [h] at hr; cases hr), fun j hj => ?_⟩
    have hjn : j < n := by
      rcases Nat.lt_or_ge j n with h | h
      · exact h
      · exact absurd hj (tail_waits hs hc hn inv _ i rfl hin hun j h)
    refine ⟨hjn, ?_⟩
    by_cases hji : j = i
    · subst hji; exact one hy H
    · have := hdone _ _ H j (ready_mono hj hji)
      omega
  | succ f ih =>
    intro listed a inv hfree hr hy H
    have hun := (mem_ready.1 hr).1
    refine ⟨fun h => (by rw [h] at hr; cases hr), fun j hj => ?_⟩
    have hjn : j < n := by
      rcases Nat.lt_or_ge j n with h | h
      · exact h
      · exact absurd hj (tail_waits hs hc hn inv _ i rfl hin hun j h)
    refine ⟨hjn, ?_⟩
    by_cases hji : j = i
    · subst hji; exact one hy H
    · have h1 := (H.2 j (ready_mono hj hji)).2
      obtain ⟨hjun, oj, hoj, hall⟩ := mem_ready.1 hj
      have hnot : ∀ e ∈ oj.after, Region.binds md e = true → e.on ≠ i := fun e he hb heq => by
        have h1 := hall e he hb
        rw [heq, getD_both hun] at h1
        cases h1
      have h2 := gOp_put hoj (hfree j oj hoj hji hjun hnot) (fun cs b => hsel i oi cs b hi) (fun cs b => hsel j oj cs b hoj) hy h1
      have hfree' : ∀ k ok, ops[k]? = some ok → k ≠ i → (listed.setIfInBounds j true).getD k true = false →
          (∀ e ∈ ok.after, Region.binds md e = true → e.on ≠ i) → oi.apart ops ok = true := fun k ok hk hki hun hno => by
        refine hfree k ok hk hki ?_ hno
        by_cases hjk : j = k
        · subst hjk; exact hjun
        · rw [getD_set_ne true hjk] at hun; exact hun
      refine gOp_mono (fun a' h3 => ih (listed.setIfInBounds j true) a' (inv.set hj hjn) hfree' (ready_mono hr (Ne.symm hji)) h3.1 ?_) h2
      rw [Array.setIfInBounds_comm _ _ hji]
      exact h3.2

theorem wpAnyG_firstA {h n i : Nat} {oi : Oper} {L : Array Bool → Act → Prop} (hi : ops[i]? = some oi)
    (hs : Region.sinkB md ops n = true) (hc : Region.chainB md ops n = true) (hn : n < ops.size) (hin : i < n) (hih : h ≤ i)
    (hdone : ∀ listed a, L listed a → ∀ j ∈ Region.ready md ops listed, n ≤ j) :
    ∀ (f : Nat) (listed : Array Bool) (a : Act), HeadInv md ops n listed → (∀ j, j < h → listed.getD j false = true) →
      (∀ j oj, ops[j]? = some oj → j ≠ i → listed.getD j true = false → (∀ e ∈ oj.after, Region.binds md e = true → e.on ≠ i) → oi.apart ops oj = true) →
      i ∈ Region.ready md ops listed →
      (∀ g, wpAnyG P md ops C h n L f (listed.setIfInBounds i true) (a.put oi.dst (ptrAt g))) → wpAnyG P md ops C h n L (f + 1) listed a := by
  have ed : dstOf ops i = oi.dst := by simp [dstOf, hi]
  have one : ∀ {f : Nat} {listed : Array Bool} {a : Act}, (∀ g, wpAnyG P md ops C h n L f listed (a.put oi.dst (ptrAt g))) → gOp P ops C h i (wpAnyG P md ops C h n L f listed) a := fun H => by
    unfold gOp; rw [if_neg (by omega), ed]; exact H
  intro f
  induction f with
  | zero =>
    intro listed a inv _ _ hr H
    have hun := (mem_ready.1 hr).1
    refine ⟨fun h => (by rw [h] at hr; cases hr), fun j hj => ?_⟩
    have hjn : j < n := by
      rcases Nat.lt_or_ge j n with h | h
      · exact h
      · exact absurd hj (tail_waits hs hc hn inv _ i rfl hin hun j h)
    refine ⟨hjn, ?_⟩
    by_cases hji : j = i
    · subst hji; exact one H
    · have := hdone _ _ (H 0) j (ready_mono hj hji)
      omega
  | succ f ih =>
    intro listed a inv hall0 hfree hr H
    have hun := (mem_ready.1 hr).1
    refine ⟨fun h => (by rw [h] at hr; cases hr), fun j hj => ?_⟩
    have hjn : j < n := by
      rcases Nat.lt_or_ge j n with h | h
      · exact h
      · exact absurd hj (tail_waits hs hc hn inv _ i rfl hin hun j h)
    refine ⟨hjn, ?_⟩
    by_cases hji : j = i
    · subst hji; exact one H
    · obtain ⟨hjun, oj, hoj, hall⟩ := mem_ready.1 hj
      have hjh : h ≤ j := by
        rcases Nat.lt_or_ge j h with k | k
        · have := hall0 j k
          rw [getD_both hjun] at this
          cases this
        · exact k
      have hnot : ∀ e ∈ oj.after, Region.binds md e = true → e.on ≠ i := fun e he hb heq => by
        have h1 := hall e he hb
        rw [heq, getD_both hun] at h1
        cases h1
      have hap := hfree j oj hoj hji hjun hnot
      obtain ⟨_, h2, _⟩ := Oper.apart_spec hap
      have edj : dstOf ops j = oj.dst := by simp [dstOf, hoj]
      have hfree' : ∀ k ok, ops[k]? = some ok → k ≠ i → (listed.setIfInBounds j true).getD k true = false →
          (∀ e ∈ ok.after, Region.binds md e = true → e.on ≠ i) → oi.apart ops ok = true := fun k ok hk hki hun hno => by
        refine hfree k ok hk hki ?_ hno
        by_cases hjk : j = k
        · subst hjk; exact hjun
        · rw [getD_set_ne true hjk] at hun; exact hun
      unfold gOp
      rw [if_neg (by omega)]
      intro g'
      refine ih (listed.setIfInBounds j true) _ (inv.set hj hjn) (fun k hk => by rw [getD_set_ne false (by omega)]; exact hall0 k hk) hfree' (ready_mono hr (Ne.symm hji)) (fun g => ?_)
      have h1 := ((H g).2 j (ready_mono hj hji)).2
      unfold gOp at h1
      rw [if_neg (by omega)] at h1
      have h3 := h1 g'
      rw [edj] at h3 ⊢
      rw [Array.setIfInBounds_comm _ _ hji, ← Act.put_comm a _ _ h2]
      exact h3

/-- the lexical walk: q quiet operations, then new blocks -/
def wpLexG (P : Program) (ops : Array Oper) (C : World → Prop) (Lq : Act → Prop) : Nat → List Oper → Act → Prop
  | _, [], a => Lq a
  | 0, o :: l, a => ∀ g, wpLexG P ops C Lq 0 l (a.put o.dst (ptrAt g))
  | q + 1, o :: l, a => if Region.wanted o (yielded ops a.tmps) then o.quiet P a C (wpLexG P ops C Lq q l) else wpLexG P ops C Lq q l (a.put o.dst undef)
def alWalk (Lq : Act → Prop) : List Oper → Act → Prop
  | [], a => Lq a
  | o :: l, a => ∀ g, alWalk Lq l (a.put o.dst (ptrAt g))
theorem wpLexG_zero {Lq : Act → Prop} : ∀ (l : List Oper) (a : Act), alWalk Lq l a → wpLexG P ops C Lq 0 l a
  | [], _, h => h
  | _ :: l, _, h => fun g => wpLexG_zero l _ (h g)
theorem wpLexG_of {Lq : Act → Prop} : ∀ (q : Nat) (l : List Oper) (a : Act), wpQuiet P ops C (alWalk Lq (l.drop q)) (l.take q) a → wpLexG P ops C Lq q l a
  | 0, l, a, h => wpLexG_zero l a h
  | _ + 1, [], a, h => h
  | q + 1, o :: l, a, h => by
    simp only [List.take_succ_cons, List.drop_succ_cons] at h
    unfold wpQuiet at h
    unfold wpLexG
    split
    · rw [if_pos ‹_›] at h; exact Oper.quiet_mono (fun a' h' => wpLexG_of q l a' h') h
    · rw [if_neg ‹_›] at h; exact wpLexG_of q l _ h

theorem wpAnyG_lex {h n g : Nat} {Lq : Act → Prop} (hsel : Region.noSelect ops = true) (hs : Region.sinkB md ops n = true) (hc : Region.chainB md ops n = true) (hn : n < ops.size) :
    ∀ (l : List Oper) (k q : Nat) (listed : Array Bool) (a : Act), (∀ j, j < l.length → l[j]? = ops[k + j]?) → k + l.length = n → q = h - k → HeadInv md ops n listed → (∀ j, j < k → listed.getD j false = true) →
    Region.lexHead md ops g l.length k listed = true → wpLexG P ops C Lq q l a →
    wpAnyG P md ops C h n (fun listed' a' => Region.seqB md ops g n listed' = true ∧ Lq a') l.length listed a
  | [], k, q, listed, a, _, hk, _, _, _, hB, hh => by
    have : k = n := by simpa using hk
    subst this
    exact ⟨by simpa [Region.lexHead] using hB, by cases q <;> exact hh⟩
  | o :: l, k, q, listed, a, hl, hk, hq, inv, hL, hB, hh => by
    have h0 : ops[k]? = some o := by simpa using (hl 0 (by simp)).symm
    simp only [List.length_cons, Region.lexHead, Bool.and_eq_true] at hB
    obtain ⟨⟨hr, hf⟩, hB'⟩ := hB
    have hkn : k < n := by simp only [List.length_cons] at hk; omega
    have hr' : k ∈ Region.ready md ops listed := by simpa using hr
    have hL' : ∀ j, j < k + 1 → (listed.setIfInBounds k true).getD j false = true := fun j hj => by
      by_cases e : k = j
      · subst e
        have hlt : k < listed.size := by rw [inv.size]; omega
        simp [hlt]
      · rw [getD_set_ne false e]; exact hL j (by omega)
    have next := fun (a' : Act) (q' : Nat) (hq' : q' = h - (k + 1)) (hh' : wpLexG P ops C Lq q' l a') => wpAnyG_lex (Lq := Lq) (h := h) (g := g) hsel hs hc hn l (k + 1) q' (listed.setIfInBounds k true) a' (fun j hj => by have := hl (j + 1) (by simp; omega); simpa [Nat.add_assoc, Nat.add_comm 1 j] using this) (by simp only [List.length_cons] at hk; omega) hq' (inv.set hr' hkn) hL' hB' hh'
    match q, hq, hh with
    | 0, hq, hh =>
      exact wpAnyG_firstA h0 hs hc hn hkn (by omega) (fun listed' a' hL => seqB_ready hL.1) l.length listed a inv (fun j hj => hL j (by omega)) (Region.free_spec h0 hf) hr' (fun g => next _ 0 (by omega) (hh g))
    | q + 1, hq, hh =>
      have hst : qOp P ops C k (wpLexG P ops C Lq q l) a := by unfold qOp; simp only [h0]; exact hh
      obtain ⟨v, hy, hK⟩ := yieldsIn_of_qOp h0 hst
      exact wpAnyG_first h0 (Region.noSelect_spec hsel) hs hc hn hkn (by omega) (fun listed' a' hL => seqB_ready hL.1) l.length listed a inv (Region.free_spec h0 hf) hr' hy (next _ q (by omega) hK)
end
end Go.Proofs.YtjmagehfkcnjjaaDoor

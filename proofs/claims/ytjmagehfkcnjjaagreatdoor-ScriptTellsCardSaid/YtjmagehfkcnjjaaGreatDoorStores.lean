/-
  A region that draws its order, with no call of a function: reads and reckonings, and stores into blocks that nothing else in it reads, each store into a block of its own.
-/
import Derived.Test.YtjmagehfkcnjjaaGreatDoorKC
namespace Go.Proofs.YtjmagehfkcnjjaaGreatDoor
set_option linter.unusedVariables false
open Go.RowKit

/-- the worlds that keep all blocks but Bs -/
structure LaterX (Bs : List Nat) (w : World) where
  out : World
  os : out.os = w.os
  tape_ : out.tape = w.tape
  output : out.output = w.output
  size : w.heap.size ≤ out.heap.size
  block : ∀ k, k < w.heap.size → k ∉ Bs → out.heap[k]? = w.heap[k]?
section
variable {w : World} {Bs : List Nat}
def LaterX.self (Bs : List Nat) (w : World) : LaterX Bs w := ⟨w, rfl, rfl, rfl, Nat.le_refl _, fun _ _ _ => rfl⟩
instance : Nonempty (LaterX Bs w) := ⟨LaterX.self Bs w⟩
def LaterX.step {W' : World} (x : LaterX Bs w) {b : Nat} (hb : b ∈ Bs) (h : x.out.grownBy W' (some b)) : LaterX Bs w :=
  ⟨W', h.os.trans x.os, h.tape.trans x.tape_, h.output.trans x.output, Nat.le_trans x.size h.size, fun k hk hn => (h.block k (Nat.lt_of_lt_of_le hk x.size) (fun e => hn (by cases e; exact hb))).trans (x.block k hk hn)⟩
def LaterX.hc (x : LaterX Bs w) (b o : Nat) : Option Value := x.out.cell? ⟨b, o, none⟩
def LaterX.hf (x : LaterX Bs w) (b o : Nat) : Bool := x.out.frozen? ⟨b, o, none⟩
theorem LaterX.cell_eq (x : LaterX Bs w) (b o : Nat) : x.out.cell? ⟨b, o, none⟩ = bif decide (b < w.heap.size) && !Bs.contains b then w.cell? ⟨b, o, none⟩ else x.hc b o := by
  by_cases h : b < w.heap.size ∧ b ∉ Bs
  · have e : (decide (b < w.heap.size) && !Bs.contains b) = true := by simp [h.1, h.2]
    rw [e]; exact World.cell?_of_block (a := ⟨b, o, none⟩) (x.block b h.1 h.2)
  · have e : (decide (b < w.heap.size) && !Bs.contains b) = false := by
      rw [Bool.eq_false_iff]; intro k; simp at k; exact h k
    rw [e]; rfl
theorem LaterX.frozen_eq (x : LaterX Bs w) (b o : Nat) : x.out.frozen? ⟨b, o, none⟩ = bif decide (b < w.heap.size) && !Bs.contains b then w.frozen? ⟨b, o, none⟩ else x.hf b o := by
  by_cases h : b < w.heap.size ∧ b ∉ Bs
  · have e : (decide (b < w.heap.size) && !Bs.contains b) = true := by simp [h.1, h.2]
    rw [e]; exact World.frozen?_of_block (a := ⟨b, o, none⟩) (x.block b h.1 h.2)
  · have e : (decide (b < w.heap.size) && !Bs.contains b) = false := by
      rw [Bool.eq_false_iff]; intro k; simp at k; exact h k
    rw [e]; rfl
/-- the rule for a list of two blocks, written out -/
@[go_sem] theorem LaterX.cell2 {g h : Nat} (x : LaterX [g, h] w) (b o : Nat) : x.out.cell? ⟨b, o, none⟩ = bif decide (b < w.heap.size) && !(b == g) && !(b == h) then w.cell? ⟨b, o, none⟩ else x.hc b o := by
  rw [x.cell_eq, show [g, h].contains b = (b == g || (b == h || false)) from rfl]
  cases (b == g) <;> cases (b == h) <;> cases decide (b < w.heap.size) <;> rfl
@[go_sem] theorem LaterX.cell1 {g : Nat} (x : LaterX [g] w) (b o : Nat) : x.out.cell? ⟨b, o, none⟩ = bif decide (b < w.heap.size) && !(b == g) then w.cell? ⟨b, o, none⟩ else x.hc b o := by
  rw [x.cell_eq, show [g].contains b = (b == g || false) from rfl]
  cases (b == g) <;> cases decide (b < w.heap.size) <;> rfl
theorem LaterX.blk (x : LaterX Bs w) {b : Nat} {T : TypeId} {c : Array Value} (h : Blk w b T c) (hb : b ∉ Bs) : Blk x.out b T c := (x.block b h.lt hb).trans h
theorem LaterX.below {B : Nat} {w0 : World} (x : LaterX Bs w) (h : Below B w0 w) (hB : B ≤ w.heap.size) (hb : ∀ b ∈ Bs, B ≤ b) : Below B w0 x.out :=
  ⟨x.os.trans h.os, x.tape_.trans h.tape, x.output.trans h.output, Nat.le_trans h.size x.size, fun k hk => (x.block k (Nat.lt_of_lt_of_le hk hB) (fun e => by have := hb k e; omega)).trans (h.block k hk)⟩
theorem LaterX.grown (x : LaterX Bs w) {b : Nat} (h : Bs = [b]) : w.grownBy x.out (some b) := ⟨x.os, x.tape_, x.output, x.size, fun k hk hn => x.block k hk (by subst h; simpa using fun e => hn (by rw [e]))⟩
end

structure St where
  b : Nat
  A : Value
  V : Value
  old : Obj
  new : Obj
section
variable {P : Program} {ops : Array Oper} {C : World → Prop} {ro : Option Nat} {n : Nat} {st : Nat → Option St}

/-- a store's address and value, as the frame has them -/
def StCond (ops : Array Oper) (i : Nat) (s : St) (a : Act) : Prop := ∃ o t x y, ops[i]? = some o ∧ o.op = .store t x y ∧ a.eval x = s.A ∧ a.eval y = s.V
def gOpS (P : Program) (ops : Array Oper) (C : World → Prop) (st : Nat → Option St) (i : Nat) (K : Act → Prop) (a : Act) : Prop :=
  match st i with
  | none => qOp P ops C i K a
  | some s => StCond ops i s a ∧ K a
theorem gOpS_mono {i : Nat} {a : Act} {K K' : Act → Prop} (hk : ∀ a, K a → K' a) (hh : gOpS P ops C st i K a) : gOpS P ops C st i K' a := by
  unfold gOpS at *
  split
  · rename_i e; rw [e] at hh; exact qOp_mono hk hh
  · rename_i s e; rw [e] at hh; exact ⟨hh.1, hk _ hh.2⟩
theorem stCond_put {i : Nat} {s : St} {a : Act} {d : Option Tmp} {v : Value} {oi : Oper} (hi : ops[i]? = some oi) (hd : ∀ e, d = some e → e ∉ oi.looksAt ops) : StCond ops i s (a.put d v) ↔ StCond ops i s a := by
  have key : ∀ o t x y, ops[i]? = some o → o.op = .store t x y → ((a.put d v).eval x = a.eval x ∧ (a.put d v).eval y = a.eval y) := by
    intro o t x y ho hop
    obtain rfl : o = oi := Option.some.inj (ho.symm.trans hi)
    have mem : ∀ z, z ∈ o.op.operands → (a.put d v).eval z = a.eval z := fun z hz => Act.eval_put fun e he hze => hd e he (by
      subst hze
      exact List.mem_append_left _ (List.mem_filterMap.2 ⟨.tmp e, by simpa using hz, rfl⟩))
    exact ⟨mem x (by rw [hop]; simp [Op.operands]), mem y (by rw [hop]; simp [Op.operands])⟩
  constructor
  · rintro ⟨o, t, x, y, ho, hop, h1, h2⟩
    obtain ⟨k1, k2⟩ := key o t x y ho hop
    exact ⟨o, t, x, y, ho, hop, k1 ▸ h1, k2 ▸ h2⟩
  · rintro ⟨o, t, x, y, ho, hop, h1, h2⟩
    obtain ⟨k1, k2⟩ := key o t x y ho hop
    exact ⟨o, t, x, y, ho, hop, k1.trans h1, k2.trans h2⟩
theorem gOpS_put {j : Nat} {oi oj : Oper} {v : Value} (hj : ops[j]? = some oj) (hap : oi.apart ops oj = true)
    (hsi : ∀ cs b, oi.op ≠ .select cs b) (hsj : ∀ cs b, oj.op ≠ .select cs b) {K : Act → Prop} {a : Act}
    (hy : YieldsIn P ops C oi v a) (hh : gOpS P ops C st j K (a.put oi.dst v)) :
    gOpS P ops C st j (fun a' => YieldsIn P ops C oi v a' ∧ K (a'.put oi.dst v)) a := by
  unfold gOpS at *
  split
  · rename_i e; rw [e] at hh; exact qOp_put hj hap hsi hsj hy hh
  · rename_i s e; rw [e] at hh
    exact ⟨(stCond_put hj (Oper.apart_spec hap).1).1 hh.1, hy, hh.2⟩
theorem gOpS_keep {i j : Nat} {s : St} {oi oj : Oper} (hi : ops[i]? = some oi) (hj : ops[j]? = some oj) (hap : oi.apart ops oj = true) {K : Act → Prop} {a : Act} (hc : StCond ops i s a) (hh : gOpS P ops C st j K a) :
    gOpS P ops C st j (fun a' => StCond ops i s a' ∧ K a') a := by
  have keep : ∀ u, StCond ops i s (a.put oj.dst u) := fun u => (stCond_put hi (Oper.apart_spec hap).2.2).2 hc
  unfold gOpS at *
  split
  · rename_i e
    rw [e] at hh
    unfold qOp at *
    simp only [hj] at *
    split
    · rw [if_pos ‹_›] at hh
      obtain ⟨v, h1, h2⟩ := hh
      exact ⟨v, h1, keep v, h2⟩
    · rw [if_neg ‹_›] at hh; exact ⟨keep _, hh⟩
  · rename_i s' e; rw [e] at hh; exact ⟨hh.1, hc, hh.2⟩

def wpAnyS (P : Program) (ops : Array Oper) (C : World → Prop) (st : Nat → Option St) (L : Array Bool → Act → Prop) : Nat → Array Bool → Act → Prop
  | 0, listed, a => L listed a
  | f + 1, listed, a => Region.ready .any ops listed ≠ [] ∧ ∀ i ∈ Region.ready .any ops listed, gOpS P ops C st i (wpAnyS P ops C st L f (listed.setIfInBounds i true)) a

theorem wpAnyS_first {i : Nat} {oi : Oper} {v : Value} {L : Array Bool → Act → Prop} (hi : ops[i]? = some oi) (hsel : ∀ (j : Nat) (o : Oper) cs b, ops[j]? = some o → o.op ≠ .select cs b) (hsi : st i = none)
    (hdone : ∀ listed a, L listed a → Region.ready .any ops listed = []) :
    ∀ (f : Nat) (listed : Array Bool) (a : Act),
      (∀ j oj, ops[j]? = some oj → j ≠ i → listed.getD j true = false → (∀ e ∈ oj.after, Region.binds .any e = true → e.on ≠ i) → oi.apart ops oj = true) →
      i ∈ Region.ready .any ops listed → YieldsIn P ops C oi v a →
      wpAnyS P ops C st L f (listed.setIfInBounds i true) (a.put oi.dst v) → wpAnyS P ops C st L (f + 1) listed a := by
  have one : ∀ {a : Act} {K : Act → Prop}, YieldsIn P ops C oi v a → K (a.put oi.dst v) → gOpS P ops C st i K a := fun hy H => by
    unfold gOpS; rw [hsi]; exact hy.qOp hi H
  intro f
  induction f with
  | zero =>
    intro listed a _ hr hy H
    refine ⟨fun h => (by rw [h] at hr; cases hr), fun j hj => ?_⟩
    by_cases hji : j = i
    · subst hji; exact one hy H
    · have := ready_mono hj hji
      rw [hdone _ _ H] at this
      cases this
  | succ f ih =>
    intro listed a hfree hr hy H
    have hun := (mem_ready.1 hr).1
    refine ⟨fun h => (by rw [h] at hr; cases hr), fun j hj => ?_⟩
    by_cases hji : j = i
    · subst hji; exact one hy H
    · have h1 := H.2 j (ready_mono hj hji)
      obtain ⟨hjun, oj, hoj, hall⟩ := mem_ready.1 hj
      have hnot : ∀ e ∈ oj.after, Region.binds .any e = true → e.on ≠ i := fun e he hb heq => by
        have h1 := hall e he hb
        rw [heq, getD_both hun] at h1
        cases h1
      have h2 := gOpS_put hoj (hfree j oj hoj hji hjun hnot) (fun cs b => hsel i oi cs b hi) (fun cs b => hsel j oj cs b hoj) hy h1
      have hfree' : ∀ k ok, ops[k]? = some ok → k ≠ i → (listed.setIfInBounds j true).getD k true = false →
          (∀ e ∈ ok.after, Region.binds .any e = true → e.on ≠ i) → oi.apart ops ok = true := fun k ok hk hki hun hno => by
        refine hfree k ok hk hki ?_ hno
        by_cases hjk : j = k
        · subst hjk; exact hjun
        · rw [getD_set_ne true hjk] at hun; exact hun
      refine gOpS_mono (fun a' h3 => ih (listed.setIfInBounds j true) a' hfree' (ready_mono hr (Ne.symm hji)) h3.1 ?_) h2
      rw [Array.setIfInBounds_comm _ _ hji]
      exact h3.2

theorem wpAnyS_firstS {i : Nat} {oi : Oper} {s : St} {L : Array Bool → Act → Prop} (hi : ops[i]? = some oi) (hsi : st i = some s)
    (hdone : ∀ listed a, L listed a → Region.ready .any ops listed = []) :
    ∀ (f : Nat) (listed : Array Bool) (a : Act),
      (∀ j oj, ops[j]? = some oj → j ≠ i → listed.getD j true = false → (∀ e ∈ oj.after, Region.binds .any e = true → e.on ≠ i) → oi.apart ops oj = true) →
      i ∈ Region.ready .any ops listed → StCond ops i s a →
      wpAnyS P ops C st L f (listed.setIfInBounds i true) a → wpAnyS P ops C st L (f + 1) listed a := by
  have one : ∀ {a : Act} {K : Act → Prop}, StCond ops i s a → K a → gOpS P ops C st i K a := fun hy H => by
    unfold gOpS; rw [hsi]; exact ⟨hy, H⟩
  intro f
  induction f with
  | zero =>
    intro listed a _ hr hy H
    refine ⟨fun h => (by rw [h] at hr; cases hr), fun j hj => ?_⟩
    by_cases hji : j = i
    · subst hji; exact one hy H
    · have := ready_mono hj hji
      rw [hdone _ _ H] at this
      cases this
  | succ f ih =>
    intro listed a hfree hr hy H
    have hun := (mem_ready.1 hr).1
    refine ⟨fun h => (by rw [h] at hr; cases hr), fun j hj => ?_⟩
    by_cases hji : j = i
    · subst hji; exact one hy H
    · have h1 := H.2 j (ready_mono hj hji)
      obtain ⟨hjun, oj, hoj, hall⟩ := mem_ready.1 hj
      have hnot : ∀ e ∈ oj.after, Region.binds .any e = true → e.on ≠ i := fun e he hb heq => by
        have h1 := hall e he hb
        rw [heq, getD_both hun] at h1
        cases h1
      have h2 := gOpS_keep hi hoj (hfree j oj hoj hji hjun hnot) hy h1
      have hfree' : ∀ k ok, ops[k]? = some ok → k ≠ i → (listed.setIfInBounds j true).getD k true = false →
          (∀ e ∈ ok.after, Region.binds .any e = true → e.on ≠ i) → oi.apart ops ok = true := fun k ok hk hki hun hno => by
        refine hfree k ok hk hki ?_ hno
        by_cases hjk : j = k
        · subst hjk; exact hjun
        · rw [getD_set_ne true hjk] at hun; exact hun
      refine gOpS_mono (fun a' h3 => ih (listed.setIfInBounds j true) a' hfree' (ready_mono hr (Ne.symm hji)) h3.1 ?_) h2
      rw [Array.setIfInBounds_comm _ _ hji]
      exact h3.2

/-- the walk in the order of hs -/
def wpLexS (P : Program) (l : List Oper) (C : World → Prop) (st : Nat → Option St) (Lq : Act → Prop) : List Nat → Act → Prop
  | [], a => Lq a
  | i :: r, a => match st i with
    | none => wpQuiet P l.toArray C (wpLexS P l C st Lq r) (pick l [i]) a
    | some s => StCond l.toArray i s a ∧ wpLexS P l C st Lq r a
theorem wpLexS_quiet {l : List Oper} {Lq : Act → Prop} {r : List Nat} : ∀ (qs : List Nat) (a : Act), (∀ i ∈ qs, st i = none ∧ i < l.length) → wpQuiet P l.toArray C (wpLexS P l C st Lq r) (pick l qs) a → wpLexS P l C st Lq (qs ++ r) a
  | [], a, _, h => h
  | i :: qs, a, hs, h => by
    obtain ⟨h1, h2⟩ := hs i (by simp)
    have next := fun a' (h' : wpQuiet P l.toArray C (wpLexS P l C st Lq r) (pick l qs) a') => wpLexS_quiet qs a' (fun k hk => hs k (List.mem_cons_of_mem _ hk)) h'
    have hl : l[i]? = some l[i] := List.getElem?_eq_getElem h2
    simp only [List.cons_append]
    unfold wpLexS
    rw [h1]
    simp only [pick, hl] at h ⊢
    unfold wpQuiet at h ⊢
    split
    · rw [if_pos ‹_›] at h; exact Oper.quiet_mono (fun a' h' => next a' h') h
    · rw [if_neg ‹_›] at h; exact next _ h

theorem wpAnyS_lex {l : List Oper} (hops : ops = l.toArray) {m : Nat} {Lq : Act → Prop} (hsel : Region.noSelect ops = true) (hdst : ∀ i s o, st i = some s → ops[i]? = some o → o.dst = none) :
    ∀ (hs : List Nat) (listed : Array Bool) (a : Act), headB ops hs listed = true → (Region.ready .any ops (hs.foldl (fun b i => b.setIfInBounds i true) listed)).isEmpty = true → (∀ i, i < m → (hs.foldl (fun b i => b.setIfInBounds i true) listed).getD i false = true) →
    wpLexS P l C st Lq hs a →
    wpAnyS P ops C st (fun listed' a' => Region.ready .any ops listed' = [] ∧ (∀ i, i < m → listed'.getD i false = true) ∧ Lq a') hs.length listed a
  | [], listed, a, _, hT, hA, h => ⟨by simpa using hT, hA, h⟩
  | i :: hs, listed, a, hB, hT, hA, h => by
    simp only [headB, Bool.and_eq_true, decide_eq_true_eq] at hB
    obtain ⟨⟨⟨hlt, hr⟩, hf⟩, hB'⟩ := hB
    have hr' : i ∈ Region.ready .any ops listed := by simpa using hr
    have h0 : ops[i]? = some ops[i] := Array.getElem?_eq_getElem hlt
    have hl0 : l[i]? = some ops[i] := by rw [← h0, hops]; simp
    have next := fun a' h' => wpAnyS_lex hops (m := m) (Lq := Lq) hsel hdst hs (listed.setIfInBounds i true) a' hB' (by simpa using hT) (by simpa using hA) h'
    unfold wpLexS at h
    cases hsi : st i with
    | none =>
      rw [hsi] at h
      simp only [pick, hl0] at h
      have hst : qOp P ops C i (wpLexS P l C st Lq hs) a := by
        unfold qOp; simp only [h0]
        unfold wpQuiet at h
        rw [← hops] at h
        exact h
      obtain ⟨v, hy, hK⟩ := yieldsIn_of_qOp h0 hst
      exact wpAnyS_first h0 (Region.noSelect_spec hsel) hsi (fun _ _ hL => hL.1) hs.length listed a (Region.free_spec h0 hf) hr' hy (next _ hK)
    | some s =>
      rw [hsi] at h
      rw [← hops] at h
      exact wpAnyS_firstS h0 hsi (fun _ _ hL => hL.1) hs.length listed a (Region.free_spec h0 hf) hr' h.1 (next _ h.2)

/-- no call of a function, no defer -/
def noCall (l : List Oper) : Bool := l.all fun o => match o.op with
  | .defer _ => false
  | .call c => (match c.callee with | .builtin .min => true | .builtin .max => true | .builtin .len => true | _ => false)
  | _ => true

structure StInv (w : World) (Bs : List Nat) (st : Nat → Option St) (listed : Array Bool) (wc : World) : Prop where
  lx : ∃ x : LaterX Bs w, wc = x.out
  at_ : ∀ i s, st i = some s → wc.heap[s.b]? = some (if listed.getD i false then s.new else s.old)

/-- what the rule must know of the stores -/
structure StOps (P : Program) (l : List Oper) (w : World) (Bs : List Nat) (st : Nat → Option St) : Prop where
  op : ∀ i s, st i = some s → ∃ o t x y, l[i]? = some o ∧ o.op = .store t x y ∧ o.guard = none ∧ o.dst = none ∧ s.b ∈ Bs ∧ w.heap[s.b]? = some s.old ∧
    (∀ v : World, v.heap[s.b]? = some s.old → ∃ v', (Instr.storeAt t s.A s.V).run P v = .ok () v' ∧ v.grownBy v' (some s.b) ∧ v'.heap[s.b]? = some s.new)
  ne : ∀ i j s s', st i = some s → st j = some s' → i ≠ j → s.b ≠ s'.b

theorem quiet_same {o : Oper} {a : Act} {v : Value} {w : World} (hn : ∀ f args w', (execOp a.eval o).run P w ≠ .ok (.enter f args) w') (h : o.quietAt P a C w v) :
    (execOp a.eval o).run P w = .ok (.value v) w ∨ ((execOp a.eval o).run P w = .ok .skip w ∧ v = undef) := by
  unfold Oper.quietAt at h
  cases hr : (execOp a.eval o).run P w with
  | halt => rw [hr] at h; exact h.elim
  | ok x w' =>
    rw [hr] at h
    cases x with
    | value u => obtain ⟨rfl, rfl⟩ := h; exact .inl rfl
    | skip => obtain ⟨rfl, rfl⟩ := h; exact .inr ⟨rfl, rfl⟩
    | enter f args => exact absurd hr (hn f args w')
    | _ => exact h.elim

/-- an operation that enters no function -/
def NoEnter (P : Program) (o : Oper) : Prop := ∀ (a : Act) (w : World) (f : FuncId) (args : Array Value) (w' : World), (execOp a.eval o).run P w ≠ .ok (.enter f args) w'

theorem wpAnyIn_of_S {l : List Oper} {w : World} {Bs : List Nat} {Q' : Exit → Act → World → Prop} {L : Array Bool → Act → Prop} (hS : StOps P l w Bs st) (hd : noDefer l = true) (hne : ∀ i o, st i = none → l[i]? = some o → NoEnter P o)
    (hL : ∀ listed a wc, StInv w Bs st listed wc → L listed a → wpAnyIn (wideAt ro) n P .any l.toArray Q' 0 listed a wc) :
    ∀ (f : Nat) (listed : Array Bool) (a : Act) (wc : World), StInv w Bs st listed wc → wpAnyS P l.toArray (fun w' => ∃ x : LaterX Bs w, w' = x.out) st L f listed a → wpAnyIn (wideAt ro) n P .any l.toArray Q' f listed a wc
  | 0, listed, a, wc, hI, hh => hL _ _ _ hI hh
  | f + 1, listed, a, wc, hI, hh => by
    refine ⟨fun h0 => absurd h0 hh.1, fun i hi => ?_⟩
    have h1 := hh.2 i hi
    obtain ⟨hun, o, ho, _⟩ := mem_ready.1 hi
    have ho' : l[i]? = some o := by simpa using ho
    have hoth : ∀ k, k ≠ i → (listed.setIfInBounds i true).getD k false = listed.getD k false := fun k e => getD_set_ne false (Ne.symm e)
    have hdf := noDefer_at hd ho
    unfold gOpS at h1
    unfold wpOpIn
    simp only [ho]
    cases hsi : st i with
    | none =>
      rw [hsi] at h1
      have hI' : StInv w Bs st (listed.setIfInBounds i true) wc := ⟨hI.lx, fun k s hk => by
        rw [hoth k (fun e => by rw [e, hsi] at hk; cases hk)]; exact hI.at_ k s hk⟩
      unfold qOp at h1
      simp only [ho] at h1
      split
      · rename_i hw
        rw [if_pos hw] at h1
        obtain ⟨v, h2, h3⟩ := h1
        refine ⟨fun _ _ => trivial, ?_⟩
        rw [show (wideAt ro).round = ro from rfl, Oper.semAt_eq _ _ _ hdf]
        rcases quiet_same (hne i o hsi ho' a wc) (h2 wc hI.lx) with e | ⟨e, rfl⟩
        · rw [e]; exact wpAnyIn_of_S hS hd hne hL f _ _ wc hI' h3
        · rw [e]; exact wpAnyIn_of_S hS hd hne hL f _ _ wc hI' h3
      · rename_i hw
        rw [if_neg hw] at h1
        exact ⟨fun _ _ => trivial, wpAnyIn_of_S hS hd hne hL f _ _ wc hI' h1⟩
    | some s =>
      rw [hsi] at h1
      obtain ⟨o', t, x, y, k1, k2, k3, k4, k5, k6, hrun⟩ := hS.op i s hsi
      obtain rfl : o' = o := Option.some.inj (k1.symm.trans ho')
      obtain ⟨⟨o2, t2, x2, y2, q1, q2, q3, q4⟩, hK⟩ := h1
      obtain rfl : o2 = o' := Option.some.inj (q1.symm.trans ho)
      rw [k2] at q2
      obtain ⟨rfl, rfl, rfl⟩ : t = t2 ∧ x = x2 ∧ y = y2 := by injection q2 with a1 a2 a3; exact ⟨a1, a2, a3⟩
      have hw : Region.wanted o2 (yielded l.toArray a.tmps) = true := by simp [Region.wanted, k3]
      rw [if_pos hw]
      have hold := hI.at_ i s hsi
      rw [getD_both hun] at hold
      obtain ⟨v', r1, r2, r3⟩ := hrun wc (by simpa using hold)
      refine ⟨fun _ _ => trivial, ?_⟩
      rw [show (wideAt ro).round = ro from rfl, Oper.semAt_eq _ _ _ hdf]
      have e : (execOp a.eval o2).run P wc = .ok .skip v' := by
        unfold execOp
        rw [k2]
        simp [q3, q4, r1]
      rw [e]
      simp only [Oper.uponIn]
      rw [k4]
      have ea : a.put none undef = a := rfl
      rw [ea]
      refine wpAnyIn_of_S hS hd hne hL f _ _ v' ⟨?_, fun k s' hk => ?_⟩ hK
      · obtain ⟨x, rfl⟩ := hI.lx
        exact ⟨x.step k5 r2, rfl⟩
      · by_cases hki : k = i
        · subst hki
          obtain rfl : s' = s := Option.some.inj (hk.symm.trans hsi)
          have hlt : k < listed.size := by
            rcases Nat.lt_or_ge k listed.size with q | q
            · exact q
            · simp [Array.getElem?_eq_none q] at hun
          have : (listed.setIfInBounds k true).getD k false = true := by simp [hlt]
          rw [this]; exact r3
        · rw [hoth k hki]
          have hb := hS.ne k i s' s hk hsi hki
          have h5 := hI.at_ k s' hk
          rw [← h5]
          exact r2.block _ (Array.getElem?_eq_some_iff.1 h5).1 (fun e => hb (Option.some.inj e))

theorem wpWide_region_stores {w : World} {id : Nat} {Q : Exit → Act → World → Prop} {a : Act} {l : List Oper} (hs : List Nat) (Bs : List Nat) (st : Nat → Option St) (hm : P.follows .mixedOrders = true)
    (hB : (Region.noSelect l.toArray && headB l.toArray hs (Array.replicate l.toArray.size false) && (Region.ready .any l.toArray (listedBy l.toArray.size hs)).isEmpty && (List.range l.length).all fun i => (listedBy l.toArray.size hs).getD i false) = true) (hsz : hs.length = l.length) (hnd : noDefer l = true)
    (hS : StOps P l w Bs st) (hst : ∀ i, l.length ≤ i → st i = none) (hne : ∀ i o, st i = none → l[i]? = some o → NoEnter P o)
    (hh : wpLexS P l (fun w' => ∃ x : LaterX Bs w, w' = x.out) st (fun a' => ∀ x : LaterX Bs w, (∀ i s, st i = some s → x.out.heap[s.b]? = some s.new) → Q .normal a' x.out) hs a) : (Code.region id l.toArray true).wpIn (wideAt ro) n P Q a w := by
  simp only [Bool.and_eq_true] at hB
  obtain ⟨⟨⟨hsel, hH⟩, hT⟩, hA⟩ := hB
  have hA' : ∀ i, i < l.length → (listedBy l.toArray.size hs).getD i false = true := fun i hi => List.all_eq_true.1 hA i (by simpa using hi)
  have hdst : ∀ i s o, st i = some s → l.toArray[i]? = some o → o.dst = none := fun i s o h1 h2 => by
    obtain ⟨o', t, x, y, k1, _, _, k4, _⟩ := hS.op i s h1
    obtain rfl : o' = o := Option.some.inj (k1.symm.trans (by simpa using h2))
    exact k4
  have H := wpAnyS_lex (P := P) (C := fun w' => ∃ x : LaterX Bs w, w' = x.out) (m := l.length) rfl hsel hdst hs (Array.replicate l.toArray.size false) a hH hT hA' hh
  refine wpIn_region_any hm ?_
  have hC : StInv w Bs st (Array.replicate l.toArray.size false) w.drew := ⟨⟨⟨w.drew, rfl, rfl, rfl, Nat.le_refl _, fun _ _ _ => rfl⟩, rfl⟩, fun i s h => by
    obtain ⟨o', t, x, y, _, _, _, _, _, k6, _⟩ := hS.op i s h
    rw [getD_replicate_false]; exact k6⟩
  have := wpAnyIn_of_S (ro := ro) (n := n) (Q' := Q) hS hnd hne (fun listed' a' wc hI hL => by
    obtain ⟨h1, h2, h3⟩ := hL
    obtain ⟨x, rfl⟩ := hI.lx
    refine ⟨h1, h3 x (fun i s h => ?_)⟩
    have hi : i < l.length := by
      rcases Nat.lt_or_ge i l.length with q | q
      · exact q
      · rw [hst i q] at h; cases h
    have := hI.at_ i s h
    rw [h2 i hi] at this
    exact this) _ _ _ _ hC H
  rw [hsz] at this
  simpa using this
theorem wpIn_region_stores {w : World} {id k : Nat} {Q : Exit → Act → World → Prop} {a : Act} {l : List Oper} (hs : List Nat) (Bs : List Nat) (st : Nat → Option St) (hm : P.follows .mixedOrders = true)
    (hB : (Region.noSelect l.toArray && headB l.toArray hs (Array.replicate l.toArray.size false) && (Region.ready .any l.toArray (listedBy l.toArray.size hs)).isEmpty && (List.range l.length).all fun i => (listedBy l.toArray.size hs).getD i false) = true) (hsz : hs.length = l.length) (hnd : noDefer l = true)
    (hS : StOps P l w Bs st) (hst : ∀ i, l.length ≤ i → st i = none) (hne : ∀ i o, st i = none → l[i]? = some o → NoEnter P o)
    (hh : wpLexS P l (fun w' => ∃ x : LaterX Bs w, w' = x.out) st (fun a' => ∀ x : LaterX Bs w, (∀ i s, st i = some s → x.out.heap[s.b]? = some s.new) → Q .normal a' x.out) hs a) : (Code.region id l.toArray true).wpIn (Fence.wide.inRound k) n P Q a w :=
  wpWide_region_stores (ro := some k) hs Bs st hm hB hsz hnd hS hst hne hh
end
end Go.Proofs.YtjmagehfkcnjjaaGreatDoor

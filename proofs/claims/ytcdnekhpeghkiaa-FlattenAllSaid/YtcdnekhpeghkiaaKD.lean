/-
  Texts that stand as one.
-/
import Derived.Test.YtcdnekhpeghkiaaKC
import Derived.Laws.Tables
import Derived.Deep.MidRow
import Derived.Test.YtcdnekhpeghkiaaB1
/-
  Operations that enter no function; a store of a point.
-/
namespace Go.Proofs.Ytcdnekhpeghkiaa
set_option linter.unusedVariables false
open Go.RowKit

section
variable {P : Program} {w w' : World} {f : FuncId} {args : Array Value}
theorem nv (s : Sem Value) : (do pure (Next.value (← s)) : Sem Next).run P w ≠ .ok (.enter f args) w' := by
  intro e
  rw [Sem.run_bind] at e
  cases hr : s.run P w with
  | ok u w1 => rw [hr] at e; simp [Result.andThen] at e
  | halt x w1 => rw [hr] at e; simp [Result.andThen] at e
theorem nu (s : Sem Unit) : (do s; pure Next.skip : Sem Next).run P w ≠ .ok (.enter f args) w' := by
  intro e
  rw [Sem.run_bind] at e
  cases hr : s.run P w with
  | ok u w1 => rw [hr] at e; simp [Result.andThen] at e
  | halt x w1 => rw [hr] at e; simp [Result.andThen] at e
end
def plainOp : Op → Bool
  | .move _ | .assign _ | .load .. | .binOp .. | .unOp .. | .convert .. | .fieldAddr .. | .field .. | .indexAddr .. | .index .. | .build .. | .extract .. | .slice .. | .store .. | .alloc _ => true
  | _ => false
theorem noEnter_plain {P : Program} {o : Oper} (h : plainOp o.op = true) : NoEnter P o := by
  unfold NoEnter
  intro a w f args w' e
  unfold execOp at e
  cases ho : o.op with
  | move x => rw [ho] at e; simp at e
  | assign x => rw [ho] at e; simp at e
  | load t x => rw [ho] at e; exact nv _ e
  | binOp op t x y s => rw [ho] at e; exact nv _ e
  | unOp op t x => rw [ho] at e; exact nv _ e
  | convert s d x => rw [ho] at e; exact nv _ e
  | fieldAddr s x k => rw [ho] at e; exact nv _ e
  | field s x k => rw [ho] at e; exact nv _ e
  | indexAddr t x i => rw [ho] at e; exact nv _ e
  | index t x i => rw [ho] at e; exact nv _ e
  | build t p => rw [ho] at e; exact nv _ e
  | extract t i => rw [ho] at e; exact nv _ e
  | slice t x l h m => rw [ho] at e; exact nv _ e
  | store t x y => rw [ho] at e; exact nu _ e
  | alloc t => rw [ho] at e; exact nv _ e
  | _ => rw [ho] at h; cases h
theorem noEnter_all {P : Program} {l : List Oper} (h : (l.all fun o => plainOp o.op) = true) {i : Nat} {o : Oper} (ho : l[i]? = some o) : NoEnter P o :=
  noEnter_plain (List.all_eq_true.1 h o (List.mem_of_getElem? ho))

theorem wpLexS_store {P : Program} {C : World → Prop} {st : Nat → Option St} {l : List Oper} {Lq : Act → Prop} {r : List Nat} {a : Act} {i : Nat} {s : St} (h : st i = some s) (hc : StCond l.toArray i s a) (hh : wpLexS P l C st Lq r a) : wpLexS P l C st Lq (i :: r) a := by
  unfold wpLexS; rw [h]; exact ⟨hc, hh⟩
theorem wpLexS_nil {P : Program} {C : World → Prop} {st : Nat → Option St} {l : List Oper} {Lq : Act → Prop} {a : Act} (h : Lq a) : wpLexS P l C st Lq [] a := h
theorem LaterX.keepsFrom {Bs : List Nat} {W : World} {B : Nat} (x : LaterX Bs W) (hb : ∀ b ∈ Bs, b < B) : KeepsFrom B W x.out :=
  ⟨x.size, fun k o hB hk _ => (x.block k (Array.getElem?_eq_some_iff.1 hk).1 (fun h => by have := hb k h; omega)).trans hk⟩
theorem LaterX.keepsTop {Bs Bl : List Nat} {W : World} {B : Nat} (x : LaterX Bs W) (hb : ∀ b ∈ Bs, b < B) (hl : ∀ b ∈ Bl, b ∉ Bs ∧ b < W.heap.size) : KeepsTop B Bl W x.out :=
  ⟨fun b h => x.block b (hl b h).2 (hl b h).1, fun k o hB hk _ => (x.block k (Array.getElem?_eq_some_iff.1 hk).1 (fun h => by have := hb k h; omega)).trans hk⟩

theorem storePt (v : World) (b off : Nat) (T : TypeId) (c : Array Value) (p q : Int) (h : Blk v b T c) (ho : off + 1 < c.size) :
    ∃ v', (Instr.storeAt 23 (.pointer (some ⟨b, off, none⟩)) (.agg #[.int .i64 p, .int .i64 q])).run Try.prog v = .ok () v' ∧ v.grownBy v' (some b) ∧ Blk v' b T ((c.setIfInBounds off (.int .i64 p)).setIfInBounds (off + 1) (.int .i64 q)) := by
  refine ⟨(v.setCell ⟨b, off, none⟩ (.int .i64 p)).setCell ⟨b, off + 1, none⟩ (.int .i64 q), ?_, ?_, ?_⟩
  · have c0 := h.cell off
    have c1 := h.cell (off + 1)
    have f0 := h.frozen off
    have f1 := h.frozen (off + 1)
    rw [Array.getElem?_eq_getElem (by omega)] at c0
    rw [Array.getElem?_eq_getElem (by omega)] at c1
    simp [Instr.storeAt, storeVar, go_sem, c0, c1, f0, f1]
  · exact ⟨rfl, rfl, rfl, by simp, fun k _ hk => (Below.heap_setCell _ ⟨b, off + 1, none⟩ _ k (fun e => hk (by rw [e]))).trans (Below.heap_setCell _ ⟨b, off, none⟩ _ k (fun e => hk (by rw [e])))⟩
  · exact (h.set _ _).set _ _

/-- a store over a whole block -/
theorem storeRow {P : Program} (ty : TypeId) (v : World) (b : Nat) (T : TypeId) (old cells : Array Value) (h : Blk v b T old) (hi : (P.info? ty).map (·.size) = some cells.size) (ho : old.size = cells.size) (h1 : cells.all (·.oneCell') = true) :
    ∃ v', (Instr.storeAt ty (.pointer (some ⟨b, 0, none⟩)) (.agg cells)).run P v = .ok () v' ∧ v.grownBy v' (some b) ∧ Blk v' b T cells := by
  refine ⟨v.setRow b cells, ?_, ⟨rfl, rfl, rfl, by simp [World.setRow], fun k _ hk => ?_⟩, setRow_heap v b old cells T (0, 0) h⟩
  · simp only [Instr.storeAt, Instr.sureAddr, Sem.run_bind, Sem.run_pure, Result.andThen_ok, run_storeVar_row v b T ty old cells h hi ho h1]
  · have hne : b ≠ k := fun e => hk (by rw [e])
    simp [World.setRow, Array.getElem?_modify, hne]
/-- in no round -/
theorem wp_region_stores {P : Program} {w : World} {id : Nat} {Q : Exit → Act → World → Prop} {a : Act} {l : List Oper} (hs : List Nat) (Bs : List Nat) (st : Nat → Option St) (hm : P.follows .mixedOrders = true)
    (hB : (Region.noSelect l.toArray && headB l.toArray hs (Array.replicate l.toArray.size false) && (Region.ready .any l.toArray (listedBy l.toArray.size hs)).isEmpty && (List.range l.length).all fun i => (listedBy l.toArray.size hs).getD i false) = true) (hsz : hs.length = l.length) (hnd : noDefer l = true)
    (hS : StOps P l w Bs st) (hst : ∀ i, l.length ≤ i → st i = none) (hne : ∀ i o, st i = none → l[i]? = some o → NoEnter P o)
    (hh : wpLexS P l (fun w' => ∃ x : LaterX Bs w, w' = x.out) st (fun a' => ∀ x : LaterX Bs w, (∀ i s, st i = some s → x.out.heap[s.b]? = some s.new) → Q .normal a' x.out) hs a) : (Code.region id l.toArray true).wp P Q a w :=
  (wpIn_wide (n := 0)).1 (wpWide_region_stores (ro := none) hs Bs st hm hB hsz hnd hS hst hne hh)
end Go.Proofs.Ytcdnekhpeghkiaa

/-
  Which operations enter no initial function, told by a test; a new point's block.
-/
namespace Go.Proofs.Ytcdnekhpeghkiaa
set_option linter.unusedVariables false
open Go.RowKit

theorem NoEnter.init {P : Program} {o : Oper} (h : NoEnter P o) : NoInitOp P o := fun a w f args w' e => absurd e (h a w f args w')
theorem noEnter_pick {P : Program} {o : Oper} {c x y : Operand} (ho : o.op = .pick c x y) : NoEnter P o := by
  unfold NoEnter
  intro a w f args w' e
  unfold execOp at e
  rw [ho] at e
  dsimp only at e
  rw [Sem.run_bind] at e
  cases hr : (asBool (a.eval c)).run P w with
  | ok u w1 => rw [hr] at e; simp [Result.andThen] at e
  | halt x w1 => rw [hr] at e; simp [Result.andThen] at e
theorem noEnter_builtin {P : Program} {o : Oper} {c : Call} (b : Builtin) (ho : o.op = .call c) (hc : c.callee = .builtin b) (hb : b = .min ∨ b = .max ∨ b = .len) : NoEnter P o := by
  unfold NoEnter
  intro a w f args w' e
  unfold execOp at e
  rw [ho] at e
  dsimp only at e
  unfold resolve at e
  rw [hc] at e
  simp only [pure_bind, invoke] at e
  rcases hb with rfl | rfl | rfl <;> exact nv _ e

/-- a call of a function with a body, and of no initial one; or what enters nothing -/
def callOk (P : Program) (o : Oper) : Bool :=
  match o.op with
  | .pick .. => true
  | .call c => (match c.callee with
    | .value (.func k) => (match P.funcs[k]? with
      | some fn => fn.body.isSome && !(fn.name == "runtime.NumGoroutine") && (P.inits.idxOf? k).isNone
      | none => false)
    | .builtin .min => true
    | .builtin .max => true
    | .builtin .len => true
    | _ => false)
  | op => plainOp op
theorem noInitOp_of {P : Program} {o : Oper} (h : callOk P o = true) : NoInitOp P o := by
  unfold callOk at h
  split at h
  · rename_i ho; exact (noEnter_pick ho).init
  · rename_i c ho
    split at h
    · rename_i k hc
      split at h
      · rename_i fn hf
        simp only [Bool.and_eq_true, Bool.not_eq_true', Option.isNone_iff_eq_none, Option.isSome_iff_exists] at h
        obtain ⟨⟨⟨b, hb⟩, hn⟩, hi⟩ := h
        exact noInit_call k ho hc (fun args w => by
          have h1 : fn.name ≠ "runtime.NumGoroutine" := by simpa using hn
          simp [callFunc, hf, h1, hb, mark]) hi
      · cases h
    · rename_i hc; exact (noEnter_builtin _ ho hc (.inl rfl)).init
    · rename_i hc; exact (noEnter_builtin _ ho hc (.inr (.inl rfl))).init
    · rename_i hc; exact (noEnter_builtin _ ho hc (.inr (.inr rfl))).init
    · cases h
  · exact (noEnter_plain h).init
theorem noInit_of {P : Program} {l : List Oper} (h : l.all (callOk P) = true) : NoInit P l := by
  induction l with
  | nil => trivial
  | cons o l ih =>
    simp only [List.all_cons, Bool.and_eq_true] at h
    exact ⟨noInitOp_of h.1, ih h.2⟩

theorem allocPt (v : World) : (Instr.alloc 23 true (.tuple #[])).run Try.prog v = .ok (ptrAt v.heap.size) (v.alloc (.cells #[.int .i64 0, .int .i64 0] 23)) := by
  simp [Instr.alloc, ptrAt, go_sem]
end Go.Proofs.Ytcdnekhpeghkiaa

/-
  A region that draws its order: reads, reckonings and calls that keep what lay before; new blocks beside them; and stores that fill these, behind all that reads and calls.
-/
namespace Go.Proofs.Ytcdnekhpeghkiaa
set_option linter.unusedVariables false
open Go.RowKit

/-- what an operation that is not quiet does: it makes a block, or it fills the block of operation number 'of' with a value -/
inductive Mk
  | new (z : Obj)
  | fill (of : Nat) (V : Value) (full : Obj)

section
variable {P : Program} {ops : Array Oper} {C : World → Prop} {ro : Option Nat} {n : Nat} {mk : Nat → Option Mk}

def FillCond (ops : Array Oper) (i : Nat) (V : Value) (a : Act) : Prop := ∃ o t x y, ops[i]? = some o ∧ o.op = .store t x y ∧ a.eval y = V
def gOpM (P : Program) (ops : Array Oper) (C : World → Prop) (mk : Nat → Option Mk) (i : Nat) (K : Act → Prop) (a : Act) : Prop :=
  match mk i with
  | none => qOp P ops C i K a
  | some (.new _) => ∀ g : Nat, K (a.put (dstOf ops i) (ptrAt g))
  | some (.fill _ V _) => FillCond ops i V a ∧ K a
theorem gOpM_mono {i : Nat} {a : Act} {K K' : Act → Prop} (hk : ∀ a, K a → K' a) (hh : gOpM P ops C mk i K a) : gOpM P ops C mk i K' a := by
  unfold gOpM at *
  split
  · rename_i e; rw [e] at hh; exact qOp_mono hk hh
  · rename_i e; rw [e] at hh; exact fun g => hk _ (hh g)
  · rename_i e; rw [e] at hh; exact ⟨hh.1, hk _ hh.2⟩
theorem fillCond_put {i : Nat} {V : Value} {a : Act} {d : Option Tmp} {v : Value} {oi : Oper} (hi : ops[i]? = some oi) (hd : ∀ e, d = some e → e ∉ oi.looksAt ops) : FillCond ops i V (a.put d v) ↔ FillCond ops i V a := by
  have key : ∀ o t x y, ops[i]? = some o → o.op = .store t x y → (a.put d v).eval y = a.eval y := by
    intro o t x y ho hop
    obtain rfl : o = oi := Option.some.inj (ho.symm.trans hi)
    exact Act.eval_put fun e he hze => hd e he (by
      subst hze
      exact List.mem_append_left _ (List.mem_filterMap.2 ⟨.tmp e, by rw [hop]; simp [Op.operands], rfl⟩))
  constructor
  · rintro ⟨o, t, x, y, ho, hop, h2⟩
    exact ⟨o, t, x, y, ho, hop, (key o t x y ho hop) ▸ h2⟩
  · rintro ⟨o, t, x, y, ho, hop, h2⟩
    exact ⟨o, t, x, y, ho, hop, (key o t x y ho hop).trans h2⟩
theorem gOpM_put {j : Nat} {oi oj : Oper} {v : Value} (hj : ops[j]? = some oj) (hap : oi.apart ops oj = true)
    (hsi : ∀ cs b, oi.op ≠ .select cs b) (hsj : ∀ cs b, oj.op ≠ .select cs b) {K : Act → Prop} {a : Act}
    (hy : YieldsIn P ops C oi v a) (hh : gOpM P ops C mk j K (a.put oi.dst v)) :
    gOpM P ops C mk j (fun a' => YieldsIn P ops C oi v a' ∧ K (a'.put oi.dst v)) a := by
  unfold gOpM at *
  obtain ⟨h1, h2, h3⟩ := Oper.apart_spec hap
  split
  · rename_i e; rw [e] at hh; exact qOp_put hj hap hsi hsj hy hh
  · rename_i e; rw [e] at hh
    intro g
    have hg := hh g
    have ed : dstOf ops j = oj.dst := by simp [dstOf, hj]
    rw [ed] at hg ⊢
    exact ⟨hy.of_same (execOp_put oi hsi a oj.dst _ h3) (wanted_put oi a oj.dst _ h3), by rw [← Act.put_comm a v _ h2]; exact hg⟩
  · rename_i e; rw [e] at hh
    exact ⟨(fillCond_put hj h1).1 hh.1, hy, hh.2⟩

def wpAnyK (P : Program) (ops : Array Oper) (C : World → Prop) (mk : Nat → Option Mk) (L : Array Bool → Act → Prop) : Nat → Array Bool → Act → Prop
  | 0, listed, a => L listed a
  | f + 1, listed, a => Region.ready .any ops listed ≠ [] ∧ ∀ i ∈ Region.ready .any ops listed, gOpM P ops C mk i (wpAnyK P ops C mk L f (listed.setIfInBounds i true)) a

theorem wpAnyK_first {i : Nat} {oi : Oper} {v : Value} {L : Array Bool → Act → Prop} (hi : ops[i]? = some oi) (hsel : ∀ (j : Nat) (o : Oper) cs b, ops[j]? = some o → o.op ≠ .select cs b) (hsi : mk i = none)
    (hdone : ∀ listed a, L listed a → Region.ready .any ops listed = []) :
    ∀ (f : Nat) (listed : Array Bool) (a : Act),
      (∀ j oj, ops[j]? = some oj → j ≠ i → listed.getD j true = false → (∀ e ∈ oj.after, Region.binds .any e = true → e.on ≠ i) → oi.apart ops oj = true) →
      i ∈ Region.ready .any ops listed → YieldsIn P ops C oi v a →
      wpAnyK P ops C mk L f (listed.setIfInBounds i true) (a.put oi.dst v) → wpAnyK P ops C mk L (f + 1) listed a := by
  have one : ∀ {a : Act} {K : Act → Prop}, YieldsIn P ops C oi v a → K (a.put oi.dst v) → gOpM P ops C mk i K a := fun hy H => by
    unfold gOpM; rw [hsi]; exact hy.qOp hi H
  intro f
  induction f with
  | zero =>
    intro listed a _ hr hy H
    refine ⟨fun h => (by rw [h] at hr; cases hr), fun j hj => ?_⟩
    by_cases hji : j = i
    · subst hji; exact one hy H
    · have := ready_mono hj hji
      rw [hdone _ _ H] at this
      cases this
  | succ f ih =>
    intro listed a hfree hr hy H
    have hun := (mem_ready.1 hr).1
    refine ⟨fun h => (by rw [h] at hr; cases hr), fun j hj => ?_⟩
    by_cases hji : j = i
    · subst hji; exact one hy H
    · have h1 := H.2 j (ready_mono hj hji)
      obtain ⟨hjun, oj, hoj, hall⟩ := mem_ready.1 hj
      have hnot : ∀ e ∈ oj.after, Region.binds .any e = true → e.on ≠ i := fun e he hb heq => by
        have h1 := hall e he hb
        rw [heq, getD_both hun] at h1
        cases h1
      have h2 := gOpM_put hoj (hfree j oj hoj hji hjun hnot) (fun cs b => hsel i oi cs b hi) (fun cs b => hsel j oj cs b hoj) hy h1
      have hfree' : ∀ k ok, ops[k]? = some ok → k ≠ i → (listed.setIfInBounds j true).getD k true = false →
          (∀ e ∈ ok.after, Region.binds .any e = true → e.on ≠ i) → oi.apart ops ok = true := fun k ok hk hki hun hno => by
        refine hfree k ok hk hki ?_ hno
        by_cases hjk : j = k
        · subst hjk; exact hjun
        · rw [getD_set_ne true hjk] at hun; exact hun
      refine gOpM_mono (fun a' h3 => ih (listed.setIfInBounds j true) a' hfree' (ready_mono hr (Ne.symm hji)) h3.1 ?_) h2
      rw [Array.setIfInBounds_comm _ _ hji]
      exact h3.2

theorem wpAnyK_firstA {i : Nat} {oi : Oper} {z : Obj} {L : Array Bool → Act → Prop} (hi : ops[i]? = some oi) (hmi : mk i = some (.new z))
    (hdone : ∀ listed a, L listed a → Region.ready .any ops listed = []) :
    ∀ (f : Nat) (listed : Array Bool) (a : Act), (∀ j, mk j = none → j < ops.size → listed.getD j false = true) →
      (∀ j oj, ops[j]? = some oj → j ≠ i → listed.getD j true = false → (∀ e ∈ oj.after, Region.binds .any e = true → e.on ≠ i) → oi.apart ops oj = true) →
      i ∈ Region.ready .any ops listed → (∀ g, wpAnyK P ops C mk L f (listed.setIfInBounds i true) (a.put oi.dst (ptrAt g))) → wpAnyK P ops C mk L (f + 1) listed a := by
  have ed : dstOf ops i = oi.dst := by simp [dstOf, hi]
  have one : ∀ {a : Act} {K : Act → Prop}, (∀ g, K (a.put oi.dst (ptrAt g))) → gOpM P ops C mk i K a := fun H => by
    unfold gOpM; rw [hmi, ed]; exact H
  intro f
  induction f with
  | zero =>
    intro listed a _ _ hr H
    refine ⟨fun h => (by rw [h] at hr; cases hr), fun j hj => ?_⟩
    by_cases hji : j = i
    · subst hji; exact one H
    · have := ready_mono hj hji
      rw [hdone _ _ (H 0)] at this
      cases this
  | succ f ih =>
    intro listed a hall0 hfree hr H
    have hun := (mem_ready.1 hr).1
    refine ⟨fun h => (by rw [h] at hr; cases hr), fun j hj => ?_⟩
    by_cases hji : j = i
    · subst hji; exact one H
    · obtain ⟨hjun, oj, hoj, hall⟩ := mem_ready.1 hj
      have hnot : ∀ e ∈ oj.after, Region.binds .any e = true → e.on ≠ i := fun e he hb heq => by
        have h1 := hall e he hb
        rw [heq, getD_both hun] at h1
        cases h1
      have hap := hfree j oj hoj hji hjun hnot
      obtain ⟨h1, h2, h3⟩ := Oper.apart_spec hap
      have edj : dstOf ops j = oj.dst := by simp [dstOf, hoj]
      have hfree' : ∀ k ok, ops[k]? = some ok → k ≠ i → (listed.setIfInBounds j true).getD k true = false →
          (∀ e ∈ ok.after, Region.binds .any e = true → e.on ≠ i) → oi.apart ops ok = true := fun k ok hk hki hun hno => by
        refine hfree k ok hk hki ?_ hno
        by_cases hjk : j = k
        · subst hjk; exact hjun
        · rw [getD_set_ne true hjk] at hun; exact hun
      have hall' : ∀ k, mk k = none → k < ops.size → (listed.setIfInBounds j true).getD k false = true := fun k hk hlt => getD_set_true (hall0 k hk hlt)
      have hj' := fun g => (H g).2 j (ready_mono hj hji)
      unfold gOpM at hj' ⊢
      cases hmj : mk j with
      | none =>
        have := hall0 j hmj (Array.getElem?_eq_some_iff.1 hoj).1
        rw [getD_both hjun] at this
        cases this
      | some m =>
        rw [hmj] at hj'
        cases m with
        | new z' =>
          intro g'
          refine ih (listed.setIfInBounds j true) _ hall' hfree' (ready_mono hr (Ne.symm hji)) (fun g => ?_)
          have h4 := hj' g g'
          rw [edj] at h4 ⊢
          rw [Array.setIfInBounds_comm _ _ hji, ← Act.put_comm a _ _ h2]
          exact h4
        | fill of V u =>
          refine ⟨(fillCond_put hoj h1).1 (hj' 0).1, ih (listed.setIfInBounds j true) _ hall' hfree' (ready_mono hr (Ne.symm hji)) (fun g => ?_)⟩
          rw [Array.setIfInBounds_comm _ _ hji]
          exact (hj' g).2

theorem wpAnyK_firstF {i : Nat} {oi : Oper} {of : Nat} {V : Value} {u : Obj} {L : Array Bool → Act → Prop} (hi : ops[i]? = some oi) (hmi : mk i = some (.fill of V u))
    (hdone : ∀ listed a, L listed a → Region.ready .any ops listed = []) :
    ∀ (f : Nat) (listed : Array Bool) (a : Act), (∀ j, mk j = none → j < ops.size → listed.getD j false = true) →
      (∀ j oj, ops[j]? = some oj → j ≠ i → listed.getD j true = false → (∀ e ∈ oj.after, Region.binds .any e = true → e.on ≠ i) → oi.apart ops oj = true) →
      i ∈ Region.ready .any ops listed → FillCond ops i V a → wpAnyK P ops C mk L f (listed.setIfInBounds i true) a → wpAnyK P ops C mk L (f + 1) listed a := by
  have one : ∀ {a : Act} {K : Act → Prop}, FillCond ops i V a → K a → gOpM P ops C mk i K a := fun hc H => by
    unfold gOpM; rw [hmi]; exact ⟨hc, H⟩
  intro f
  induction f with
  | zero =>
    intro listed a _ _ hr hc H
    refine ⟨fun h => (by rw [h] at hr; cases hr), fun j hj => ?_⟩
    by_cases hji : j = i
    · subst hji; exact one hc H
    · have := ready_mono hj hji
      rw [hdone _ _ H] at this
      cases this
  | succ f ih =>
    intro listed a hall0 hfree hr hc H
    have hun := (mem_ready.1 hr).1
    refine ⟨fun h => (by rw [h] at hr; cases hr), fun j hj => ?_⟩
    by_cases hji : j = i
    · subst hji; exact one hc H
    · obtain ⟨hjun, oj, hoj, hall⟩ := mem_ready.1 hj
      have hnot : ∀ e ∈ oj.after, Region.binds .any e = true → e.on ≠ i := fun e he hb heq => by
        have h1 := hall e he hb
        rw [heq, getD_both hun] at h1
        cases h1
      have hap := hfree j oj hoj hji hjun hnot
      obtain ⟨h1, h2, h3⟩ := Oper.apart_spec hap
      have edj : dstOf ops j = oj.dst := by simp [dstOf, hoj]
      have hfree' : ∀ k ok, ops[k]? = some ok → k ≠ i → (listed.setIfInBounds j true).getD k true = false →
          (∀ e ∈ ok.after, Region.binds .any e = true → e.on ≠ i) → oi.apart ops ok = true := fun k ok hk hki hun hno => by
        refine hfree k ok hk hki ?_ hno
        by_cases hjk : j = k
        · subst hjk; exact hjun
        · rw [getD_set_ne true hjk] at hun; exact hun
      have hall' : ∀ k, mk k = none → k < ops.size → (listed.setIfInBounds j true).getD k false = true := fun k hk hlt => getD_set_true (hall0 k hk hlt)
      have hj' := H.2 j (ready_mono hj hji)
      unfold gOpM at hj' ⊢
      cases hmj : mk j with
      | none =>
        have := hall0 j hmj (Array.getElem?_eq_some_iff.1 hoj).1
        rw [getD_both hjun] at this
        cases this
      | some m =>
        rw [hmj] at hj'
        cases m with
        | new z' =>
          intro g'
          refine ih (listed.setIfInBounds j true) _ hall' hfree' (ready_mono hr (Ne.symm hji)) ((fillCond_put hi (by rw [edj]; exact h3)).2 hc) ?_
          rw [Array.setIfInBounds_comm _ _ hji]
          exact hj' g'
        | fill of' V' u' =>
          refine ⟨hj'.1, ih (listed.setIfInBounds j true) _ hall' hfree' (ready_mono hr (Ne.symm hji)) hc ?_⟩
          rw [Array.setIfInBounds_comm _ _ hji]
          exact hj'.2

/-- the walk: first the quiet ones (places qs), then the rest (places rs) -/
def wpLexM (ops : Array Oper) (mk : Nat → Option Mk) (Lq : Act → Prop) : List Nat → Act → Prop
  | [], a => Lq a
  | i :: r, a => match mk i with
    | some (.new _) => ∀ g, wpLexM ops mk Lq r (a.put (dstOf ops i) (ptrAt g))
    | some (.fill _ V _) => FillCond ops i V a ∧ wpLexM ops mk Lq r a
    | none => False

theorem wpAnyK_rest {m : Nat} {Lq : Act → Prop} (hcov : ∀ j, mk j = none → j < ops.size → j < m) :
    ∀ (rs : List Nat) (listed : Array Bool) (a : Act), headB ops rs listed = true → (Region.ready .any ops (rs.foldl (fun b i => b.setIfInBounds i true) listed)).isEmpty = true → (∀ i, i < ops.size → (rs.foldl (fun b i => b.setIfInBounds i true) listed).getD i false = true) →
    (∀ j, j < m → listed.getD j false = true) → wpLexM ops mk Lq rs a →
    wpAnyK P ops C mk (fun listed' a' => Region.ready .any ops listed' = [] ∧ (∀ i, i < ops.size → listed'.getD i false = true) ∧ Lq a') rs.length listed a
  | [], listed, a, _, hT, hA, _, h => ⟨by simpa using hT, hA, h⟩
  | i :: rs, listed, a, hB, hT, hA, hm, h => by
    simp only [headB, Bool.and_eq_true, decide_eq_true_eq] at hB
    obtain ⟨⟨⟨hlt, hr⟩, hf⟩, hB'⟩ := hB
    have hr' : i ∈ Region.ready .any ops listed := by simpa using hr
    have h0 : ops[i]? = some ops[i] := Array.getElem?_eq_getElem hlt
    have next := fun a' h' => wpAnyK_rest (Lq := Lq) hcov rs (listed.setIfInBounds i true) a' hB' (by simpa using hT) (by simpa using hA) (fun j hj => getD_set_true (hm j hj)) h'
    unfold wpLexM at h
    cases hmi : mk i with
    | none => rw [hmi] at h; exact h.elim
    | some k =>
      rw [hmi] at h
      cases k with
      | new z =>
        refine wpAnyK_firstA h0 hmi (fun _ _ hL => hL.1) rs.length listed a (fun j hj hl => hm j (hcov j hj hl)) (Region.free_spec h0 hf) hr' (fun g => ?_)
        have e : dstOf ops i = ops[i].dst := by simp [dstOf, hlt]
        rw [← e]
        exact next _ (h g)
      | fill of V u => exact wpAnyK_firstF h0 hmi (fun _ _ hL => hL.1) rs.length listed a (fun j hj hl => hm j (hcov j hj hl)) (Region.free_spec h0 hf) hr' h.1 (next _ h.2)

theorem wpAnyK_quiet {l : List Oper} (hops : ops = l.toArray) {L : Array Bool → Act → Prop} {rs : List Nat} (hsel : Region.noSelect ops = true) (hdone : ∀ listed a, L listed a → Region.ready .any ops listed = []) :
    ∀ (qs : List Nat) (listed : Array Bool) (a : Act), (∀ i ∈ qs, mk i = none) → headB ops qs listed = true →
    wpQuiet P ops C (wpAnyK P ops C mk L rs.length (qs.foldl (fun b i => b.setIfInBounds i true) listed)) (pick l qs) a →
    wpAnyK P ops C mk L (qs.length + rs.length) listed a
  | [], listed, a, _, _, h => by simpa [pick, wpQuiet] using h
  | i :: qs, listed, a, hq, hB, h => by
    simp only [headB, Bool.and_eq_true, decide_eq_true_eq] at hB
    obtain ⟨⟨⟨hlt, hr⟩, hf⟩, hB'⟩ := hB
    have hr' : i ∈ Region.ready .any ops listed := by simpa using hr
    have h0 : ops[i]? = some ops[i] := Array.getElem?_eq_getElem hlt
    have hl0 : l[i]? = some ops[i] := by rw [← h0, hops]; simp
    simp only [pick, hl0] at h
    have hst : qOp P ops C i (wpQuiet P ops C (wpAnyK P ops C mk L rs.length ((i :: qs).foldl (fun b i => b.setIfInBounds i true) listed)) (pick l qs)) a := by
      unfold qOp; simp only [h0]
      exact h
    obtain ⟨v, hy, hK⟩ := yieldsIn_of_qOp h0 hst
    have := wpAnyK_first h0 (Region.noSelect_spec hsel) (hq i (by simp)) hdone (qs.length + rs.length) listed a (Region.free_spec h0 hf) hr' hy
      (wpAnyK_quiet hops hsel hdone qs _ _ (fun k hk => hq k (List.mem_cons_of_mem _ hk)) hB' (by simpa using hK))
    simpa [Nat.add_right_comm, Nat.add_assoc, Nat.add_comm 1] using this
end
end Go.Proofs.Ytcdnekhpeghkiaa

/-
  The rule for a region that makes blocks and fills them beside reads and calls.
-/
namespace Go.Proofs.Ytcdnekhpeghkiaa
set_option linter.unusedVariables false
open Go.RowKit

section
variable {P : Program} {ops : Array Oper} {ro : Option Nat} {n : Nat} {mk : Nat → Option Mk} {w : World}

theorem wpAnyK_noC {C C' : World → Prop} {L : Array Bool → Act → Prop} : ∀ (f : Nat) (listed : Array Bool) (a : Act), (∀ j, mk j = none → j < ops.size → listed.getD j false = true) →
    wpAnyK P ops C mk L f listed a → wpAnyK P ops C' mk L f listed a
  | 0, _, _, _, h => h
  | f + 1, listed, a, hall, h => by
    refine ⟨h.1, fun i hi => ?_⟩
    have h1 := h.2 i hi
    obtain ⟨hun, o, ho, _⟩ := mem_ready.1 hi
    have next := fun a' h' => wpAnyK_noC (C := C) (C' := C') (L := L) f (listed.setIfInBounds i true) a' (fun j hj hl => getD_set_true (hall j hj hl)) h'
    unfold gOpM at h1 ⊢
    cases hmi : mk i with
    | none =>
      have := hall i hmi (Array.getElem?_eq_some_iff.1 ho).1
      rw [getD_both hun] at this
      cases this
    | some m =>
      rw [hmi] at h1
      cases m with
      | new z => exact fun g => next _ (h1 g)
      | fill of V u => exact ⟨h1.1, next _ h1.2⟩

structure MkOps (P : Program) (ops : Array Oper) (qs : List Nat) (mk : Nat → Option Mk) (S : Nat) : Prop where
  quiet : ∀ j, mk j = none → j < ops.size → j ∈ qs
  new : ∀ i z, mk i = some (.new z) → ∃ o d T, ops[i]? = some o ∧ o.op = .alloc T ∧ o.dst = some d ∧ o.guard = none ∧ d < S ∧ (∀ v : World, (Instr.alloc T true (.tuple #[])).run P v = .ok (ptrAt v.heap.size) (v.alloc z))
  fill : ∀ j i V u, mk j = some (.fill i V u) → ∃ o t d y z, ops[j]? = some o ∧ o.op = .store t (.tmp d) y ∧ o.guard = none ∧ o.dst = none ∧ mk i = some (.new z) ∧ dstOf ops i = some d ∧ Region.waitsFor .any ops j i = true ∧ sinkL ops j qs = true ∧
    (∀ (v : World) (g : Nat), v.heap[g]? = some z → ∃ v', (Instr.storeAt t (ptrAt g) V).run P v = .ok () v' ∧ v.grownBy v' (some g) ∧ v'.heap[g]? = some u)
  one : ∀ j j' i V V' u u', mk j = some (.fill i V u) → mk j' = some (.fill i V' u') → j = j'
  ne : ∀ i z d k, mk i = some (.new z) → dstOf ops i = some d → k ≠ i → dstOf ops k ≠ some d

structure MkInv (ops : Array Oper) (w : World) (mk : Nat → Option Mk) (S : Nat) (listed : Array Bool) (a : Act) (wc : World) (G : Nat → Nat) : Prop where
  size : a.tmps.size = S
  lsize : listed.size = ops.size
  closed : ∀ j oj, ops[j]? = some oj → listed.getD j false = true → ∀ e ∈ oj.after, Region.binds .any e = true → listed.getD e.on false = true
  below : Below w.heap.size w wc
  slot : ∀ i z d, mk i = some (.new z) → listed.getD i false = true → dstOf ops i = some d → a.tmps[d]? = some (ptrAt (G i)) ∧ w.heap.size ≤ G i ∧ G i < wc.heap.size
  raw : ∀ i z, mk i = some (.new z) → listed.getD i false = true → (∀ j V u, mk j = some (.fill i V u) → listed.getD j false = false) → wc.heap[G i]? = some z
  full : ∀ i z j V u, mk i = some (.new z) → mk j = some (.fill i V u) → listed.getD j false = true → wc.heap[G i]? = some u
  ne : ∀ i j z z', mk i = some (.new z) → mk j = some (.new z') → listed.getD i false = true → listed.getD j false = true → i ≠ j → G i ≠ G j

theorem closed_set {listed : Array Bool} {i : Nat} (hc : ∀ j oj, ops[j]? = some oj → listed.getD j false = true → ∀ e ∈ oj.after, Region.binds .any e = true → listed.getD e.on false = true) (hi : i ∈ Region.ready .any ops listed) :
    ∀ j oj, ops[j]? = some oj → (listed.setIfInBounds i true).getD j false = true → ∀ e ∈ oj.after, Region.binds .any e = true → (listed.setIfInBounds i true).getD e.on false = true := by
  obtain ⟨_, oi, hoi, hall⟩ := mem_ready.1 hi
  intro j oj hj hl e he hb
  by_cases hij : i = j
  · subst hij
    have : oj = oi := Option.some.inj (hj.symm.trans hoi)
    subst this
    exact getD_set_true (hall e he hb)
  · rw [getD_set_ne false hij] at hl
    exact getD_set_true (hc j oj hj hl e he hb)

theorem wpAnyIn_of_K {qs : List Nat} {S : Nat} {Q' : Exit → Act → World → Prop} {L : Array Bool → Act → Prop} (hM : MkOps P ops qs mk S) (hd : ∀ (i : Nat) (o : Oper), ops[i]? = some o → ∀ c, o.op ≠ .defer c) (hni : ∀ i o, mk i = none → ops[i]? = some o → NoInitOp P o)
    (hL : ∀ listed a wc G, MkInv ops w mk S listed a wc G → L listed a → wpAnyIn (wideAt ro) n P .any ops Q' 0 listed a wc) :
    ∀ (f : Nat) (listed : Array Bool) (a : Act) (wc : World) (G : Nat → Nat), MkInv ops w mk S listed a wc G →
      (∀ y : Later wc, wpAnyK P ops (fun w' => ∃ x : Later y.out, w' = x.out) mk L f listed a) → wpAnyIn (wideAt ro) n P .any ops Q' f listed a wc
  | 0, listed, a, wc, G, hI, hT => hL _ _ _ _ hI (hT ⟨wc, Below.refl _ _⟩)
  | f + 1, listed, a, wc, G, hI, hT => by
    have h0 := hT ⟨wc, Below.refl _ _⟩
    refine ⟨fun e => absurd e h0.1, fun i hi => ?_⟩
    have h1 := h0.2 i hi
    obtain ⟨hun, oi, hoi, hall⟩ := mem_ready.1 hi
    have hlt : i < ops.size := (Array.getElem?_eq_some_iff.1 hoi).1
    have hself : (listed.setIfInBounds i true).getD i false = true := by
      have : i < listed.size := by rw [hI.lsize]; exact hlt
      simp [this]
    have hoth : ∀ k, k ≠ i → (listed.setIfInBounds i true).getD k false = listed.getD k false := fun k e => getD_set_ne false (Ne.symm e)
    have hcl := closed_set hI.closed hi
    have hls : (listed.setIfInBounds i true).size = ops.size := by simp [hI.lsize]
    have hdi : dstOf ops i = oi.dst := by simp [dstOf, hoi]
    unfold gOpM at h1
    cases hmi : mk i with
    | none =>
      rw [hmi] at h1
      obtain ⟨v, hy, hK⟩ := yieldsIn_of_qOp hoi h1
      refine wpOpWide_of_qOp (C := fun w' => ∃ x : Later wc, w' = x.out) (K := fun a' => a' = a.put oi.dst v) (fun o ho => hd i o ho) ⟨⟨wc, Below.refl _ _⟩, rfl⟩ ?_ (hy.qOp hoi rfl)
      rintro a' w' ⟨x, rfl⟩ rfl
      have hki : ∀ k m, mk k = some m → k ≠ i := fun k m h e => by rw [e, hmi] at h; cases h
      refine wpAnyIn_of_K hM hd hni hL f _ _ _ G ⟨by rw [put_size]; exact hI.size, hls, hcl, hI.below.trans (x.below.mono hI.below.size), ?_, ?_, ?_, ?_⟩ (fun y => ?_)
      · intro k z d h1 h2 h3
        rw [hoth k (hki k _ h1)] at h2
        obtain ⟨e1, e2, e3⟩ := hI.slot k z d h1 h2 h3
        exact ⟨by rw [put_other _ _ _ _ (by rw [← hdi]; exact hM.ne k z d i h1 h3 (Ne.symm (hki k _ h1)))]; exact e1, e2, Nat.lt_of_lt_of_le e3 x.below.size⟩
      · intro k z h1 h2 h3
        rw [hoth k (hki k _ h1)] at h2
        have := hI.raw k z h1 h2 (fun j V u hj => by have := h3 j V u hj; rwa [hoth j (hki j _ hj)] at this)
        exact (x.below.block _ (Array.getElem?_eq_some_iff.1 this).1).trans this
      · intro k z j V u h1 h2 h3
        rw [hoth j (hki j _ h2)] at h3
        have := hI.full k z j V u h1 h2 h3
        exact (x.below.block _ (Array.getElem?_eq_some_iff.1 this).1).trans this
      · intro k j z z' h1 h2 h3 h4 hkj
        rw [hoth k (hki k _ h1)] at h3
        rw [hoth j (hki j _ h2)] at h4
        exact hI.ne k j z z' h1 h2 h3 h4 hkj
      · have h2 := (hT ⟨y.out, x.below.trans (y.below.mono x.below.size)⟩).2 i hi
        unfold gOpM at h2
        rw [hmi] at h2
        obtain ⟨v', hy', hK'⟩ := yieldsIn_of_qOp hoi h2
        have e : v = v' := yields_one (w := y.out) (hni i oi hmi hoi) ⟨⟨y.out, x.below.trans (y.below.mono x.below.size)⟩, rfl⟩ ⟨⟨y.out, Below.refl _ _⟩, rfl⟩ hy hy'
        subst e
        exact hK'
    | some m =>
      rw [hmi] at h1
      cases m with
      | new z =>
        obtain ⟨o, d, T, ho, hop, hdo, hg, hds, hrun⟩ := hM.new i z hmi
        obtain rfl : o = oi := Option.some.inj (ho.symm.trans hoi)
        have hdi' : dstOf ops i = some d := by rw [hdi, hdo]
        unfold wpOpIn
        simp only [hoi]
        have hw : Region.wanted o (yielded ops a.tmps) = true := by simp [Region.wanted, hg]
        rw [if_pos hw]
        refine ⟨fun _ _ => trivial, ?_⟩
        rw [show (wideAt ro).round = ro from rfl, Oper.semAt_eq _ _ _ (hd i o hoi)]
        have hx : (execOp a.eval o).run P wc = .ok (.value (ptrAt wc.heap.size)) (wc.alloc z) := by
          unfold execOp
          rw [hop]
          simp [hrun]
        rw [hx]
        simp only [Oper.uponIn]
        rw [hdo]
        have hb : Below wc.heap.size wc (wc.alloc z) := (Below.refl _ wc).alloc (Nat.le_refl _) _
        have hsz : (wc.alloc z).heap.size = wc.heap.size + 1 := by simp
        have hfi : ∀ j V u, mk j = some (.fill i V u) → listed.getD j false = false := fun j V u hj => by
          rcases hx : listed.getD j false with _ | _
          · rfl
          · obtain ⟨oj, t, dj, y, zj, hoj, _, _, _, _, _, hw, _⟩ := hM.fill j i V u hj
            obtain ⟨o', ho', e, he, hbd, rfl⟩ := Region.waitsFor_spec hw
            have := hI.closed j o' ho' hx e he hbd
            rw [getD_both hun] at this
            cases this
        refine wpAnyIn_of_K hM hd hni hL f _ _ _ (fun k => if k = i then wc.heap.size else G k) ⟨by rw [put_size]; exact hI.size, hls, hcl, hI.below.trans (hb.mono hI.below.size), ?_, ?_, ?_, ?_⟩ (fun y => ?_)
        · intro k z' e h1 h2 h3
          by_cases hki : k = i
          · subst hki
            rw [if_pos rfl]
            obtain rfl : e = d := Option.some.inj (h3.symm.trans hdi')
            exact ⟨put_same _ _ _ (by rw [hI.size]; exact hds), hI.below.size, by rw [hsz]; omega⟩
          · rw [if_neg hki]
            rw [hoth k hki] at h2
            obtain ⟨e1, e2, e3⟩ := hI.slot k z' e h1 h2 h3
            exact ⟨by rw [put_other _ _ _ _ (by rw [← hdi']; exact hM.ne k z' e i h1 h3 (Ne.symm hki))]; exact e1, e2, by rw [hsz]; omega⟩
        · intro k z' k1 k2 k3
          by_cases hki : k = i
          · subst hki
            rw [if_pos rfl]
            rw [hmi] at k1; cases k1
            exact alloc_new _ _
          · rw [if_neg hki]
            rw [hoth k hki] at k2
            have := hI.raw k z' k1 k2 (fun j V u hj => by have := k3 j V u hj; rwa [hoth j (fun e => by rw [e, hmi] at hj; cases hj)] at this)
            exact (hb.block _ (Array.getElem?_eq_some_iff.1 this).1).trans this
        · intro k z' j V u h1 h2 h3
          have hji : j ≠ i := fun e => by rw [e, hmi] at h2; cases h2
          rw [hoth j hji] at h3
          have hki : k ≠ i := fun e => by subst e; have := hfi j V u h2; rw [h3] at this; cases this
          rw [if_neg hki]
          have := hI.full k z' j V u h1 h2 h3
          exact (hb.block _ (Array.getElem?_eq_some_iff.1 this).1).trans this
        · have lt : ∀ k z', mk k = some (.new z') → k ≠ i → (listed.setIfInBounds i true).getD k false = true → G k < wc.heap.size := fun k z' h1 hki h2 => by
            rw [hoth k hki] at h2
            obtain ⟨o', d', T', ho', _, hd', _⟩ := hM.new k z' h1
            exact (hI.slot k z' d' h1 h2 (by simp [dstOf, ho', hd'])).2.2
          intro k j z1 z2 k1 k2 k3 k4 hkj
          by_cases hki : k = i
          · subst hki
            rw [if_pos rfl, if_neg (Ne.symm hkj)]
            have := lt j z2 k2 (Ne.symm hkj) k4
            omega
          · by_cases hji : j = i
            · subst hji
              rw [if_pos rfl, if_neg hki]
              have := lt k z1 k1 hki k3
              omega
            · rw [if_neg hki, if_neg hji]
              rw [hoth k hki] at k3
              rw [hoth j hji] at k4
              exact hI.ne k j z1 z2 k1 k2 k3 k4 hkj
        · have h2 := (hT ⟨y.out, hb.trans (y.below.mono hb.size)⟩).2 i hi
          unfold gOpM at h2
          rw [hmi, hdi'] at h2
          exact h2 wc.heap.size
      | fill k V u =>
        obtain ⟨o, t, d, yv, z, ho, hop, hg, hdo, hmk, hdk, hwk, hsk, hrun⟩ := hM.fill i k V u hmi
        obtain rfl : o = oi := Option.some.inj (ho.symm.trans hoi)
        have dep : ∀ j, Region.waitsFor .any ops i j = true → listed.getD j false = true := fun j hj => by
          obtain ⟨o', ho', e, he, hbd, rfl⟩ := Region.waitsFor_spec hj
          obtain rfl : o' = o := Option.some.inj (ho'.symm.trans hoi)
          exact hall e he hbd
        have hq : ∀ j, mk j = none → j < ops.size → listed.getD j false = true := fun j hj hl => sink_all hI.closed dep qs hsk j (hM.quiet j hj hl)
        have hlk := dep k hwk
        obtain ⟨sl, sb, slt⟩ := hI.slot k z d hmk hlk hdk
        have hraw := hI.raw k z hmk hlk (fun j V' u' hj => by
          have : j = i := hM.one j i k V' V u' u hj hmi
          subst this
          exact getD_both hun)
        obtain ⟨v', r1, r2, r3⟩ := hrun wc (G k) hraw
        obtain ⟨⟨o2, t2, x2, y2, q1, q2, q4⟩, hK⟩ := h1
        obtain rfl : o2 = o := Option.some.inj (q1.symm.trans hoi)
        rw [hop] at q2
        obtain ⟨rfl, rfl, rfl⟩ : t = t2 ∧ Operand.tmp d = x2 ∧ yv = y2 := by injection q2 with a1 a2 a3; exact ⟨a1, a2, a3⟩
        unfold wpOpIn
        simp only [hoi]
        have hw : Region.wanted o2 (yielded ops a.tmps) = true := by simp [Region.wanted, hg]
        rw [if_pos hw]
        refine ⟨fun _ _ => trivial, ?_⟩
        rw [show (wideAt ro).round = ro from rfl, Oper.semAt_eq _ _ _ (hd i o2 hoi)]
        have ea : a.eval (.tmp d) = ptrAt (G k) := by simp [Act.eval, sl]
        have hx : (execOp a.eval o2).run P wc = .ok .skip v' := by
          unfold execOp
          rw [hop]
          simp [ea, q4, r1]
        rw [hx]
        simp only [Oper.uponIn]
        rw [hdo]
        have ep : a.put none undef = a := rfl
        rw [ep]
        have hbv : Below w.heap.size w v' := ⟨r2.os.trans hI.below.os, r2.tape.trans hI.below.tape, r2.output.trans hI.below.output, Nat.le_trans hI.below.size r2.size, fun j hj => (r2.block j (Nat.lt_of_lt_of_le hj hI.below.size) (fun e => by cases e; omega)).trans (hI.below.block j hj)⟩
        have hni' : ∀ j m, mk j = some (.new m) → j ≠ i := fun j m h e => by rw [e, hmi] at h; cases h
        refine wpAnyIn_of_K hM hd hni hL f _ _ v' G ⟨hI.size, hls, hcl, hbv, ?_, ?_, ?_, ?_⟩ (fun y => wpAnyK_noC f _ _ (fun j hj hl => getD_set_true (hq j hj hl)) hK)
        · intro j z' e h1 h2 h3
          rw [hoth j (hni' j _ h1)] at h2
          obtain ⟨e1, e2, e3⟩ := hI.slot j z' e h1 h2 h3
          exact ⟨e1, e2, Nat.lt_of_lt_of_le e3 r2.size⟩
        · intro j z' h1 h2 h3
          rw [hoth j (hni' j _ h1)] at h2
          have hjk : j ≠ k := fun e => by
            subst e
            have := h3 i V u hmi
            rw [hself] at this; cases this
          have h5 := hI.raw j z' h1 h2 (fun j' V' u' hj => by
            have h6 := h3 j' V' u' hj
            rwa [hoth j' (fun e => by subst e; rw [hmi] at hj; cases hj; exact hjk rfl)] at h6)
          exact (r2.block _ (Array.getElem?_eq_some_iff.1 h5).1 (fun e => hI.ne j k z' z h1 hmk h2 hlk hjk (Option.some.inj e))).trans h5
        · intro j z' j' V' u' h1 h2 h3
          by_cases hji : j' = i
          · subst hji
            rw [hmi] at h2; cases h2
            exact r3
          · rw [hoth j' hji] at h3
            have h5 := hI.full j z' j' V' u' h1 h2 h3
            have hjk : j ≠ k := fun e => by subst e; exact hji (hM.one j' i j V' V u' u h2 hmi)
            have hlj : listed.getD j false = true := by
              obtain ⟨oj, t', dj, y', zj, hoj, _, _, _, _, _, hw', _⟩ := hM.fill j' j V' u' h2
              obtain ⟨o', ho', e, he, hbd, rfl⟩ := Region.waitsFor_spec hw'
              exact hI.closed j' o' ho' h3 e he hbd
            exact (r2.block _ (Array.getElem?_eq_some_iff.1 h5).1 (fun e => hI.ne j k z' z h1 hmk hlj hlk hjk (Option.some.inj e))).trans h5
        · intro j j' z1 z2 h1 h2 h3 h4 hjj
          rw [hoth j (hni' j _ h1)] at h3
          rw [hoth j' (hni' j' _ h2)] at h4
          exact hI.ne j j' z1 z2 h1 h2 h3 h4 hjj

theorem wpWide_region_make {id : Nat} {Q : Exit → Act → World → Prop} {a : Act} {l : List Oper} (qs rs : List Nat) (mk : Nat → Option Mk) (hm : P.follows .mixedOrders = true)
    (hB : (Region.noSelect l.toArray && headB l.toArray qs (Array.replicate l.toArray.size false) && headB l.toArray rs (listedBy l.toArray.size qs) && (Region.ready .any l.toArray (listedBy l.toArray.size (qs ++ rs))).isEmpty &&
      ((List.range l.length).all fun i => (listedBy l.toArray.size (qs ++ rs)).getD i false) && qs.all fun i => (listedBy l.toArray.size qs).getD i false) = true)
    (hsz : (qs ++ rs).length = l.length) (hqs : qs = List.range qs.length) (hnd : noDefer l = true) (hmq : ∀ i ∈ qs, mk i = none) (hM : MkOps P l.toArray qs mk a.tmps.size) (hni : NoInit P (pick l qs)) (hpi : ∀ i o, mk i = none → l[i]? = some o → NoInitOp P o)
    (H : ∀ y : Later w, wpQuiet P l.toArray (fun w' => ∃ x : Later y.out, w' = x.out) (wpLexM l.toArray mk (fun a' => ∀ (x : Later w) (G : Nat → Nat),
        (∀ i z d, mk i = some (.new z) → dstOf l.toArray i = some d → a'.tmps[d]? = some (ptrAt (G i)) ∧ w.heap.size ≤ G i ∧ G i < x.out.heap.size) →
        (∀ i z j V u, mk i = some (.new z) → mk j = some (.fill i V u) → x.out.heap[G i]? = some u) →
        (∀ i j z z', mk i = some (.new z) → mk j = some (.new z') → i ≠ j → G i ≠ G j) → Q .normal a' x.out) rs) (pick l qs) a) : (Code.region id l.toArray true).wpIn (wideAt ro) n P Q a w := by
  simp only [Bool.and_eq_true] at hB
  obtain ⟨⟨⟨⟨⟨hsel, hH⟩, hR⟩, hT⟩, hA⟩, hqA⟩ := hB
  have hA' : ∀ i, i < l.toArray.size → (listedBy l.toArray.size (qs ++ rs)).getD i false = true := fun i hi => List.all_eq_true.1 hA i (by simpa using hi)
  have efold : listedBy l.toArray.size (qs ++ rs) = rs.foldl (fun b i => b.setIfInBounds i true) (listedBy l.toArray.size qs) := by simp [listedBy, List.foldl_append]
  rw [efold] at hT hA'
  have hq' : ∀ j, j < qs.length → (listedBy l.toArray.size qs).getD j false = true := fun j hj => List.all_eq_true.1 hqA j (by rw [hqs]; simpa using hj)
  have hcov : ∀ j, mk j = none → j < l.toArray.size → j < qs.length := fun j h1 h2 => by
    have := hM.quiet j h1 h2
    rw [hqs] at this
    simpa using this
  refine wpIn_region_any hm ?_
  have hb : Below w.heap.size w w.drew := (Below.refl _ w).drew
  have hI : MkInv l.toArray w mk a.tmps.size (Array.replicate l.toArray.size false) a w.drew (fun _ => 0) :=
    ⟨rfl, by simp, fun j oj _ h => (by rw [getD_replicate_false] at h; cases h), hb, fun i z d _ h => (by rw [getD_replicate_false] at h; cases h), fun i z _ h => (by rw [getD_replicate_false] at h; cases h), fun i z j V u _ _ h => (by rw [getD_replicate_false] at h; cases h), fun i j z z' _ _ h => (by rw [getD_replicate_false] at h; cases h)⟩
  have := wpAnyIn_of_K (ro := ro) (n := n) (Q' := Q) hM (fun i o ho => noDefer_at hnd ho) (fun i o h1 h2 => hpi i o h1 (by simpa using h2)) (L := fun listed' a' => Region.ready .any l.toArray listed' = [] ∧ (∀ i, i < l.toArray.size → listed'.getD i false = true) ∧ (∀ (x : Later w) (G : Nat → Nat),
        (∀ i z d, mk i = some (.new z) → dstOf l.toArray i = some d → a'.tmps[d]? = some (ptrAt (G i)) ∧ w.heap.size ≤ G i ∧ G i < x.out.heap.size) →
        (∀ i z j V u, mk i = some (.new z) → mk j = some (.fill i V u) → x.out.heap[G i]? = some u) →
        (∀ i j z z', mk i = some (.new z) → mk j = some (.new z') → i ≠ j → G i ≠ G j) → Q .normal a' x.out)) ?_ l.length (Array.replicate l.toArray.size false) a w.drew (fun _ => 0) hI ?_
  · simpa using this
  · rintro listed a' wc G hI' ⟨h1, h2, h3⟩
    have inl : ∀ i m, mk i = some m → i < l.toArray.size := fun i m h => by
      cases m with
      | new z => obtain ⟨o, _, _, ho, _⟩ := hM.new i z h; exact (Array.getElem?_eq_some_iff.1 ho).1
      | fill k V u => obtain ⟨o, _, _, _, _, ho, _⟩ := hM.fill i k V u h; exact (Array.getElem?_eq_some_iff.1 ho).1
    exact ⟨h1, h3 ⟨wc, hI'.below⟩ G (fun i z d h4 h5 => hI'.slot i z d h4 (h2 i (inl i _ h4)) h5) (fun i z j V u h4 h5 => hI'.full i z j V u h4 h5 (h2 j (inl j _ h5))) (fun i j z z' h4 h5 h6 => hI'.ne i j z z' h4 h5 (h2 i (inl i _ h4)) (h2 j (inl j _ h5)) h6)⟩
  · intro y
    have hw := H ⟨y.out, hb.trans (y.below.mono hb.size)⟩
    have e : l.length = qs.length + rs.length := by rw [← hsz]; simp
    rw [e]
    refine wpAnyK_quiet rfl hsel (fun _ _ hL => hL.1) qs _ a hmq hH (wpQuiet_post (fun a' h' => ?_) _ _ hw)
    exact wpAnyK_rest (m := qs.length) hcov rs _ a' hR hT hA' hq' h'
end
end Go.Proofs.Ytcdnekhpeghkiaa

/-
  Two new blocks, each filled with what has been reckoned.
-/
namespace Go.Proofs.Ytcdnekhpeghkiaa
set_option linter.unusedVariables false
open Go.RowKit

theorem pick_range (l : List Oper) : ∀ (k : Nat) (m : Nat), m + k ≤ l.length → pick l ((List.range k).map (· + m)) = (l.drop m).take k
  | 0, m, _ => by simp [pick]
  | k + 1, m, h => by
    have hm : m < l.length := by omega
    rw [List.range_succ_eq_map, List.map_cons, List.map_map]
    have e : l.drop m = l[m] :: l.drop (m + 1) := List.drop_eq_getElem_cons hm
    rw [e, List.take_succ_cons]
    unfold pick
    have hl : l[0 + m]? = some l[m] := by simp [hm]
    rw [hl]
    have := pick_range l k (m + 1) (by omega)
    rw [← this]
    have em : List.map ((fun x => x + m) ∘ Nat.succ) (List.range k) = List.map (fun x => x + (m + 1)) (List.range k) := by
      apply List.map_congr_left
      intro i _
      simp only [Function.comp]; omega
    rw [em]
theorem pick_take (l : List Oper) (k : Nat) (h : k ≤ l.length) : pick l (List.range k) = l.take k := by
  have := pick_range l k 0 (by omega)
  simpa using this

section
variable {P : Program} {w : World} {n : Nat}
def mk2 (h : Nat) (z1 z2 : Obj) (V1 V2 : Value) (u1 u2 : Obj) (i : Nat) : Option Mk :=
  if i = h then some (.new z1) else if i = h + 1 then some (.new z2) else if i = h + 2 then some (.fill h V1 u1) else if i = h + 3 then some (.fill (h + 1) V2 u2) else none
theorem mk2_new {h i : Nat} {z1 z2 u1 u2 z : Obj} {V1 V2 : Value} (e : mk2 h z1 z2 V1 V2 u1 u2 i = some (.new z)) : (i = h ∧ z = z1) ∨ (i = h + 1 ∧ z = z2) := by
  unfold mk2 at e
  split at e
  · injection e with e; injection e with e; exact .inl ⟨‹_›, e.symm⟩
  · split at e
    · injection e with e; injection e with e; exact .inr ⟨‹_›, e.symm⟩
    · split at e
      · injection e with e; cases e
      · split at e
        · injection e with e; cases e
        · cases e
theorem mk2_fill {h i k : Nat} {z1 z2 u1 u2 u : Obj} {V1 V2 V : Value} (e : mk2 h z1 z2 V1 V2 u1 u2 i = some (.fill k V u)) : (i = h + 2 ∧ k = h ∧ V = V1 ∧ u = u1) ∨ (i = h + 3 ∧ k = h + 1 ∧ V = V2 ∧ u = u2) := by
  unfold mk2 at e
  split at e
  · injection e with e; cases e
  · split at e
    · injection e with e; cases e
    · split at e
      · injection e with e; injection e with a b c; exact .inl ⟨‹_›, a.symm, b.symm, c.symm⟩
      · split at e
        · injection e with e; injection e with a b c; exact .inr ⟨‹_›, a.symm, b.symm, c.symm⟩
        · cases e
theorem mk2_none {h i : Nat} {z1 z2 u1 u2 : Obj} {V1 V2 : Value} (e : mk2 h z1 z2 V1 V2 u1 u2 i = none) (hi : i < h + 4) : i < h := by
  unfold mk2 at e
  split at e
  · cases e
  · split at e
    · cases e
    · split at e
      · cases e
      · split at e
        · cases e
        · omega
theorem mk2_at (h : Nat) (z1 z2 u1 u2 : Obj) (V1 V2 : Value) : mk2 h z1 z2 V1 V2 u1 u2 h = some (.new z1) ∧ mk2 h z1 z2 V1 V2 u1 u2 (h + 1) = some (.new z2) ∧ mk2 h z1 z2 V1 V2 u1 u2 (h + 2) = some (.fill h V1 u1) ∧ mk2 h z1 z2 V1 V2 u1 u2 (h + 3) = some (.fill (h + 1) V2 u2) := by
  refine ⟨by simp [mk2], by simp [mk2], by simp [mk2], by simp [mk2]⟩

theorem wpWide_region_make2 {ro : Option Nat} {id : Nat} {Q : Exit → Act → World → Prop} {a : Act} {l : List Oper} (h d1 d2 : Nat) (z1 z2 u1 u2 : Obj) (V1 V2 : Value) (hm : P.follows .mixedOrders = true)
    (hB : (Region.noSelect l.toArray && headB l.toArray (List.range h) (Array.replicate l.toArray.size false) && headB l.toArray [h, h + 1, h + 2, h + 3] (listedBy l.toArray.size (List.range h)) && (Region.ready .any l.toArray (listedBy l.toArray.size (List.range h ++ [h, h + 1, h + 2, h + 3]))).isEmpty &&
      ((List.range l.length).all fun i => (listedBy l.toArray.size (List.range h ++ [h, h + 1, h + 2, h + 3])).getD i false) && (List.range h).all fun i => (listedBy l.toArray.size (List.range h)).getD i false) = true)
    (hlen : l.length = h + 4) (hnd : noDefer l = true) (hci : (l.take h).all (callOk P) = true)
    (hw : (Region.waitsFor .any l.toArray (h + 2) h && Region.waitsFor .any l.toArray (h + 3) (h + 1) && sinkL l.toArray (h + 2) (List.range h) && sinkL l.toArray (h + 3) (List.range h)) = true)
    (o1 : ∃ o T, l[h]? = some o ∧ o.op = .alloc T ∧ o.dst = some d1 ∧ o.guard = none ∧ (∀ v : World, (Instr.alloc T true (.tuple #[])).run P v = .ok (ptrAt v.heap.size) (v.alloc z1)))
    (o2 : ∃ o T, l[h + 1]? = some o ∧ o.op = .alloc T ∧ o.dst = some d2 ∧ o.guard = none ∧ (∀ v : World, (Instr.alloc T true (.tuple #[])).run P v = .ok (ptrAt v.heap.size) (v.alloc z2)))
    (p1 : ∃ o t y, l[h + 2]? = some o ∧ o.op = .store t (.tmp d1) y ∧ o.guard = none ∧ o.dst = none ∧ (∀ (v : World) (g : Nat), v.heap[g]? = some z1 → ∃ v', (Instr.storeAt t (ptrAt g) V1).run P v = .ok () v' ∧ v.grownBy v' (some g) ∧ v'.heap[g]? = some u1))
    (p2 : ∃ o t y, l[h + 3]? = some o ∧ o.op = .store t (.tmp d2) y ∧ o.guard = none ∧ o.dst = none ∧ (∀ (v : World) (g : Nat), v.heap[g]? = some z2 → ∃ v', (Instr.storeAt t (ptrAt g) V2).run P v = .ok () v' ∧ v.grownBy v' (some g) ∧ v'.heap[g]? = some u2))
    (hd : d1 ≠ d2) (hdl : (l.take h).all (fun o => o.dst != some d1 && o.dst != some d2) = true) (hs1 : d1 < a.tmps.size) (hs2 : d2 < a.tmps.size)
    (H : ∀ y : Later w, wpQuiet P l.toArray (fun w' => ∃ x : Later y.out, w' = x.out) (fun a' => ∀ g1 g2 : Nat,
        FillCond l.toArray (h + 2) V1 ((a'.put (some d1) (ptrAt g1)).put (some d2) (ptrAt g2)) ∧ FillCond l.toArray (h + 3) V2 ((a'.put (some d1) (ptrAt g1)).put (some d2) (ptrAt g2)) ∧
        ∀ x : Later w, w.heap.size ≤ g1 → w.heap.size ≤ g2 → g1 ≠ g2 → x.out.heap[g1]? = some u1 → x.out.heap[g2]? = some u2 → Q .normal ((a'.put (some d1) (ptrAt g1)).put (some d2) (ptrAt g2)) x.out) (l.take h) a) : (Code.region id l.toArray true).wpIn (wideAt ro) n P Q a w := by
  simp only [Bool.and_eq_true] at hw
  obtain ⟨⟨⟨w1, w2⟩, w3⟩, w4⟩ := hw
  obtain ⟨q1, T1, e1, e2, e3, e4, e5⟩ := o1
  obtain ⟨q2, T2, f1, f2, f3, f4, f5⟩ := o2
  obtain ⟨r1, t1, y1, k1, k2, k3, k4, k5⟩ := p1
  obtain ⟨r2, t2, y2, m1, m2, m3, m4, m5⟩ := p2
  have D1 : dstOf l.toArray h = some d1 := by simp [dstOf, e1, e3]
  have D2 : dstOf l.toArray (h + 1) = some d2 := by simp [dstOf, f1, f3]
  have D3 : dstOf l.toArray (h + 2) = none := by simp [dstOf, k1, k4]
  have D4 : dstOf l.toArray (h + 3) = none := by simp [dstOf, m1, m4]
  have D0 : ∀ k, k < h → dstOf l.toArray k ≠ some d1 ∧ dstOf l.toArray k ≠ some d2 := fun k hk => by
    have hkl : k < l.length := by omega
    have hj := List.all_eq_true.1 hdl (l[k]) (by rw [List.mem_take_iff_getElem]; exact ⟨k, by omega, rfl⟩)
    simp only [Bool.and_eq_true, bne_iff_ne, ne_eq] at hj
    simpa [dstOf, hkl] using hj
  have Dn : ∀ k, h + 4 ≤ k → dstOf l.toArray k = none := fun k hk => by
    have : l[k]? = none := List.getElem?_eq_none (by omega)
    simp [dstOf, this]
  have pt := pick_take l h (by omega)
  have hni : NoInit P (pick l (List.range h)) := by rw [pt]; exact noInit_of hci
  have M := mk2_at h z1 z2 u1 u2 V1 V2
  refine wpWide_region_make (List.range h) [h, h + 1, h + 2, h + 3] (mk2 h z1 z2 V1 V2 u1 u2) hm hB (by simp [hlen]) (by simp) hnd (fun i hi => ?_) ⟨?_, ?_, ?_, ?_, ?_⟩ hni (fun i o h1 h2 => ?_) (fun y => ?_)
  · have : i < h := by simpa using hi
    unfold mk2
    rw [if_neg (by omega), if_neg (by omega), if_neg (by omega), if_neg (by omega)]
  · intro j hj hl
    have : j < h := mk2_none hj (by simp [hlen] at hl; omega)
    simpa using this
  · intro i z hi
    rcases mk2_new hi with ⟨rfl, rfl⟩ | ⟨rfl, rfl⟩
    · exact ⟨q1, d1, T1, by simpa using e1, e2, e3, e4, hs1, e5⟩
    · exact ⟨q2, d2, T2, by simpa using f1, f2, f3, f4, hs2, f5⟩
  · intro j i V u hj
    rcases mk2_fill hj with ⟨rfl, rfl, rfl, rfl⟩ | ⟨rfl, rfl, rfl, rfl⟩
    · exact ⟨r1, t1, d1, y1, z1, by simpa using k1, k2, k3, k4, M.1, D1, w1, w3, k5⟩
    · exact ⟨r2, t2, d2, y2, z2, by simpa using m1, m2, m3, m4, M.2.1, D2, w2, w4, m5⟩
  · intro j j' i V V' u u' h1 h2
    rcases mk2_fill h1 with ⟨rfl, rfl, _, _⟩ | ⟨rfl, rfl, _, _⟩ <;> rcases mk2_fill h2 with ⟨rfl, e, _, _⟩ | ⟨rfl, e, _, _⟩ <;> omega
  · intro i z d k hi hdi hki
    have cases4 : k < h ∨ k = h ∨ k = h + 1 ∨ k = h + 2 ∨ k = h + 3 ∨ h + 4 ≤ k := by omega
    rcases mk2_new hi with ⟨rfl, rfl⟩ | ⟨rfl, rfl⟩
    · obtain rfl : d = d1 := Option.some.inj (hdi.symm.trans D1)
      rcases cases4 with c | c | c | c | c | c
      · exact (D0 k c).1
      · exact absurd c hki
      · rw [c, D2]; exact fun e => hd (Option.some.inj e).symm
      · rw [c, D3]; simp
      · rw [c, D4]; simp
      · rw [Dn k c]; simp
    · obtain rfl : d = d2 := Option.some.inj (hdi.symm.trans D2)
      rcases cases4 with c | c | c | c | c | c
      · exact (D0 k c).2
      · rw [c, D1]; exact fun e => hd (Option.some.inj e)
      · exact absurd c hki
      · rw [c, D3]; simp
      · rw [c, D4]; simp
      · rw [Dn k c]; simp
  · have hi : i < l.length := (List.getElem?_eq_some_iff.1 h2).1
    have : i < h := mk2_none h1 (by omega)
    exact hni.at (i := i) (by rw [pt, List.getElem?_take_of_lt this]; exact h2)
  · rw [pt]
    refine wpQuiet_post (fun a' h' => ?_) _ _ (H y)
    unfold wpLexM
    rw [M.1]
    intro g1
    unfold wpLexM
    rw [M.2.1]
    intro g2
    rw [D1, D2]
    obtain ⟨c1, c2, hQ⟩ := h' g1 g2
    unfold wpLexM
    rw [M.2.2.1]
    refine ⟨c1, ?_⟩
    unfold wpLexM
    rw [M.2.2.2]
    refine ⟨c2, ?_⟩
    unfold wpLexM
    intro x G hs hf hne
    obtain ⟨s1, s2, s3⟩ := hs h z1 d1 M.1 D1
    obtain ⟨v1, v2, v3⟩ := hs (h + 1) z2 d2 M.2.1 D2
    rw [put_other _ _ _ _ (fun e => hd (Option.some.inj e).symm)] at s1
    have sz : ∀ (b : Act) (d g g' : Nat), (b.put (some d) (ptrAt g)).tmps[d]? = some (ptrAt g') → g = g' := fun b d g g' e => by
      have hlt : d < b.tmps.size := by
        rcases Nat.lt_or_ge d b.tmps.size with q | q
        · exact q
        · rw [Array.getElem?_eq_none (by rw [put_size]; exact q)] at e; cases e
      rw [put_same _ _ _ hlt] at e
      unfold ptrAt at e
      simpa using e
    have E1 := sz _ _ _ _ s1
    have E2 := sz _ _ _ _ v1
    have hn := hne h (h + 1) z1 z2 M.1 M.2.1 (by omega)
    have b1 := hf h z1 (h + 2) V1 u1 M.1 M.2.2.1
    have b2 := hf (h + 1) z2 (h + 3) V2 u2 M.2.1 M.2.2.2
    rw [← E1] at s2 b1 hn
    rw [← E2] at v2 b2 hn
    exact hQ x s2 v2 hn b1 b2
/-- in no round -/
theorem wp_region_make2 {id : Nat} {Q : Exit → Act → World → Prop} {a : Act} {l : List Oper} (h d1 d2 : Nat) (z1 z2 u1 u2 : Obj) (V1 V2 : Value) (hm : P.follows .mixedOrders = true)
    (hB : (Region.noSelect l.toArray && headB l.toArray (List.range h) (Array.replicate l.toArray.size false) && headB l.toArray [h, h + 1, h + 2, h + 3] (listedBy l.toArray.size (List.range h)) && (Region.ready .any l.toArray (listedBy l.toArray.size (List.range h ++ [h, h + 1, h + 2, h + 3]))).isEmpty &&
      ((List.range l.length).all fun i => (listedBy l.toArray.size (List.range h ++ [h, h + 1, h + 2, h + 3])).getD i false) && (List.range h).all fun i => (listedBy l.toArray.size (List.range h)).getD i false) = true)
    (hlen : l.length = h + 4) (hnd : noDefer l = true) (hci : (l.take h).all (callOk P) = true)
    (hw : (Region.waitsFor .any l.toArray (h + 2) h && Region.waitsFor .any l.toArray (h + 3) (h + 1) && sinkL l.toArray (h + 2) (List.range h) && sinkL l.toArray (h + 3) (List.range h)) = true)
    (o1 : ∃ o T, l[h]? = some o ∧ o.op = .alloc T ∧ o.dst = some d1 ∧ o.guard = none ∧ (∀ v : World, (Instr.alloc T true (.tuple #[])).run P v = .ok (ptrAt v.heap.size) (v.alloc z1)))
    (o2 : ∃ o T, l[h + 1]? = some o ∧ o.op = .alloc T ∧ o.dst = some d2 ∧ o.guard = none ∧ (∀ v : World, (Instr.alloc T true (.tuple #[])).run P v = .ok (ptrAt v.heap.size) (v.alloc z2)))
    (p1 : ∃ o t y, l[h + 2]? = some o ∧ o.op = .store t (.tmp d1) y ∧ o.guard = none ∧ o.dst = none ∧ (∀ (v : World) (g : Nat), v.heap[g]? = some z1 → ∃ v', (Instr.storeAt t (ptrAt g) V1).run P v = .ok () v' ∧ v.grownBy v' (some g) ∧ v'.heap[g]? = some u1))
    (p2 : ∃ o t y, l[h + 3]? = some o ∧ o.op = .store t (.tmp d2) y ∧ o.guard = none ∧ o.dst = none ∧ (∀ (v : World) (g : Nat), v.heap[g]? = some z2 → ∃ v', (Instr.storeAt t (ptrAt g) V2).run P v = .ok () v' ∧ v.grownBy v' (some g) ∧ v'.heap[g]? = some u2))
    (hd : d1 ≠ d2) (hdl : (l.take h).all (fun o => o.dst != some d1 && o.dst != some d2) = true) (hs1 : d1 < a.tmps.size) (hs2 : d2 < a.tmps.size)
    (H : ∀ y : Later w, wpQuiet P l.toArray (fun w' => ∃ x : Later y.out, w' = x.out) (fun a' => ∀ g1 g2 : Nat,
        FillCond l.toArray (h + 2) V1 ((a'.put (some d1) (ptrAt g1)).put (some d2) (ptrAt g2)) ∧ FillCond l.toArray (h + 3) V2 ((a'.put (some d1) (ptrAt g1)).put (some d2) (ptrAt g2)) ∧
        ∀ x : Later w, w.heap.size ≤ g1 → w.heap.size ≤ g2 → g1 ≠ g2 → x.out.heap[g1]? = some u1 → x.out.heap[g2]? = some u2 → Q .normal ((a'.put (some d1) (ptrAt g1)).put (some d2) (ptrAt g2)) x.out) (l.take h) a) : (Code.region id l.toArray true).wp P Q a w :=
  (wpIn_wide (n := 0)).1 (wpWide_region_make2 (ro := none) h d1 d2 z1 z2 u1 u2 V1 V2 hm hB hlen hnd hci hw o1 o2 p1 p2 hd hdl hs1 hs2 H)
end
end Go.Proofs.Ytcdnekhpeghkiaa

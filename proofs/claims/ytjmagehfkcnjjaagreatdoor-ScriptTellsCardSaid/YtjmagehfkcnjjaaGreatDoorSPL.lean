/-
  Operations that enter no function.
-/
import Derived.Test.YtjmagehfkcnjjaaGreatDoorStores
import Derived.Test.YtjmagehfkcnjjaaGreatDoorFL
import Derived.Test.YtjmagehfkcnjjaaGreatDoorKI
import Derived.Laws.Tables
import Derived.Deep.MidRow
namespace Go.Proofs.YtjmagehfkcnjjaaGreatDoor
set_option linter.unusedVariables false

open Go.RowKit

section
variable {P : Program} {w w' : World} {f : FuncId} {args : Array Value}
theorem nv (s : Sem Value) : (do pure (Next.value (← s)) : Sem Next).run P w ≠ .ok (.enter f args) w' := by
  intro e
  rw [Sem.run_bind] at e
  cases hr : s.run P w with
  | ok u w1 => rw [hr] at e; simp [Result.andThen] at e
  | halt x w1 => rw [hr] at e; simp [Result.andThen] at e
theorem nu (s : Sem Unit) : (do s; pure Next.skip : Sem Next).run P w ≠ .ok (.enter f args) w' := by
  intro e
  rw [Sem.run_bind] at e
  cases hr : s.run P w with
  | ok u w1 => rw [hr] at e; simp [Result.andThen] at e
  | halt x w1 => rw [hr] at e; simp [Result.andThen] at e
end
def plainOp : Op → Bool
  | .move _ | .assign _ | .load .. | .binOp .. | .unOp .. | .convert .. | .fieldAddr .. | .field .. | .indexAddr .. | .index .. | .build .. | .extract .. | .slice .. | .store .. | .alloc _ => true
  | _ => false
theorem noEnter_plain {P : Program} {o : Oper} (h : plainOp o.op = true) : NoEnter P o := by
  unfold NoEnter
  intro a w f args w' e
  unfold execOp at e
  cases ho : o.op with
  | move x => rw [ho] at e; simp at e
  | assign x => rw [ho] at e; simp at e
  | load t x => rw [ho] at e; exact nv _ e
  | binOp op t x y s => rw [ho] at e; exact nv _ e
  | unOp op t x => rw [ho] at e; exact nv _ e
  | convert s d x => rw [ho] at e; exact nv _ e
  | fieldAddr s x k => rw [ho] at e; exact nv _ e
  | field s x k => rw [ho] at e; exact nv _ e
  | indexAddr t x i => rw [ho] at e; exact nv _ e
  | index t x i => rw [ho] at e; exact nv _ e
  | build t p => rw [ho] at e; exact nv _ e
  | extract t i => rw [ho] at e; exact nv _ e
  | slice t x l h m => rw [ho] at e; exact nv _ e
  | store t x y => rw [ho] at e; exact nu _ e
  | alloc t => rw [ho] at e; exact nv _ e
  | _ => rw [ho] at h; cases h
theorem noEnter_all {P : Program} {l : List Oper} (h : (l.all fun o => plainOp o.op) = true) {i : Nat} {o : Oper} (ho : l[i]? = some o) : NoEnter P o :=
  noEnter_plain (List.all_eq_true.1 h o (List.mem_of_getElem? ho))

theorem wpLexS_store {P : Program} {C : World → Prop} {st : Nat → Option St} {l : List Oper} {Lq : Act → Prop} {r : List Nat} {a : Act} {i : Nat} {s : St} (h : st i = some s) (hc : StCond l.toArray i s a) (hh : wpLexS P l C st Lq r a) : wpLexS P l C st Lq (i :: r) a := by
  unfold wpLexS; rw [h]; exact ⟨hc, hh⟩
theorem wpLexS_nil {P : Program} {C : World → Prop} {st : Nat → Option St} {l : List Oper} {Lq : Act → Prop} {a : Act} (h : Lq a) : wpLexS P l C st Lq [] a := h
theorem LaterX.keepsFrom {Bs : List Nat} {W : World} {B : Nat} (x : LaterX Bs W) (hb : ∀ b ∈ Bs, b < B) : KeepsFrom B W x.out :=
  ⟨x.size, fun k o hB hk _ => (x.block k (Array.getElem?_eq_some_iff.1 hk).1 (fun h => by have := hb k h; omega)).trans hk⟩
theorem LaterX.keepsTop {Bs Bl : List Nat} {W : World} {B : Nat} (x : LaterX Bs W) (hb : ∀ b ∈ Bs, b < B) (hl : ∀ b ∈ Bl, b ∉ Bs ∧ b < W.heap.size) : KeepsTop B Bl W x.out :=
  ⟨fun b h => x.block b (hl b h).2 (hl b h).1, fun k o hB hk _ => (x.block k (Array.getElem?_eq_some_iff.1 hk).1 (fun h => by have := hb k h; omega)).trans hk⟩

theorem storePt (v : World) (b off : Nat) (T : TypeId) (c : Array Value) (p q : Int) (h : Blk v b T c) (ho : off + 1 < c.size) :
    ∃ v', (Instr.storeAt 48 (.pointer (some ⟨b, off, none⟩)) (.agg #[.int .i64 p, .int .i64 q])).run Tryz.prog v = .ok () v' ∧ v.grownBy v' (some b) ∧ Blk v' b T ((c.setIfInBounds off (.int .i64 p)).setIfInBounds (off + 1) (.int .i64 q)) := by
  refine ⟨(v.setCell ⟨b, off, none⟩ (.int .i64 p)).setCell ⟨b, off + 1, none⟩ (.int .i64 q), ?_, ?_, ?_⟩
  · have c0 := h.cell off
    have c1 := h.cell (off + 1)
    have f0 := h.frozen off
    have f1 := h.frozen (off + 1)
    rw [Array.getElem?_eq_getElem (by omega)] at c0
    rw [Array.getElem?_eq_getElem (by omega)] at c1
    simp [Instr.storeAt, storeVar, go_sem, c0, c1, f0, f1]
  · exact ⟨rfl, rfl, rfl, by simp, fun k _ hk => (Below.heap_setCell _ ⟨b, off + 1, none⟩ _ k (fun e => hk (by rw [e]))).trans (Below.heap_setCell _ ⟨b, off, none⟩ _ k (fun e => hk (by rw [e])))⟩
  · exact (h.set _ _).set _ _

/-- a store over a whole block -/
theorem storeRow {P : Program} (ty : TypeId) (v : World) (b : Nat) (T : TypeId) (old cells : Array Value) (h : Blk v b T old) (hi : (P.info? ty).map (·.size) = some cells.size) (ho : old.size = cells.size) (h1 : cells.all (·.oneCell') = true) :
    ∃ v', (Instr.storeAt ty (.pointer (some ⟨b, 0, none⟩)) (.agg cells)).run P v = .ok () v' ∧ v.grownBy v' (some b) ∧ Blk v' b T cells := by
  refine ⟨v.setRow b cells, ?_, ⟨rfl, rfl, rfl, by simp [World.setRow], fun k _ hk => ?_⟩, setRow_heap v b old cells T (0, 0) h⟩
  · simp only [Instr.storeAt, Instr.sureAddr, Sem.run_bind, Sem.run_pure, Result.andThen_ok, run_storeVar_row v b T ty old cells h hi ho h1]
  · have hne : b ≠ k := fun e => hk (by rw [e])
    simp [World.setRow, Array.getElem?_modify, hne]
/-- in no round -/
theorem wp_region_stores {P : Program} {w : World} {id : Nat} {Q : Exit → Act → World → Prop} {a : Act} {l : List Oper} (hs : List Nat) (Bs : List Nat) (st : Nat → Option St) (hm : P.follows .mixedOrders = true)
    (hB : (Region.noSelect l.toArray && headB l.toArray hs (Array.replicate l.toArray.size false) && (Region.ready .any l.toArray (listedBy l.toArray.size hs)).isEmpty && (List.range l.length).all fun i => (listedBy l.toArray.size hs).getD i false) = true) (hsz : hs.length = l.length) (hnd : noDefer l = true)
    (hS : StOps P l w Bs st) (hst : ∀ i, l.length ≤ i → st i = none) (hne : ∀ i o, st i = none → l[i]? = some o → NoEnter P o)
    (hh : wpLexS P l (fun w' => ∃ x : LaterX Bs w, w' = x.out) st (fun a' => ∀ x : LaterX Bs w, (∀ i s, st i = some s → x.out.heap[s.b]? = some s.new) → Q .normal a' x.out) hs a) : (Code.region id l.toArray true).wp P Q a w :=
  (wpIn_wide (n := 0)).1 (wpWide_region_stores (ro := none) hs Bs st hm hB hsz hnd hS hst hne hh)
open Go.RowKit

theorem NoEnter.init {P : Program} {o : Oper} (h : NoEnter P o) : NoInitOp P o := fun a w f args w' e => absurd e (h a w f args w')
theorem noEnter_pick {P : Program} {o : Oper} {c x y : Operand} (ho : o.op = .pick c x y) : NoEnter P o := by
  unfold NoEnter
  intro a w f args w' e
  unfold execOp at e
  rw [ho] at e
  dsimp only at e
  rw [Sem.run_bind] at e
  cases hr : (asBool (a.eval c)).run P w with
  | ok u w1 => rw [hr] at e; simp [Result.andThen] at e
  | halt x w1 => rw [hr] at e; simp [Result.andThen] at e
theorem noEnter_builtin {P : Program} {o : Oper} {c : Call} (b : Builtin) (ho : o.op = .call c) (hc : c.callee = .builtin b) (hb : b = .min ∨ b = .max ∨ b = .len) : NoEnter P o := by
  unfold NoEnter
  intro a w f args w' e
  unfold execOp at e
  rw [ho] at e
  dsimp only at e
  unfold resolve at e
  rw [hc] at e
  simp only [pure_bind, invoke] at e
  rcases hb with rfl | rfl | rfl <;> exact nv _ e

/-- a call of a function with a body, and of no initial one; or what enters nothing -/
def callOk (P : Program) (o : Oper) : Bool :=
  match o.op with
  | .pick .. => true
  | .call c => (match c.callee with
    | .value (.func k) => (match P.funcs[k]? with
      | some fn => fn.body.isSome && !(fn.name == "runtime.NumGoroutine") && (P.inits.idxOf? k).isNone
      | none => false)
    | .builtin .min => true
    | .builtin .max => true
    | .builtin .len => true
    | _ => false)
  | op => plainOp op
theorem noInitOp_of {P : Program} {o : Oper} (h : callOk P o = true) : NoInitOp P o := by
  unfold callOk at h
  split at h
  · rename_i ho; exact (noEnter_pick ho).init
  · rename_i c ho
    split at h
    · rename_i k hc
      split at h
      · rename_i fn hf
        simp only [Bool.and_eq_true, Bool.not_eq_true', Option.isNone_iff_eq_none, Option.isSome_iff_exists] at h
        obtain ⟨⟨⟨b, hb⟩, hn⟩, hi⟩ := h
        exact noInit_call k ho hc (fun args w => by
          have h1 : fn.name ≠ "runtime.NumGoroutine" := by simpa using hn
          simp [callFunc, hf, h1, hb, mark]) hi
      · cases h
    · rename_i hc; exact (noEnter_builtin _ ho hc (.inl rfl)).init
    · rename_i hc; exact (noEnter_builtin _ ho hc (.inr (.inl rfl))).init
    · rename_i hc; exact (noEnter_builtin _ ho hc (.inr (.inr rfl))).init
    · cases h
  · exact (noEnter_plain h).init
theorem noInit_of {P : Program} {l : List Oper} (h : l.all (callOk P) = true) : NoInit P l := by
  induction l with
  | nil => trivial
  | cons o l ih =>
    simp only [List.all_cons, Bool.and_eq_true] at h
    exact ⟨noInitOp_of h.1, ih h.2⟩

theorem allocPt (v : World) : (Instr.alloc 48 true (.tuple #[])).run Tryz.prog v = .ok (ptrAt v.heap.size) (v.alloc (.cells #[.int .i64 0, .int .i64 0] 48)) := by
  simp [Instr.alloc, ptrAt, go_sem]
theorem nb {α : Type} {P : Program} {w w' : World} {f : FuncId} {args : Array Value} (s : Sem α) (k : α → Sem Next) (hk : ∀ u w1, (k u).run P w1 ≠ .ok (.enter f args) w') : (s >>= k).run P w ≠ .ok (.enter f args) w' := by
  intro e
  rw [Sem.run_bind] at e
  cases hr : s.run P w with
  | ok u w1 => rw [hr] at e; exact hk u w1 (by simpa [Result.andThen] using e)
  | halt x w1 => rw [hr] at e; simp [Result.andThen] at e
theorem np {P : Program} {w w' : World} {f : FuncId} {args : Array Value} (x : Value) : (pure (Next.value x) : Sem Next).run P w ≠ .ok (.enter f args) w' := by
  intro e; rw [Sem.run_pure] at e; cases e
theorem noEnter_nil {P : Program} {o : Oper} {x : Operand} (ho : o.op = .nilCheck x) : NoEnter P o := by
  unfold NoEnter
  intro a w f args w' e
  unfold execOp at e
  rw [ho] at e
  dsimp only at e
  have hp : ∀ w1, (runtimePanic .nilDeref : Sem Next).run P w1 ≠ .ok (.enter f args) w' := fun w1 e => by
    simp [runtimePanic, goPanic, go_sem] at e
  split at e
  · exact hp _ e
  · exact hp _ e
  · exact hp _ e
  · split at e
    · exact hp _ e
    · refine nb _ _ (fun u w1 => nb _ _ (fun u w1 => ?_)) e
      split
      · exact nb _ _ (fun u w1 => np _)
      · exact np _
    · exact np _ e
  · exact np _ e
def callOkN (P : Program) (o : Oper) : Bool :=
  match o.op with
  | .nilCheck _ => true
  | _ => callOk P o
theorem noInitOp_ofN {P : Program} {o : Oper} (h : callOkN P o = true) : NoInitOp P o := by
  unfold callOkN at h
  split at h
  · rename_i x ho; exact (noEnter_nil ho).init
  · exact noInitOp_of h
theorem noInit_ofN {P : Program} {l : List Oper} (h : l.all (callOkN P) = true) : NoInit P l := by
  induction l with
  | nil => trivial
  | cons o l ih =>
    simp only [List.all_cons, Bool.and_eq_true] at h
    exact ⟨noInitOp_ofN h.1, ih h.2⟩
end Go.Proofs.YtjmagehfkcnjjaaGreatDoor

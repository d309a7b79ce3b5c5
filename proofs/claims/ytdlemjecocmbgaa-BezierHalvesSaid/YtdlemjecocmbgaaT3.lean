/-
  Points: a stack of segments that wait.
-/
import Derived.Test.YtdlemjecocmbgaaT2
import Derived.Test.YtdlemjecocmbgaaTP
import Derived.Laws.AppendOwn
import Derived.Great.Walk
import Derived.ScopeJumps
import Derived.WalkMore
namespace Go.Proofs.Ytdlemjecocmbgaa
set_option linter.unusedVariables false
open Go.RowKit

theorem wp_scope_ghost {P : Program} {a : Act} {w : World} {Q : Exit → Act → World → Prop} {c rest : Code} (l : Nat) (J : Nat → Act → World → Prop) (hf : findLabel c l = some (.seq .skip rest))
    (pass0 : ∀ n a w, J n a w → rest.wp P (Exit.jump l (fun a' w' => ∃ n', n' < n ∧ J n' a' w') Q) a w)
    (first : (∀ n a w, J n a w → rest.wp P (Exit.jump l (fun a' w' => ∃ n', J n' a' w') Q) a w) → c.wp P (Exit.jump l (fun a' w' => ∃ n', J n' a' w') Q) a w) : (Code.scope c).wp P Q a w := by
  have pass : ∀ n a w, J n a w → (Code.seq .skip rest).wp P (Exit.jump l (fun a' w' => ∃ n', n' < n ∧ J n' a' w') Q) a w := fun n a w h => wp_seq (wp_skip (pass0 n a w h))
  intro b k cs
  have hg : gotoIn l (.inScope c :: k) = some (.code (.seq .skip rest) :: .inScope c :: k) := by simp [gotoIn, hf]
  have key : ∀ n a w, J n a w → ∃ e a' w', Q e a' w' ∧ Arrives P (lone (b.at a (.code (.seq .skip rest) :: .inScope c :: k)) cs w) b k cs e a' w' := by
    intro n
    induction n using Nat.strongRecOn with
    | _ n ih =>
      intro a w hJ
      obtain ⟨e, a₁, w₁, hq, harr⟩ := pass n a w hJ b (.inScope c :: k) cs
      cases e with
      | normal => exact ⟨.normal, a₁, w₁, hq, Steps.trans harr (.one step_inScope)⟩
      | exit id => exact ⟨.exit id, a₁, w₁, hq, fun k' hk => harr k' (by simp [exitTo, hk])⟩
      | goto l' =>
        obtain ⟨rfl, n', hlt, hJ'⟩ := hq
        obtain ⟨e₂, a₂, w₂, hq₂, harr₂⟩ := ih n' hlt a₁ w₁ hJ'
        exact ⟨e₂, a₂, w₂, hq₂, .of_steps (harr _ hg) harr₂⟩
      | ret => exact ⟨_, a₁, w₁, hq, harr⟩
      | panic ch => exact ⟨_, a₁, w₁, hq, harr⟩
      | outgrown => exact ⟨_, a₁, w₁, hq, harr⟩
  have weak : ∀ n a w, J n a w → rest.wp P (Exit.jump l (fun a' w' => ∃ n', J n' a' w') Q) a w := fun n a w h => Code.wp_mono (fun e a' w' k => by
    cases e <;> first | exact k | (obtain ⟨k1, n', _, k2⟩ := k; exact ⟨k1, n', k2⟩)) (pass0 n a w h)
  obtain ⟨e, a₁, w₁, hq, harr⟩ := first weak b (.inScope c :: k) cs
  cases e with
  | normal => exact ⟨.normal, a₁, w₁, hq, .head step_scope (Steps.trans harr (.one step_inScope))⟩
  | exit id => exact ⟨.exit id, a₁, w₁, hq, fun k' hk => .head step_scope (harr k' (by simp [exitTo, hk]))⟩
  | goto l' =>
    obtain ⟨rfl, n', hJ'⟩ := hq
    obtain ⟨e₂, a₂, w₂, hq₂, harr₂⟩ := key n' a₁ w₁ hJ'
    exact ⟨e₂, a₂, w₂, hq₂, .of_steps (.head step_scope (harr _ hg)) harr₂⟩
  | ret => exact ⟨_, a₁, w₁, hq, .of_steps (.one step_scope) harr⟩
  | panic ch => exact ⟨_, a₁, w₁, hq, .of_steps (.one step_scope) harr⟩
  | outgrown => exact ⟨_, a₁, w₁, hq, .of_steps (.one step_scope) harr⟩

theorem put_none (a : Act) (v : Value) : a.put none v = a := rfl
def ev (e : En) : List Value := [.int .i64 (e 0), .int .i64 (e 1), .int .i64 (e 2), .int .i64 (e 3), .int .i64 (e 4), .int .i64 (e 5), .int .i64 (e 6), .int .i64 (e 7), .int .i64 (e 8), .int .i64 (e 9)]
def fl (l : List (Int × Int)) : List Value := l.flatMap fun p => [.int .i64 p.1, .int .i64 p.2]
theorem fl_snoc (l : List (Int × Int)) (p : Int × Int) : fl (l ++ [p]) = fl l ++ [.int .i64 p.1, .int .i64 p.2] := by simp [fl]
/-- what a function gives that hands back a slice of its own -/
def SliceRet (w : World) (T : TypeId) (size n : Nat) (xs : List Value) (e : Ending) (w' : World) : Prop :=
  ∃ o, e = .returned o ∧ w'.ownsRow w.heap.size T size o n xs ∧ ∃ x : Later w, w' = x.out
/-- the stack, in the array of block b -/
def Stk (W : World) (b : Nat) : List En → Prop
  | [] => True
  | e :: r => W.rangeAt b (r.length * 10) (ev e) ∧ Stk W b r
theorem own_later {w : World} {base : Nat} {T : TypeId} {size n : Nat} {v : Value} {xs : List Value} (h : w.ownsRow base T size v n xs) (x : Later w) : x.out.ownsRow base T size v n xs :=
  h.kept (row := none) ⟨x.below.os, x.below.tape, x.below.output, x.below.size, fun k hk _ => x.below.block k hk⟩ (by cases v.ownBlock <;> simp)
theorem two_new (W : World) (T : TypeId) (p q : Value) : ∀ j u, ([p, q] : List Value)[j]? = some u → (W.alloc (.cells #[p, q] T)).cell? ((⟨W.heap.size, 0, none⟩ : Addr).add j) = some u := by
  intro j u h
  rw [Addr.add_mid, Nat.zero_add, (Blk.new W T #[p, q]).cell]
  simpa using h
theorem there_heap {W W' : World} {b o n : Nat} (h : W.there b o n) (e : W'.heap[b]? = W.heap[b]?) : W'.there b o n := fun j hj =>
  ⟨by rw [World.cell?_of_block (a := ⟨b, o + j, none⟩) e]; exact (h j hj).1, by rw [World.frozen?_of_block (a := ⟨b, o + j, none⟩) e]; exact (h j hj).2⟩
theorem there_sub {W : World} {b N : Nat} (h : W.there b 0 N) (o n : Nat) (hn : o + n ≤ N) : W.there b o n := fun j hj => by
  have := h (o + j) (by omega)
  simpa using this
theorem range_heap {W W' : World} {b o : Nat} {cs : List Value} (h : W.rangeAt b o cs) (e : W'.heap[b]? = W.heap[b]?) : W'.rangeAt b o cs := fun j v hv => by
  rw [World.cell?_of_block (a := ⟨b, o + j, none⟩) e]; exact h j v hv
theorem Stk.heap {W W' : World} {b : Nat} (e : W'.heap[b]? = W.heap[b]?) : ∀ {s : List En}, Stk W b s → Stk W' b s
  | [], _ => trivial
  | _ :: _, h => ⟨range_heap h.1 e, Stk.heap e h.2⟩
theorem Stk.apart {W : World} {b o : Nat} {vs : List Value} : ∀ {s : List En}, Stk W b s → s.length * 10 ≤ o → Stk (W.setCells b o vs) b s
  | [], _, _ => trivial
  | e :: r, h, ho => ⟨World.rangeAt_setCells_apart h.1 b o vs (.inr (.inl (by simp only [List.length_cons] at ho; simp [ev]; omega))), Stk.apart h.2 (by simp only [List.length_cons] at ho; omega)⟩
theorem setCells_other {b k : Nat} (hne : k ≠ b) : ∀ (vs : List Value) (o : Nat) (W : World), (W.setCells b o vs).heap[k]? = W.heap[k]?
  | [], _, _ => rfl
  | v :: r, o, W => by rw [World.setCells, setCells_other hne r (o + 1)]; exact Below.heap_setCell W ⟨b, o, none⟩ v k hne
theorem setCells_grown (b : Nat) : ∀ (vs : List Value) (o : Nat) (W : World), W.grownBy (W.setCells b o vs) (some b)
  | [], _, W => ⟨rfl, rfl, rfl, Nat.le_refl _, fun _ _ _ => rfl⟩
  | v :: r, o, W => by
    have h := setCells_grown b r (o + 1) (W.setCell ⟨b, o, none⟩ v)
    rw [World.setCells]
    exact ⟨h.os, h.tape, h.output, by have := h.size; simpa using this, fun k hk hn => by
      have := h.block k (by simpa using hk) hn
      exact this.trans (Below.heap_setCell W ⟨b, o, none⟩ v k (fun e => hn (by rw [e])))⟩
theorem infoPt : ∃ i, Try.prog.info? 23 = some i ∧ i.zero = some (.agg #[.int .i64 0, .int .i64 0]) ∧ i.size = 2 ∧ i.bytes = 16 := by
  have h : (Try.prog.info? 23).map (fun i => (i.zero, i.size, i.bytes)) = some (some (.agg #[.int .i64 0, .int .i64 0]), 2, 16) := by kernel_rfl
  cases e : Try.prog.info? 23 with
  | none => rw [e] at h; cases h
  | some i =>
    rw [e] at h
    simp only [Option.map_some, Option.some.injEq, Prod.mk.injEq] at h
    exact ⟨i, rfl, h.1, h.2.1, h.2.2⟩
theorem own_base {w : World} {base b' : Nat} {T : TypeId} {size n : Nat} {v : Value} {xs : List Value} (h : w.ownsRow base T size v n xs) (hb : b' ≤ base) : w.ownsRow b' T size v n xs :=
  ⟨h.1, h.2.imp id (fun ⟨g, cap, cur, e, k, r⟩ => ⟨g, cap, cur, e, Nat.le_trans hb k, r⟩)⟩
structure PInv (F : Fl) (w : World) (all : List (Int × Int)) (o : Value) (s : List En) (out : List (Int × Int)) (W : World) : Prop where
  own : W.ownsRow (w.heap.size + 2) 23 2 o out.length (fl out)
  there : W.there (w.heap.size + 1) 0 110
  stk : Stk W (w.heap.size + 1) s
  ok : F.ok s
  res : out ++ F.res s = all
  most : out.length + mst s ≤ 1024
  below : Below w.heap.size w W
  size : w.heap.size + 2 ≤ W.heap.size


end Go.Proofs.Ytdlemjecocmbgaa

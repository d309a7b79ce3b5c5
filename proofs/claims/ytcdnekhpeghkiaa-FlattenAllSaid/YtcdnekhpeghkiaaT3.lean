/-
  Points: a stack of segments that wait.
-/
import Derived.Test.YtcdnekhpeghkiaaT2
import Derived.Test.YtcdnekhpeghkiaaTP
import Derived.Laws.AppendOwn
import Derived.Great.Walk
import Derived.ScopeJumps
import Derived.WalkMore
namespace Go.Proofs.Ytcdnekhpeghkiaa
set_option linter.unusedVariables false
open Go.RowKit

theorem wp_scope_ghost {P : Program} {a : Act} {w : World} {Q : Exit → Act → World → Prop} {c rest : Code} (l : Nat) (J : Nat → Act → World → Prop) (hf : findLabel c l = some (.seq .skip rest))
    (pass0 : ∀ n a w, J n a w → rest.wp P (Exit.jump l (fun a' w' => ∃ n', n' < n ∧ J n' a' w') Q) a w)
    (first : (∀ n a w, J n a w → rest.wp P (Exit.jump l (fun a' w' => ∃ n', J n' a' w') Q) a w) → c.wp P (Exit.jump l (fun a' w' => ∃ n', J n' a' w') Q) a w) : (Code.scope c).wp P Q a w := by
  have pass : ∀ n a w, J n a w → (Code.seq .skip rest).wp P (Exit.jump l (fun a' w' => ∃ n', n' < n ∧ J n' a' w') Q) a w := fun n a w h => wp_seq (wp_skip (pass0 n a w h))
  intro b k cs
  have hg : gotoIn l (.inScope c :: k) = some (.code (.seq .skip rest) :: .inScope c :: k) := by simp [gotoIn, hf]
  have key : ∀ n a w, J n a w → ∃ e a' w', Q e a' w' ∧ Arrives P (lone (b.at a (.code (.seq .skip rest) :: .inScope c :: k)) cs w) b k cs e a' w' := by
    intro n
    induction n using Nat.strongRecOn with
    | _ n ih =>
      intro a w hJ
      obtain ⟨e, a₁, w₁, hq, harr⟩ := pass n a w hJ b (.inScope c :: k) cs
      cases e with
      | normal => exact ⟨.normal, a₁, w₁, hq, Steps.trans harr (.one step_inScope)⟩
      | exit id => exact ⟨.exit id, a₁, w₁, hq, fun k' hk => harr k' (by simp [exitTo, hk])⟩
      | goto l' =>
        obtain ⟨rfl, n', hlt, hJ'⟩ := hq
        obtain ⟨e₂, a₂, w₂, hq₂, harr₂⟩ := ih n' hlt a₁ w₁ hJ'
        exact ⟨e₂, a₂, w₂, hq₂, .of_steps (harr _ hg) harr₂⟩
      | ret => exact ⟨_, a₁, w₁, hq, harr⟩
      | panic ch => exact ⟨_, a₁, w₁, hq, harr⟩
      | outgrown => exact ⟨_, a₁, w₁, hq, harr⟩
  have weak : ∀ n a w, J n a w → rest.wp P (Exit.jump l (fun a' w' => ∃ n', J n' a' w') Q) a w := fun n a w h => Code.wp_mono (fun e a' w' k => by
    cases e <;> first | exact k | (obtain ⟨k1, n', _, k2⟩ := k; exact ⟨k1, n', k2⟩)) (pass0 n a w h)
  obtain ⟨e, a₁, w₁, hq, harr⟩ := first weak b (.inScope c :: k) cs
  cases e with
  | normal => exact ⟨.normal, a₁, w₁, hq, .head step_scope (Steps.trans harr (.one step_inScope))⟩
  | exit id => exact ⟨.exit id, a₁, w₁, hq, fun k' hk => .head step_scope (harr k' (by simp [exitTo, hk]))⟩
  | goto l' =>
    obtain ⟨rfl, n', hJ'⟩ := hq
    obtain ⟨e₂, a₂, w₂, hq₂, harr₂⟩ := key n' a₁ w₁ hJ'
    exact ⟨e₂, a₂, w₂, hq₂, .of_steps (.head step_scope (harr _ hg)) harr₂⟩
  | ret => exact ⟨_, a₁, w₁, hq, .of_steps (.one step_scope) harr⟩
  | panic ch => exact ⟨_, a₁, w₁, hq, .of_steps (.one step_scope) harr⟩
  | outgrown => exact ⟨_, a₁, w₁, hq, .of_steps (.one step_scope) harr⟩

theorem put_none (a : Act) (v : Value) : a.put none v = a := rfl
def ev (e : En) : List Value := [.int .i64 (e 0), .int .i64 (e 1), .int .i64 (e 2), .int .i64 (e 3), .int .i64 (e 4), .int .i64 (e 5), .int .i64 (e 6), .int .i64 (e 7), .int .i64 (e 8), .int .i64 (e 9)]
def fl (l : List (Int × Int)) : List Value := l.flatMap fun p => [.int .i64 p.1, .int .i64 p.2]
theorem fl_snoc (l : List (Int × Int)) (p : Int × Int) : fl (l ++ [p]) = fl l ++ [.int .i64 p.1, .int .i64 p.2] := by simp [fl]
/-- what a function gives that hands back a slice of its own -/
def SliceRet (w : World) (T : TypeId) (size n : Nat) (xs : List Value) (e : Ending) (w' : World) : Prop :=
  ∃ o, e = .returned o ∧ w'.ownsRow w.heap.size T size o n xs ∧ ∃ x : Later w, w' = x.out
/-- the stack, in the array of block b -/
def Stk (W : World) (b : Nat) : List En → Prop
  | [] => True
  | e :: r => W.rangeAt b (r.length * 10) (ev e) ∧ Stk W b r
theorem own_later {w : World} {base : Nat} {T : TypeId} {size n : Nat} {v : Value} {xs : List Value} (h : w.ownsRow base T size v n xs) (x : Later w) : x.out.ownsRow base T size v n xs :=
  h.kept (row := none) ⟨x.below.os, x.below.tape, x.below.output, x.below.size, fun k hk _ => x.below.block k hk⟩ (by cases v.ownBlock <;> simp)
theorem two_new (W : World) (T : TypeId) (p q : Value) : ∀ j u, ([p, q] : List Value)[j]? = some u → (W.alloc (.cells #[p, q] T)).cell? ((⟨W.heap.size, 0, none⟩ : Addr).add j) = some u := by
  intro j u h
  rw [Addr.add_mid, Nat.zero_add, (Blk.new W T #[p, q]).cell]
  simpa using h
theorem there_heap {W W' : World} {b o n : Nat} (h : W.there b o n) (e : W'.heap[b]? = W.heap[b]?) : W'.there b o n := fun j hj =>
  ⟨by rw [World.cell?_of_block (a := ⟨b, o + j, none⟩) e]; exact (h j hj).1, by rw [World.frozen?_of_block (a := ⟨b, o + j, none⟩) e]; exact (h j hj).2⟩
theorem there_sub {W : World} {b N : Nat} (h : W.there b 0 N) (o n : Nat) (hn : o + n ≤ N) : W.there b o n := fun j hj => by
  have := h (o + j) (by omega)
  simpa using this
theorem range_heap {W W' : World} {b o : Nat} {cs : List Value} (h : W.rangeAt b o cs) (e : W'.heap[b]? = W.heap[b]?) : W'.rangeAt b o cs := fun j v hv => by
  rw [World.cell?_of_block (a := ⟨b, o + j, none⟩) e]; exact h j v hv
theorem Stk.heap {W W' : World} {b : Nat} (e : W'.heap[b]? = W.heap[b]?) : ∀ {s : List En}, Stk W b s → Stk W' b s
  | [], _ => trivial
  | _ :: _, h => ⟨range_heap h.1 e, Stk.heap e h.2⟩
theorem Stk.apart {W : World} {b o : Nat} {vs : List Value} : ∀ {s : List En}, Stk W b s → s.length * 10 ≤ o → Stk (W.setCells b o vs) b s
  | [], _, _ => trivial
  | e :: r, h, ho => ⟨World.rangeAt_setCells_apart h.1 b o vs (.inr (.inl (by simp only [List.length_cons] at ho; simp [ev]; omega))), Stk.apart h.2 (by simp only [List.length_cons] at ho; omega)⟩
theorem setCells_other {b k : Nat} (hne : k ≠ b) : ∀ (vs : List Value) (o : Nat) (W : World), (W.setCells b o vs).heap[k]? = W.heap[k]?
  | [], _, _ => rfl
  | v :: r, o, W => by rw [World.setCells, setCells_other hne r (o + 1)]; exact Below.heap_setCell W ⟨b, o, none⟩ v k hne
theorem setCells_grown (b : Nat) : ∀ (vs : List Value) (o : Nat) (W : World), W.grownBy (W.setCells b o vs) (some b)
  | [], _, W => ⟨rfl, rfl, rfl, Nat.le_refl _, fun _ _ _ => rfl⟩
  | v :: r, o, W => by
    have h := setCells_grown b r (o + 1) (W.setCell ⟨b, o, none⟩ v)
    rw [World.setCells]
    exact ⟨h.os, h.tape, h.output, by have := h.size; simpa using this, fun k hk hn => by
      have := h.block k (by simpa using hk) hn
      exact this.trans (Below.heap_setCell W ⟨b, o, none⟩ v k (fun e => hn (by rw [e])))⟩
theorem infoPt : ∃ i, Try.prog.info? 23 = some i ∧ i.zero = some (.agg #[.int .i64 0, .int .i64 0]) ∧ i.size = 2 ∧ i.bytes = 16 := by
  have h : (Try.prog.info? 23).map (fun i => (i.zero, i.size, i.bytes)) = some (some (.agg #[.int .i64 0, .int .i64 0]), 2, 16) := by kernel_rfl
  cases e : Try.prog.info? 23 with
  | none => rw [e] at h; cases h
  | some i =>
    rw [e] at h
    simp only [Option.map_some, Option.some.injEq, Prod.mk.injEq] at h
    exact ⟨i, rfl, h.1, h.2.1, h.2.2⟩
theorem own_base {w : World} {base b' : Nat} {T : TypeId} {size n : Nat} {v : Value} {xs : List Value} (h : w.ownsRow base T size v n xs) (hb : b' ≤ base) : w.ownsRow b' T size v n xs :=
  ⟨h.1, h.2.imp id (fun ⟨g, cap, cur, e, k, r⟩ => ⟨g, cap, cur, e, Nat.le_trans hb k, r⟩)⟩
structure PInv (F : Fl) (w : World) (all : List (Int × Int)) (o : Value) (s : List En) (out : List (Int × Int)) (W : World) : Prop where
  own : W.ownsRow (w.heap.size + 2) 23 2 o out.length (fl out)
  there : W.there (w.heap.size + 1) 0 110
  stk : Stk W (w.heap.size + 1) s
  ok : F.ok s
  res : out ++ F.res s = all
  most : out.length + mst s ≤ 1024
  below : Below w.heap.size w W
  size : w.heap.size + 2 ≤ W.heap.size


set_option maxRecDepth 100000 in
set_option maxHeartbeats 600000 in
theorem points_c (F : Fl) (t : Int) (w : World) (e0 : En) (g0 : F.G e0) (h9 : e0 9 = 0) (all : List (Int × Int)) (hall : F.all e0 = all)
    (hS : ∀ (e : En) (b : Bool), F.G e → F.smp e = b → ∀ w', Calls Try.prog 33 #[.agg #[.int .i64 (e 0), .int .i64 (e 1), .int .i64 (e 2), .int .i64 (e 3), .int .i64 (e 4), .int .i64 (e 5), .int .i64 (e 6), .int .i64 (e 7), .int .i64 (e 8), .int .i64 (e 9)], .int .i64 t] w' fun e w'' => e = .returned (.bool b) ∧ ∃ x : Later w', w'' = x.out)
    (hH : ∀ e : En, F.G e → F.smp e = false → ∀ w', Calls Try.prog 34 #[.agg #[.int .i64 (e 0), .int .i64 (e 1), .int .i64 (e 2), .int .i64 (e 3), .int .i64 (e 4), .int .i64 (e 5), .int .i64 (e 6), .int .i64 (e 7), .int .i64 (e 8), .int .i64 (e 9)]] w' fun r w'' => r = .returned (.tuple #[.agg #[.int .i64 (F.B e 0), .int .i64 (F.B e 1), .int .i64 (F.B e 2), .int .i64 (F.B e 3), .int .i64 (F.B e 4), .int .i64 (F.B e 5), .int .i64 (F.B e 6), .int .i64 (F.B e 7), .int .i64 (F.B e 8), .int .i64 (F.B e 9)], .agg #[.int .i64 (F.A e 0), .int .i64 (F.A e 1), .int .i64 (F.A e 2), .int .i64 (F.A e 3), .int .i64 (F.A e 4), .int .i64 (F.A e 5), .int .i64 (F.A e 6), .int .i64 (F.A e 7), .int .i64 (F.A e 8), .int .i64 (F.A e 9)]]) ∧ ∃ x : Later w', w'' = x.out)
    (hE : ∀ e : En, F.G e → ∀ w', Calls Try.prog 26 #[.agg #[.int .i64 (e 0), .int .i64 (e 1), .int .i64 (e 2), .int .i64 (e 3), .int .i64 (e 4), .int .i64 (e 5), .int .i64 (e 6), .int .i64 (e 7), .int .i64 (e 8)]] w' fun r w'' => r = .returned (.agg #[.int .i64 (F.en e).1, .int .i64 (F.en e).2]) ∧ ∃ x : Later w', w'' = x.out)
    :
    Calls Try.prog 14 #[.agg #[.int .i64 (e0 0), .int .i64 (e0 1), .int .i64 (e0 2), .int .i64 (e0 3), .int .i64 (e0 4), .int .i64 (e0 5), .int .i64 (e0 6), .int .i64 (e0 7), .int .i64 (e0 8)], .int .i64 t] w (SliceRet w 23 2 all.length (fl all)) := by
  have HS := Lib.hid hS
  have HH := Lib.hid hH
  have HE := Lib.hid hE
  have H9 := Lib.hid h9
  have HA := Lib.hid hall
  clear hS hH hE h9 hall
  go_enter Try.func14, Try.ntmps14
  go_wp2_with (fail)
  refine wp_scope_ghost 0 (fun k a W => ∃ (v0 v2 v3 v7 v8 v9 v10 v11 v12 v13 v14 v15 v16 v17 v18 v19 v20 v21 v22 v23 v24 v25 v26 v27 v28 v29 v30 v31 v32 v33 v34 v35 v36 v37 v38 v39 v40 v41 o : Value) (s : List En) (out : List (Int × Int)), k = wrk s ∧ PInv F w all o s out W ∧ a = ⟨#[v0, .int .i64 t, v2, v3, o, .pointer (some ⟨w.heap.size + 1, 0, none⟩), .int .i64 (s.length : Nat), v7, v8, v9, v10, v11, v12, v13, v14, v15, v16, v17, v18, v19, v20, v21, v22, v23, v24, v25, v26, v27, v28, v29, v30, v31, v32, v33, v34, v35, v36, v37, v38, v39, v40, v41], []⟩) rfl ?pass ?first
  case first =>
    intro hp
    have HP := Lib.hid hp
    clear hp
    go_wp2_with (fail)
    go_step3
    rename_i K hK
    show K _ _
    obtain ⟨C, hC⟩ : ∃ C, ((((((((((Try.zeroCells74.setIfInBounds 0 (.int .i64 (e0 0))).setIfInBounds 1 (.int .i64 (e0 1))).setIfInBounds 2 (.int .i64 (e0 2))).setIfInBounds 3 (.int .i64 (e0 3))).setIfInBounds 4 (.int .i64 (e0 4))).setIfInBounds 5 (.int .i64 (e0 5))).setIfInBounds 6 (.int .i64 (e0 6))).setIfInBounds 7 (.int .i64 (e0 7))).setIfInBounds 8 (.int .i64 (e0 8))).setIfInBounds 9 (.int .i64 0)) = C := ⟨_, rfl⟩
    have hz : Try.zeroCells74.size = 110 := by kernel_rfl
    have hCs : C.size = 110 := by rw [← hC]; simp [hz]
    have hCe : ∀ (j : Nat) (v : Value), (ev e0)[j]? = some v → C[j]? = some v := by
      intro j v hv
      have h9 := H9.out
      rw [← hC]
      simp only [ev, h9] at hv
      rcases j with _ | _ | _ | _ | _ | _ | _ | _ | _ | _ | j <;> simp at hv ⊢ <;> exact hv
    rw [hC, show (Value.int .i64 1) = Value.int .i64 (([e0].length : Nat) : Int) from rfl]
    have nb : Blk ((w.alloc (.cells #[.int .i64 (e0 0), .int .i64 (e0 1), .int .i64 (e0 2), .int .i64 (e0 3), .int .i64 (e0 4), .int .i64 (e0 5), .int .i64 (e0 6), .int .i64 (e0 7), .int .i64 (e0 8)] 26)).alloc (.cells C 74)) (w.heap.size + 1) 74 C := Blk.new' (by simp)
    refine hK _ _ (HP.out _ _ _ ⟨_, _, _, _, _, _, _, _, _, _, _, _, _, _, _, _, _, _, _, _, _, _, _, _, _, _, _, _, _, _, _, _, _, _, _, _, _, _, .slice none 0 0, [e0], [], rfl, ⟨World.ownsRow_nil _ _ _ _, fun j hj => ?_, ⟨fun j v hv => ?_, trivial⟩, ⟨g0, by simp [H9.out], trivial⟩, by simp [Fl.res, HA.out], ?_, by repeat (first | (with_reducible assumption) | (with_reducible exact Below.refl _ _) | (with_reducible refine Later.after ?_ _) | (with_reducible refine Later.newer ?_ _) | (with_reducible refine Below.drew ?_) | (with_reducible refine Below.setCell ?_ (by first | exact Nat.le_refl _ | exact Nat.le_add_right _ _ | omega | (simp [go_sem]; done) | (simp [go_sem]; omega)) _)), by simp⟩, rfl⟩)
    · refine ⟨?_, nb.frozen _⟩
      rw [nb.cell, Nat.zero_add, Array.getElem?_eq_getElem (by omega)]
      rfl
    · rw [nb.cell]
      simpa using hCe j v hv
    · have : lft e0 = 10 := by unfold lft; rw [H9.out]; rfl
      simp only [mst, List.map_cons, List.map_nil, this]
      decide
  case pass =>
    rintro k a W ⟨v0, v2, v3, v7, v8, v9, v10, v11, v12, v13, v14, v15, v16, v17, v18, v19, v20, v21, v22, v23, v24, v25, v26, v27, v28, v29, v30, v31, v32, v33, v34, v35, v36, v37, v38, v39, v40, v41, o, s, out, rfl, hI, rfl⟩
    rcases s with _ | ⟨e, r⟩
    · simp only [List.length_nil]
      have HI := Lib.hid hI
      clear hI
      go_wp2_with (fail)
      have hr := HI.out.res
      simp only [Fl.res, List.flatMap_nil, List.append_nil] at hr
      subst hr
      exact bodyPost_ret (v := o) (by simp [results, Try.results14, go_sem]) rfl ⟨o, rfl, own_base HI.out.own (by omega), Later.mk_of HI.out.below⟩
    · obtain ⟨M, hMr⟩ : ∃ M, M = r.length + 1 := ⟨_, rfl⟩
      have em : (((e :: r).length : Nat) : Int) = (M : Int) := by simp [hMr]
      have eM1 : IntKind.i64.wrap ((M : Int) - 1) = (r.length : Int) := by rw [IntWalk.i64_in _ (by have := F.len hI.ok; omega)]; omega
      have eM2 : wrap64 ((M : Int) - 1) = (r.length : Int) := by have := F.len hI.ok; unfold wrap64; omega
      have eM3 : (M : Int) - 1 = (r.length : Int) := by omega
      have eM4 : wrap64 ((r.length : Int) + 1) = (M : Int) := by have := F.len hI.ok; unfold wrap64; omega
      have eM5 : (r.length : Int) + 1 = (M : Int) := by omega
      have M0 : (0 : Int) ≤ M := by omega
      have M9 : (M : Int) ≤ 11 := by have := F.len hI.ok; omega
      have hl := F.len hI.ok
      have g := hI.ok.1
      have hl9 : F.smp e = false → r.length ≤ 9 ∧ (M : Int) ≤ 10 := fun h => by have := (F.split hI.ok h).2.2.2.2; omega
      have st := hI.stk.1
      have m0 : (0 : Int) ≤ r.length := by omega
      have m9 : (r.length : Int) ≤ 10 := by omega
      have lB : w.heap.size + 1 < W.heap.size := by have := hI.size; omega
      have mz : ((M : Int) == 0) = false := by simp; omega
      have f0 : W.cell? ⟨w.heap.size + 1, r.length * 10, none⟩ = some (.int .i64 (e 0)) := by have := st 0 _ rfl; simpa using this
      have f1 : W.cell? ⟨w.heap.size + 1, r.length * 10 + 1, none⟩ = some (.int .i64 (e 1)) := by have := st 1 _ rfl; simpa using this
      have f2 : W.cell? ⟨w.heap.size + 1, r.length * 10 + 2, none⟩ = some (.int .i64 (e 2)) := by have := st 2 _ rfl; simpa using this
      have f3 : W.cell? ⟨w.heap.size + 1, r.length * 10 + 3, none⟩ = some (.int .i64 (e 3)) := by have := st 3 _ rfl; simpa using this
      have f4 : W.cell? ⟨w.heap.size + 1, r.length * 10 + 4, none⟩ = some (.int .i64 (e 4)) := by have := st 4 _ rfl; simpa using this
      have f5 : W.cell? ⟨w.heap.size + 1, r.length * 10 + 5, none⟩ = some (.int .i64 (e 5)) := by have := st 5 _ rfl; simpa using this
      have f6 : W.cell? ⟨w.heap.size + 1, r.length * 10 + 6, none⟩ = some (.int .i64 (e 6)) := by have := st 6 _ rfl; simpa using this
      have f7 : W.cell? ⟨w.heap.size + 1, r.length * 10 + 7, none⟩ = some (.int .i64 (e 7)) := by have := st 7 _ rfl; simpa using this
      have f8 : W.cell? ⟨w.heap.size + 1, r.length * 10 + 8, none⟩ = some (.int .i64 (e 8)) := by have := st 8 _ rfl; simpa using this
      have f9 : W.cell? ⟨w.heap.size + 1, r.length * 10 + 9, none⟩ = some (.int .i64 (e 9)) := by have := st 9 _ rfl; simpa using this
      rw [em]
      have HI := Lib.hid hI
      have HMr := Lib.hid hMr
      clear hI em st hMr
      generalize hm : r.length = m at *
      have HM := Lib.hid hm
      clear hm
      cases hs : F.smp e
      · obtain ⟨hl, hM10⟩ := hl9 hs
        clear hl9
        have cS := HS.out e false g hs
        have cH := HH.out e g hs
        have HcS := Lib.hid cS
        have HcH := Lib.hid cH
        clear cS cH
        have Hs := Lib.hid hs
        clear hs
        have hsz := HI.out.size
        have hth := HI.out.there
        have nB := fun x hx => setCells_grown (w.heap.size + 1) x hx
        go_wp2_with (first | (go_at_call 33; (with_reducible refine (HcS.out _).mono ?_); rintro _ _ ⟨rfl, x1, rfl⟩; have lB1 := Nat.lt_of_lt_of_le lB x1.size_le) | (go_at_call 34; (with_reducible refine (HcH.out _).mono ?_); rintro _ _ ⟨rfl, x2, rfl⟩) | (refine wpList_store_mid rfl 73 (.tmp 38) (.tmp 36) rfl (w.heap.size + 1) (m * 10) #[.int .i64 (F.B e 0), .int .i64 (F.B e 1), .int .i64 (F.B e 2), .int .i64 (F.B e 3), .int .i64 (F.B e 4), .int .i64 (F.B e 5), .int .i64 (F.B e 6), .int .i64 (F.B e 7), .int .i64 (F.B e 8), .int .i64 (F.B e 9)] ?hx ?hy ?ha ?hb ?hc ?hd; (case hx => rfl); (case hy => rfl); (case ha => exact there_sub (there_heap hth ((x2.below.block (w.heap.size + 1) lB1).trans (x1.below.block (w.heap.size + 1) lB))) (m * 10) 10 (by omega)); (case hb => kernel_rfl); (case hc => kernel_rfl); refine Hid.out ?_))
        refine Lib.hid ?_
        generalize hW4 : World.setCells _ _ _ _ = W4
        have hth4 : W4.there (w.heap.size + 1) (M * 10) 10 := by rw [← hW4]; exact there_sub (World.there_setCells (there_heap hth ((x2.below.block (w.heap.size + 1) lB1).trans (x1.below.block (w.heap.size + 1) lB))) _ _ _) (M * 10) 10 (by omega)
        have HW4 := Lib.hid hW4
        clear hW4
        refine Go.Great.wpList_readTo rfl (some 39) rfl (.pointer (some ⟨w.heap.size + 1, M * 10, none⟩)) ?hrun ?hnext
        case hrun =>
          have hlt : (M : Int) < 11 := by omega
          go_simp
        simp only [Act.put, List.setIfInBounds_toArray, List.set_cons_zero, List.set_cons_succ]
        refine wpList_store_mid rfl 73 (.tmp 39) (.tmp 37) rfl (w.heap.size + 1) (M * 10) #[.int .i64 (F.A e 0), .int .i64 (F.A e 1), .int .i64 (F.A e 2), .int .i64 (F.A e 3), .int .i64 (F.A e 4), .int .i64 (F.A e 5), .int .i64 (F.A e 6), .int .i64 (F.A e 7), .int .i64 (F.A e 8), .int .i64 (F.A e 9)] rfl rfl hth4 (by kernel_rfl) (by kernel_rfl) ?_
        simp only [put_none]
        generalize hW5 : World.setCells _ _ _ _ = W5
        have HW5 := Lib.hid hW5
        clear hW5
        go_wp2_with (fail)
        have hm := HM.out
        have hM := HMr.out
        have hs := Hs.out
        subst hm
        obtain ⟨k1, k2, k3, k4, _⟩ := F.split HI.out.ok hs
        have g4 : x2.out.grownBy W4 (some (w.heap.size + 1)) := by rw [← HW4.out]; exact setCells_grown _ _ _ _
        have g5 : W4.grownBy W5 (some (w.heap.size + 1)) := by rw [← HW5.out]; exact setCells_grown _ _ _ _
        have hne : o.ownBlock = none ∨ o.ownBlock ≠ some (w.heap.size + 1) := .inr (fun h => by have := (HI.out.own.lt _ h).1; omega)
        have hB := ((x2.below.block (w.heap.size + 1) lB1).trans (x1.below.block (w.heap.size + 1) lB))
        have hA : ((r.length : Int) + 2) = (((F.A e :: F.B e :: r).length : Nat) : Int) := by simp only [List.length_cons]; omega
        have hb2 : Below w.heap.size w x2.out := (HI.out.below.trans (x1.below.mono HI.out.below.size)).trans (x2.below.mono (Nat.le_trans HI.out.below.size x1.below.size))
        have hb4 := Below.grown hb2 g4 hb2.size (fun j hj => by cases hj; omega)
        have hb5 := Below.grown hb4 g5 hb4.size (fun j hj => by cases hj; omega)
        rw [hA]
        go_step3
        refine ⟨rfl, _, k3, _, _, _, _, _, _, _, _, _, _, _, _, _, _, _, _, _, _, _, _, _, _, _, _, _, _, _, _, _, _, _, _, _, _, _, _, _, _, o, _, out, rfl, ⟨((own_later (own_later HI.out.own x1) x2).kept g4 hne).kept g5 hne, ?_, ⟨?_, ?_, ?_⟩, k1, by rw [k2]; exact HI.out.res, by rw [k4]; exact HI.out.most, hb5, by have := g4.size; have := g5.size; have := x1.size_le; have := x2.size_le; have := HI.out.size; omega⟩, rfl⟩
        · rw [← HW5.out, ← HW4.out]; exact World.there_setCells (World.there_setCells (there_heap HI.out.there hB) _ _ _) _ _ _
        · have := World.rangeAt_setCells_same W4 (w.heap.size + 1) (M * 10) (ev (F.A e)) hth4
          rw [show (F.B e :: r).length = M by simp [hM]]
          rw [← HW5.out]; exact this
        · have := World.rangeAt_setCells_same x2.out (w.heap.size + 1) (r.length * 10) (ev (F.B e)) (there_sub (there_heap HI.out.there hB) _ _ (by simp [ev]; omega))
          rw [← HW5.out, ← HW4.out]; exact World.rangeAt_setCells_apart this _ _ _ (.inr (.inl (by simp [ev]; omega)))
        · rw [← HW5.out, ← HW4.out]; exact Stk.apart (Stk.apart (Stk.heap hB HI.out.stk.2) (Nat.le_refl _)) (by omega)
      · have cS := HS.out e true g hs
        have cE := HE.out e g
        have HcS := Lib.hid cS
        have HcE := Lib.hid cE
        clear cS cE
        have Hs := Lib.hid hs
        clear hs
        obtain ⟨i0, hi0, hz0, hz1, hz2⟩ := infoPt
        have hmo := HI.out.most
        have hsz := HI.out.size
        go_wp2_with (first | (go_at_call 33; (with_reducible refine (HcS.out _).mono ?_); rintro _ _ ⟨rfl, x1, rfl⟩; have lB1 := Nat.lt_of_lt_of_le lB x1.size_le) | (go_at_call 26; (with_reducible refine (HcE.out _).mono ?_); rintro _ _ ⟨rfl, x2, rfl⟩) | (at_builtin; refine wpList_append_own _ rfl _ _ 30 rfl (w.heap.size + 2) 23 i0 (.agg #[.int .i64 0, .int .i64 0]) 2 16 Try.underlying30 hi0 hz0 hz1 hz2 rfl (by decide) _ _ _ rfl ((own_later (own_later HI.out.own x1) x2).alloc _) ⟨x2.out.heap.size, 0, none⟩ 1 1 [.int .i64 (F.en e).1, .int .i64 (F.en e).2] rfl rfl (two_new _ _ _ _) (fun x hx => by simp at hx; rcases hx with rfl | rfl <;> rfl) (by unfold maxLen; omega) (by omega) (by have := x1.size_le; have := x2.size_le; simp; omega) ?_; intro v' w3 hown hgrow hnil; have HO := Lib.hid hown; have HG := Lib.hid hgrow; clear hown hgrow hnil))
        have hm := HM.out
        have hs := Hs.out
        subst hm
        obtain ⟨k1, k2, k3, k4⟩ := F.pop HI.out.ok hs
        have hne : some (w.heap.size + 1) ≠ o.ownBlock := fun h => by have := (HI.out.own.lt _ h.symm).1; omega
        have hB0 := ((x2.below.block (w.heap.size + 1) lB1).trans (x1.below.block (w.heap.size + 1) lB))
        have l2 := Nat.lt_of_lt_of_le lB1 x2.size_le
        have hB : w3.heap[w.heap.size + 1]? = W.heap[w.heap.size + 1]? := (HG.out.block _ (by simp; omega) hne).trans ((Below.heap_alloc x2.out _ _ l2).trans hB0)
        have hb2 : Below w.heap.size w x2.out := (HI.out.below.trans (x1.below.mono HI.out.below.size)).trans (x2.below.mono (Nat.le_trans HI.out.below.size x1.below.size))
        have hb3 := Below.grown (hb2.alloc hb2.size _) HG.out (by simp; have := hb2.size; omega) (fun j hj => by have := (HI.out.own.lt _ hj).1; omega)
        have hsz3 := HG.out.size
        have own3 := HO.out
        rw [← fl_snoc] at own3
        go_step3
        refine ⟨rfl, _, k3, _, _, _, _, _, _, _, _, _, _, _, _, _, _, _, _, _, _, _, _, _, _, _, _, _, _, _, _, _, _, _, _, _, _, _, _, _, _, v', r, out ++ [F.en e], rfl, ⟨by simpa using own3, there_heap HI.out.there hB, Stk.heap hB HI.out.stk.2, k1, ?_, by simp; omega, hb3, by simp at hsz3; omega⟩, rfl⟩
        have := HI.out.res
        rw [k2] at this
        simpa using this
end Go.Proofs.Ytcdnekhpeghkiaa

/-
  What taking a verb rests on: a copy of things of more than one cell; what a slice's rest is; the last subpath's cells.
-/
import Derived.Test.YtcdnekhpeghkiaaQD
import Derived.Test.YtcdnekhpeghkiaaP6
import Derived.Laws.CopyRow
namespace Go.Proofs.Ytcdnekhpeghkiaa
set_option linter.unusedVariables false
open Go.RowKit

section
variable {P : Program}
theorem run_copy_wide (w : World) (dT sT ty elem : TypeId) (g o dLen dCap : Nat) (a : Addr) (sLen sCap : Nat) (cur : Array Value) (t : TypeId) (cs : List Value) (sz m : Nat)
    (hu : P.underlying dT = some (.slice elem)) (hs : (P.info? elem).map (·.size) = some sz)
    (hg : w.heap[g]? = some (.cells cur t (0, 0))) (hm : m = Nat.min sLen dLen) (hn : cs.length = m * sz)
    (hsrc : ∀ j v, cs[j]? = some v → w.cell? (a.add j) = some v) (hfit : o + cs.length ≤ cur.size) (h1 : ∀ v ∈ cs, v.oneCell' = true) :
    (Builtin.copy_ #[dT, sT] ty #[.slice (some ⟨g, o, none⟩) dLen dCap, .slice (some a) sLen sCap]).run P w =
      .ok (goInt m) (w.setRow g (cur.toList.take o ++ cs ++ cur.toList.drop (o + cs.length)).toArray) := by
  have hl := run_loadCells_list (P := P) w a cs hsrc
  have hst := run_storeCells_at P g o t cs 0 cur w hg (by simpa using hfit) h1
  cases hq : P.info? elem with
  | none => simp [hq] at hs
  | some i =>
    have hi : i.size = sz := by simpa [hq] using hs
    simp [Builtin.copy_, run_underlying hu, Builtin.lenOf, Builtin.firstCells, sizeOf, typeInfo, hq, hi, ← hm, ← hn, hl, hst]
theorem wpListIn_copy {F : Fence} {k : Nat} (w : World) {ops : Array Oper} {rest : List Oper} {o : Oper} {a : Act} {Q : Exit → Act → World → Prop} (hgd : o.guard = none) (d s : Operand) (dT sT : TypeId)
    (ho : o.op = .call { callee := .builtin .copy, args := #[d, s], argTypes := #[dT, sT] }) (elem : TypeId) (sz m : Nat) (hu : P.underlying dT = some (.slice elem)) (hsz : (P.info? elem).map (·.size) = some sz)
    (g off dLen dCap : Nat) (ad : Addr) (sLen sCap : Nat) (hd : a.eval d = .slice (some ⟨g, off, none⟩) dLen dCap) (hs : a.eval s = .slice (some ad) sLen sCap)
    (cur : List Value) (t : TypeId) (hg : Blk w g t cur.toArray) (cs : List Value) (hm : m = Nat.min sLen dLen) (hn : cs.length = m * sz)
    (hsrc : ∀ j v, cs[j]? = some v → w.cell? (ad.add j) = some v) (hfit : off + cs.length ≤ cur.length) (h1 : ∀ v ∈ cs, v.oneCell' = true)
    (h : ∀ w', Blk w' g t (cur.take off ++ cs ++ cur.drop (off + cs.length)).toArray → w.grownBy w' (some g) → wpListIn F k P ops Q rest (a.put o.dst (goInt m)) w') : wpListIn F k P ops Q (o :: rest) a w :=
  wpListIn_plain hgd fun K hK => by
    have hrun := run_copy_wide (P := P) w dT sT o.type elem g off dLen dCap ad sLen sCap cur.toArray t cs sz m hu hsz hg hm hn hsrc (by simpa using hfit) h1
    unfold Oper.wpIn
    refine ⟨?_, ?_⟩
    · simp [Oper.about, ho, resolve, Target.leads, Sem.run_pure]
    · rw [Oper.semAt_plain F _ _ (by rw [ho]; intro c hc'; cases hc')]
      simp [execOp, ho, resolve, invoke, builtin, hd, hs, hrun, Result.andThen]
      refine hK _ _ (h _ ?_ ?_)
      · unfold Blk; simpa using setRow_heap w g _ _ t _ hg
      · exact ⟨rfl, rfl, rfl, by simp [World.setRow], fun k _ hk => setRow_other w g k _ (fun e => hk (by simp [e]))⟩
theorem step_append_at {ops : Array Oper} {o : Oper} {a : Act} {w : World} {K : Act → World → Prop} {Q : Exit → Act → World → Prop} {E : Prop} (hgd : o.guard = none) (s x : Operand) (t : TypeId)
    (ho : o.op = .call { callee := .builtin .append, args := #[s, x], argTypes := #[t, t] })
    (base : Nat) (e : TypeId) (i : TypeInfo) (z : Value) (size bytes : Nat) (ht : P.underlying t = some (.slice e)) (hi : P.info? e = some i) (hz : i.zero = some z)
    (hsize : i.size = size) (hby : i.bytes = bytes) (hzs : z.cells.size = size) (hsz : 0 < size)
    (v : Value) (n : Nat) (xs : List Value) (hs : a.eval s = v) (hown : w.ownsRow base e size v n xs)
    (ad : Addr) (m c : Nat) (news : List Value) (hx : a.eval x = .slice (some ad) m c) (hl : news.length = m * size) (hnews : ∀ j u, news[j]? = some u → w.cell? (ad.add j) = some u) (h1 : ∀ u ∈ news, u.oneCell' = true)
    (h63 : n + m ≤ maxLen) (hbytes : (n + m) * bytes ≤ 140737488355328) (hbase : base ≤ w.heap.size)
    (h : ∀ v' w', w'.ownsRow base e size v' (n + m) (xs ++ news) → w.grownBy w' v.ownBlock → (v'.ownBlock = v.ownBlock ∨ v'.ownBlock = some w.heap.size) → K (a.put o.dst v') w') :
    if Region.wanted o (yielded ops a.tmps) = true then Oper.wp P o a w K Q else E := by
  have hw : Region.wanted o (yielded ops a.tmps) = true := by simp [Region.wanted, hgd]
  rw [if_pos hw]
  obtain ⟨v', w', hr, h2, h3, _, h5⟩ := run_append_own_at (P := P) w base t o.type e i z size bytes ht hi hz hsize hby hzs hsz v n xs hown ad m c news hl hnews h1 h63 hbytes hbase
  unfold Oper.wp execOp
  simp only [ho, resolve, invoke, builtin, Sem.run_bind, Sem.run_pure, Result.andThen_ok, List.map_toArray, List.map_cons, List.map_nil, hs, hx, hr]
  exact h v' w' h2 h3 h5
theorem step_copy_wide {ops : Array Oper} {o : Oper} {a : Act} {w : World} {K : Act → World → Prop} {Q : Exit → Act → World → Prop} {E : Prop} (hgd : o.guard = none) (d s : Operand) (dT sT : TypeId)
    (ho : o.op = .call { callee := .builtin .copy, args := #[d, s], argTypes := #[dT, sT] }) (elem : TypeId) (sz m : Nat) (hu : P.underlying dT = some (.slice elem)) (hsz : (P.info? elem).map (·.size) = some sz)
    (g off dLen dCap : Nat) (ad : Addr) (sLen sCap : Nat) (hd : a.eval d = .slice (some ⟨g, off, none⟩) dLen dCap) (hs : a.eval s = .slice (some ad) sLen sCap)
    (cur : List Value) (t : TypeId) (hg : Blk w g t cur.toArray) (cs : List Value) (hm : m = Nat.min sLen dLen) (hn : cs.length = m * sz)
    (hsrc : ∀ j v, cs[j]? = some v → w.cell? (ad.add j) = some v) (hfit : off + cs.length ≤ cur.length) (h1 : ∀ v ∈ cs, v.oneCell' = true)
    (h : ∀ w', Blk w' g t (cur.take off ++ cs ++ cur.drop (off + cs.length)).toArray → w.grownBy w' (some g) → K (a.put o.dst (goInt m)) w') :
    if Region.wanted o (yielded ops a.tmps) = true then Oper.wp P o a w K Q else E := by
  have hw : Region.wanted o (yielded ops a.tmps) = true := by simp [Region.wanted, hgd]
  rw [if_pos hw]
  have hrun := run_copy_wide (P := P) w dT sT o.type elem g off dLen dCap ad sLen sCap cur.toArray t cs sz m hu hsz hg hm hn hsrc (by simpa using hfit) h1
  unfold Oper.wp
  simp [execOp, ho, resolve, invoke, builtin, hd, hs, hrun, Result.andThen]
  refine h _ ?_ ?_
  · unfold Blk; simpa using setRow_heap w g _ _ t _ hg
  · exact ⟨rfl, rfl, rfl, by simp [World.setRow], fun k _ hk => setRow_other w g k _ (fun e => hk (by simp [e]))⟩
end
theorem nb {α : Type} {P : Program} {w w' : World} {f : FuncId} {args : Array Value} (s : Sem α) (k : α → Sem Next) (hk : ∀ u w1, (k u).run P w1 ≠ .ok (.enter f args) w') : (s >>= k).run P w ≠ .ok (.enter f args) w' := by
  intro e
  rw [Sem.run_bind] at e
  cases hr : s.run P w with
  | ok u w1 => rw [hr] at e; exact hk u w1 (by simpa [Result.andThen] using e)
  | halt x w1 => rw [hr] at e; simp [Result.andThen] at e
theorem np {P : Program} {w w' : World} {f : FuncId} {args : Array Value} (x : Value) : (pure (Next.value x) : Sem Next).run P w ≠ .ok (.enter f args) w' := by
  intro e; rw [Sem.run_pure] at e; cases e
theorem noEnter_nil {P : Program} {o : Oper} {x : Operand} (ho : o.op = .nilCheck x) : NoEnter P o := by
  unfold NoEnter
  intro a w f args w' e
  unfold execOp at e
  rw [ho] at e
  dsimp only at e
  have hp : ∀ w1, (runtimePanic .nilDeref : Sem Next).run P w1 ≠ .ok (.enter f args) w' := fun w1 e => by
    simp [runtimePanic, goPanic, go_sem] at e
  split at e
  · exact hp _ e
  · exact hp _ e
  · exact hp _ e
  · split at e
    · exact hp _ e
    · refine nb _ _ (fun u w1 => nb _ _ (fun u w1 => ?_)) e
      split
      · exact nb _ _ (fun u w1 => np _)
      · exact np _
    · exact np _ e
  · exact np _ e
def callOkN (P : Program) (o : Oper) : Bool :=
  match o.op with
  | .nilCheck _ => true
  | _ => callOk P o
theorem noInitOp_ofN {P : Program} {o : Oper} (h : callOkN P o = true) : NoInitOp P o := by
  unfold callOkN at h
  split at h
  · rename_i x ho; exact (noEnter_nil ho).init
  · exact noInitOp_of h
theorem noInit_ofN {P : Program} {l : List Oper} (h : l.all (callOkN P) = true) : NoInit P l := by
  induction l with
  | nil => trivial
  | cons o l ih =>
    simp only [List.all_cons, Bool.and_eq_true] at h
    exact ⟨noInitOp_ofN h.1, ih h.2⟩
theorem blk_at {W : World} {g : Nat} {T : TypeId} {c : List Value} (h : Blk W g T c.toArray) : ∀ j x, c[j]? = some x → W.cell? ((⟨g, 0, none⟩ : Addr).add j) = some x := by
  intro j x hx
  rw [Addr.add_mid, Nat.zero_add, h.cell]
  simpa using hx
theorem ptsAt_drop {W : World} {b o m k c : Nat} {ps r : List (Int × Int)} (h : PtsAt W (.slice (some ⟨b, o, none⟩) (m + k) c) (ps ++ r)) (hk : ps.length = k) (hm : r.length = m) (hb : b < W.heap.size) (hc : m + k ≤ c) :
    PtsAt W (.slice (if c = k then (some ⟨b, o, none⟩ : Option Addr) else some ⟨b, o + k * 2, none⟩) m (c - k)) r := by
  by_cases e : m = 0
  · subst e
    obtain rfl : r = [] := List.eq_nil_of_length_eq_zero hm
    by_cases e : c = k
    · rw [if_pos e]; exact .inr (.inl ⟨_, _, rfl, rfl⟩)
    · rw [if_neg e]; exact .inr (.inl ⟨_, _, rfl, rfl⟩)
  · rw [if_neg (by omega)]
    rcases h with ⟨h, _⟩ | ⟨a, c', h, h'⟩ | ⟨b', o', c', h, h2, h3, h4, h5⟩
    · cases h
    · simp only [Value.slice.injEq] at h; omega
    · simp only [Value.slice.injEq, Option.some.injEq, Addr.mk.injEq] at h
      obtain ⟨⟨rfl, rfl, _⟩, _, rfl⟩ := h
      refine .inr (.inr ⟨b, o + k * 2, c - k, by rw [hm], h2, by omega, by omega, fun i p hp => ?_⟩)
      have h6 := h5 (k + i) p (by rw [List.getElem?_append_right (by omega), hk]; simpa using hp)
      rw [show o + k * 2 + i * 2 = o + (k + i) * 2 by omega]
      exact h6
theorem ptsAt_first {W : World} {v : Value} {p : Int × Int} {l : List (Int × Int)} (h : PtsAt W v (p :: l)) : ∃ b o c, v = .slice (some ⟨b, o, none⟩) (l.length + 1) c ∧ b < W.heap.size ∧ l.length + 1 ≤ c ∧ c ≤ maxLen ∧
    ∀ (i : Nat) (q : Int × Int), (p :: l)[i]? = some q → W.cell? ⟨b, o + i * 2, none⟩ = some (.int .i64 q.1) ∧ W.cell? ⟨b, o + i * 2 + 1, none⟩ = some (.int .i64 q.2) := by
  rcases h with ⟨_, h⟩ | ⟨_, _, _, h⟩ | ⟨b, o, c, rfl, h2, h3, h4, h5⟩
  · cases h
  · cases h
  · exact ⟨b, o, c, rfl, h2, h3, h4, h5⟩
theorem grown_set (W : World) (b i : Nat) (v : Value) : W.grownBy (W.setCell ⟨b, i, none⟩ v) (some b) :=
  ⟨rfl, rfl, rfl, by simp, fun k _ hk => Below.heap_setCell W ⟨b, i, none⟩ v k (fun e => hk (by rw [e]))⟩
/-- a store elsewhere -/
theorem Subs.other {W : World} {B b i : Nat} {sv v : Value} {l : List (SubP × Value)} (h : Subs W B sv l) (hb : b < B) : Subs (W.setCell ⟨b, i, none⟩ v) B sv l :=
  h.kept (row := some b) (grown_set W b i v) (fun r hr => by cases hr; exact hb)
theorem Subs.alloc {W : World} {B : Nat} {sv : Value} {l : List (SubP × Value)} (h : Subs W B sv l) (o : Obj) : Subs (W.alloc o) B sv l where
  own := h.own.alloc o
  rows := fun p hp => (h.rows p hp).alloc o
  apart := h.apart
theorem Subs.drew {W : World} {B : Nat} {sv : Value} {l : List (SubP × Value)} (h : Subs W B sv l) : Subs W.drew B sv l := ⟨h.own, h.rows, h.apart⟩
theorem Subs.lastAt {W : World} {B : Nat} {sv : Value} {l : List (SubP × Value)} {s : SubP} {v : Value} (h : Subs W B sv (l ++ [(s, v)])) :
    ∃ g c, sv = .slice (some ⟨g, 0, none⟩) (l.length + 1) c ∧ B ≤ g ∧ g < W.heap.size ∧ (∀ j, j < 4 → W.cell? ⟨g, l.length * 4 + j, none⟩ = (subV s v)[j]?) ∧ ∀ j, W.frozen? ⟨g, j, none⟩ = false := by
  have ho := h.own
  have hl : (l ++ [(s, v)]).length = l.length + 1 := by simp
  rw [hl] at ho
  obtain ⟨g, c, rfl⟩ := Go.Joins.ownsRow_form ho (by omega)
  have k := ho.lt g rfl
  refine ⟨g, c, rfl, k.1, k.2, fun j hj => ?_, fun j => ho.frozenAt j⟩
  rw [ho.cellAt (l.length * 4 + j) (by omega), subsV_app, List.getElem?_append_right (by rw [subsV_len]; omega), subsV_len]
  simp [subsV]
theorem Subs.lastCells {W : World} {B g m c : Nat} {l : List (SubP × Value)} {s : SubP} {v : Value} (h : Subs W B (.slice (some ⟨g, 0, none⟩) m c) (l ++ [(s, v)])) :
    (∀ j, j < 4 → W.cell? ⟨g, l.length * 4 + j, none⟩ = (subV s v)[j]?) ∧ (∀ j, W.frozen? ⟨g, j, none⟩ = false) ∧ B ≤ g ∧ g < W.heap.size := by
  obtain ⟨g', c', e, h1, h2, h3, h4⟩ := h.lastAt
  simp only [Value.slice.injEq, Option.some.injEq, Addr.mk.injEq] at e
  obtain ⟨⟨rfl, _, _⟩, _, _⟩ := e
  exact ⟨h3, h4, h1, h2⟩
theorem Subs.rowNe {W : World} {B g m c : Nat} {l : List (SubP × Value)} {s : SubP} {v : Value} (h : Subs W B (.slice (some ⟨g, 0, none⟩) m c) (l ++ [(s, v)])) : some g ≠ v.ownBlock := by
  rcases rows_apart (h.rows (s, v) (by simp)) h.own subs_ne with e | e
  · rw [e]; simp
  · exact fun k => e k.symm
end Go.Proofs.Ytcdnekhpeghkiaa

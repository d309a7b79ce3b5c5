/-
  A region that draws its order, in a fence that lets everything in: reads, reckonings and calls that keep what lay before; one operation, of any kind, that makes a new block; and a tail whose order is forced.
-/
import Derived.Test.YtcdnekhpeghkiaaKC
namespace Go.Proofs.Ytcdnekhpeghkiaa
set_option linter.unusedVariables false
open Go.RowKit

section
variable {P : Program} {ops : Array Oper} {C : World → Prop} {ro : Option Nat} {n m : Nat} {V : Nat → Value} {z : Obj}

/-- operation number m makes a block: it yields V of the block's number -/
def MkCond (P : Program) (ops : Array Oper) (m : Nat) (V : Nat → Value) (z : Obj) (a : Act) : Prop :=
  ∀ o, ops[m]? = some o → Region.wanted o (yielded ops a.tmps) = true ∧ ∀ wc : World, (execOp a.eval o).run P wc = .ok (.value (V wc.heap.size)) (wc.alloc z)

def wpAnyX (P : Program) (ops : Array Oper) (C : World → Prop) (m : Nat) (V : Nat → Value) (z : Obj) (hs : List Nat) (L : Nat → Array Bool → Act → Prop) : Nat → Option Nat → Array Bool → Act → Prop
  | 0, some g, listed, a => L g listed a
  | 0, none, _, _ => False
  | f + 1, s, listed, a => Region.ready .any ops listed ≠ [] ∧ ∀ i ∈ Region.ready .any ops listed,
      (i = m → MkCond P ops m V z a ∧ ∀ g, wpAnyX P ops C m V z hs L f (some g) (listed.setIfInBounds m true) (a.put (dstOf ops m) (V g))) ∧
      (i ≠ m → i ∈ hs ∧ qOp P ops C i (wpAnyX P ops C m V z hs L f s (listed.setIfInBounds i true)) a)

theorem wpAnyX_first {hs : List Nat} {t0 : Nat} {r : List Nat} {i : Nat} {oi : Oper} {v : Value} {L : Nat → Array Bool → Act → Prop} (hi : ops[i]? = some oi) (hsel : ∀ (j : Nat) (o : Oper) cs b, ops[j]? = some o → o.op ≠ .select cs b)
    (hsk : sinkL ops t0 (hs ++ [m]) = true) (hch : chainL ops (t0 :: r) = true) (hcov : ∀ j, j < ops.size → j ∈ hs ++ [m] ∨ j ∈ t0 :: r) (hdis : ∀ t ∈ t0 :: r, t ∉ hs ++ [m]) (hin : i ∈ hs) (him : i ≠ m)
    (hdone : ∀ g listed a, L g listed a → ∀ j ∈ Region.ready .any ops listed, j ∉ hs ++ [m]) :
    ∀ (f : Nat) (s : Option Nat) (listed : Array Bool) (a : Act), Open ops (t0 :: r) listed →
      (∀ j oj, ops[j]? = some oj → j ≠ i → listed.getD j true = false → (∀ e ∈ oj.after, Region.binds .any e = true → e.on ≠ i) → oi.apart ops oj = true) →
      i ∈ Region.ready .any ops listed → YieldsIn P ops C oi v a →
      wpAnyX P ops C m V z hs L f s (listed.setIfInBounds i true) (a.put oi.dst v) → wpAnyX P ops C m V z hs L (f + 1) s listed a := by
  have inH : ∀ {listed : Array Bool}, Open ops (t0 :: r) listed → i ∈ Region.ready .any ops listed → ∀ j ∈ Region.ready .any ops listed, j ∈ hs ++ [m] := fun {listed} inv hr j hj => by
    obtain ⟨_, oj, hoj, _⟩ := mem_ready.1 hj
    rcases hcov j (Array.getElem?_eq_some_iff.1 hoj).1 with h | h
    · exact h
    · exact absurd hj (pick_waits hsk hch inv (List.mem_append_left _ hin) (getD_both (mem_ready.1 hr).1) j h)
  intro f
  induction f with
  | zero =>
    intro s listed a inv _ hr hy H
    refine ⟨fun h => (by rw [h] at hr; cases hr), fun j hj => ?_⟩
    have hjH := inH inv hr j hj
    have no : j ≠ i → False := fun hji => by
      cases s with
      | none => exact H
      | some g => exact hdone g _ _ H j (ready_mono hj hji) hjH
    refine ⟨fun hjm => (no (fun e => him (e.symm.trans hjm))).elim, fun hjm => ?_⟩
    by_cases hji : j = i
    · subst hji; exact ⟨hin, hy.qOp hi H⟩
    · exact (no hji).elim
  | succ f ih =>
    intro s listed a inv hfree hr hy H
    have hun := (mem_ready.1 hr).1
    refine ⟨fun h => (by rw [h] at hr; cases hr), fun j hj => ?_⟩
    have hjH := inH inv hr j hj
    by_cases hji : j = i
    · subst hji; exact ⟨fun e => absurd e him, fun _ => ⟨hin, hy.qOp hi H⟩⟩
    · have h1 := H.2 j (ready_mono hj hji)
      obtain ⟨hjun, oj, hoj, hall⟩ := mem_ready.1 hj
      have hnot : ∀ e ∈ oj.after, Region.binds .any e = true → e.on ≠ i := fun e he hb heq => by
        have h1 := hall e he hb
        rw [heq, getD_both hun] at h1
        cases h1
      have hap := hfree j oj hoj hji hjun hnot
      have hfree' : ∀ k ok, ops[k]? = some ok → k ≠ i → (listed.setIfInBounds j true).getD k true = false →
          (∀ e ∈ ok.after, Region.binds .any e = true → e.on ≠ i) → oi.apart ops ok = true := fun k ok hk hki hun hno => by
        refine hfree k ok hk hki ?_ hno
        by_cases hjk : j = k
        · subst hjk; exact hjun
        · rw [getD_set_ne true hjk] at hun; exact hun
      have hinv := inv.set hj (fun h => hdis j h hjH)
      have hcomm : (listed.setIfInBounds i true).setIfInBounds j true = (listed.setIfInBounds j true).setIfInBounds i true := Array.setIfInBounds_comm _ _ (Ne.symm hji)
      refine ⟨fun hjm => ?_, fun hjm => ?_⟩
      · subst hjm
        obtain ⟨k1, k2⟩ := h1.1 rfl
        obtain ⟨a1, a2, a3⟩ := Oper.apart_spec hap
        have ed : dstOf ops j = oj.dst := by simp [dstOf, hoj]
        refine ⟨fun o ho => ?_, fun g => ?_⟩
        · obtain rfl : o = oj := Option.some.inj (ho.symm.trans hoj)
          obtain ⟨q1, q2⟩ := k1 o ho
          have ex := execOp_put (ops := ops) o (fun cs b => hsel j o cs b hoj) a oi.dst v a1
          have ew := wanted_put (ops := ops) o a oi.dst v a1
          rw [ew] at q1
          refine ⟨q1, fun wc => ?_⟩
          rw [← ex]
          exact q2 wc
        · have hg := k2 g
          rw [ed] at hg ⊢
          rw [hcomm] at hg
          exact ih (some g) (listed.setIfInBounds j true) _ hinv hfree' (ready_mono hr (Ne.symm hji))
            (hy.of_same (execOp_put oi (fun cs b => hsel i oi cs b hi) a oj.dst _ a3) (wanted_put oi a oj.dst _ a3)) (by rw [← Act.put_comm a v _ a2]; exact hg)
      · obtain ⟨_, h1⟩ := h1.2 hjm
        have h2 := qOp_put hoj hap (fun cs b => hsel i oi cs b hi) (fun cs b => hsel j oj cs b hoj) hy h1
        refine ⟨?_, qOp_mono (fun a' h3 => ih s (listed.setIfInBounds j true) a' hinv hfree' (ready_mono hr (Ne.symm hji)) h3.1 ?_) h2⟩
        · rcases List.mem_append.1 hjH with h | h
          · exact h
          · exact absurd (by simpa using h) hjm
        · rw [← hcomm]
          exact h3.2

theorem wpAnyX_lex {l : List Oper} (hops : ops = l.toArray) {hs0 : List Nat} {t0 : Nat} {r : List Nat} {Lq : Nat → Act → Prop} (hsel : Region.noSelect ops = true)
    (hsk : sinkL ops t0 (hs0 ++ [m]) = true) (hch : chainL ops (t0 :: r) = true) (hcov : ∀ j, j < ops.size → j ∈ hs0 ++ [m] ∨ j ∈ t0 :: r) (hdis : ∀ t ∈ t0 :: r, t ∉ hs0 ++ [m]) (hm0 : m ∉ hs0) :
    ∀ (hs : List Nat) (listed : Array Bool) (a : Act), (∀ i ∈ hs, i ∈ hs0) → (∀ i ∈ hs0, i ∉ hs → listed.getD i false = true) → Open ops (t0 :: r) listed → headB ops (hs ++ [m]) listed = true →
    tailB ops (t0 :: r) ((hs ++ [m]).foldl (fun b i => b.setIfInBounds i true) listed) = true →
    wpQuiet P ops C (fun a' => MkCond P ops m V z a' ∧ ∀ g, Lq g (a'.put (dstOf ops m) (V g))) (pick l hs) a →
    wpAnyX P ops C m V z hs0 (fun g listed' a' => tailB ops (t0 :: r) listed' = true ∧ Open ops (t0 :: r) listed' ∧ Lq g a') (hs.length + 1) none listed a
  | [], listed, a, _, hall, inv, hB, hT, h => by
    simp only [List.nil_append, headB, Bool.and_eq_true, decide_eq_true_eq] at hB
    obtain ⟨⟨⟨hlt, hr⟩, hf⟩, _⟩ := hB
    have hr' : m ∈ Region.ready .any ops listed := by simpa using hr
    have hun := getD_both (mem_ready.1 hr').1
    refine ⟨fun h => (by rw [h] at hr'; cases hr'), fun i hi => ?_⟩
    have him : i = m := by
      obtain ⟨hiun, oi, hoi, _⟩ := mem_ready.1 hi
      rcases hcov i (Array.getElem?_eq_some_iff.1 hoi).1 with h | h
      · rcases List.mem_append.1 h with h | h
        · have := hall i h (by simp)
          rw [getD_both hiun] at this
          cases this
        · simpa using h
      · exact absurd hi (pick_waits hsk hch inv (List.mem_append_right _ (by simp)) hun i h)
    refine ⟨fun _ => ⟨h.1, fun g => ⟨by simpa using hT, inv.set hr' (fun k => hdis m k (by simp)), h.2 g⟩⟩, fun e => absurd him e⟩
  | i :: hs, listed, a, hin, hall, inv, hB, hT, h => by
    simp only [List.cons_append, headB, Bool.and_eq_true, decide_eq_true_eq] at hB
    obtain ⟨⟨⟨hlt, hr⟩, hf⟩, hB'⟩ := hB
    have hr' : i ∈ Region.ready .any ops listed := by simpa using hr
    have h0 : ops[i]? = some ops[i] := Array.getElem?_eq_getElem hlt
    have hl0 : l[i]? = some ops[i] := by rw [← h0, hops]; simp
    unfold pick at h
    rw [hl0] at h
    have hi0 := hin i (by simp)
    have him : i ≠ m := fun e => hm0 (e ▸ hi0)
    have hst : qOp P ops C i (wpQuiet P ops C (fun a' => MkCond P ops m V z a' ∧ ∀ g, Lq g (a'.put (dstOf ops m) (V g))) (pick l hs)) a := by unfold qOp; simp only [h0]; exact h
    obtain ⟨v, hy, hK⟩ := yieldsIn_of_qOp h0 hst
    refine wpAnyX_first h0 (Region.noSelect_spec hsel) hsk hch hcov hdis hi0 him (fun g listed' a' hL j hj hjh => ?_) (hs.length + 1) none listed a inv (Region.free_spec h0 hf) hr' hy
      (wpAnyX_lex hops hsel hsk hch hcov hdis hm0 hs _ _ (fun k hk => hin k (List.mem_cons_of_mem _ hk)) (fun k hk hkn => ?_) (inv.set hr' (fun h => hdis i h (List.mem_append_left _ hi0))) hB' (by simpa using hT) hK)
    · have h1 := hL.1
      simp only [tailB, Bool.and_eq_true, decide_eq_true_eq] at h1
      rw [h1.1] at hj
      obtain rfl : j = t0 := by simpa using hj
      exact hdis j (by simp) hjh
    · by_cases e : i = k
      · subst e
        have hlt' : i < listed.size := by rw [inv.size]; exact hlt
        simp [hlt']
      · exact getD_set_true (hall k hk (by simp [Ne.symm e, hkn]))

theorem wpAnyWide_of_X {w0 : World} {hs : List Nat} {g : Nat} {L : Nat → Array Bool → Act → Prop} {Q' : Exit → Act → World → Prop} (hd : ∀ (i : Nat) (o : Oper), ops[i]? = some o → ∀ c, o.op ≠ .defer c)
    (hni : ∀ i o, i ∈ hs → ops[i]? = some o → NoInitOp P o)
    (hL : ∀ b listed a wc, Below w0.heap.size w0 wc → w0.heap.size ≤ b → wc.heap[b]? = some z → L b listed a → wpAnyIn (wideAt ro) n P .any ops Q' g listed a wc) :
    ∀ (f : Nat) (s : Option Nat) (listed : Array Bool) (a : Act) (wc : World), Below w0.heap.size w0 wc → (∀ b, s = some b → w0.heap.size ≤ b ∧ wc.heap[b]? = some z) →
      (∀ y : Later wc, wpAnyX P ops (fun w' => ∃ x : Later y.out, w' = x.out) m V z hs L f s listed a) → wpAnyIn (wideAt ro) n P .any ops Q' (f + g) listed a wc
  | 0, none, listed, a, wc, _, _, hT => (hT ⟨wc, Below.refl _ _⟩).elim
  | 0, some b, listed, a, wc, hb, hs', hT => by rw [Nat.zero_add]; exact hL b _ _ _ hb (hs' b rfl).1 (hs' b rfl).2 (hT ⟨wc, Below.refl _ _⟩)
  | f + 1, s, listed, a, wc, hb, hs', hT => by
    rw [show f + 1 + g = (f + g) + 1 by omega]
    have h0 := hT ⟨wc, Below.refl _ _⟩
    refine ⟨fun e => absurd e h0.1, fun i hi => ?_⟩
    obtain ⟨hun, oi, hoi, hall⟩ := mem_ready.1 hi
    by_cases him : i = m
    · subst i
      obtain ⟨h1, _⟩ := (h0.2 m hi).1 rfl
      obtain ⟨hw, hx⟩ := h1 oi hoi
      unfold wpOpIn
      simp only [hoi]
      rw [if_pos hw]
      unfold Oper.wpIn
      refine ⟨fun _ _ => trivial, ?_⟩
      rw [show (wideAt ro).round = ro from rfl, Oper.semAt_eq _ _ _ (hd m oi hoi), hx]
      simp only [Oper.uponIn]
      have hb' : Below wc.heap.size wc (wc.alloc z) := (Below.refl _ wc).alloc (Nat.le_refl _) _
      have ed : dstOf ops m = oi.dst := by simp [dstOf, hoi]
      refine wpAnyWide_of_X hd hni hL f (some wc.heap.size) _ _ _ (hb.trans (hb'.mono hb.size)) (fun b e => by cases e; exact ⟨hb.size, alloc_new _ _⟩) (fun y => ?_)
      have h2 := (((hT ⟨y.out, hb'.trans (y.below.mono hb'.size)⟩).2 m hi).1 rfl).2 wc.heap.size
      rw [ed] at h2
      exact h2
    · obtain ⟨hih, h1⟩ := (h0.2 i hi).2 him
      obtain ⟨v, hy, hK⟩ := yieldsIn_of_qOp hoi h1
      refine wpOpWide_of_qOp (C := fun w' => ∃ x : Later wc, w' = x.out) (K := fun a' => a' = a.put oi.dst v) (fun o ho => hd i o ho) ⟨⟨wc, Below.refl _ _⟩, rfl⟩ ?_ (hy.qOp hoi rfl)
      rintro a' w' ⟨x, rfl⟩ rfl
      refine wpAnyWide_of_X hd hni hL f s _ _ _ (hb.trans (x.below.mono hb.size)) (fun b e => ⟨(hs' b e).1, (x.below.block _ (Array.getElem?_eq_some_iff.1 (hs' b e).2).1).trans (hs' b e).2⟩) (fun y => ?_)
      have h2 := ((hT ⟨y.out, x.below.trans (y.below.mono x.below.size)⟩).2 i hi).2 him
      obtain ⟨v', hy', hK'⟩ := yieldsIn_of_qOp hoi h2.2
      have e : v = v' := yields_one (w := y.out) (hni i oi hih hoi) ⟨⟨y.out, x.below.trans (y.below.mono x.below.size)⟩, rfl⟩ ⟨⟨y.out, Below.refl _ _⟩, rfl⟩ hy hy'
      subst e
      exact hK'

theorem wpWide_region_one {w : World} {id : Nat} {Q : Exit → Act → World → Prop} {a : Act} {l : List Oper} (hs : List Nat) (m : Nat) (ts : List Nat) (V : Nat → Value) (z : Obj) (hm : P.follows .mixedOrders = true) (hB : pickB l.toArray (hs ++ [m]) ts = true) (hmn : hs.contains m = false)
    (hsz : ((hs ++ [m]) ++ ts).length = l.length) (hnd : noDefer l = true) (hni : NoInit P (pick l hs))
    (hh : ∀ y : Later w, wpQuiet P l.toArray (fun w' => ∃ x : Later y.out, w' = x.out) (fun a' => MkCond P l.toArray m V z a' ∧ ∀ (g : Nat) (x : Later w), w.heap.size ≤ g → x.out.heap[g]? = some z →
        wpListIn (wideAt ro) n P l.toArray Q (pick l ts) (a'.put (dstOf l.toArray m) (V g)) x.out) (pick l hs) a) : (Code.region id l.toArray true).wpIn (wideAt ro) n P Q a w := by
  cases ts with
  | nil => simp [pickB] at hB
  | cons t0 r =>
    simp only [pickB, Bool.and_eq_true] at hB
    obtain ⟨⟨⟨⟨⟨⟨hsel, hH⟩, hT⟩, hsk⟩, hch⟩, hcov⟩, hdis⟩ := hB
    have hcov' : ∀ j, j < l.toArray.size → j ∈ hs ++ [m] ∨ j ∈ t0 :: r := fun j hj => by
      have := List.all_eq_true.1 hcov j (by simpa using hj)
      simpa using this
    have hdis' : ∀ t ∈ t0 :: r, t ∉ hs ++ [m] := fun t ht h => by
      have := List.all_eq_true.1 hdis t ht
      simp at this h
      rcases h with h | h
      · exact this.1 h
      · exact this.2 h
    have hm0 : m ∉ hs := fun h => by simp [h] at hmn
    have inv0 : Open l.toArray (t0 :: r) (Array.replicate l.toArray.size false) :=
      ⟨by simp, fun j oj _ hl => (by rw [getD_replicate_false] at hl; cases hl), fun t _ => getD_replicate_false _ _⟩
    have hlt : ∀ (ts : List Nat) (b : Array Bool), tailB l.toArray ts b = true → ∀ t ∈ ts, t < l.toArray.size := by
      intro ts
      induction ts with
      | nil => intro b _ t ht; cases ht
      | cons u q ih =>
        intro b hb t ht
        simp only [tailB, Bool.and_eq_true, decide_eq_true_eq] at hb
        rcases List.mem_cons.1 ht with rfl | ht
        · have : t ∈ Region.ready .any l.toArray b := by rw [hb.1]; simp
          obtain ⟨_, o, ho, _⟩ := mem_ready.1 this
          exact (Array.getElem?_eq_some_iff.1 ho).1
        · exact ih _ hb.2 t ht
    have hmem : ∀ (q : List Nat) (i : Nat) (o : Oper), i ∈ q → l[i]? = some o → o ∈ pick l q := by
      intro q
      induction q with
      | nil => intro i o h; cases h
      | cons u q ih =>
        intro i o h ho
        unfold pick
        rcases List.mem_cons.1 h with rfl | h
        · rw [ho]; simp
        · split
          · exact List.mem_cons_of_mem _ (ih i o h ho)
          · exact ih i o h ho
    have hni' : ∀ i o, i ∈ hs → l.toArray[i]? = some o → NoInitOp P o := fun i o hi ho => by
      have hm := hmem hs i o hi (by simpa using ho)
      obtain ⟨k, hk, rfl⟩ := List.getElem_of_mem hm
      exact hni.at (i := k) (List.getElem?_eq_getElem hk)
    refine wpIn_region_any hm ?_
    have hb : Below w.heap.size w w.drew := (Below.refl _ w).drew
    have := wpAnyWide_of_X (P := P) (ops := l.toArray) (ro := ro) (n := n) (m := m) (V := V) (z := z) (w0 := w) (hs := hs) (g := (t0 :: r).length) (Q' := Q)
      (L := fun g listed' a' => tailB l.toArray (t0 :: r) listed' = true ∧ Open l.toArray (t0 :: r) listed' ∧ ∀ (x : Later w), w.heap.size ≤ g → x.out.heap[g]? = some z →
        wpListIn (wideAt ro) n P l.toArray Q (pick l (t0 :: r)) a' x.out)
      (fun i o ho => noDefer_at hnd ho) hni' (fun b listed' a' wc hbw hbs hz hL => wpAnyIn_of_tail rfl (t0 :: r) listed' a' wc (hlt _ _ hL.1) hL.1 (hL.2.2 ⟨wc, hbw⟩ hbs hz))
      (hs.length + 1) none (Array.replicate l.toArray.size false) a w.drew hb (fun b e => by cases e) (fun y => ?_)
    · have e : hs.length + 1 + (t0 :: r).length = l.toArray.size := by simp at hsz ⊢; omega
      rw [e] at this
      exact this
    · have hw := hh ⟨y.out, hb.trans (y.below.mono hb.size)⟩
      refine wpAnyX_lex rfl hsel hsk hch hcov' hdis' hm0 hs _ a (fun _ h => h) (fun i h1 h2 => absurd h1 h2) inv0 hH hT (wpQuiet_post (fun a' h' => ⟨h'.1, fun g x h1 h2 => h'.2 g x h1 h2⟩) _ _ hw)
/-- in a round -/
theorem wpIn_region_one {w : World} {id k : Nat} {Q : Exit → Act → World → Prop} {a : Act} {l : List Oper} (hs : List Nat) (m : Nat) (ts : List Nat) (V : Nat → Value) (z : Obj) (hm : P.follows .mixedOrders = true) (hB : pickB l.toArray (hs ++ [m]) ts = true) (hmn : hs.contains m = false)
    (hsz : ((hs ++ [m]) ++ ts).length = l.length) (hnd : noDefer l = true) (hni : NoInit P (pick l hs))
    (hh : ∀ y : Later w, wpQuiet P l.toArray (fun w' => ∃ x : Later y.out, w' = x.out) (fun a' => MkCond P l.toArray m V z a' ∧ ∀ (g : Nat) (x : Later w), w.heap.size ≤ g → x.out.heap[g]? = some z →
        wpListIn (Fence.wide.inRound k) n P l.toArray Q (pick l ts) (a'.put (dstOf l.toArray m) (V g)) x.out) (pick l hs) a) : (Code.region id l.toArray true).wpIn (Fence.wide.inRound k) n P Q a w :=
  wpWide_region_one (ro := some k) hs m ts V z hm hB hmn hsz hnd hni hh
/-- in no round -/
theorem wp_region_one {w : World} {id : Nat} {Q : Exit → Act → World → Prop} {a : Act} {l : List Oper} (hs : List Nat) (m : Nat) (ts : List Nat) (V : Nat → Value) (z : Obj) (hm : P.follows .mixedOrders = true) (hB : pickB l.toArray (hs ++ [m]) ts = true) (hmn : hs.contains m = false)
    (hsz : ((hs ++ [m]) ++ ts).length = l.length) (hnd : noDefer l = true) (hni : NoInit P (pick l hs))
    (hh : ∀ y : Later w, wpQuiet P l.toArray (fun w' => ∃ x : Later y.out, w' = x.out) (fun a' => MkCond P l.toArray m V z a' ∧ ∀ (g : Nat) (x : Later w), w.heap.size ≤ g → x.out.heap[g]? = some z →
        wpListIn Fence.wide 0 P l.toArray Q (pick l ts) (a'.put (dstOf l.toArray m) (V g)) x.out) (pick l hs) a) : (Code.region id l.toArray true).wp P Q a w :=
  (wpIn_wide (n := 0)).1 (wpWide_region_one (ro := none) (n := 0) hs m ts V z hm hB hmn hsz hnd hni hh)
end
end Go.Proofs.Ytcdnekhpeghkiaa

/-
  script.Parse.
-/
import Derived.Test.YtjmagehfkcnjjaaGreatDoorKN
import Derived.RangeFuncLeaves
namespace Go.Proofs.YtjmagehfkcnjjaaGreatDoor
set_option linter.unusedVariables false
open Go.RowKit Go.Shelf
attribute [local go_sem] Oper.semAt_some

/-- the state behind these words, if none is wrong -/
def runW (s : PSt) : List (Nat × List UInt8) → Option PSt
  | [] => some s
  | x :: r => (s.word x.2).bind fun s' => runW s' r
def PSt.zero : PSt := ⟨[], [], 0, 0, 0⟩
theorem runW_snoc (l : List (Nat × List UInt8)) (x : Nat × List UInt8) : ∀ s, runW s (l ++ [x]) = (runW s l).bind fun s' => s'.word x.2 := by
  induction l with
  | nil => intro s; show (s.word x.2).bind _ = s.word x.2; cases s.word x.2 <;> rfl
  | cons y r ih =>
    intro s
    show (s.word y.2).bind _ = ((s.word y.2).bind _).bind _
    cases s.word y.2 with
    | none => rfl
    | some s' => exact ih s'
/-- all words, one behind the other: the state behind the last one, or the place of the first one that is wrong -/
def goW (s : PSt) : List (Nat × List UInt8) → Nat ⊕ PSt
  | [] => .inr s
  | x :: r => match s.word x.2 with
    | none => .inl x.1
    | some s' => goW s' r
theorem goW_bad : ∀ (l : List (Nat × List UInt8)) (s0 s : PSt) (k : Nat) (x : Nat × List UInt8), l[k]? = some x → runW s0 (l.take k) = some s → s.word x.2 = none → goW s0 l = .inl x.1 := by
  intro l
  induction l with
  | nil => intro s0 s k x h; cases k <;> cases h
  | cons y r ih =>
    intro s0 s k x h1 h2 h3
    cases k with
    | zero =>
      obtain rfl := Option.some.inj h1
      obtain rfl := Option.some.inj h2
      unfold goW
      rw [h3]
    | succ k =>
      have h2' : (s0.word y.2).bind (fun s' => runW s' (r.take k)) = some s := h2
      unfold goW
      cases e : s0.word y.2 with
      | none => rw [e] at h2'; cases h2'
      | some s' => rw [e] at h2'; exact ih s' s k x (by simpa using h1) h2' h3
theorem goW_all : ∀ (l : List (Nat × List UInt8)) (s0 s : PSt), runW s0 l = some s → goW s0 l = .inr s := by
  intro l
  induction l with
  | nil => intro s0 s h; obtain rfl := Option.some.inj h; rfl
  | cons y r ih =>
    intro s0 s h
    have h' : (s0.word y.2).bind (fun s' => runW s' r) = some s := h
    unfold goW
    cases e : s0.word y.2 with
    | none => rw [e] at h'; cases h'
    | some s' => rw [e] at h'; exact ih s' s h'
/-- what script.Parse tells: the path, the place, the error -/
def spR (l : List UInt8) : List Int × List (Int × Int) × Int × Int :=
  match goW PSt.zero (wds 0 l) with
  | .inl k => ([], [], (k : Int), 80)
  | .inr s => if 0 < s.left then ([], [], (l.length : Int), 80) else if chk s.vb s.pt ≠ 0 then ([], [], 0, chk s.vb s.pt) else (s.vb, s.pt, 0, 0)
/-- a path of the text's own, a place, an error -/
def SRet (w : World) (r : List Int × List (Int × Int) × Int × Int) : Ending → World → Prop := fun e w' => ∃ vv pv, e = .returned (.tuple #[.agg #[vv, pv], .int .i64 r.2.2.1, .int .i64 r.2.2.2]) ∧ w'.ownsRow (w.heap.size + 4) 3 1 vv r.1.length (intsV r.1) ∧ w'.ownsRow (w.heap.size + 4) 48 2 pv r.2.1.length (fl r.2.1) ∧ ∃ x : Later w, w' = x.out
/-- k words on -/
structure PI (w : World) (l : List UInt8) (k : Nat) (W : World) : Prop where
  st : ∃ s vv pv, runW PSt.zero ((wds 0 l).take k) = some s ∧ PAt (w.heap.size + 4) (w.heap.size + 3) vv pv s W ∧ s.vb.length ≤ k ∧ s.pt.length ≤ k
  b0 : Blk W w.heap.size 31 #[.slice none 0 0, .slice none 0 0]
  b1 : Blk W (w.heap.size + 1) 3 #[.int .i64 0]
  b2 : Blk W (w.heap.size + 2) 22 #[.int .i64 0]
  bc : Blk W (w.heap.size + 4) 9 #[.string ⟨l.toArray⟩]
  below : Below w.heap.size w W
  size : w.heap.size + 5 ≤ W.heap.size
theorem num_len (s : PSt) (n : Int) : (s.num n).vb.length = s.vb.length ∧ (s.num n).pt.length ≤ s.pt.length + 1 := by
  unfold PSt.num
  split
  · exact ⟨rfl, Nat.le_succ _⟩
  · exact ⟨rfl, by simp⟩
theorem word_len {s s' : PSt} {l : List UInt8} (h : s.word l = some s') : s'.vb.length ≤ s.vb.length + 1 ∧ s'.pt.length ≤ s.pt.length + 1 := by
  unfold PSt.word at h
  split at h
  · cases e : ps l with
    | none => rw [e] at h; cases h
    | some n =>
      rw [e] at h
      obtain rfl := Option.some.inj h
      have := num_len s n
      exact ⟨by omega, this.2⟩
  · split at h
    · obtain rfl := Option.some.inj h
      exact ⟨by simp [PSt.begin_], Nat.le_succ _⟩
    · split at h
      · cases h
      · cases e : ps l with
        | none => rw [e] at h; cases h
        | some n =>
          rw [e] at h
          obtain rfl := Option.some.inj h
          have := num_len (s.begin_ (if s.now = 1 then 2 else s.now)) n
          exact ⟨by rw [this.1]; simp [PSt.begin_], this.2⟩
theorem intsAt_own {W : World} {base : Nat} {v : Value} {l : List Int} (h : W.ownsRow base 3 1 v l.length (intsV l)) : IntsAt W v l := by
  rcases Go.Joins.ownsRow_forms h with ⟨rfl, h0⟩ | ⟨g, cap, rfl⟩
  · exact .inl ⟨rfl, List.length_eq_zero_iff.1 h0⟩
  · rcases h.2 with ⟨k, _⟩ | ⟨g', cap', cur, k, _, hh, h1, h2, _⟩
    · cases k
    · obtain ⟨rfl, rfl⟩ : g = g' ∧ cap = cap' := by simpa using k
      refine .inr (.inr ⟨g, 0, cap, rfl, (Array.getElem?_eq_some_iff.1 hh).1, h1, h2, fun i p hi => ?_⟩)
      have hil : i < l.length := (List.getElem?_eq_some_iff.1 hi).1
      rw [Nat.zero_add, h.cellAt i (by omega)]
      simp [intsV, hi]
theorem ptsAt_own {W : World} {base : Nat} {v : Value} {l : List (Int × Int)} (h : W.ownsRow base 48 2 v l.length (fl l)) : PtsAt W v l := by
  rcases Go.Joins.ownsRow_forms h with ⟨rfl, h0⟩ | ⟨g, cap, rfl⟩
  · exact .inl ⟨rfl, List.length_eq_zero_iff.1 h0⟩
  · rcases h.2 with ⟨k, _⟩ | ⟨g', cap', cur, k, _, hh, h1, h2, _⟩
    · cases k
    · obtain ⟨rfl, rfl⟩ : g = g' ∧ cap = cap' := by simpa using k
      refine .inr (.inr ⟨g, 0, cap, rfl, (Array.getElem?_eq_some_iff.1 hh).1, h1, h2, fun i p hi => ?_⟩)
      have hil : i < l.length := (List.getElem?_eq_some_iff.1 hi).1
      rw [Nat.zero_add, h.cellAt (i * 2) (by omega), h.cellAt (i * 2 + 1) (by omega)]
      exact fl_at l i p hi
theorem own_row {W : World} {base size n D : Nat} {e : TypeId} {v : Value} {xs : List Value} (h : W.ownsRow base e size v n xs) (hD : W.heap[D]? = some (.deferred (some []))) : v.ownBlock = none ∨ v.ownBlock ≠ some D := by
  rcases h.2 with ⟨rfl, _⟩ | ⟨g, cap, cur, rfl, _, hh, _⟩
  · exact .inl rfl
  · refine .inr fun k => ?_
    simp only [Value.ownBlock, Option.some.injEq] at k
    subst k
    rw [hh] at hD
    cases hD
theorem own_slice {W : World} {base size n : Nat} {e : TypeId} {v : Value} {xs : List Value} (h : W.ownsRow base e size v n xs) : ∃ a m c, v = .slice a m c := by
  rcases Go.Joins.ownsRow_forms h with ⟨rfl, _⟩ | ⟨g, cap, rfl⟩
  · exact ⟨_, _, _, rfl⟩
  · exact ⟨_, _, _, rfl⟩
theorem own_far {W : World} {base size n : Nat} {e : TypeId} {v : Value} {xs : List Value} {b : Nat} (h : W.ownsRow base e size v n xs) (hb : b < base) : v.ownBlock ≠ some b := fun k => by
  have := (h.lt b k).1
  omega
/-- a word is wrong: the results of that -/
structure PR (w : World) (l : List UInt8) (W : World) : Prop where
  at_ : ∃ k x s, (wds 0 l)[k]? = some x ∧ runW PSt.zero ((wds 0 l).take k) = some s ∧ s.word x.2 = none ∧ Blk W (w.heap.size + 1) 3 #[.int .i64 (x.1 : Int)]
  b0 : Blk W w.heap.size 31 #[.slice none 0 0, .slice none 0 0]
  b2 : Blk W (w.heap.size + 2) 22 #[.int .i64 80]
  below : Below w.heap.size w W
theorem PAt.kept {base t : Nat} {vv pv : Value} {s : PSt} {W W' : World} {row : Option Nat} (h : PAt base t vv pv s W) (hg : W.grownBy W' row) (hr : ∀ r, row = some r → ∃ o : Obj, W.heap[r]? = some o ∧ o.isCells = false) : PAt base t vv pv s W' :=
  ⟨h.box.kept hg hr, own_kept h.vown hg hr, own_kept h.pown hg hr, h.lt, h.few⟩
theorem PKeep.from_ {base t B : Nat} {W W' : World} (h : PKeep base t W W') (ht : t < B) : KeepsFrom B W W' :=
  ⟨h.size, fun k o hB hk ho => (h.block k (Array.getElem?_eq_some_iff.1 hk).1 (by omega) (.inr fun c T e => by rw [hk] at e; obtain rfl := Option.some.inj e; cases ho)).trans hk⟩
theorem PKeep.blk {base t b : Nat} {T : TypeId} {c : Array Value} {W W' : World} (h : PKeep base t W W') (hb : Blk W b T c) (hne : b ≠ t) (hk : b < base ∨ (T ≠ 3 ∧ T ≠ 48)) : Blk W' b T c :=
  (h.block b hb.lt hne (hk.elim .inl fun k => .inr fun c' T' e => by
    unfold Blk at hb
    rw [hb] at e
    have := Option.some.inj e
    simp only [Obj.cells.injEq] at this
    rw [← this.2.1]; exact k)).trans hb
theorem PKeep.below {base t B : Nat} {w W W' : World} (h : PKeep base t W W') (hb : Below B w W) (hB : B ≤ w.heap.size) (ht : B ≤ t) (hbase : B ≤ base) : Below B w W' :=
  hb.trans ⟨h.os, h.tape, h.output, h.size, fun k hk => h.block k (by have := hb.size; omega) (by omega) (.inl (by omega))⟩
set_option maxRecDepth 100000 in
set_option maxHeartbeats 2000000 in
theorem sparse_c (l : List UInt8) (mx : Int) (hl : l.length ≤ 1100000) (hw : (wds 0 l).length ≤ 890000) (hIA : IAny l) (w : World) (hm : w.cell? ⟨2, 0, none⟩ = some (.int .i64 mx)) :
    Calls Tryz.prog 21 #[.string ⟨l.toArray⟩] w (SRet w (spR l)) := by
  refine (callsIn_wide (n := 4)).1 ?_
  refine callsIn_of_wp_marks Tryz.func21 rfl trivial ?_ rfl
  simp only [Tryz.ntmps21, List.size_toArray, List.length_cons, List.length_nil, Nat.reduceAdd, Nat.reduceSub, Array.replicate_succ, Array.replicate_zero, List.push_toArray, List.append_toArray, List.nil_append, List.cons_append]
  refine wpIn_wide.2 ?_
  obtain ⟨S, hS⟩ : ∃ S : ByteArray, S = ⟨l.toArray⟩ := ⟨_, rfl⟩
  rw [← hS]
  have HS := Lib.hid hS
  clear hS
  go_wp2_with (first | (go_at_call 38; refine (words_c _ _).mono ?_; rintro e _ ⟨rfl, rfl⟩))
  refine (wpIn_wide (n := 4)).1 ?_
  generalize hW0 : (((((w.alloc (.cells #[.slice none 0 0, .slice none 0 0] 31)).alloc (.cells #[.int .i64 0] 3)).alloc (.cells #[.int .i64 0] 22)).alloc (.cells #[.slice none 0 0, .slice none 0 0, .int .i64 0, .int .i64 0, .int .i64 0] 66)).alloc (.cells #[.string S] 9)) = W0
  have sz : W0.heap.size = w.heap.size + 5 := by rw [← hW0]; simp
  have hbW : Below w.heap.size w W0 := by rw [← hW0]; (repeat (first | (with_reducible assumption) | (with_reducible exact Below.refl _ _) | (with_reducible refine Later.after ?_ _) | (with_reducible refine Later.newer ?_ _) | (with_reducible refine Below.drew ?_) | (with_reducible refine Below.setCell ?_ (by first | exact Nat.le_refl _ | exact Nat.le_add_right _ _ | omega | (simp [go_sem]; done) | (simp [go_sem]; omega)) _)))
  have hbc : Blk W0 (w.heap.size + 1 + 1 + 1 + 1) 9 #[.string ⟨l.toArray⟩] := by rw [← hW0, HS.out]; exact Blk.new' (by simp)
  have hpi : PI w l 0 W0 := by
    refine ⟨⟨PSt.zero, .slice none 0 0, .slice none 0 0, rfl, ⟨?_, World.ownsRow_nil _ _ _ _, World.ownsRow_nil _ _ _ _, Nat.lt_succ_self _, by decide⟩, Nat.le_refl _, Nat.le_refl _⟩, ?_, ?_, ?_, hbc, hbW, by omega⟩
    · rw [← hW0]; exact (Blk.new' (by simp)).alloc _
    · rw [← hW0]; exact ((((Blk.new' (by simp)).alloc _).alloc _).alloc _).alloc _
    · rw [← hW0]; exact (((Blk.new' (by simp)).alloc _).alloc _).alloc _
    · rw [← hW0]; exact ((Blk.new' (by simp)).alloc _).alloc _
  clear hW0
  refine wpIn_rangeFunc_stop rfl (by omega) (gf := 69) rfl trivial (enters_of Tryz.func69 (by kernel_rfl) rfl)
    (words_seq l (w.heap.size + 1 + 1 + 1 + 1) W0 hl hIA hbc) (fun h k => h.trans k)
    (fun W lp o o' hlp h hc _ => KeepsAll.putObj _ (by intro b hb; simp only [List.mem_cons, List.not_mem_nil, or_false] at hb; rw [sz] at hlp; omega)) (Below.refl _ _) (fun _ => rfl)
    (PI w l) ?own hpi (PR w l) ?ownR
    (fun k x a' W => PI w l k W ∧ ∃ (v1 v8 v9 v10 v11 v12 v13 v14 v15 v16 v17 v18 v19 v20 v21 v22 v23 v24 v25 v26 v27 v28 v29 v30 v31 v32 : Value), a' = ⟨#[.string S, v1, .pointer (some ⟨w.heap.size, 0, none⟩), .pointer (some ⟨w.heap.size + 1, 0, none⟩), .pointer (some ⟨w.heap.size + 1 + 1, 0, none⟩), .pointer (some ⟨w.heap.size + 1 + 1 + 1, 0, none⟩), .int .i64 (x.1 : Int), .string ⟨x.2.toArray⟩, v8, v9, v10, v11, v12, v13, v14, v15, v16, v17, v18, v19, v20, v21, v22, v23, v24, v25, v26, v27, v28, v29, v30, v31, v32], []⟩)
    ?ownM ?assign ?body ?done ?ret
  case own =>
    rintro k A B row ⟨⟨s, vv, pv, h1, h2, h3, h4⟩, h5, h6, h7, hbc', h8, h9⟩ hg hr
    have hr' : ∀ r, row = some r → ∃ o : Obj, A.heap[r]? = some o ∧ o.isCells = false := fun r e => (hr r e).2
    exact ⟨⟨s, vv, pv, h1, h2.kept hg hr', h3, h4⟩, h5.kept hg hr', h6.kept hg hr', h7.kept hg hr', hbc'.kept hg hr', h8.grown hg h8.size (fun k e => by have := (hr k e).1; rw [sz] at this; omega), Nat.le_trans h9 hg.size⟩
  case ownR =>
    rintro _ A B row ⟨⟨k, x, s, h1, h2, h3, h4⟩, h5, h6, h7⟩ hg hr
    have hr' : ∀ r, row = some r → ∃ o : Obj, A.heap[r]? = some o ∧ o.isCells = false := fun r e => (hr r e).2
    exact ⟨⟨k, x, s, h1, h2, h3, h4.kept hg hr'⟩, h5.kept hg hr', h6.kept hg hr', h7.grown hg h7.size (fun k e => by have := (hr k e).1; rw [sz] at this; omega)⟩
  case ownM =>
    rintro k x a' s0 A B row ⟨⟨⟨s, vv, pv, h1, h2, h3, h4⟩, h5, h6, h7, hbc', h8, h9⟩, ha⟩ hg hr
    have hr' : ∀ r, row = some r → ∃ o : Obj, A.heap[r]? = some o ∧ o.isCells = false := fun r e => (hr r e).2
    exact ⟨⟨⟨s, vv, pv, h1, h2.kept hg hr', h3, h4⟩, h5.kept hg hr', h6.kept hg hr', h7.kept hg hr', hbc'.kept hg hr', h8.grown hg h8.size (fun k e => by have := (hr k e).1; rw [sz] at this; omega), Nat.le_trans h9 hg.size⟩, ha⟩
  case assign =>
    rintro lp k x W K hx hI hK
    have HK := Lib.hid hK
    have HI := Lib.hid hI
    clear hK hI
    simp only [encW]
    gi_wp2
    exact HK.out _ _ (KeepsFrom.refl _ _) (KeepsAll.refl _ _) ⟨HI.out, _, _, _, _, _, _, _, _, _, _, _, _, _, _, _, _, _, _, _, _, _, _, _, _, _, _, rfl⟩
  case body =>
    rintro lp k x a' W hx ⟨⟨⟨s, vv, pv, h1, h2, h3, h4⟩, h5, h6, h7, hbc', h8, h9⟩, v1, v8, v9, v10, v11, v12, v13, v14, v15, v16, v17, v18, v19, v20, v21, v22, v23, v24, v25, v26, v27, v28, v29, v30, v31, v32, rfl⟩
    have hk9 : k < (wds 0 l).length := (List.getElem?_eq_some_iff.1 hx).1
    have hmW : W.cell? ⟨2, 0, none⟩ = some (.int .i64 mx) := (h8.cell (p := ⟨2, 0, none⟩) (World.block_lt_of_cell? w _ hm)).trans hm
    have hwc := word_c s x.2 (w.heap.size + 4) (w.heap.size + 3) vv pv mx W h2 (by omega) (by omega) (by omega) hmW
    have htk : (wds 0 l).take (k + 1) = (wds 0 l).take k ++ [x] := by rw [List.take_add_one, hx]; rfl
    cases hsw : s.word x.2 with
    | none =>
      rw [hsw] at hwc
      have HWC := Lib.hid hwc
      have H5 := Lib.hid h5
      have H6 := Lib.hid h6
      have H7 := Lib.hid h7
      have H8 := Lib.hid h8
      have HBC := Lib.hid hbc'
      clear hwc h5 h6 h7 h8 h2 hmW htk hbc'
      gi_wp2_with (refine ⟨trivial, ?_⟩; gi_at_call 39; refine (callsIn_wide.2 (HWC.out)).mono ?_; rintro e W' ⟨rfl, hn, hk⟩; have y0 := hk.blk H5.out (by omega) (.inl (by omega)); have y1 := hk.blk H6.out (by omega) (.inl (by omega)); have y2 := hk.blk H7.out (by omega) (.inl (by omega)); obtain ⟨p1, p2, p3⟩ := y0.all; obtain ⟨p4, p5, p6⟩ := y1.all; obtain ⟨p7, p8, p9⟩ := y2.all; have Y0 := Lib.hid y0; have Y1 := Lib.hid y1; have Y2 := Lib.hid y2; have HK := Lib.hid hk; clear hk hn y0 y1 y2)
      have bc1 := HK.out.blk HBC.out (by omega) (.inr (by decide))
      have hb1 := HK.out.below H8.out (by omega) (by omega) (by omega)
      refine ⟨(HK.out.from_ (by omega)).trans ((((((KeepsOthers.setCell _ _ _).trans (KeepsOthers.setCell _ _ _)).trans (KeepsOthers.setCell _ _ _)).trans (KeepsOthers.setCell _ _ _))).from _), ?_, ⟨⟨k, x, s, hx, h1, hsw, ?_⟩, ?_, ?_, ?_⟩⟩
      · intro b hb
        simp only [List.mem_cons, List.not_mem_nil, or_false] at hb
        subst hb
        have e1 : W'.heap[w.heap.size + 1 + 1 + 1 + 1]? = W.heap[w.heap.size + 1 + 1 + 1 + 1]? := (show W'.heap[w.heap.size + 4]? = W.heap[w.heap.size + 4]? from bc1.trans HBC.out.symm)
        exact (Below.heap_setCell _ _ _ _ (by simp; omega)).trans ((Below.heap_setCell _ _ _ _ (by simp; omega)).trans ((Below.heap_setCell _ _ _ _ (by simp; omega)).trans ((Below.heap_setCell _ _ _ _ (by simp; omega)).trans e1)))
      · exact ((((Y1.out.other _ _ (by omega)).other _ _ (by omega)).set 0 _).other _ _ (by omega)).eq (by simp)
      · exact ((((Y0.out.set 0 _).set 1 _).other _ _ (by omega)).other _ _ (by omega)).eq (by simp)
      · exact ((((Y2.out.other _ _ (by omega)).other _ _ (by omega)).other _ _ (by omega)).set 0 _).eq (by simp)
      · exact Below.setCell (Below.setCell (Below.setCell (Below.setCell hb1 (by simp) _) (by simp) _) (by simp) _) (by simp; omega) _
    | some s' =>
      rw [hsw] at hwc
      have hln := word_len hsw
      have HWC := Lib.hid hwc
      have H5 := Lib.hid h5
      have H6 := Lib.hid h6
      have H7 := Lib.hid h7
      have H8 := Lib.hid h8
      have HBC := Lib.hid hbc'
      clear hwc h5 h6 h7 h8 h2 hmW hbc'
      gi_wp2_with (refine ⟨trivial, ?_⟩; gi_at_call 39; refine (callsIn_wide.2 (HWC.out)).mono ?_; rintro e W' ⟨rfl, hn, hk⟩; have HN := Lib.hid hn; have HK := Lib.hid hk; clear hk hn)
      have bc1 := HK.out.blk HBC.out (by omega) (.inr (by decide))
      obtain ⟨vv', pv', hpa⟩ := HN.out s' rfl
      refine ⟨HK.out.from_ (by omega), ?_, ⟨s', vv', pv', ?_, hpa, by omega, by omega⟩, HK.out.blk H5.out (by omega) (.inl (by omega)), HK.out.blk H6.out (by omega) (.inl (by omega)), HK.out.blk H7.out (by omega) (.inl (by omega)), bc1, HK.out.below H8.out (by omega) (by omega) (by omega), Nat.le_trans h9 HK.out.size⟩
      · intro b hb
        simp only [List.mem_cons, List.not_mem_nil, or_false] at hb
        subst hb
        exact (show W'.heap[w.heap.size + 4]? = W.heap[w.heap.size + 4]? from bc1.trans HBC.out.symm)
      · rw [htk, runW_snoc, h1]
        exact hsw
  case done =>
    rintro D W hD ⟨⟨s, vv, pv, h1, h2, h3, h4⟩, h5, h6, h7, hbc', h8, h9⟩ hK
    rw [List.take_length] at h1
    have hgo := goW_all _ _ _ h1
    rw [sz] at hD
    have hbx := h2.box
    have H2 := Lib.hid h2
    have H5 := Lib.hid h5
    have H6 := Lib.hid h6
    have H7 := Lib.hid h7
    have H8 := Lib.hid h8
    have HKD := Lib.hid hK
    have HSs : Hid (S.size = l.length) := Lib.hid (by rw [HS.out, ba_size])
    obtain ⟨x1, x2, x3⟩ := hbx.all
    obtain ⟨p1, p2, p3⟩ := h5.all
    obtain ⟨p4, p5, p6⟩ := h6.all
    obtain ⟨p7, p8, p9⟩ := h7.all
    clear h2 hbx h5 h6 h7 h8 hK hbc'
    by_cases hleft : 0 < s.left
    · have hsp : spR l = ([], [], (S.size : Int), 80) := by unfold spR; rw [hgo, HSs.out]; exact if_pos hleft
      have HSP := Lib.hid hsp
      have hd : decide ((0 : Int) < (s.left : Int)) = true := by simp; exact hleft
      have hd2 : decide (0 < s.left) = true := by simp; exact hleft
      clear hsp hgo h1
      go_wp2_with (fail)
      have y0 : Blk ((((W.setCell ⟨w.heap.size, 0, none⟩ (.slice none 0 0)).setCell ⟨w.heap.size, 1, none⟩ (.slice none 0 0)).setCell ⟨w.heap.size + 1, 0, none⟩ (.int .i64 (S.size : Int))).setCell ⟨w.heap.size + 1 + 1, 0, none⟩ (.int .i64 80)) w.heap.size 31 #[(.slice none 0 0), (.slice none 0 0)] := ((((H5.out.set 0 _).set 1 _).other _ _ (by omega)).other _ _ (by omega)).eq (by simp)
      have y1 : Blk ((((W.setCell ⟨w.heap.size, 0, none⟩ (.slice none 0 0)).setCell ⟨w.heap.size, 1, none⟩ (.slice none 0 0)).setCell ⟨w.heap.size + 1, 0, none⟩ (.int .i64 (S.size : Int))).setCell ⟨w.heap.size + 1 + 1, 0, none⟩ (.int .i64 80)) (w.heap.size + 1) 3 #[.int .i64 (S.size : Int)] := ((((H6.out.other _ _ (by omega)).other _ _ (by omega)).set 0 _).other _ _ (by omega)).eq (by simp)
      have y2 : Blk ((((W.setCell ⟨w.heap.size, 0, none⟩ (.slice none 0 0)).setCell ⟨w.heap.size, 1, none⟩ (.slice none 0 0)).setCell ⟨w.heap.size + 1, 0, none⟩ (.int .i64 (S.size : Int))).setCell ⟨w.heap.size + 1 + 1, 0, none⟩ (.int .i64 80)) (w.heap.size + 2) 22 #[.int .i64 80] := ((((H7.out.other _ _ (by omega)).other _ _ (by omega)).other _ _ (by omega)).set 0 _).eq (by simp)
      have yD : ((((W.setCell ⟨w.heap.size, 0, none⟩ (.slice none 0 0)).setCell ⟨w.heap.size, 1, none⟩ (.slice none 0 0)).setCell ⟨w.heap.size + 1, 0, none⟩ (.int .i64 (S.size : Int))).setCell ⟨w.heap.size + 1 + 1, 0, none⟩ (.int .i64 80)).heap[D]? = some (.deferred (some [])) := (Below.heap_setCell _ _ _ _ (by simp; omega)).trans ((Below.heap_setCell _ _ _ _ (by simp; omega)).trans ((Below.heap_setCell _ _ _ _ (by simp; omega)).trans ((Below.heap_setCell _ _ _ _ (by simp; omega)).trans HKD.out)))
      have yB : Below w.heap.size w ((((W.setCell ⟨w.heap.size, 0, none⟩ (.slice none 0 0)).setCell ⟨w.heap.size, 1, none⟩ (.slice none 0 0)).setCell ⟨w.heap.size + 1, 0, none⟩ (.int .i64 (S.size : Int))).setCell ⟨w.heap.size + 1 + 1, 0, none⟩ (.int .i64 80)) := Below.setCell (Below.setCell (Below.setCell (Below.setCell H8.out (by simp) _) (by simp) _) (by simp) _) (by simp; omega) _
      skip
      generalize (((W.setCell ⟨w.heap.size, 0, none⟩ (.slice none 0 0)).setCell ⟨w.heap.size, 1, none⟩ (.slice none 0 0)).setCell ⟨w.heap.size + 1, 0, none⟩ (.int .i64 (S.size : Int))).setCell ⟨w.heap.size + 1 + 1, 0, none⟩ (.int .i64 80) = V at *
      have m0 : Blk (V.putObj D (.deferred none)) w.heap.size 31 #[(.slice none 0 0), (.slice none 0 0)] := (World.putObj_heap_other (by omega)).trans y0
      have m1 : Blk (V.putObj D (.deferred none)) (w.heap.size + 1) 3 #[.int .i64 (S.size : Int)] := (World.putObj_heap_other (by omega)).trans y1
      have m2 : Blk (V.putObj D (.deferred none)) (w.heap.size + 2) 22 #[.int .i64 80] := (World.putObj_heap_other (by omega)).trans y2
      have c0 : (V.putObj D (.deferred none)).cell? ⟨w.heap.size, 0, none⟩ = some (.slice none 0 0) := by rw [m0.cell]; rfl
      have c0' : (V.putObj D (.deferred none)).cell? ⟨w.heap.size, 1, none⟩ = some (.slice none 0 0) := by rw [m0.cell]; rfl
      have c1 : (V.putObj D (.deferred none)).cell? ⟨w.heap.size + 1, 0, none⟩ = some (.int .i64 (S.size : Int)) := by rw [m1.cell]; rfl
      have c2 : (V.putObj D (.deferred none)).cell? ⟨w.heap.size + 1 + 1, 0, none⟩ = some (.int .i64 80) := (by rw [show w.heap.size + 1 + 1 = w.heap.size + 2 from rfl, m2.cell]; rfl)
      refine ⟨by simp, .inl ⟨_, _, rfl, run_takeDeferred yD, ?_⟩⟩
      refine ⟨.tuple #[.agg #[(.slice none 0 0), (.slice none 0 0)], .int .i64 (S.size : Int), .int .i64 80], ?_, (.slice none 0 0), (.slice none 0 0), (by rw [HSP.out]), (by rw [HSP.out]; exact World.ownsRow_nil _ _ _ _), (by rw [HSP.out]; exact World.ownsRow_nil _ _ _ _), Later.mk_of (yB.trans (belowK_b (w := w) (Nat.le_refl _) _ D _ _ (by omega) yD rfl rfl))⟩
      clear m0 m1 m2 y0 y1 y2 yB
      simp [results, go_sem, c0, c0', c1, c2]
    · have hd : decide ((0 : Int) < (s.left : Int)) = false := by simp; omega
      have hd2 : decide (0 < s.left) = false := by simp; omega
      have hck := check_c s.vb s.pt vv pv W (intsAt_own H2.out.vown) (ptsAt_own H2.out.pown)
      have HSZ : spR l = if chk s.vb s.pt ≠ 0 then ([], [], 0, chk s.vb s.pt) else (s.vb, s.pt, 0, 0) := by unfold spR; rw [hgo]; exact if_neg hleft
      generalize chk s.vb s.pt = E at *
      have HCK := Lib.hid hck
      have nv0 := own_far (b := w.heap.size) H2.out.vown (by omega)
      have nv1 := own_far (b := w.heap.size + 1) H2.out.vown (by omega)
      have nv2 := own_far (b := w.heap.size + 1 + 1) H2.out.vown (by omega)
      have np0 := own_far (b := w.heap.size) H2.out.pown (by omega)
      have np1 := own_far (b := w.heap.size + 1) H2.out.pown (by omega)
      have np2 := own_far (b := w.heap.size + 1 + 1) H2.out.pown (by omega)
      clear hck hgo h1
      by_cases hE : E = 0
      · have HSP : Hid (spR l = (s.vb, s.pt, 0, 0)) := Lib.hid (by rw [HSZ, if_neg (by simpa using hE)])
        subst hE
        clear HSZ
        obtain ⟨av, lv, cv, rfl⟩ := own_slice H2.out.vown
        obtain ⟨ap, lp, cp, rfl⟩ := own_slice H2.out.pown
        go_wp2_with (go_at_call 33; (with_reducible refine (HCK.out).mono ?_); rintro e _ ⟨rfl, xc, rfl⟩)
        have y0 : Blk ((((xc.out.setCell ⟨w.heap.size, 0, none⟩ (.slice av lv cv)).setCell ⟨w.heap.size, 1, none⟩ (.slice ap lp cp)).setCell ⟨w.heap.size + 1, 0, none⟩ (.int .i64 0)).setCell ⟨w.heap.size + 1 + 1, 0, none⟩ (.int .i64 0)) w.heap.size 31 #[(.slice av lv cv), (.slice ap lp cp)] := (((((H5.out.later xc).set 0 _).set 1 _).other _ _ (by omega)).other _ _ (by omega)).eq (by simp)
        have y1 : Blk ((((xc.out.setCell ⟨w.heap.size, 0, none⟩ (.slice av lv cv)).setCell ⟨w.heap.size, 1, none⟩ (.slice ap lp cp)).setCell ⟨w.heap.size + 1, 0, none⟩ (.int .i64 0)).setCell ⟨w.heap.size + 1 + 1, 0, none⟩ (.int .i64 0)) (w.heap.size + 1) 3 #[.int .i64 0] := (((((H6.out.later xc).other _ _ (by omega)).other _ _ (by omega)).set 0 _).other _ _ (by omega)).eq (by simp)
        have y2 : Blk ((((xc.out.setCell ⟨w.heap.size, 0, none⟩ (.slice av lv cv)).setCell ⟨w.heap.size, 1, none⟩ (.slice ap lp cp)).setCell ⟨w.heap.size + 1, 0, none⟩ (.int .i64 0)).setCell ⟨w.heap.size + 1 + 1, 0, none⟩ (.int .i64 0)) (w.heap.size + 2) 22 #[.int .i64 0] := (((((H7.out.later xc).other _ _ (by omega)).other _ _ (by omega)).other _ _ (by omega)).set 0 _).eq (by simp)
        have hDl : D < W.heap.size := (Array.getElem?_eq_some_iff.1 HKD.out).1
        have yD : ((((xc.out.setCell ⟨w.heap.size, 0, none⟩ (.slice av lv cv)).setCell ⟨w.heap.size, 1, none⟩ (.slice ap lp cp)).setCell ⟨w.heap.size + 1, 0, none⟩ (.int .i64 0)).setCell ⟨w.heap.size + 1 + 1, 0, none⟩ (.int .i64 0)).heap[D]? = some (.deferred (some [])) := (Below.heap_setCell _ _ _ _ (by simp; omega)).trans ((Below.heap_setCell _ _ _ _ (by simp; omega)).trans ((Below.heap_setCell _ _ _ _ (by simp; omega)).trans ((Below.heap_setCell _ _ _ _ (by simp; omega)).trans ((xc.below.block D hDl).trans HKD.out))))
        have yB : Below w.heap.size w ((((xc.out.setCell ⟨w.heap.size, 0, none⟩ (.slice av lv cv)).setCell ⟨w.heap.size, 1, none⟩ (.slice ap lp cp)).setCell ⟨w.heap.size + 1, 0, none⟩ (.int .i64 0)).setCell ⟨w.heap.size + 1 + 1, 0, none⟩ (.int .i64 0)) := Below.setCell (Below.setCell (Below.setCell (Below.setCell (H8.out.trans (xc.below.mono H8.out.size)) (by simp) _) (by simp) _) (by simp) _) (by simp; omega) _
        have rv := Go.ownsRow_setCell_other (Go.ownsRow_setCell_other (Go.ownsRow_setCell_other (Go.ownsRow_setCell_other (own_later H2.out.vown xc) (a := ⟨w.heap.size, 0, none⟩) nv0 (.slice av lv cv)) (a := ⟨w.heap.size, 1, none⟩) nv0 (.slice ap lp cp)) (a := ⟨w.heap.size + 1, 0, none⟩) nv1 (.int .i64 0)) (a := ⟨w.heap.size + 1 + 1, 0, none⟩) nv2 (.int .i64 0)
        have rp := Go.ownsRow_setCell_other (Go.ownsRow_setCell_other (Go.ownsRow_setCell_other (Go.ownsRow_setCell_other (own_later H2.out.pown xc) (a := ⟨w.heap.size, 0, none⟩) np0 (.slice av lv cv)) (a := ⟨w.heap.size, 1, none⟩) np0 (.slice ap lp cp)) (a := ⟨w.heap.size + 1, 0, none⟩) np1 (.int .i64 0)) (a := ⟨w.heap.size + 1 + 1, 0, none⟩) np2 (.int .i64 0)
        generalize (((xc.out.setCell ⟨w.heap.size, 0, none⟩ (.slice av lv cv)).setCell ⟨w.heap.size, 1, none⟩ (.slice ap lp cp)).setCell ⟨w.heap.size + 1, 0, none⟩ (.int .i64 0)).setCell ⟨w.heap.size + 1 + 1, 0, none⟩ (.int .i64 0) = V at *
        have m0 : Blk (V.putObj D (.deferred none)) w.heap.size 31 #[(.slice av lv cv), (.slice ap lp cp)] := (World.putObj_heap_other (by omega)).trans y0
        have m1 : Blk (V.putObj D (.deferred none)) (w.heap.size + 1) 3 #[.int .i64 0] := (World.putObj_heap_other (by omega)).trans y1
        have m2 : Blk (V.putObj D (.deferred none)) (w.heap.size + 2) 22 #[.int .i64 0] := (World.putObj_heap_other (by omega)).trans y2
        have c0 : (V.putObj D (.deferred none)).cell? ⟨w.heap.size, 0, none⟩ = some (.slice av lv cv) := by rw [m0.cell]; rfl
        have c0' : (V.putObj D (.deferred none)).cell? ⟨w.heap.size, 1, none⟩ = some (.slice ap lp cp) := by rw [m0.cell]; rfl
        have c1 : (V.putObj D (.deferred none)).cell? ⟨w.heap.size + 1, 0, none⟩ = some (.int .i64 0) := by rw [m1.cell]; rfl
        have c2 : (V.putObj D (.deferred none)).cell? ⟨w.heap.size + 1 + 1, 0, none⟩ = some (.int .i64 0) := (by rw [show w.heap.size + 1 + 1 = w.heap.size + 2 from rfl, m2.cell]; rfl)
        refine ⟨by simp, .inl ⟨_, _, rfl, run_takeDeferred yD, ?_⟩⟩
        refine ⟨.tuple #[.agg #[(.slice av lv cv), (.slice ap lp cp)], .int .i64 0, .int .i64 0], ?_, (.slice av lv cv), (.slice ap lp cp), (by rw [HSP.out]), (by rw [HSP.out]; exact (rv.kept (grownBy_putObj' V D (.deferred none)) (own_row rv yD))), (by rw [HSP.out]; exact (rp.kept (grownBy_putObj' V D (.deferred none)) (own_row rp yD))), Later.mk_of (yB.trans (belowK_b (w := w) (Nat.le_refl _) _ D _ _ (by omega) yD rfl rfl))⟩
        clear m0 m1 m2 y0 y1 y2 yB
        simp [results, go_sem, c0, c0', c1, c2]
      · have HSP : Hid (spR l = ([], [], 0, E)) := Lib.hid (by rw [HSZ, if_pos hE])
        have e1 : (E != 0) = true := by simpa using hE
        have e2 : (E == 0) = false := by simpa using hE
        clear HSZ hE
        go_wp2_with (go_at_call 33; (with_reducible refine (HCK.out).mono ?_); rintro e _ ⟨rfl, xc, rfl⟩)
        have y0 : Blk ((((xc.out.setCell ⟨w.heap.size, 0, none⟩ (.slice none 0 0)).setCell ⟨w.heap.size, 1, none⟩ (.slice none 0 0)).setCell ⟨w.heap.size + 1, 0, none⟩ (.int .i64 0)).setCell ⟨w.heap.size + 1 + 1, 0, none⟩ (.int .i64 E)) w.heap.size 31 #[(.slice none 0 0), (.slice none 0 0)] := (((((H5.out.later xc).set 0 _).set 1 _).other _ _ (by omega)).other _ _ (by omega)).eq (by simp)
        have y1 : Blk ((((xc.out.setCell ⟨w.heap.size, 0, none⟩ (.slice none 0 0)).setCell ⟨w.heap.size, 1, none⟩ (.slice none 0 0)).setCell ⟨w.heap.size + 1, 0, none⟩ (.int .i64 0)).setCell ⟨w.heap.size + 1 + 1, 0, none⟩ (.int .i64 E)) (w.heap.size + 1) 3 #[.int .i64 0] := (((((H6.out.later xc).other _ _ (by omega)).other _ _ (by omega)).set 0 _).other _ _ (by omega)).eq (by simp)
        have y2 : Blk ((((xc.out.setCell ⟨w.heap.size, 0, none⟩ (.slice none 0 0)).setCell ⟨w.heap.size, 1, none⟩ (.slice none 0 0)).setCell ⟨w.heap.size + 1, 0, none⟩ (.int .i64 0)).setCell ⟨w.heap.size + 1 + 1, 0, none⟩ (.int .i64 E)) (w.heap.size + 2) 22 #[.int .i64 E] := (((((H7.out.later xc).other _ _ (by omega)).other _ _ (by omega)).other _ _ (by omega)).set 0 _).eq (by simp)
        have hDl : D < W.heap.size := (Array.getElem?_eq_some_iff.1 HKD.out).1
        have yD : ((((xc.out.setCell ⟨w.heap.size, 0, none⟩ (.slice none 0 0)).setCell ⟨w.heap.size, 1, none⟩ (.slice none 0 0)).setCell ⟨w.heap.size + 1, 0, none⟩ (.int .i64 0)).setCell ⟨w.heap.size + 1 + 1, 0, none⟩ (.int .i64 E)).heap[D]? = some (.deferred (some [])) := (Below.heap_setCell _ _ _ _ (by simp; omega)).trans ((Below.heap_setCell _ _ _ _ (by simp; omega)).trans ((Below.heap_setCell _ _ _ _ (by simp; omega)).trans ((Below.heap_setCell _ _ _ _ (by simp; omega)).trans ((xc.below.block D hDl).trans HKD.out))))
        have yB : Below w.heap.size w ((((xc.out.setCell ⟨w.heap.size, 0, none⟩ (.slice none 0 0)).setCell ⟨w.heap.size, 1, none⟩ (.slice none 0 0)).setCell ⟨w.heap.size + 1, 0, none⟩ (.int .i64 0)).setCell ⟨w.heap.size + 1 + 1, 0, none⟩ (.int .i64 E)) := Below.setCell (Below.setCell (Below.setCell (Below.setCell (H8.out.trans (xc.below.mono H8.out.size)) (by simp) _) (by simp) _) (by simp) _) (by simp; omega) _
        skip
        generalize (((xc.out.setCell ⟨w.heap.size, 0, none⟩ (.slice none 0 0)).setCell ⟨w.heap.size, 1, none⟩ (.slice none 0 0)).setCell ⟨w.heap.size + 1, 0, none⟩ (.int .i64 0)).setCell ⟨w.heap.size + 1 + 1, 0, none⟩ (.int .i64 E) = V at *
        have m0 : Blk (V.putObj D (.deferred none)) w.heap.size 31 #[(.slice none 0 0), (.slice none 0 0)] := (World.putObj_heap_other (by omega)).trans y0
        have m1 : Blk (V.putObj D (.deferred none)) (w.heap.size + 1) 3 #[.int .i64 0] := (World.putObj_heap_other (by omega)).trans y1
        have m2 : Blk (V.putObj D (.deferred none)) (w.heap.size + 2) 22 #[.int .i64 E] := (World.putObj_heap_other (by omega)).trans y2
        have c0 : (V.putObj D (.deferred none)).cell? ⟨w.heap.size, 0, none⟩ = some (.slice none 0 0) := by rw [m0.cell]; rfl
        have c0' : (V.putObj D (.deferred none)).cell? ⟨w.heap.size, 1, none⟩ = some (.slice none 0 0) := by rw [m0.cell]; rfl
        have c1 : (V.putObj D (.deferred none)).cell? ⟨w.heap.size + 1, 0, none⟩ = some (.int .i64 0) := by rw [m1.cell]; rfl
        have c2 : (V.putObj D (.deferred none)).cell? ⟨w.heap.size + 1 + 1, 0, none⟩ = some (.int .i64 E) := (by rw [show w.heap.size + 1 + 1 = w.heap.size + 2 from rfl, m2.cell]; rfl)
        refine ⟨by simp, .inl ⟨_, _, rfl, run_takeDeferred yD, ?_⟩⟩
        refine ⟨.tuple #[.agg #[(.slice none 0 0), (.slice none 0 0)], .int .i64 0, .int .i64 E], ?_, (.slice none 0 0), (.slice none 0 0), (by rw [HSP.out]), (by rw [HSP.out]; exact World.ownsRow_nil _ _ _ _), (by rw [HSP.out]; exact World.ownsRow_nil _ _ _ _), Later.mk_of (yB.trans (belowK_b (w := w) (Nat.le_refl _) _ D _ _ (by omega) yD rfl rfl))⟩
        clear m0 m1 m2 y0 y1 y2 yB
        simp [results, go_sem, c0, c0', c1, c2]
  case ret =>
    rintro D W hD ⟨⟨k, x, s, hx, h1, hsw, hb1⟩, hb0, hb2, hB⟩ hK
    have hgo := goW_bad _ _ _ k x hx h1 hsw
    have hsp : spR l = ([], [], (x.1 : Int), 80) := by unfold spR; rw [hgo]
    rw [hsp]
    rw [sz] at hD
    have m0 : Blk (W.putObj D (.deferred none)) w.heap.size 31 #[.slice none 0 0, .slice none 0 0] := (World.putObj_heap_other (by omega)).trans hb0
    have m1 : Blk (W.putObj D (.deferred none)) (w.heap.size + 1) 3 #[.int .i64 (x.1 : Int)] := (World.putObj_heap_other (by omega)).trans hb1
    have m2 : Blk (W.putObj D (.deferred none)) (w.heap.size + 2) 22 #[.int .i64 80] := (World.putObj_heap_other (by omega)).trans hb2
    have c0 : (W.putObj D (.deferred none)).cell? ⟨w.heap.size, 0, none⟩ = some (.slice none 0 0) := by rw [m0.cell]; rfl
    have c0' : (W.putObj D (.deferred none)).cell? ⟨w.heap.size, 1, none⟩ = some (.slice none 0 0) := by rw [m0.cell]; rfl
    have c1 : (W.putObj D (.deferred none)).cell? ⟨w.heap.size + 1, 0, none⟩ = some (.int .i64 (x.1 : Int)) := by rw [m1.cell]; rfl
    have c2 : (W.putObj D (.deferred none)).cell? ⟨w.heap.size + 1 + 1, 0, none⟩ = some (.int .i64 80) := (by rw [show w.heap.size + 1 + 1 = w.heap.size + 2 from rfl, m2.cell]; rfl)
    refine ⟨by simp, .inl ⟨_, _, rfl, run_takeDeferred hK, ?_⟩⟩
    refine ⟨.tuple #[.agg #[.slice none 0 0, .slice none 0 0], .int .i64 (x.1 : Int), .int .i64 80], ?_, .slice none 0 0, .slice none 0 0, rfl, World.ownsRow_nil _ _ _ _, World.ownsRow_nil _ _ _ _, ?_⟩
    · clear m0 m1 m2 hb0 hb1 hb2 hsp hgo
      simp [results, go_sem, c0, c0', c1, c2]
    · exact Later.mk_of (hB.trans (belowK_b (w := w) (Nat.le_refl _) _ D _ _ (by omega) hK rfl rfl))
end Go.Proofs.YtjmagehfkcnjjaaGreatDoor

/-
  The lengths of a chain, from its beginning to each corner.
-/
import Derived.Test.YtcdnekhpeghkiaaD2
import Derived.Test.YtcdnekhpeghkiaaOne
import Derived.Test.YtcdnekhpeghkiaaT3
namespace Go.Proofs.Ytcdnekhpeghkiaa
set_option linter.unusedVariables false
open Go.RowKit Go.Shelf
attribute [local go_sem] Oper.semAt_some

theorem infoInt : ∃ i, Try.prog.info? 3 = some i ∧ i.zero = some (.int .i64 0) ∧ i.size = 1 ∧ i.bytes = 8 := by
  have h : (Try.prog.info? 3).map (fun i => (i.zero, i.size, i.bytes)) = some (some (.int .i64 0), 1, 8) := by kernel_rfl
  cases e : Try.prog.info? 3 with
  | none => rw [e] at h; cases h
  | some i =>
    rw [e] at h
    simp only [Option.map_some, Option.some.injEq, Prod.mk.injEq] at h
    exact ⟨i, rfl, h.1, h.2.1, h.2.2⟩
/-- a row that the text owns is no block of another type -/
theorem own_ne {W : World} {base size n : Nat} {e T : TypeId} {v : Value} {xs : List Value} {b : Nat} {c : Array Value} (h : W.ownsRow base e size v n xs) (hb : Blk W b T c) (hne : T ≠ e) : v.ownBlock ≠ some b := by
  rcases h.2 with ⟨rfl, _⟩ | ⟨g, cap, cur, rfl, _, hg, _⟩
  · intro k; cases k
  · intro k
    simp only [Value.ownBlock, Option.some.injEq] at k
    subst k
    unfold Blk at hb
    rw [hb] at hg
    simp only [Option.some.injEq, Obj.cells.injEq] at hg
    exact hne hg.2.1
theorem own_keeps {W W' : World} {base size n : Nat} {e : TypeId} {v : Value} {xs : List Value} (h : W.ownsRow base e size v n xs) (hg : W.grownBy W' v.ownBlock) : KeepsOthers W W' := by
  refine ⟨hg.size, fun k o hk ho => (hg.block k (Array.getElem?_eq_some_iff.1 hk).1 (fun e' => ?_)).trans hk⟩
  rcases h.2 with ⟨rfl, _⟩ | ⟨g, cap, cur, rfl, _, hgg, _⟩
  · cases e'
  · simp only [Value.ownBlock, Option.some.injEq] at e'
    subst e'
    rw [hgg] at hk
    obtain rfl := Option.some.inj hk
    cases ho
theorem Blk.apart {W W' : World} {b base size n : Nat} {e T : TypeId} {c : Array Value} {v : Value} {xs : List Value} (h : Blk W b T c) (ho : W.ownsRow base e size v n xs) (hne : T ≠ e) (hg : W.grownBy W' v.ownBlock) : Blk W' b T c :=
  (hg.block b h.lt (fun e' => own_ne ho h hne e'.symm)).trans h
/-- a row of a kind, kept where what turned holds no cells -/
theorem own_kept {W W' : World} {base size n : Nat} {e : TypeId} {v : Value} {xs : List Value} {row : Option Nat} (h : W.ownsRow base e size v n xs) (hg : W.grownBy W' row) (hr : ∀ r, row = some r → ∃ o : Obj, W.heap[r]? = some o ∧ o.isCells = false) : W'.ownsRow base e size v n xs := by
  refine h.kept hg ?_
  rcases h.2 with ⟨rfl, _⟩ | ⟨g, cap, cur, rfl, _, hgg, _⟩
  · exact .inl rfl
  · refine .inr (fun e' => ?_)
    obtain ⟨o, ho, hc⟩ := hr g e'.symm
    rw [hgg] at ho
    obtain rfl := Option.some.inj ho
    cases hc
theorem one_new {W : World} {g : Nat} {T : TypeId} {u : Value} (h : Blk W g T #[u]) : ∀ j v, ([u] : List Value)[j]? = some v → W.cell? ((⟨g, 0, none⟩ : Addr).add j) = some v := by
  intro j v hv
  rw [Addr.add_mid, Nat.zero_add, h.cell]
  simpa using hv
theorem one_cell (x : Int) : ∀ v ∈ ([.int .i64 x] : List Value), v.oneCell' = true := by
  intro v hv
  simp only [List.mem_cons, List.not_mem_nil, or_false] at hv
  subst hv
  rfl
theorem KeepsAll.two {W W' : World} {g n c b1 b2 : Nat} (hg : W.grownBy W' (Value.slice (some ⟨g, 0, none⟩) n c).ownBlock) (h1 : b1 < W.heap.size) (h2 : b2 < W.heap.size) (n1 : g ≠ b1) (n2 : g ≠ b2) : KeepsAll [b1, b2] W W' := by
  refine KeepsAll.grown hg (fun b hb => ?_)
  simp only [List.mem_cons, List.not_mem_nil, or_false] at hb
  simp only [Value.ownBlock, ne_eq, Option.some.injEq]
  rcases hb with rfl | rfl
  · exact ⟨h1, n1⟩
  · exact ⟨h2, n2⟩
def lns (C : Ch) (k : Nat) : List Value := (List.range (k + 1)).map fun i => .int .i64 (C.ln i)
theorem lns_len (C : Ch) (k : Nat) : (lns C k).length = k + 1 := by simp [lns]
theorem lns_at (C : Ch) (k i : Nat) (h : i ≤ k) : (lns C k)[i]? = some (.int .i64 (C.ln i)) := by
  unfold lns
  rw [List.getElem?_map, List.getElem?_range (by omega)]
  rfl
theorem lns_succ (C : Ch) (k : Nat) : lns C k ++ [.int .i64 (C.ln (k + 1))] = lns C (k + 1) := by
  unfold lns
  rw [List.range_succ (n := k + 1), List.map_append]
  rfl
/-- what Lens hands back -/
def LRet (w : World) (C : Ch) (e : Ending) (w' : World) : Prop :=
  ∃ g cap, e = .returned (.slice (some ⟨g, 0, none⟩) (C.m + 1) cap) ∧ w'.ownsRow w.heap.size 3 1 (.slice (some ⟨g, 0, none⟩) (C.m + 1) cap) (C.m + 1) (lns C C.m) ∧ ∃ x : Later w, w' = x.out
/-- the state of the lengths, k chords on -/
structure LI (w : World) (C : Ch) (c : Array Value) (k : Nat) (g cap : Nat) (W : World) : Prop where
  size : w.heap.size + 1 + 1 + 1 + 1 ≤ W.heap.size
  own : W.ownsRow w.heap.size 3 1 (.slice (some ⟨g, 0, none⟩) (k + 1) cap) (k + 1) (lns C k)
  box : Blk W (w.heap.size + 1 + 1) 44 #[.slice (some ⟨g, 0, none⟩) (k + 1) cap]
  cbox : Blk W (w.heap.size + 1 + 1 + 1) 36 c
  below : Below w.heap.size w W
theorem LI.kept {w : World} {C : Ch} {c : Array Value} {k g cap : Nat} {A B : World} {row : Option Nat} (h : LI w C c k g cap A) (hg : A.grownBy B row) (hr : ∀ r, row = some r → w.heap.size ≤ r ∧ ∃ o : Obj, A.heap[r]? = some o ∧ o.isCells = false) : LI w C c k g cap B :=
  ⟨Nat.le_trans h.size hg.size, own_kept h.own hg (fun r e => (hr r e).2), h.box.kept hg (fun r e => (hr r e).2), h.cbox.kept hg (fun r e => (hr r e).2), h.below.grown hg h.below.size (fun j e => (hr j e).1)⟩


set_option maxRecDepth 100000 in
set_option maxHeartbeats 4000000 in
theorem lens_c (cl : Bool) (pts : List (Int × Int)) (g : GoodC cl pts) (sv : Value) (w : World) (h : PtsAt w sv pts) : Calls Try.prog 21 #[.agg #[sv, .bool cl]] w (LRet w g.ch) := by
  obtain ⟨Bp, o, c, rfl, hc, hm, hp⟩ := h.ptsB g.n1
  have HP := Lib.hid hp
  have G := Lib.hid g
  have hBp := hp.lt
  have n1 := g.n1
  have n9 := g.n9
  have m9 := g.m_le
  have hlm : g.ch.m = mch cl pts := rfl
  obtain ⟨i0, hi0, hz0, hz1, hz2⟩ := infoInt
  generalize hC : g.ch = C at *
  have HC := Lib.hid hC
  have HLM := Lib.hid hlm
  clear hp hC hlm
  generalize hn : pts.length = n at *
  have HN := Lib.hid hn
  clear hn
  refine (callsIn_wide (n := 4)).1 ?_
  refine callsIn_of_wp_marks Try.func21 rfl trivial ?_ rfl
  simp only [Try.ntmps21, List.size_toArray, List.length_cons, List.length_nil, Nat.reduceAdd, Nat.reduceSub, Array.replicate_succ, Array.replicate_zero, List.push_toArray, List.append_toArray, List.nil_append, List.cons_append]
  refine wpIn_wide.2 ?_
  go_wp2_with (first | (go_at_call 40; refine (chords_c _ _ _).mono ?_; rintro e _ ⟨rfl, rfl⟩))
  refine (wpIn_wide (n := 4)).1 ?_
  generalize hW2 : (((w.alloc (.cells #[.slice (some ⟨Bp, o, none⟩) n c, .bool cl] 36)).alloc (.cells #[.int .i64 0] 3)).alloc (.cells #[.slice (some ⟨w.heap.size + 1, 0, none⟩) 1 1] 44)).alloc (.cells #[.slice (some ⟨Bp, o, none⟩) n c, .bool cl] 36) = W2
  have sz : W2.heap.size = w.heap.size + 4 := by rw [← hW2]; simp
  have hbW : Below w.heap.size w W2 := by rw [← hW2]; (repeat (first | (with_reducible assumption) | (with_reducible exact Below.refl _ _) | (with_reducible refine Later.after ?_ _) | (with_reducible refine Later.newer ?_ _) | (with_reducible refine Below.drew ?_) | (with_reducible refine Below.setCell ?_ (by first | exact Nat.le_refl _ | exact Nat.le_add_right _ _ | omega | (simp [go_sem]; done) | (simp [go_sem]; omega)) _)))
  have hbc : Blk W2 (w.heap.size + 1 + 1 + 1) 36 #[.slice (some ⟨Bp, o, none⟩) n c, .bool cl] := by rw [← hW2]; exact Blk.new' (by simp)
  have hbn : Blk W2 (w.heap.size + 1 + 1) 44 #[.slice (some ⟨w.heap.size + 1, 0, none⟩) 1 1] := by rw [← hW2]; exact (Blk.new' (by simp)).alloc _
  have how : W2.ownsRow w.heap.size 3 1 (.slice (some ⟨w.heap.size + 1, 0, none⟩) 1 1) 1 [.int .i64 0] := by
    rw [← hW2]
    have h := World.ownsRow_lit (base := w.heap.size) (e := 3) (size := 1) (w.alloc (.cells #[.slice (some ⟨Bp, o, none⟩) n c, .bool cl] 36)) #[.int .i64 0] 1 (by simp) (by unfold maxLen; omega) rfl
    rw [World.size_alloc] at h
    exact (h.alloc _).alloc _
  have hpW : PtsB W2 Bp o pts := HP.out.below hbW hBp
  clear hW2
  have hIs : LI w C #[.slice (some ⟨Bp, o, none⟩) n c, .bool cl] 0 (w.heap.size + 1) 1 W2 := ⟨by rw [sz]; omega, how, hbn, hbc, hbW⟩
  refine wpIn_rangeFunc_lst rfl (by omega) (gf := 58) rfl trivial (enters_of Try.func58 (by kernel_rfl) rfl)
    (chords_seq cl pts (w.heap.size + 1 + 1 + 1) Bp o n c W2 HN.out n1 n9 hc hbc hpW) (fun h k => h.trans k)
    (fun W l o o' hl h hc _ => KeepsAll.putObj _ (by intro b hb; simp only [List.mem_cons, List.not_mem_nil, or_false] at hb; rw [sz] at hl; rcases hb with rfl | rfl <;> omega)) (Below.refl _ _) (fun _ => rfl)
    (fun k W => ∃ gg cap, LI w C #[.slice (some ⟨Bp, o, none⟩) n c, .bool cl] k gg cap W) ?own ?start
    (fun k x a' W => ∃ (v0 v1 v2 v6 v7 v8 v9 v10 v11 v12 v13 v14 v15 v16 v17 v18 v19 v20 v21 v22 v23 v24 v25 : Value) (g4 g5 gg cap : Nat), Blk W g4 23 #[.int .i64 x.1.1, .int .i64 x.1.2] ∧ Blk W g5 23 #[.int .i64 x.2.1, .int .i64 x.2.2] ∧ LI w C #[.slice (some ⟨Bp, o, none⟩) n c, .bool cl] k gg cap W ∧
      a' = ⟨#[v0, v1, v2, .pointer (some ⟨w.heap.size + 1 + 1, 0, none⟩), .pointer (some ⟨g4, 0, none⟩), .pointer (some ⟨g5, 0, none⟩), v6, v7, v8, v9, v10, v11, v12, v13, v14, v15, v16, v17, v18, v19, v20, v21, v22, v23, v24, v25], []⟩)
    ?ownM ?assign ?body ?done
  case own =>
    rintro k A B row ⟨gg, cap, hI⟩ hg hr
    exact ⟨gg, cap, hI.kept hg (fun r e => ⟨by have := (hr r e).1; rw [sz] at this; omega, (hr r e).2⟩)⟩
  case start => exact ⟨_, _, hIs⟩
  case ownM =>
    rintro k x a' s A B row ⟨v0, v1, v2, v6, v7, v8, v9, v10, v11, v12, v13, v14, v15, v16, v17, v18, v19, v20, v21, v22, v23, v24, v25, g4, g5, gg, cap, h4, h5, hI, ha⟩ hg hr
    have hr' : ∀ r, row = some r → ∃ o : Obj, A.heap[r]? = some o ∧ o.isCells = false := fun r e => (hr r e).2
    exact ⟨v0, v1, v2, v6, v7, v8, v9, v10, v11, v12, v13, v14, v15, v16, v17, v18, v19, v20, v21, v22, v23, v24, v25, g4, g5, gg, cap, h4.kept hg hr', h5.kept hg hr', hI.kept hg (fun r e => ⟨by have := (hr r e).1; rw [sz] at this; omega, (hr r e).2⟩), ha⟩
  case assign =>
    rintro l k ⟨⟨p0, p1⟩, ⟨z0, z1⟩⟩ W K hx ⟨gg, cap, hI⟩ hK
    have HK := Lib.hid hK
    have HI := Lib.hid hI
    have l9 := hI.size
    clear hK hI
    simp only [encC]
    gi_wp2
    exact HK.out _ _ (((KeepsOthers.alloc W _).trans (KeepsOthers.alloc _ _)).from _) (KeepsAll.below (B := W.heap.size) ((Below.refl _ _).alloc (Nat.le_refl _) _ |>.alloc (by simp) _) (by intro b hb; simp only [List.mem_cons, List.not_mem_nil, or_false] at hb; rcases hb with rfl | rfl <;> omega))
      ⟨_, _, _, _, _, _, _, _, _, _, _, _, _, _, _, _, _, _, _, _, _, _, _, W.heap.size, W.heap.size + 1, gg, cap, (Blk.new _ _ _).alloc _, Blk.new' (by simp), (HI.out.kept (grownA _ _) (fun r e => by cases e)).kept (grownA _ _) (fun r e => by cases e), rfl⟩
  case body =>
    rintro l k x a' W hx ⟨v0, v1, v2, v6, v7, v8, v9, v10, v11, v12, v13, v14, v15, v16, v17, v18, v19, v20, v21, v22, v23, v24, v25, g4, g5, gg, cap, h4, h5, hI, rfl⟩
    obtain ⟨hk, rfl⟩ := chds_is hx
    have hln : C.ln (k + 1) = C.ln k + dst (cor pts k) (cor pts (k + 1)) := by rw [← HC.out]; rfl
    have hk9 : k < 100 := by have := HLM.out; omega
    have hmx : C.ln (k + 1) ≤ 2147483648 * 100 := by
      have h1 := G.out.ln_le (k + 1)
      rw [HC.out] at h1
      have : ((k + 1 : Nat) : Int) ≤ 100 := by omega
      omega
    have hl0 : 0 ≤ C.ln k := C.ln_pos k (by have := HLM.out; omega)
    have na := G.out.near _ (cor_mem pts k (by rw [HN.out]; exact n1))
    have nb := G.out.near _ (cor_mem pts (k + 1) (by rw [HN.out]; exact n1))
    have hs := fun v => sub_near _ _ na nb v
    have hl := fun v => len_near _ _ na nb v
    have hd0 := (dst_root (cor pts k) (cor pts (k + 1))).r0
    simp only [] at h4 h5
    generalize dst (cor pts k) (cor pts (k + 1)) = d at *
    generalize cor pts k = p at *
    generalize cor pts (k + 1) = q at *
    obtain ⟨p0, p1⟩ := p
    obtain ⟨z0, z1⟩ := q
    simp only [] at h4 h5 hs hl
    have e2 : IntKind.i64.wrap (C.ln k + d) = C.ln (k + 1) := by rw [IntWalk.i64_in _ (by omega)]; omega
    have e3 : C.ln k + d = C.ln (k + 1) := hln.symm
    have q0 : W.cell? ⟨gg, k, none⟩ = some (.int .i64 (C.ln k)) := by rw [hI.own.cellAt k (by omega)]; exact lns_at C k k (Nat.le_refl _)
    have lg := (hI.own.lt gg rfl).2
    have lg0 := (hI.own.lt gg rfl).1
    obtain ⟨K, hKK⟩ : ∃ K, K = k + 1 := ⟨_, rfl⟩
    have bx := hI.box
    rw [← hKK] at bx
    have d3 : (K : Int) - 1 = (k : Int) := by omega
    have d1 : IntKind.i64.wrap ((K : Int) - 1) = (k : Int) := by rw [IntWalk.i64_in _ (by omega)]; omega
    have d2 : wrap64 ((K : Int) - 1) = (k : Int) := by unfold wrap64; omega
    have k0 : (0 : Int) ≤ k := by omega
    have kK : k < K := by omega
    have l9 := hI.size
    have HS := Lib.hid hs
    have HL := Lib.hid hl
    have HI := Lib.hid hI
    have HKK := Lib.hid hKK
    obtain ⟨a1, a2, a3⟩ := bx.all
    obtain ⟨c1, c2, c3⟩ := h4.all
    obtain ⟨d1', d2', d3'⟩ := h5.all
    clear hI hs hl h4 h5 na nb bx hKK hln
    gi_wp2
    refine wpIn_region_one [0, 1, 2, 3, 4, 5, 6, 7, 8, 9, 10, 11] 12 [13, 14] (fun g => .slice (some ⟨g, 0, none⟩) 1 1) (.cells #[.int .i64 (C.ln (k + 1))] 3) (by kernel_rfl) (by kernel_rfl) (by kernel_rfl) (by kernel_rfl) (by kernel_rfl) (noInit_of (by kernel_rfl)) (fun y => ?_)
    simp only [pick, List.getElem?_cons_zero, List.getElem?_cons_succ]
    repeat (go_big_quiet_step ((first | (go_at_call 42; with_reducible exact Later.call _ (HS.out _)) | (go_at_call 41; with_reducible exact Later.call _ (HL.out _)))))
    refine wpQuiet_nil ?_
    refine ⟨(by intro o ho; obtain rfl := Option.some.inj ho; refine ⟨rfl, fun wc => ?_⟩; simp [execOp, go_sem]; done), ?_⟩
    intro g x hg hx
    simp only [dstOf, List.getElem?_toArray, List.getElem?_cons_succ, List.getElem?_cons_zero, Option.bind_some, Act.put, List.setIfInBounds_toArray, List.set_cons_succ, List.set_cons_zero]
    have bg : Blk x.out g 3 #[.int .i64 (C.ln (k + 1))] := hx
    have how := own_later HI.out.own x
    rw [← HKK.out] at how
    have HOW := Lib.hid how
    have HG := Lib.hid bg
    clear hx bg how
    gi_wp2_with (gi_at_builtin; refine wpListIn_append_own _ rfl _ _ 44 rfl w.heap.size 3 i0 (.int .i64 0) 1 8 Try.underlying44 hi0 hz0 hz1 hz2 rfl (by decide) _ _ _ rfl HOW.out ⟨g, 0, none⟩ 1 1 [.int .i64 (C.ln (k + 1))] rfl rfl (one_new HG.out) (one_cell _) (by unfold maxLen; omega) (by omega) (by have := x.size_le; omega) ?_; intro v' w3 hown hgrow hnil; obtain ⟨g', cap', rfl⟩ := Go.Joins.ownsRow_form hown (by omega); have bx3 := (HI.out.box.later x).apart HOW.out (by decide) hgrow; have cb3 := (HI.out.cbox.later x).apart HOW.out (by decide) hgrow; have HB3 := Lib.hid bx3; have HC3 := Lib.hid cb3; obtain ⟨u1, u2, u3⟩ := bx3.all; have HO := Lib.hid hown; have HW := Lib.hid hgrow; clear hown hgrow hnil cb3 bx3)
    have hsz := HW.out.size
    have hsx := x.size_le
    have hne : g' ≠ w.heap.size + 1 + 1 := fun e => own_ne HO.out HB3.out (by decide) (by rw [e]; rfl)
    have hgc : gg ≠ w.heap.size + 1 + 1 + 1 := fun e => own_ne HOW.out (HI.out.cbox.later x) (by decide) (by rw [e]; rfl)
    have hb3 : Below w.heap.size w w3 := Below.grown (HI.out.below.trans (x.below.mono HI.out.below.size)) HW.out (by have := HI.out.below.size; omega) (fun j e => by cases e; omega)
    have hKK := HKK.out
    subst hKK
    refine ⟨((keepsL x).trans ((own_keeps HOW.out HW.out).from _)).trans ((KeepsOthers.setCell _ _ _).from _), ((KeepsAll.below x.below (by intro b hb; simp only [List.mem_cons, List.not_mem_nil, or_false] at hb; rcases hb with rfl | rfl <;> omega)).trans (KeepsAll.two HW.out (by omega) (by omega) hgc (by omega))).trans (KeepsAll.setCell _ (by intro b hb; simp only [List.mem_cons, List.not_mem_nil, or_false] at hb; show b ≠ w.heap.size + 1 + 1; rcases hb with rfl | rfl <;> omega)), g', cap', ?_⟩
    exact ⟨by simp only [World.size_setCell]; omega, Go.ownsRow_setCell_other (by have h := HO.out; rwa [lns_succ] at h) (by simp only [Value.ownBlock, ne_eq, Option.some.injEq]; exact hne) _, (HB3.out.set _ _).eq (by simp), HC3.out.other _ _ (by omega), (by repeat (first | (with_reducible assumption) | (with_reducible exact Below.refl _ _) | (with_reducible refine Later.after ?_ _) | (with_reducible refine Later.newer ?_ _) | (with_reducible refine Below.drew ?_) | (with_reducible refine Below.setCell ?_ (by first | exact Nat.le_refl _ | exact Nat.le_add_right _ _ | omega | (simp [go_sem]; done) | (simp [go_sem]; omega)) _)))⟩
  case done =>
    rintro D W hD ⟨gg, cap, hI⟩ hK
    rw [chds_len, ← HLM.out] at hI
    rw [sz] at hD
    obtain ⟨K, hKK⟩ : ∃ K, K = C.m + 1 := ⟨_, rfl⟩
    have bx := hI.box
    rw [← hKK] at bx
    obtain ⟨a1, a2, a3⟩ := bx.all
    have HI := Lib.hid hI
    have HKD := Lib.hid hK
    clear hI hK bx
    go_wp2
    have own : (W.putObj D (.deferred none)).ownsRow w.heap.size 3 1 (.slice (some ⟨gg, 0, none⟩) K cap) K (lns C C.m) := by
      rw [hKK]
      exact own_kept HI.out.own (grownBy_putObj' W D (.deferred none)) (fun r e => by cases e; exact ⟨_, HKD.out, rfl⟩)
    clear a1 a2
    refine ⟨by simp, .inl ⟨_, _, rfl, run_takeDeferred HKD.out, ?_⟩⟩
    refine ⟨.slice (some ⟨gg, 0, none⟩) K cap, ?_, gg, cap, by rw [hKK], by rw [← hKK]; exact own, Later.mk_of (HI.out.below.trans (belowK_b (w := w) (Nat.le_refl _) _ D _ _ (by omega) HKD.out rfl rfl))⟩
    simp [results, Try.func21, go_sem, hKK]
end Go.Proofs.Ytcdnekhpeghkiaa

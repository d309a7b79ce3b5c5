/-
  How long a chain is.
-/
import Derived.Test.YtcdnekhpeghkiaaD1
import Derived.Test.YtcdnekhpeghkiaaChainRow
import Derived.Test.YtcdnekhpeghkiaaKD
namespace Go.Proofs.Ytcdnekhpeghkiaa
set_option linter.unusedVariables false
open Go.RowKit Go.Shelf
attribute [local go_sem] Oper.semAt_some

theorem sub_near (a b : Int × Int) (ha : nearP a) (hb : nearP b) (w : World) : Calls Try.prog 42 #[.agg #[.int .i64 b.1, .int .i64 b.2], .agg #[.int .i64 a.1, .int .i64 a.2]] w fun e w' => e = .returned (.agg #[.int .i64 (b.1 - a.1), .int .i64 (b.2 - a.2)]) ∧ ∃ x : Later w, w' = x.out := by
  unfold nearP at ha hb
  have h := ptSub_c b.1 b.2 a.1 a.2 w
  rw [w64_in (b.1 - a.1) (by unfold R64; omega), w64_in (b.2 - a.2) (by unfold R64; omega)] at h
  exact h
theorem len_near (a b : Int × Int) (ha : nearP a) (hb : nearP b) (w : World) : Calls Try.prog 41 #[.agg #[.int .i64 (b.1 - a.1), .int .i64 (b.2 - a.2)]] w fun e w' => e = .returned (.int .i64 (dst a b)) ∧ ∃ x : Later w, w' = x.out := by
  unfold nearP at ha hb
  exact ptLen_c (b.1 - a.1) (b.2 - a.2) (dst a b) w (by omega) (by omega) (by omega) (by omega) (dst_root a b)
/-- a slice's cells, by the word of the chain's own texts -/
theorem PtsAt.ptsB {w : World} {v : Value} {pts : List (Int × Int)} (h : PtsAt w v pts) (n1 : 1 ≤ pts.length) : ∃ b o c, v = .slice (some ⟨b, o, none⟩) pts.length c ∧ pts.length ≤ c ∧ c ≤ maxLen ∧ PtsB w b o pts := by
  rcases h with ⟨_, rfl⟩ | ⟨_, _, _, rfl⟩ | ⟨b, o, c, rfl, hb, hc, hm, hp⟩
  · simp at n1
  · simp at n1
  · exact ⟨b, o, c, rfl, hc, hm, hb, hp⟩
theorem keepsL {B : Nat} {W : World} (x : Later W) : KeepsFrom B W x.out := KeepsFrom.of_grownBy (grownL x) (fun j e => by cases e)


/-- the state of the sum, k chords on -/
def tI (w : World) (C : Ch) (k : Nat) (W : World) : Prop := w.heap.size + 1 + 1 + 1 ≤ W.heap.size ∧ Blk W (w.heap.size + 1) 3 #[.int .i64 (C.ln k)] ∧ Below w.heap.size w W
set_option maxRecDepth 100000 in
set_option maxHeartbeats 2000000 in
theorem total_c (cl : Bool) (pts : List (Int × Int)) (g : GoodC cl pts) (sv : Value) (w : World) (h : PtsAt w sv pts) : Calls Try.prog 20 #[.agg #[sv, .bool cl]] w fun e w' => e = .returned (.int .i64 (g.ch.ln g.ch.m)) ∧ ∃ x : Later w, w' = x.out := by
  obtain ⟨Bp, o, c, rfl, hc, hm, hp⟩ := h.ptsB g.n1
  have HP := Lib.hid hp
  have G := Lib.hid g
  have hBp := hp.lt
  have n1 := g.n1
  have n9 := g.n9
  have m9 := g.m_le
  have hlm : g.ch.m = mch cl pts := rfl
  generalize hC : g.ch = C at *
  have HC := Lib.hid hC
  have HLM := Lib.hid hlm
  clear hp hC hlm
  generalize hn : pts.length = n at *
  have HN := Lib.hid hn
  clear hn
  refine (callsIn_wide (n := 4)).1 ?_
  refine callsIn_of_wp_marks Try.func20 rfl trivial ?_ rfl
  simp only [Try.ntmps20, List.size_toArray, List.length_cons, List.length_nil, Nat.reduceAdd, Nat.reduceSub, Array.replicate_succ, Array.replicate_zero, List.push_toArray, List.append_toArray, List.nil_append, List.cons_append]
  refine wpIn_wide.2 ?_
  go_wp2_with (first | (go_at_call 40; refine (chords_c _ _ _).mono ?_; rintro e _ ⟨rfl, rfl⟩))
  refine (wpIn_wide (n := 4)).1 ?_
  generalize hW2 : ((w.alloc (.cells #[.slice (some ⟨Bp, o, none⟩) n c, .bool cl] 36)).alloc (.cells #[.int .i64 0] 3)).alloc (.cells #[.slice (some ⟨Bp, o, none⟩) n c, .bool cl] 36) = W2
  have sz : W2.heap.size = w.heap.size + 3 := by rw [← hW2]; simp
  have hbW : Below w.heap.size w W2 := by rw [← hW2]; (repeat (first | (with_reducible assumption) | (with_reducible exact Below.refl _ _) | (with_reducible refine Later.after ?_ _) | (with_reducible refine Later.newer ?_ _) | (with_reducible refine Below.drew ?_) | (with_reducible refine Below.setCell ?_ (by first | exact Nat.le_refl _ | exact Nat.le_add_right _ _ | omega | (simp [go_sem]; done) | (simp [go_sem]; omega)) _)))
  have hbc : Blk W2 (w.heap.size + 1 + 1) 36 #[.slice (some ⟨Bp, o, none⟩) n c, .bool cl] := by rw [← hW2]; exact Blk.new' (by simp)
  have hbn : Blk W2 (w.heap.size + 1) 3 #[.int .i64 0] := by rw [← hW2]; exact (Blk.new' (by simp)).alloc _
  have hpW : PtsB W2 Bp o pts := HP.out.below hbW hBp
  clear hW2
  refine wpIn_rangeFunc_lst rfl (by omega) (gf := 58) rfl trivial (enters_of Try.func58 (by kernel_rfl) rfl)
    (chords_seq cl pts (w.heap.size + 1 + 1) Bp o n c W2 HN.out n1 n9 hc hbc hpW) (fun h k => h.trans k)
    (fun W l o o' hl h hc _ => KeepsAll.putObj _ (by intro b hb; simp only [List.mem_cons, List.not_mem_nil, or_false] at hb; rw [sz] at hl; rcases hb with rfl | rfl <;> omega)) (Below.refl _ _) (fun _ => rfl)
    (tI w C) ?own ?start
    (fun k x a' W => ∃ (v0 v1 v5 v6 v7 v8 v9 v10 v11 v12 v13 v14 v15 : Value) (g3 g4 : Nat), Blk W g3 23 #[.int .i64 x.1.1, .int .i64 x.1.2] ∧ Blk W g4 23 #[.int .i64 x.2.1, .int .i64 x.2.2] ∧ tI w C k W ∧
      a' = ⟨#[v0, v1, .pointer (some ⟨w.heap.size + 1, 0, none⟩), .pointer (some ⟨g3, 0, none⟩), .pointer (some ⟨g4, 0, none⟩), v5, v6, v7, v8, v9, v10, v11, v12, v13, v14, v15], []⟩)
    ?ownM ?assign ?body ?done
  case own =>
    rintro k A B row ⟨l9, an, hB⟩ hg hr
    have hr' : ∀ r, row = some r → ∃ o : Obj, A.heap[r]? = some o ∧ o.isCells = false := fun r e => (hr r e).2
    exact ⟨Nat.le_trans l9 hg.size, an.kept hg hr', hB.grown hg hB.size (fun k e => by have := (hr k e).1; rw [sz] at this; omega)⟩
  case start => exact ⟨by rw [sz]; omega, hbn, hbW⟩
  case ownM =>
    rintro k x a' s A B row ⟨v0, v1, v5, v6, v7, v8, v9, v10, v11, v12, v13, v14, v15, g3, g4, h3, h4, ⟨l9, an, hB⟩, ha⟩ hg hr
    have hr' : ∀ r, row = some r → ∃ o : Obj, A.heap[r]? = some o ∧ o.isCells = false := fun r e => (hr r e).2
    exact ⟨v0, v1, v5, v6, v7, v8, v9, v10, v11, v12, v13, v14, v15, g3, g4, h3.kept hg hr', h4.kept hg hr', ⟨Nat.le_trans l9 hg.size, an.kept hg hr', hB.grown hg hB.size (fun k e => by have := (hr k e).1; rw [sz] at this; omega)⟩, ha⟩
  case assign =>
    rintro l k ⟨⟨p0, p1⟩, ⟨z0, z1⟩⟩ W K hx ⟨l9, an, hB⟩ hK
    have HK := Lib.hid hK
    have HAN := Lib.hid an
    have HBB := Lib.hid hB
    clear hK an hB
    simp only [encC]
    gi_wp2
    exact HK.out _ _ (((KeepsOthers.alloc W _).trans (KeepsOthers.alloc _ _)).from _) (KeepsAll.below (B := W.heap.size) ((Below.refl _ _).alloc (Nat.le_refl _) _ |>.alloc (by simp) _) (by intro b hb; simp only [List.mem_cons, List.not_mem_nil, or_false] at hb; rcases hb with rfl | rfl <;> omega))
      ⟨_, _, _, _, _, _, _, _, _, _, _, _, _, W.heap.size, W.heap.size + 1, (Blk.new _ _ _).alloc _, Blk.new' (by simp), ⟨by simp only [World.size_alloc]; omega, (HAN.out.alloc _).alloc _, by have hB := HBB.out; (repeat (first | (with_reducible assumption) | (with_reducible exact Below.refl _ _) | (with_reducible refine Later.after ?_ _) | (with_reducible refine Later.newer ?_ _) | (with_reducible refine Below.drew ?_) | (with_reducible refine Below.setCell ?_ (by first | exact Nat.le_refl _ | exact Nat.le_add_right _ _ | omega | (simp [go_sem]; done) | (simp [go_sem]; omega)) _)))⟩, rfl⟩
  case body =>
    rintro l k x a' W hx ⟨v0, v1, v5, v6, v7, v8, v9, v10, v11, v12, v13, v14, v15, g3, g4, h3, h4, ⟨l9, an, hB⟩, rfl⟩
    obtain ⟨hk, rfl⟩ := chds_is hx
    have hln : C.ln (k + 1) = C.ln k + dst (cor pts k) (cor pts (k + 1)) := by rw [← HC.out]; rfl
    have hmx : C.ln (k + 1) ≤ 2147483648 * 100 := by
      have h1 := G.out.ln_le (k + 1)
      rw [HC.out] at h1
      have : ((k + 1 : Nat) : Int) ≤ 100 := by have := HLM.out; omega
      omega
    have hl0 : 0 ≤ C.ln k := C.ln_pos k (by have := HLM.out; omega)
    have na := G.out.near _ (cor_mem pts k (by rw [HN.out]; exact n1))
    have nb := G.out.near _ (cor_mem pts (k + 1) (by rw [HN.out]; exact n1))
    have hs := fun v => sub_near _ _ na nb v
    have hl := fun v => len_near _ _ na nb v
    have hd0 := (dst_root (cor pts k) (cor pts (k + 1))).r0
    simp only [] at h3 h4
    generalize dst (cor pts k) (cor pts (k + 1)) = d at *
    generalize cor pts k = p at *
    generalize cor pts (k + 1) = q at *
    obtain ⟨p0, p1⟩ := p
    obtain ⟨z0, z1⟩ := q
    simp only [] at h3 h4 hs hl
    have e2 : IntKind.i64.wrap (C.ln k + d) = C.ln (k + 1) := by rw [IntWalk.i64_in _ (by omega)]; omega
    have HS := Lib.hid hs
    have HL := Lib.hid hl
    have HAN := Lib.hid an
    have HBB := Lib.hid hB
    have HE := Lib.hid e2
    have HLN := Lib.hid hln
    obtain ⟨a1, a2, a3⟩ := an.all
    obtain ⟨c1, c2, c3⟩ := h3.all
    obtain ⟨d1, d2, d3⟩ := h4.all
    clear an hB hs hl h3 h4 na nb
    gi_wp2
    refine wpIn_region_pick [0, 1, 2, 3, 4, 5] [6] (by kernel_rfl) (by kernel_rfl) rfl rfl ?_
    simp only [pick, List.getElem?_cons_zero, List.getElem?_cons_succ]
    repeat (go_big_quiet_step ((first | (go_at_call 42; with_reducible exact Later.call _ (HS.out _)) | (go_at_call 41; with_reducible exact Later.call _ (HL.out _)))))
    refine wpQuiet_nil ?_
    intro x
    gi_wp2
    refine ⟨(keepsL x).trans ((KeepsOthers.setCell _ _ _).from _), (KeepsAll.below x.below (by intro b hb; simp only [List.mem_cons, List.not_mem_nil, or_false] at hb; rcases hb with rfl | rfl <;> omega)).trans (KeepsAll.setCell _ (by intro b hb; simp only [List.mem_cons, List.not_mem_nil, or_false] at hb; show b ≠ w.heap.size + 1; rcases hb with rfl | rfl <;> omega)), by simp only [World.size_setCell]; have := x.size_le; omega, ((HAN.out.later x).set _ _).eq (by simp [HLN.out]), by have hB := HBB.out; (repeat (first | (with_reducible assumption) | (with_reducible exact Below.refl _ _) | (with_reducible refine Later.after ?_ _) | (with_reducible refine Later.newer ?_ _) | (with_reducible refine Below.drew ?_) | (with_reducible refine Below.setCell ?_ (by first | exact Nat.le_refl _ | exact Nat.le_add_right _ _ | omega | (simp [go_sem]; done) | (simp [go_sem]; omega)) _)))⟩
  case done =>
    rintro D W hD ⟨l9, an, hB⟩ hK
    rw [chds_len, ← HLM.out] at an
    rw [sz] at hD
    have HAN := Lib.hid an
    have HBB := Lib.hid hB
    have HKD := Lib.hid hK
    obtain ⟨a1, a2, a3⟩ := an.all
    clear an hB hK
    generalize hT : C.ln C.m = T at *
    go_wp2
    have n1 : Blk (W.setCell ⟨w.heap.size + 1, 0, none⟩ (.int .i64 T)) (w.heap.size + 1) 3 #[.int .i64 T] := (HAN.out.set _ _).eq (by simp)
    have hb : Below w.heap.size w (W.setCell ⟨w.heap.size + 1, 0, none⟩ (.int .i64 T)) := by have hB := HBB.out; (repeat (first | (with_reducible assumption) | (with_reducible exact Below.refl _ _) | (with_reducible refine Later.after ?_ _) | (with_reducible refine Later.newer ?_ _) | (with_reducible refine Below.drew ?_) | (with_reducible refine Below.setCell ?_ (by first | exact Nat.le_refl _ | exact Nat.le_add_right _ _ | omega | (simp [go_sem]; done) | (simp [go_sem]; omega)) _)))
    have hK' : (W.setCell ⟨w.heap.size + 1, 0, none⟩ (.int .i64 T)).heap[D]? = some (.deferred (some [])) := (Below.heap_setCell _ _ _ _ (by show D ≠ w.heap.size + 1; omega)).trans HKD.out
    generalize W.setCell ⟨w.heap.size + 1, 0, none⟩ (.int .i64 T) = V at n1 hb hK' ⊢
    have m1 : Blk (V.putObj D (.deferred none)) (w.heap.size + 1) 3 #[.int .i64 T] := (World.putObj_heap_other (by omega)).trans n1
    have mc1 := m1.cell
    clear n1 m1 a1 a2
    refine ⟨by simp, .inl ⟨_, _, rfl, run_takeDeferred hK', ?_⟩⟩
    refine ⟨.int .i64 T, ?_, by rw [hT], Later.mk_of (hb.trans (belowK_b (w := w) (Nat.le_refl _) _ D _ _ (by omega) hK' rfl rfl))⟩
    simp [results, go_sem, mc1]
end Go.Proofs.Ytcdnekhpeghkiaa

/-
  The reference's points of a segment's chords.
-/
import Derived.Test.YtcdnekhpeghkiaaP6
import Derived.Deep.RegionHeld3
import Derived.Deep.AppendLies
namespace Go.Proofs.Ytcdnekhpeghkiaa
set_option linter.unusedVariables false
open Go.RowKit

/-- an append to a row of the text's own, at a step of a region that draws its order -/
theorem step_append_own7 {P : Program} {w : World} {ops : Array Oper} {o : Oper} {a : Act} {K : Act → World → Prop} {Q : Exit → Act → World → Prop} {E : Prop} (hgd : o.guard = none) (s x : Operand) (t : TypeId)
    (ho : o.op = .call { callee := .builtin .append, args := #[s, x], argTypes := #[t, t] })
    (base : Nat) (e : TypeId) (i : TypeInfo) (z : Value) (size bytes : Nat) (ht : P.underlying t = some (.slice e)) (hi : P.info? e = some i) (hz : i.zero = some z)
    (hsize : i.size = size) (hby : i.bytes = bytes) (hzs : z.cells.size = size) (hsz : 0 < size)
    (v : Value) (n : Nat) (xs : List Value) (hs : a.eval s = v) (hown : w.ownsRow base e size v n xs)
    (ad : Addr) (m c : Nat) (news : List Value) (hx : a.eval x = .slice (some ad) m c) (hl : news.length = m * size) (hnews : ∀ j u, news[j]? = some u → w.cell? (ad.add j) = some u) (h1 : ∀ u ∈ news, u.oneCell' = true)
    (h63 : n + m ≤ maxLen) (hbytes : (n + m) * bytes ≤ 140737488355328) (hbase : base ≤ w.heap.size)
    (h : ∀ v' w', w'.ownsRow base e size v' (n + m) (xs ++ news) → w.grownBy w' v.ownBlock → K (a.put o.dst v') w') :
    if Region.wanted o (yielded ops a.tmps) = true then Oper.wp P o a w K Q else E := by
  have hw : Region.wanted o (yielded ops a.tmps) = true := by simp [Region.wanted, hgd]
  rw [if_pos hw]
  obtain ⟨v', w', hr, h2, h3, _⟩ := run_append_own (P := P) w base t o.type e i z size bytes ht hi hz hsize hby hzs hsz v n xs hown ad m c news hl hnews h1 h63 hbytes hbase
  unfold Oper.wp execOp
  simp only [ho, resolve, invoke, builtin, Sem.run_bind, Sem.run_pure, Result.andThen_ok, List.map_toArray, List.map_cons, List.map_nil, hs, hx, hr]
  exact h v' w' h2 h3

theorem far_cells {V w2 : World} (y1 : Later V.drew) (y2 : Later y1.out) {g1 n c : Nat} (hg : y2.out.grownBy w2 (Value.slice (some ⟨g1, 0, none⟩) n c).ownBlock) (h1 : V.heap.size ≤ g1) {b : Nat} (hb : b < V.heap.size) : ∀ i, w2.cell? ⟨b, i, none⟩ = V.cell? ⟨b, i, none⟩ := fun i => by
  have s1 : V.heap.size ≤ y1.out.heap.size := y1.size_le
  have s2 := y2.size_le
  have e1 := hg.block b (by omega) (by simp only [Value.ownBlock, ne_eq, Option.some.injEq]; omega)
  have e2 := y2.below.block b (by omega)
  have e3 : y1.out.heap[b]? = V.heap[b]? := y1.below.block b (show b < V.drew.heap.size from hb)
  exact World.cell?_of_block (a := ⟨b, i, none⟩) (e1.trans (e2.trans e3))
theorem hlfA_9 (s : En) : hlfA s 9 = s 9 + 1 := by simp [hlfA]
theorem hlfB_9 (s : En) : hlfB s 9 = s 9 + 1 := by simp [hlfB]


set_option maxRecDepth 100000 in
set_option maxHeartbeats 2000000 in
theorem rpts_yes2 (s : En) (t k9 : Int) (h8 : s 8 = 2) (w : World) (hs : ∀ v, Calls Try.prog 53 #[.agg #[.int .i64 (s 0), .int .i64 (s 1), .int .i64 (s 2), .int .i64 (s 3), .int .i64 (s 4), .int .i64 (s 5), .int .i64 (s 6), .int .i64 (s 7), .int .i64 (s 8)], .int .i64 t, .int .i64 k9] v fun e w'' => e = .returned (.bool true) ∧ ∃ x : Later v, w'' = x.out) :
    Calls Try.prog 35 #[.agg #[.int .i64 (s 0), .int .i64 (s 1), .int .i64 (s 2), .int .i64 (s 3), .int .i64 (s 4), .int .i64 (s 5), .int .i64 (s 6), .int .i64 (s 7), .int .i64 (s 8)], .int .i64 t, .int .i64 k9] w (SliceRet w 23 2 1 (fl [(s 2, s 3)])) := by
  rw [h8] at hs ⊢
  have HS := Lib.hid hs
  clear hs h8
  go_enter Try.func35, Try.ntmps35
  go_wp2_with (first | (go_at_call 53; (with_reducible refine (HS.out _).mono ?_); rintro e _ ⟨rfl, x, rfl⟩))
  have hB : Below w.heap.size w x.out := (by repeat (first | (with_reducible assumption) | (with_reducible exact Below.refl _ _) | (with_reducible refine Later.after ?_ _) | (with_reducible refine Later.newer ?_ _) | (with_reducible refine Below.drew ?_) | (with_reducible refine Below.setCell ?_ (by first | exact Nat.le_refl _ | exact Nat.le_add_right _ _ | omega | (simp [go_sem]; done) | (simp [go_sem]; omega)) _)))
  refine bodyPost_ret (v := .slice (some ⟨x.out.heap.size, 0, none⟩) 1 1) (by simp [results, Try.results35, go_sem]) rfl ⟨_, rfl, World.ownsRow_lit x.out #[.int .i64 (s 2), .int .i64 (s 3)] 1 hB.size (by unfold maxLen; omega) rfl, Later.mk_of (by repeat (first | (with_reducible assumption) | (with_reducible exact Below.refl _ _) | (with_reducible refine Later.after ?_ _) | (with_reducible refine Later.newer ?_ _) | (with_reducible refine Below.drew ?_) | (with_reducible refine Below.setCell ?_ (by first | exact Nat.le_refl _ | exact Nat.le_add_right _ _ | omega | (simp [go_sem]; done) | (simp [go_sem]; omega)) _)))⟩


set_option maxRecDepth 100000 in
set_option maxHeartbeats 2000000 in
theorem rpts_yes3 (s : En) (t k9 : Int) (h8 : s 8 = 3) (w : World) (hs : ∀ v, Calls Try.prog 53 #[.agg #[.int .i64 (s 0), .int .i64 (s 1), .int .i64 (s 2), .int .i64 (s 3), .int .i64 (s 4), .int .i64 (s 5), .int .i64 (s 6), .int .i64 (s 7), .int .i64 (s 8)], .int .i64 t, .int .i64 k9] v fun e w'' => e = .returned (.bool true) ∧ ∃ x : Later v, w'' = x.out) :
    Calls Try.prog 35 #[.agg #[.int .i64 (s 0), .int .i64 (s 1), .int .i64 (s 2), .int .i64 (s 3), .int .i64 (s 4), .int .i64 (s 5), .int .i64 (s 6), .int .i64 (s 7), .int .i64 (s 8)], .int .i64 t, .int .i64 k9] w (SliceRet w 23 2 1 (fl [(s 4, s 5)])) := by
  rw [h8] at hs ⊢
  have HS := Lib.hid hs
  clear hs h8
  go_enter Try.func35, Try.ntmps35
  go_wp2_with (first | (go_at_call 53; (with_reducible refine (HS.out _).mono ?_); rintro e _ ⟨rfl, x, rfl⟩))
  have hB : Below w.heap.size w x.out := (by repeat (first | (with_reducible assumption) | (with_reducible exact Below.refl _ _) | (with_reducible refine Later.after ?_ _) | (with_reducible refine Later.newer ?_ _) | (with_reducible refine Below.drew ?_) | (with_reducible refine Below.setCell ?_ (by first | exact Nat.le_refl _ | exact Nat.le_add_right _ _ | omega | (simp [go_sem]; done) | (simp [go_sem]; omega)) _)))
  refine bodyPost_ret (v := .slice (some ⟨x.out.heap.size, 0, none⟩) 1 1) (by simp [results, Try.results35, go_sem]) rfl ⟨_, rfl, World.ownsRow_lit x.out #[.int .i64 (s 4), .int .i64 (s 5)] 1 hB.size (by unfold maxLen; omega) rfl, Later.mk_of (by repeat (first | (with_reducible assumption) | (with_reducible exact Below.refl _ _) | (with_reducible refine Later.after ?_ _) | (with_reducible refine Later.newer ?_ _) | (with_reducible refine Below.drew ?_) | (with_reducible refine Below.setCell ?_ (by first | exact Nat.le_refl _ | exact Nat.le_add_right _ _ | omega | (simp [go_sem]; done) | (simp [go_sem]; omega)) _)))⟩


set_option maxRecDepth 100000 in
set_option maxHeartbeats 2000000 in
theorem rpts_yes4 (s : En) (t k9 : Int) (h8 : s 8 = 4) (w : World) (hs : ∀ v, Calls Try.prog 53 #[.agg #[.int .i64 (s 0), .int .i64 (s 1), .int .i64 (s 2), .int .i64 (s 3), .int .i64 (s 4), .int .i64 (s 5), .int .i64 (s 6), .int .i64 (s 7), .int .i64 (s 8)], .int .i64 t, .int .i64 k9] v fun e w'' => e = .returned (.bool true) ∧ ∃ x : Later v, w'' = x.out) :
    Calls Try.prog 35 #[.agg #[.int .i64 (s 0), .int .i64 (s 1), .int .i64 (s 2), .int .i64 (s 3), .int .i64 (s 4), .int .i64 (s 5), .int .i64 (s 6), .int .i64 (s 7), .int .i64 (s 8)], .int .i64 t, .int .i64 k9] w (SliceRet w 23 2 1 (fl [(s 6, s 7)])) := by
  rw [h8] at hs ⊢
  have HS := Lib.hid hs
  clear hs h8
  go_enter Try.func35, Try.ntmps35
  go_wp2_with (first | (go_at_call 53; (with_reducible refine (HS.out _).mono ?_); rintro e _ ⟨rfl, x, rfl⟩))
  have hB : Below w.heap.size w x.out := (by repeat (first | (with_reducible assumption) | (with_reducible exact Below.refl _ _) | (with_reducible refine Later.after ?_ _) | (with_reducible refine Later.newer ?_ _) | (with_reducible refine Below.drew ?_) | (with_reducible refine Below.setCell ?_ (by first | exact Nat.le_refl _ | exact Nat.le_add_right _ _ | omega | (simp [go_sem]; done) | (simp [go_sem]; omega)) _)))
  refine bodyPost_ret (v := .slice (some ⟨x.out.heap.size, 0, none⟩) 1 1) (by simp [results, Try.results35, go_sem]) rfl ⟨_, rfl, World.ownsRow_lit x.out #[.int .i64 (s 6), .int .i64 (s 7)] 1 hB.size (by unfold maxLen; omega) rfl, Later.mk_of (by repeat (first | (with_reducible assumption) | (with_reducible exact Below.refl _ _) | (with_reducible refine Later.after ?_ _) | (with_reducible refine Later.newer ?_ _) | (with_reducible refine Below.drew ?_) | (with_reducible refine Below.setCell ?_ (by first | exact Nat.le_refl _ | exact Nat.le_add_right _ _ | omega | (simp [go_sem]; done) | (simp [go_sem]; omega)) _)))⟩


set_option maxRecDepth 100000 in
set_option maxHeartbeats 4000000 in
theorem rpts_no (s : En) (t k9 K : Int) (hk : k9 + 1 = K) (k0 : 0 ≤ k9) (k1 : k9 ≤ 10) (l1 l2 : List (Int × Int)) (n1 n2 : Nat) (e1 : l1.length = n1) (e2 : l2.length = n2) (m1 : 1 ≤ n1) (m2 : 1 ≤ n2) (x1 : n1 ≤ 1024) (x2 : n2 ≤ 1024) (w : World)
    (hs : ∀ v, Calls Try.prog 53 #[.agg #[.int .i64 (s 0), .int .i64 (s 1), .int .i64 (s 2), .int .i64 (s 3), .int .i64 (s 4), .int .i64 (s 5), .int .i64 (s 6), .int .i64 (s 7), .int .i64 (s 8)], .int .i64 t, .int .i64 k9] v fun e w'' => e = .returned (.bool false) ∧ ∃ x : Later v, w'' = x.out)
    (hh : ∀ v, Calls Try.prog 54 #[.agg #[.int .i64 (s 0), .int .i64 (s 1), .int .i64 (s 2), .int .i64 (s 3), .int .i64 (s 4), .int .i64 (s 5), .int .i64 (s 6), .int .i64 (s 7), .int .i64 (s 8)]] v fun e w'' => e = .returned (.tuple #[.agg #[.int .i64 ((hlfA s) 0), .int .i64 ((hlfA s) 1), .int .i64 ((hlfA s) 2), .int .i64 ((hlfA s) 3), .int .i64 ((hlfA s) 4), .int .i64 ((hlfA s) 5), .int .i64 ((hlfA s) 6), .int .i64 ((hlfA s) 7), .int .i64 ((hlfA s) 8)], .agg #[.int .i64 ((hlfB s) 0), .int .i64 ((hlfB s) 1), .int .i64 ((hlfB s) 2), .int .i64 ((hlfB s) 3), .int .i64 ((hlfB s) 4), .int .i64 ((hlfB s) 5), .int .i64 ((hlfB s) 6), .int .i64 ((hlfB s) 7), .int .i64 ((hlfB s) 8)]]) ∧ ∃ x : Later v, w'' = x.out)
    (ha : ∀ v, Calls Try.prog 35 #[.agg #[.int .i64 ((hlfA s) 0), .int .i64 ((hlfA s) 1), .int .i64 ((hlfA s) 2), .int .i64 ((hlfA s) 3), .int .i64 ((hlfA s) 4), .int .i64 ((hlfA s) 5), .int .i64 ((hlfA s) 6), .int .i64 ((hlfA s) 7), .int .i64 ((hlfA s) 8)], .int .i64 t, .int .i64 K] v (SliceRet v 23 2 n1 (fl l1)))
    (hb : ∀ v, Calls Try.prog 35 #[.agg #[.int .i64 ((hlfB s) 0), .int .i64 ((hlfB s) 1), .int .i64 ((hlfB s) 2), .int .i64 ((hlfB s) 3), .int .i64 ((hlfB s) 4), .int .i64 ((hlfB s) 5), .int .i64 ((hlfB s) 6), .int .i64 ((hlfB s) 7), .int .i64 ((hlfB s) 8)], .int .i64 t, .int .i64 K] v (SliceRet v 23 2 n2 (fl l2))) :
    Calls Try.prog 35 #[.agg #[.int .i64 (s 0), .int .i64 (s 1), .int .i64 (s 2), .int .i64 (s 3), .int .i64 (s 4), .int .i64 (s 5), .int .i64 (s 6), .int .i64 (s 7), .int .i64 (s 8)], .int .i64 t, .int .i64 k9] w (SliceRet w 23 2 (n1 + n2) (fl (l1 ++ l2))) := by
  obtain ⟨i0, hi0, hz0, hz1, hz2⟩ := infoPt
  have HS := Lib.hid hs
  have HH := Lib.hid hh
  have HA := Lib.hid ha
  have HB := Lib.hid hb
  have E1 := Lib.hid e1
  have E2 := Lib.hid e2
  have ek : IntKind.i64.wrap (k9 + 1) = K := by rw [IntWalk.i64_in _ (by omega)]; exact hk
  have ek2 : wrap64 (k9 + 1) = K := by unfold wrap64; omega
  have ek3 : IntKind.i64.wrap K = K := by rw [IntWalk.i64_in _ (by omega)]
  clear hs hh ha hb e1 e2
  go_enter Try.func35, Try.ntmps35
  go_upto_region 4 with (first | (go_at_call 53; (with_reducible refine (HS.out _).mono ?_); rintro e _ ⟨rfl, x, rfl⟩) | (go_at_call 54; (with_reducible refine (HH.out _).mono ?_); rintro e _ ⟨rfl, x, rfl⟩))
  have hW : Below w.heap.size w ((x.out.alloc (.cells #[.int .i64 ((hlfA s) 0), .int .i64 ((hlfA s) 1), .int .i64 ((hlfA s) 2), .int .i64 ((hlfA s) 3), .int .i64 ((hlfA s) 4), .int .i64 ((hlfA s) 5), .int .i64 ((hlfA s) 6), .int .i64 ((hlfA s) 7), .int .i64 ((hlfA s) 8)] 33)).alloc (.cells #[.int .i64 ((hlfB s) 0), .int .i64 ((hlfB s) 1), .int .i64 ((hlfB s) 2), .int .i64 ((hlfB s) 3), .int .i64 ((hlfB s) 4), .int .i64 ((hlfB s) 5), .int .i64 ((hlfB s) 6), .int .i64 ((hlfB s) 7), .int .i64 ((hlfB s) 8)] 33)) := (by repeat (first | (with_reducible assumption) | (with_reducible exact Below.refl _ _) | (with_reducible refine Later.after ?_ _) | (with_reducible refine Later.newer ?_ _) | (with_reducible refine Below.drew ?_) | (with_reducible refine Below.setCell ?_ (by first | exact Nat.le_refl _ | exact Nat.le_add_right _ _ | omega | (simp [go_sem]; done) | (simp [go_sem]; omega)) _)))
  have h7 : Blk ((x.out.alloc (.cells #[.int .i64 ((hlfA s) 0), .int .i64 ((hlfA s) 1), .int .i64 ((hlfA s) 2), .int .i64 ((hlfA s) 3), .int .i64 ((hlfA s) 4), .int .i64 ((hlfA s) 5), .int .i64 ((hlfA s) 6), .int .i64 ((hlfA s) 7), .int .i64 ((hlfA s) 8)] 33)).alloc (.cells #[.int .i64 ((hlfB s) 0), .int .i64 ((hlfB s) 1), .int .i64 ((hlfB s) 2), .int .i64 ((hlfB s) 3), .int .i64 ((hlfB s) 4), .int .i64 ((hlfB s) 5), .int .i64 ((hlfB s) 6), .int .i64 ((hlfB s) 7), .int .i64 ((hlfB s) 8)] 33)) x.out.heap.size 33 #[.int .i64 ((hlfA s) 0), .int .i64 ((hlfA s) 1), .int .i64 ((hlfA s) 2), .int .i64 ((hlfA s) 3), .int .i64 ((hlfA s) 4), .int .i64 ((hlfA s) 5), .int .i64 ((hlfA s) 6), .int .i64 ((hlfA s) 7), .int .i64 ((hlfA s) 8)] := (Blk.new _ _ _).alloc _
  have h8' : Blk ((x.out.alloc (.cells #[.int .i64 ((hlfA s) 0), .int .i64 ((hlfA s) 1), .int .i64 ((hlfA s) 2), .int .i64 ((hlfA s) 3), .int .i64 ((hlfA s) 4), .int .i64 ((hlfA s) 5), .int .i64 ((hlfA s) 6), .int .i64 ((hlfA s) 7), .int .i64 ((hlfA s) 8)] 33)).alloc (.cells #[.int .i64 ((hlfB s) 0), .int .i64 ((hlfB s) 1), .int .i64 ((hlfB s) 2), .int .i64 ((hlfB s) 3), .int .i64 ((hlfB s) 4), .int .i64 ((hlfB s) 5), .int .i64 ((hlfB s) 6), .int .i64 ((hlfB s) 7), .int .i64 ((hlfB s) 8)] 33)) (x.out.heap.size + 1) 33 #[.int .i64 ((hlfB s) 0), .int .i64 ((hlfB s) 1), .int .i64 ((hlfB s) 2), .int .i64 ((hlfB s) 3), .int .i64 ((hlfB s) 4), .int .i64 ((hlfB s) 5), .int .i64 ((hlfB s) 6), .int .i64 ((hlfB s) 7), .int .i64 ((hlfB s) 8)] := Blk.new' (by simp)
  generalize x.out.heap.size + 1 = b8 at *
  generalize x.out.heap.size = b7 at *
  generalize ((x.out.alloc (.cells #[.int .i64 ((hlfA s) 0), .int .i64 ((hlfA s) 1), .int .i64 ((hlfA s) 2), .int .i64 ((hlfA s) 3), .int .i64 ((hlfA s) 4), .int .i64 ((hlfA s) 5), .int .i64 ((hlfA s) 6), .int .i64 ((hlfA s) 7), .int .i64 ((hlfA s) 8)] 33)).alloc (.cells #[.int .i64 ((hlfB s) 0), .int .i64 ((hlfB s) 1), .int .i64 ((hlfB s) 2), .int .i64 ((hlfB s) 3), .int .i64 ((hlfB s) 4), .int .i64 ((hlfB s) 5), .int .i64 ((hlfB s) 6), .int .i64 ((hlfB s) 7), .int .i64 ((hlfB s) 8)] 33)) = V at *
  clear x
  have u0 : V.cell? ⟨b7, 0, none⟩ = some (.int .i64 (hlfA s 0)) := by rw [h7.cell]; rfl
  have v0 : V.cell? ⟨b8, 0, none⟩ = some (.int .i64 (hlfB s 0)) := by rw [h8'.cell]; rfl
  have u1 : V.cell? ⟨b7, 1, none⟩ = some (.int .i64 (hlfA s 1)) := by rw [h7.cell]; rfl
  have v1 : V.cell? ⟨b8, 1, none⟩ = some (.int .i64 (hlfB s 1)) := by rw [h8'.cell]; rfl
  have u2 : V.cell? ⟨b7, 2, none⟩ = some (.int .i64 (hlfA s 2)) := by rw [h7.cell]; rfl
  have v2 : V.cell? ⟨b8, 2, none⟩ = some (.int .i64 (hlfB s 2)) := by rw [h8'.cell]; rfl
  have u3 : V.cell? ⟨b7, 3, none⟩ = some (.int .i64 (hlfA s 3)) := by rw [h7.cell]; rfl
  have v3 : V.cell? ⟨b8, 3, none⟩ = some (.int .i64 (hlfB s 3)) := by rw [h8'.cell]; rfl
  have u4 : V.cell? ⟨b7, 4, none⟩ = some (.int .i64 (hlfA s 4)) := by rw [h7.cell]; rfl
  have v4 : V.cell? ⟨b8, 4, none⟩ = some (.int .i64 (hlfB s 4)) := by rw [h8'.cell]; rfl
  have u5 : V.cell? ⟨b7, 5, none⟩ = some (.int .i64 (hlfA s 5)) := by rw [h7.cell]; rfl
  have v5 : V.cell? ⟨b8, 5, none⟩ = some (.int .i64 (hlfB s 5)) := by rw [h8'.cell]; rfl
  have u6 : V.cell? ⟨b7, 6, none⟩ = some (.int .i64 (hlfA s 6)) := by rw [h7.cell]; rfl
  have v6 : V.cell? ⟨b8, 6, none⟩ = some (.int .i64 (hlfB s 6)) := by rw [h8'.cell]; rfl
  have u7 : V.cell? ⟨b7, 7, none⟩ = some (.int .i64 (hlfA s 7)) := by rw [h7.cell]; rfl
  have v7 : V.cell? ⟨b8, 7, none⟩ = some (.int .i64 (hlfB s 7)) := by rw [h8'.cell]; rfl
  have u8 : V.cell? ⟨b7, 8, none⟩ = some (.int .i64 (hlfA s 8)) := by rw [h7.cell]; rfl
  have v8 : V.cell? ⟨b8, 8, none⟩ = some (.int .i64 (hlfB s 8)) := by rw [h8'.cell]; rfl
  have l7 := h7.lt
  have l8 := h8'.lt
  have HW := Lib.hid hW
  clear hW h7 h8'
  go_region_held3 (fun w' => w'.cell? ⟨b7, 0, none⟩ = some (.int .i64 (hlfA s 0)) ∧ w'.cell? ⟨b7, 1, none⟩ = some (.int .i64 (hlfA s 1)) ∧ w'.cell? ⟨b7, 2, none⟩ = some (.int .i64 (hlfA s 2)) ∧ w'.cell? ⟨b7, 3, none⟩ = some (.int .i64 (hlfA s 3)) ∧ w'.cell? ⟨b7, 4, none⟩ = some (.int .i64 (hlfA s 4)) ∧ w'.cell? ⟨b7, 5, none⟩ = some (.int .i64 (hlfA s 5)) ∧ w'.cell? ⟨b7, 6, none⟩ = some (.int .i64 (hlfA s 6)) ∧ w'.cell? ⟨b7, 7, none⟩ = some (.int .i64 (hlfA s 7)) ∧ w'.cell? ⟨b7, 8, none⟩ = some (.int .i64 (hlfA s 8)) ∧ w'.cell? ⟨b8, 0, none⟩ = some (.int .i64 (hlfB s 0)) ∧ w'.cell? ⟨b8, 1, none⟩ = some (.int .i64 (hlfB s 1)) ∧ w'.cell? ⟨b8, 2, none⟩ = some (.int .i64 (hlfB s 2)) ∧ w'.cell? ⟨b8, 3, none⟩ = some (.int .i64 (hlfB s 3)) ∧ w'.cell? ⟨b8, 4, none⟩ = some (.int .i64 (hlfB s 4)) ∧ w'.cell? ⟨b8, 5, none⟩ = some (.int .i64 (hlfB s 5)) ∧ w'.cell? ⟨b8, 6, none⟩ = some (.int .i64 (hlfB s 6)) ∧ w'.cell? ⟨b8, 7, none⟩ = some (.int .i64 (hlfB s 7)) ∧ w'.cell? ⟨b8, 8, none⟩ = some (.int .i64 (hlfB s 8))) ((simp [go_sem, *]; done))
    (first | (go_at_call 35; (with_reducible refine (HA.out _).mono ?_); intro _ _ hsr; obtain ⟨o1, rfl, own1, y1, rfl⟩ := hsr; obtain ⟨g1, c1, rfl⟩ := Go.Joins.ownsRow_form own1 (by omega); have HO1 := Lib.hid own1; clear own1) | (go_at_call 35; (with_reducible refine (HB.out _).mono ?_); intro _ _ hsr; obtain ⟨o2, rfl, own2, y2, rfl⟩ := hsr; obtain ⟨g2, c2, rfl⟩ := Go.Joins.ownsRow_form own2 (by omega); have HO2 := Lib.hid own2; clear own2) | (refine step_append_own7 rfl _ _ 30 rfl w.heap.size 23 i0 (.agg #[.int .i64 0, .int .i64 0]) 2 16 Try.underlying30 hi0 hz0 hz1 hz2 rfl (by decide) (.slice (some ⟨g1, 0, none⟩) n1 c1) n1 (fl l1) rfl (own_later (own_base HO1.out (show w.heap.size ≤ V.drew.heap.size from HW.out.size)) y2) ⟨g2, 0, none⟩ n2 c2 (fl l2) rfl (by rw [fl_len, E2.out]) (HO2.out.cells rfl) (fun x hx => fl_one l2 x hx) (by unfold maxLen; omega) (by omega) (by have q1 := HW.out.size; have q2 : V.heap.size ≤ y1.out.heap.size := y1.size_le; have q3 := y2.size_le; omega) ?_; intro v2 w2 hown hgrow; rw [← fl_append] at hown; have HO := Lib.hid hown; have HG := Lib.hid hgrow; have zc7 := far_cells y1 y2 hgrow (HO1.out.lt g1 rfl).1 l7; have zc8 := far_cells y1 y2 hgrow (HO1.out.lt g1 rfl).1 l8; clear hown hgrow))
  go_wp2_with (fail)
  have hB2 : Below w.heap.size w y2.out := (HW.out.drew.trans (y1.below.mono HW.out.drew.size)).trans (y2.below.mono (HW.out.drew.trans (y1.below.mono HW.out.drew.size)).size)
  have hB3 : Below w.heap.size w w2 := Below.grown hB2 HG.out hB2.size (fun r hr => by cases hr; exact Nat.le_trans (show w.heap.size ≤ V.drew.heap.size from HW.out.size) (HO1.out.lt g1 rfl).1)
  refine bodyPost_ret (v := v2) (by simp [results, Try.results35, go_sem]) rfl ⟨v2, rfl, HO.out, Later.mk_of (by repeat (first | (with_reducible assumption) | (with_reducible exact Below.refl _ _) | (with_reducible refine Later.after ?_ _) | (with_reducible refine Later.newer ?_ _) | (with_reducible refine Below.drew ?_) | (with_reducible refine Below.setCell ?_ (by first | exact Nat.le_refl _ | exact Nat.le_add_right _ _ | omega | (simp [go_sem]; done) | (simp [go_sem]; omega)) _)))⟩
theorem rpts_y (s : En) (g : GoodE s) (t : Int) (t0 : 0 ≤ t) (hs : smpB t s = true) (w : World) : Calls Try.prog 35 #[.agg #[.int .i64 (s 0), .int .i64 (s 1), .int .i64 (s 2), .int .i64 (s 3), .int .i64 (s 4), .int .i64 (s 5), .int .i64 (s 6), .int .i64 (s 7), .int .i64 (s 8)], .int .i64 t, .int .i64 (s 9)] w (SliceRet w 23 2 ((flat t).all s).length (fl ((flat t).all s))) := by
  have e : (flat t).all s = [enP s] := (flat t).all_yes s hs
  rw [e]
  have hc := fun v => rsimple_E s g t t0 v
  rw [hs] at hc
  rcases nn_of g with ⟨h, h8⟩ | ⟨h, h8⟩ | ⟨h, h8⟩
  · rw [show enP s = (s 2, s 3) by simp [enP, h]]
    exact rpts_yes2 s t (s 9) h8 w hc
  · rw [show enP s = (s 4, s 5) by simp [enP, h]]
    exact rpts_yes3 s t (s 9) h8 w hc
  · rw [show enP s = (s 6, s 7) by simp [enP, h]]
    exact rpts_yes4 s t (s 9) h8 w hc
theorem rpts_E (t : Int) (t0 : 0 ≤ t) : ∀ (d : Nat) (s : En), GoodE s → 10 - s 9 ≤ d → ∀ w, Calls Try.prog 35 #[.agg #[.int .i64 (s 0), .int .i64 (s 1), .int .i64 (s 2), .int .i64 (s 3), .int .i64 (s 4), .int .i64 (s 5), .int .i64 (s 6), .int .i64 (s 7), .int .i64 (s 8)], .int .i64 t, .int .i64 (s 9)] w (SliceRet w 23 2 ((flat t).all s).length (fl ((flat t).all s))) := by
  intro d
  induction d with
  | zero =>
    intro s g hd w
    have h9 : 10 ≤ s 9 := by have : ((0 : Nat) : Int) = 0 := rfl; omega
    exact rpts_y s g t t0 (by simp [smpB, h9]) w
  | succ d ih =>
    intro s g hd w
    cases hs : smpB t s
    · have h9 : s 9 < 10 := by
        unfold smpB at hs
        simp only [Bool.or_eq_false_iff, decide_eq_false_iff_not] at hs
        omega
      have gA := good_A g h9
      have gB := good_B g h9
      have iA := ih (hlfA s) gA (by rw [hlfA_9]; omega)
      have iB := ih (hlfB s) gB (by rw [hlfB_9]; omega)
      rw [hlfA_9] at iA
      rw [hlfB_9] at iB
      have e : (flat t).all s = (flat t).all (hlfA s) ++ (flat t).all (hlfB s) := (flat t).all_no s g hs
      have lA := flat_len t (hlfA s) gA
      have lB := flat_len t (hlfB s) gB
      rw [e, List.length_append]
      exact rpts_no s t (s 9) (s 9 + 1) rfl g.k0 g.k9 _ _ _ _ rfl rfl lA.1 lB.1 lA.2 lB.2 w (fun v => by have c := rsimple_E s g t t0 v; rw [hs] at c; exact c) (fun v => rhalves_E s g v) iA iB
    · exact rpts_y s g t t0 hs w
set_option maxRecDepth 100000 in
set_option maxHeartbeats 1000000 in
theorem rPoints_E (s : En) (g : GoodE s) (h9 : s 9 = 0) (t : Int) (t0 : 0 ≤ t) (w : World) : Calls Try.prog 15 #[.agg #[.int .i64 (s 0), .int .i64 (s 1), .int .i64 (s 2), .int .i64 (s 3), .int .i64 (s 4), .int .i64 (s 5), .int .i64 (s 6), .int .i64 (s 7), .int .i64 (s 8)], .int .i64 t] w (SliceRet w 23 2 ((flat t).all s).length (fl ((flat t).all s))) := by
  have hc := fun v => rpts_E t t0 10 s g (by omega) v
  rw [h9] at hc
  have HC := Lib.hid hc
  have hl := flat_len t s g
  generalize (flat t).all s = L at *
  obtain ⟨n, hn⟩ : ∃ n, L.length = n := ⟨_, rfl⟩
  rw [hn] at hl ⊢
  have HN := Lib.hid hn
  clear hc
  rw [hn] at HC
  clear hn
  go_enter Try.func15, Try.ntmps15
  go_wp2_with (go_at_call 35; (with_reducible refine (HC.out _).mono ?_); intro _ _ hsr; obtain ⟨o1, rfl, own1, y1, rfl⟩ := hsr; have HO1 := Lib.hid own1; clear own1)
  refine bodyPost_ret (v := o1) (by simp [results, Try.results15, go_sem]) rfl ⟨o1, rfl, own_base HO1.out (by simp), Later.mk_of (by repeat (first | (with_reducible assumption) | (with_reducible exact Below.refl _ _) | (with_reducible refine Later.after ?_ _) | (with_reducible refine Later.newer ?_ _) | (with_reducible refine Below.drew ?_) | (with_reducible refine Below.setCell ?_ (by first | exact Nat.le_refl _ | exact Nat.le_add_right _ _ | omega | (simp [go_sem]; done) | (simp [go_sem]; omega)) _)))⟩

end Go.Proofs.Ytcdnekhpeghkiaa

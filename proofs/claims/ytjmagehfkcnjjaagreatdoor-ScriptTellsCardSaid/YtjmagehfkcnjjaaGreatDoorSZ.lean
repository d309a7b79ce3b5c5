/-
  script.Print: a path that is printed (under way).
-/
import Derived.Test.YtjmagehfkcnjjaaGreatDoorKY
import Derived.Test.YtjmagehfkcnjjaaGreatDoorKZ
import Derived.Test.YtjmagehfkcnjjaaGreatDoorSHP
import Derived.Test.YtjmagehfkcnjjaaGreatDoorFR
import Derived.Test.YtjmagehfkcnjjaaGreatDoorKC
namespace Go.Proofs.YtjmagehfkcnjjaaGreatDoor
set_option linter.unusedVariables false
open Go.RowKit

def strsV (l : List (List UInt8)) : List Value := l.map fun x => .string ⟨x.toArray⟩
theorem strsV_len (l : List (List UInt8)) : (strsV l).length = l.length := by simp [strsV]
theorem strsV_app (a b : List (List UInt8)) : strsV (a ++ b) = strsV a ++ strsV b := by simp [strsV]
theorem one_str (s : ByteArray) : ∀ x ∈ ([.string s] : List Value), x.oneCell' = true := by intro x hx; simp at hx; subst hx; rfl
theorem one_str_at (W : World) (T : TypeId) (s : ByteArray) (b : Nat) (hb : b = W.heap.size) : ∀ j u, ([.string s] : List Value)[j]? = some u → (W.alloc (.cells #[.string s] T)).cell? ((⟨b, 0, none⟩ : Addr).add j) = some u := by
  intro j u h
  subst hb
  rw [Addr.add_mid, Nat.zero_add, (Blk.new W T #[.string s]).cell]
  simpa using h
theorem ptsAt_cap {w : World} {a : Option Addr} {n c : Nat} {l : List (Int × Int)} (h : PtsAt w (.slice a n c) l) : n = l.length ∧ n ≤ c := by
  rcases h with ⟨e, h1⟩ | ⟨_, _, e, h1⟩ | ⟨b, o, c', e, _, h2, _⟩
  · cases e; rw [h1]; exact ⟨rfl, Nat.le_refl _⟩
  · cases e; rw [h1]; exact ⟨rfl, Nat.zero_le _⟩
  · cases e; exact ⟨rfl, h2⟩
theorem ptsAt_drop {w : World} {a : Option Addr} {M c T : Nat} {l : List (Int × Int)} (h : PtsAt w (.slice a l.length c) l) (hM : M = l.length) (hT : T ≤ M) :
    PtsAt w (.slice (if c = T then a else Option.map (fun x => x.add (T * 2)) a) (M - T) (c - T)) (l.drop T) := by
  subst hM
  rcases h with ⟨e, rfl⟩ | ⟨b, c', e, rfl⟩ | ⟨b, o, c', e, h1, h2, h3, h4⟩
  · cases e
    obtain rfl : T = 0 := by simpa using hT
    exact .inl ⟨rfl, rfl⟩
  · cases e
    obtain rfl : T = 0 := by simpa using hT
    refine .inr (.inl ?_)
    split <;> exact ⟨_, _, rfl, rfl⟩
  · simp only [Value.slice.injEq, true_and] at e
    obtain ⟨rfl, rfl⟩ := e
    by_cases hc : c = T
    · have e0 : l.drop T = [] := List.drop_eq_nil_of_le (by omega)
      rw [if_pos hc, e0, show l.length - T = 0 by omega]
      exact .inr (.inl ⟨_, _, rfl, rfl⟩)
    · rw [if_neg hc]
      refine .inr (.inr ⟨b, o + T * 2, c - T, ?_, h1, ?_, ?_, fun i p hp => ?_⟩)
      · rw [List.length_drop]; simp [Addr.add]
      · rw [List.length_drop]; omega
      · omega
      · rw [List.getElem?_drop] at hp
        obtain ⟨k1, k2⟩ := h4 _ _ hp
        rw [show o + T * 2 + i * 2 = o + (T + i) * 2 by omega]
        exact ⟨k1, k2⟩
theorem tot_app (a b : List Int) : tot (a ++ b) = tot a + tot b := by simp [tot]
theorem tot_take (vs : List Int) (k : Nat) (v : Int) (h : vs[k]? = some v) : tot (vs.take (k + 1)) = tot (vs.take k) + tkI v ∧ tot (vs.take (k + 1)) ≤ tot vs := by
  have e : vs.take (k + 1) = vs.take k ++ [v] := by rw [List.take_add_one, h]; rfl
  refine ⟨by rw [e, tot_snoc], ?_⟩
  have h2 := List.take_append_drop (k + 1) vs
  have h3 : tot (vs.take (k + 1) ++ vs.drop (k + 1)) = tot (vs.take (k + 1)) + tot (vs.drop (k + 1)) := tot_app _ _
  rw [h2] at h3
  omega
theorem two_str (s t : ByteArray) : ∀ x ∈ ([.string s, .string t] : List Value), x.oneCell' = true := by
  intro x hx
  simp only [List.mem_cons, List.not_mem_nil, or_false] at hx
  rcases hx with rfl | rfl <;> rfl
theorem blkz_at {W : World} {g : Nat} {T : TypeId} {c : List Value} (h : Blk W g T c.toArray) : ∀ j x, c[j]? = some x → W.cell? ((⟨g, 0, none⟩ : Addr).add j) = some x := by
  intro j x hx
  rw [Addr.add_mid, Nat.zero_add, h.cell]
  simpa using hx
theorem row_two {W : World} {base q : Nat} {v : Value} {L : List (Int × Int)} {P : List (List UInt8)} {X Y : Int} {a : List UInt8} (h : W.ownsRow base 9 1 v ((P ++ (a :: ptW (L.take q))).length + 2) (strsV (P ++ (a :: ptW (L.take q))) ++ [Value.string ⟨(prn X).toArray⟩, Value.string ⟨(prn Y).toArray⟩])) (hq : L[q]? = some (X, Y)) :
    W.ownsRow base 9 1 v (P ++ (a :: ptW (L.take (q + 1)))).length (strsV (P ++ (a :: ptW (L.take (q + 1))))) := by
  have e : P ++ (a :: ptW (L.take (q + 1))) = (P ++ (a :: ptW (L.take q))) ++ [prn X, prn Y] := by
    rw [List.take_add_one, hq, Option.toList_some, ptW_snoc]
    simp
  rw [e, strsV_app, List.length_append]
  exact h
theorem join_c (ws : List (List UInt8)) (v : Value) (base : Nat) (w : World) (h : w.ownsRow base 9 1 v ws.length (strsV ws)) (hn : ws.length ≤ 1000000) (hl : (joinB ws).length ≤ 140737488355328) :
    Calls Tryz.prog 35 #[v, .string ⟨#[32]⟩] w fun e w' => e = .returned (.string ⟨(joinB ws).toArray⟩) ∧ ∃ x : Later w, w' = x.out := by
  rcases Go.Joins.ownsRow_forms h with ⟨rfl, h0⟩ | ⟨g, cap, rfl⟩
  · obtain rfl := List.length_eq_zero_iff.1 h0
    refine (Tryz.strings_Join_none none 0 ⟨#[32]⟩ w).mono ?_
    rintro e w' ⟨rfl, rfl⟩
    exact ⟨rfl, Later.mk_of (Below.refl _ _)⟩
  · rcases h.2 with ⟨k, _⟩ | ⟨g', cap', cur, k, _, hh, h1, h2, _⟩
    · cases k
    · obtain ⟨rfl, rfl⟩ : g = g' ∧ cap = cap' := by simpa using k
      have hb : g < w.heap.size := (Array.getElem?_eq_some_iff.1 hh).1
      have ej : Lib.join ((ws.map fun l => (⟨l.toArray⟩ : ByteArray)).map (·.data.toList)) (⟨#[32]⟩ : ByteArray).data.toList = joinB ws := by
        have e : (ws.map fun l => (⟨l.toArray⟩ : ByteArray)).map (·.data.toList) = ws := by
          rw [List.map_map]
          exact (List.map_congr_left (g := id) (fun l _ => rfl)).trans (List.map_id _)
        rw [e]
        exact join_joinB ws
      have hc := Tryz.strings_Join g 0 cap (ws.map fun l => (⟨l.toArray⟩ : ByteArray)) ⟨#[32]⟩ w (fun j x hx => by
        rw [List.getElem?_map] at hx
        have hj : j < ws.length := by
          cases e : ws[j]? with
          | none => rw [e] at hx; cases hx
          | some y => exact (List.getElem?_eq_some_iff.1 e).1
        rw [Nat.zero_add, h.cellAt j (by omega)]
        unfold strsV
        rw [List.getElem?_map]
        cases e : ws[j]? with
        | none => rw [e] at hx; cases hx
        | some y => rw [e] at hx; obtain rfl := Option.some.inj hx; rfl) hb (by rw [List.length_map]; omega) (by rw [List.length_map]; omega) (by rw [ej]; exact hl)
      rw [ej, List.length_map] at hc
      exact hc.mono fun e w' ⟨k1, k2⟩ => ⟨k1, Later.mk_of k2⟩
/-- k verbs on -/
structure ZI (w : World) (vs : List Int) (pts : List (Int × Int)) (k : Nat) (wv pv : Value) (W : World) : Prop where
  own : W.ownsRow (w.heap.size + 1) 9 1 wv (pwords (vs.take k) pts).length (strsV (pwords (vs.take k) pts))
  at_ : PtsAt w pv (pts.drop (tot (vs.take k)))
  below : Below w.heap.size w W
  size : w.heap.size + 1 ≤ W.heap.size
set_option maxRecDepth 100000 in
set_option maxHeartbeats 2000000 in
theorem sprint_ok (vs : List Int) (pts : List (Int × Int)) (vv sv : Value) (hE : chk vs pts = 0) (w : World) (hv : IntsAt w vv vs) (hp : PtsAt w sv pts) (htab : Lib.TabIs Tryz.prog w "internal/strconv.uint64pow10" .u64 Lib.pow10Tab) :
    Calls Tryz.prog 18 #[.agg #[vv, sv]] w fun e w' => e = .returned (.tuple #[.string ⟨(joinB (pwords vs pts)).toArray⟩, .int .i64 0]) ∧ ∃ x : Later w, w' = x.out := by
  obtain ⟨g512, gv, gt, gf⟩ := chk_ok hE
  have hck := fun v hv hp => check_c vs pts vv sv v hv hp
  rw [hE] at hck
  have HCK := Lib.hid hck
  have HV := Lib.hid hv
  have HP := Lib.hid hp
  have HTB := Lib.hid htab
  obtain ⟨av, cv, rfl⟩ := hv.form
  obtain ⟨ap, cp, rfl⟩ := ptsAt_form hp
  clear hck hE hv hp htab
  obtain ⟨i0, hi0, hz0, hz1, hz2⟩ := infoStr
  generalize hn : vs.length = n at *
  have HN := Lib.hid hn
  clear hn
  generalize hmm : pts.length = m at *
  have HM := Lib.hid hmm
  clear hmm
  go_enter Tryz.func18, Tryz.ntmps18
  go_wp2_with (go_at_call 33; refine (HCK.out _ (HV.out.alloc _) (ptsAt_under HP.out ((Below.refl _ w).alloc (Nat.le_refl _) _) (Nat.le_refl _))).mono ?_; rintro e _ ⟨rfl, x, rfl⟩)
  go_loopw [5, 6, 22] (fun wv pv iv wr => ∃ k : Nat, k ≤ n ∧ iv = .int .i64 (k : Int) ∧ ZI w vs pts k wv pv wr) (fun _ _ iv _ => n - (intOf iv).toNat)
  case atStart => exact ⟨0, Nat.zero_le _, rfl, (show World.ownsRow _ _ _ _ _ _ _ from World.ownsRow_nil _ _ _ _), by simpa [tot] using HP.out, Later.after ((Below.refl _ w).alloc (Nat.le_refl _) _) x, by have := x.size_le; simpa using this⟩
  case round =>
    obtain ⟨k, hk, rfl, hI⟩ := hrel
    by_cases hlt : k < n
    · have hd1 : decide ((k : Int) < (n : Int)) = true := by simp; exact hlt
      have hd2 : decide (k < n) = true := by simp; exact hlt
      have hvr : IntsAt wr (.slice av n cv) vs := HV.out.below hI.below (Nat.le_refl _)
      obtain ⟨b, o, rfl, hbl, hcell⟩ : ∃ b o, av = some ⟨b, o, none⟩ ∧ b < wr.heap.size ∧ ∀ (i : Nat) (p : Int), vs[i]? = some p → wr.cell? ⟨b, o + i, none⟩ = some (.int .i64 p) := by
        rcases hvr with ⟨e, _⟩ | ⟨a, c, e, _⟩ | ⟨b, o, c, e, h1, _, _, h2⟩
        · cases e; omega
        · cases e; omega
        · cases e; exact ⟨b, o, rfl, h1, h2⟩
      obtain ⟨v, hvk⟩ : ∃ v, vs[k]? = some v := ⟨_, List.getElem?_eq_getElem (by rw [HN.out]; exact hlt)⟩
      have hvc := hcell k v hvk
      have HVK := Lib.hid hvk
      have hv15 := gv v (List.mem_of_getElem? hvk)
      obtain ⟨aq, cq, rfl⟩ := ptsAt_form hI.at_
      obtain ⟨_, hcq⟩ := ptsAt_cap hI.at_
      obtain ⟨ht1, ht2⟩ := tot_take vs k v hvk
      obtain ⟨T, hT⟩ : ∃ T, T = tkI v := ⟨_, rfl⟩
      obtain ⟨M2, hM2⟩ : ∃ M2, M2 = (pts.drop (tot (vs.take k))).length := ⟨_, rfl⟩
      have hTM : T ≤ M2 := by rw [hM2, hT, List.length_drop, HM.out, ← gt]; omega
      have hTv : tkV v = (T : Int) := by rw [hT]; unfold tkI tkV; repeat (first | split | rfl | omega)
      have hlen : (pwords (vs.take k) pts).length ≤ 10000 := by
        have e1 := pwords_len (vs.take k) pts (by rw [HM.out, ← gt]; omega)
        have e2 := tot_le (vs.take k)
        have e3 : (vs.take k).length ≤ k := by rw [List.length_take]; omega
        omega
      have HLEN := Lib.hid hlen
      clear hlen
      have hT3 : T ≤ 3 := by rw [hT]; exact tkI_le v
      have HT := Lib.hid hT
      have HM2 := Lib.hid hM2
      rw [← hM2] at hcq ⊢
      have hTc : (T : Int) ≤ (cq : Int) := by omega
      have hTM' : (T : Int) ≤ (M2 : Int) := by omega
      have HI := Lib.hid hI
      clear hI hvr hcell hT hM2 ht1 ht2
      go_upto_region 9 with (fail)
      have hcut : ∃ i j : Nat, v - 1 = (i : Int) ∧ v = (j : Int) ∧ i ≤ j ∧ j ≤ 5 ∧ (⟨#[77, 76, 81, 67, 90]⟩ : ByteArray).extract i j = ⟨#[lett v]⟩ := by
        rcases (show v = 1 ∨ v = 2 ∨ v = 3 ∨ v = 4 ∨ v = 5 by omega) with rfl | rfl | rfl | rfl | rfl
        · exact ⟨0, 1, rfl, rfl, by decide, by decide, rfl⟩
        · exact ⟨1, 2, rfl, rfl, by decide, by decide, rfl⟩
        · exact ⟨2, 3, rfl, rfl, by decide, by decide, rfl⟩
        · exact ⟨3, 4, rfl, rfl, by decide, by decide, rfl⟩
        · exact ⟨4, 5, rfl, rfl, by decide, by decide, rfl⟩
      obtain ⟨i, j, hi, hj, hij, hj5, hex⟩ := hcut
      subst hj
      have hlen : (pwords (vs.take k) pts).length ≤ 10000 := HLEN.out
      have htk := fun u => tk_c (j : Int) u
      rw [hTv] at htk
      have HTK := Lib.hid htk
      have hbz := HI.out.size
      clear htk
      have hj1 : (i : Int) ≤ (j : Int) := by omega
      have hj2 : (j : Int) ≤ 5 := by omega
      go_wp2_with (first | (at_builtin; go_loud (refine wpList_append_own _ rfl _ _ 44 rfl (w.heap.size + 1) 9 i0 (.string ⟨#[]⟩) 1 16 Tryz.underlying44 hi0 hz0 hz1 hz2 rfl (by decide) _ _ _ rfl (HI.out.own.alloc _) ⟨wr.heap.size, 0, none⟩ 1 1 [.string ⟨#[lett (j : Int)]⟩] rfl rfl (one_str_at _ _ _ _ rfl) (one_str _) (by unfold maxLen; omega) (by omega) (by simp; omega) ?_); intro v' w3 hown hgrow hnil; have HO := Lib.hid hown; have HW := Lib.hid hgrow; clear hown hgrow hnil) | (go_at_call 34; (with_reducible refine (HTK.out _).mono ?_); rintro e _ ⟨rfl, x2, rfl⟩))
      have HB3 : Hid (Below w.heap.size w x2.out) := Lib.hid (Later.after (Below.grown (HI.out.below.alloc HI.out.below.size _) HW.out (by have := HI.out.below.size; simp; omega) (fun r hr => by have := (HI.out.own.lt r hr).1; omega)) x2)
      have HO3 := Lib.hid (own_later HO.out x2)
      have HS3 : Hid (w.heap.size + 1 ≤ x2.out.heap.size) := Lib.hid (by have := HW.out.size; have := x2.size_le; simp only [World.size_alloc] at *; omega)
      go_loopw [5, 39] (fun wv iv wr2 => ∃ q : Nat, q ≤ T ∧ iv = .int .i64 (q : Int) ∧ wr2.ownsRow (w.heap.size + 1) 9 1 wv (pwords (vs.take k) pts ++ ([lett (j : Int)] :: ptW ((pts.drop (tot (vs.take k))).take q))).length (strsV (pwords (vs.take k) pts ++ ([lett (j : Int)] :: ptW ((pts.drop (tot (vs.take k))).take q)))) ∧ Below w.heap.size w wr2 ∧ w.heap.size + 1 ≤ wr2.heap.size) (fun _ iv _ => T - (intOf iv).toNat)
      case atStart => exact ⟨0, Nat.zero_le _, rfl, by have h := HO3.out; rw [strsV_app, List.length_append]; exact h, HB3.out, HS3.out⟩
      case round =>
        obtain ⟨q, hq, rfl, hown, hbel, hsz2⟩ := hrel
        by_cases hq2 : q < T
        · obtain ⟨⟨X, Y⟩, hXY⟩ : ∃ p, (pts.drop (tot (vs.take k)))[q]? = some p := ⟨_, List.getElem?_eq_getElem (by rw [← HM2.out]; omega)⟩
          obtain ⟨b2, o2, hb2, hb2l, hcl⟩ : ∃ b o, aq = some ⟨b, o, none⟩ ∧ b < w.heap.size ∧ ∀ (i : Nat) (p : Int × Int), (pts.drop (tot (vs.take k)))[i]? = some p → w.cell? ⟨b, o + i * 2, none⟩ = some (.int .i64 p.1) ∧ w.cell? ⟨b, o + i * 2 + 1, none⟩ = some (.int .i64 p.2) := by
            rcases HI.out.at_ with ⟨_, e⟩ | ⟨a, c, _, e⟩ | ⟨b, o, c, e, h1, _, _, h2⟩
            · rw [e] at hXY; cases hXY
            · rw [e] at hXY; cases hXY
            · simp only [Value.slice.injEq] at e; exact ⟨b, o, e.1, h1, h2⟩
          subst hb2
          obtain ⟨f0, f1⟩ := hcl q (X, Y) hXY
          have r0 := (hbel.cell (p := ⟨b2, o2 + q * 2, none⟩) hb2l).trans f0
          have r1 := (hbel.cell (p := ⟨b2, o2 + q * 2 + 1, none⟩) hb2l).trans f1
          simp only [] at r0 r1
          have lb2 := Nat.lt_of_lt_of_le hb2l hbel.size
          have hdq : decide (q < T) = true := by simp [hq2]
          have hnr := farB_no (gf (X, Y) (List.mem_of_mem_drop (List.mem_of_getElem? hXY)))
          simp only [] at hnr
          obtain ⟨⟨x0, x9⟩, ⟨y0, y9⟩⟩ := hnr
          have hpx := fun v hb => print_l X (by omega) (by omega) v (Lib.tabBelow_of_tabIs HTB.out v hb)
          have hpy := fun v hb => print_l Y (by omega) (by omega) v (Lib.tabBelow_of_tabIs HTB.out v hb)
          have HPX := Lib.hid hpx
          have HPY := Lib.hid hpy
          have HXY := Lib.hid hXY
          have HOWN := Lib.hid hown
          clear hpx hpy f0 f1 hcl hXY hown
          go_upto_region 14 with (fail)
          have hbk := Blk.new wr 48 #[.int .i64 X, .int .i64 Y]
          have how := HOWN.out.alloc (.cells #[.int .i64 X, .int .i64 Y] 48)
          have hbw := hbel.alloc hbel.size (.cells #[.int .i64 X, .int .i64 Y] 48)
          have hsw : wr.heap.size < (wr.alloc (.cells #[.int .i64 X, .int .i64 Y] 48)).heap.size := by simp
          generalize wr.alloc (.cells #[.int .i64 X, .int .i64 Y] 48) = W9 at *
          generalize wr.heap.size = B9 at *
          obtain ⟨c9a, c9b, c9l⟩ := hbk.all
          have HOW := Lib.hid how
          clear how hbk r0 r1 lb2
          refine wp_region_one [0, 1, 2, 3, 4, 5, 6] 7 [8, 9] (fun g => .slice (some ⟨g, 0, none⟩) 2 2) (.cells #[.string ⟨(prn X).toArray⟩, .string ⟨(prn Y).toArray⟩] 9) (by kernel_rfl) (by kernel_rfl) (by kernel_rfl) (by kernel_rfl) (by kernel_rfl) (noInit_of (by kernel_rfl)) (fun y => ?_)
          simp only [pick, List.getElem?_cons_zero, List.getElem?_cons_succ]
          repeat (go_big_quiet_step ((first | (go_at_call 32; with_reducible exact Later.call _ (HPX.out _ (by repeat (first | (with_reducible assumption) | (with_reducible exact Below.refl _ _) | (with_reducible refine Later.after ?_ _) | (with_reducible refine Later.newer ?_ _) | (with_reducible refine Below.drew ?_) | (with_reducible refine Below.setCell ?_ (by first | exact Nat.le_refl _ | exact Nat.le_add_right _ _ | omega | (simp [go_sem]; done) | (simp [go_sem]; omega)) _))))) | (go_at_call 32; with_reducible exact Later.call _ (HPY.out _ (by repeat (first | (with_reducible assumption) | (with_reducible exact Below.refl _ _) | (with_reducible refine Later.after ?_ _) | (with_reducible refine Later.newer ?_ _) | (with_reducible refine Below.drew ?_) | (with_reducible refine Below.setCell ?_ (by first | exact Nat.le_refl _ | exact Nat.le_add_right _ _ | omega | (simp [go_sem]; done) | (simp [go_sem]; omega)) _))))))))
          refine wpQuiet_nil ?_
          refine ⟨(by intro o ho; obtain rfl := Option.some.inj ho; refine ⟨rfl, fun wc => ?_⟩; simp [execOp, go_sem]; done), ?_⟩
          intro gq x hgq hx
          simp only [dstOf, List.getElem?_toArray, List.getElem?_cons_succ, List.getElem?_cons_zero, Option.bind_some, Act.put, List.setIfInBounds_toArray, List.set_cons_succ, List.set_cons_zero]
          have bgz : Blk x.out gq 9 [Value.string ⟨(prn X).toArray⟩, Value.string ⟨(prn Y).toArray⟩].toArray := hx
          have hbnd : (pwords (vs.take k) pts ++ ([lett (j : Int)] :: ptW ((pts.drop (tot (vs.take k))).take q))).length ≤ 20000 := by
            have := HLEN.out
            rw [List.length_append, List.length_cons, ptW_len, List.length_take]
            omega
          have hsx : w.heap.size + 1 ≤ x.out.heap.size := by have := x.size_le; omega
          have HGZ := Lib.hid bgz
          clear hx bgz c9a c9b
          gi_wp2_with (gi_at_builtin; refine wpListIn_append_own _ rfl _ _ 44 rfl (w.heap.size + 1) 9 i0 (.string ⟨#[]⟩) 1 16 Tryz.underlying44 hi0 hz0 hz1 hz2 rfl (by decide) _ _ _ rfl (own_later HOW.out x) ⟨gq, 0, none⟩ 2 2 [Value.string ⟨(prn X).toArray⟩, Value.string ⟨(prn Y).toArray⟩] rfl rfl (blkz_at HGZ.out) (two_str _ _) (by unfold maxLen; omega) (by omega) hsx ?_; intro v4 w4 hown4 hgrow4 hnil4; have HO4 := Lib.hid hown4; have HW4 := Lib.hid hgrow4; clear hown4 hgrow4 hnil4)
          have HB4 : Hid (Below w.heap.size w w4) := Lib.hid (Below.grown (Later.after hbw x) HW4.out (by have := hbw.size; have := x.size_le; omega) (fun r hr => by have := ((own_later HOW.out x).lt r hr).1; omega))
          have HS4 : Hid (w.heap.size + 1 ≤ w4.heap.size) := Lib.hid (by have := HW4.out.size; omega)
          go_wp2_with (fail)
          go_roundw
          case rel => exact ⟨q + 1, by omega, by go_num, row_two HO4.out HXY.out, HB4.out, HS4.out⟩
          case measure => simp [intOf]; omega
        · obtain rfl : q = T := by omega
          have hdq : decide (q < q) = false := by simp
          have HOWN := Lib.hid hown
          have HBEL := Lib.hid hbel
          clear hown hbel
          go_wp2_with (fail)
          refine ⟨⟨k + 1, by omega, by go_num, ?_⟩, by simp [intOf]; omega⟩
          have et := (tot_take vs k _ HVK.out).1
          rw [← HT.out] at et
          refine ⟨?_, ?_, HBEL.out, hsz2⟩
          · have e1 : pwords (vs.take (k + 1)) pts = pwords (vs.take k) pts ++ ([lett (j : Int)] :: ptW ((pts.drop (tot (vs.take k))).take q)) := by
              rw [List.take_add_one, HVK.out, Option.toList_some, pwords_snoc, HT.out]
            rw [e1]
            exact HOWN.out
          · rw [et, ← List.drop_drop]
            exact ptsAt_drop HI.out.at_ HM2.out hTM
    · obtain rfl : k = n := by omega
      have hd1 : decide ((k : Int) < (k : Int)) = false := by simp
      have hd2 : decide (k < k) = false := by simp
      obtain ⟨hI1, hI2, hI3, hI4⟩ := hI
      rw [List.take_of_length_le (by rw [HN.out]; exact Nat.le_refl _)] at hI1
      have HOWN := Lib.hid hI1
      have HBEL := Lib.hid hI3
      have e1 := pwords_len vs pts (by rw [HM.out, ← gt]; exact Nat.le_refl _)
      have e2 := tot_le vs
      have e3 := HN.out
      have e4 := wlen_le (pwords vs pts) (pwords_pw vs pts gv gf)
      have e5 := joinB_len (pwords vs pts)
      have hjn := join_c (pwords vs pts) _ _ wr HOWN.out (by omega) (by omega)
      have HJN := Lib.hid hjn
      clear hI1 hI2 hI3 hjn e1 e2 e3 e4 e5
      go_wp2_with (go_at_call 35; refine HJN.out.mono ?_; rintro e _ ⟨rfl, x3, rfl⟩)
      have hbl := HBEL.out
      exact bodyPost_ret (v := .tuple #[.string ⟨(joinB (pwords vs pts)).toArray⟩, .int .i64 0]) (by simp [results, Tryz.results18, go_sem, *]) rfl ⟨rfl, (Later.mk_of (by repeat (first | (with_reducible assumption) | (with_reducible exact Below.refl _ _) | (with_reducible refine Later.after ?_ _) | (with_reducible refine Later.newer ?_ _) | (with_reducible refine Below.drew ?_) | (with_reducible refine Below.setCell ?_ (by first | exact Nat.le_refl _ | exact Nat.le_add_right _ _ | omega | (simp [go_sem]; done) | (simp [go_sem]; omega)) _))))⟩
end Go.Proofs.YtjmagehfkcnjjaaGreatDoor

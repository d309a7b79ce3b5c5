/-
  Parse, at any text: what it tells.
-/
import Derived.Test.YtjmagehfkcnjjaaGreatDoorFPB
import Derived.Test.YtjmagehfkcnjjaaGreatDoorFPC
import Derived.Test.YtjmagehfkcnjjaaGreatDoorFPDbada
import Derived.Test.YtjmagehfkcnjjaaGreatDoorFPDbadb
import Derived.Test.YtjmagehfkcnjjaaGreatDoorFPDpos
import Derived.Test.YtjmagehfkcnjjaaGreatDoorFPDneg
namespace Go.Proofs.YtjmagehfkcnjjaaGreatDoor
set_option linter.unusedVariables false
open Go.RowKit Go.Sort

theorem isEmpty_ba (l : List UInt8) : (⟨l.toArray⟩ : ByteArray).toList.isEmpty = l.isEmpty := by
  cases l with
  | nil =>
    unfold ByteArray.toList ByteArray.toList.loop
    rw [if_neg (by decide)]
    rfl
  | cons a r =>
    show (⟨(a :: r).toArray⟩ : ByteArray).toList.isEmpty = false
    unfold ByteArray.toList ByteArray.toList.loop
    rw [if_pos (by show 0 < (a :: r).toArray.size; simp)]
    have : ∀ (b : ByteArray) (i : Nat) (c : List UInt8), c ≠ [] → (ByteArray.toList.loop b i c).isEmpty = false := by
      intro b i c
      induction h : b.size - i generalizing i c with
      | zero =>
        intro hc
        unfold ByteArray.toList.loop
        rw [if_neg (by omega)]
        cases c with
        | nil => exact absurd rfl hc
        | cons x y => simp
      | succ n ih =>
        intro hc
        unfold ByteArray.toList.loop
        rw [if_pos (by omega)]
        exact ih (i + 1) _ (by omega) (by simp)
    exact this _ _ _ (by simp)
theorem sum_bd (N q : Nat) (h1 : N < 10000000000000) (h2 : q < 1000000000) : N * 256 + q < 9000000000000000 := by omega
theorem le_up (B : Nat) (h : B ≤ 1099511627776) : (B : Int) ≤ 1099511627776 := by omega
theorem lt_up (B : Nat) (h : 1099511627776 < B) : (1099511627776 : Int) < (B : Int) := by omega
theorem neg_up (B : Nat) (h : B ≤ 1099511627776) : IntKind.i64.wrap (-(B : Int)) = -(B : Int) ∧ wrap64 (-(B : Int)) = -(B : Int) := by
  refine ⟨?_, ?_⟩
  · rw [IntWalk.i64_in _ (by omega)]
  · unfold wrap64; omega
theorem ends_any (neg : Bool) (n : Nat) (r : List UInt8) : (r ≠ [] ∧ fin neg n r = none) ∨ (r = [] ∧ 1099511627776 < n ∧ fin neg n r = none) ∨ (r = [] ∧ n ≤ 1099511627776 ∧ fin neg n r = some (if neg then -(n : Int) else n)) := by
  unfold fin
  by_cases h : r = []
  · by_cases h2 : n ≤ 1099511627776
    · exact .inr (.inr ⟨h, h2, by rw [if_pos ⟨h, h2⟩]⟩)
    · exact .inr (.inl ⟨h, by omega, by rw [if_neg (fun e => h2 e.2)]⟩)
  · exact .inl ⟨h, by rw [if_neg (fun e => h e.1)]⟩
set_option maxRecDepth 100000 in
set_option maxHeartbeats 1000000 in
theorem parse_l (l : List UInt8) (w : World) : Calls Tryz.prog 31 #[.string ⟨l.toArray⟩] w fun e w' => e = .returned (.tuple #[.int .i64 (psV l), .int .i64 (psE l)]) ∧ ∃ x : Later w, w' = x.out := by
  by_cases h30 : 30 < l.length
  · have h := parse_0 ⟨l.toArray⟩ h30 w
    have e : ps l = none := by unfold ps; rw [if_pos h30]
    rw [(ps_none e).1, (ps_none e).2]
    exact h
  have hS : (⟨l.toArray⟩ : ByteArray).size ≤ 30 := by rw [ba_size]; omega
  have hu := unsg_len l
  have c1 := fun t v => took_l l ⟨l.toArray⟩ ⟨(unsg l).toArray⟩ 45 45 rfl (Lib.hasPrefix l [45]) rfl rfl rfl t v
  by_cases hd : dgs (unsg l) = []
  · have h := parse_1 _ hS _ _ c1 (fun t v => digits_no (unsg l) _ rfl hd (by omega) t v) w
    have e : ps l = none := by unfold ps; rw [if_neg h30, if_pos hd]
    rw [(ps_none e).1, (ps_none e).2]
    exact h
  have hrl := rst_len (unsg l)
  have hda := dgs_all (unsg l)
  have c2 := fun t v => digits_l (unsg l) _ ⟨(dgs (unsg l)).toArray⟩ ⟨(rst (unsg l)).toArray⟩ rfl rfl rfl hd (by omega) t v
  have c3 : ∀ v, Calls Tryz.prog 56 #[.string ⟨(dgs (unsg l)).toArray⟩, .string ⟨#[48]⟩] v fun e w' => e = .returned (.string ⟨(Lib.trimLeftB (dgs (unsg l)) 48).toArray⟩) ∧ w' = v := fun v => Tryz.strings_TrimLeft_one ⟨(dgs (unsg l)).toArray⟩ 48 (by decide) v
  by_cases h13 : 13 < (Lib.trimLeftB (dgs (unsg l)) 48).length
  · have h := parse_2 _ hS _ _ c1 _ _ c2 _ c3 h13 w
    have e : ps l = none := by unfold ps; rw [if_neg h30, if_neg hd, if_pos h13]
    rw [(ps_none e).1, (ps_none e).2]
    exact h
  have hps : ps l = fpt (Lib.hasPrefix l [45]) (vl (Lib.trimLeftB (dgs (unsg l)) 48) * 256) (rst (unsg l)) := by unfold ps; rw [if_neg h30, if_neg hd, if_neg h13]
  have hwd : ∀ b ∈ Lib.trimLeftB (dgs (unsg l)) 48, IsDg b := fun b hb => hda b (trimL_sub _ 48 b hb)
  have hv := (vl_of _ hwd).2
  have hv13 : vl (Lib.trimLeftB (dgs (unsg l)) 48) < 10000000000000 := Nat.lt_of_lt_of_le hv (Nat.le_trans (Nat.pow_le_pow_right (show 0 < 10 by decide) (show _ ≤ 13 by omega)) (by decide))
  have c4 : ∀ v, Calls Tryz.prog 58 #[.string (({data := #[48]} : ByteArray) ++ ⟨(Lib.trimLeftB (dgs (unsg l)) 48).toArray⟩)] v fun e w' => e = .returned (.int .i64 ((vl (Lib.trimLeftB (dgs (unsg l)) 48) : Nat) : Int)) ∧ ∃ x : Later v, w' = x.out := fun v => by
    refine number_c _ _ ?_ ?_ v
    · rw [ByteArray.size_append, ba_size]
      show 1 + (Lib.trimLeftB (dgs (unsg l)) 48).length ≤ 18
      omega
    · show Lib.atoi ((⟨([48] : List UInt8).toArray⟩ : ByteArray) ++ (⟨(Lib.trimLeftB (dgs (unsg l)) 48).toArray⟩ : ByteArray)).data.toList = _
      rw [ba_app]
      exact atoi_vl _ hwd
  generalize Lib.trimLeftB (dgs (unsg l)) 48 = wh at *
  generalize hdd : dgs (unsg l) = d at *
  obtain ⟨r, hr⟩ : ∃ r, r = rst (unsg l) := ⟨_, rfl⟩
  obtain ⟨neg, hneg⟩ : ∃ neg, neg = Lib.hasPrefix l [45] := ⟨_, rfl⟩
  rw [← hr] at c2 hps hrl
  rw [← hneg] at c1 hps
  generalize vl wh = N at *
  have hA1 : IntKind.i64.wrap ((N : Int) * 256) = ((N * 256 : Nat) : Int) := by rw [IntWalk.i64_in _ (by omega)]; omega
  have hA2 : wrap64 ((N : Int) * 256) = ((N * 256 : Nat) : Int) := by unfold wrap64; omega
  have hr30 : r.length ≤ 30 := by omega
  clear hr hneg
  have fin_ : ∀ (n : Nat) (o : Option Int), ps l = o → o = some (if neg then -(n : Int) else n) → psV l = (if neg then -(n : Int) else n) ∧ psE l = 0 := fun n o h1 h2 => ps_some (h1.trans h2)
  by_cases hp : Lib.hasPrefix r [46] = true
  · have c5 := fun t v => took_l r ⟨r.toArray⟩ ⟨(r.drop 1).toArray⟩ 46 46 rfl true hp rfl rfl t v
    have hdl : (r.drop 1).length ≤ 30 := by rw [List.length_drop]; omega
    unfold fpt at hps
    rw [if_pos hp] at hps
    generalize r.drop 1 = r3 at *
    have hrl3 := rst_len r3
    by_cases hd3 : dgs r3 = []
    · rw [if_pos hd3] at hps
      rw [(ps_none hps).1, (ps_none hps).2]
      exact parse_4 _ hS _ _ c1 _ _ c2 _ c3 _ _ (by rw [ba_size]; omega) hA1 hA2 c4 _ c5 (fun t v => digits_no r3 _ rfl hd3 (by omega) t v) w
    rw [if_neg hd3] at hps
    have c6 := fun t v => digits_l r3 _ ⟨(dgs r3).toArray⟩ ⟨(rst r3).toArray⟩ rfl rfl rfl hd3 (by omega) t v
    have hd3a := dgs_all r3
    by_cases h8 : 8 < (Lib.trimRightB (dgs r3) 48).length
    · rw [if_pos h8] at hps
      rw [(ps_none hps).1, (ps_none hps).2]
      exact parse_5 _ hS _ _ c1 _ _ c2 _ c3 _ _ (by rw [ba_size]; omega) hA1 hA2 c4 _ c5 _ _ c6 (fun v => parts_no1 (dgs r3) _ rfl (by omega) h8 v) w
    rw [if_neg h8] at hps
    by_cases hm : vl (eight (dgs r3)) % 390625 = 0
    · rw [if_pos hm] at hps
      have hq9 : vl (eight (dgs r3)) / 390625 < 1000000000 := by
        have he : ∀ b ∈ eight (dgs r3), IsDg b := app_dg (fun b hb => hd3a b (trimR_sub _ 48 b hb)) (noughts_dg _)
        have hv := (vl_of _ he).2
        have hle : (eight (dgs r3)).length = 8 := by unfold eight; rw [List.length_append, List.length_replicate]; omega
        rw [hle] at hv
        have hv' : vl (eight (dgs r3)) < 100000000 := hv
        omega
      have c7 := fun v => parts_l (dgs r3) _ ((vl (eight (dgs r3)) / 390625 : Nat) : Int) hd3a rfl (by omega) h8 hm rfl v
      obtain ⟨q, hq⟩ : ∃ q, q = vl (eight (dgs r3)) / 390625 := ⟨_, rfl⟩
      rw [← hq] at hps hq9 c7
      clear hq hm
      have hB1 : IntKind.i64.wrap (((N * 256 : Nat) : Int) + (q : Int)) = ((N * 256 + q : Nat) : Int) := by rw [IntWalk.i64_in _ (by omega)]; omega
      have hB2 : wrap64 (((N * 256 : Nat) : Int) + (q : Int)) = ((N * 256 + q : Nat) : Int) := by unfold wrap64; omega
      have hb9 := sum_bd N q hv13 hq9
      rcases ends_any neg (N * 256 + q) (rst r3) with ⟨he, h⟩ | ⟨he, hm9, h⟩ | ⟨he, hm9, h⟩
      · rw [(ps_none (hps.trans h)).1, (ps_none (hps.trans h)).2]
        exact parse_6bada _ hS _ _ c1 _ _ c2 _ c3 _ _ (by rw [ba_size]; omega) hA1 hA2 c4 _ c5 _ _ c6 _ _ hB1 hB2 c7 (by rw [isEmpty_ba]; simpa using he) w
      · rw [(ps_none (hps.trans h)).1, (ps_none (hps.trans h)).2]
        exact parse_6badb _ hS _ _ c1 _ _ c2 _ c3 _ _ (by rw [ba_size]; omega) hA1 hA2 c4 _ c5 _ _ c6 _ _ hB1 hB2 c7 (by rw [he]) (lt_up _ hm9) w
      · obtain ⟨e1, e2⟩ := fin_ _ _ hps h
        rw [e1, e2]
        cases neg
        · rw [if_neg (by decide)]
          exact parse_6pos _ hS _ c1 _ _ c2 _ c3 _ _ (by rw [ba_size]; omega) hA1 hA2 c4 _ c5 _ _ c6 _ _ hB1 hB2 c7 (by rw [he]) (le_up _ hm9) w
        · rw [if_pos rfl]
          exact parse_6neg _ hS _ c1 _ _ c2 _ c3 _ _ (by rw [ba_size]; omega) hA1 hA2 c4 _ c5 _ _ c6 _ _ hB1 hB2 c7 (by rw [he]) (le_up _ hm9) _ (neg_up _ hm9).1 (neg_up _ hm9).2 w
    · rw [if_neg hm] at hps
      rw [(ps_none hps).1, (ps_none hps).2]
      exact parse_5 _ hS _ _ c1 _ _ c2 _ c3 _ _ (by rw [ba_size]; omega) hA1 hA2 c4 _ c5 _ _ c6 (fun v => parts_no2 (dgs r3) _ hd3a rfl (by omega) h8 hm v) w
  · have hp' : Lib.hasPrefix r [46] = false := by simpa using hp
    have c5 := fun t v => took_l r ⟨r.toArray⟩ ⟨r.toArray⟩ 46 46 rfl false hp' rfl rfl t v
    unfold fpt at hps
    rw [if_neg hp] at hps
    rcases ends_any neg (N * 256) r with ⟨he, h⟩ | ⟨he, hm9, h⟩ | ⟨he, hm9, h⟩
    · rw [(ps_none (hps.trans h)).1, (ps_none (hps.trans h)).2]
      exact parse_3bada _ hS _ _ c1 _ _ c2 _ c3 _ _ (by rw [ba_size]; omega) hA1 hA2 c4 _ c5 (by rw [isEmpty_ba]; simpa using he) w
    · rw [(ps_none (hps.trans h)).1, (ps_none (hps.trans h)).2]
      exact parse_3badb _ hS _ _ c1 _ _ c2 _ c3 _ _ (by rw [ba_size]; omega) hA1 hA2 c4 _ c5 (by rw [he]) (lt_up _ hm9) w
    · obtain ⟨e1, e2⟩ := fin_ _ _ hps h
      rw [e1, e2]
      cases neg
      · rw [if_neg (by decide)]
        exact parse_3pos _ hS _ c1 _ _ c2 _ c3 _ _ (by rw [ba_size]; omega) hA1 hA2 c4 _ c5 (by rw [he]) (le_up _ hm9) w
      · rw [if_pos rfl]
        exact parse_3neg _ hS _ c1 _ _ c2 _ c3 _ _ (by rw [ba_size]; omega) hA1 hA2 c4 _ c5 (by rw [he]) (le_up _ hm9) _ (neg_up _ hm9).1 (neg_up _ hm9).2 w
end Go.Proofs.YtjmagehfkcnjjaaGreatDoor

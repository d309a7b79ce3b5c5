/-
  The document's own Parse, at any text.
-/
import Derived.Test.YtjmagehfkcnjjaaGreatDoorFU
namespace Go.Proofs.YtjmagehfkcnjjaaGreatDoor
set_option linter.unusedVariables false
open Go.RowKit Go.Sort Go.Lib

def rpsB (neg : Bool) (r : List UInt8) : Option Int :=
  if dgs r = [] then none
  else if rst r = [] then dck neg (min (vl (dgs r)) 1099511627776) 0
  else if hasPrefix (rst r) [46] = true ∧ 2 ≤ (rst r).length then rpt neg (min (vl (dgs r)) 1099511627776) (stripz ((rst r).drop 1))
  else none
theorem ps_rpsB (l : List UInt8) (h : ¬ 30 < l.length) : ps l = rpsB (hasPrefix l [45]) (unsg l) := by
  rw [← rps_ps]; unfold rps rpsB; rw [if_neg h]
theorem ps_chk {l : List UInt8} (neg : Bool) (s p : Nat) (h : ps l = dck neg s p) : psV l = chV neg s p ∧ psE l = chE neg s p := by
  unfold psV psE chV chE; rw [h]; exact ⟨rfl, rfl⟩
theorem strip_eq (m t : List UInt8) (j : Nat) (h : m = t ++ List.replicate j 48) (hne : t ≠ []) (hs : t.length ≤ 1 ∨ ∃ b, t.getLast? = some b ∧ b ≠ 48) : t = stripz m := by
  by_cases hl : ∃ b, t.getLast? = some b ∧ b ≠ 48
  · obtain ⟨b, hb, hb8⟩ := hl
    have e : trimRightB m 48 = t := by rw [h]; exact trimR_app t j (fun c hc => by rw [hb] at hc; obtain rfl := Option.some.inj hc; exact hb8)
    unfold stripz
    rw [e, if_neg hne]
  · have h1 := hs.resolve_right hl
    cases t with
    | nil => exact absurd rfl hne
    | cons x y =>
      rw [List.length_cons] at h1
      obtain rfl : y = [] := List.length_eq_zero_iff.1 (by omega)
      have hx : x = 48 := Classical.byContradiction fun hx => hl ⟨x, rfl, hx⟩
      subst hx
      have e : m = [] ++ List.replicate (j + 1) 48 := by rw [h]; rfl
      have e2 : trimRightB m 48 = [] := by rw [e]; exact trimR_app [] (j + 1) (fun c hc => by cases hc)
      unfold stripz
      rw [e2, if_pos rfl, h]
      rfl
set_option maxHeartbeats 400000 in
theorem rparse_0 (S : ByteArray) (h : 30 < S.size) (w : World) : Calls Tryz.prog 42 #[.string S] w fun e w' => e = .returned (.tuple #[.int .i64 0, .int .i64 30]) ∧ ∃ x : Later w, w' = x.out := by
  have hd : decide ((30 : Int) < (S.size : Int)) = true := by simp; omega
  go_enter Tryz.func42, Tryz.ntmps42
  go_wp2_with (fail)
  exact bodyPost_ret (v := .tuple #[.int .i64 0, .int .i64 30]) (by simp [results, Tryz.results42, go_sem, *]) rfl ⟨rfl, (Later.mk_of (by repeat (first | (with_reducible assumption) | (with_reducible exact Below.refl _ _) | (with_reducible refine Later.after ?_ _) | (with_reducible refine Later.newer ?_ _) | (with_reducible refine Below.drew ?_) | (with_reducible refine Below.setCell ?_ (by first | exact Nat.le_refl _ | exact Nat.le_add_right _ _ | omega | (simp [go_sem]; done) | (simp [go_sem]; omega)) _))))⟩
set_option maxHeartbeats 400000 in
theorem rparse_e (w : World) : Calls Tryz.prog 42 #[.string ⟨#[]⟩] w fun e w' => e = .returned (.tuple #[.int .i64 0, .int .i64 30]) ∧ ∃ x : Later w, w' = x.out := by
  go_enter Tryz.func42, Tryz.ntmps42
  go_wp2_with (fail)
  go_loopw [4, 6, 7] (fun tv av nv wr => tv = .string ⟨#[]⟩ ∧ av = .int .i64 0 ∧ nv = .int .i64 0 ∧ wr = w) (fun tv _ _ _ => strN tv)
  case atStart => exact ⟨rfl, rfl, rfl, rfl⟩
  case round =>
    obtain ⟨rfl, rfl, rfl, rfl⟩ := hrel
    go_wp2_with (fail)
    exact bodyPost_ret (v := .tuple #[.int .i64 0, .int .i64 30]) (by simp [results, Tryz.results42, go_sem, *]) rfl ⟨rfl, (Later.mk_of (by repeat (first | (with_reducible assumption) | (with_reducible exact Below.refl _ _) | (with_reducible refine Later.after ?_ _) | (with_reducible refine Later.newer ?_ _) | (with_reducible refine Below.drew ?_) | (with_reducible refine Below.setCell ?_ (by first | exact Nat.le_refl _ | exact Nat.le_add_right _ _ | omega | (simp [go_sem]; done) | (simp [go_sem]; omega)) _))))⟩
set_option maxRecDepth 100000 in
set_option maxHeartbeats 4000000 in
theorem rparse_p (l r : List UInt8) (c0 : UInt8) (r0 : List UInt8) (hr0 : r = c0 :: r0) (hc0 : c0 ≠ 45) (hl : l = r) (h30 : ¬ 30 < l.length) (hps : ps l = rpsB false r) (S : ByteArray) (hS : S = ⟨l.toArray⟩) (w : World) :
    Calls Tryz.prog 42 #[.string S] w fun e w' => e = .returned (.tuple #[.int .i64 (psV l), .int .i64 (psE l)]) ∧ ∃ x : Later w, w' = x.out := by
  have hSs : S.size ≤ 30 := by rw [hS, ba_size]; omega
  have hd30 : decide ((30 : Int) < (S.size : Int)) = false := by simp; omega
  have hix0 := fun W => ix0 l c0 (by rw [hl, hr0]; rfl) W
  rw [← hS] at hix0
  have hE0 : S.toList.isEmpty = false := by rw [hS, isEmpty_ba, hl, hr0]; rfl
  obtain ⟨cc, hcc⟩ : ∃ c : Int, c = (c0.toNat : Int) := ⟨_, rfl⟩
  rw [← hcc] at hix0
  have hcn : ¬ cc = 45 := byte_ne c0 cc 45 45 hcc rfl hc0
  have hcb : (cc == 45) = false := by simpa using hcn
  have hcd : decide (cc = 45) = false := by simpa using hcn

  have hrl : r.length ≤ 30 := by rw [← hl]; omega
  have hst0 : S = ⟨r.toArray⟩ := by rw [hS, hl]
  have HST := Lib.hid hst0
  have HS := Lib.hid hS
  clear hst0 hS hl hr0 hc0 hcc
  go_enter Tryz.func42, Tryz.ntmps42
  go_wp2_with (fail)
  go_loopw [4, 6, 7] (fun tv av nv wr => ∃ dn m : List UInt8, r = dn ++ m ∧ (∀ b ∈ dn, IsDg b) ∧ tv = .string ⟨m.toArray⟩ ∧ av = .int .i64 ((min (vl dn) 1099511627776 : Nat) : Int) ∧ nv = .int .i64 (dn.length : Int) ∧ ∃ y : Later w, wr = y.out) (fun tv _ _ _ => strN tv)
  case atStart => exact ⟨[], r, rfl, by simp, by rw [HST.out], rfl, rfl, ⟨w, Below.refl _ _⟩, rfl⟩
  case round =>
    obtain ⟨dn, m, hr, hdn, rfl, rfl, rfl, y, rfl⟩ := hrel
    obtain ⟨T, hT⟩ : ∃ T : ByteArray, T = ⟨m.toArray⟩ := ⟨_, rfl⟩
    have hTs : T.size = m.length := by rw [hT, ba_size]
    have hTe : T.toList.isEmpty = m.isEmpty := by rw [hT, isEmpty_ba]
    have hlen : dn.length + m.length ≤ 30 := by have := congrArg List.length hr; rw [List.length_append] at this; omega
    rw [← hT]
    have HT := Lib.hid hT
    obtain ⟨Wn, hWn⟩ : ∃ Wn : Nat, Wn = min (vl dn) 1099511627776 := ⟨_, rfl⟩
    have hW9 : Wn ≤ 1099511627776 := by rw [hWn]; exact Nat.min_le_right _ _
    rw [← hWn]
    obtain ⟨N, hN⟩ : ∃ N, N = dn.length := ⟨_, rfl⟩
    rw [← hN]
    have hN9 : N ≤ 30 := by omega
    cases m with
    | nil =>
      rw [List.append_nil] at hr
      have hge : dgs r = r ∧ rst r = [] := by rw [hr]; exact dgs_eq dn hdn
      rw [show ([] : List UInt8).isEmpty = true from rfl] at hTe
      have hps2 : ps l = if dn = [] then none else dck false Wn 0 := by
        rw [hps]; unfold rpsB; rw [hge.1, hge.2, if_pos rfl, hr, ← hWn]
      clear hps hge hT hWn hTs hlen
      by_cases hd0 : dn = []
      · rw [if_pos hd0] at hps2
        obtain rfl : N = 0 := by rw [hN, hd0]; rfl
        have HV := Lib.hid (ps_none (hps2))
        clear hps2 hN hr hd0 hdn
        go_wp2_with (fail)
        exact bodyPost_ret (v := .tuple #[.int .i64 0, .int .i64 30]) (by simp [results, Tryz.results42, go_sem, *]) rfl ⟨by rw [HV.out.1, HV.out.2], (Later.mk_of (by repeat (first | (with_reducible assumption) | (with_reducible exact Below.refl _ _) | (with_reducible refine Later.after ?_ _) | (with_reducible refine Later.newer ?_ _) | (with_reducible refine Below.drew ?_) | (with_reducible refine Below.setCell ?_ (by first | exact Nat.le_refl _ | exact Nat.le_add_right _ _ | omega | (simp [go_sem]; done) | (simp [go_sem]; omega)) _))))⟩
      · rw [if_neg hd0] at hps2
        have hNp := List.length_pos_iff.2 hd0
        have n1 : ¬ (N : Int) = 0 := by omega
        have n2 : ((N : Int) == 0) = false := by simpa using n1
        have n3 : decide ((N : Int) = 0) = false := by simpa using n1
        have HV := Lib.hid (ps_chk false _ 0 (hps2))
        have hck : ∀ v, Calls Tryz.prog 76 #[.int .i64 (1), .int .i64 (Wn : Int), .int .i64 (0)] v fun e w' => e = .returned (.tuple #[.int .i64 (chV false Wn 0), .int .i64 (chE false Wn 0)]) ∧ ∃ x : Later v, w' = x.out := fun v => checked_c false Wn 0 hW9 (Nat.zero_le _) v
        have HCK := Lib.hid hck
        clear hck
        clear hps2 hN hr hNp
        go_wp2_with (go_at_call 76; (with_reducible refine (HCK.out _).mono ?_); rintro e _ ⟨rfl, xc, rfl⟩)
        exact bodyPost_ret (v := .tuple #[.int .i64 (chV false Wn 0), .int .i64 (chE false Wn 0)]) (by simp [results, Tryz.results42, go_sem, *]) rfl ⟨by rw [HV.out.1, HV.out.2], (Later.mk_of (by repeat (first | (with_reducible assumption) | (with_reducible exact Below.refl _ _) | (with_reducible refine Later.after ?_ _) | (with_reducible refine Later.newer ?_ _) | (with_reducible refine Below.drew ?_) | (with_reducible refine Below.setCell ?_ (by first | exact Nat.le_refl _ | exact Nat.le_add_right _ _ | omega | (simp [go_sem]; done) | (simp [go_sem]; omega)) _))))⟩
    | cons b m2 =>
      rw [show (b :: m2).isEmpty = false from rfl] at hTe
      have hixb := fun W => ix0 (b :: m2) b rfl W
      rw [← hT] at hixb
      have hdg := fun v => digit_any b v
      obtain ⟨c, hc⟩ : ∃ c : Int, c = (b.toNat : Int) := ⟨_, rfl⟩
      rw [← hc] at hixb hdg
      rw [List.length_cons] at hTs hlen
      have hT1 : (1 : Int) ≤ (T.size : Int) := by omega
      by_cases hbd : isD b = true
      · have hbn := (isD_iff b).1 hbd
        rw [hbd] at hdg
        have HDG := Lib.hid hdg
        obtain ⟨d, hd⟩ : ∃ d : Nat, d = b.toNat - 48 := ⟨_, rfl⟩
        obtain ⟨hd9, hcd, u1, u2⟩ := byte_facts b hbn c d hc hd
        obtain ⟨u3, u4, u5, u6, u7⟩ := sat_facts Wn d hW9 hd9
        obtain ⟨Z, hZ⟩ : ∃ Z : Nat, Z = Wn * 10 + d := ⟨_, rfl⟩
        rw [← hZ] at u4 u6 u7
        have u8 : IntKind.i64.wrap ((N : Int) + 1) = ((N + 1 : Nat) : Int) := by rw [IntWalk.i64_in _ (by omega)]; omega
        have hsat : min Z 1099511627776 = min (vl (dn ++ [b])) 1099511627776 := by
          rw [sat_step dn b hdn hbn, ← hd, hZ, hWn]; exact sat_min _ _
        have HSAT := Lib.hid hsat
        have HBN := Lib.hid hbn
        have HDN := Lib.hid hdn
        have HR := Lib.hid hr
        have HNN := Lib.hid hN
        have HTs := Lib.hid hTs
        clear hdg hbd hbn hd hZ hc hT hWn hsat hdn hr hN hps hTs hlen hrl
        go_wp2_with (go_at_call 75; (with_reducible refine (HDG.out _).mono ?_); rintro e _ ⟨rfl, xd, rfl⟩)
        go_roundw
        case rel =>
          refine ⟨dn ++ [b], m2, by rw [List.append_assoc]; exact HR.out, app_dg HDN.out (fun z hz => by rw [List.mem_singleton.1 hz]; exact HBN.out), ?_, ?_, ?_, ⟨xd.out, y.below.trans (xd.below.mono y.below.size)⟩, rfl⟩
          · rw [HT.out, ba_drop]; rfl
          · rw [HSAT.out]
          · rw [List.length_append, ← HNN.out]; rfl
        case measure =>
          show (T.extract 1 T.size).size < T.size
          rw [ByteArray.size_extract]
          have := HTs.out
          omega
      · have hbf : isD b = false := by simpa using hbd
        rw [hbf] at hdg
        have HDG := Lib.hid hdg
        have hnd : ¬ IsDg b := fun h => hbd ((isD_iff b).2 h)
        have hge := dgs_app dn (b :: m2) hdn (fun z hz => by obtain rfl := Option.some.inj hz; exact hnd)
        rw [← hr] at hge
        have hps2 : ps l = if dn = [] then none else if hasPrefix (b :: m2) [46] = true ∧ 2 ≤ (b :: m2).length then rpt false Wn (stripz m2) else none := by
          rw [hps]; unfold rpsB; rw [hge.1, hge.2, if_neg (show ¬ b :: m2 = [] by simp), ← hWn]; rfl
        clear hps hge hdg hbd hbf hnd hWn hr hdn
        by_cases hd0 : dn = []
        · rw [if_pos hd0] at hps2
          obtain rfl : N = 0 := by rw [hN, hd0]; rfl
          have HV := Lib.hid (ps_none (hps2))
          clear hps2 hc hT hN hd0 hTs hlen
          go_wp2_with (go_at_call 75; (with_reducible refine (HDG.out _).mono ?_); rintro e _ ⟨rfl, xd, rfl⟩)
          exact bodyPost_ret (v := .tuple #[.int .i64 0, .int .i64 30]) (by simp [results, Tryz.results42, go_sem, *]) rfl ⟨by rw [HV.out.1, HV.out.2], (Later.mk_of (by repeat (first | (with_reducible assumption) | (with_reducible exact Below.refl _ _) | (with_reducible refine Later.after ?_ _) | (with_reducible refine Later.newer ?_ _) | (with_reducible refine Below.drew ?_) | (with_reducible refine Below.setCell ?_ (by first | exact Nat.le_refl _ | exact Nat.le_add_right _ _ | omega | (simp [go_sem]; done) | (simp [go_sem]; omega)) _))))⟩
        rw [if_neg hd0] at hps2
        have hNp := List.length_pos_iff.2 hd0
        have n1 : ¬ (N : Int) = 0 := by omega
        have n2 : ((N : Int) == 0) = false := by simpa using n1
        have n3 : decide ((N : Int) = 0) = false := by simpa using n1
        clear hN hNp
        by_cases hb46 : b = 46
        · have hc46 : c = 46 := by rw [hc, hb46]; rfl
          subst hc46
          by_cases hm2 : m2 = []
          · rw [if_neg (by rw [hm2]; simp)] at hps2
            have hz2 : decide ((T.size : Int) < 2) = true := by rw [hTs, hm2]; rfl
            have HV := Lib.hid (ps_none (hps2))
            clear hps2 hc hT hTs
            go_wp2_with (go_at_call 75; (with_reducible refine (HDG.out _).mono ?_); rintro e _ ⟨rfl, xd, rfl⟩)
            exact bodyPost_ret (v := .tuple #[.int .i64 0, .int .i64 30]) (by simp [results, Tryz.results42, go_sem, *]) rfl ⟨by rw [HV.out.1, HV.out.2], (Later.mk_of (by repeat (first | (with_reducible assumption) | (with_reducible exact Below.refl _ _) | (with_reducible refine Later.after ?_ _) | (with_reducible refine Later.newer ?_ _) | (with_reducible refine Below.drew ?_) | (with_reducible refine Below.setCell ?_ (by first | exact Nat.le_refl _ | exact Nat.le_add_right _ _ | omega | (simp [go_sem]; done) | (simp [go_sem]; omega)) _))))⟩
          · have hm2p := List.length_pos_iff.2 hm2
            rw [if_pos ⟨by rw [hasPrefix_one, hb46]; rfl, by rw [List.length_cons]; omega⟩] at hps2
            have hz2 : decide ((T.size : Int) < 2) = false := by rw [hTs]; simp; omega
            have hpt2 := hps2
            have hm2l : m2.length ≤ 30 := by omega
            clear hps2 hc hT hTs
            go_wp2_with (go_at_call 75; (with_reducible refine (HDG.out _).mono ?_); rintro e _ ⟨rfl, xd, rfl⟩)
            obtain ⟨ym, hym⟩ : ∃ ym : Later w, ym.out = xd.out := ⟨⟨xd.out, y.below.trans (xd.below.mono y.below.size)⟩, rfl⟩
            rw [← hym]
            clear hym
            go_loopw [4] (fun tv wr => ∃ (t : List UInt8) (j : Nat), m2 = t ++ List.replicate j 48 ∧ t ≠ [] ∧ tv = .string ⟨t.toArray⟩ ∧ ∃ y : Later w, wr = y.out) (fun tv _ => strN tv)
            case atStart => exact ⟨m2, 0, by simp, hm2, (by rw [HT.out, ba_drop]; rfl), ym, rfl⟩
            case round =>
              obtain ⟨t, j, ht2, htne, rfl, y2, rfl⟩ := hrel
              obtain ⟨T2, hT2⟩ : ∃ T2 : ByteArray, T2 = ⟨t.toArray⟩ := ⟨_, rfl⟩
              have hT2s : T2.size = t.length := by rw [hT2, ba_size]
              have HT2s := Lib.hid hT2s
              have htl : t.length ≤ 30 := by have := congrArg List.length ht2; rw [List.length_append] at this; omega
              have htp : 1 ≤ t.length := List.length_pos_iff.2 htne
              rw [← hT2]
              have HT2 := Lib.hid hT2
              clear hT2
              by_cases h1 : t.length ≤ 1
              · have hz1 : decide ((1 : Int) < (T2.size : Int)) = false := by rw [hT2s]; simp; omega
                have hstop : t.length ≤ 1 ∨ ∃ b, t.getLast? = some b ∧ b ≠ 48 := .inl h1
                clear hT2s
                have hst : t = stripz m2 := strip_eq m2 t j ht2 htne hstop
                have hrpt : ps l = rpt false Wn t := by rw [hst]; exact hpt2
                clear hpt2 hst hstop ht2
                by_cases ht8n : 8 < t.length
                · have hz8 : decide ((8 : Int) < (T2.size : Int)) = true := by rw [HT2s.out]; simp; omega
                  have HV := Lib.hid (ps_none (hrpt.trans (by unfold rpt; rw [if_pos ht8n])))
                  go_wp2_with (fail)
                  exact bodyPost_ret (v := .tuple #[.int .i64 0, .int .i64 30]) (by simp [results, Tryz.results42, go_sem, *]) rfl ⟨by rw [HV.out.1, HV.out.2], (Later.mk_of (by repeat (first | (with_reducible assumption) | (with_reducible exact Below.refl _ _) | (with_reducible refine Later.after ?_ _) | (with_reducible refine Later.newer ?_ _) | (with_reducible refine Below.drew ?_) | (with_reducible refine Below.setCell ?_ (by first | exact Nat.le_refl _ | exact Nat.le_add_right _ _ | omega | (simp [go_sem]; done) | (simp [go_sem]; omega)) _))))⟩
                have ht8 : t.length ≤ 8 := by omega
                have hz8 : decide ((8 : Int) < (T2.size : Int)) = false := by rw [HT2s.out]; simp; omega
                go_wp2_with (fail)
                go_loopw [8, 9, 10] (fun av bv iv wr => ∃ k : Nat, k ≤ t.length ∧ (∀ b ∈ t.take k, IsDg b) ∧ av = .int .i64 ((vl (t.take k) : Nat) : Int) ∧ bv = .int .i64 ((10 ^ k : Nat) : Int) ∧ iv = .int .i64 (k : Int) ∧ ∃ y : Later w, wr = y.out) (fun _ _ iv _ => t.length - (RowKit.intOf iv).toNat)
                case atStart => exact ⟨0, by omega, by simp, rfl, rfl, rfl, y2, rfl⟩
                case round =>
                  obtain ⟨k, hk, hkd, rfl, rfl, rfl, y3, rfl⟩ := hrel
                  by_cases hlt : k < t.length
                  · have hb3 : t[k]? = some t[k] := List.getElem?_eq_getElem hlt
                    obtain ⟨b, hbe⟩ : ∃ b, b = t[k] := ⟨_, rfl⟩
                    rw [← hbe] at hb3
                    have hix3 := fun W => ix t k b hb3 W
                    rw [← HT2.out] at hix3
                    have hbm : b ∈ t := List.mem_of_getElem? hb3
                    have hsz : decide ((k : Int) < (T2.size : Int)) = true := by rw [HT2s.out]; simp; omega
                    have hsz2 : decide (k < T2.size) = true := by rw [HT2s.out]; simp; omega
                    have hsz3 : k < T2.size := by rw [HT2s.out]; omega
                    have hdg3 := fun v => digit_any b v
                    have htk : t.take (k + 1) = t.take k ++ [b] := by rw [List.take_add_one, hb3]; rfl
                    obtain ⟨c, hc⟩ : ∃ c : Int, c = (b.toNat : Int) := ⟨_, rfl⟩
                    rw [← hc] at hix3 hdg3
                    have hv8 := (vl_of _ hkd).2
                    have hE : 10 ^ k ≤ 10000000 := Nat.le_trans (Nat.pow_le_pow_right (show 0 < 10 by decide) (show k ≤ 7 by omega)) (by decide)
                    have hVe : vl (t.take k) < 10 ^ k := Nat.lt_of_lt_of_le hv8 (Nat.pow_le_pow_right (by decide) (by rw [List.length_take]; omega))
                    have hEs : 10 ^ (k + 1) = 10 ^ k * 10 := Nat.pow_succ ..
                    obtain ⟨E, hEe⟩ : ∃ E, E = 10 ^ k := ⟨_, rfl⟩
                    obtain ⟨V, hV⟩ : ∃ V, V = vl (t.take k) := ⟨_, rfl⟩
                    rw [← hEe] at hE hVe hEs ⊢
                    rw [← hV] at hVe ⊢
                    have HEs := Lib.hid hEs
                    have HTK := Lib.hid htk
                    have HVV := Lib.hid hV
                    have HKD := Lib.hid hkd
                    clear hEs htk hEe hV hkd hv8
                    by_cases hbd : isD b = true
                    · have hbn := (isD_iff b).1 hbd
                      rw [hbd] at hdg3
                      have HDG := Lib.hid hdg3
                      obtain ⟨d, hd⟩ : ∃ d : Nat, d = b.toNat - 48 := ⟨_, rfl⟩
                      obtain ⟨hd9, hcd, u1, u2⟩ := byte_facts b hbn c d hc hd
                      have hV9 : V < 10000000000 := Nat.lt_of_lt_of_le hVe (Nat.le_trans hE (by decide))
                      obtain ⟨u3, u4, u5, u6⟩ := num_facts V d hV9 hd9
                      obtain ⟨u7, u8⟩ := ten_facts E (Nat.le_trans hE (by decide))
                      obtain ⟨V2, hV2⟩ : ∃ V2, V2 = V * 10 + d := ⟨_, rfl⟩
                      rw [← hV2] at u4 u6
                      have HBN := Lib.hid hbn
                      have HD2 := Lib.hid hd
                      have HV2 := Lib.hid hV2
                      clear hdg3 hbd hbn hd hV2 hc hbe hb3 hbm hV9 hVe hE
                      go_wp2_with (go_at_call 75; (with_reducible refine (HDG.out _).mono ?_); rintro e _ ⟨rfl, xd, rfl⟩)
                      go_roundw
                      case rel =>
                        have hkd2 : ∀ z ∈ t.take (k + 1), IsDg z := by rw [HTK.out]; exact app_dg HKD.out (fun z hz => by rw [List.mem_singleton.1 hz]; exact HBN.out)
                        refine ⟨k + 1, by omega, hkd2, ?_, ?_, by go_num, ⟨xd.out, y3.below.trans (xd.below.mono y3.below.size)⟩, rfl⟩
                        · rw [HTK.out, sat_step _ _ HKD.out HBN.out, ← HVV.out, ← HD2.out, ← HV2.out]
                        · rw [HEs.out]; congr 1
                      case measure => simp [RowKit.intOf]; omega
                    · have hbf : isD b = false := by simpa using hbd
                      rw [hbf] at hdg3
                      have HDG := Lib.hid hdg3
                      have hnd : ¬ IsDg b := fun h => hbd ((isD_iff b).2 h)
                      have HV := Lib.hid (ps_none (hrpt.trans (rpt_bad false Wn t b hbm hnd)))
                      clear hdg3 hbd hbf hnd hc hbe hb3
                      go_wp2_with (go_at_call 75; (with_reducible refine (HDG.out _).mono ?_); rintro e _ ⟨rfl, xd, rfl⟩)
                      exact bodyPost_ret (v := .tuple #[.int .i64 0, .int .i64 30]) (by simp [results, Tryz.results42, go_sem, *]) rfl ⟨by rw [HV.out.1, HV.out.2], (Later.mk_of (by repeat (first | (with_reducible assumption) | (with_reducible exact Below.refl _ _) | (with_reducible refine Later.after ?_ _) | (with_reducible refine Later.newer ?_ _) | (with_reducible refine Below.drew ?_) | (with_reducible refine Below.setCell ?_ (by first | exact Nat.le_refl _ | exact Nat.le_add_right _ _ | omega | (simp [go_sem]; done) | (simp [go_sem]; omega)) _))))⟩
                  · obtain rfl : k = t.length := by omega
                    have htd : ∀ b ∈ t, IsDg b := by have h := hkd; rw [List.take_length] at h; exact h
                    have hdt := (dgs_eq t htd).1
                    rw [List.take_length]
                    have hv8 := (vl_of t htd).2
                    have hE : 10 ^ t.length ≤ 100000000 := Nat.le_trans (Nat.pow_le_pow_right (show 0 < 10 by decide) ht8) (by decide)
                    have hE0 : 0 < 10 ^ t.length := Nat.pow_pos (by decide)
                    have hpt : ps l = (if vl t * 256 % 10 ^ t.length = 0 then dck false Wn (vl t * 256 / 10 ^ t.length) else none) := by
                      rw [hrpt]; unfold rpt; rw [if_neg (by omega), if_neg (by simpa using hdt)]
                    clear hkd
                    obtain ⟨E, hEe⟩ : ∃ E, E = 10 ^ t.length := ⟨_, rfl⟩
                    rw [← hEe] at hv8 hE hE0 hpt ⊢
                    obtain ⟨V, hV⟩ : ∃ V, V = vl t := ⟨_, rfl⟩
                    rw [← hV] at hv8 hpt ⊢
                    clear hEe hV
                    have hsz : decide ((t.length : Int) < (T2.size : Int)) = false := by rw [HT2s.out]; simp
                    have hsz2 : decide (t.length < T2.size) = false := by rw [HT2s.out]; simp
                    have hsz3 : ¬ t.length < T2.size := by rw [HT2s.out]; omega
                    obtain ⟨A, hA⟩ : ∃ A, A = V * 256 := ⟨_, rfl⟩
                    obtain ⟨a1, a2, a0⟩ := end_facts V A (Nat.lt_of_lt_of_le hv8 hE) hA
                    obtain ⟨a3, a4⟩ := small_wrap A (by rw [hA]; exact Nat.lt_of_lt_of_le (Nat.mul_lt_mul_of_pos_right (Nat.lt_of_lt_of_le hv8 hE) (by decide)) (by decide))
                    have hAE : A < 256 * E := by rw [hA, Nat.mul_comm 256 E]; exact Nat.mul_lt_mul_of_pos_right hv8 (by decide)
                    rw [← hA] at hpt
                    have hE1 : ¬ (E : Int) = 0 := fun h => Nat.ne_of_gt hE0 (Int.ofNat_eq_zero.1 h)
                    have hE2 : ((E : Int) == 0) = false := by simpa using hE1
                    have hq9 : A / E < 256 := Nat.div_lt_of_lt_mul (by rw [Nat.mul_comm]; exact hAE)
                    obtain ⟨q, hq⟩ : ∃ q, q = A / E := ⟨_, rfl⟩
                    obtain ⟨rm, hrm⟩ : ∃ rm, rm = A % E := ⟨_, rfl⟩
                    rw [← hq, ← hrm] at hpt
                    rw [← hq] at hq9
                    obtain ⟨q1, q2⟩ := small_wrap q (Nat.lt_of_lt_of_le hq9 (by decide))
                    have b1 : (A : Int) % (E : Int) = (rm : Int) := by rw [hrm]; exact (Int.natCast_emod A E).symm
                    have b2 : (A : Int).tmod (E : Int) = (rm : Int) := by rw [Int.tmod_eq_emod_of_nonneg (Int.natCast_nonneg A)]; exact b1
                    have b3 : (A : Int) / (E : Int) = (q : Int) := by rw [hq]; exact (Int.natCast_ediv A E).symm
                    have b4 : (A : Int).tdiv (E : Int) = (q : Int) := by rw [Int.tdiv_eq_ediv_of_nonneg (Int.natCast_nonneg A)]; exact b3
                    clear hq hrm hAE hv8 hA hE
                    by_cases hr0 : rm = 0
                    · rw [if_pos hr0] at hpt
                      subst hr0
                      have HV := Lib.hid (ps_chk false _ q (hpt))
                      have hck : ∀ v, Calls Tryz.prog 76 #[.int .i64 (1), .int .i64 (Wn : Int), .int .i64 (((q : Nat) : Int))] v fun e w' => e = .returned (.tuple #[.int .i64 (chV false Wn q), .int .i64 (chE false Wn q)]) ∧ ∃ x : Later v, w' = x.out := fun v => checked_c false Wn q hW9 (Nat.le_of_lt (Nat.lt_trans hq9 (by decide))) v
                      have HCK := Lib.hid hck
                      clear hck
                      clear hpt
                      go_wp2_with (first | (go_at_call 76; (with_reducible refine (HCK.out _).mono ?_); rintro e _ ⟨rfl, xc, rfl⟩))
                      exact bodyPost_ret (v := .tuple #[.int .i64 (chV false Wn q), .int .i64 (chE false Wn q)]) (by simp [results, Tryz.results42, go_sem, *]) rfl ⟨by rw [HV.out.1, HV.out.2], (Later.mk_of (by repeat (first | (with_reducible assumption) | (with_reducible exact Below.refl _ _) | (with_reducible refine Later.after ?_ _) | (with_reducible refine Later.newer ?_ _) | (with_reducible refine Below.drew ?_) | (with_reducible refine Below.setCell ?_ (by first | exact Nat.le_refl _ | exact Nat.le_add_right _ _ | omega | (simp [go_sem]; done) | (simp [go_sem]; omega)) _))))⟩
                    · rw [if_neg hr0] at hpt
                      have HV := Lib.hid (ps_none (hpt))
                      have c1 : ((rm : Int) != 0) = true := by simp; exact hr0
                      have c2 : decide ((rm : Int) ≠ 0) = true := by simp; exact hr0
                      have c3 : ((rm : Int) == 0) = false := by simp; exact hr0
                      clear hpt
                      go_wp2_with (fail)
                      exact bodyPost_ret (v := .tuple #[.int .i64 0, .int .i64 30]) (by simp [results, Tryz.results42, go_sem, *]) rfl ⟨by rw [HV.out.1, HV.out.2], (Later.mk_of (by repeat (first | (with_reducible assumption) | (with_reducible exact Below.refl _ _) | (with_reducible refine Later.after ?_ _) | (with_reducible refine Later.newer ?_ _) | (with_reducible refine Below.drew ?_) | (with_reducible refine Below.setCell ?_ (by first | exact Nat.le_refl _ | exact Nat.le_add_right _ _ | omega | (simp [go_sem]; done) | (simp [go_sem]; omega)) _))))⟩
              · have hz1 : decide ((1 : Int) < (T2.size : Int)) = true := by rw [hT2s]; simp; omega
                obtain ⟨K, hK⟩ : ∃ K : Nat, K = t.length - 1 := ⟨_, rfl⟩
                have k1 : (T2.size : Int) - 1 = (K : Int) := by rw [hT2s]; omega
                have k2 : IntKind.i64.wrap ((T2.size : Int) - 1) = (K : Int) := by rw [k1, IntWalk.i64_in _ (by omega)]
                have k3 : wrap64 ((T2.size : Int) - 1) = (K : Int) := by unfold wrap64; omega
                have hKl : K < t.length := by omega
                have HKL := Lib.hid hKl
                have HKe := Lib.hid hK
                obtain ⟨b, hbe⟩ : ∃ b, b = t[K] := ⟨_, rfl⟩
                have hbk : t[K]? = some b := by rw [hbe]; exact List.getElem?_eq_getElem hKl
                have hlast : t.getLast? = some b := by rw [List.getLast?_eq_getElem?, ← hK]; exact hbk
                have hix2 := fun W => ix t K b hbk W
                rw [← HT2.out] at hix2
                by_cases hb48 : b = 48
                · have hbn : (b.toNat : Int) = 48 := by rw [hb48]; rfl
                  have HB48 := Lib.hid hb48
                  rw [hbn] at hix2
                  have kk : (K : Int) ≤ (T2.size : Int) := by rw [hT2s]; omega
                  have HL := Lib.hid hlast
                  have HH2 := Lib.hid ht2
                  clear hbe hbk hlast ht2 hK hT2s hb48 hbn
                  go_wp2_with (fail)
                  go_roundw
                  case rel =>
                    obtain ⟨ys, hys⟩ := List.getLast?_eq_some_iff.1 HL.out
                    have htd : t.dropLast ++ [b] = t := by rw [hys]; simp
                    refine ⟨t.dropLast, j + 1, ?_, ?_, ?_, y2, rfl⟩
                    · have h := HH2.out
                      rw [← htd, HB48.out] at h
                      rw [h, List.append_assoc]
                      congr 1
                    · intro h
                      have := congrArg List.length h
                      rw [List.length_dropLast] at this
                      simp at this
                      omega
                    · rw [HT2.out, ba_take, List.dropLast_eq_take, ← HKe.out]
                  case measure =>
                    show (T2.extract 0 K).size < T2.size
                    have h := HT2s.out
                    rw [ByteArray.size_extract]
                    exact Nat.lt_of_le_of_lt (Nat.sub_le _ _) (Nat.lt_of_le_of_lt (Nat.min_le_left _ _) (by rw [h]; exact HKL.out))
                · have hstop : t.length ≤ 1 ∨ ∃ b, t.getLast? = some b ∧ b ≠ 48 := .inr ⟨b, hlast, hb48⟩
                  obtain ⟨c, hc⟩ : ∃ c : Int, c = (b.toNat : Int) := ⟨_, rfl⟩
                  rw [← hc] at hix2
                  have hcn : ¬ c = 48 := byte_ne b c 48 48 hc rfl hb48
                  have hcb : (c == 48) = false := by simpa using hcn
                  have hcd : decide (c = 48) = false := by simpa using hcn
                  clear hbe hbk hlast hc hb48 hK hT2s
                  have hst : t = stripz m2 := strip_eq m2 t j ht2 htne hstop
                  have hrpt : ps l = rpt false Wn t := by rw [hst]; exact hpt2
                  clear hpt2 hst hstop ht2
                  by_cases ht8n : 8 < t.length
                  · have hz8 : decide ((8 : Int) < (T2.size : Int)) = true := by rw [HT2s.out]; simp; omega
                    have HV := Lib.hid (ps_none (hrpt.trans (by unfold rpt; rw [if_pos ht8n])))
                    go_wp2_with (fail)
                    exact bodyPost_ret (v := .tuple #[.int .i64 0, .int .i64 30]) (by simp [results, Tryz.results42, go_sem, *]) rfl ⟨by rw [HV.out.1, HV.out.2], (Later.mk_of (by repeat (first | (with_reducible assumption) | (with_reducible exact Below.refl _ _) | (with_reducible refine Later.after ?_ _) | (with_reducible refine Later.newer ?_ _) | (with_reducible refine Below.drew ?_) | (with_reducible refine Below.setCell ?_ (by first | exact Nat.le_refl _ | exact Nat.le_add_right _ _ | omega | (simp [go_sem]; done) | (simp [go_sem]; omega)) _))))⟩
                  have ht8 : t.length ≤ 8 := by omega
                  have hz8 : decide ((8 : Int) < (T2.size : Int)) = false := by rw [HT2s.out]; simp; omega
                  go_wp2_with (fail)
                  go_loopw [8, 9, 10] (fun av bv iv wr => ∃ k : Nat, k ≤ t.length ∧ (∀ b ∈ t.take k, IsDg b) ∧ av = .int .i64 ((vl (t.take k) : Nat) : Int) ∧ bv = .int .i64 ((10 ^ k : Nat) : Int) ∧ iv = .int .i64 (k : Int) ∧ ∃ y : Later w, wr = y.out) (fun _ _ iv _ => t.length - (RowKit.intOf iv).toNat)
                  case atStart => exact ⟨0, by omega, by simp, rfl, rfl, rfl, y2, rfl⟩
                  case round =>
                    obtain ⟨k, hk, hkd, rfl, rfl, rfl, y3, rfl⟩ := hrel
                    by_cases hlt : k < t.length
                    · have hb3 : t[k]? = some t[k] := List.getElem?_eq_getElem hlt
                      obtain ⟨b, hbe⟩ : ∃ b, b = t[k] := ⟨_, rfl⟩
                      rw [← hbe] at hb3
                      have hix3 := fun W => ix t k b hb3 W
                      rw [← HT2.out] at hix3
                      have hbm : b ∈ t := List.mem_of_getElem? hb3
                      have hsz : decide ((k : Int) < (T2.size : Int)) = true := by rw [HT2s.out]; simp; omega
                      have hsz2 : decide (k < T2.size) = true := by rw [HT2s.out]; simp; omega
                      have hsz3 : k < T2.size := by rw [HT2s.out]; omega
                      have hdg3 := fun v => digit_any b v
                      have htk : t.take (k + 1) = t.take k ++ [b] := by rw [List.take_add_one, hb3]; rfl
                      obtain ⟨c, hc⟩ : ∃ c : Int, c = (b.toNat : Int) := ⟨_, rfl⟩
                      rw [← hc] at hix3 hdg3
                      have hv8 := (vl_of _ hkd).2
                      have hE : 10 ^ k ≤ 10000000 := Nat.le_trans (Nat.pow_le_pow_right (show 0 < 10 by decide) (show k ≤ 7 by omega)) (by decide)
                      have hVe : vl (t.take k) < 10 ^ k := Nat.lt_of_lt_of_le hv8 (Nat.pow_le_pow_right (by decide) (by rw [List.length_take]; omega))
                      have hEs : 10 ^ (k + 1) = 10 ^ k * 10 := Nat.pow_succ ..
                      obtain ⟨E, hEe⟩ : ∃ E, E = 10 ^ k := ⟨_, rfl⟩
                      obtain ⟨V, hV⟩ : ∃ V, V = vl (t.take k) := ⟨_, rfl⟩
                      rw [← hEe] at hE hVe hEs ⊢
                      rw [← hV] at hVe ⊢
                      have HEs := Lib.hid hEs
                      have HTK := Lib.hid htk
                      have HVV := Lib.hid hV
                      have HKD := Lib.hid hkd
                      clear hEs htk hEe hV hkd hv8
                      by_cases hbd : isD b = true
                      · have hbn := (isD_iff b).1 hbd
                        rw [hbd] at hdg3
                        have HDG := Lib.hid hdg3
                        obtain ⟨d, hd⟩ : ∃ d : Nat, d = b.toNat - 48 := ⟨_, rfl⟩
                        obtain ⟨hd9, hcd, u1, u2⟩ := byte_facts b hbn c d hc hd
                        have hV9 : V < 10000000000 := Nat.lt_of_lt_of_le hVe (Nat.le_trans hE (by decide))
                        obtain ⟨u3, u4, u5, u6⟩ := num_facts V d hV9 hd9
                        obtain ⟨u7, u8⟩ := ten_facts E (Nat.le_trans hE (by decide))
                        obtain ⟨V2, hV2⟩ : ∃ V2, V2 = V * 10 + d := ⟨_, rfl⟩
                        rw [← hV2] at u4 u6
                        have HBN := Lib.hid hbn
                        have HD2 := Lib.hid hd
                        have HV2 := Lib.hid hV2
                        clear hdg3 hbd hbn hd hV2 hc hbe hb3 hbm hV9 hVe hE
                        go_wp2_with (go_at_call 75; (with_reducible refine (HDG.out _).mono ?_); rintro e _ ⟨rfl, xd, rfl⟩)
                        go_roundw
                        case rel =>
                          have hkd2 : ∀ z ∈ t.take (k + 1), IsDg z := by rw [HTK.out]; exact app_dg HKD.out (fun z hz => by rw [List.mem_singleton.1 hz]; exact HBN.out)
                          refine ⟨k + 1, by omega, hkd2, ?_, ?_, by go_num, ⟨xd.out, y3.below.trans (xd.below.mono y3.below.size)⟩, rfl⟩
                          · rw [HTK.out, sat_step _ _ HKD.out HBN.out, ← HVV.out, ← HD2.out, ← HV2.out]
                          · rw [HEs.out]; congr 1
                        case measure => simp [RowKit.intOf]; omega
                      · have hbf : isD b = false := by simpa using hbd
                        rw [hbf] at hdg3
                        have HDG := Lib.hid hdg3
                        have hnd : ¬ IsDg b := fun h => hbd ((isD_iff b).2 h)
                        have HV := Lib.hid (ps_none (hrpt.trans (rpt_bad false Wn t b hbm hnd)))
                        clear hdg3 hbd hbf hnd hc hbe hb3
                        go_wp2_with (go_at_call 75; (with_reducible refine (HDG.out _).mono ?_); rintro e _ ⟨rfl, xd, rfl⟩)
                        exact bodyPost_ret (v := .tuple #[.int .i64 0, .int .i64 30]) (by simp [results, Tryz.results42, go_sem, *]) rfl ⟨by rw [HV.out.1, HV.out.2], (Later.mk_of (by repeat (first | (with_reducible assumption) | (with_reducible exact Below.refl _ _) | (with_reducible refine Later.after ?_ _) | (with_reducible refine Later.newer ?_ _) | (with_reducible refine Below.drew ?_) | (with_reducible refine Below.setCell ?_ (by first | exact Nat.le_refl _ | exact Nat.le_add_right _ _ | omega | (simp [go_sem]; done) | (simp [go_sem]; omega)) _))))⟩
                    · obtain rfl : k = t.length := by omega
                      have htd : ∀ b ∈ t, IsDg b := by have h := hkd; rw [List.take_length] at h; exact h
                      have hdt := (dgs_eq t htd).1
                      rw [List.take_length]
                      have hv8 := (vl_of t htd).2
                      have hE : 10 ^ t.length ≤ 100000000 := Nat.le_trans (Nat.pow_le_pow_right (show 0 < 10 by decide) ht8) (by decide)
                      have hE0 : 0 < 10 ^ t.length := Nat.pow_pos (by decide)
                      have hpt : ps l = (if vl t * 256 % 10 ^ t.length = 0 then dck false Wn (vl t * 256 / 10 ^ t.length) else none) := by
                        rw [hrpt]; unfold rpt; rw [if_neg (by omega), if_neg (by simpa using hdt)]
                      clear hkd
                      obtain ⟨E, hEe⟩ : ∃ E, E = 10 ^ t.length := ⟨_, rfl⟩
                      rw [← hEe] at hv8 hE hE0 hpt ⊢
                      obtain ⟨V, hV⟩ : ∃ V, V = vl t := ⟨_, rfl⟩
                      rw [← hV] at hv8 hpt ⊢
                      clear hEe hV
                      have hsz : decide ((t.length : Int) < (T2.size : Int)) = false := by rw [HT2s.out]; simp
                      have hsz2 : decide (t.length < T2.size) = false := by rw [HT2s.out]; simp
                      have hsz3 : ¬ t.length < T2.size := by rw [HT2s.out]; omega
                      obtain ⟨A, hA⟩ : ∃ A, A = V * 256 := ⟨_, rfl⟩
                      obtain ⟨a1, a2, a0⟩ := end_facts V A (Nat.lt_of_lt_of_le hv8 hE) hA
                      obtain ⟨a3, a4⟩ := small_wrap A (by rw [hA]; exact Nat.lt_of_lt_of_le (Nat.mul_lt_mul_of_pos_right (Nat.lt_of_lt_of_le hv8 hE) (by decide)) (by decide))
                      have hAE : A < 256 * E := by rw [hA, Nat.mul_comm 256 E]; exact Nat.mul_lt_mul_of_pos_right hv8 (by decide)
                      rw [← hA] at hpt
                      have hE1 : ¬ (E : Int) = 0 := fun h => Nat.ne_of_gt hE0 (Int.ofNat_eq_zero.1 h)
                      have hE2 : ((E : Int) == 0) = false := by simpa using hE1
                      have hq9 : A / E < 256 := Nat.div_lt_of_lt_mul (by rw [Nat.mul_comm]; exact hAE)
                      obtain ⟨q, hq⟩ : ∃ q, q = A / E := ⟨_, rfl⟩
                      obtain ⟨rm, hrm⟩ : ∃ rm, rm = A % E := ⟨_, rfl⟩
                      rw [← hq, ← hrm] at hpt
                      rw [← hq] at hq9
                      obtain ⟨q1, q2⟩ := small_wrap q (Nat.lt_of_lt_of_le hq9 (by decide))
                      have b1 : (A : Int) % (E : Int) = (rm : Int) := by rw [hrm]; exact (Int.natCast_emod A E).symm
                      have b2 : (A : Int).tmod (E : Int) = (rm : Int) := by rw [Int.tmod_eq_emod_of_nonneg (Int.natCast_nonneg A)]; exact b1
                      have b3 : (A : Int) / (E : Int) = (q : Int) := by rw [hq]; exact (Int.natCast_ediv A E).symm
                      have b4 : (A : Int).tdiv (E : Int) = (q : Int) := by rw [Int.tdiv_eq_ediv_of_nonneg (Int.natCast_nonneg A)]; exact b3
                      clear hq hrm hAE hv8 hA hE
                      by_cases hr0 : rm = 0
                      · rw [if_pos hr0] at hpt
                        subst hr0
                        have HV := Lib.hid (ps_chk false _ q (hpt))
                        have hck : ∀ v, Calls Tryz.prog 76 #[.int .i64 (1), .int .i64 (Wn : Int), .int .i64 (((q : Nat) : Int))] v fun e w' => e = .returned (.tuple #[.int .i64 (chV false Wn q), .int .i64 (chE false Wn q)]) ∧ ∃ x : Later v, w' = x.out := fun v => checked_c false Wn q hW9 (Nat.le_of_lt (Nat.lt_trans hq9 (by decide))) v
                        have HCK := Lib.hid hck
                        clear hck
                        clear hpt
                        go_wp2_with (first | (go_at_call 76; (with_reducible refine (HCK.out _).mono ?_); rintro e _ ⟨rfl, xc, rfl⟩))
                        exact bodyPost_ret (v := .tuple #[.int .i64 (chV false Wn q), .int .i64 (chE false Wn q)]) (by simp [results, Tryz.results42, go_sem, *]) rfl ⟨by rw [HV.out.1, HV.out.2], (Later.mk_of (by repeat (first | (with_reducible assumption) | (with_reducible exact Below.refl _ _) | (with_reducible refine Later.after ?_ _) | (with_reducible refine Later.newer ?_ _) | (with_reducible refine Below.drew ?_) | (with_reducible refine Below.setCell ?_ (by first | exact Nat.le_refl _ | exact Nat.le_add_right _ _ | omega | (simp [go_sem]; done) | (simp [go_sem]; omega)) _))))⟩
                      · rw [if_neg hr0] at hpt
                        have HV := Lib.hid (ps_none (hpt))
                        have c1 : ((rm : Int) != 0) = true := by simp; exact hr0
                        have c2 : decide ((rm : Int) ≠ 0) = true := by simp; exact hr0
                        have c3 : ((rm : Int) == 0) = false := by simp; exact hr0
                        clear hpt
                        go_wp2_with (fail)
                        exact bodyPost_ret (v := .tuple #[.int .i64 0, .int .i64 30]) (by simp [results, Tryz.results42, go_sem, *]) rfl ⟨by rw [HV.out.1, HV.out.2], (Later.mk_of (by repeat (first | (with_reducible assumption) | (with_reducible exact Below.refl _ _) | (with_reducible refine Later.after ?_ _) | (with_reducible refine Later.newer ?_ _) | (with_reducible refine Below.drew ?_) | (with_reducible refine Below.setCell ?_ (by first | exact Nat.le_refl _ | exact Nat.le_add_right _ _ | omega | (simp [go_sem]; done) | (simp [go_sem]; omega)) _))))⟩
        · have hcn6 : ¬ c = 46 := byte_ne b c 46 46 hc rfl hb46
          have hc6 : (c != 46) = true := by simpa using hcn6
          have hc7 : decide (c ≠ 46) = true := by simpa using hcn6
          have hc8 : (c == 46) = false := by simpa using hcn6
          rw [if_neg (fun h => hb46 (by have := h.1; rw [hasPrefix_one] at this; exact (eq_of_beq this).symm))] at hps2
          have HV := Lib.hid (ps_none (hps2))
          clear hps2 hc hT hTs
          go_wp2_with (go_at_call 75; (with_reducible refine (HDG.out _).mono ?_); rintro e _ ⟨rfl, xd, rfl⟩)
          exact bodyPost_ret (v := .tuple #[.int .i64 0, .int .i64 30]) (by simp [results, Tryz.results42, go_sem, *]) rfl ⟨by rw [HV.out.1, HV.out.2], (Later.mk_of (by repeat (first | (with_reducible assumption) | (with_reducible exact Below.refl _ _) | (with_reducible refine Later.after ?_ _) | (with_reducible refine Later.newer ?_ _) | (with_reducible refine Below.drew ?_) | (with_reducible refine Below.setCell ?_ (by first | exact Nat.le_refl _ | exact Nat.le_add_right _ _ | omega | (simp [go_sem]; done) | (simp [go_sem]; omega)) _))))⟩

set_option maxRecDepth 100000 in
set_option maxHeartbeats 4000000 in
theorem rparse_n (l r : List UInt8) (hl : l = 45 :: r) (h30 : ¬ 30 < l.length) (hps : ps l = rpsB true r) (S : ByteArray) (hS : S = ⟨l.toArray⟩) (w : World) :
    Calls Tryz.prog 42 #[.string S] w fun e w' => e = .returned (.tuple #[.int .i64 (psV l), .int .i64 (psE l)]) ∧ ∃ x : Later w, w' = x.out := by
  have hSs : S.size ≤ 30 := by rw [hS, ba_size]; omega
  have hd30 : decide ((30 : Int) < (S.size : Int)) = false := by simp; omega
  have hix0 := fun W => ix0 l 45 (by rw [hl]; rfl) W
  rw [← hS] at hix0
  have hE0 : S.toList.isEmpty = false := by rw [hS, isEmpty_ba, hl]; rfl
  have h45 : (((45 : UInt8).toNat : Nat) : Int) = 45 := rfl
  rw [h45] at hix0
  have hs1 : (1 : Int) ≤ (S.size : Int) := by rw [hS, ba_size, hl, List.length_cons]; omega

  have hrl : r.length ≤ 30 := by have := congrArg List.length hl; rw [List.length_cons] at this; omega
  have hst0 : (S.extract 1 S.size) = ⟨r.toArray⟩ := by rw [hS, ba_drop, hl]; rfl
  have HST := Lib.hid hst0
  have HS := Lib.hid hS
  clear hst0 hS hl 
  go_enter Tryz.func42, Tryz.ntmps42
  go_wp2_with (fail)
  go_loopw [4, 6, 7] (fun tv av nv wr => ∃ dn m : List UInt8, r = dn ++ m ∧ (∀ b ∈ dn, IsDg b) ∧ tv = .string ⟨m.toArray⟩ ∧ av = .int .i64 ((min (vl dn) 1099511627776 : Nat) : Int) ∧ nv = .int .i64 (dn.length : Int) ∧ ∃ y : Later w, wr = y.out) (fun tv _ _ _ => strN tv)
  case atStart => exact ⟨[], r, rfl, by simp, by rw [HST.out], rfl, rfl, ⟨w, Below.refl _ _⟩, rfl⟩
  case round =>
    obtain ⟨dn, m, hr, hdn, rfl, rfl, rfl, y, rfl⟩ := hrel
    obtain ⟨T, hT⟩ : ∃ T : ByteArray, T = ⟨m.toArray⟩ := ⟨_, rfl⟩
    have hTs : T.size = m.length := by rw [hT, ba_size]
    have hTe : T.toList.isEmpty = m.isEmpty := by rw [hT, isEmpty_ba]
    have hlen : dn.length + m.length ≤ 30 := by have := congrArg List.length hr; rw [List.length_append] at this; omega
    rw [← hT]
    have HT := Lib.hid hT
    obtain ⟨Wn, hWn⟩ : ∃ Wn : Nat, Wn = min (vl dn) 1099511627776 := ⟨_, rfl⟩
    have hW9 : Wn ≤ 1099511627776 := by rw [hWn]; exact Nat.min_le_right _ _
    rw [← hWn]
    obtain ⟨N, hN⟩ : ∃ N, N = dn.length := ⟨_, rfl⟩
    rw [← hN]
    have hN9 : N ≤ 30 := by omega
    cases m with
    | nil =>
      rw [List.append_nil] at hr
      have hge : dgs r = r ∧ rst r = [] := by rw [hr]; exact dgs_eq dn hdn
      rw [show ([] : List UInt8).isEmpty = true from rfl] at hTe
      have hps2 : ps l = if dn = [] then none else dck true Wn 0 := by
        rw [hps]; unfold rpsB; rw [hge.1, hge.2, if_pos rfl, hr, ← hWn]
      clear hps hge hT hWn hTs hlen
      by_cases hd0 : dn = []
      · rw [if_pos hd0] at hps2
        obtain rfl : N = 0 := by rw [hN, hd0]; rfl
        have HV := Lib.hid (ps_none (hps2))
        clear hps2 hN hr hd0 hdn
        go_wp2_with (fail)
        exact bodyPost_ret (v := .tuple #[.int .i64 0, .int .i64 30]) (by simp [results, Tryz.results42, go_sem, *]) rfl ⟨by rw [HV.out.1, HV.out.2], (Later.mk_of (by repeat (first | (with_reducible assumption) | (with_reducible exact Below.refl _ _) | (with_reducible refine Later.after ?_ _) | (with_reducible refine Later.newer ?_ _) | (with_reducible refine Below.drew ?_) | (with_reducible refine Below.setCell ?_ (by first | exact Nat.le_refl _ | exact Nat.le_add_right _ _ | omega | (simp [go_sem]; done) | (simp [go_sem]; omega)) _))))⟩
      · rw [if_neg hd0] at hps2
        have hNp := List.length_pos_iff.2 hd0
        have n1 : ¬ (N : Int) = 0 := by omega
        have n2 : ((N : Int) == 0) = false := by simpa using n1
        have n3 : decide ((N : Int) = 0) = false := by simpa using n1
        have HV := Lib.hid (ps_chk true _ 0 (hps2))
        have hck : ∀ v, Calls Tryz.prog 76 #[.int .i64 (-1), .int .i64 (Wn : Int), .int .i64 (0)] v fun e w' => e = .returned (.tuple #[.int .i64 (chV true Wn 0), .int .i64 (chE true Wn 0)]) ∧ ∃ x : Later v, w' = x.out := fun v => checked_c true Wn 0 hW9 (Nat.zero_le _) v
        have HCK := Lib.hid hck
        clear hck
        clear hps2 hN hr hNp
        go_wp2_with (go_at_call 76; (with_reducible refine (HCK.out _).mono ?_); rintro e _ ⟨rfl, xc, rfl⟩)
        exact bodyPost_ret (v := .tuple #[.int .i64 (chV true Wn 0), .int .i64 (chE true Wn 0)]) (by simp [results, Tryz.results42, go_sem, *]) rfl ⟨by rw [HV.out.1, HV.out.2], (Later.mk_of (by repeat (first | (with_reducible assumption) | (with_reducible exact Below.refl _ _) | (with_reducible refine Later.after ?_ _) | (with_reducible refine Later.newer ?_ _) | (with_reducible refine Below.drew ?_) | (with_reducible refine Below.setCell ?_ (by first | exact Nat.le_refl _ | exact Nat.le_add_right _ _ | omega | (simp [go_sem]; done) | (simp [go_sem]; omega)) _))))⟩
    | cons b m2 =>
      rw [show (b :: m2).isEmpty = false from rfl] at hTe
      have hixb := fun W => ix0 (b :: m2) b rfl W
      rw [← hT] at hixb
      have hdg := fun v => digit_any b v
      obtain ⟨c, hc⟩ : ∃ c : Int, c = (b.toNat : Int) := ⟨_, rfl⟩
      rw [← hc] at hixb hdg
      rw [List.length_cons] at hTs hlen
      have hT1 : (1 : Int) ≤ (T.size : Int) := by omega
      by_cases hbd : isD b = true
      · have hbn := (isD_iff b).1 hbd
        rw [hbd] at hdg
        have HDG := Lib.hid hdg
        obtain ⟨d, hd⟩ : ∃ d : Nat, d = b.toNat - 48 := ⟨_, rfl⟩
        obtain ⟨hd9, hcd, u1, u2⟩ := byte_facts b hbn c d hc hd
        obtain ⟨u3, u4, u5, u6, u7⟩ := sat_facts Wn d hW9 hd9
        obtain ⟨Z, hZ⟩ : ∃ Z : Nat, Z = Wn * 10 + d := ⟨_, rfl⟩
        rw [← hZ] at u4 u6 u7
        have u8 : IntKind.i64.wrap ((N : Int) + 1) = ((N + 1 : Nat) : Int) := by rw [IntWalk.i64_in _ (by omega)]; omega
        have hsat : min Z 1099511627776 = min (vl (dn ++ [b])) 1099511627776 := by
          rw [sat_step dn b hdn hbn, ← hd, hZ, hWn]; exact sat_min _ _
        have HSAT := Lib.hid hsat
        have HBN := Lib.hid hbn
        have HDN := Lib.hid hdn
        have HR := Lib.hid hr
        have HNN := Lib.hid hN
        have HTs := Lib.hid hTs
        clear hdg hbd hbn hd hZ hc hT hWn hsat hdn hr hN hps hTs hlen hrl
        go_wp2_with (go_at_call 75; (with_reducible refine (HDG.out _).mono ?_); rintro e _ ⟨rfl, xd, rfl⟩)
        go_roundw
        case rel =>
          refine ⟨dn ++ [b], m2, by rw [List.append_assoc]; exact HR.out, app_dg HDN.out (fun z hz => by rw [List.mem_singleton.1 hz]; exact HBN.out), ?_, ?_, ?_, ⟨xd.out, y.below.trans (xd.below.mono y.below.size)⟩, rfl⟩
          · rw [HT.out, ba_drop]; rfl
          · rw [HSAT.out]
          · rw [List.length_append, ← HNN.out]; rfl
        case measure =>
          show (T.extract 1 T.size).size < T.size
          rw [ByteArray.size_extract]
          have := HTs.out
          omega
      · have hbf : isD b = false := by simpa using hbd
        rw [hbf] at hdg
        have HDG := Lib.hid hdg
        have hnd : ¬ IsDg b := fun h => hbd ((isD_iff b).2 h)
        have hge := dgs_app dn (b :: m2) hdn (fun z hz => by obtain rfl := Option.some.inj hz; exact hnd)
        rw [← hr] at hge
        have hps2 : ps l = if dn = [] then none else if hasPrefix (b :: m2) [46] = true ∧ 2 ≤ (b :: m2).length then rpt true Wn (stripz m2) else none := by
          rw [hps]; unfold rpsB; rw [hge.1, hge.2, if_neg (show ¬ b :: m2 = [] by simp), ← hWn]; rfl
        clear hps hge hdg hbd hbf hnd hWn hr hdn
        by_cases hd0 : dn = []
        · rw [if_pos hd0] at hps2
          obtain rfl : N = 0 := by rw [hN, hd0]; rfl
          have HV := Lib.hid (ps_none (hps2))
          clear hps2 hc hT hN hd0 hTs hlen
          go_wp2_with (go_at_call 75; (with_reducible refine (HDG.out _).mono ?_); rintro e _ ⟨rfl, xd, rfl⟩)
          exact bodyPost_ret (v := .tuple #[.int .i64 0, .int .i64 30]) (by simp [results, Tryz.results42, go_sem, *]) rfl ⟨by rw [HV.out.1, HV.out.2], (Later.mk_of (by repeat (first | (with_reducible assumption) | (with_reducible exact Below.refl _ _) | (with_reducible refine Later.after ?_ _) | (with_reducible refine Later.newer ?_ _) | (with_reducible refine Below.drew ?_) | (with_reducible refine Below.setCell ?_ (by first | exact Nat.le_refl _ | exact Nat.le_add_right _ _ | omega | (simp [go_sem]; done) | (simp [go_sem]; omega)) _))))⟩
        rw [if_neg hd0] at hps2
        have hNp := List.length_pos_iff.2 hd0
        have n1 : ¬ (N : Int) = 0 := by omega
        have n2 : ((N : Int) == 0) = false := by simpa using n1
        have n3 : decide ((N : Int) = 0) = false := by simpa using n1
        clear hN hNp
        by_cases hb46 : b = 46
        · have hc46 : c = 46 := by rw [hc, hb46]; rfl
          subst hc46
          by_cases hm2 : m2 = []
          · rw [if_neg (by rw [hm2]; simp)] at hps2
            have hz2 : decide ((T.size : Int) < 2) = true := by rw [hTs, hm2]; rfl
            have HV := Lib.hid (ps_none (hps2))
            clear hps2 hc hT hTs
            go_wp2_with (go_at_call 75; (with_reducible refine (HDG.out _).mono ?_); rintro e _ ⟨rfl, xd, rfl⟩)
            exact bodyPost_ret (v := .tuple #[.int .i64 0, .int .i64 30]) (by simp [results, Tryz.results42, go_sem, *]) rfl ⟨by rw [HV.out.1, HV.out.2], (Later.mk_of (by repeat (first | (with_reducible assumption) | (with_reducible exact Below.refl _ _) | (with_reducible refine Later.after ?_ _) | (with_reducible refine Later.newer ?_ _) | (with_reducible refine Below.drew ?_) | (with_reducible refine Below.setCell ?_ (by first | exact Nat.le_refl _ | exact Nat.le_add_right _ _ | omega | (simp [go_sem]; done) | (simp [go_sem]; omega)) _))))⟩
          · have hm2p := List.length_pos_iff.2 hm2
            rw [if_pos ⟨by rw [hasPrefix_one, hb46]; rfl, by rw [List.length_cons]; omega⟩] at hps2
            have hz2 : decide ((T.size : Int) < 2) = false := by rw [hTs]; simp; omega
            have hpt2 := hps2
            have hm2l : m2.length ≤ 30 := by omega
            clear hps2 hc hT hTs
            go_wp2_with (go_at_call 75; (with_reducible refine (HDG.out _).mono ?_); rintro e _ ⟨rfl, xd, rfl⟩)
            obtain ⟨ym, hym⟩ : ∃ ym : Later w, ym.out = xd.out := ⟨⟨xd.out, y.below.trans (xd.below.mono y.below.size)⟩, rfl⟩
            rw [← hym]
            clear hym
            go_loopw [4] (fun tv wr => ∃ (t : List UInt8) (j : Nat), m2 = t ++ List.replicate j 48 ∧ t ≠ [] ∧ tv = .string ⟨t.toArray⟩ ∧ ∃ y : Later w, wr = y.out) (fun tv _ => strN tv)
            case atStart => exact ⟨m2, 0, by simp, hm2, (by rw [HT.out, ba_drop]; rfl), ym, rfl⟩
            case round =>
              obtain ⟨t, j, ht2, htne, rfl, y2, rfl⟩ := hrel
              obtain ⟨T2, hT2⟩ : ∃ T2 : ByteArray, T2 = ⟨t.toArray⟩ := ⟨_, rfl⟩
              have hT2s : T2.size = t.length := by rw [hT2, ba_size]
              have HT2s := Lib.hid hT2s
              have htl : t.length ≤ 30 := by have := congrArg List.length ht2; rw [List.length_append] at this; omega
              have htp : 1 ≤ t.length := List.length_pos_iff.2 htne
              rw [← hT2]
              have HT2 := Lib.hid hT2
              clear hT2
              by_cases h1 : t.length ≤ 1
              · have hz1 : decide ((1 : Int) < (T2.size : Int)) = false := by rw [hT2s]; simp; omega
                have hstop : t.length ≤ 1 ∨ ∃ b, t.getLast? = some b ∧ b ≠ 48 := .inl h1
                clear hT2s
                have hst : t = stripz m2 := strip_eq m2 t j ht2 htne hstop
                have hrpt : ps l = rpt true Wn t := by rw [hst]; exact hpt2
                clear hpt2 hst hstop ht2
                by_cases ht8n : 8 < t.length
                · have hz8 : decide ((8 : Int) < (T2.size : Int)) = true := by rw [HT2s.out]; simp; omega
                  have HV := Lib.hid (ps_none (hrpt.trans (by unfold rpt; rw [if_pos ht8n])))
                  go_wp2_with (fail)
                  exact bodyPost_ret (v := .tuple #[.int .i64 0, .int .i64 30]) (by simp [results, Tryz.results42, go_sem, *]) rfl ⟨by rw [HV.out.1, HV.out.2], (Later.mk_of (by repeat (first | (with_reducible assumption) | (with_reducible exact Below.refl _ _) | (with_reducible refine Later.after ?_ _) | (with_reducible refine Later.newer ?_ _) | (with_reducible refine Below.drew ?_) | (with_reducible refine Below.setCell ?_ (by first | exact Nat.le_refl _ | exact Nat.le_add_right _ _ | omega | (simp [go_sem]; done) | (simp [go_sem]; omega)) _))))⟩
                have ht8 : t.length ≤ 8 := by omega
                have hz8 : decide ((8 : Int) < (T2.size : Int)) = false := by rw [HT2s.out]; simp; omega
                go_wp2_with (fail)
                go_loopw [8, 9, 10] (fun av bv iv wr => ∃ k : Nat, k ≤ t.length ∧ (∀ b ∈ t.take k, IsDg b) ∧ av = .int .i64 ((vl (t.take k) : Nat) : Int) ∧ bv = .int .i64 ((10 ^ k : Nat) : Int) ∧ iv = .int .i64 (k : Int) ∧ ∃ y : Later w, wr = y.out) (fun _ _ iv _ => t.length - (RowKit.intOf iv).toNat)
                case atStart => exact ⟨0, by omega, by simp, rfl, rfl, rfl, y2, rfl⟩
                case round =>
                  obtain ⟨k, hk, hkd, rfl, rfl, rfl, y3, rfl⟩ := hrel
                  by_cases hlt : k < t.length
                  · have hb3 : t[k]? = some t[k] := List.getElem?_eq_getElem hlt
                    obtain ⟨b, hbe⟩ : ∃ b, b = t[k] := ⟨_, rfl⟩
                    rw [← hbe] at hb3
                    have hix3 := fun W => ix t k b hb3 W
                    rw [← HT2.out] at hix3
                    have hbm : b ∈ t := List.mem_of_getElem? hb3
                    have hsz : decide ((k : Int) < (T2.size : Int)) = true := by rw [HT2s.out]; simp; omega
                    have hsz2 : decide (k < T2.size) = true := by rw [HT2s.out]; simp; omega
                    have hsz3 : k < T2.size := by rw [HT2s.out]; omega
                    have hdg3 := fun v => digit_any b v
                    have htk : t.take (k + 1) = t.take k ++ [b] := by rw [List.take_add_one, hb3]; rfl
                    obtain ⟨c, hc⟩ : ∃ c : Int, c = (b.toNat : Int) := ⟨_, rfl⟩
                    rw [← hc] at hix3 hdg3
                    have hv8 := (vl_of _ hkd).2
                    have hE : 10 ^ k ≤ 10000000 := Nat.le_trans (Nat.pow_le_pow_right (show 0 < 10 by decide) (show k ≤ 7 by omega)) (by decide)
                    have hVe : vl (t.take k) < 10 ^ k := Nat.lt_of_lt_of_le hv8 (Nat.pow_le_pow_right (by decide) (by rw [List.length_take]; omega))
                    have hEs : 10 ^ (k + 1) = 10 ^ k * 10 := Nat.pow_succ ..
                    obtain ⟨E, hEe⟩ : ∃ E, E = 10 ^ k := ⟨_, rfl⟩
                    obtain ⟨V, hV⟩ : ∃ V, V = vl (t.take k) := ⟨_, rfl⟩
                    rw [← hEe] at hE hVe hEs ⊢
                    rw [← hV] at hVe ⊢
                    have HEs := Lib.hid hEs
                    have HTK := Lib.hid htk
                    have HVV := Lib.hid hV
                    have HKD := Lib.hid hkd
                    clear hEs htk hEe hV hkd hv8
                    by_cases hbd : isD b = true
                    · have hbn := (isD_iff b).1 hbd
                      rw [hbd] at hdg3
                      have HDG := Lib.hid hdg3
                      obtain ⟨d, hd⟩ : ∃ d : Nat, d = b.toNat - 48 := ⟨_, rfl⟩
                      obtain ⟨hd9, hcd, u1, u2⟩ := byte_facts b hbn c d hc hd
                      have hV9 : V < 10000000000 := Nat.lt_of_lt_of_le hVe (Nat.le_trans hE (by decide))
                      obtain ⟨u3, u4, u5, u6⟩ := num_facts V d hV9 hd9
                      obtain ⟨u7, u8⟩ := ten_facts E (Nat.le_trans hE (by decide))
                      obtain ⟨V2, hV2⟩ : ∃ V2, V2 = V * 10 + d := ⟨_, rfl⟩
                      rw [← hV2] at u4 u6
                      have HBN := Lib.hid hbn
                      have HD2 := Lib.hid hd
                      have HV2 := Lib.hid hV2
                      clear hdg3 hbd hbn hd hV2 hc hbe hb3 hbm hV9 hVe hE
                      go_wp2_with (go_at_call 75; (with_reducible refine (HDG.out _).mono ?_); rintro e _ ⟨rfl, xd, rfl⟩)
                      go_roundw
                      case rel =>
                        have hkd2 : ∀ z ∈ t.take (k + 1), IsDg z := by rw [HTK.out]; exact app_dg HKD.out (fun z hz => by rw [List.mem_singleton.1 hz]; exact HBN.out)
                        refine ⟨k + 1, by omega, hkd2, ?_, ?_, by go_num, ⟨xd.out, y3.below.trans (xd.below.mono y3.below.size)⟩, rfl⟩
                        · rw [HTK.out, sat_step _ _ HKD.out HBN.out, ← HVV.out, ← HD2.out, ← HV2.out]
                        · rw [HEs.out]; congr 1
                      case measure => simp [RowKit.intOf]; omega
                    · have hbf : isD b = false := by simpa using hbd
                      rw [hbf] at hdg3
                      have HDG := Lib.hid hdg3
                      have hnd : ¬ IsDg b := fun h => hbd ((isD_iff b).2 h)
                      have HV := Lib.hid (ps_none (hrpt.trans (rpt_bad true Wn t b hbm hnd)))
                      clear hdg3 hbd hbf hnd hc hbe hb3
                      go_wp2_with (go_at_call 75; (with_reducible refine (HDG.out _).mono ?_); rintro e _ ⟨rfl, xd, rfl⟩)
                      exact bodyPost_ret (v := .tuple #[.int .i64 0, .int .i64 30]) (by simp [results, Tryz.results42, go_sem, *]) rfl ⟨by rw [HV.out.1, HV.out.2], (Later.mk_of (by repeat (first | (with_reducible assumption) | (with_reducible exact Below.refl _ _) | (with_reducible refine Later.after ?_ _) | (with_reducible refine Later.newer ?_ _) | (with_reducible refine Below.drew ?_) | (with_reducible refine Below.setCell ?_ (by first | exact Nat.le_refl _ | exact Nat.le_add_right _ _ | omega | (simp [go_sem]; done) | (simp [go_sem]; omega)) _))))⟩
                  · obtain rfl : k = t.length := by omega
                    have htd : ∀ b ∈ t, IsDg b := by have h := hkd; rw [List.take_length] at h; exact h
                    have hdt := (dgs_eq t htd).1
                    rw [List.take_length]
                    have hv8 := (vl_of t htd).2
                    have hE : 10 ^ t.length ≤ 100000000 := Nat.le_trans (Nat.pow_le_pow_right (show 0 < 10 by decide) ht8) (by decide)
                    have hE0 : 0 < 10 ^ t.length := Nat.pow_pos (by decide)
                    have hpt : ps l = (if vl t * 256 % 10 ^ t.length = 0 then dck true Wn (vl t * 256 / 10 ^ t.length) else none) := by
                      rw [hrpt]; unfold rpt; rw [if_neg (by omega), if_neg (by simpa using hdt)]
                    clear hkd
                    obtain ⟨E, hEe⟩ : ∃ E, E = 10 ^ t.length := ⟨_, rfl⟩
                    rw [← hEe] at hv8 hE hE0 hpt ⊢
                    obtain ⟨V, hV⟩ : ∃ V, V = vl t := ⟨_, rfl⟩
                    rw [← hV] at hv8 hpt ⊢
                    clear hEe hV
                    have hsz : decide ((t.length : Int) < (T2.size : Int)) = false := by rw [HT2s.out]; simp
                    have hsz2 : decide (t.length < T2.size) = false := by rw [HT2s.out]; simp
                    have hsz3 : ¬ t.length < T2.size := by rw [HT2s.out]; omega
                    obtain ⟨A, hA⟩ : ∃ A, A = V * 256 := ⟨_, rfl⟩
                    obtain ⟨a1, a2, a0⟩ := end_facts V A (Nat.lt_of_lt_of_le hv8 hE) hA
                    obtain ⟨a3, a4⟩ := small_wrap A (by rw [hA]; exact Nat.lt_of_lt_of_le (Nat.mul_lt_mul_of_pos_right (Nat.lt_of_lt_of_le hv8 hE) (by decide)) (by decide))
                    have hAE : A < 256 * E := by rw [hA, Nat.mul_comm 256 E]; exact Nat.mul_lt_mul_of_pos_right hv8 (by decide)
                    rw [← hA] at hpt
                    have hE1 : ¬ (E : Int) = 0 := fun h => Nat.ne_of_gt hE0 (Int.ofNat_eq_zero.1 h)
                    have hE2 : ((E : Int) == 0) = false := by simpa using hE1
                    have hq9 : A / E < 256 := Nat.div_lt_of_lt_mul (by rw [Nat.mul_comm]; exact hAE)
                    obtain ⟨q, hq⟩ : ∃ q, q = A / E := ⟨_, rfl⟩
                    obtain ⟨rm, hrm⟩ : ∃ rm, rm = A % E := ⟨_, rfl⟩
                    rw [← hq, ← hrm] at hpt
                    rw [← hq] at hq9
                    obtain ⟨q1, q2⟩ := small_wrap q (Nat.lt_of_lt_of_le hq9 (by decide))
                    have b1 : (A : Int) % (E : Int) = (rm : Int) := by rw [hrm]; exact (Int.natCast_emod A E).symm
                    have b2 : (A : Int).tmod (E : Int) = (rm : Int) := by rw [Int.tmod_eq_emod_of_nonneg (Int.natCast_nonneg A)]; exact b1
                    have b3 : (A : Int) / (E : Int) = (q : Int) := by rw [hq]; exact (Int.natCast_ediv A E).symm
                    have b4 : (A : Int).tdiv (E : Int) = (q : Int) := by rw [Int.tdiv_eq_ediv_of_nonneg (Int.natCast_nonneg A)]; exact b3
                    clear hq hrm hAE hv8 hA hE
                    by_cases hr0 : rm = 0
                    · rw [if_pos hr0] at hpt
                      subst hr0
                      have HV := Lib.hid (ps_chk true _ q (hpt))
                      have hck : ∀ v, Calls Tryz.prog 76 #[.int .i64 (-1), .int .i64 (Wn : Int), .int .i64 (((q : Nat) : Int))] v fun e w' => e = .returned (.tuple #[.int .i64 (chV true Wn q), .int .i64 (chE true Wn q)]) ∧ ∃ x : Later v, w' = x.out := fun v => checked_c true Wn q hW9 (Nat.le_of_lt (Nat.lt_trans hq9 (by decide))) v
                      have HCK := Lib.hid hck
                      clear hck
                      clear hpt
                      go_wp2_with (first | (go_at_call 76; (with_reducible refine (HCK.out _).mono ?_); rintro e _ ⟨rfl, xc, rfl⟩))
                      exact bodyPost_ret (v := .tuple #[.int .i64 (chV true Wn q), .int .i64 (chE true Wn q)]) (by simp [results, Tryz.results42, go_sem, *]) rfl ⟨by rw [HV.out.1, HV.out.2], (Later.mk_of (by repeat (first | (with_reducible assumption) | (with_reducible exact Below.refl _ _) | (with_reducible refine Later.after ?_ _) | (with_reducible refine Later.newer ?_ _) | (with_reducible refine Below.drew ?_) | (with_reducible refine Below.setCell ?_ (by first | exact Nat.le_refl _ | exact Nat.le_add_right _ _ | omega | (simp [go_sem]; done) | (simp [go_sem]; omega)) _))))⟩
                    · rw [if_neg hr0] at hpt
                      have HV := Lib.hid (ps_none (hpt))
                      have c1 : ((rm : Int) != 0) = true := by simp; exact hr0
                      have c2 : decide ((rm : Int) ≠ 0) = true := by simp; exact hr0
                      have c3 : ((rm : Int) == 0) = false := by simp; exact hr0
                      clear hpt
                      go_wp2_with (fail)
                      exact bodyPost_ret (v := .tuple #[.int .i64 0, .int .i64 30]) (by simp [results, Tryz.results42, go_sem, *]) rfl ⟨by rw [HV.out.1, HV.out.2], (Later.mk_of (by repeat (first | (with_reducible assumption) | (with_reducible exact Below.refl _ _) | (with_reducible refine Later.after ?_ _) | (with_reducible refine Later.newer ?_ _) | (with_reducible refine Below.drew ?_) | (with_reducible refine Below.setCell ?_ (by first | exact Nat.le_refl _ | exact Nat.le_add_right _ _ | omega | (simp [go_sem]; done) | (simp [go_sem]; omega)) _))))⟩
              · have hz1 : decide ((1 : Int) < (T2.size : Int)) = true := by rw [hT2s]; simp; omega
                obtain ⟨K, hK⟩ : ∃ K : Nat, K = t.length - 1 := ⟨_, rfl⟩
                have k1 : (T2.size : Int) - 1 = (K : Int) := by rw [hT2s]; omega
                have k2 : IntKind.i64.wrap ((T2.size : Int) - 1) = (K : Int) := by rw [k1, IntWalk.i64_in _ (by omega)]
                have k3 : wrap64 ((T2.size : Int) - 1) = (K : Int) := by unfold wrap64; omega
                have hKl : K < t.length := by omega
                have HKL := Lib.hid hKl
                have HKe := Lib.hid hK
                obtain ⟨b, hbe⟩ : ∃ b, b = t[K] := ⟨_, rfl⟩
                have hbk : t[K]? = some b := by rw [hbe]; exact List.getElem?_eq_getElem hKl
                have hlast : t.getLast? = some b := by rw [List.getLast?_eq_getElem?, ← hK]; exact hbk
                have hix2 := fun W => ix t K b hbk W
                rw [← HT2.out] at hix2
                by_cases hb48 : b = 48
                · have hbn : (b.toNat : Int) = 48 := by rw [hb48]; rfl
                  have HB48 := Lib.hid hb48
                  rw [hbn] at hix2
                  have kk : (K : Int) ≤ (T2.size : Int) := by rw [hT2s]; omega
                  have HL := Lib.hid hlast
                  have HH2 := Lib.hid ht2
                  clear hbe hbk hlast ht2 hK hT2s hb48 hbn
                  go_wp2_with (fail)
                  go_roundw
                  case rel =>
                    obtain ⟨ys, hys⟩ := List.getLast?_eq_some_iff.1 HL.out
                    have htd : t.dropLast ++ [b] = t := by rw [hys]; simp
                    refine ⟨t.dropLast, j + 1, ?_, ?_, ?_, y2, rfl⟩
                    · have h := HH2.out
                      rw [← htd, HB48.out] at h
                      rw [h, List.append_assoc]
                      congr 1
                    · intro h
                      have := congrArg List.length h
                      rw [List.length_dropLast] at this
                      simp at this
                      omega
                    · rw [HT2.out, ba_take, List.dropLast_eq_take, ← HKe.out]
                  case measure =>
                    show (T2.extract 0 K).size < T2.size
                    have h := HT2s.out
                    rw [ByteArray.size_extract]
                    exact Nat.lt_of_le_of_lt (Nat.sub_le _ _) (Nat.lt_of_le_of_lt (Nat.min_le_left _ _) (by rw [h]; exact HKL.out))
                · have hstop : t.length ≤ 1 ∨ ∃ b, t.getLast? = some b ∧ b ≠ 48 := .inr ⟨b, hlast, hb48⟩
                  obtain ⟨c, hc⟩ : ∃ c : Int, c = (b.toNat : Int) := ⟨_, rfl⟩
                  rw [← hc] at hix2
                  have hcn : ¬ c = 48 := byte_ne b c 48 48 hc rfl hb48
                  have hcb : (c == 48) = false := by simpa using hcn
                  have hcd : decide (c = 48) = false := by simpa using hcn
                  clear hbe hbk hlast hc hb48 hK hT2s
                  have hst : t = stripz m2 := strip_eq m2 t j ht2 htne hstop
                  have hrpt : ps l = rpt true Wn t := by rw [hst]; exact hpt2
                  clear hpt2 hst hstop ht2
                  by_cases ht8n : 8 < t.length
                  · have hz8 : decide ((8 : Int) < (T2.size : Int)) = true := by rw [HT2s.out]; simp; omega
                    have HV := Lib.hid (ps_none (hrpt.trans (by unfold rpt; rw [if_pos ht8n])))
                    go_wp2_with (fail)
                    exact bodyPost_ret (v := .tuple #[.int .i64 0, .int .i64 30]) (by simp [results, Tryz.results42, go_sem, *]) rfl ⟨by rw [HV.out.1, HV.out.2], (Later.mk_of (by repeat (first | (with_reducible assumption) | (with_reducible exact Below.refl _ _) | (with_reducible refine Later.after ?_ _) | (with_reducible refine Later.newer ?_ _) | (with_reducible refine Below.drew ?_) | (with_reducible refine Below.setCell ?_ (by first | exact Nat.le_refl _ | exact Nat.le_add_right _ _ | omega | (simp [go_sem]; done) | (simp [go_sem]; omega)) _))))⟩
                  have ht8 : t.length ≤ 8 := by omega
                  have hz8 : decide ((8 : Int) < (T2.size : Int)) = false := by rw [HT2s.out]; simp; omega
                  go_wp2_with (fail)
                  go_loopw [8, 9, 10] (fun av bv iv wr => ∃ k : Nat, k ≤ t.length ∧ (∀ b ∈ t.take k, IsDg b) ∧ av = .int .i64 ((vl (t.take k) : Nat) : Int) ∧ bv = .int .i64 ((10 ^ k : Nat) : Int) ∧ iv = .int .i64 (k : Int) ∧ ∃ y : Later w, wr = y.out) (fun _ _ iv _ => t.length - (RowKit.intOf iv).toNat)
                  case atStart => exact ⟨0, by omega, by simp, rfl, rfl, rfl, y2, rfl⟩
                  case round =>
                    obtain ⟨k, hk, hkd, rfl, rfl, rfl, y3, rfl⟩ := hrel
                    by_cases hlt : k < t.length
                    · have hb3 : t[k]? = some t[k] := List.getElem?_eq_getElem hlt
                      obtain ⟨b, hbe⟩ : ∃ b, b = t[k] := ⟨_, rfl⟩
                      rw [← hbe] at hb3
                      have hix3 := fun W => ix t k b hb3 W
                      rw [← HT2.out] at hix3
                      have hbm : b ∈ t := List.mem_of_getElem? hb3
                      have hsz : decide ((k : Int) < (T2.size : Int)) = true := by rw [HT2s.out]; simp; omega
                      have hsz2 : decide (k < T2.size) = true := by rw [HT2s.out]; simp; omega
                      have hsz3 : k < T2.size := by rw [HT2s.out]; omega
                      have hdg3 := fun v => digit_any b v
                      have htk : t.take (k + 1) = t.take k ++ [b] := by rw [List.take_add_one, hb3]; rfl
                      obtain ⟨c, hc⟩ : ∃ c : Int, c = (b.toNat : Int) := ⟨_, rfl⟩
                      rw [← hc] at hix3 hdg3
                      have hv8 := (vl_of _ hkd).2
                      have hE : 10 ^ k ≤ 10000000 := Nat.le_trans (Nat.pow_le_pow_right (show 0 < 10 by decide) (show k ≤ 7 by omega)) (by decide)
                      have hVe : vl (t.take k) < 10 ^ k := Nat.lt_of_lt_of_le hv8 (Nat.pow_le_pow_right (by decide) (by rw [List.length_take]; omega))
                      have hEs : 10 ^ (k + 1) = 10 ^ k * 10 := Nat.pow_succ ..
                      obtain ⟨E, hEe⟩ : ∃ E, E = 10 ^ k := ⟨_, rfl⟩
                      obtain ⟨V, hV⟩ : ∃ V, V = vl (t.take k) := ⟨_, rfl⟩
                      rw [← hEe] at hE hVe hEs ⊢
                      rw [← hV] at hVe ⊢
                      have HEs := Lib.hid hEs
                      have HTK := Lib.hid htk
                      have HVV := Lib.hid hV
                      have HKD := Lib.hid hkd
                      clear hEs htk hEe hV hkd hv8
                      by_cases hbd : isD b = true
                      · have hbn := (isD_iff b).1 hbd
                        rw [hbd] at hdg3
                        have HDG := Lib.hid hdg3
                        obtain ⟨d, hd⟩ : ∃ d : Nat, d = b.toNat - 48 := ⟨_, rfl⟩
                        obtain ⟨hd9, hcd, u1, u2⟩ := byte_facts b hbn c d hc hd
                        have hV9 : V < 10000000000 := Nat.lt_of_lt_of_le hVe (Nat.le_trans hE (by decide))
                        obtain ⟨u3, u4, u5, u6⟩ := num_facts V d hV9 hd9
                        obtain ⟨u7, u8⟩ := ten_facts E (Nat.le_trans hE (by decide))
                        obtain ⟨V2, hV2⟩ : ∃ V2, V2 = V * 10 + d := ⟨_, rfl⟩
                        rw [← hV2] at u4 u6
                        have HBN := Lib.hid hbn
                        have HD2 := Lib.hid hd
                        have HV2 := Lib.hid hV2
                        clear hdg3 hbd hbn hd hV2 hc hbe hb3 hbm hV9 hVe hE
                        go_wp2_with (go_at_call 75; (with_reducible refine (HDG.out _).mono ?_); rintro e _ ⟨rfl, xd, rfl⟩)
                        go_roundw
                        case rel =>
                          have hkd2 : ∀ z ∈ t.take (k + 1), IsDg z := by rw [HTK.out]; exact app_dg HKD.out (fun z hz => by rw [List.mem_singleton.1 hz]; exact HBN.out)
                          refine ⟨k + 1, by omega, hkd2, ?_, ?_, by go_num, ⟨xd.out, y3.below.trans (xd.below.mono y3.below.size)⟩, rfl⟩
                          · rw [HTK.out, sat_step _ _ HKD.out HBN.out, ← HVV.out, ← HD2.out, ← HV2.out]
                          · rw [HEs.out]; congr 1
                        case measure => simp [RowKit.intOf]; omega
                      · have hbf : isD b = false := by simpa using hbd
                        rw [hbf] at hdg3
                        have HDG := Lib.hid hdg3
                        have hnd : ¬ IsDg b := fun h => hbd ((isD_iff b).2 h)
                        have HV := Lib.hid (ps_none (hrpt.trans (rpt_bad true Wn t b hbm hnd)))
                        clear hdg3 hbd hbf hnd hc hbe hb3
                        go_wp2_with (go_at_call 75; (with_reducible refine (HDG.out _).mono ?_); rintro e _ ⟨rfl, xd, rfl⟩)
                        exact bodyPost_ret (v := .tuple #[.int .i64 0, .int .i64 30]) (by simp [results, Tryz.results42, go_sem, *]) rfl ⟨by rw [HV.out.1, HV.out.2], (Later.mk_of (by repeat (first | (with_reducible assumption) | (with_reducible exact Below.refl _ _) | (with_reducible refine Later.after ?_ _) | (with_reducible refine Later.newer ?_ _) | (with_reducible refine Below.drew ?_) | (with_reducible refine Below.setCell ?_ (by first | exact Nat.le_refl _ | exact Nat.le_add_right _ _ | omega | (simp [go_sem]; done) | (simp [go_sem]; omega)) _))))⟩
                    · obtain rfl : k = t.length := by omega
                      have htd : ∀ b ∈ t, IsDg b := by have h := hkd; rw [List.take_length] at h; exact h
                      have hdt := (dgs_eq t htd).1
                      rw [List.take_length]
                      have hv8 := (vl_of t htd).2
                      have hE : 10 ^ t.length ≤ 100000000 := Nat.le_trans (Nat.pow_le_pow_right (show 0 < 10 by decide) ht8) (by decide)
                      have hE0 : 0 < 10 ^ t.length := Nat.pow_pos (by decide)
                      have hpt : ps l = (if vl t * 256 % 10 ^ t.length = 0 then dck true Wn (vl t * 256 / 10 ^ t.length) else none) := by
                        rw [hrpt]; unfold rpt; rw [if_neg (by omega), if_neg (by simpa using hdt)]
                      clear hkd
                      obtain ⟨E, hEe⟩ : ∃ E, E = 10 ^ t.length := ⟨_, rfl⟩
                      rw [← hEe] at hv8 hE hE0 hpt ⊢
                      obtain ⟨V, hV⟩ : ∃ V, V = vl t := ⟨_, rfl⟩
                      rw [← hV] at hv8 hpt ⊢
                      clear hEe hV
                      have hsz : decide ((t.length : Int) < (T2.size : Int)) = false := by rw [HT2s.out]; simp
                      have hsz2 : decide (t.length < T2.size) = false := by rw [HT2s.out]; simp
                      have hsz3 : ¬ t.length < T2.size := by rw [HT2s.out]; omega
                      obtain ⟨A, hA⟩ : ∃ A, A = V * 256 := ⟨_, rfl⟩
                      obtain ⟨a1, a2, a0⟩ := end_facts V A (Nat.lt_of_lt_of_le hv8 hE) hA
                      obtain ⟨a3, a4⟩ := small_wrap A (by rw [hA]; exact Nat.lt_of_lt_of_le (Nat.mul_lt_mul_of_pos_right (Nat.lt_of_lt_of_le hv8 hE) (by decide)) (by decide))
                      have hAE : A < 256 * E := by rw [hA, Nat.mul_comm 256 E]; exact Nat.mul_lt_mul_of_pos_right hv8 (by decide)
                      rw [← hA] at hpt
                      have hE1 : ¬ (E : Int) = 0 := fun h => Nat.ne_of_gt hE0 (Int.ofNat_eq_zero.1 h)
                      have hE2 : ((E : Int) == 0) = false := by simpa using hE1
                      have hq9 : A / E < 256 := Nat.div_lt_of_lt_mul (by rw [Nat.mul_comm]; exact hAE)
                      obtain ⟨q, hq⟩ : ∃ q, q = A / E := ⟨_, rfl⟩
                      obtain ⟨rm, hrm⟩ : ∃ rm, rm = A % E := ⟨_, rfl⟩
                      rw [← hq, ← hrm] at hpt
                      rw [← hq] at hq9
                      obtain ⟨q1, q2⟩ := small_wrap q (Nat.lt_of_lt_of_le hq9 (by decide))
                      have b1 : (A : Int) % (E : Int) = (rm : Int) := by rw [hrm]; exact (Int.natCast_emod A E).symm
                      have b2 : (A : Int).tmod (E : Int) = (rm : Int) := by rw [Int.tmod_eq_emod_of_nonneg (Int.natCast_nonneg A)]; exact b1
                      have b3 : (A : Int) / (E : Int) = (q : Int) := by rw [hq]; exact (Int.natCast_ediv A E).symm
                      have b4 : (A : Int).tdiv (E : Int) = (q : Int) := by rw [Int.tdiv_eq_ediv_of_nonneg (Int.natCast_nonneg A)]; exact b3
                      clear hq hrm hAE hv8 hA hE
                      by_cases hr0 : rm = 0
                      · rw [if_pos hr0] at hpt
                        subst hr0
                        have HV := Lib.hid (ps_chk true _ q (hpt))
                        have hck : ∀ v, Calls Tryz.prog 76 #[.int .i64 (-1), .int .i64 (Wn : Int), .int .i64 (((q : Nat) : Int))] v fun e w' => e = .returned (.tuple #[.int .i64 (chV true Wn q), .int .i64 (chE true Wn q)]) ∧ ∃ x : Later v, w' = x.out := fun v => checked_c true Wn q hW9 (Nat.le_of_lt (Nat.lt_trans hq9 (by decide))) v
                        have HCK := Lib.hid hck
                        clear hck
                        clear hpt
                        go_wp2_with (first | (go_at_call 76; (with_reducible refine (HCK.out _).mono ?_); rintro e _ ⟨rfl, xc, rfl⟩))
                        exact bodyPost_ret (v := .tuple #[.int .i64 (chV true Wn q), .int .i64 (chE true Wn q)]) (by simp [results, Tryz.results42, go_sem, *]) rfl ⟨by rw [HV.out.1, HV.out.2], (Later.mk_of (by repeat (first | (with_reducible assumption) | (with_reducible exact Below.refl _ _) | (with_reducible refine Later.after ?_ _) | (with_reducible refine Later.newer ?_ _) | (with_reducible refine Below.drew ?_) | (with_reducible refine Below.setCell ?_ (by first | exact Nat.le_refl _ | exact Nat.le_add_right _ _ | omega | (simp [go_sem]; done) | (simp [go_sem]; omega)) _))))⟩
                      · rw [if_neg hr0] at hpt
                        have HV := Lib.hid (ps_none (hpt))
                        have c1 : ((rm : Int) != 0) = true := by simp; exact hr0
                        have c2 : decide ((rm : Int) ≠ 0) = true := by simp; exact hr0
                        have c3 : ((rm : Int) == 0) = false := by simp; exact hr0
                        clear hpt
                        go_wp2_with (fail)
                        exact bodyPost_ret (v := .tuple #[.int .i64 0, .int .i64 30]) (by simp [results, Tryz.results42, go_sem, *]) rfl ⟨by rw [HV.out.1, HV.out.2], (Later.mk_of (by repeat (first | (with_reducible assumption) | (with_reducible exact Below.refl _ _) | (with_reducible refine Later.after ?_ _) | (with_reducible refine Later.newer ?_ _) | (with_reducible refine Below.drew ?_) | (with_reducible refine Below.setCell ?_ (by first | exact Nat.le_refl _ | exact Nat.le_add_right _ _ | omega | (simp [go_sem]; done) | (simp [go_sem]; omega)) _))))⟩
        · have hcn6 : ¬ c = 46 := byte_ne b c 46 46 hc rfl hb46
          have hc6 : (c != 46) = true := by simpa using hcn6
          have hc7 : decide (c ≠ 46) = true := by simpa using hcn6
          have hc8 : (c == 46) = false := by simpa using hcn6
          rw [if_neg (fun h => hb46 (by have := h.1; rw [hasPrefix_one] at this; exact (eq_of_beq this).symm))] at hps2
          have HV := Lib.hid (ps_none (hps2))
          clear hps2 hc hT hTs
          go_wp2_with (go_at_call 75; (with_reducible refine (HDG.out _).mono ?_); rintro e _ ⟨rfl, xd, rfl⟩)
          exact bodyPost_ret (v := .tuple #[.int .i64 0, .int .i64 30]) (by simp [results, Tryz.results42, go_sem, *]) rfl ⟨by rw [HV.out.1, HV.out.2], (Later.mk_of (by repeat (first | (with_reducible assumption) | (with_reducible exact Below.refl _ _) | (with_reducible refine Later.after ?_ _) | (with_reducible refine Later.newer ?_ _) | (with_reducible refine Below.drew ?_) | (with_reducible refine Below.setCell ?_ (by first | exact Nat.le_refl _ | exact Nat.le_add_right _ _ | omega | (simp [go_sem]; done) | (simp [go_sem]; omega)) _))))⟩

theorem rparse_l (l : List UInt8) (w : World) : Calls Tryz.prog 42 #[.string ⟨l.toArray⟩] w fun e w' => e = .returned (.tuple #[.int .i64 (psV l), .int .i64 (psE l)]) ∧ ∃ x : Later w, w' = x.out := by
  by_cases h30 : 30 < l.length
  · have e : ps l = none := by unfold ps; rw [if_pos h30]
    rw [(ps_none e).1, (ps_none e).2]
    exact rparse_0 ⟨l.toArray⟩ h30 w
  have hps := ps_rpsB l h30
  cases l with
  | nil =>
    have e : ps [] = none := by rw [hps]; rfl
    rw [(ps_none e).1, (ps_none e).2]
    exact rparse_e w
  | cons c r =>
    by_cases hc : c = 45
    · subst hc
      have e1 : unsg (45 :: r) = r := by unfold unsg; rw [hasPrefix_one]; rfl
      rw [e1, hasPrefix_one] at hps
      exact rparse_n (45 :: r) r rfl h30 hps _ rfl w
    · have e0 : hasPrefix (c :: r) [45] = false := by rw [hasPrefix_one]; exact beq_eq_false_iff_ne.2 fun e => hc e.symm
      have e1 : unsg (c :: r) = c :: r := by unfold unsg; rw [e0]; rfl
      rw [e1, e0] at hps
      exact rparse_p (c :: r) (c :: r) c r rfl hc rfl h30 hps _ rfl w
end Go.Proofs.YtjmagehfkcnjjaaGreatDoor

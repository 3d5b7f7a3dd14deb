/-
  Own ratio: parts, digits, canonical, coprime.
  Own ratio: Check.
  Own ratio: Check at every text; checks.
  Own ratio: the chain of operations.
  Own ratio: the operations on numerators and denominators.
-/
import Derived.Test.YtbeojahilbglcaaGreatDoorKa
import Derived.Test.YtbeojahilbglcaaGreatDoorMe
set_option linter.unusedVariables false
set_option linter.unusedSimpArgs false
namespace Lum
open Go Go.RowKit Go.Shelf
open Go.Lib (decDigits itoa)
theorem shaped_bare (l : Txt) (c : UInt8) (r : Txt) (h : body l = c :: r) (hd : (c :: r).all isDig = true) : shaped l = (decide (c ≠ 48) || decide (l = [48])) := by
  have hcan : canon (body l) = decide (c ≠ 48 ∨ r = []) := by
    rw [Bool.eq_iff_iff, canon_iff, h, decide_eq_true_eq]
    constructor
    · rintro ⟨_, _, h1⟩
      rcases h1 with h1 | h1
      · exact .inl (by simpa using h1)
      · injection h1 with h2 h3; exact .inr h3
    · intro h1
      refine ⟨by simp, hd, ?_⟩
      by_cases hc : c = 48
      · rcases h1 with h1 | h1
        · exact absurd hc h1
        · right; rw [hc, h1]
      · left; simpa using hc
  have hh : ((body l).head? == some 48) = decide (c = 48) := by rw [h]; simp [Bool.beq_eq_decide_eq]
  unfold shaped
  rw [hcan, hh]
  by_cases hc : c = 48
  · subst hc
    cases l with
    | nil => simp [body] at h
    | cons a t =>
      by_cases ha : a = 45
      · subst ha
        have hm : minus (45 :: t) = true := by simp [minus]
        rw [hm]; simp
      · have hm : minus (a :: t) = false := by simp [minus, ha]
        have hb : body (a :: t) = a :: t := body_no _ hm
        rw [hb] at h
        injection h with h1 h2
        subst h1 h2
        rw [hm]; simp
  · simp [hc]
theorem shaped_other (l : Txt) (h : body l = [] ∨ (body l).all isDig = false) : shaped l = false := by
  unfold shaped
  have : canon (body l) = false := by
    rw [Bool.eq_false_iff]
    intro hc
    rw [canon_iff] at hc
    rcases h with h | h
    · exact hc.1 h
    · rw [hc.2.1] at h; cases h
  rw [this]; rfl
end Lum
namespace Go.Proofs.YtbeojahilbglcaaGreatDoor
open Go.RowKit Go.Shelf Lum
open Go.Lib (decDigits itoa)
attribute [local go_sem] bs_get bs_extract_end bs_extract_from bs_extract bs_append

set_option maxHeartbeats 400000 in
theorem own_parts (l : Txt) (w : World) (hl : l.length ≤ 1000000) (env : Env w) :
    Calls Tryz.prog 138 #[.string ⟨l.toArray⟩] w fun e w' => e = .returned (.tuple #[.string ⟨(top l).toArray⟩, .string ⟨(bot l).toArray⟩, .bool (hasSlash l)]) ∧ Below w.heap.size w w' := by
  have hc := sh_cut ⟨l.toArray⟩ ⟨#[47]⟩ w env (by simp [ByteArray.size]; omega)
  simp only [cut_slash] at hc
  cases hs : hasSlash l with
  | false =>
    rw [hs] at hc
    have HC := Lib.hid hc; clear hc
    have h1 := top_noslash l hs
    have h2 := bot_noslash l hs
    rw [h1, h2]
    clear h1 h2 hs
    go_enter Tryz.func138, Tryz.ntmps138
    go_wp2_with fail
    refine (HC.out).mono ?_
    rintro e w' ⟨rfl, hb⟩
    go_wp2
    go_ret3
    exact ⟨rfl, hb⟩
  | true =>
    rw [hs] at hc
    have HC := Lib.hid hc; clear hc hs
    generalize top l = tl at *
    generalize bot l = bl at *
    go_enter Tryz.func138, Tryz.ntmps138
    go_wp2_with fail
    refine (HC.out).mono ?_
    rintro e w' ⟨rfl, hb⟩
    go_wp2
    go_ret3
    exact ⟨rfl, hb⟩

set_option maxHeartbeats 400000 in
theorem own_digits (l : Txt) (w : World) :
    Calls Tryz.prog 194 #[.string ⟨l.toArray⟩] w fun e w' => e = .returned (.string ⟨(body l).toArray⟩) ∧ w = w' := by
  have hc := sh_trimPrefix ⟨l.toArray⟩ ⟨#[45]⟩ w
  simp only [trimPrefix_minus] at hc
  have HC := Lib.hid hc; clear hc
  go_enter Tryz.func194, Tryz.ntmps194
  go_wp2_with fail
  refine (HC.out).mono ?_
  rintro e w' ⟨rfl, rfl⟩
  go_wp2
  go_ret
  exact ⟨rfl, rfl⟩

set_option maxRecDepth 100000 in
set_option maxHeartbeats 1000000 in
theorem own_canonical (l : Txt) (w : World) (hl : l.length ≤ 1000000) :
    Calls Tryz.prog 193 #[.string ⟨l.toArray⟩] w fun e w' => e = .returned (.bool (shaped l)) ∧ Below w.heap.size w w' := by
  have hd := own_digits l w
  have hbl := body_le l
  cases hb : body l with
  | nil =>
    have hv := shaped_other l (.inl hb)
    rw [hb] at hd
    have HD := Lib.hid hd; clear hd
    have HV := Lib.hid hv; clear hv hb
    go_enter Tryz.func193, Tryz.ntmps193
    go_wp2_with fail
    refine (HD.out).mono ?_
    rintro e w' ⟨rfl, rfl⟩
    go_wp2
    go_ret
    exact ⟨ret_bool HV.out.symm, Below.refl _ _⟩
  | cons c r =>
    rw [hb] at hd hbl
    have HD := Lib.hid hd; clear hd
    by_cases ha : (c :: r).all isDig = true
    · have hv := shaped_bare l c r hb ha
      have HV := Lib.hid hv; clear hv hb
      have hT := fun W => sh_trim_yes (c :: r) W (by omega) ha
      have HT := Lib.hid hT; clear hT ha
      by_cases hc : c = 48
      · have hc8 : ((c.toNat : Int) != 48) = false := by rw [hc]; rfl
        have HC := Lib.hid hc; clear hc
        by_cases h0 : l = [48]
        all_goals
          have hz : (l == [48]) = decide (l = [48]) := by rw [Bool.beq_eq_decide_eq]
          have H0 := Lib.hid h0
          have HZ := Lib.hid hz; clear hz h0
          go_enter Tryz.func193, Tryz.ntmps193
          go_wp2_with fail
          refine (HD.out).mono ?_
          rintro e w' ⟨rfl, rfl⟩
          go_wp2_with fail
          refine (HT.out _).mono ?_
          rintro e w5 ⟨rfl, hb5⟩
          go_wp2
          go_ret
          exact ⟨ret_bool (by rw [HV.out, HC.out, ← HZ.out]; simp), hb5⟩
      · have hc8 : ((c.toNat : Int) != 48) = true := by
          rw [bne_iff_ne]
          intro h
          exact hc (UInt8.toNat.inj (show c.toNat = (48 : UInt8).toNat by simp; omega))
        have HC := Lib.hid hc; clear hc
        go_enter Tryz.func193, Tryz.ntmps193
        go_wp2_with fail
        refine (HD.out).mono ?_
        rintro e w' ⟨rfl, rfl⟩
        go_wp2_with fail
        refine (HT.out _).mono ?_
        rintro e w5 ⟨rfl, hb5⟩
        go_wp2
        go_ret
        exact ⟨ret_bool (by rw [HV.out]; simp [HC.out]), hb5⟩
    · have hv := shaped_other l (.inr (by rw [hb]; simpa using ha))
      have HV := Lib.hid hv; clear hv hb
      have hT := fun W => sh_trim_no (c :: r) W (by omega) (by simpa using ha)
      have HT := Lib.hid hT; clear hT ha
      go_enter Tryz.func193, Tryz.ntmps193
      go_wp2_with fail
      refine (HD.out).mono ?_
      rintro e w' ⟨rfl, rfl⟩
      go_wp2_with fail
      refine (HT.out _).mono ?_
      rintro e w5 ⟨c2, r2, rfl, hb5⟩
      go_wp2
      go_ret
      exact ⟨ret_bool HV.out.symm, hb5⟩

set_option maxHeartbeats 400000 in
theorem own_coprime (x y : Int) (w : World) (hx : dl x ≤ 4096) (hy : dl y ≤ 4096) (env : Env w) :
    Calls Tryz.prog 195 #[.string ⟨(itoa x).toArray⟩, .string ⟨(itoa y).toArray⟩] w fun e w' => e = .returned (.tuple #[.bool (decide (Nat.gcd x.natAbs y.natAbs = 1)), .int .i64 0]) ∧ Below w.heap.size w w' := by
  have hg := own_gcd x y w hx hy env
  have HG := Lib.hid hg; clear hg
  have hz : (decDigits (Nat.gcd x.natAbs y.natAbs) == [49]) = decide (Nat.gcd x.natAbs y.natAbs = 1) := by
    rw [Bool.eq_iff_iff, beq_iff_eq, decide_eq_true_eq]; exact dec_eq_one _
  have HZ := Lib.hid hz; clear hz
  generalize itoa x = tx at *
  generalize itoa y = ty at *
  generalize decDigits (Nat.gcd x.natAbs y.natAbs) = dg at *
  go_enter Tryz.func195, Tryz.ntmps195
  go_wp2_with fail
  refine (HG.out).mono ?_
  rintro e w' ⟨rfl, hb⟩
  go_wp2
  go_ret2
  exact ⟨by rw [← HZ.out]; rfl, hb⟩
end Go.Proofs.YtbeojahilbglcaaGreatDoor
namespace Lum
open Go Go.RowKit Go.Shelf
open Go.Lib (decDigits itoa)
/-- The text of a denominator behind a slash: what the tests on it see. -/
theorem den_text (q : Int) (hq : 1 < q) : ∃ c r, itoa q = c :: r ∧ ((c.toNat : Int) == 45) = false ∧ (c :: r : Txt) ≠ [48] ∧ (c :: r : Txt) ≠ [49] ∧ (c :: r).length = dl q := by
  obtain ⟨n, rfl⟩ : ∃ n : Nat, q = n := ⟨q.toNat, by omega⟩
  rw [itoa_nat]
  have h1 := dec_head_ne45 n
  have h2 : (decDigits n).length = dl (n : Int) := by unfold dl; simp
  have h3 : decDigits n ≠ [48] := fun h => by have := (dec_eq_zero n).1 h; omega
  have h4 : decDigits n ≠ [49] := fun h => by have := (dec_eq_one n).1 h; omega
  cases hd : decDigits n with
  | nil => exact absurd hd (dec_ne n)
  | cons c r =>
    rw [hd] at h1 h2 h3 h4
    refine ⟨c, r, rfl, ?_, h3, h4, h2⟩
    rw [beq_eq_false_iff_ne]
    intro e
    apply h1
    have : c = 45 := UInt8.toNat.inj (show c.toNat = (45 : UInt8).toNat by simp; omega)
    rw [this]; rfl
end Lum
namespace Go.Proofs.YtbeojahilbglcaaGreatDoor
open Go.RowKit Go.Shelf Lum
open Go.Lib (decDigits itoa)
attribute [local go_sem] bs_get bs_extract_end bs_extract_from bs_extract bs_append

set_option maxRecDepth 100000 in
set_option maxHeartbeats 2000000 in
theorem own_rcheck_bad (l : Txt) (w : World) (hl : l.length ≤ 100000) (env : Env w) (h : shaped (top l) = false ∨ shaped (bot l) = false ∨ (hasSlash l = true ∧ zOf (bot l) ≤ 1)) :
    Calls Tryz.prog 163 #[.string ⟨l.toArray⟩] w fun e w' => e = .returned (.int .i64 3) ∧ Below w.heap.size w w' := by
  have hP := own_parts l w (by omega) env
  have htl := top_le l
  have hbl := bot_le l
  have sT := fun W => own_canonical (top l) W (by omega)
  have sB := fun W => own_canonical (bot l) W (by omega)
  cases h1 : shaped (top l) with
  | false =>
    rw [h1] at sT
    have HP := Lib.hid hP; clear hP
    have HT := Lib.hid sT; clear sT sB h h1
    generalize top l = tl at *
    generalize bot l = bl at *
    go_enter Tryz.func163, Tryz.ntmps163
    go_wp2_with fail
    refine (HP.out).mono ?_
    rintro e w1 ⟨rfl, hb1⟩
    go_wp2_with fail
    refine (HT.out _).mono ?_
    rintro e w2 ⟨rfl, hb2⟩
    go_wp2
    go_ret
    exact ⟨rfl, bch' hb1 hb2⟩
  | true =>
    rw [h1] at sT
    cases h2 : shaped (bot l) with
    | false =>
      rw [h2] at sB
      have HP := Lib.hid hP; clear hP
      have HT := Lib.hid sT; clear sT
      have HB := Lib.hid sB; clear sB h h1 h2
      generalize top l = tl at *
      generalize bot l = bl at *
      go_enter Tryz.func163, Tryz.ntmps163
      go_wp2_with fail
      refine (HP.out).mono ?_
      rintro e w1 ⟨rfl, hb1⟩
      go_wp2_with fail
      refine (HT.out _).mono ?_
      rintro e w2 ⟨rfl, hb2⟩
      go_wp2_with fail
      refine (HB.out _).mono ?_
      rintro e w3 ⟨rfl, hb3⟩
      go_wp2
      go_ret
      exact ⟨rfl, bch' (bch' hb1 hb2) hb3⟩
    | true =>
      rw [h2] at sB
      have h3 : hasSlash l = true ∧ zOf (bot l) ≤ 1 := by
        rcases h with h | h | h
        · rw [h1] at h; cases h
        · rw [h2] at h; cases h
        · exact h
      have hq := itoa_zOf (bot l) h2
      rw [h3.1] at hP
      have hb : (∃ r, bot l = 45 :: r) ∨ bot l = [48] ∨ bot l = [49] := by
        have := h3.2
        rw [← hq]
        rcases Int.lt_or_le (zOf (bot l)) 0 with hz | hz
        · left
          refine ⟨decDigits (zOf (bot l)).natAbs, ?_⟩
          conv => lhs; rw [show zOf (bot l) = -((zOf (bot l)).natAbs : Int) by omega]
          rw [itoa_negsucc _ (by omega)]
        · rcases (show zOf (bot l) = 0 ∨ zOf (bot l) = 1 by omega) with h | h
          · right; left; rw [h, itoa_zero]
          · right; right; rw [h, itoa_one]
      have HP := Lib.hid hP; clear hP
      have HT := Lib.hid sT; clear sT
      have HB := Lib.hid sB; clear sB h h1 h2 h3 hq
      generalize top l = tl at *
      generalize bot l = bl at *
      rcases hb with ⟨r, rfl⟩ | rfl | rfl
      all_goals
        go_enter Tryz.func163, Tryz.ntmps163
        go_wp2_with fail
        refine (HP.out).mono ?_
        rintro e w1 ⟨rfl, hb1⟩
        go_wp2_with fail
        refine (HT.out _).mono ?_
        rintro e w2 ⟨rfl, hb2⟩
        go_wp2_with fail
        refine (HB.out _).mono ?_
        rintro e w3 ⟨rfl, hb3⟩
        go_wp2
        go_ret
        exact ⟨rfl, bch' (bch' hb1 hb2) hb3⟩

set_option maxRecDepth 100000 in
set_option maxHeartbeats 2000000 in
theorem own_rcheck_good (l : Txt) (p q : Int) (w : World) (hl : l.length ≤ 100000) (env : Env w) (hp : top l = itoa p) (hq : bot l = itoa q) (h1 : hasSlash l = true → 1 < q) (h0 : hasSlash l = false → q = 1) :
    Calls Tryz.prog 163 #[.string ⟨l.toArray⟩] w fun e w' => e = .returned (.int .i64 (if 4096 < dl p ∨ 4096 < dl q then 23 else if Nat.gcd p.natAbs q.natAbs = 1 then 0 else 3)) ∧ Below w.heap.size w w' := by
  have hP := own_parts l w (by omega) env
  have htl := top_le l
  have hbl := bot_le l
  have sT := fun W => own_canonical (top l) W (by omega)
  have sB := fun W => own_canonical (bot l) W (by omega)
  rw [hp] at hP sT htl
  rw [hq] at hP sB hbl
  simp only [shaped_itoa] at sT sB
  have hD := fun W => own_digits (itoa p) W
  rw [body_itoa] at hD
  have hdl : (decDigits p.natAbs).length = dl p := rfl
  have HT := Lib.hid sT; clear sT
  have HB := Lib.hid sB; clear sB
  have HD := Lib.hid hD; clear hD
  obtain ⟨cg, hcg⟩ : ∃ cg, cg = decide (Nat.gcd p.natAbs q.natAbs = 1) := ⟨_, rfl⟩
  have hC : ∀ (hx : dl p ≤ 4096) (hy : dl q ≤ 4096) (W : World) (e : Env W), Calls Tryz.prog 195 #[.string ⟨(itoa p).toArray⟩, .string ⟨(itoa q).toArray⟩] W fun e w' => e = .returned (.tuple #[.bool cg, .int .i64 0]) ∧ Below W.heap.size W w' := fun hx hy W e => by rw [hcg]; exact own_coprime p q W hx hy e
  have HC := Lib.hid hC; clear hC hp hq
  have HG : Hid (Nat.gcd p.natAbs q.natAbs = 1 ↔ cg = true) := by show _ ↔ _; rw [hcg]; simp
  clear hcg
  obtain ⟨c, r, hcr, hql, hsl⟩ : ∃ c r, itoa q = c :: r ∧ (c :: r).length = dl q ∧ (hasSlash l = true → ((c.toNat : Int) == 45) = false ∧ (c :: r : Txt) ≠ [48] ∧ (c :: r : Txt) ≠ [49]) := by
    cases hs : hasSlash l with
    | true =>
      obtain ⟨c, r, e1, e2, e3, e4, e5⟩ := den_text q (h1 hs)
      exact ⟨c, r, e1, e5, fun _ => ⟨e2, e3, e4⟩⟩
    | false =>
      have := h0 hs
      subst this
      refine ⟨49, [], itoa_one, ?_, fun h => by cases h⟩
      unfold dl; rw [show (1 : Int).natAbs = 1 from rfl, dec_small (by omega)]; rfl
  rw [hcr] at hP HB HC hbl
  generalize itoa p = tp at *
  generalize decDigits p.natAbs = dp at *
  have hif : (if Nat.gcd p.natAbs q.natAbs = 1 then (0 : Int) else 3) = if cg = true then 0 else 3 := by
    by_cases h : cg = true
    · rw [if_pos h, if_pos (HG.out.2 h)]
    · rw [if_neg h, if_neg (fun h2 => h (HG.out.1 h2))]
  rw [hif]
  clear h1 h0 hcr hif HG
  rw [← hdl, ← hql]
  rw [← hdl, ← hql] at HC
  clear hdl hql
  obtain ⟨v, hv⟩ : ∃ v : Int, v = if 4096 < dp.length ∨ 4096 < (c :: r).length then 23 else if cg = true then 0 else 3 := ⟨_, rfl⟩
  rw [← hv]
  have HV := Lib.hid hv; clear hv
  cases hs : hasSlash l <;> rw [hs] at hP hsl
  · have HP := Lib.hid hP; clear hP hsl hs
    go_enter Tryz.func163, Tryz.ntmps163
    go_wp2_with fail
    refine (HP.out).mono ?_
    rintro e w1 ⟨rfl, hb1⟩
    go_wp2_with fail
    refine (HT.out _).mono ?_
    rintro e w2 ⟨rfl, hb2⟩
    go_wp2_with fail
    refine (HB.out _).mono ?_
    rintro e w3 ⟨rfl, hb3⟩
    go_wp2_with fail
    refine (HD.out _).mono ?_
    rintro e w4 ⟨rfl, rfl⟩
    have HB3 := Lib.hid (bch' (bch' hb1 hb2) hb3); clear hb1 hb2 hb3
    by_cases h4 : 4096 < dp.length ∨ 4096 < (c :: r).length
    · have HV4 : Hid (v = 23) := by show _ = _; rw [HV.out, if_pos h4]
      have h5 : (4096 : Int) < (dp.length : Int) ∨ (dp.length : Int) ≤ 4096 := by omega
      simp only [List.length_cons] at h4
      rcases h5 with h5 | h5
      · clear h4
        go_wp2
        go_ret
        exact ⟨ret_int HV4.out.symm, HB3.out⟩
      · have h6 : (4096 : Int) < ((r.length : Int) + 1) := by omega
        clear h4
        go_wp2
        go_ret
        exact ⟨ret_int HV4.out.symm, HB3.out⟩
    · have HV4 : Hid (v = if cg = true then 0 else 3) := by show _ = _; rw [HV.out, if_neg h4]
      have hc := HC.out (by omega) (by omega) _ (env.below HB3.out)
      have HC2 := Lib.hid hc; clear hc HC
      simp only [List.length_cons] at h4
      have h5 : ¬ (4096 : Int) < (dp.length : Int) := by omega
      have h6 : ¬ (4096 : Int) < ((r.length : Int) + 1) := by omega
      clear h4
      cases cg
      all_goals
        go_wp2_with fail
        refine (HC2.out).mono ?_
        rintro e w5 ⟨rfl, hb5⟩
        go_wp2
        go_ret
        exact ⟨ret_int HV4.out.symm, bch' HB3.out hb5⟩
  · have HP := Lib.hid hP; clear hP
    obtain ⟨hc45, hne0, hne1⟩ := hsl rfl
    have hz0 : ((c :: r : Txt) == [48]) = false := by rw [beq_eq_false_iff_ne]; exact hne0
    have hz1 : ((c :: r : Txt) == [49]) = false := by rw [beq_eq_false_iff_ne]; exact hne1
    clear hsl hs hne0 hne1
    go_enter Tryz.func163, Tryz.ntmps163
    go_wp2_with fail
    refine (HP.out).mono ?_
    rintro e w1 ⟨rfl, hb1⟩
    go_wp2_with fail
    refine (HT.out _).mono ?_
    rintro e w2 ⟨rfl, hb2⟩
    go_wp2_with fail
    refine (HB.out _).mono ?_
    rintro e w3 ⟨rfl, hb3⟩
    go_wp2_with fail
    refine (HD.out _).mono ?_
    rintro e w4 ⟨rfl, rfl⟩
    have HB3 := Lib.hid (bch' (bch' hb1 hb2) hb3); clear hb1 hb2 hb3
    by_cases h4 : 4096 < dp.length ∨ 4096 < (c :: r).length
    · have HV4 : Hid (v = 23) := by show _ = _; rw [HV.out, if_pos h4]
      have h5 : (4096 : Int) < (dp.length : Int) ∨ (dp.length : Int) ≤ 4096 := by omega
      simp only [List.length_cons] at h4
      rcases h5 with h5 | h5
      · clear h4
        go_wp2
        go_ret
        exact ⟨ret_int HV4.out.symm, HB3.out⟩
      · have h6 : (4096 : Int) < ((r.length : Int) + 1) := by omega
        clear h4
        go_wp2
        go_ret
        exact ⟨ret_int HV4.out.symm, HB3.out⟩
    · have HV4 : Hid (v = if cg = true then 0 else 3) := by show _ = _; rw [HV.out, if_neg h4]
      have hc := HC.out (by omega) (by omega) _ (env.below HB3.out)
      have HC2 := Lib.hid hc; clear hc HC
      simp only [List.length_cons] at h4
      have h5 : ¬ (4096 : Int) < (dp.length : Int) := by omega
      have h6 : ¬ (4096 : Int) < ((r.length : Int) + 1) := by omega
      clear h4
      cases cg
      all_goals
        go_wp2_with fail
        refine (HC2.out).mono ?_
        rintro e w5 ⟨rfl, hb5⟩
        go_wp2
        go_ret
        exact ⟨ret_int HV4.out.symm, bch' HB3.out hb5⟩
end Go.Proofs.YtbeojahilbglcaaGreatDoor
namespace Lum
open Go Go.RowKit Go.Shelf
open Go.Lib (decDigits itoa)
/-- The first error of some texts. -/
def checkAll : List Txt → Int
  | [] => 0
  | l :: r => if ratCheck l ≠ 0 then ratCheck l else checkAll r
theorem checkAll_drop (ls : List Txt) (k : Nat) (h : k < ls.length) : checkAll (ls.drop k) = if ratCheck (ls[k]?.getD []) ≠ 0 then ratCheck (ls[k]?.getD []) else checkAll (ls.drop (k + 1)) := by
  rw [List.drop_eq_getElem_cons h, List.getElem?_eq_getElem h]; rfl
theorem checkAll_two (a b : Txt) : checkAll [a, b] = checkTwo a b := by
  unfold checkAll checkAll checkAll checkTwo
  by_cases ha : ratCheck a ≠ 0
  · rw [if_pos ha, if_pos ha]
  · rw [if_neg ha, if_neg ha]
    by_cases hb : ratCheck b ≠ 0
    · rw [if_pos hb]
    · rw [if_neg hb]; omega
end Lum
namespace Go.Proofs.YtbeojahilbglcaaGreatDoor
open Go.RowKit Go.Shelf Lum
open Go.Lib (decDigits itoa)
attribute [local go_sem] bs_get bs_extract_end bs_extract_from bs_extract bs_append

theorem own_rcheck (l : Txt) (w : World) (hl : l.length ≤ 100000) (env : Env w) :
    Calls Tryz.prog 163 #[.string ⟨l.toArray⟩] w fun e w' => e = .returned (.int .i64 (ratCheck l)) ∧ Below w.heap.size w w' := by
  by_cases h : shaped (top l) = false ∨ shaped (bot l) = false ∨ (hasSlash l = true ∧ zOf (bot l) ≤ 1)
  · have e : ratCheck l = 3 := by rw [ratCheck, if_pos h]
    rw [e]
    exact own_rcheck_bad l w hl env h
  · have h' := h
    simp only [not_or, Bool.not_eq_false, not_and, Int.not_le] at h'
    obtain ⟨a1, a2, a3⟩ := h'
    have b1 := itoa_zOf _ a1
    have b2 := itoa_zOf _ a2
    have hg := own_rcheck_good l (zOf (top l)) (zOf (bot l)) w hl env b1.symm b2.symm a3 (fun hs => by rw [bot_noslash l hs]; decide)
    have e : ratCheck l = if 4096 < dl (zOf (top l)) ∨ 4096 < dl (zOf (bot l)) then 23 else if Nat.gcd (zOf (top l)).natAbs (zOf (bot l)).natAbs = 1 then 0 else 3 := by
      rw [ratCheck, if_neg h, long_dl, long_dl]
      simp only [decide_eq_true_eq]
      by_cases h4 : 4096 < dl (zOf (top l)) ∨ 4096 < dl (zOf (bot l))
      · rw [if_pos h4, if_pos h4]
      · rw [if_neg h4, if_neg h4]
        by_cases h5 : Nat.gcd (zOf (top l)).natAbs (zOf (bot l)).natAbs = 1
        · rw [if_neg (by simpa using h5), if_pos h5]
        · rw [if_pos h5, if_neg h5]
    rw [e]
    exact hg

set_option maxRecDepth 20000 in
set_option maxHeartbeats 1000000 in
theorem own_checks (ls : List Txt) (b : Nat) (w : World) (env : Env w) (hn : ls.length ≤ 100) (hl : ∀ l ∈ ls, l.length ≤ 100000) (hb : b < w.heap.size) (hc : ∀ j, j < ls.length → w.cell? ⟨b, j, none⟩ = some (.string ⟨(ls[j]?.getD []).toArray⟩)) :
    Calls Tryz.prog 137 #[.slice (some ⟨b, 0, none⟩) ls.length ls.length] w fun e w' => e = .returned (.int .i64 (checkAll ls)) ∧ Below w.heap.size w w' := by
  have hK : ∀ W k, Below w.heap.size w W → k < ls.length → Calls Tryz.prog 163 #[.string ⟨(ls[k]?.getD []).toArray⟩] W fun e w' => e = .returned (.int .i64 (ratCheck (ls[k]?.getD []))) ∧ Below W.heap.size W w' := fun W k hB hk =>
    own_rcheck _ W (by rw [List.getElem?_eq_getElem hk]; exact hl _ (List.getElem_mem hk)) (env.below hB)
  have HK := Lib.hid hK; clear hK
  have HCE := Lib.hid hc; clear hc hl
  obtain ⟨v, hv⟩ : ∃ v, v = checkAll ls := ⟨_, rfl⟩
  rw [← hv]
  have HV := Lib.hid hv; clear hv
  go_enter Tryz.func137, Tryz.ntmps137
  go_wp2
  go_loopw [4, 5, 8] (fun _ _ i wr => ∃ k : Nat, k ≤ ls.length ∧ i = .int .i64 k ∧ Hid (v = checkAll (ls.drop k)) ∧ Below w.heap.size w wr) (fun _ _ i _ => ls.length - (intOf i).toNat)
  case atStart => exact ⟨0, by omega, rfl, HV.out, Below.refl _ _⟩
  case round =>
    obtain ⟨k, hk, rfl, HD, hB⟩ := hrel
    by_cases hlt : k < ls.length
    · have hcx : wr.cell? ⟨b, k, none⟩ = some (.string ⟨(ls[k]?.getD []).toArray⟩) := (hB.cell (p := ⟨b, k, none⟩) hb).trans (HCE.out k hlt)
      have hkk := HK.out wr k hB hlt
      have hstep := checkAll_drop ls k hlt
      generalize ls[k]?.getD [] = t at *
      by_cases ht : ratCheck t = 0
      · rw [if_neg (by simpa using ht)] at hstep
        rw [ht] at hkk
        have HS : Hid (v = checkAll (ls.drop (k + 1))) := by show _ = _; rw [HD.out, hstep]
        have HKK := Lib.hid hkk; clear hkk hstep ht
        go_wp2_with fail
        refine (HKK.out).mono ?_
        rintro e w' ⟨rfl, hb2⟩
        have hB2 := hB.trans (hb2.mono hB.size)
        clear hB hb2
        go_wp2
        go_roundw
        case rel => exact ⟨k + 1, by omega, by go_num, HS, hB2⟩
        case measure => simp [intOf]; omega
      · rw [if_pos ht] at hstep
        have HS : Hid (v = ratCheck t) := by show _ = _; rw [HD.out, hstep]
        have hne : ((ratCheck t : Int) != 0) = true := by simpa using ht
        have HKK := Lib.hid hkk; clear hkk hstep ht
        go_wp2_with fail
        refine (HKK.out).mono ?_
        rintro e w' ⟨rfl, hb2⟩
        have HB2 := Lib.hid (hB.trans (hb2.mono hB.size))
        clear hB hb2
        go_wp2
        go_ret
        exact ⟨ret_int HS.out.symm, HB2.out⟩
    · obtain rfl : k = ls.length := by omega
      have HS : Hid (v = 0) := by show _ = _; rw [HD.out, List.drop_length]; rfl
      go_wp2
      go_ret
      exact ⟨ret_int HS.out.symm, hB⟩
end Go.Proofs.YtbeojahilbglcaaGreatDoor
namespace Lum
open Go Go.RowKit Go.Shelf
open Go.Lib (decDigits itoa)
/-- w' is w but for block B, and new blocks. -/
structure Only (B : Nat) (w w' : World) : Prop where
  below : ∀ m, m ≤ B → m ≤ w.heap.size → Below m w w'
  size : w.heap.size ≤ w'.heap.size
  blk : ∀ k, k < w.heap.size → k ≠ B → w'.heap[k]? = w.heap[k]?
theorem Only.refl (B : Nat) (w : World) : Only B w w := ⟨fun _ _ _ => Below.refl _ _, Nat.le_refl _, fun _ _ _ => rfl⟩
theorem Only.trans {B : Nat} {a b c : World} (h : Only B a b) (k : Only B b c) : Only B a c :=
  ⟨fun m h1 h2 => (h.below m h1 h2).trans (k.below m h1 (Nat.le_trans h2 h.size)), Nat.le_trans h.size k.size, fun i h1 h2 => (k.blk i (Nat.lt_of_lt_of_le h1 h.size) h2).trans (h.blk i h1 h2)⟩
theorem Only.of_below {B : Nat} {w w' : World} (h : Below w.heap.size w w') : Only B w w' := ⟨fun m _ h2 => h.mono h2, h.size, fun k hk _ => h.block k hk⟩
theorem Only.set {B : Nat} {w w' : World} (h : Only B w w') (v : Value) : Only B w (w'.setCell ⟨B, 0, none⟩ v) :=
  ⟨fun m h1 h2 => (h.below m h1 h2).setCell (p := ⟨B, 0, none⟩) h1 _, by simpa [World.setCell] using h.size, fun k h1 h2 => (Below.heap_setCell _ _ _ _ h2).trans (h.blk k h1 h2)⟩
theorem Only.cell {B : Nat} {w w' : World} (h : Only B w w') {b o : Nat} (hb : b < w.heap.size) (hne : b ≠ B) : w'.cell? ⟨b, o, none⟩ = w.cell? ⟨b, o, none⟩ := by
  unfold World.cell?
  rw [h.blk b hb hne]
/-- The chain's error stands in its box. -/
structure Ch (W : World) (B : Nat) (e : Int) : Prop where
  c : W.cell? ⟨B, 0, none⟩ = some (.int .i64 e)
  f : W.frozen? ⟨B, 0, none⟩ = false
  lt : B < W.heap.size
theorem Ch.below {W W' : World} {B : Nat} {e : Int} (h : Ch W B e) (hb : Below W.heap.size W W') : Ch W' B e := ⟨(hb.cell (p := ⟨B, 0, none⟩) h.lt).trans h.c, (hb.frozen (p := ⟨B, 0, none⟩) h.lt).trans h.f, Nat.lt_of_lt_of_le h.lt hb.size⟩
theorem Ch.set {W : World} {B : Nat} {e : Int} (h : Ch W B e) (e' : Int) : Ch (W.setCell ⟨B, 0, none⟩ (.int .i64 e')) B e' :=
  ⟨World.cell?_setCell_same _ _ _ h.c, by rw [World.frozen?_setCell]; exact h.f, by simpa [World.setCell] using h.lt⟩
/-- One operation of the chain: the number that it gives, and the error. -/
def doZ (e z : Int) : Int × Int := if e ≠ 0 then (0, e) else if 4096 < dl z then (0, 23) else (z, 0)
theorem dl_zero : dl 0 = 1 := by unfold dl; rw [show (0 : Int).natAbs = 0 from rfl, dec_zero]; rfl
theorem doZ_dl (e z : Int) : dl (doZ e z).1 ≤ 4096 := by
  unfold doZ
  by_cases h : e ≠ 0
  · rw [if_pos h, dl_zero]; omega
  · rw [if_neg h]
    by_cases h2 : 4096 < dl z
    · rw [if_pos h2, dl_zero]; omega
    · rw [if_neg h2]; exact Nat.le_of_not_lt h2
end Lum
namespace Go.Proofs.YtbeojahilbglcaaGreatDoor
open Go.RowKit Go.Shelf Lum
open Go.Lib (decDigits itoa)
attribute [local go_sem] bs_get bs_extract_end bs_extract_from bs_extract bs_append

set_option maxHeartbeats 1000000 in
theorem own_do (F : FuncId) (B : Nat) (e z : Int) (tx ty : Txt) (w : World) (hch : Ch w B e)
    (hF : ∀ args w, (callFunc F args).run Tryz.prog w = .ok (.enter F args) w)
    (hop : e = 0 → Calls Tryz.prog F #[.string ⟨tx.toArray⟩, .string ⟨ty.toArray⟩] w fun e w' => e = .returned (.tuple #[.string ⟨(wrT z).1.toArray⟩, .int .i64 (wrT z).2]) ∧ Below w.heap.size w w') :
    Calls Tryz.prog 198 #[.pointer (some ⟨B, 0, none⟩), .func (.func F) #[] #[], .string ⟨tx.toArray⟩, .string ⟨ty.toArray⟩] w fun r w' => r = .returned (.string ⟨(itoa (doZ e z).1).toArray⟩) ∧ Ch w' B (doZ e z).2 ∧ Only B w w' := by
  have HCH := Lib.hid hch
  obtain ⟨k1, k2, k3⟩ := hch
  by_cases he : e = 0
  · subst he
    have hc := hop rfl
    have HC := Lib.hid hc; clear hc hop
    by_cases hz : 4096 < dl z
    · have hw : wrT z = ([], 23) := by unfold wrT; rw [if_pos hz]
      have hd : doZ 0 z = (0, 23) := by unfold doZ; rw [if_neg (by simp), if_pos hz]
      rw [hw] at HC
      rw [hd, itoa_zero]
      clear hw hd hz
      go_enter Tryz.func198, Tryz.ntmps198
      go_wp2_with fail
      refine (HC.out).mono ?_
      rintro r w1 ⟨rfl, hb1⟩
      have h1 := HCH.out.below hb1
      have H1 := Lib.hid h1
      obtain ⟨g1, g2, g3⟩ := h1
      clear k1 k2 k3
      go_wp2
      go_ret
      exact ⟨rfl, H1.out.set 23, (Only.of_below hb1).set _⟩
    · have hw : wrT z = (itoa z, 0) := by unfold wrT; rw [if_neg hz]
      have hd : doZ 0 z = (z, 0) := by unfold doZ; rw [if_neg (by simp), if_neg hz]
      rw [hw] at HC
      rw [hd]
      clear hw hd hz
      generalize itoa z = tz at *
      go_enter Tryz.func198, Tryz.ntmps198
      go_wp2_with fail
      refine (HC.out).mono ?_
      rintro r w1 ⟨rfl, hb1⟩
      have h1 := HCH.out.below hb1
      have H1 := Lib.hid h1
      obtain ⟨g1, g2, g3⟩ := h1
      clear k1 k2 k3
      go_wp2
      go_ret
      exact ⟨rfl, H1.out.set 0, (Only.of_below hb1).set _⟩
  · have hd : doZ e z = (0, e) := by unfold doZ; rw [if_pos he]
    rw [hd, itoa_zero]
    have hne : (e != 0) = true := by simpa using he
    clear hd he hop
    go_enter Tryz.func198, Tryz.ntmps198
    go_wp2
    go_ret
    exact ⟨rfl, HCH.out, Only.refl _ _⟩
end Go.Proofs.YtbeojahilbglcaaGreatDoor
namespace Lum
def tmZ (e p q r s : Int) : Int × Int × Int := let a := doZ e (p * r); let b := doZ a.2 (q * s); (a.1, b.1, b.2)
def crZ (f : Int → Int → Int) (e p q r s : Int) : Int × Int × Int := let x := doZ e (p * s); let y := doZ x.2 (r * q); let n := doZ y.2 (f x.1 y.1); let d := doZ n.2 (q * s); (n.1, d.1, d.2)
end Lum
namespace Go.Proofs.YtbeojahilbglcaaGreatDoor
open Go.RowKit Go.Shelf Lum
open Go.Lib (decDigits itoa)
attribute [local go_sem] bs_get bs_extract_end bs_extract_from bs_extract bs_append
theorem Env.only {w w' : World} {B : Nat} (h : Env w) (ho : Only B w w') (h1 : 1 < B) (h2 : 0 < B) : Env w' := by
  have hb1 := ho.below (1 + 1) h1 h.l1
  have hb2 := ho.below (0 + 1) h2 h.l2
  exact ⟨var?_below hb1 named_pow (Nat.lt_succ_self _) h.tab, h.len.imp fun m hm => (hb2.cell (p := ⟨0, 0, none⟩) (Nat.lt_succ_self _)).trans hm, Nat.lt_of_lt_of_le h.l1 ho.size, Nat.lt_of_lt_of_le h.l2 ho.size⟩
theorem mul_enters : ∀ args w, (callFunc 199 args).run Tryz.prog w = .ok (.enter 199 args) w := enters_of Tryz.func199 (by kernel_rfl) rfl

theorem own_do_mul (B : Nat) (e x y : Int) (w : World) (hch : Ch w B e) (env : Env w) (hx : dl x ≤ 4096) (hy : dl y ≤ 4096) :
    Calls Tryz.prog 198 #[.pointer (some ⟨B, 0, none⟩), .func (.func 199) #[] #[], .string ⟨(itoa x).toArray⟩, .string ⟨(itoa y).toArray⟩] w fun r w' => r = .returned (.string ⟨(itoa (doZ e (x * y)).1).toArray⟩) ∧ Ch w' B (doZ e (x * y)).2 ∧ Only B w w' :=
  own_do 199 B e (x * y) (itoa x) (itoa y) w hch mul_enters (fun _ => own_mul x y w hx hy env)

set_option maxHeartbeats 1000000 in
theorem own_times (B : Nat) (e p q r s : Int) (w : World) (hch : Ch w B e) (env : Env w) (g1 : 1 < B) (g2 : 0 < B) (hp : dl p ≤ 4096) (hq : dl q ≤ 4096) (hr : dl r ≤ 4096) (hs : dl s ≤ 4096) :
    Calls Tryz.prog 180 #[.pointer (some ⟨B, 0, none⟩), .string ⟨(itoa p).toArray⟩, .string ⟨(itoa q).toArray⟩, .string ⟨(itoa r).toArray⟩, .string ⟨(itoa s).toArray⟩] w fun z w' => z = .returned (.tuple #[.string ⟨(itoa (tmZ e p q r s).1).toArray⟩, .string ⟨(itoa (tmZ e p q r s).2.1).toArray⟩]) ∧ Ch w' B (tmZ e p q r s).2.2 ∧ Only B w w' := by
  have h1 := own_do_mul B e p r w hch env hp hr
  have h2 := fun W (hc : Ch W B (doZ e (p * r)).2) (ev : Env W) => own_do_mul B (doZ e (p * r)).2 q s W hc ev hq hs
  have H1 := Lib.hid h1
  have H2 := Lib.hid h2
  have ENV := Lib.hid env
  clear h1 h2 hch env
  unfold tmZ
  dsimp only
  generalize doZ (doZ e (p * r)).2 (q * s) = b at *
  generalize doZ e (p * r) = a at *
  go_enter Tryz.func180, Tryz.ntmps180
  go_wp2_with fail
  refine (H1.out).mono ?_
  rintro z w1 ⟨rfl, hc1, ho1⟩
  have hh2 := H2.out w1 hc1 (ENV.out.only ho1 g1 g2)
  have HH2 := Lib.hid hh2
  have HO1 := Lib.hid ho1
  clear hh2 hc1 ho1
  go_wp2_with fail
  refine (HH2.out).mono ?_
  rintro z w2 ⟨rfl, hc2, ho2⟩
  have HR := Lib.hid (And.intro hc2 (HO1.out.trans ho2)); clear hc2 ho2
  go_wp2
  go_ret2
  exact ⟨rfl, HR.out.1, HR.out.2⟩

set_option maxHeartbeats 1000000 in
theorem own_over (B : Nat) (e p q r s : Int) (w : World) (hch : Ch w B e) (env : Env w) (g1 : 1 < B) (g2 : 0 < B) (hp : dl p ≤ 4096) (hq : dl q ≤ 4096) (hr : dl r ≤ 4096) (hs : dl s ≤ 4096) :
    Calls Tryz.prog 181 #[.pointer (some ⟨B, 0, none⟩), .string ⟨(itoa p).toArray⟩, .string ⟨(itoa q).toArray⟩, .string ⟨(itoa r).toArray⟩, .string ⟨(itoa s).toArray⟩] w fun z w' => z = .returned (.tuple #[.string ⟨(itoa (tmZ e p q s r).1).toArray⟩, .string ⟨(itoa (tmZ e p q s r).2.1).toArray⟩]) ∧ Ch w' B (tmZ e p q s r).2.2 ∧ Only B w w' := by
  have h1 := own_times B e p q s r w hch env g1 g2 hp hq hs hr
  have H1 := Lib.hid h1; clear h1 hch
  generalize tmZ e p q s r = t at *
  go_enter Tryz.func181, Tryz.ntmps181
  go_wp2_with fail
  refine (H1.out).mono ?_
  rintro z w1 ⟨rfl, hc1, ho1⟩
  have HR := Lib.hid (And.intro hc1 ho1); clear hc1 ho1
  go_wp2
  go_ret2
  exact ⟨rfl, HR.out.1, HR.out.2⟩

set_option maxHeartbeats 2000000 in
theorem own_cross (F : FuncId) (f : Int → Int → Int) (B b1 : Nat) (e p q r s : Int) (w : World) (hch : Ch w B e) (env : Env w) (g1 : 1 < B) (g2 : 0 < B) (hp : dl p ≤ 4096) (hq : dl q ≤ 4096) (hr : dl r ≤ 4096) (hs : dl s ≤ 4096)
    (hb1 : w.cell? ⟨b1, 0, none⟩ = some (.func (.func F) #[] #[])) (hne : b1 ≠ B)
    (hF : ∀ args w, (callFunc F args).run Tryz.prog w = .ok (.enter F args) w)
    (hop : ∀ x y W, dl x ≤ 4096 → dl y ≤ 4096 → Env W → Calls Tryz.prog F #[.string ⟨(itoa x).toArray⟩, .string ⟨(itoa y).toArray⟩] W fun e w' => e = .returned (.tuple #[.string ⟨(wrT (f x y)).1.toArray⟩, .int .i64 (wrT (f x y)).2]) ∧ Below W.heap.size W w') :
    Calls Tryz.prog 206 #[.pointer (some ⟨B, 0, none⟩), .string ⟨(itoa p).toArray⟩, .string ⟨(itoa q).toArray⟩, .string ⟨(itoa r).toArray⟩, .string ⟨(itoa s).toArray⟩, .pointer (some ⟨b1, 0, none⟩)] w fun z w' => z = .returned (.tuple #[.string ⟨(itoa (crZ f e p q r s).1).toArray⟩, .string ⟨(itoa (crZ f e p q r s).2.1).toArray⟩]) ∧ Ch w' B (crZ f e p q r s).2.2 ∧ Only B w w' := by
  have hlt := World.block_lt_of_cell? w _ hb1
  have h1 := own_do_mul B e p s w hch env hp hs
  have d1 := doZ_dl e (p * s)
  have h2 := fun W (hc : Ch W B (doZ e (p * s)).2) (ev : Env W) => own_do_mul B (doZ e (p * s)).2 r q W hc ev hr hq
  have d2 := doZ_dl (doZ e (p * s)).2 (r * q)
  have h3 := fun W (hc : Ch W B (doZ (doZ e (p * s)).2 (r * q)).2) (ev : Env W) => own_do F B (doZ (doZ e (p * s)).2 (r * q)).2 (f (doZ e (p * s)).1 (doZ (doZ e (p * s)).2 (r * q)).1) _ _ W hc hF (fun _ => hop _ _ W d1 d2 ev)
  have h4 := fun W (hc : Ch W B (doZ (doZ (doZ e (p * s)).2 (r * q)).2 (f (doZ e (p * s)).1 (doZ (doZ e (p * s)).2 (r * q)).1)).2) (ev : Env W) => own_do_mul B _ q s W hc ev hq hs
  have H1 := Lib.hid h1
  have H2 := Lib.hid h2
  have H3 := Lib.hid h3
  have H4 := Lib.hid h4
  have ENV := Lib.hid env
  have HC := Lib.hid hb1
  clear h1 h2 h3 h4 hch env hop d1 d2 hF hb1
  unfold crZ
  dsimp only
  generalize doZ (doZ (doZ (doZ e (p * s)).2 (r * q)).2 (f (doZ e (p * s)).1 (doZ (doZ e (p * s)).2 (r * q)).1)).2 (q * s) = d4 at *
  generalize doZ (doZ (doZ e (p * s)).2 (r * q)).2 (f (doZ e (p * s)).1 (doZ (doZ e (p * s)).2 (r * q)).1) = d3 at *
  generalize doZ (doZ e (p * s)).2 (r * q) = d2 at *
  generalize doZ e (p * s) = d1 at *
  go_enter Tryz.func206, Tryz.ntmps206
  go_wp2_with fail
  refine (H1.out).mono ?_
  rintro z w1 ⟨rfl, hc1, ho1⟩
  have hh2 := H2.out w1 hc1 (ENV.out.only ho1 g1 g2)
  have HH2 := Lib.hid hh2
  have HO1 := Lib.hid ho1
  clear hh2 hc1 ho1
  go_wp2_with fail
  refine (HH2.out).mono ?_
  rintro z w2 ⟨rfl, hc2, ho2⟩
  have HO2 := Lib.hid (HO1.out.trans ho2)
  have hh3 := H3.out w2 hc2 (ENV.out.only HO2.out g1 g2)
  have HH3 := Lib.hid hh3
  have k1 : w2.cell? ⟨b1, 0, none⟩ = some (.func (.func F) #[] #[]) := (HO2.out.cell hlt hne).trans HC.out
  clear hh3 hc2 ho2
  go_wp2_with fail
  refine (HH3.out).mono ?_
  rintro z w3 ⟨rfl, hc3, ho3⟩
  have HO3 := Lib.hid (HO2.out.trans ho3)
  have hh4 := H4.out w3 hc3 (ENV.out.only HO3.out g1 g2)
  have HH4 := Lib.hid hh4
  clear hh4 hc3 ho3 k1
  go_wp2_with fail
  refine (HH4.out).mono ?_
  rintro z w4 ⟨rfl, hc4, ho4⟩
  have HR := Lib.hid (And.intro hc4 (HO3.out.trans ho4)); clear hc4 ho4
  go_wp2
  go_ret2
  exact ⟨rfl, HR.out.1, HR.out.2⟩
end Go.Proofs.YtbeojahilbglcaaGreatDoor

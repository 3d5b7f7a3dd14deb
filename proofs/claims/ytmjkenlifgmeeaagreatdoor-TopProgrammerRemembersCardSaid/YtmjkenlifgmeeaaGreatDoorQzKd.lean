/-
  
-/
import Derived.Test.YtmjkenlifgmeeaaGreatDoorQzKa
import Derived.Test.YtmjkenlifgmeeaaGreatDoorQzMe
import Derived.Deep.QuietTactic
import Derived.BigQuiet
set_option linter.unusedVariables false
set_option linter.unusedSimpArgs false
set_option maxHeartbeats 2000000
set_option maxRecDepth 100000
namespace Lum
open Go Go.RowKit Go.Shelf
open Go.Lib (decDigits itoa)
theorem shaped_bare (l:Txt) (c:UInt8) (r:Txt) (h:body l = c :: r) (hd:(c :: r).all isDig = true):shaped l = (decide (c ≠ 48) || decide (l = [48])):=by
  have hcan:canon (body l) = decide (c ≠ 48 ∨ r = []):=by
    rw [Bool.eq_iff_iff,canon_iff,h,decide_eq_true_eq]
    constructor
    · rintro ⟨_,_,h1⟩
      rcases h1 with h1 | h1
      · exact .inl (by simpa using h1)
      · injection h1 with h2 h3;exact .inr h3
    · intro h1
      refine ⟨by simp,hd,?_⟩
      by_cases hc:c = 48
      · rcases h1 with h1 | h1
        · exact absurd hc h1
        · right;rw [hc,h1]
      · left;simpa using hc
  have hh:((body l).head? == some 48) = decide (c = 48):=by rw [h];simp [Bool.beq_eq_decide_eq]
  unfold shaped
  rw [hcan,hh]
  by_cases hc:c = 48
  · subst hc
    cases l with
    | nil => simp [body] at h
    | cons a t =>
      by_cases ha:a = 45
      · subst ha
        have hm:minus (45 :: t) = true:=by simp [minus]
        rw [hm];simp
      · have hm:minus (a :: t) = false:=by simp [minus,ha]
        have hb:body (a :: t) = a :: t:=body_no _ hm
        rw [hb] at h
        injection h with h1 h2
        subst h1 h2
        rw [hm];simp
  · simp [hc]
theorem shaped_other (l:Txt) (h:body l = [] ∨ (body l).all isDig = false):shaped l = false:=by
  unfold shaped
  have:canon (body l) = false:=by
    rw [Bool.eq_false_iff]
    intro hc
    rw [canon_iff] at hc
    rcases h with h | h
    · exact hc.1 h
    · rw [hc.2.1] at h;cases h
  rw [this];rfl
end Lum
namespace Go.Proofs.YtmjkenlifgmeeaaGreatDoor
open Go.RowKit Go.Shelf Lum
open Go.Lib (decDigits itoa)
attribute [local go_sem] bs_get bs_extract_end bs_extract_from bs_extract bs_append
theorem own_parts (l : Txt) (w : World) (hl : l.length ≤ 1000000) (env : Env w) :
    Calls Tryz.prog 69 #[.string ⟨l.toArray⟩] w fun e w' => e = .returned (.tuple #[.string ⟨(top l).toArray⟩,.string ⟨(bot l).toArray⟩,.bool (hasSlash l)]) ∧ Below w.heap.size w w':=by
  have hc:=sh_cut ⟨l.toArray⟩ ⟨#[47]⟩ w env (by simp [ByteArray.size];omega)
  simp only [cut_slash] at hc
  cases hs:hasSlash l with
  | false =>
    rw [hs] at hc
    have HC:=Lib.hid hc;clear hc
    have h1:=top_noslash l hs
    have h2:=bot_noslash l hs
    rw [h1,h2]
    clear h1 h2 hs
    go_enter Tryz.func69,Tryz.ntmps69
    go_wp2_with fail
    refine (HC.out).mono ?_
    rintro e w' ⟨rfl,hb⟩
    go_wp2
    go_ret3
    exact ⟨rfl,hb⟩
  | true =>
    rw [hs] at hc
    have HC:=Lib.hid hc;clear hc hs
    generalize top l = tl at *
    generalize bot l = bl at *
    go_enter Tryz.func69,Tryz.ntmps69
    go_wp2_with fail
    refine (HC.out).mono ?_
    rintro e w' ⟨rfl,hb⟩
    go_wp2
    go_ret3
    exact ⟨rfl,hb⟩
theorem own_digits (l : Txt) (w : World) :
    Calls Tryz.prog 136 #[.string ⟨l.toArray⟩] w fun e w' => e = .returned (.string ⟨(body l).toArray⟩) ∧ w = w':=by
  have hc:=sh_trimPrefix ⟨l.toArray⟩ ⟨#[45]⟩ w
  simp only [trimPrefix_minus] at hc
  have HC:=Lib.hid hc;clear hc
  go_enter Tryz.func136,Tryz.ntmps136
  go_wp2_with fail
  refine (HC.out).mono ?_
  rintro e w' ⟨rfl,rfl⟩
  go_wp2
  go_ret
  exact ⟨rfl,rfl⟩
theorem own_canonical (l : Txt) (w : World) (hl : l.length ≤ 1000000) :
    Calls Tryz.prog 135 #[.string ⟨l.toArray⟩] w fun e w' => e = .returned (.bool (shaped l)) ∧ Below w.heap.size w w':=by
  have hd:=own_digits l w
  have hbl:=body_le l
  cases hb:body l with
  | nil =>
    have hv:=shaped_other l (.inl hb)
    rw [hb] at hd
    have HD:=Lib.hid hd;clear hd
    have HV:=Lib.hid hv;clear hv hb
    go_enter Tryz.func135,Tryz.ntmps135
    go_wp2_with fail
    refine (HD.out).mono ?_
    rintro e w' ⟨rfl,rfl⟩
    go_wp2
    go_ret
    exact ⟨ret_bool HV.out.symm,Below.refl _ _⟩
  | cons c r =>
    rw [hb] at hd hbl
    have HD:=Lib.hid hd;clear hd
    by_cases ha:(c :: r).all isDig = true
    · have hv:=shaped_bare l c r hb ha
      have HV:=Lib.hid hv;clear hv hb
      have hT:=fun W => sh_trim_yes (c :: r) W (by omega) ha
      have HT:=Lib.hid hT;clear hT ha
      by_cases hc:c = 48
      · have hc8:((c.toNat:Int) != 48) = false:=by rw [hc];rfl
        have HC:=Lib.hid hc;clear hc
        by_cases h0:l = [48]
        all_goals
          have hz:(l == [48]) = decide (l = [48]):=by rw [Bool.beq_eq_decide_eq]
          have H0:=Lib.hid h0
          have HZ:=Lib.hid hz;clear hz h0
          go_enter Tryz.func135,Tryz.ntmps135
          go_wp2_with fail
          refine (HD.out).mono ?_
          rintro e w' ⟨rfl,rfl⟩
          go_wp2_with fail
          refine (HT.out _).mono ?_
          rintro e w5 ⟨rfl,hb5⟩
          go_wp2
          go_ret
          exact ⟨ret_bool (by rw [HV.out,HC.out,← HZ.out];simp),hb5⟩
      · have hc8:((c.toNat:Int) != 48) = true:=by
          rw [bne_iff_ne]
          intro h
          exact hc (UInt8.toNat.inj (show c.toNat = (48:UInt8).toNat by simp;omega))
        have HC:=Lib.hid hc;clear hc
        go_enter Tryz.func135,Tryz.ntmps135
        go_wp2_with fail
        refine (HD.out).mono ?_
        rintro e w' ⟨rfl,rfl⟩
        go_wp2_with fail
        refine (HT.out _).mono ?_
        rintro e w5 ⟨rfl,hb5⟩
        go_wp2
        go_ret
        exact ⟨ret_bool (by rw [HV.out];simp [HC.out]),hb5⟩
    · have hv:=shaped_other l (.inr (by rw [hb];simpa using ha))
      have HV:=Lib.hid hv;clear hv hb
      have hT:=fun W => sh_trim_no (c :: r) W (by omega) (by simpa using ha)
      have HT:=Lib.hid hT;clear hT ha
      go_enter Tryz.func135,Tryz.ntmps135
      go_wp2_with fail
      refine (HD.out).mono ?_
      rintro e w' ⟨rfl,rfl⟩
      go_wp2_with fail
      refine (HT.out _).mono ?_
      rintro e w5 ⟨c2,r2,rfl,hb5⟩
      go_wp2
      go_ret
      exact ⟨ret_bool HV.out.symm,hb5⟩
theorem own_coprime (x y : Int) (w : World) (hx : dl x ≤ 4096) (hy : dl y ≤ 4096) (env : Env w) :
    Calls Tryz.prog 137 #[.string ⟨(itoa x).toArray⟩,.string ⟨(itoa y).toArray⟩] w fun e w' => e = .returned (.tuple #[.bool (decide (Nat.gcd x.natAbs y.natAbs = 1)),.int .i64 0]) ∧ Below w.heap.size w w':=by
  have hg:=own_gcd x y w hx hy env
  have HG:=Lib.hid hg;clear hg
  have hz:(decDigits (Nat.gcd x.natAbs y.natAbs) == [49]) = decide (Nat.gcd x.natAbs y.natAbs = 1):=by
    rw [Bool.eq_iff_iff,beq_iff_eq,decide_eq_true_eq];exact dec_eq_one _
  have HZ:=Lib.hid hz;clear hz
  generalize itoa x = tx at *
  generalize itoa y = ty at *
  generalize decDigits (Nat.gcd x.natAbs y.natAbs) = dg at *
  go_enter Tryz.func137,Tryz.ntmps137
  go_wp2_with fail
  refine (HG.out).mono ?_
  rintro e w' ⟨rfl,hb⟩
  go_wp2
  go_ret2
  exact ⟨by rw [← HZ.out];rfl,hb⟩
end Go.Proofs.YtmjkenlifgmeeaaGreatDoor
namespace Lum
open Go Go.RowKit Go.Shelf
open Go.Lib (decDigits itoa)
theorem den_text (q:Int) (hq:1 < q):∃ c r,itoa q = c :: r ∧ ((c.toNat:Int) == 45) = false ∧ (c :: r:Txt) ≠ [48] ∧ (c :: r:Txt) ≠ [49] ∧ (c :: r).length = dl q:=by
  obtain ⟨n,rfl⟩:∃ n:Nat,q = n:=⟨q.toNat,by omega⟩
  rw [itoa_nat]
  have h1:=dec_head_ne45 n
  have h2:(decDigits n).length = dl (n:Int):=by unfold dl;simp
  have h3:decDigits n ≠ [48]:=fun h => by have:=(dec_eq_zero n).1 h;omega
  have h4:decDigits n ≠ [49]:=fun h => by have:=(dec_eq_one n).1 h;omega
  cases hd:decDigits n with
  | nil => exact absurd hd (dec_ne n)
  | cons c r =>
    rw [hd] at h1 h2 h3 h4
    refine ⟨c,r,rfl,?_,h3,h4,h2⟩
    rw [beq_eq_false_iff_ne]
    intro e
    apply h1
    have:c = 45:=UInt8.toNat.inj (show c.toNat = (45:UInt8).toNat by simp;omega)
    rw [this];rfl
end Lum
namespace Go.Proofs.YtmjkenlifgmeeaaGreatDoor
open Go.RowKit Go.Shelf Lum
open Go.Lib (decDigits itoa)
attribute [local go_sem] bs_get bs_extract_end bs_extract_from bs_extract bs_append
theorem own_rcheck_bad (l : Txt) (w : World) (hl : l.length ≤ 100000) (env : Env w) (h : shaped (top l) = false ∨ shaped (bot l) = false ∨ (hasSlash l = true ∧ zOf (bot l) ≤ 1)) :
    Calls Tryz.prog 104 #[.string ⟨l.toArray⟩] w fun e w' => e = .returned (.int .i64 3) ∧ Below w.heap.size w w':=by
  have hP:=own_parts l w (by omega) env
  have htl:=top_le l
  have hbl:=bot_le l
  have sT:=fun W => own_canonical (top l) W (by omega)
  have sB:=fun W => own_canonical (bot l) W (by omega)
  cases h1:shaped (top l) with
  | false =>
    rw [h1] at sT
    have HP:=Lib.hid hP;clear hP
    have HT:=Lib.hid sT;clear sT sB h h1
    generalize top l = tl at *
    generalize bot l = bl at *
    go_enter Tryz.func104,Tryz.ntmps104
    go_wp2_with fail
    refine (HP.out).mono ?_
    rintro e w1 ⟨rfl,hb1⟩
    go_wp2_with fail
    refine (HT.out _).mono ?_
    rintro e w2 ⟨rfl,hb2⟩
    go_wp2
    go_ret
    exact ⟨rfl,bch' hb1 hb2⟩
  | true =>
    rw [h1] at sT
    cases h2:shaped (bot l) with
    | false =>
      rw [h2] at sB
      have HP:=Lib.hid hP;clear hP
      have HT:=Lib.hid sT;clear sT
      have HB:=Lib.hid sB;clear sB h h1 h2
      generalize top l = tl at *
      generalize bot l = bl at *
      go_enter Tryz.func104,Tryz.ntmps104
      go_wp2_with fail
      refine (HP.out).mono ?_
      rintro e w1 ⟨rfl,hb1⟩
      go_wp2_with fail
      refine (HT.out _).mono ?_
      rintro e w2 ⟨rfl,hb2⟩
      go_wp2_with fail
      refine (HB.out _).mono ?_
      rintro e w3 ⟨rfl,hb3⟩
      go_wp2
      go_ret
      exact ⟨rfl,bch' (bch' hb1 hb2) hb3⟩
    | true =>
      rw [h2] at sB
      have h3:hasSlash l = true ∧ zOf (bot l) ≤ 1:=by
        rcases h with h | h | h
        · rw [h1] at h;cases h
        · rw [h2] at h;cases h
        · exact h
      have hq:=itoa_zOf (bot l) h2
      rw [h3.1] at hP
      have hb:(∃ r,bot l = 45 :: r) ∨ bot l = [48] ∨ bot l = [49]:=by
        have:=h3.2
        rw [← hq]
        rcases Int.lt_or_le (zOf (bot l)) 0 with hz | hz
        · left
          refine ⟨decDigits (zOf (bot l)).natAbs,?_⟩
          conv => lhs;rw [show zOf (bot l) = -((zOf (bot l)).natAbs:Int) by omega]
          rw [itoa_negsucc _ (by omega)]
        · rcases (show zOf (bot l) = 0 ∨ zOf (bot l) = 1 by omega) with h | h
          · right;left;rw [h,itoa_zero]
          · right;right;rw [h,itoa_one]
      have HP:=Lib.hid hP;clear hP
      have HT:=Lib.hid sT;clear sT
      have HB:=Lib.hid sB;clear sB h h1 h2 h3 hq
      generalize top l = tl at *
      generalize bot l = bl at *
      rcases hb with ⟨r,rfl⟩ | rfl | rfl
      all_goals
        go_enter Tryz.func104,Tryz.ntmps104
        go_wp2_with fail
        refine (HP.out).mono ?_
        rintro e w1 ⟨rfl,hb1⟩
        go_wp2_with fail
        refine (HT.out _).mono ?_
        rintro e w2 ⟨rfl,hb2⟩
        go_wp2_with fail
        refine (HB.out _).mono ?_
        rintro e w3 ⟨rfl,hb3⟩
        go_wp2
        go_ret
        exact ⟨rfl,bch' (bch' hb1 hb2) hb3⟩
theorem own_rcheck_good (l : Txt) (p q : Int) (w : World) (hl : l.length ≤ 100000) (env : Env w) (hp : top l = itoa p) (hq : bot l = itoa q) (h1 : hasSlash l = true → 1 < q) (h0 : hasSlash l = false → q = 1) :
    Calls Tryz.prog 104 #[.string ⟨l.toArray⟩] w fun e w' => e = .returned (.int .i64 (if 4096 < dl p ∨ 4096 < dl q then 23 else if Nat.gcd p.natAbs q.natAbs = 1 then 0 else 3)) ∧ Below w.heap.size w w':=by
  have hP:=own_parts l w (by omega) env
  have htl:=top_le l
  have hbl:=bot_le l
  have sT:=fun W => own_canonical (top l) W (by omega)
  have sB:=fun W => own_canonical (bot l) W (by omega)
  rw [hp] at hP sT htl
  rw [hq] at hP sB hbl
  simp only [shaped_itoa] at sT sB
  have hD:=fun W => own_digits (itoa p) W
  rw [body_itoa] at hD
  have hdl:(decDigits p.natAbs).length = dl p:=rfl
  have HT:=Lib.hid sT;clear sT
  have HB:=Lib.hid sB;clear sB
  have HD:=Lib.hid hD;clear hD
  obtain ⟨cg,hcg⟩:∃ cg,cg = decide (Nat.gcd p.natAbs q.natAbs = 1):=⟨_,rfl⟩
  have hC:∀ (hx:dl p ≤ 4096) (hy:dl q ≤ 4096) (W:World) (e:Env W),Calls Tryz.prog 137 #[.string ⟨(itoa p).toArray⟩,.string ⟨(itoa q).toArray⟩] W fun e w' => e = .returned (.tuple #[.bool cg,.int .i64 0]) ∧ Below W.heap.size W w':=fun hx hy W e => by rw [hcg];exact own_coprime p q W hx hy e
  have HC:=Lib.hid hC;clear hC hp hq
  have HG:Hid (Nat.gcd p.natAbs q.natAbs = 1 ↔ cg = true):=by show _ ↔ _;rw [hcg];simp
  clear hcg
  obtain ⟨c,r,hcr,hql,hsl⟩:∃ c r,itoa q = c :: r ∧ (c :: r).length = dl q ∧ (hasSlash l = true → ((c.toNat:Int) == 45) = false ∧ (c :: r:Txt) ≠ [48] ∧ (c :: r:Txt) ≠ [49]):=by
    cases hs:hasSlash l with
    | true =>
      obtain ⟨c,r,e1,e2,e3,e4,e5⟩:=den_text q (h1 hs)
      exact ⟨c,r,e1,e5,fun _ => ⟨e2,e3,e4⟩⟩
    | false =>
      have:=h0 hs
      subst this
      refine ⟨49,[],itoa_one,?_,fun h => by cases h⟩
      unfold dl;rw [show (1:Int).natAbs = 1 from rfl,dec_small (by omega)];rfl
  rw [hcr] at hP HB HC hbl
  generalize itoa p = tp at *
  generalize decDigits p.natAbs = dp at *
  have hif:(if Nat.gcd p.natAbs q.natAbs = 1 then (0:Int) else 3) = if cg = true then 0 else 3:=by
    by_cases h:cg = true
    · rw [if_pos h,if_pos (HG.out.2 h)]
    · rw [if_neg h,if_neg (fun h2 => h (HG.out.1 h2))]
  rw [hif]
  clear h1 h0 hcr hif HG
  rw [← hdl,← hql]
  rw [← hdl,← hql] at HC
  clear hdl hql
  obtain ⟨v,hv⟩:∃ v:Int,v = if 4096 < dp.length ∨ 4096 < (c :: r).length then 23 else if cg = true then 0 else 3:=⟨_,rfl⟩
  rw [← hv]
  have HV:=Lib.hid hv;clear hv
  cases hs:hasSlash l <;> rw [hs] at hP hsl
  · have HP:=Lib.hid hP;clear hP hsl hs
    go_enter Tryz.func104,Tryz.ntmps104
    go_wp2_with fail
    refine (HP.out).mono ?_
    rintro e w1 ⟨rfl,hb1⟩
    go_wp2_with fail
    refine (HT.out _).mono ?_
    rintro e w2 ⟨rfl,hb2⟩
    go_wp2_with fail
    refine (HB.out _).mono ?_
    rintro e w3 ⟨rfl,hb3⟩
    go_wp2_with fail
    refine (HD.out _).mono ?_
    rintro e w4 ⟨rfl,rfl⟩
    have HB3:=Lib.hid (bch' (bch' hb1 hb2) hb3);clear hb1 hb2 hb3
    by_cases h4:4096 < dp.length ∨ 4096 < (c :: r).length
    · have HV4:Hid (v = 23):=by show _ = _;rw [HV.out,if_pos h4]
      have h5:(4096:Int) < (dp.length:Int) ∨ (dp.length:Int) ≤ 4096:=by omega
      simp only [List.length_cons] at h4
      rcases h5 with h5 | h5
      · clear h4
        go_wp2
        go_ret
        exact ⟨ret_int HV4.out.symm,HB3.out⟩
      · have h6:(4096:Int) < ((r.length:Int) + 1):=by omega
        clear h4
        go_wp2
        go_ret
        exact ⟨ret_int HV4.out.symm,HB3.out⟩
    · have HV4:Hid (v = if cg = true then 0 else 3):=by show _ = _;rw [HV.out,if_neg h4]
      have hc:=HC.out (by omega) (by omega) _ (env.below HB3.out)
      have HC2:=Lib.hid hc;clear hc HC
      simp only [List.length_cons] at h4
      have h5:¬ (4096:Int) < (dp.length:Int):=by omega
      have h6:¬ (4096:Int) < ((r.length:Int) + 1):=by omega
      clear h4
      cases cg
      all_goals
        go_wp2_with fail
        refine (HC2.out).mono ?_
        rintro e w5 ⟨rfl,hb5⟩
        go_wp2
        go_ret
        exact ⟨ret_int HV4.out.symm,bch' HB3.out hb5⟩
  · have HP:=Lib.hid hP;clear hP
    obtain ⟨hc45,hne0,hne1⟩:=hsl rfl
    have hz0:((c :: r:Txt) == [48]) = false:=by rw [beq_eq_false_iff_ne];exact hne0
    have hz1:((c :: r:Txt) == [49]) = false:=by rw [beq_eq_false_iff_ne];exact hne1
    clear hsl hs hne0 hne1
    go_enter Tryz.func104,Tryz.ntmps104
    go_wp2_with fail
    refine (HP.out).mono ?_
    rintro e w1 ⟨rfl,hb1⟩
    go_wp2_with fail
    refine (HT.out _).mono ?_
    rintro e w2 ⟨rfl,hb2⟩
    go_wp2_with fail
    refine (HB.out _).mono ?_
    rintro e w3 ⟨rfl,hb3⟩
    go_wp2_with fail
    refine (HD.out _).mono ?_
    rintro e w4 ⟨rfl,rfl⟩
    have HB3:=Lib.hid (bch' (bch' hb1 hb2) hb3);clear hb1 hb2 hb3
    by_cases h4:4096 < dp.length ∨ 4096 < (c :: r).length
    · have HV4:Hid (v = 23):=by show _ = _;rw [HV.out,if_pos h4]
      have h5:(4096:Int) < (dp.length:Int) ∨ (dp.length:Int) ≤ 4096:=by omega
      simp only [List.length_cons] at h4
      rcases h5 with h5 | h5
      · clear h4
        go_wp2
        go_ret
        exact ⟨ret_int HV4.out.symm,HB3.out⟩
      · have h6:(4096:Int) < ((r.length:Int) + 1):=by omega
        clear h4
        go_wp2
        go_ret
        exact ⟨ret_int HV4.out.symm,HB3.out⟩
    · have HV4:Hid (v = if cg = true then 0 else 3):=by show _ = _;rw [HV.out,if_neg h4]
      have hc:=HC.out (by omega) (by omega) _ (env.below HB3.out)
      have HC2:=Lib.hid hc;clear hc HC
      simp only [List.length_cons] at h4
      have h5:¬ (4096:Int) < (dp.length:Int):=by omega
      have h6:¬ (4096:Int) < ((r.length:Int) + 1):=by omega
      clear h4
      cases cg
      all_goals
        go_wp2_with fail
        refine (HC2.out).mono ?_
        rintro e w5 ⟨rfl,hb5⟩
        go_wp2
        go_ret
        exact ⟨ret_int HV4.out.symm,bch' HB3.out hb5⟩
end Go.Proofs.YtmjkenlifgmeeaaGreatDoor
namespace Lum
open Go Go.RowKit Go.Shelf
open Go.Lib (decDigits itoa)
def checkAll : List Txt → Int
  | [] => 0
  | l :: r => if ratCheck l ≠ 0 then ratCheck l else checkAll r
theorem checkAll_drop (ls:List Txt) (k:Nat) (h:k < ls.length):checkAll (ls.drop k) = if ratCheck (ls[k]?.getD []) ≠ 0 then ratCheck (ls[k]?.getD []) else checkAll (ls.drop (k + 1)):=by
  rw [List.drop_eq_getElem_cons h,List.getElem?_eq_getElem h];rfl
theorem checkAll_two (a b:Txt):checkAll [a,b] = checkTwo a b:=by
  unfold checkAll checkAll checkAll checkTwo
  by_cases ha:ratCheck a ≠ 0
  · rw [if_pos ha,if_pos ha]
  · rw [if_neg ha,if_neg ha]
    by_cases hb:ratCheck b ≠ 0
    · rw [if_pos hb]
    · rw [if_neg hb];omega
end Lum
namespace Go.Proofs.YtmjkenlifgmeeaaGreatDoor
open Go.RowKit Go.Shelf Lum
open Go.Lib (decDigits itoa)
attribute [local go_sem] bs_get bs_extract_end bs_extract_from bs_extract bs_append
theorem own_rcheck (l : Txt) (w : World) (hl : l.length ≤ 100000) (env : Env w) :
    Calls Tryz.prog 104 #[.string ⟨l.toArray⟩] w fun e w' => e = .returned (.int .i64 (ratCheck l)) ∧ Below w.heap.size w w':=by
  by_cases h:shaped (top l) = false ∨ shaped (bot l) = false ∨ (hasSlash l = true ∧ zOf (bot l) ≤ 1)
  · have e:ratCheck l = 3:=by rw [ratCheck,if_pos h]
    rw [e]
    exact own_rcheck_bad l w hl env h
  · have h':=h
    simp only [not_or,Bool.not_eq_false,not_and,Int.not_le] at h'
    obtain ⟨a1,a2,a3⟩:=h'
    have b1:=itoa_zOf _ a1
    have b2:=itoa_zOf _ a2
    have hg:=own_rcheck_good l (zOf (top l)) (zOf (bot l)) w hl env b1.symm b2.symm a3 (fun hs => by rw [bot_noslash l hs];decide)
    have e:ratCheck l = if 4096 < dl (zOf (top l)) ∨ 4096 < dl (zOf (bot l)) then 23 else if Nat.gcd (zOf (top l)).natAbs (zOf (bot l)).natAbs = 1 then 0 else 3:=by
      rw [ratCheck,if_neg h,long_dl,long_dl]
      simp only [decide_eq_true_eq]
      by_cases h4:4096 < dl (zOf (top l)) ∨ 4096 < dl (zOf (bot l))
      · rw [if_pos h4,if_pos h4]
      · rw [if_neg h4,if_neg h4]
        by_cases h5:Nat.gcd (zOf (top l)).natAbs (zOf (bot l)).natAbs = 1
        · rw [if_neg (by simpa using h5),if_pos h5]
        · rw [if_pos h5,if_neg h5]
    rw [e]
    exact hg
theorem own_checks (ls : List Txt) (b : Nat) (w : World) (env : Env w) (hn : ls.length ≤ 100) (hl : ∀ l ∈ ls, l.length ≤ 100000) (hb : b < w.heap.size) (hc : ∀ j, j < ls.length → w.cell? ⟨b, j, none⟩ = some (.string ⟨(ls[j]?.getD []).toArray⟩)) :
    Calls Tryz.prog 138 #[.slice (some ⟨b,0,none⟩) ls.length ls.length] w fun e w' => e = .returned (.int .i64 (checkAll ls)) ∧ Below w.heap.size w w':=by
  have hK:∀ W k,Below w.heap.size w W → k < ls.length → Calls Tryz.prog 104 #[.string ⟨(ls[k]?.getD []).toArray⟩] W fun e w' => e = .returned (.int .i64 (ratCheck (ls[k]?.getD []))) ∧ Below W.heap.size W w':=fun W k hB hk =>
    own_rcheck _ W (by rw [List.getElem?_eq_getElem hk];exact hl _ (List.getElem_mem hk)) (env.below hB)
  have HK:=Lib.hid hK;clear hK
  have HCE:=Lib.hid hc;clear hc hl
  obtain ⟨v,hv⟩:∃ v,v = checkAll ls:=⟨_,rfl⟩
  rw [← hv]
  have HV:=Lib.hid hv;clear hv
  go_enter Tryz.func138,Tryz.ntmps138
  go_wp2
  go_loopw [4,5,8] (fun _ _ i wr => ∃ k:Nat,k ≤ ls.length ∧ i = .int .i64 k ∧ Hid (v = checkAll (ls.drop k)) ∧ Below w.heap.size w wr) (fun _ _ i _ => ls.length - (intOf i).toNat)
  case atStart => exact ⟨0,by omega,rfl,HV.out,Below.refl _ _⟩
  case round =>
    obtain ⟨k,hk,rfl,HD,hB⟩:=hrel
    by_cases hlt:k < ls.length
    · have hcx:wr.cell? ⟨b,k,none⟩ = some (.string ⟨(ls[k]?.getD []).toArray⟩):=(hB.cell (p:=⟨b,k,none⟩) hb).trans (HCE.out k hlt)
      have hkk:=HK.out wr k hB hlt
      have hstep:=checkAll_drop ls k hlt
      generalize ls[k]?.getD [] = t at *
      by_cases ht:ratCheck t = 0
      · rw [if_neg (by simpa using ht)] at hstep
        rw [ht] at hkk
        have HS:Hid (v = checkAll (ls.drop (k + 1))):=by show _ = _;rw [HD.out,hstep]
        have HKK:=Lib.hid hkk;clear hkk hstep ht
        go_wp2_with fail
        refine (HKK.out).mono ?_
        rintro e w' ⟨rfl,hb2⟩
        have hB2:=hB.trans (hb2.mono hB.size)
        clear hB hb2
        go_wp2
        go_roundw
        case rel => exact ⟨k + 1,by omega,by go_num,HS,hB2⟩
        case measure => simp [intOf];omega
      · rw [if_pos ht] at hstep
        have HS:Hid (v = ratCheck t):=by show _ = _;rw [HD.out,hstep]
        have hne:((ratCheck t:Int) != 0) = true:=by simpa using ht
        have HKK:=Lib.hid hkk;clear hkk hstep ht
        go_wp2_with fail
        refine (HKK.out).mono ?_
        rintro e w' ⟨rfl,hb2⟩
        have HB2:=Lib.hid (hB.trans (hb2.mono hB.size))
        clear hB hb2
        go_wp2
        go_ret
        exact ⟨ret_int HS.out.symm,HB2.out⟩
    · obtain rfl:k = ls.length:=by omega
      have HS:Hid (v = 0):=by show _ = _;rw [HD.out,List.drop_length];rfl
      go_wp2
      go_ret
      exact ⟨ret_int HS.out.symm,hB⟩
end Go.Proofs.YtmjkenlifgmeeaaGreatDoor
namespace Lum
open Go Go.RowKit Go.Shelf
open Go.Lib (decDigits itoa)
structure Only (B : Nat) (w w' : World) : Prop where
  below:∀ m,m ≤ B → m ≤ w.heap.size → Below m w w'
  size:w.heap.size ≤ w'.heap.size
  blk:∀ k,k < w.heap.size → k ≠ B → w'.heap[k]? = w.heap[k]?
theorem Only.refl (B:Nat) (w:World):Only B w w:=⟨fun _ _ _ => Below.refl _ _,Nat.le_refl _,fun _ _ _ => rfl⟩
theorem Only.trans {B:Nat} {a b c:World} (h:Only B a b) (k:Only B b c):Only B a c :=
  ⟨fun m h1 h2 => (h.below m h1 h2).trans (k.below m h1 (Nat.le_trans h2 h.size)),Nat.le_trans h.size k.size,fun i h1 h2 => (k.blk i (Nat.lt_of_lt_of_le h1 h.size) h2).trans (h.blk i h1 h2)⟩
theorem Only.of_below {B:Nat} {w w':World} (h:Below w.heap.size w w'):Only B w w':=⟨fun m _ h2 => h.mono h2,h.size,fun k hk _ => h.block k hk⟩
theorem Only.set {B:Nat} {w w':World} (h:Only B w w') (v:Value):Only B w (w'.setCell ⟨B,0,none⟩ v) :=
  ⟨fun m h1 h2 => (h.below m h1 h2).setCell (p:=⟨B,0,none⟩) h1 _,by simpa [World.setCell] using h.size,fun k h1 h2 => (Below.heap_setCell _ _ _ _ h2).trans (h.blk k h1 h2)⟩
theorem Only.cell {B:Nat} {w w':World} (h:Only B w w') {b o:Nat} (hb:b < w.heap.size) (hne:b ≠ B):w'.cell? ⟨b,o,none⟩ = w.cell? ⟨b,o,none⟩:=by
  unfold World.cell?
  rw [h.blk b hb hne]
structure Ch (W : World) (B : Nat) (e : Int) : Prop where
  c:W.cell? ⟨B,0,none⟩ = some (.int .i64 e)
  f:W.frozen? ⟨B,0,none⟩ = false
  lt:B < W.heap.size
theorem Ch.below {W W':World} {B:Nat} {e:Int} (h:Ch W B e) (hb:Below W.heap.size W W'):Ch W' B e:=⟨(hb.cell (p:=⟨B,0,none⟩) h.lt).trans h.c,(hb.frozen (p:=⟨B,0,none⟩) h.lt).trans h.f,Nat.lt_of_lt_of_le h.lt hb.size⟩
theorem Ch.set {W:World} {B:Nat} {e:Int} (h:Ch W B e) (e':Int):Ch (W.setCell ⟨B,0,none⟩ (.int .i64 e')) B e' :=
  ⟨World.cell?_setCell_same _ _ _ h.c,by rw [World.frozen?_setCell];exact h.f,by simpa [World.setCell] using h.lt⟩
def doZ (e z:Int):Int × Int:=if e ≠ 0 then (0,e) else if 4096 < dl z then (0,23) else (z,0)
theorem dl_zero:dl 0 = 1:=by unfold dl;rw [show (0:Int).natAbs = 0 from rfl,dec_zero];rfl
theorem doZ_dl (e z:Int):dl (doZ e z).1 ≤ 4096:=by
  unfold doZ
  by_cases h:e ≠ 0
  · rw [if_pos h,dl_zero];omega
  · rw [if_neg h]
    by_cases h2:4096 < dl z
    · rw [if_pos h2,dl_zero];omega
    · rw [if_neg h2];exact Nat.le_of_not_lt h2
end Lum
namespace Go.Proofs.YtmjkenlifgmeeaaGreatDoor
open Go.RowKit Go.Shelf Lum
open Go.Lib (decDigits itoa)
attribute [local go_sem] bs_get bs_extract_end bs_extract_from bs_extract bs_append
theorem own_do (F : FuncId) (B : Nat) (e z : Int) (tx ty : Txt) (w : World) (hch : Ch w B e)
    (hF:∀ args w,(callFunc F args).run Tryz.prog w = .ok (.enter F args) w)
    (hop:e = 0 → Calls Tryz.prog F #[.string ⟨tx.toArray⟩,.string ⟨ty.toArray⟩] w fun e w' => e = .returned (.tuple #[.string ⟨(wrT z).1.toArray⟩,.int .i64 (wrT z).2]) ∧ Below w.heap.size w w') :
    Calls Tryz.prog 139 #[.pointer (some ⟨B,0,none⟩),.func (.func F) #[] #[],.string ⟨tx.toArray⟩,.string ⟨ty.toArray⟩] w fun r w' => r = .returned (.string ⟨(itoa (doZ e z).1).toArray⟩) ∧ Ch w' B (doZ e z).2 ∧ Only B w w':=by
  have HCH:=Lib.hid hch
  obtain ⟨k1,k2,k3⟩:=hch
  by_cases he:e = 0
  · subst he
    have hc:=hop rfl
    have HC:=Lib.hid hc;clear hc hop
    by_cases hz:4096 < dl z
    · have hw:wrT z = ([],23):=by unfold wrT;rw [if_pos hz]
      have hd:doZ 0 z = (0,23):=by unfold doZ;rw [if_neg (by simp),if_pos hz]
      rw [hw] at HC
      rw [hd,itoa_zero]
      clear hw hd hz
      go_enter Tryz.func139,Tryz.ntmps139
      go_wp2_with fail
      refine (HC.out).mono ?_
      rintro r w1 ⟨rfl,hb1⟩
      have h1:=HCH.out.below hb1
      have H1:=Lib.hid h1
      obtain ⟨g1,g2,g3⟩:=h1
      clear k1 k2 k3
      go_wp2
      go_ret
      exact ⟨rfl,H1.out.set 23,(Only.of_below hb1).set _⟩
    · have hw:wrT z = (itoa z,0):=by unfold wrT;rw [if_neg hz]
      have hd:doZ 0 z = (z,0):=by unfold doZ;rw [if_neg (by simp),if_neg hz]
      rw [hw] at HC
      rw [hd]
      clear hw hd hz
      generalize itoa z = tz at *
      go_enter Tryz.func139,Tryz.ntmps139
      go_wp2_with fail
      refine (HC.out).mono ?_
      rintro r w1 ⟨rfl,hb1⟩
      have h1:=HCH.out.below hb1
      have H1:=Lib.hid h1
      obtain ⟨g1,g2,g3⟩:=h1
      clear k1 k2 k3
      go_wp2
      go_ret
      exact ⟨rfl,H1.out.set 0,(Only.of_below hb1).set _⟩
  · have hd:doZ e z = (0,e):=by unfold doZ;rw [if_pos he]
    rw [hd,itoa_zero]
    have hne:(e != 0) = true:=by simpa using he
    clear hd he hop
    go_enter Tryz.func139,Tryz.ntmps139
    go_wp2
    go_ret
    exact ⟨rfl,HCH.out,Only.refl _ _⟩
end Go.Proofs.YtmjkenlifgmeeaaGreatDoor
namespace Lum
def tmZ (e p q r s:Int):Int × Int × Int:=let a:=doZ e (p * r);let b:=doZ a.2 (q * s);(a.1,b.1,b.2)
def crZ (f:Int → Int → Int) (e p q r s:Int):Int × Int × Int:=let x:=doZ e (p * s);let y:=doZ x.2 (r * q);let n:=doZ y.2 (f x.1 y.1);let d:=doZ n.2 (q * s);(n.1,d.1,d.2)
end Lum
namespace Go.Proofs.YtmjkenlifgmeeaaGreatDoor
open Go.RowKit Go.Shelf Lum
open Go.Lib (decDigits itoa)
attribute [local go_sem] bs_get bs_extract_end bs_extract_from bs_extract bs_append
theorem Env.only {w w':World} {B:Nat} (h:Env w) (ho:Only B w w') (h1:1 < B) (h2:0 < B):Env w':=by
  have hb1:=ho.below (1 + 1) h1 h.l1
  have hb2:=ho.below (0 + 1) h2 h.l2
  exact ⟨var?_below hb1 named_pow (Nat.lt_succ_self _) h.tab,h.len.imp fun m hm => (hb2.cell (p:=⟨0,0,none⟩) (Nat.lt_succ_self _)).trans hm,Nat.lt_of_lt_of_le h.l1 ho.size,Nat.lt_of_lt_of_le h.l2 ho.size⟩
theorem mul_enters:∀ args w,(callFunc 140 args).run Tryz.prog w = .ok (.enter 140 args) w:=enters_of Tryz.func140 (by kernel_rfl) rfl
theorem own_do_mul (B : Nat) (e x y : Int) (w : World) (hch : Ch w B e) (env : Env w) (hx : dl x ≤ 4096) (hy : dl y ≤ 4096) :
    Calls Tryz.prog 139 #[.pointer (some ⟨B,0,none⟩),.func (.func 140) #[] #[],.string ⟨(itoa x).toArray⟩,.string ⟨(itoa y).toArray⟩] w fun r w' => r = .returned (.string ⟨(itoa (doZ e (x * y)).1).toArray⟩) ∧ Ch w' B (doZ e (x * y)).2 ∧ Only B w w' :=
  own_do 140 B e (x * y) (itoa x) (itoa y) w hch mul_enters (fun _ => own_mul x y w hx hy env)
theorem own_times (B : Nat) (e p q r s : Int) (w : World) (hch : Ch w B e) (env : Env w) (g1 : 1 < B) (g2 : 0 < B) (hp : dl p ≤ 4096) (hq : dl q ≤ 4096) (hr : dl r ≤ 4096) (hs : dl s ≤ 4096) :
    Calls Tryz.prog 185 #[.pointer (some ⟨B,0,none⟩),.string ⟨(itoa p).toArray⟩,.string ⟨(itoa q).toArray⟩,.string ⟨(itoa r).toArray⟩,.string ⟨(itoa s).toArray⟩] w fun z w' => z = .returned (.tuple #[.string ⟨(itoa (tmZ e p q r s).1).toArray⟩,.string ⟨(itoa (tmZ e p q r s).2.1).toArray⟩]) ∧ Ch w' B (tmZ e p q r s).2.2 ∧ Only B w w':=by
  have h1:=own_do_mul B e p r w hch env hp hr
  have h2:=fun W (hc:Ch W B (doZ e (p * r)).2) (ev:Env W) => own_do_mul B (doZ e (p * r)).2 q s W hc ev hq hs
  have H1:=Lib.hid h1
  have H2:=Lib.hid h2
  have ENV:=Lib.hid env
  clear h1 h2 hch env
  unfold tmZ
  dsimp only
  generalize doZ (doZ e (p * r)).2 (q * s) = b at *
  generalize doZ e (p * r) = a at *
  go_enter Tryz.func185,Tryz.ntmps185
  go_wp2_with fail
  refine (H1.out).mono ?_
  rintro z w1 ⟨rfl,hc1,ho1⟩
  have hh2:=H2.out w1 hc1 (ENV.out.only ho1 g1 g2)
  have HH2:=Lib.hid hh2
  have HO1:=Lib.hid ho1
  clear hh2 hc1 ho1
  go_wp2_with fail
  refine (HH2.out).mono ?_
  rintro z w2 ⟨rfl,hc2,ho2⟩
  have HR:=Lib.hid (And.intro hc2 (HO1.out.trans ho2));clear hc2 ho2
  go_wp2
  go_ret2
  exact ⟨rfl,HR.out.1,HR.out.2⟩
theorem own_cross (F : FuncId) (f : Int → Int → Int) (B b1 : Nat) (e p q r s : Int) (w : World) (hch : Ch w B e) (env : Env w) (g1 : 1 < B) (g2 : 0 < B) (hp : dl p ≤ 4096) (hq : dl q ≤ 4096) (hr : dl r ≤ 4096) (hs : dl s ≤ 4096)
    (hb1:w.cell? ⟨b1,0,none⟩ = some (.func (.func F) #[] #[])) (hne:b1 ≠ B)
    (hF:∀ args w,(callFunc F args).run Tryz.prog w = .ok (.enter F args) w)
    (hop:∀ x y W,dl x ≤ 4096 → dl y ≤ 4096 → Env W → Calls Tryz.prog F #[.string ⟨(itoa x).toArray⟩,.string ⟨(itoa y).toArray⟩] W fun e w' => e = .returned (.tuple #[.string ⟨(wrT (f x y)).1.toArray⟩,.int .i64 (wrT (f x y)).2]) ∧ Below W.heap.size W w') :
    Calls Tryz.prog 224 #[.pointer (some ⟨B,0,none⟩),.string ⟨(itoa p).toArray⟩,.string ⟨(itoa q).toArray⟩,.string ⟨(itoa r).toArray⟩,.string ⟨(itoa s).toArray⟩,.pointer (some ⟨b1,0,none⟩)] w fun z w' => z = .returned (.tuple #[.string ⟨(itoa (crZ f e p q r s).1).toArray⟩,.string ⟨(itoa (crZ f e p q r s).2.1).toArray⟩]) ∧ Ch w' B (crZ f e p q r s).2.2 ∧ Only B w w':=by
  have hlt:=World.block_lt_of_cell? w _ hb1
  have h1:=own_do_mul B e p s w hch env hp hs
  have d1:=doZ_dl e (p * s)
  have h2:=fun W (hc:Ch W B (doZ e (p * s)).2) (ev:Env W) => own_do_mul B (doZ e (p * s)).2 r q W hc ev hr hq
  have d2:=doZ_dl (doZ e (p * s)).2 (r * q)
  have h3:=fun W (hc:Ch W B (doZ (doZ e (p * s)).2 (r * q)).2) (ev:Env W) => own_do F B (doZ (doZ e (p * s)).2 (r * q)).2 (f (doZ e (p * s)).1 (doZ (doZ e (p * s)).2 (r * q)).1) _ _ W hc hF (fun _ => hop _ _ W d1 d2 ev)
  have h4:=fun W (hc:Ch W B (doZ (doZ (doZ e (p * s)).2 (r * q)).2 (f (doZ e (p * s)).1 (doZ (doZ e (p * s)).2 (r * q)).1)).2) (ev:Env W) => own_do_mul B _ q s W hc ev hq hs
  have H1:=Lib.hid h1
  have H2:=Lib.hid h2
  have H3:=Lib.hid h3
  have H4:=Lib.hid h4
  have ENV:=Lib.hid env
  have HC:=Lib.hid hb1
  clear h1 h2 h3 h4 hch env hop d1 d2 hF hb1
  unfold crZ
  dsimp only
  generalize doZ (doZ (doZ (doZ e (p * s)).2 (r * q)).2 (f (doZ e (p * s)).1 (doZ (doZ e (p * s)).2 (r * q)).1)).2 (q * s) = d4 at *
  generalize doZ (doZ (doZ e (p * s)).2 (r * q)).2 (f (doZ e (p * s)).1 (doZ (doZ e (p * s)).2 (r * q)).1) = d3 at *
  generalize doZ (doZ e (p * s)).2 (r * q) = d2 at *
  generalize doZ e (p * s) = d1 at *
  go_enter Tryz.func224,Tryz.ntmps224
  go_wp2_with fail
  refine (H1.out).mono ?_
  rintro z w1 ⟨rfl,hc1,ho1⟩
  have hh2:=H2.out w1 hc1 (ENV.out.only ho1 g1 g2)
  have HH2:=Lib.hid hh2
  have HO1:=Lib.hid ho1
  clear hh2 hc1 ho1
  go_wp2_with fail
  refine (HH2.out).mono ?_
  rintro z w2 ⟨rfl,hc2,ho2⟩
  have HO2:=Lib.hid (HO1.out.trans ho2)
  have hh3:=H3.out w2 hc2 (ENV.out.only HO2.out g1 g2)
  have HH3:=Lib.hid hh3
  have k1:w2.cell? ⟨b1,0,none⟩ = some (.func (.func F) #[] #[]):=(HO2.out.cell hlt hne).trans HC.out
  clear hh3 hc2 ho2
  go_wp2_with fail
  refine (HH3.out).mono ?_
  rintro z w3 ⟨rfl,hc3,ho3⟩
  have HO3:=Lib.hid (HO2.out.trans ho3)
  have hh4:=H4.out w3 hc3 (ENV.out.only HO3.out g1 g2)
  have HH4:=Lib.hid hh4
  clear hh4 hc3 ho3 k1
  go_wp2_with fail
  refine (HH4.out).mono ?_
  rintro z w4 ⟨rfl,hc4,ho4⟩
  have HR:=Lib.hid (And.intro hc4 (HO3.out.trans ho4));clear hc4 ho4
  go_wp2
  go_ret2
  exact ⟨rfl,HR.out.1,HR.out.2⟩
end Go.Proofs.YtmjkenlifgmeeaaGreatDoor
set_option maxHeartbeats 4000000
set_option maxRecDepth 100000
namespace Lum
open Go Go.RowKit Go.Shelf
open Go.Instr (findNow sameNow)
theorem run_getMap {P:Program} (w:World) (r:Nat) (es:Array MapEntry) (ck:Nat) (h:w.heap[r]? = some (.map es ck)):(getObj r).run P w = .ok (.map es ck) w:=by
  simp [getObj,Sem.run,h]
theorem run_checkKey_u8 {P:Program} (w:World) (b:Bool) (t:TypeId) (ht:P.underlying t = some (.int .u8)) (v:Value):(Instr.checkKey b 10000 t v).run P w = .ok () w:=by
  unfold Instr.checkKey
  simp [go_sem,run_underlying ht]
theorem run_findKey_u8 {P:Program} (w:World) (t:TypeId) (ht:P.underlying t = some (.int .u8)) (k:Value) (es:List MapEntry) (r:Option (Nat × Value)) (h:findNow (.int .u8) k es 0 = some r):(Instr.findKey t k es).run P w = .ok r w:=by
  unfold Instr.findKey
  simp [go_sem,run_underlying ht,h]
theorem run_insert_new {P : Program} (w : World) (t kt el : TypeId) (ht : P.underlying t = some (.map kt el)) (hk : P.underlying kt = some (.int .u8)) (r : Nat) (es : Array MapEntry) (ck : Nat) (h : w.heap[r]? = some (.map es ck)) (k v : Value) (hf : findNow (.int .u8) k es.toList 0 = some none) :
    (Instr.mapUpdate t (.map (some r)) k v).run P w = .ok () (w.putObj r (.map (es.push { key:=k,val:=v,born:=ck }) (ck + 1))):=by
  unfold Instr.mapUpdate
  simp only [Sem.run_bind,run_underlying ht,Result.andThen]
  rw [run_getMap w r es ck h]
  simp only [Result.andThen,Sem.run_bind]
  rw [run_checkKey_u8 w false kt hk]
  simp only [Result.andThen]
  rw [run_findKey_u8 w kt hk k es.toList none hf]
  simp only [Result.andThen]
  simp [setObj,Sem.run,h,World.putObj]
theorem run_lookup_there {P : Program} (w : World) (t kt el : TypeId) (ht : P.underlying t = some (.map kt el)) (hk : P.underlying kt = some (.int .u8)) (r : Nat) (es : Array MapEntry) (ck : Nat) (h : w.heap[r]? = some (.map es ck)) (k v : Value) (i : Nat) (hf : findNow (.int .u8) k es.toList 0 = some (some (i, v))) :
    (Instr.lookup t (.map (some r)) k false).run P w = .ok v w:=by
  unfold Instr.lookup
  simp only [Sem.run_bind,run_underlying ht,Result.andThen]
  rw [run_getMap w r es ck h]
  simp only [Result.andThen,Sem.run_pure,Sem.run_bind]
  rw [run_checkKey_u8 w _ kt hk]
  simp only [Result.andThen]
  rw [run_findKey_u8 w kt hk k es.toList _ hf]
  rfl
theorem insert_step {P : Program} {w W : World} (hb : Below w.heap.size w W) (t kt el : TypeId) (ht : P.underlying t = some (.map kt el)) (hk : P.underlying kt = some (.int .u8)) (es : Array MapEntry) (ck : Nat) (h : W.heap[w.heap.size]? = some (.map es ck)) (k v : Value) (hf : findNow (.int .u8) k es.toList 0 = some none) :
    ∃ W',(Instr.mapUpdate t (.map (some w.heap.size)) k v).run P W = .ok () W' ∧ Below w.heap.size w W' ∧ W'.heap[w.heap.size]? = some (.map (es.push { key:=k,val:=v,born:=ck }) (ck + 1)) ∧ W'.heap.size = W.heap.size ∧ ∀ j,j ≠ w.heap.size → W'.heap[j]? = W.heap[j]? :=
  ⟨_,run_insert_new W t kt el ht hk w.heap.size es ck h k v hf,hb.grown (grownBy_putObj' W w.heap.size _) hb.size (fun k e => by cases e;exact Nat.le_refl _),World.putObj_heap_same (Array.getElem?_eq_some_iff.1 h).1,by simp [World.putObj],fun k hk => World.putObj_heap_other hk⟩
end Lum
namespace Go.Proofs.YtmjkenlifgmeeaaGreatDoor
open Go.RowKit Go.Shelf Lum
attribute [local go_sem] bs_get bs_extract_end bs_extract_from bs_extract bs_append
theorem own_crossed (F : FuncId) (w : World) :
    Calls Tryz.prog 184 #[.func (.func F) #[] #[]] w fun e w' => e = .returned (.func (.func 224) #[] #[.pointer (some ⟨w.heap.size,0,none⟩)]) ∧ w.alloc (.cells #[.func (.func F) #[] #[]] 128) = w':=by
  have hmf:∀ (fn:Fn) (first cap:Array Value) (w:World),(Instr.makeFunc fn first cap).run Tryz.prog w = .ok (.func fn first cap) w:=fun _ _ _ _ => rfl
  go_enter Tryz.func184,Tryz.ntmps184
  go_wp2
  go_ret
  exact ⟨rfl,rfl⟩
structure OpsAt (w0 W : World) (m : Value) : Prop where
  add:∃ b,w0.heap.size ≤ b ∧ W.cell? ⟨b,0,none⟩ = some (.func (.func 73) #[] #[]) ∧ (Instr.lookup 202 m (.int .u8 43) false).run Tryz.prog W = .ok (.func (.func 224) #[] #[.pointer (some ⟨b,0,none⟩)]) W
  sub:∃ b,w0.heap.size ≤ b ∧ W.cell? ⟨b,0,none⟩ = some (.func (.func 71) #[] #[]) ∧ (Instr.lookup 202 m (.int .u8 45) false).run Tryz.prog W = .ok (.func (.func 224) #[] #[.pointer (some ⟨b,0,none⟩)]) W
  mul:(Instr.lookup 202 m (.int .u8 42) false).run Tryz.prog W = .ok (.func (.func 185) #[] #[]) W
  div:(Instr.lookup 202 m (.int .u8 47) false).run Tryz.prog W = .ok (.func (.func 186) #[] #[]) W
theorem own_operations (w : World) :
    Calls Tryz.prog 141 #[] w fun e w' => ∃ m,e = .returned m ∧ OpsAt w w' m ∧ Below w.heap.size w w':=by
  have hmm:=@run_makeMap Tryz.prog
  go_enter Tryz.func141,Tryz.ntmps141
  go_wp2_with fail
  have hm1:(w.alloc (.map #[] 0)).heap[w.heap.size]? = some (.map #[] 0):=World.alloc_heap_new w _
  have hs1:(w.alloc (.map #[] 0)).heap.size = w.heap.size + 1:=World.size_alloc _ _
  have hb1:Below w.heap.size w (w.alloc (.map #[] 0)):=(Below.refl _ w).alloc (Nat.le_refl _) _
  clear hmm
  generalize w.alloc (.map #[] 0) = W1 at *
  refine (own_crossed 73 W1).mono ?_
  rintro e W2 ⟨rfl,hW2⟩
  have hb2:=hb1.alloc (by omega) (.cells #[.func (.func 73) #[] #[]] 128)
  have hs2:(W1.alloc (.cells #[.func (.func 73) #[] #[]] 128)).heap.size = w.heap.size + 2:=by rw [World.size_alloc,hs1]
  have hm2:=(Below.heap_alloc W1 (.cells #[.func (.func 73) #[] #[]] 128) w.heap.size (by omega)).trans hm1
  have hc2:=World.alloc_heap_new W1 (.cells #[.func (.func 73) #[] #[]] 128)
  rw [hs1] at hc2 ⊢
  rw [hW2] at hb2 hs2 hm2 hc2
  clear hW2 hm1 hb1 hs1
  obtain ⟨W3,hu2,hb3,hm3,hs3,ho3⟩:=insert_step hb2 202 5 _ Tryz.underlying202 Tryz.underlying5 _ _ hm2 (.int .u8 43) (.func (.func 224) #[] #[.pointer (some ⟨w.heap.size + 1,0,none⟩)]) rfl
  have hc3:=(ho3 (w.heap.size + 1) (by omega)).trans hc2
  rw [hs2] at hs3
  clear ho3 hb2 hm2 hc2 hs2
  have HM3:=Lib.hid hm3;clear hm3
  have HC3:=Lib.hid hc3;clear hc3
  have HS3:=Lib.hid hs3;clear hs3
  go_wp2_with fail
  refine (own_crossed 71 W3).mono ?_
  rintro e W4 ⟨rfl,hW4⟩
  clear hu2
  have hb4:=hb3.alloc (by have:=HS3.out;omega) (.cells #[.func (.func 71) #[] #[]] 128)
  have hs4:(W3.alloc (.cells #[.func (.func 71) #[] #[]] 128)).heap.size = w.heap.size + 3:=by rw [World.size_alloc,HS3.out]
  have hm4:=(Below.heap_alloc W3 (.cells #[.func (.func 71) #[] #[]] 128) w.heap.size (by have:=HS3.out;omega)).trans HM3.out
  have hc4:=(Below.heap_alloc W3 (.cells #[.func (.func 71) #[] #[]] 128) (w.heap.size + 1) (by have:=HS3.out;omega)).trans HC3.out
  have hd4:=World.alloc_heap_new W3 (.cells #[.func (.func 71) #[] #[]] 128)
  rw [HS3.out] at hd4 ⊢
  rw [hW4] at hb4 hs4 hm4 hc4 hd4
  clear hW4 hb3
  obtain ⟨W5,hu4,hb5,hm5,hs5,ho5⟩:=insert_step hb4 202 5 _ Tryz.underlying202 Tryz.underlying5 _ _ hm4 (.int .u8 45) (.func (.func 224) #[] #[.pointer (some ⟨w.heap.size + 2,0,none⟩)]) rfl
  have hc5:=(ho5 (w.heap.size + 1) (by omega)).trans hc4
  have hd5:=(ho5 (w.heap.size + 2) (by omega)).trans hd4
  clear ho5 hb4 hm4 hc4 hd4 hs4 hs5
  obtain ⟨W6,hu5,hb6,hm6,hs6,ho6⟩:=insert_step hb5 202 5 _ Tryz.underlying202 Tryz.underlying5 _ _ hm5 (.int .u8 42) (.func (.func 185) #[] #[]) rfl
  have hc6:=(ho6 (w.heap.size + 1) (by omega)).trans hc5
  have hd6:=(ho6 (w.heap.size + 2) (by omega)).trans hd5
  clear ho6 hb5 hm5 hc5 hd5 hs6
  obtain ⟨W7,hu6,hb7,hm7,hs7,ho7⟩:=insert_step hb6 202 5 _ Tryz.underlying202 Tryz.underlying5 _ _ hm6 (.int .u8 47) (.func (.func 186) #[] #[]) rfl
  have hc7:=(ho7 (w.heap.size + 1) (by omega)).trans hc6
  have hd7:=(ho7 (w.heap.size + 2) (by omega)).trans hd6
  clear ho7 hb6 hm6 hc6 hd6 hs7
  have hx7:OpsAt w W7 (.map (some w.heap.size)) :=
    ⟨⟨w.heap.size + 1, by omega, Lib.cell_of_heap hc7 0, run_lookup_there W7 202 5 _ Tryz.underlying202 Tryz.underlying5 w.heap.size _ _ hm7 (.int .u8 43) _ 0 rfl⟩,
     ⟨w.heap.size + 2,by omega,Lib.cell_of_heap hd7 0,run_lookup_there W7 202 5 _ Tryz.underlying202 Tryz.underlying5 w.heap.size _ _ hm7 (.int .u8 45) _ 1 rfl⟩,
     run_lookup_there W7 202 5 _ Tryz.underlying202 Tryz.underlying5 w.heap.size _ _ hm7 (.int .u8 42) _ 2 rfl,
     run_lookup_there W7 202 5 _ Tryz.underlying202 Tryz.underlying5 w.heap.size _ _ hm7 (.int .u8 47) _ 3 rfl⟩
  have HX:=Lib.hid hx7;clear hx7 hm7 hc7 hd7
  have HB7:=Lib.hid hb7;clear hb7
  go_wp2
  go_ret
  exact ⟨_,rfl,HX.out,HB7.out⟩
end Go.Proofs.YtmjkenlifgmeeaaGreatDoor
namespace Lum
open Go Go.RowKit Go.Shelf
open Go.Lib (decDigits itoa)
theorem wrT_ok (x:Int) (h:dl x ≤ 4096):wrT x = (itoa x,0):=by unfold wrT;rw [if_neg (by omega)]
theorem itoa_cons (q:Int):∃ c r,itoa q = c :: r ∧ (((c.toNat:Int) == 45) = decide (q < 0)):=by
  have hm:=minus_itoa q
  cases hi:itoa q with
  | nil => exact absurd hi (itoa_ne q)
  | cons c r =>
    rw [hi] at hm
    refine ⟨c,r,rfl,?_⟩
    rw [← hm]
    unfold minus
    rw [Bool.eq_iff_iff,toNat_45]
    simp
end Lum
namespace Go.Proofs.YtmjkenlifgmeeaaGreatDoor
open Go.RowKit Go.Shelf Lum
open Go.Lib (decDigits itoa)
attribute [local go_sem] bs_get bs_extract_end bs_extract_from bs_extract bs_append
theorem own_reduced (p q : Int) (w : World) (hp : dl p ≤ 4096) (hq : dl q ≤ 4096) (hq0 : q ≠ 0) (env : Env w) :
    Calls Tryz.prog 142 #[.string ⟨(itoa p).toArray⟩,.string ⟨(itoa q).toArray⟩] w fun e w' => e = .returned (.tuple #[.string ⟨(showR (Rat.divInt p q)).toArray⟩,.int .i64 0]) ∧ Below w.heap.size w w':=by
  obtain ⟨g,hg⟩:∃ g:Nat,g = Nat.gcd p.natAbs q.natAbs:=⟨_,rfl⟩
  have hC:=own_gcd p q w hp hq env
  rw [← hg,← itoa_nat] at hC
  have hgp:0 < g:=by rw [hg];exact Nat.gcd_pos_of_pos_right _ (by omega)
  have hgq:g ≤ q.natAbs:=by rw [hg];exact Nat.gcd_le_right _ (by omega)
  have hgd:dl (g:Int) ≤ 4096:=Nat.le_trans (dl_mono (by simpa using hgq)) hq
  have hfit:=divInt_fits p q hq0 4096 hp hq
  have key:=fun s hs => ratio_parts p q hq0 g hg s hs
  generalize hr:Rat.divInt p q = r at *
  have hshow:showR r = if (r.den:Int) = 1 then itoa r.num else itoa r.num ++ 47 :: itoa (r.den:Int):=by
    rw [showR,itoa_nat]
    by_cases h:r.den = 1
    · rw [if_pos h,if_pos (by omega)]
    · rw [if_neg h,if_neg (by omega)]
  have ln:=Nat.le_trans (itoa_len_dl r.num) (Nat.add_le_add_right hfit.1 1)
  have ld:=Nat.le_trans (itoa_len_dl (r.den:Int)) (Nat.add_le_add_right hfit.2 1)
  have w1e:=wrT_ok r.num hfit.1
  have w2e:=wrT_ok (r.den:Int) hfit.2
  clear hr hg
  have HS:=Lib.hid hshow;clear hshow
  have hd:(r.den:Int) = 1 ∨ ¬ (r.den:Int) = 1:=by omega
  have ENV:=Lib.hid env;clear env
  obtain ⟨s,hs⟩:∃ s:Int,s = if q < 0 then -(g:Int) else g:=⟨_,rfl⟩
  have k:=key s hs
  have hsd:dl s ≤ 4096:=by rw [hs];split;rw [dl_neg];exact hgd;exact hgd
  have hs0:s ≠ 0:=by rw [hs];split <;> omega
  have hF1:=fun W (e:Env W) => own_quo p s W hp hsd hs0 e
  have hF2:=fun W (e:Env W) => own_quo q s W hq hsd hs0 e
  rw [k.1,w1e] at hF1
  rw [k.2,w2e] at hF2
  have hN:=fun W (e:Env W) => own_neg (g:Int) W hgd e
  rw [wrT_ok _ (by rw [dl_neg];exact hgd)] at hN
  have hsn:q < 0 → s = -(g:Int):=fun h => by rw [hs,if_pos h]
  have hsp:¬ q < 0 → s = (g:Int):=fun h => by rw [hs,if_neg h]
  have HC:=Lib.hid hC;clear hC
  clear key k hs hgp hgq hgd hfit w1e w2e hsd hs0 hp hq hq0
  obtain ⟨c0,r0,hcr,hc45⟩:=itoa_cons q
  rw [hcr] at HC hF2 ⊢
  clear hcr
  have hdd:(itoa (r.den:Int) == [49]) = decide ((r.den:Int) = 1):=by
    rw [Bool.eq_iff_iff,beq_iff_eq,decide_eq_true_eq];exact itoa_eq_one _
  generalize itoa r.num = tn at *
  generalize itoa (r.den:Int) = td at *
  generalize itoa p = tp at *
  by_cases hneg:q < 0
  · rw [hsn hneg] at hF1 hF2
    have HF1:=Lib.hid hF1;clear hF1
    have HF2:=Lib.hid hF2;clear hF2
    have HN:=Lib.hid hN;clear hN hsn hsp
    rw [decide_eq_true hneg] at hc45
    clear hneg
    generalize itoa (-(g:Int)) = tm at *
    generalize itoa (g:Int) = tg at *
    rcases hd with hd | hd
    · rw [decide_eq_true hd] at hdd
      have H2:Hid (showR r = tn):=by show _ = _;rw [HS.out,if_pos hd]
      clear hd HS
      go_enter Tryz.func142,Tryz.ntmps142
      go_wp2_with fail;refine ((HC.out).mono ?_);rintro e w1 ⟨rfl,hb1⟩
      have HB1:=Lib.hid hb1;clear hb1
      go_wp2_with fail;refine ((HN.out _ (ENV.out.below HB1.out)).mono ?_);rintro e w2 ⟨rfl,hb2⟩
      have HB2:=Lib.hid (bch' HB1.out hb2);clear hb2
      go_wp2_with fail;refine ((HF1.out _ (ENV.out.below HB2.out)).mono ?_);rintro e w3 ⟨rfl,hb3⟩
      have HB3:=Lib.hid (bch' HB2.out hb3);clear hb3
      go_wp2_with fail;refine ((HF2.out _ (ENV.out.below HB3.out)).mono ?_);rintro e w4 ⟨rfl,hb4⟩
      have HB4:=Lib.hid (bch' HB3.out hb4);clear hb4
      go_wp2
      go_ret2
      exact ⟨by rw [H2.out];rfl,HB4.out⟩
    · rw [decide_eq_false hd] at hdd
      have H2:Hid (showR r = tn ++ 47 :: td):=by show _ = _;rw [HS.out,if_neg hd]
      clear hd HS
      go_enter Tryz.func142,Tryz.ntmps142
      go_wp2_with fail;refine ((HC.out).mono ?_);rintro e w1 ⟨rfl,hb1⟩
      have HB1:=Lib.hid hb1;clear hb1
      go_wp2_with fail;refine ((HN.out _ (ENV.out.below HB1.out)).mono ?_);rintro e w2 ⟨rfl,hb2⟩
      have HB2:=Lib.hid (bch' HB1.out hb2);clear hb2
      go_wp2_with fail;refine ((HF1.out _ (ENV.out.below HB2.out)).mono ?_);rintro e w3 ⟨rfl,hb3⟩
      have HB3:=Lib.hid (bch' HB2.out hb3);clear hb3
      go_wp2_with fail;refine ((HF2.out _ (ENV.out.below HB3.out)).mono ?_);rintro e w4 ⟨rfl,hb4⟩
      have HB4:=Lib.hid (bch' HB3.out hb4);clear hb4
      go_wp2
      go_ret2
      exact ⟨by rw [H2.out];simp,HB4.out⟩
  · rw [hsp hneg] at hF1 hF2
    have HF1:=Lib.hid hF1;clear hF1
    have HF2:=Lib.hid hF2;clear hF2
    clear hN hsn hsp
    rw [decide_eq_false hneg] at hc45
    clear hneg
    generalize itoa (g:Int) = tg at *
    rcases hd with hd | hd
    · rw [decide_eq_true hd] at hdd
      have H2:Hid (showR r = tn):=by show _ = _;rw [HS.out,if_pos hd]
      clear hd HS
      go_enter Tryz.func142,Tryz.ntmps142
      go_wp2_with fail;refine ((HC.out).mono ?_);rintro e w1 ⟨rfl,hb1⟩
      have HB2:=Lib.hid hb1;clear hb1
      go_wp2_with fail;refine ((HF1.out _ (ENV.out.below HB2.out)).mono ?_);rintro e w3 ⟨rfl,hb3⟩
      have HB3:=Lib.hid (bch' HB2.out hb3);clear hb3
      go_wp2_with fail;refine ((HF2.out _ (ENV.out.below HB3.out)).mono ?_);rintro e w4 ⟨rfl,hb4⟩
      have HB4:=Lib.hid (bch' HB3.out hb4);clear hb4
      go_wp2
      go_ret2
      exact ⟨by rw [H2.out];rfl,HB4.out⟩
    · rw [decide_eq_false hd] at hdd
      have H2:Hid (showR r = tn ++ 47 :: td):=by show _ = _;rw [HS.out,if_neg hd]
      clear hd HS
      go_enter Tryz.func142,Tryz.ntmps142
      go_wp2_with fail;refine ((HC.out).mono ?_);rintro e w1 ⟨rfl,hb1⟩
      have HB2:=Lib.hid hb1;clear hb1
      go_wp2_with fail;refine ((HF1.out _ (ENV.out.below HB2.out)).mono ?_);rintro e w3 ⟨rfl,hb3⟩
      have HB3:=Lib.hid (bch' HB2.out hb3);clear hb3
      go_wp2_with fail;refine ((HF2.out _ (ENV.out.below HB3.out)).mono ?_);rintro e w4 ⟨rfl,hb4⟩
      have HB4:=Lib.hid (bch' HB3.out hb4);clear hb4
      go_wp2
      go_ret2
      exact ⟨by rw [H2.out];simp,HB4.out⟩
end Go.Proofs.YtmjkenlifgmeeaaGreatDoor
namespace Lum
open Go Go.RowKit Go.Shelf
open Go.Lib (decDigits itoa)
theorem crZ_val (f : Int → Int → Int) (p q r s : Int) :
    (crZ f 0 p q r s).2.2 = (if long (p * s) || long (r * q) || long (f (p * s) (r * q)) || long (q * s) then 23 else 0) ∧
    ((long (p * s) || long (r * q) || long (f (p * s) (r * q)) || long (q * s)) = false → crZ f 0 p q r s = (f (p * s) (r * q),q * s,0) ∧ dl (f (p * s) (r * q)) ≤ 4096 ∧ dl (q * s) ≤ 4096):=by
  unfold crZ doZ
  simp only [long_dl]
  by_cases h1:4096 < dl (p * s)
  · simp [h1]
  · by_cases h2:4096 < dl (r * q)
    · simp [h1,h2]
    · by_cases h3:4096 < dl (f (p * s) (r * q))
      · simp [h1,h2,h3]
      · by_cases h4:4096 < dl (q * s)
        · simp [h1,h2,h3,h4]
        · simp [h1,h2,h3,h4];omega
theorem tmZ_val (p q r s : Int) :
    (tmZ 0 p q r s).2.2 = (if long (p * r) || long (q * s) then 23 else 0) ∧
    ((long (p * r) || long (q * s)) = false → tmZ 0 p q r s = (p * r,q * s,0) ∧ dl (p * r) ≤ 4096 ∧ dl (q * s) ≤ 4096):=by
  unfold tmZ doZ
  simp only [long_dl]
  by_cases h1:4096 < dl (p * r)
  · simp [h1]
  · by_cases h2:4096 < dl (q * s)
    · simp [h1,h2]
    · simp [h1,h2];omega
end Lum
namespace Go.Proofs.YtmjkenlifgmeeaaGreatDoor
open Go.RowKit Go.Shelf Lum
open Go.Lib (decDigits itoa)
attribute [local go_sem] bs_get bs_extract_end bs_extract_from bs_extract bs_append
theorem two_cells (W:World) (a b:Value) (t:TypeId):∀ j,j < 2 → (W.alloc (.cells #[a,b] t)).cell? ⟨W.heap.size,j,none⟩ = some ([a,b][j]?.getD undef):=by
  intro j hj
  rw [World.cell?_alloc_new]
  match j,hj with
  | 0,_ => rfl
  | 1,_ => rfl
theorem own_checks2 (a b : Txt) (w : World) (env : Env w) (ha : a.length ≤ 100000) (hb : b.length ≤ 100000) :
    Calls Tryz.prog 138 #[.slice (some ⟨w.heap.size,0,none⟩) 2 2] (w.alloc (.cells #[.string ⟨a.toArray⟩,.string ⟨b.toArray⟩] 39)) fun e w' => e = .returned (.int .i64 (checkTwo a b)) ∧ Below w.heap.size w w':=by
  have hB:=(Below.refl w.heap.size w).alloc (Nat.le_refl _) (.cells #[.string ⟨a.toArray⟩,.string ⟨b.toArray⟩] 39)
  have h:=own_checks [a,b] w.heap.size (w.alloc (.cells #[.string ⟨a.toArray⟩,.string ⟨b.toArray⟩] 39)) (env.below hB) (by simp) (by intro l hl;simp at hl;rcases hl with rfl | rfl <;> assumption) (by simp) (by
    intro j hj
    rw [two_cells w _ _ _ j hj]
    match j,hj with
    | 0,_ => rfl
    | 1,_ => rfl)
  rw [checkAll_two] at h
  exact h.mono fun e w' ⟨h1,h2⟩ => ⟨h1,bch' hB h2⟩
theorem own_apply_err (g : Int) (a b : Txt) (w : World) (env : Env w) (ha : a.length ≤ 100000) (hb : b.length ≤ 100000) (he : checkTwo a b ≠ 0) :
    Calls Tryz.prog 106 #[.int .u8 g,.string ⟨a.toArray⟩,.string ⟨b.toArray⟩] w fun e w' => e = .returned (.tuple #[.string ⟨#[]⟩,.int .i64 (checkTwo a b)]) ∧ Below w.heap.size w w':=by
  have hc:=own_checks2 a b w env ha hb
  have hne:((checkTwo a b:Int) != 0) = true:=by simpa using he
  have HC:=Lib.hid hc;clear hc he
  generalize checkTwo a b = v at *
  go_enter Tryz.func106,Tryz.ntmps106
  go_wp2_with fail
  refine (HC.out).mono ?_
  rintro e w1 ⟨rfl,hb1⟩
  go_wp2
  go_ret2
  exact ⟨rfl,hb1⟩
theorem own_apply_add_ok (x y : Rat) (w : World) (env : Env w) (hx : Fit x) (hy : Fit y) :
    Calls Tryz.prog 106 #[.int .u8 43,.string ⟨(showR x).toArray⟩,.string ⟨(showR y).toArray⟩] w fun e w' => e = .returned (.tuple #[.string ⟨(qAdd x y).1.toArray⟩,.int .i64 (qAdd x y).2]) ∧ Below w.heap.size w w':=by
  have fx:=(fit_fits x).1 hx
  have fy:=(fit_fits y).1 hy
  have lx:=showR_len x 19000 (fx.mono (by omega))
  have ly:=showR_len y 19000 (fy.mono (by omega))
  have hc:=own_checks2 (showR x) (showR y) w env (by omega) (by omega)
  have h0:checkTwo (showR x) (showR y) = 0:=by unfold checkTwo;rw [ratCheck_showR x hx,ratCheck_showR y hy];rfl
  rw [h0] at hc
  have hpx:=fun W (e:Env W) => own_parts (showR x) W (by omega) e
  have hpy:=fun W (e:Env W) => own_parts (showR y) W (by omega) e
  rw [top_showR,bot_showR,← itoa_nat] at hpx hpy
  have dnx:=den_ne x
  have dny:=den_ne y
  obtain ⟨f1,f2⟩:=fx
  obtain ⟨f3,f4⟩:=fy
  have hq:qAdd x y = if (long (x.num * (y.den:Int)) || long (y.num * (x.den:Int)) || long (x.num * (y.den:Int) + y.num * (x.den:Int)) || long ((x.den:Int) * (y.den:Int))) = true then ([],23) else (showR (Rat.divInt (x.num * (y.den:Int) + y.num * (x.den:Int)) ((x.den:Int) * (y.den:Int))),0):=by unfold qAdd;rw [add_divInt]
  have HC:=Lib.hid hc;clear hc h0
  have HPX:=Lib.hid hpx;clear hpx
  have HPY:=Lib.hid hpy;clear hpy
  have ENV:=Lib.hid env;clear env
  obtain ⟨qv,hqv⟩:∃ qv,qv = qAdd x y:=⟨_,rfl⟩
  rw [← hqv] at hq ⊢
  clear hqv
  have HQ:=Lib.hid hq;clear hq hx hy
  generalize hasSlash (showR x) = sx at *
  generalize hasSlash (showR y) = sy at *
  generalize showR x = tx at *
  generalize showR y = ty at *
  have F1:=Lib.hid f1;clear f1
  have F2:=Lib.hid f2;clear f2
  have F3:=Lib.hid f3;clear f3
  have F4:=Lib.hid f4;clear f4
  have DX:=Lib.hid dnx;clear dnx
  have DY:=Lib.hid dny;clear dny lx ly
  generalize x.num = p at *
  generalize (x.den:Int) = q at *
  generalize y.num = r at *
  generalize (y.den:Int) = s at *
  go_enter Tryz.func106,Tryz.ntmps106
  go_wp2_with fail
  refine (HC.out).mono ?_
  rintro e w1 ⟨rfl,hb1⟩
  have HB1:=Lib.hid hb1;clear hb1
  go_wp2_with fail
  refine (HPX.out _ (ENV.out.below HB1.out)).mono ?_
  rintro e w2 ⟨rfl,hb2⟩
  have HB2:=Lib.hid (bch' HB1.out hb2);clear hb2
  go_wp2_with fail
  refine (HPY.out _ (ENV.out.below HB2.out)).mono ?_
  rintro e w3 ⟨rfl,hb3⟩
  have HB3:=Lib.hid (bch' HB2.out hb3);clear hb3
  have hb4:=(Below.refl w3.heap.size w3).alloc (Nat.le_refl _) (.cells #[.int .i64 0] 197)
  have hch:Ch (w3.alloc (.cells #[.int .i64 0] 197)) w3.heap.size 0:=⟨cell_one_new w3 _ _ 0 _ rfl,World.frozen?_alloc_new _ _ _ _,by simp⟩
  have g1:1 < w3.heap.size:=Nat.lt_of_lt_of_le ENV.out.l1 HB3.out.size
  have g2:0 < w3.heap.size:=Nat.lt_of_lt_of_le ENV.out.l2 HB3.out.size
  have hsz:w.heap.size ≤ w3.heap.size:=HB3.out.size
  have HCH:=Lib.hid hch;clear hch
  have HB4:=Lib.hid (bch' HB3.out hb4);clear hb4
  have hop:=own_operations (w3.alloc (.cells #[.int .i64 0] 197))
  have HOP:=Lib.hid hop;clear hop
  go_wp2_with fail
  refine (HOP.out).mono ?_
  rintro e w5 ⟨m,rfl,hOps,hb5⟩
  have hch5:=HCH.out.below hb5
  have HB5:=Lib.hid (bch' HB4.out hb5);clear hb5
  have env5:=ENV.out.below HB5.out
  obtain ⟨b,hb,hcb,hlk⟩:=hOps.add
  rw [World.size_alloc] at hb
  have hcall:=own_cross 73 (fun a b => a + b) w3.heap.size b 0 p q r s w5 hch5 env5 g1 g2 F1.out F2.out F3.out F4.out hcb (by omega) (enters_of Tryz.func73 (by kernel_rfl) rfl) (fun x y W hx hy e => own_add x y W hx hy e)
  have HCALL:=Lib.hid hcall;clear hcall
  clear hOps hch5 env5
  go_wp2_with fail
  refine (HCALL.out).mono ?_
  rintro e w6 ⟨rfl,hch6,ho6⟩
  have HB6:=Lib.hid (HB5.out.trans (ho6.below w.heap.size hsz HB5.out.size));clear ho6
  clear hlk hcb
  obtain ⟨v1,v2⟩:=crZ_val (fun a b => a + b) p q r s
  by_cases hl:(long (p * s) || long (r * q) || long (p * s + r * q) || long (q * s)) = true
  · rw [if_pos hl] at v1
    have HV:Hid (qv = (([]:Txt),(23:Int))):=by show _ = _;rw [HQ.out,if_pos hl]
    rw [v1] at hch6
    have HL:=Lib.hid hl;clear hl v1 v2
    obtain ⟨k1,k2,k3⟩:=hch6
    go_wp2_with fail
    go_quiet (fail)
    go_wp2
    go_ret2
    exact ⟨by rw [HV.out];rfl,below_drewN HB6.out _⟩
  · simp only [Bool.not_eq_true] at hl
    have v3:=v2 hl
    rw [if_neg (by rw [hl];simp)] at v1
    have HV:Hid (qv = (showR (Rat.divInt (p * s + r * q) (q * s)),(0:Int))):=by show _ = _;rw [HQ.out,if_neg (by rw [hl];simp)]
    rw [v1] at hch6
    rw [v3.1]
    have hr:=fun W (e:Env W) => own_reduced (p * s + r * q) (q * s) W v3.2.1 v3.2.2 (Int.mul_ne_zero DX.out DY.out) e
    have HR:=Lib.hid hr;clear hr
    have HL:=Lib.hid hl;clear hl v1 v2 v3
    obtain ⟨k1,k2,k3⟩:=hch6
    dsimp only
    go_wp2_with fail
    refine (HR.out _ (ENV.out.below HB6.out)).mono ?_
    rintro e w7 ⟨rfl,hb7⟩
    have HB7:=Lib.hid (bch' HB6.out hb7);clear hb7
    go_wp2
    go_ret2
    exact ⟨by rw [HV.out];rfl,HB7.out⟩
theorem own_apply_sub_ok (x y : Rat) (w : World) (env : Env w) (hx : Fit x) (hy : Fit y) :
    Calls Tryz.prog 106 #[.int .u8 45,.string ⟨(showR x).toArray⟩,.string ⟨(showR y).toArray⟩] w fun e w' => e = .returned (.tuple #[.string ⟨(qSub x y).1.toArray⟩,.int .i64 (qSub x y).2]) ∧ Below w.heap.size w w':=by
  have fx:=(fit_fits x).1 hx
  have fy:=(fit_fits y).1 hy
  have lx:=showR_len x 19000 (fx.mono (by omega))
  have ly:=showR_len y 19000 (fy.mono (by omega))
  have hc:=own_checks2 (showR x) (showR y) w env (by omega) (by omega)
  have h0:checkTwo (showR x) (showR y) = 0:=by unfold checkTwo;rw [ratCheck_showR x hx,ratCheck_showR y hy];rfl
  rw [h0] at hc
  have hpx:=fun W (e:Env W) => own_parts (showR x) W (by omega) e
  have hpy:=fun W (e:Env W) => own_parts (showR y) W (by omega) e
  rw [top_showR,bot_showR,← itoa_nat] at hpx hpy
  have dnx:=den_ne x
  have dny:=den_ne y
  obtain ⟨f1,f2⟩:=fx
  obtain ⟨f3,f4⟩:=fy
  have hq:qSub x y = if (long (x.num * (y.den:Int)) || long (y.num * (x.den:Int)) || long (x.num * (y.den:Int) - y.num * (x.den:Int)) || long ((x.den:Int) * (y.den:Int))) = true then ([],23) else (showR (Rat.divInt (x.num * (y.den:Int) - y.num * (x.den:Int)) ((x.den:Int) * (y.den:Int))),0):=by unfold qSub;rw [sub_divInt]
  have HC:=Lib.hid hc;clear hc h0
  have HPX:=Lib.hid hpx;clear hpx
  have HPY:=Lib.hid hpy;clear hpy
  have ENV:=Lib.hid env;clear env
  obtain ⟨qv,hqv⟩:∃ qv,qv = qSub x y:=⟨_,rfl⟩
  rw [← hqv] at hq ⊢
  clear hqv
  have HQ:=Lib.hid hq;clear hq hx hy
  generalize hasSlash (showR x) = sx at *
  generalize hasSlash (showR y) = sy at *
  generalize showR x = tx at *
  generalize showR y = ty at *
  have F1:=Lib.hid f1;clear f1
  have F2:=Lib.hid f2;clear f2
  have F3:=Lib.hid f3;clear f3
  have F4:=Lib.hid f4;clear f4
  have DX:=Lib.hid dnx;clear dnx
  have DY:=Lib.hid dny;clear dny lx ly
  generalize x.num = p at *
  generalize (x.den:Int) = q at *
  generalize y.num = r at *
  generalize (y.den:Int) = s at *
  go_enter Tryz.func106,Tryz.ntmps106
  go_wp2_with fail
  refine (HC.out).mono ?_
  rintro e w1 ⟨rfl,hb1⟩
  have HB1:=Lib.hid hb1;clear hb1
  go_wp2_with fail
  refine (HPX.out _ (ENV.out.below HB1.out)).mono ?_
  rintro e w2 ⟨rfl,hb2⟩
  have HB2:=Lib.hid (bch' HB1.out hb2);clear hb2
  go_wp2_with fail
  refine (HPY.out _ (ENV.out.below HB2.out)).mono ?_
  rintro e w3 ⟨rfl,hb3⟩
  have HB3:=Lib.hid (bch' HB2.out hb3);clear hb3
  have hb4:=(Below.refl w3.heap.size w3).alloc (Nat.le_refl _) (.cells #[.int .i64 0] 197)
  have hch:Ch (w3.alloc (.cells #[.int .i64 0] 197)) w3.heap.size 0:=⟨cell_one_new w3 _ _ 0 _ rfl,World.frozen?_alloc_new _ _ _ _,by simp⟩
  have g1:1 < w3.heap.size:=Nat.lt_of_lt_of_le ENV.out.l1 HB3.out.size
  have g2:0 < w3.heap.size:=Nat.lt_of_lt_of_le ENV.out.l2 HB3.out.size
  have hsz:w.heap.size ≤ w3.heap.size:=HB3.out.size
  have HCH:=Lib.hid hch;clear hch
  have HB4:=Lib.hid (bch' HB3.out hb4);clear hb4
  have hop:=own_operations (w3.alloc (.cells #[.int .i64 0] 197))
  have HOP:=Lib.hid hop;clear hop
  go_wp2_with fail
  refine (HOP.out).mono ?_
  rintro e w5 ⟨m,rfl,hOps,hb5⟩
  have hch5:=HCH.out.below hb5
  have HB5:=Lib.hid (bch' HB4.out hb5);clear hb5
  have env5:=ENV.out.below HB5.out
  obtain ⟨b,hb,hcb,hlk⟩:=hOps.sub
  rw [World.size_alloc] at hb
  have hcall:=own_cross 71 (fun a b => a - b) w3.heap.size b 0 p q r s w5 hch5 env5 g1 g2 F1.out F2.out F3.out F4.out hcb (by omega) (enters_of Tryz.func71 (by kernel_rfl) rfl) (fun x y W hx hy e => own_sub x y W hx hy e)
  have HCALL:=Lib.hid hcall;clear hcall
  clear hOps hch5 env5
  go_wp2_with fail
  refine (HCALL.out).mono ?_
  rintro e w6 ⟨rfl,hch6,ho6⟩
  have HB6:=Lib.hid (HB5.out.trans (ho6.below w.heap.size hsz HB5.out.size));clear ho6
  clear hlk hcb
  obtain ⟨v1,v2⟩:=crZ_val (fun a b => a - b) p q r s
  by_cases hl:(long (p * s) || long (r * q) || long (p * s - r * q) || long (q * s)) = true
  · rw [if_pos hl] at v1
    have HV:Hid (qv = (([]:Txt),(23:Int))):=by show _ = _;rw [HQ.out,if_pos hl]
    rw [v1] at hch6
    have HL:=Lib.hid hl;clear hl v1 v2
    obtain ⟨k1,k2,k3⟩:=hch6
    go_wp2_with fail
    go_quiet (fail)
    go_wp2
    go_ret2
    exact ⟨by rw [HV.out];rfl,below_drewN HB6.out _⟩
  · simp only [Bool.not_eq_true] at hl
    have v3:=v2 hl
    rw [if_neg (by rw [hl];simp)] at v1
    have HV:Hid (qv = (showR (Rat.divInt (p * s - r * q) (q * s)),(0:Int))):=by show _ = _;rw [HQ.out,if_neg (by rw [hl];simp)]
    rw [v1] at hch6
    rw [v3.1]
    have hr:=fun W (e:Env W) => own_reduced (p * s - r * q) (q * s) W v3.2.1 v3.2.2 (Int.mul_ne_zero DX.out DY.out) e
    have HR:=Lib.hid hr;clear hr
    have HL:=Lib.hid hl;clear hl v1 v2 v3
    obtain ⟨k1,k2,k3⟩:=hch6
    dsimp only
    go_wp2_with fail
    refine (HR.out _ (ENV.out.below HB6.out)).mono ?_
    rintro e w7 ⟨rfl,hb7⟩
    have HB7:=Lib.hid (bch' HB6.out hb7);clear hb7
    go_wp2
    go_ret2
    exact ⟨by rw [HV.out];rfl,HB7.out⟩
theorem own_apply_mul_ok (x y : Rat) (w : World) (env : Env w) (hx : Fit x) (hy : Fit y) :
    Calls Tryz.prog 106 #[.int .u8 42,.string ⟨(showR x).toArray⟩,.string ⟨(showR y).toArray⟩] w fun e w' => e = .returned (.tuple #[.string ⟨(qMul x y).1.toArray⟩,.int .i64 (qMul x y).2]) ∧ Below w.heap.size w w':=by
  have fx:=(fit_fits x).1 hx
  have fy:=(fit_fits y).1 hy
  have lx:=showR_len x 19000 (fx.mono (by omega))
  have ly:=showR_len y 19000 (fy.mono (by omega))
  have hc:=own_checks2 (showR x) (showR y) w env (by omega) (by omega)
  have h0:checkTwo (showR x) (showR y) = 0:=by unfold checkTwo;rw [ratCheck_showR x hx,ratCheck_showR y hy];rfl
  rw [h0] at hc
  have hpx:=fun W (e:Env W) => own_parts (showR x) W (by omega) e
  have hpy:=fun W (e:Env W) => own_parts (showR y) W (by omega) e
  rw [top_showR,bot_showR,← itoa_nat] at hpx hpy
  have dnx:=den_ne x
  have dny:=den_ne y
  obtain ⟨f1,f2⟩:=fx
  obtain ⟨f3,f4⟩:=fy
  have hq:qMul x y = if (long (x.num * y.num) || long ((x.den:Int) * (y.den:Int))) = true then ([],23) else (showR (Rat.divInt (x.num * y.num) ((x.den:Int) * (y.den:Int))),0):=by unfold qMul;rw [mul_divInt]
  have HC:=Lib.hid hc;clear hc h0
  have HPX:=Lib.hid hpx;clear hpx
  have HPY:=Lib.hid hpy;clear hpy
  have ENV:=Lib.hid env;clear env
  obtain ⟨qv,hqv⟩:∃ qv,qv = qMul x y:=⟨_,rfl⟩
  rw [← hqv] at hq ⊢
  clear hqv
  have HQ:=Lib.hid hq;clear hq hx hy
  generalize hasSlash (showR x) = sx at *
  generalize hasSlash (showR y) = sy at *
  generalize showR x = tx at *
  generalize showR y = ty at *
  have F1:=Lib.hid f1;clear f1
  have F2:=Lib.hid f2;clear f2
  have F3:=Lib.hid f3;clear f3
  have F4:=Lib.hid f4;clear f4
  have DX:=Lib.hid dnx;clear dnx
  have DY:=Lib.hid dny;clear dny lx ly
  generalize x.num = p at *
  generalize (x.den:Int) = q at *
  generalize y.num = r at *
  generalize (y.den:Int) = s at *
  go_enter Tryz.func106,Tryz.ntmps106
  go_wp2_with fail
  refine (HC.out).mono ?_
  rintro e w1 ⟨rfl,hb1⟩
  have HB1:=Lib.hid hb1;clear hb1
  go_wp2_with fail
  refine (HPX.out _ (ENV.out.below HB1.out)).mono ?_
  rintro e w2 ⟨rfl,hb2⟩
  have HB2:=Lib.hid (bch' HB1.out hb2);clear hb2
  go_wp2_with fail
  refine (HPY.out _ (ENV.out.below HB2.out)).mono ?_
  rintro e w3 ⟨rfl,hb3⟩
  have HB3:=Lib.hid (bch' HB2.out hb3);clear hb3
  have hb4:=(Below.refl w3.heap.size w3).alloc (Nat.le_refl _) (.cells #[.int .i64 0] 197)
  have hch:Ch (w3.alloc (.cells #[.int .i64 0] 197)) w3.heap.size 0:=⟨cell_one_new w3 _ _ 0 _ rfl,World.frozen?_alloc_new _ _ _ _,by simp⟩
  have g1:1 < w3.heap.size:=Nat.lt_of_lt_of_le ENV.out.l1 HB3.out.size
  have g2:0 < w3.heap.size:=Nat.lt_of_lt_of_le ENV.out.l2 HB3.out.size
  have hsz:w.heap.size ≤ w3.heap.size:=HB3.out.size
  have HCH:=Lib.hid hch;clear hch
  have HB4:=Lib.hid (bch' HB3.out hb4);clear hb4
  have hop:=own_operations (w3.alloc (.cells #[.int .i64 0] 197))
  have HOP:=Lib.hid hop;clear hop
  go_wp2_with fail
  refine (HOP.out).mono ?_
  rintro e w5 ⟨m,rfl,hOps,hb5⟩
  have hch5:=HCH.out.below hb5
  have HB5:=Lib.hid (bch' HB4.out hb5);clear hb5
  have env5:=ENV.out.below HB5.out
  have hlk:=hOps.mul
  have hcall:=own_times w3.heap.size 0 p q r s w5 hch5 env5 g1 g2 F1.out F2.out F3.out F4.out
  have HCALL:=Lib.hid hcall;clear hcall
  clear hOps hch5 env5
  go_wp2_with fail
  refine (HCALL.out).mono ?_
  rintro e w6 ⟨rfl,hch6,ho6⟩
  have HB6:=Lib.hid (HB5.out.trans (ho6.below w.heap.size hsz HB5.out.size));clear ho6
  clear hlk
  obtain ⟨v1,v2⟩:=tmZ_val p q r s
  by_cases hl:(long (p * r) || long (q * s)) = true
  · rw [if_pos hl] at v1
    have HV:Hid (qv = (([]:Txt),(23:Int))):=by show _ = _;rw [HQ.out,if_pos hl]
    rw [v1] at hch6
    have HL:=Lib.hid hl;clear hl v1 v2
    obtain ⟨k1,k2,k3⟩:=hch6
    go_wp2_with fail
    go_quiet (fail)
    go_wp2
    go_ret2
    exact ⟨by rw [HV.out];rfl,below_drewN HB6.out _⟩
  · simp only [Bool.not_eq_true] at hl
    have v3:=v2 hl
    rw [if_neg (by rw [hl];simp)] at v1
    have HV:Hid (qv = (showR (Rat.divInt (p * r) (q * s)),(0:Int))):=by show _ = _;rw [HQ.out,if_neg (by rw [hl];simp)]
    rw [v1] at hch6
    rw [v3.1]
    have hr:=fun W (e:Env W) => own_reduced (p * r) (q * s) W v3.2.1 v3.2.2 (Int.mul_ne_zero DX.out DY.out) e
    have HR:=Lib.hid hr;clear hr
    have HL:=Lib.hid hl;clear hl v1 v2 v3
    obtain ⟨k1,k2,k3⟩:=hch6
    dsimp only
    go_wp2_with fail
    refine (HR.out _ (ENV.out.below HB6.out)).mono ?_
    rintro e w7 ⟨rfl,hb7⟩
    have HB7:=Lib.hid (bch' HB6.out hb7);clear hb7
    go_wp2
    go_ret2
    exact ⟨by rw [HV.out];rfl,HB7.out⟩
end Go.Proofs.YtmjkenlifgmeeaaGreatDoor
namespace Lum
open Go Go.RowKit Go.Shelf
open Go.Lib (decDigits itoa)
theorem checkTwo_ok {a b:Txt} (h:checkTwo a b = 0):∃ x y,a = showR x ∧ b = showR y ∧ Fit x ∧ Fit y:=by
  unfold checkTwo at h
  by_cases ha:ratCheck a ≠ 0
  · rw [if_pos ha] at h;exact absurd h ha
  · rw [if_neg ha] at h
    obtain ⟨x,rfl,fx⟩:=ratCheck_zero a (by simpa using ha)
    obtain ⟨y,rfl,fy⟩:=ratCheck_zero b h
    exact ⟨x,y,rfl,rfl,fx,fy⟩
theorem rTwo_err {a b:Txt} (r:Rat → Rat → Txt × Int) (h:checkTwo a b ≠ 0):rTwo a b r = ([],checkTwo a b):=by
  unfold checkTwo at h ⊢
  unfold rTwo
  by_cases ha:ratCheck a ≠ 0
  · rw [if_pos ha,if_pos ha]
  · rw [if_neg ha] at h ⊢
    rw [if_neg ha,if_pos h]
theorem rTwo_ok (x y:Rat) (r:Rat → Rat → Txt × Int) (hx:Fit x) (hy:Fit y):rTwo (showR x) (showR y) r = r x y:=by
  unfold rTwo
  rw [ratCheck_showR x hx,ratCheck_showR y hy,valR_showR,valR_showR]
  rfl
def cTwo (a b:Txt):Int × Int:=if checkTwo a b ≠ 0 then (0,checkTwo a b) else qCmp (valR a) (valR b)
end Lum
namespace Go.Proofs.YtmjkenlifgmeeaaGreatDoor
open Go.RowKit Go.Shelf Lum
open Go.Lib (decDigits itoa)
attribute [local go_sem] bs_get bs_extract_end bs_extract_from bs_extract bs_append
theorem own_radd (a b : Txt) (w : World) (env : Env w) (ha : a.length ≤ 100000) (hb : b.length ≤ 100000) :
    Calls Tryz.prog 212 #[.string ⟨a.toArray⟩,.string ⟨b.toArray⟩] w fun e w' => e = .returned (.tuple #[.string ⟨(rTwo a b qAdd).1.toArray⟩,.int .i64 (rTwo a b qAdd).2]) ∧ Below w.heap.size w w':=by
  have h:Calls Tryz.prog 106 #[.int .u8 43,.string ⟨a.toArray⟩,.string ⟨b.toArray⟩] w fun e w' => e = .returned (.tuple #[.string ⟨(rTwo a b qAdd).1.toArray⟩,.int .i64 (rTwo a b qAdd).2]) ∧ Below w.heap.size w w':=by
    by_cases he:checkTwo a b = 0
    · obtain ⟨x,y,rfl,rfl,fx,fy⟩:=checkTwo_ok he
      rw [rTwo_ok x y _ fx fy]
      exact own_apply_add_ok x y w env fx fy
    · rw [rTwo_err _ he]
      exact own_apply_err 43 a b w env ha hb he
  have H:=Lib.hid h;clear h
  generalize rTwo a b qAdd = v at *
  go_enter Tryz.func212,Tryz.ntmps212
  go_wp2_with fail
  refine (H.out).mono ?_
  rintro e w1 ⟨rfl,hb1⟩
  go_wp2
  go_ret2
  exact ⟨rfl,hb1⟩
theorem own_rsub (a b : Txt) (w : World) (env : Env w) (ha : a.length ≤ 100000) (hb : b.length ≤ 100000) :
    Calls Tryz.prog 211 #[.string ⟨a.toArray⟩,.string ⟨b.toArray⟩] w fun e w' => e = .returned (.tuple #[.string ⟨(rTwo a b qSub).1.toArray⟩,.int .i64 (rTwo a b qSub).2]) ∧ Below w.heap.size w w':=by
  have h:Calls Tryz.prog 106 #[.int .u8 45,.string ⟨a.toArray⟩,.string ⟨b.toArray⟩] w fun e w' => e = .returned (.tuple #[.string ⟨(rTwo a b qSub).1.toArray⟩,.int .i64 (rTwo a b qSub).2]) ∧ Below w.heap.size w w':=by
    by_cases he:checkTwo a b = 0
    · obtain ⟨x,y,rfl,rfl,fx,fy⟩:=checkTwo_ok he
      rw [rTwo_ok x y _ fx fy]
      exact own_apply_sub_ok x y w env fx fy
    · rw [rTwo_err _ he]
      exact own_apply_err 45 a b w env ha hb he
  have H:=Lib.hid h;clear h
  generalize rTwo a b qSub = v at *
  go_enter Tryz.func211,Tryz.ntmps211
  go_wp2_with fail
  refine (H.out).mono ?_
  rintro e w1 ⟨rfl,hb1⟩
  go_wp2
  go_ret2
  exact ⟨rfl,hb1⟩
theorem own_rmul (a b : Txt) (w : World) (env : Env w) (ha : a.length ≤ 100000) (hb : b.length ≤ 100000) :
    Calls Tryz.prog 49 #[.string ⟨a.toArray⟩,.string ⟨b.toArray⟩] w fun e w' => e = .returned (.tuple #[.string ⟨(rTwo a b qMul).1.toArray⟩,.int .i64 (rTwo a b qMul).2]) ∧ Below w.heap.size w w':=by
  have h:Calls Tryz.prog 106 #[.int .u8 42,.string ⟨a.toArray⟩,.string ⟨b.toArray⟩] w fun e w' => e = .returned (.tuple #[.string ⟨(rTwo a b qMul).1.toArray⟩,.int .i64 (rTwo a b qMul).2]) ∧ Below w.heap.size w w':=by
    by_cases he:checkTwo a b = 0
    · obtain ⟨x,y,rfl,rfl,fx,fy⟩:=checkTwo_ok he
      rw [rTwo_ok x y _ fx fy]
      exact own_apply_mul_ok x y w env fx fy
    · rw [rTwo_err _ he]
      exact own_apply_err 42 a b w env ha hb he
  have H:=Lib.hid h;clear h
  generalize rTwo a b qMul = v at *
  go_enter Tryz.func49,Tryz.ntmps49
  go_wp2_with fail
  refine (H.out).mono ?_
  rintro e w1 ⟨rfl,hb1⟩
  go_wp2
  go_ret2
  exact ⟨rfl,hb1⟩
theorem own_rcompare (a b : Txt) (w : World) (env : Env w) (ha : a.length ≤ 100000) (hb : b.length ≤ 100000) :
    Calls Tryz.prog 105 #[.string ⟨a.toArray⟩,.string ⟨b.toArray⟩] w fun e w' => e = .returned (.tuple #[.int .i64 (cTwo a b).1,.int .i64 (cTwo a b).2]) ∧ Below w.heap.size w w':=by
  have hc:=own_checks2 a b w env ha hb
  by_cases he:checkTwo a b = 0
  · have hcv:cTwo a b = qCmp (valR a) (valR b):=by unfold cTwo;rw [if_neg (by simpa using he)]
    rw [he] at hc
    obtain ⟨x,y,rfl,rfl,hx,hy⟩:=checkTwo_ok he
    rw [hcv,valR_showR,valR_showR]
    have fx:=(fit_fits x).1 hx
    have fy:=(fit_fits y).1 hy
    have hpx:=fun W (e:Env W) => own_parts (showR x) W (by omega) e
    have hpy:=fun W (e:Env W) => own_parts (showR y) W (by omega) e
    rw [top_showR,bot_showR,← itoa_nat] at hpx hpy
    have hq:qCmp x y = if (long (x.num * (y.den:Int)) || long (y.num * (x.den:Int))) = true then (0,23) else (cmpZ (x.num * (y.den:Int)) (y.num * (x.den:Int)),0):=by unfold qCmp;rw [cmpZ_sgn]
    obtain ⟨f1,f2⟩:=fx
    obtain ⟨f3,f4⟩:=fy
    obtain ⟨qv,hqv⟩:∃ qv,qv = qCmp x y:=⟨_,rfl⟩
    rw [← hqv] at hq ⊢
    clear hqv
    have HC:=Lib.hid hc;clear hc he hcv
    have HPX:=Lib.hid hpx;clear hpx
    have HPY:=Lib.hid hpy;clear hpy
    have ENV:=Lib.hid env;clear env
    have HQ:=Lib.hid hq;clear hq hx hy ha hb
    generalize hasSlash (showR x) = sx at *
    generalize hasSlash (showR y) = sy at *
    generalize showR x = tx at *
    generalize showR y = ty at *
    have F1:=Lib.hid f1;clear f1
    have F2:=Lib.hid f2;clear f2
    have F3:=Lib.hid f3;clear f3
    have F4:=Lib.hid f4;clear f4
    generalize x.num = p at *
    generalize (x.den:Int) = q at *
    generalize y.num = r at *
    generalize (y.den:Int) = s at *
    go_enter Tryz.func105,Tryz.ntmps105
    go_wp2_with fail
    refine (HC.out).mono ?_
    rintro e w1 ⟨rfl,hb1⟩
    have HB1:=Lib.hid hb1;clear hb1
    go_wp2_with fail
    refine (HPX.out _ (ENV.out.below HB1.out)).mono ?_
    rintro e w2 ⟨rfl,hb2⟩
    have HB2:=Lib.hid (bch' HB1.out hb2);clear hb2
    go_wp2_with fail
    refine (HPY.out _ (ENV.out.below HB2.out)).mono ?_
    rintro e w3 ⟨rfl,hb3⟩
    have HB3:=Lib.hid (bch' HB2.out hb3);clear hb3
    have hb4:=(Below.refl w3.heap.size w3).alloc (Nat.le_refl _) (.cells #[.int .i64 0] 197)
    have hch:Ch (w3.alloc (.cells #[.int .i64 0] 197)) w3.heap.size 0:=⟨cell_one_new w3 _ _ 0 _ rfl,World.frozen?_alloc_new _ _ _ _,by simp⟩
    have g1:1 < w3.heap.size:=Nat.lt_of_lt_of_le ENV.out.l1 HB3.out.size
    have g2:0 < w3.heap.size:=Nat.lt_of_lt_of_le ENV.out.l2 HB3.out.size
    have hsz:w.heap.size ≤ w3.heap.size:=HB3.out.size
    have hb4':=bch' HB3.out hb4
    have hd1:=own_do_mul w3.heap.size 0 p s _ hch (ENV.out.below hb4') F1.out F4.out
    have hd2:=fun W (hc:Ch W w3.heap.size (doZ 0 (p * s)).2) (ev:Env W) => own_do_mul w3.heap.size (doZ 0 (p * s)).2 r q W hc ev F3.out F2.out
    have H1:=Lib.hid hd1
    have H2:=Lib.hid hd2
    have HB4:=Lib.hid hb4'
    clear hd1 hd2 hb4 hb4' hch
    have hv:=tmZ_val p r s q
    unfold tmZ at hv
    dsimp only at hv
    generalize doZ (doZ 0 (p * s)).2 (r * q) = d2 at *
    generalize doZ 0 (p * s) = d1 at *
    have HV:=Lib.hid hv;clear hv
    go_wp2_with fail
    refine (H1.out).mono ?_
    rintro e w5 ⟨rfl,hc5,ho5⟩
    have HB5:=Lib.hid (HB4.out.trans (ho5.below w.heap.size hsz HB4.out.size));clear ho5
    have hh2:=H2.out w5 hc5 (ENV.out.below HB5.out)
    have HH2:=Lib.hid hh2;clear hh2 hc5
    go_wp2_with fail
    refine (HH2.out).mono ?_
    rintro e w6 ⟨rfl,hch6,ho6⟩
    have HB6:=Lib.hid (HB5.out.trans (ho6.below w.heap.size hsz HB5.out.size));clear ho6
    obtain ⟨v1,v2⟩:=HV.out
    by_cases hl:(long (p * s) || long (r * q)) = true
    · rw [if_pos hl] at v1
      have HVV:Hid (qv = ((0:Int),(23:Int))):=by show _ = _;rw [HQ.out,if_pos hl]
      rw [v1] at hch6
      have HL:=Lib.hid hl;clear hl v1 v2
      obtain ⟨k1,k2,k3⟩:=hch6
      go_wp2_with fail
      go_quiet (fail)
      go_wp2
      go_ret2
      exact ⟨by rw [HVV.out];rfl,below_drewN HB6.out _⟩
    · simp only [Bool.not_eq_true] at hl
      have v3:=v2 hl
      rw [if_neg (by rw [hl];simp)] at v1
      have HVV:Hid (qv = (cmpZ (p * s) (r * q),(0:Int))):=by show _ = _;rw [HQ.out,if_neg (by rw [hl];simp)]
      rw [v1] at hch6
      have e1:d1.1 = p * s:=congrArg (fun t => t.1) v3.1
      have e2:d2.1 = r * q:=congrArg (fun t => t.2.1) v3.1
      rw [e1,e2]
      have hr:=fun W => own_compare (p * s) (r * q) W v3.2.1 v3.2.2
      have HR:=Lib.hid hr;clear hr
      have HL:=Lib.hid hl;clear hl v1 v2 v3 e1 e2
      obtain ⟨k1,k2,k3⟩:=hch6
      dsimp only
      go_wp2_with fail
      refine (HR.out _).mono ?_
      rintro e w7 ⟨rfl,hb7⟩
      have HB7:=Lib.hid (bch' HB6.out hb7);clear hb7
      go_wp2
      go_ret2
      exact ⟨by rw [HVV.out];rfl,HB7.out⟩
  · have hcv:cTwo a b = (0,checkTwo a b):=by unfold cTwo;rw [if_pos he]
    rw [hcv]
    have hne:((checkTwo a b:Int) != 0) = true:=by simpa using he
    have HC:=Lib.hid hc;clear hc he hcv
    generalize checkTwo a b = v at *
    go_enter Tryz.func105,Tryz.ntmps105
    go_wp2_with fail
    refine (HC.out).mono ?_
    rintro e w1 ⟨rfl,hb1⟩
    go_wp2
    go_ret2
    exact ⟨rfl,hb1⟩
end Go.Proofs.YtmjkenlifgmeeaaGreatDoor
namespace Lum
open Go Go.RowKit Go.Shelf
open Go.Lib (decDigits itoa)
def ofT (n d:Txt):Txt × Int :=
  if intCheck n ≠ 0 then ([],intCheck n) else if intCheck d ≠ 0 then ([],intCheck d) else if d = [48] then ([],15) else (showR (Rat.divInt (zOf n) (zOf d)),0)
theorem intCheck_zero {l:Txt} (h:intCheck l = 0):l = itoa (zOf l) ∧ dl (zOf l) ≤ 4096:=by
  have hs:shaped l = true:=by
    cases h2:shaped l with
    | true => rfl
    | false => rw [(intCheck_shaped l).2 h2] at h;cases h
  have e:=itoa_zOf l hs
  refine ⟨e.symm,?_⟩
  rw [← e,intCheck_itoa] at h
  by_cases h4:4096 < dl (zOf l)
  · rw [if_pos h4] at h;cases h
  · omega
def partT (n d:Int):Txt × Int:=if d = 0 then ([],15) else (showR (Rat.divInt n d),0)
theorem ofT_itoa (n d:Int) (hn:dl n ≤ 4096) (hd:dl d ≤ 4096):ofT (itoa n) (itoa d) = partT n d:=by
  unfold ofT partT
  rw [if_neg (by rw [intCheck_ok n hn];simp),if_neg (by rw [intCheck_ok d hd];simp),zOf_itoa,zOf_itoa]
  by_cases h:d = 0
  · rw [if_pos ((itoa_eq_zero d).2 h),if_pos h]
  · rw [if_neg (mt (itoa_eq_zero d).1 h),if_neg h]
end Lum
namespace Go.Proofs.YtmjkenlifgmeeaaGreatDoor
open Go.RowKit Go.Shelf Lum
open Go.Lib (decDigits itoa)
attribute [local go_sem] bs_get bs_extract_end bs_extract_from bs_extract bs_append
theorem own_whole (n : Int) (w : World) (h0 : -9223372036854775808 ≤ n) (h1 : n ≤ 9223372036854775807) (env : Env w) :
    Calls Tryz.prog 103 #[.int .i64 n] w fun e w' => e = .returned (.string ⟨(itoa n).toArray⟩) ∧ Below w.heap.size w w':=by
  have hb:=own_of n w h0 h1 env
  have HB:=Lib.hid hb;clear hb
  go_enter Tryz.func103,Tryz.ntmps103
  go_wp2_with fail
  refine (HB.out).mono ?_
  rintro e w' ⟨rfl,hb⟩
  go_wp2
  go_ret
  exact ⟨rfl,hb⟩
theorem own_rof (tn td : Txt) (w : World) (env : Env w) (hn : tn.length ≤ 100000) (hd : td.length ≤ 100000) :
    Calls Tryz.prog 178 #[.string ⟨tn.toArray⟩,.string ⟨td.toArray⟩] w fun e w' => e = .returned (.tuple #[.string ⟨(ofT tn td).1.toArray⟩,.int .i64 (ofT tn td).2]) ∧ Below w.heap.size w w':=by
  have hcn:=fun W => own_check tn W (by omega)
  have hcd:=fun W => own_check td W (by omega)
  have hB:=(Below.refl w.heap.size w).alloc (Nat.le_refl _) (.cells #[.string ⟨tn.toArray⟩,.string ⟨td.toArray⟩] 84)
  have hce:=two_cells w (.string ⟨tn.toArray⟩) (.string ⟨td.toArray⟩) 84
  have c0:=hce 0 (by omega)
  have c1:=hce 1 (by omega)
  have hsz:w.heap.size < (w.alloc (.cells #[.string ⟨tn.toArray⟩,.string ⟨td.toArray⟩] 84)).heap.size:=by simp
  have HCN:=Lib.hid hcn;clear hcn
  have HCD:=Lib.hid hcd;clear hcd hce
  have HB:=Lib.hid hB;clear hB
  have ENV:=Lib.hid env;clear env
  have H1:Hid (intCheck tn = 0 → intCheck td = 0 → td ≠ [48] → ∀ W,Env W → Calls Tryz.prog 142 #[.string ⟨tn.toArray⟩,.string ⟨td.toArray⟩] W fun e w' => e = .returned (.tuple #[.string ⟨(showR (Rat.divInt (zOf tn) (zOf td))).toArray⟩,.int .i64 0]) ∧ Below W.heap.size W w'):=by
    intro h1 h2 h3 W e
    obtain ⟨e1,l1⟩:=intCheck_zero h1
    obtain ⟨e2,l2⟩:=intCheck_zero h2
    have hz:zOf td ≠ 0:=fun h => h3 (by rw [e2,h,itoa_zero])
    have:=own_reduced (zOf tn) (zOf td) W l1 l2 hz e
    rwa [← e1,← e2] at this
  obtain ⟨v,hv⟩:∃ v,v = ofT tn td:=⟨_,rfl⟩
  rw [← hv]
  unfold ofT at hv
  have HV:=Lib.hid hv;clear hv hn hd
  go_enter Tryz.func178,Tryz.ntmps178
  go_wp2
  generalize w.alloc (.cells #[.string ⟨tn.toArray⟩,.string ⟨td.toArray⟩] 84) = W0 at *
  have C0:=Lib.hid c0;clear c0
  have C1:=Lib.hid c1;clear c1
  go_loopw [7,8,13] (fun _ _ k wr => (k = .int .i64 0 ∨ (k = .int .i64 1 ∧ Hid (intCheck tn = 0)) ∨ (k = .int .i64 2 ∧ Hid (intCheck tn = 0) ∧ Hid (intCheck td = 0))) ∧ Below W0.heap.size W0 wr) (fun _ _ k _ => 2 - (intOf k).toNat)
  case atStart => exact ⟨.inl rfl,Below.refl _ _⟩
  case round =>
    obtain ⟨rfl | ⟨rfl,K1⟩ | ⟨rfl,K1,K2⟩,hb⟩:=hrel
    · have c0:wr.cell? ⟨w.heap.size,0,none⟩ = some (.string ⟨tn.toArray⟩):=(hb.cell (p:=⟨w.heap.size,0,none⟩) hsz).trans C0.out
      by_cases hz:intCheck tn = 0
      · have hne:((intCheck tn:Int) != 0) = false:=by simpa using hz
        have HZ:=Lib.hid hz;clear hz
        go_wp2_with fail
        refine (HCN.out _).mono ?_
        rintro e w' ⟨rfl,hb2⟩
        have HB2:=Lib.hid (hb.trans (hb2.mono hb.size));clear hb hb2 c0
        go_wp2
        go_roundw
        case rel => exact ⟨.inr (.inl ⟨rfl,HZ⟩),HB2.out⟩
        case measure => simp [intOf]
      · have hne:((intCheck tn:Int) != 0) = true:=by simpa using hz
        have HVV:Hid (v = ([],intCheck tn)):=by show _ = _;rw [HV.out,if_pos hz]
        clear hz
        go_wp2_with fail
        refine (HCN.out _).mono ?_
        rintro e w' ⟨rfl,hb2⟩
        have HB2:=Lib.hid (hb.trans (hb2.mono hb.size));clear hb hb2 c0
        go_wp2
        go_ret2
        exact ⟨by rw [HVV.out];rfl,HB.out.trans (HB2.out.mono HB.out.size)⟩
    · have c1:wr.cell? ⟨w.heap.size,1,none⟩ = some (.string ⟨td.toArray⟩):=(hb.cell (p:=⟨w.heap.size,1,none⟩) hsz).trans C1.out
      by_cases hz:intCheck td = 0
      · have hne:((intCheck td:Int) != 0) = false:=by simpa using hz
        have HZ:=Lib.hid hz;clear hz
        go_wp2_with fail
        refine (HCD.out _).mono ?_
        rintro e w' ⟨rfl,hb2⟩
        have HB2:=Lib.hid (hb.trans (hb2.mono hb.size));clear hb hb2 c1
        go_wp2
        go_roundw
        case rel => exact ⟨.inr (.inr ⟨rfl,K1,HZ⟩),HB2.out⟩
        case measure => simp [intOf]
      · have hne:((intCheck td:Int) != 0) = true:=by simpa using hz
        have HVV:Hid (v = ([],intCheck td)):=by show _ = _;rw [HV.out,if_neg (by simpa using K1.out),if_pos hz]
        clear hz
        go_wp2_with fail
        refine (HCD.out _).mono ?_
        rintro e w' ⟨rfl,hb2⟩
        have HB2:=Lib.hid (hb.trans (hb2.mono hb.size));clear hb hb2 c1
        go_wp2
        go_ret2
        exact ⟨by rw [HVV.out];rfl,HB.out.trans (HB2.out.mono HB.out.size)⟩
    · by_cases h0:td = [48]
      · have h0i:(td == [48]) = true:=by simpa using h0
        have HVV:Hid (v = ([],15)):=by show _ = _;rw [HV.out,if_neg (by simpa using K1.out),if_neg (by simpa using K2.out),if_pos h0]
        have H0:=Lib.hid h0;clear h0
        go_wp2
        go_ret2
        exact ⟨by rw [HVV.out];rfl,HB.out.trans (hb.mono HB.out.size)⟩
      · have h0i:(td == [48]) = false:=by simpa using h0
        have HVV:Hid (v = (showR (Rat.divInt (zOf tn) (zOf td)),0)):=by show _ = _;rw [HV.out,if_neg (by simpa using K1.out),if_neg (by simpa using K2.out),if_neg h0]
        have hr:=H1.out K1.out K2.out h0
        have HR:=Lib.hid hr;clear hr h0
        have HB2:=Lib.hid (HB.out.trans (hb.mono HB.out.size));clear hb
        go_wp2_with fail
        refine (HR.out _ (ENV.out.below HB2.out)).mono ?_
        rintro e w7 ⟨rfl,hb7⟩
        go_wp2
        go_ret2
        exact ⟨by rw [HVV.out];rfl,bch' HB2.out hb7⟩
theorem own_part (n d : Int) (w : World) (hn0 : -9223372036854775808 ≤ n) (hn1 : n ≤ 9223372036854775807) (hd0 : -9223372036854775808 ≤ d) (hd1 : d ≤ 9223372036854775807) (env : Env w) :
    Calls Tryz.prog 133 #[.int .i64 n,.int .i64 d] w fun e w' => e = .returned (.tuple #[.string ⟨(partT n d).1.toArray⟩,.int .i64 (partT n d).2]) ∧ Below w.heap.size w w':=by
  have l1:=dl_i64 n hn0 hn1
  have l2:=dl_i64 d hd0 hd1
  have hb:=own_of n w hn0 hn1 env
  have hc:=fun W (e:Env W) => own_of d W hd0 hd1 e
  have i1:=itoa_len_dl n
  have i2:=itoa_len_dl d
  have hr:=fun W (e:Env W) => own_rof (itoa n) (itoa d) W e (by omega) (by omega)
  rw [ofT_itoa n d (by omega) (by omega)] at hr
  have HB:=Lib.hid hb;clear hb
  have HC:=Lib.hid hc;clear hc
  have HR:=Lib.hid hr;clear hr
  have ENV:=Lib.hid env;clear env i1 i2 l1 l2
  generalize itoa n = tn at *
  generalize itoa d = td at *
  generalize partT n d = v at *
  go_enter Tryz.func133,Tryz.ntmps133
  go_wp2_with fail
  refine (HB.out).mono ?_
  rintro e w1 ⟨rfl,hb1⟩
  have HB1:=Lib.hid hb1;clear hb1
  go_wp2_with fail
  refine (HC.out _ (ENV.out.below HB1.out)).mono ?_
  rintro e w2 ⟨rfl,hb2⟩
  have HB2:=Lib.hid (bch' HB1.out hb2);clear hb2
  go_wp2_with fail
  refine (HR.out _ (ENV.out.below HB2.out)).mono ?_
  rintro e w3 ⟨rfl,hb3⟩
  have HB3:=Lib.hid (bch' HB2.out hb3);clear hb3
  go_wp2
  go_ret2
  exact ⟨rfl,HB3.out⟩
end Go.Proofs.YtmjkenlifgmeeaaGreatDoor

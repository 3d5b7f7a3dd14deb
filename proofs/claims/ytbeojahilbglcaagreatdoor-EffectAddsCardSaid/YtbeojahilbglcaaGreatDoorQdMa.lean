/- A part of the proof of EffectAdds: contracts of functions, and plain facts. -/
import Derived.Lib.ItoaMem
import Derived.Lib.Strings
set_option linter.unusedVariables false
set_option linter.unusedSimpArgs false
namespace Lum
open Go.Lib (decDigits itoa)
abbrev Txt:=List UInt8
def isDig (c:UInt8):Bool:=decide (48 ≤ c.toNat) && decide (c.toNat ≤ 57)
def natOf (l:Txt):Nat:=l.foldl (fun n c => 10 * n + (c.toNat - 48)) 0
theorem natOf_foldl (l:Txt) (a:Nat):l.foldl (fun n c => 10 * n + (c.toNat - 48)) a = a * 10 ^ l.length + natOf l:=by
  induction l generalizing a with
  | nil => simp [natOf]
  | cons c r ih =>
    have h2:natOf (c :: r) = (c.toNat - 48) * 10 ^ r.length + natOf r:=by
      show List.foldl _ _ _ = _
      rw [List.foldl_cons,ih];simp
    rw [List.foldl_cons,ih,h2,List.length_cons,Nat.pow_succ]
    grind
theorem natOf_append (a b:Txt):natOf (a ++ b) = natOf a * 10 ^ b.length + natOf b:=by
  rw [natOf,List.foldl_append,natOf_foldl];rfl
theorem natOf_one (c:UInt8):natOf [c] = c.toNat - 48:=by simp [natOf]
theorem natOf_cons (c:UInt8) (l:Txt):natOf (c :: l) = (c.toNat - 48) * 10 ^ l.length + natOf l:=by
  have:=natOf_append [c] l
  rwa [natOf_one] at this
theorem natOf_snoc (l:Txt) (c:UInt8):natOf (l ++ [c]) = 10 * natOf l + (c.toNat - 48):=by
  rw [natOf_append,natOf_one];simp;omega
theorem dig_toNat {d:Nat} (h:d < 10):(UInt8.ofNat (48 + d)).toNat = 48 + d:=by
  simp;omega
theorem isDig_of {d:Nat} (h:d < 10):isDig (UInt8.ofNat (48 + d)) = true:=by
  unfold isDig;rw [dig_toNat h];simp;omega
theorem isDig_iff (c:UInt8):isDig c = true ↔ 48 ≤ c.toNat ∧ c.toNat ≤ 57:=by simp [isDig]
theorem dig_eq {c:UInt8} (h:isDig c = true):c = UInt8.ofNat (48 + (c.toNat - 48)):=by
  obtain ⟨h1,h2⟩:=(isDig_iff c).1 h
  apply UInt8.toNat_inj.1
  rw [dig_toNat (by omega)];omega
theorem dec_small {u:Nat} (h:u < 10):decDigits u = [UInt8.ofNat (48 + u)]:=by rw [decDigits,dif_pos h]
theorem dec_big {u:Nat} (h:¬ u < 10):decDigits u = decDigits (u / 10) ++ [UInt8.ofNat (48 + u % 10)]:=by rw [decDigits,dif_neg h]
theorem dec_digits (u:Nat):(decDigits u).all isDig = true:=by
  induction u using Nat.strongRecOn with
  | _ u ih =>
    by_cases h:u < 10
    · rw [dec_small h];simp only [List.all_cons,List.all_nil,Bool.and_true];exact isDig_of h
    · rw [dec_big h,List.all_append,ih _ (by omega)]
      simp only [List.all_cons,List.all_nil,Bool.and_true,Bool.true_and];exact isDig_of (by omega)
theorem natOf_dec (u:Nat):natOf (decDigits u) = u:=by
  induction u using Nat.strongRecOn with
  | _ u ih =>
    by_cases h:u < 10
    · rw [dec_small h,natOf_one,dig_toNat h];omega
    · rw [dec_big h,natOf_snoc,ih _ (by omega),dig_toNat (by omega)];omega
theorem dec_ne (u:Nat):decDigits u ≠ []:=by
  by_cases h:u < 10
  · rw [dec_small h];simp
  · rw [dec_big h];simp
theorem dec_zero:decDigits 0 = [48]:=by rw [dec_small (by omega)];rfl
theorem dec_head (u:Nat) (h0:u ≠ 0):∀ c,(decDigits u).head? = some c → c ≠ 48:=by
  induction u using Nat.strongRecOn with
  | _ u ih =>
    intro c hc
    by_cases h:u < 10
    · rw [dec_small h] at hc;simp only [List.head?_cons,Option.some.injEq] at hc
      intro e;have h1:=dig_toNat h;rw [hc,e] at h1;simp at h1;omega
    · rw [dec_big h,List.head?_append] at hc
      rcases hd:(decDigits (u / 10)).head? with _ | d
      · exact absurd (List.head?_eq_none_iff.1 hd) (dec_ne _)
      · rw [hd] at hc;simp at hc;subst hc;exact ih _ (by omega) (by omega) _ hd
theorem dec_inj {a b:Nat} (h:decDigits a = decDigits b):a = b:=by rw [← natOf_dec a,h,natOf_dec]
theorem natOf_lt (l:Txt) (h:l.all isDig = true):natOf l < 10 ^ l.length:=by
  induction l with
  | nil => simp [natOf]
  | cons c r ih =>
    simp only [List.all_cons,Bool.and_eq_true] at h
    have h1:=(isDig_iff c).1 h.1
    have h2:=ih h.2
    rw [natOf_cons,List.length_cons,Nat.pow_succ]
    have:(c.toNat - 48) * 10 ^ r.length ≤ 9 * 10 ^ r.length:=Nat.mul_le_mul_right _ (by omega)
    omega
def canon (l:Txt):Bool:=!l.isEmpty && l.all isDig && (l.head? != some 48 || l == [48])
theorem le_natOf (c:UInt8) (r:Txt) (h:48 < c.toNat):10 ^ r.length ≤ natOf (c :: r):=by
  rw [natOf_cons]
  have:1 * 10 ^ r.length ≤ (c.toNat - 48) * 10 ^ r.length:=Nat.mul_le_mul_right _ (by omega)
  omega
theorem dec_natOf_aux (l:Txt) (hd:l.all isDig = true) (c:UInt8) (hc:l.head? = some c) (h0:c ≠ 48):decDigits (natOf l) = l:=by
  generalize hn:l.length = n
  induction n using Nat.strongRecOn generalizing l c with
  | _ n ih =>
    rcases List.eq_nil_or_concat l with rfl | ⟨r,x,rfl⟩
    · simp at hc
    · simp only [List.concat_eq_append] at *
      simp only [List.all_append,List.all_cons,List.all_nil,Bool.and_true,Bool.and_eq_true] at hd
      have hx:=(isDig_iff x).1 hd.2
      rw [natOf_snoc]
      cases r with
      | nil =>
        simp [natOf]
        rw [dec_small (by omega),← dig_eq hd.2]
      | cons y r' =>
        simp at hc;subst hc
        have hy:=(isDig_iff y).1 (by simp at hd;exact hd.1.1)
        have hne:y.toNat ≠ 48:=fun e => h0 (UInt8.toNat_inj.1 (by simpa using e))
        have h1:=le_natOf y r' (by omega)
        have h2:1 ≤ 10 ^ r'.length:=Nat.one_le_pow _ _ (by omega)
        rw [dec_big (by omega)]
        have e1:(10 * natOf (y :: r') + (x.toNat - 48)) / 10 = natOf (y :: r'):=by omega
        have e2:(10 * natOf (y :: r') + (x.toNat - 48)) % 10 = x.toNat - 48:=by omega
        rw [e1,e2,ih (y :: r').length (by simp at hn;simp;omega) (y :: r') hd.1 y rfl h0 rfl,← dig_eq hd.2]
theorem dec_natOf (l:Txt) (h:canon l = true):decDigits (natOf l) = l:=by
  simp only [canon,Bool.and_eq_true,Bool.or_eq_true,bne_iff_ne,beq_iff_eq,Bool.not_eq_true'] at h
  obtain ⟨⟨h1,h2⟩,h3⟩:=h
  rcases h3 with h3 | rfl
  · cases l with
    | nil => simp at h1
    | cons c r => exact dec_natOf_aux _ h2 c rfl (fun e => h3 (by simp [e]))
  · simp [natOf,dec_zero]
theorem canon_dec (u:Nat):canon (decDigits u) = true:=by
  simp only [canon,Bool.and_eq_true,Bool.or_eq_true,bne_iff_ne,beq_iff_eq,Bool.not_eq_true']
  refine ⟨⟨by simpa [List.isEmpty_iff] using dec_ne u,dec_digits u⟩,?_⟩
  by_cases h:u = 0
  · subst h;exact .inr dec_zero
  · exact .inl fun e => dec_head u h _ e rfl
theorem dec_length_lt (u k:Nat) (hk:1 ≤ k):(decDigits u).length ≤ k ↔ u < 10 ^ k:=by
  constructor
  · intro h
    have:=natOf_lt _ (dec_digits u)
    rw [natOf_dec] at this
    exact Nat.lt_of_lt_of_le this (Nat.pow_le_pow_right (by omega) h)
  · intro h
    by_cases h0:u = 0
    · subst h0;rw [dec_zero];simpa using hk
    · rcases hd:decDigits u with _ | ⟨c,r⟩
      · simp
      · have hc:=dec_head u h0 c (by rw [hd];rfl)
        have hdg:=dec_digits u;rw [hd] at hdg;simp at hdg
        have h1:=(isDig_iff c).1 hdg.1
        have hne:c.toNat ≠ 48:=fun e => hc (UInt8.toNat_inj.1 (by simpa using e))
        have h2:=le_natOf c r (by omega)
        have h3:=natOf_dec u;rw [hd] at h3;rw [h3] at h2
        have:=(Nat.pow_lt_pow_iff_right (a:=10) (by omega)).1 (Nat.lt_of_le_of_lt h2 h)
        simp;omega
theorem dec_length_pos (u:Nat):1 ≤ (decDigits u).length:=by
  have:=dec_ne u;cases h:decDigits u with
  | nil => exact absurd h this
  | cons => simp
def body (l:Txt):Txt:=if l.head? = some 45 then l.tail else l
def minus (l:Txt):Bool:=l.head? == some 45
def zOf (l:Txt):Int:=if minus l then -(natOf (body l):Int) else natOf (body l)
def shaped (l:Txt):Bool:=canon (body l) && !(minus l && (body l).head? == some 48)
theorem dec_head_ne45 (u:Nat):(decDigits u).head? ≠ some 45:=by
  intro h
  have hd:=dec_digits u
  cases e:decDigits u with
  | nil => exact dec_ne u e
  | cons c r => rw [e] at h hd;simp at h hd;subst h;exact absurd hd.1 (by decide)
theorem itoa_nat (n:Nat):itoa (n:Int) = decDigits n:=Go.Lib.itoa_nonneg n
theorem itoa_negsucc (n:Nat) (h:1 ≤ n):itoa (-(n:Int)) = 45 :: decDigits n:=Go.Lib.itoa_neg n h
theorem body_itoa (z:Int):body (itoa z) = decDigits z.natAbs:=by
  unfold itoa
  split
  · simp [body]
  · rw [body,if_neg (dec_head_ne45 _)];congr 1;omega
theorem minus_itoa (z:Int):minus (itoa z) = decide (z < 0):=by
  unfold itoa
  split
  · simp [minus, *]
  · have:=dec_head_ne45 z.toNat
    simp only [minus];rw [decide_eq_false (by assumption)];simpa using this
theorem zOf_itoa (z:Int):zOf (itoa z) = z:=by
  rw [zOf,body_itoa,minus_itoa,natOf_dec]
  split <;> simp_all <;> omega
theorem itoa_inj {a b:Int} (h:itoa a = itoa b):a = b:=by rw [← zOf_itoa a,h,zOf_itoa]
theorem shaped_itoa (z:Int):shaped (itoa z) = true:=by
  rw [shaped,body_itoa,minus_itoa,canon_dec]
  simp only [Bool.true_and,Bool.not_eq_true',Bool.and_eq_false_iff,decide_eq_false_iff_not]
  by_cases h:z < 0
  · right
    have:=dec_head z.natAbs (by omega)
    cases e:(decDigits z.natAbs).head? with
    | none => rfl
    | some c => have:=this c e;simp [this]
  · left;exact h
theorem itoa_zOf (l:Txt) (h:shaped l = true):itoa (zOf l) = l:=by
  simp only [shaped,Bool.and_eq_true,Bool.not_eq_true'] at h
  have h1:=dec_natOf _ h.1
  rw [zOf]
  cases hm:minus l with
  | true =>
    simp only [hm,Bool.true_and] at h
    have hl:l = 45 :: body l:=by
      simp only [minus,beq_iff_eq] at hm
      cases l with
      | nil => simp at hm
      | cons c r => simp at hm;subst hm;simp [body]
    have h0:natOf (body l) ≠ 0:=by
      intro e;rw [e,dec_zero] at h1;rw [← h1] at h;simp at h
    simp only [if_true]
    rw [itoa_negsucc _ (by omega),h1];exact hl.symm
  | false =>
    simp only [Bool.false_eq_true,if_false]
    rw [itoa_nat,h1]
    simp only [minus,beq_eq_false_iff_ne] at hm
    rw [body,if_neg hm]
theorem shaped_iff (l:Txt):shaped l = true ↔ ∃ z,l = itoa z :=
  ⟨fun h => ⟨_,(itoa_zOf l h).symm⟩,fun ⟨z,e⟩ => e ▸ shaped_itoa z⟩
theorem itoa_ne (z:Int):itoa z ≠ []:=by
  unfold itoa;split
  · simp
  · exact dec_ne _
theorem itoa_zero:itoa 0 = [48]:=by rw [show (0:Int) = ((0:Nat):Int) from rfl,itoa_nat,dec_zero]
theorem itoa_one:itoa 1 = [49]:=by rw [show (1:Int) = ((1:Nat):Int) from rfl,itoa_nat,dec_small (by omega)];rfl
theorem itoa_len (z:Int):(itoa z).length ≤ (decDigits z.natAbs).length + 1:=by
  unfold itoa;split
  · simp
  · have:z.toNat = z.natAbs:=by omega
    rw [this];omega
theorem dig_ne47 {l:Txt} (h:l.all isDig = true):(47:UInt8) ∉ l:=by
  intro hm;rw [List.all_eq_true] at h;exact absurd (h _ hm) (by decide)
theorem itoa_ne47 (z:Int):(47:UInt8) ∉ itoa z:=by
  unfold itoa;split
  · simp only [List.mem_cons,not_or];exact ⟨by decide,dig_ne47 (dec_digits _)⟩
  · exact dig_ne47 (dec_digits _)
end Lum
namespace Lum
open Go.Lib (decDigits itoa)
def LIM:Nat:=10 ^ 4096
def long (z:Int):Bool:=decide (4096 < (decDigits z.natAbs).length)
theorem long_iff (z:Int):long z = false ↔ z.natAbs < LIM:=by
  unfold long LIM
  rw [decide_eq_false_iff_not,Nat.not_lt,dec_length_lt _ _ (by omega)]
def showR (q:Rat):Txt:=if q.den = 1 then itoa q.num else itoa q.num ++ 47 :: decDigits q.den
def hasSlash (l:Txt):Bool:=l.contains 47
def top (l:Txt):Txt:=l.takeWhile (· != 47)
def bot (l:Txt):Txt:=if hasSlash l then (l.dropWhile (· != 47)).tail else [49]
theorem takeWhile_ne (l r:Txt) (h:(47:UInt8) ∉ l):(l ++ 47 :: r).takeWhile (· != 47) = l:=by
  induction l with
  | nil => simp
  | cons c l ih =>
    simp at h
    rw [List.cons_append,List.takeWhile_cons,if_pos (by simpa using fun e:c = 47 => h.1 e.symm),ih h.2]
theorem dropWhile_ne (l r:Txt) (h:(47:UInt8) ∉ l):(l ++ 47 :: r).dropWhile (· != 47) = 47 :: r:=by
  induction l with
  | nil => simp
  | cons c l ih =>
    simp at h
    rw [List.cons_append,List.dropWhile_cons,if_pos (by simpa using fun e:c = 47 => h.1 e.symm),ih h.2]
theorem takeWhile_all (l:Txt) (h:(47:UInt8) ∉ l):l.takeWhile (· != 47) = l:=by
  induction l with
  | nil => simp
  | cons c l ih =>
    simp at h
    rw [List.takeWhile_cons,if_pos (by simpa using fun e:c = 47 => h.1 e.symm),ih h.2]
theorem split_slash (l:Txt) (h:hasSlash l = true):l = top l ++ 47 :: bot l:=by
  rw [bot,if_pos h,top]
  induction l with
  | nil => simp [hasSlash] at h
  | cons c l ih =>
    by_cases e:c = 47
    · subst e;simp
    · rw [List.takeWhile_cons,List.dropWhile_cons,if_pos (by simpa using e),if_pos (by simpa using e),List.cons_append]
      rw [← ih (by simp [hasSlash] at h ⊢;rcases h with h | h;exact absurd h.symm e;exact h)]
theorem top_noslash (l:Txt) (h:hasSlash l = false):top l = l:=takeWhile_all l (by simpa [hasSlash] using h)
theorem bot_noslash (l:Txt) (h:hasSlash l = false):bot l = [49]:=by rw [bot,if_neg (by simp [h])]
theorem hasSlash_showR (q:Rat):hasSlash (showR q) = decide (q.den ≠ 1):=by
  unfold showR hasSlash
  split
  · have:=itoa_ne47 q.num;simp_all
  · simp_all
theorem top_showR (q:Rat):top (showR q) = itoa q.num:=by
  unfold showR top
  split
  · exact takeWhile_all _ (itoa_ne47 _)
  · exact takeWhile_ne _ _ (itoa_ne47 _)
theorem bot_showR (q:Rat):bot (showR q) = decDigits q.den:=by
  unfold bot
  rw [hasSlash_showR]
  split
  · rename_i h
    simp only [ne_eq,decide_eq_true_eq] at h
    rw [showR,if_neg h,dropWhile_ne _ _ (itoa_ne47 _)];rfl
  · rename_i h
    simp only [ne_eq,decide_eq_true_eq,Decidable.not_not] at h
    rw [h,dec_small (by omega)];rfl
def valR (l:Txt):Rat:=mkRat (zOf (top l)) (zOf (bot l)).natAbs
theorem zOf_dec (n:Nat):zOf (decDigits n) = n:=by rw [← itoa_nat,zOf_itoa]
theorem valR_showR (q:Rat):valR (showR q) = q:=by
  rw [valR,top_showR,bot_showR,zOf_itoa,zOf_dec,Int.natAbs_natCast,Rat.mkRat_self]
def ratCheck (l:Txt):Int :=
  if shaped (top l) = false ∨ shaped (bot l) = false ∨ (hasSlash l = true ∧ zOf (bot l) ≤ 1) then 3
  else if long (zOf (top l)) = true ∨ long (zOf (bot l)) = true then 23
  else if Nat.gcd (zOf (top l)).natAbs (zOf (bot l)).natAbs ≠ 1 then 3 else 0
def Fit (q:Rat):Prop:=q.num.natAbs < LIM ∧ q.den < LIM
theorem ratCheck_showR (q:Rat) (h:Fit q):ratCheck (showR q) = 0:=by
  rw [ratCheck,top_showR,bot_showR,hasSlash_showR,zOf_itoa,zOf_dec,shaped_itoa,← itoa_nat,shaped_itoa,if_neg,if_neg,if_neg]
  · have:=q.reduced;simpa [Nat.Coprime] using this
  · rw [(long_iff _).2 h.1,(long_iff _).2 (by simpa using h.2)];simp
  · have:=q.den_pos;simp;omega
theorem ratCheck_zero (l:Txt) (h:ratCheck l = 0):∃ q,l = showR q ∧ Fit q:=by
  rw [ratCheck] at h
  split at h
  · cases h
  rename_i h1
  split at h
  · cases h
  rename_i h2
  split at h
  · cases h
  rename_i h3
  simp only [not_or,Bool.not_eq_false,not_and,Bool.not_eq_true,Int.not_le,ne_eq,Decidable.not_not] at h1 h2 h3
  obtain ⟨a1,a2,a3⟩:=h1
  have b1:=itoa_zOf _ a1
  have b2:=itoa_zOf _ a2
  by_cases hs:hasSlash l = true
  · have a4:=a3 hs
    obtain ⟨d,hd⟩:∃ d:Nat,zOf (bot l) = d:=⟨(zOf (bot l)).toNat,by omega⟩
    refine ⟨⟨zOf (top l),d,by omega,by rw [hd] at h3;simpa using h3⟩,?_,(long_iff _).1 h2.1,?_⟩
    · have e:=split_slash l hs
      rw [hd,itoa_nat] at b2
      rw [showR,if_neg (by simp;omega)]
      simp only
      rw [b1,b2];exact e
    · have:=(long_iff _).1 h2.2;rw [hd] at this;simpa using this
  · simp only [Bool.not_eq_true] at hs
    refine ⟨⟨zOf (top l),1,by omega,by simp⟩,?_,(long_iff _).1 h2.1,?_⟩
    · rw [showR,if_pos rfl];simp only
      rw [b1,top_noslash l hs]
    · show 1 < LIM
      have h2b:=(long_iff _).1 h2.2
      rw [bot_noslash l hs] at h2b
      have:(zOf [49]).natAbs = 1:=by decide
      omega
def rTwo (a b:Txt) (r:Rat → Rat → Txt × Int):Txt × Int :=
  if ratCheck a ≠ 0 then ([],ratCheck a) else if ratCheck b ≠ 0 then ([],ratCheck b) else r (valR a) (valR b)
def qAdd (x y:Rat):Txt × Int :=
  if long (x.num * y.den) || long (y.num * x.den) || long (x.num * y.den + y.num * x.den) || long ((x.den:Int) * y.den) then ([],23) else (showR (x + y),0)
def qSub (x y:Rat):Txt × Int :=
  if long (x.num * y.den) || long (y.num * x.den) || long (x.num * y.den - y.num * x.den) || long ((x.den:Int) * y.den) then ([],23) else (showR (x - y),0)
def qMul (x y:Rat):Txt × Int :=
  if long (x.num * y.num) || long ((x.den:Int) * y.den) then ([],23) else (showR (x * y),0)
def qDiv (x y:Rat):Txt × Int :=
  if y = 0 then ([],15) else if long (x.num * y.den) || long ((x.den:Int) * y.num) then ([],23) else (showR (x / y),0)
def sgn (x y:Rat):Int:=if x < y then -1 else if y < x then 1 else 0
def qCmp (x y:Rat):Int × Int :=
  if long (x.num * y.den) || long (y.num * x.den) then (0,23) else (sgn x y,0)
theorem add_divInt (x y:Rat):x + y = Rat.divInt (x.num * y.den + y.num * x.den) ((x.den:Int) * y.den):=by
  rw [Rat.add_def',← Rat.divInt_ofNat];simp
theorem sub_divInt (x y:Rat):x - y = Rat.divInt (x.num * y.den - y.num * x.den) ((x.den:Int) * y.den):=by
  rw [Rat.sub_def',← Rat.divInt_ofNat];simp
theorem mul_divInt (x y:Rat):x * y = Rat.divInt (x.num * y.num) ((x.den:Int) * y.den):=by
  rw [Rat.mul_def',← Rat.divInt_ofNat];simp
theorem div_divInt (x y:Rat):x / y = Rat.divInt (x.num * y.den) ((x.den:Int) * y.num):=by
  rw [Rat.div_def,Rat.inv_def,← Rat.num_divInt_den x,Rat.divInt_mul_divInt,Rat.num_divInt_den]
theorem lt_cross (x y:Rat):x < y ↔ x.num * y.den < y.num * x.den:=Rat.lt_iff x y
end Lum
namespace Lum
open Go.Lib (decDigits itoa)
def B9:Nat:=1000000000
theorem B9_pos:0 < B9:=by decide
theorem B9_eq:B9 = 10 ^ 9:=by decide
theorem B9_num:B9 = 1000000000:=rfl
def mv (b : Nat) : List Nat → Nat
  | [] => 0
  | d :: r => d + b * mv b r
theorem mv_append (b:Nat) (x y:List Nat):mv b (x ++ y) = mv b x + b ^ x.length * mv b y:=by
  induction x with
  | nil => simp [mv]
  | cons d r ih => simp only [List.cons_append,mv,ih,List.length_cons,Nat.pow_succ];grind
theorem mv_snoc (b:Nat) (a:List Nat) (d:Nat):mv b (a ++ [d]) = mv b a + b ^ a.length * d:=by rw [mv_append];simp [mv]
theorem mv_lt_step (b d m k:Nat) (h1:d < b) (h2:m < b ^ k):d + b * m < b ^ (k + 1):=by
  have h3:b * (m + 1) ≤ b * b ^ k:=Nat.mul_le_mul_left _ h2
  rw [Nat.pow_succ,Nat.mul_comm (b ^ k) b]
  rw [Nat.mul_add] at h3
  omega
theorem mv_lt (b:Nat) (l:List Nat) (h:∀ d ∈ l,d < b):mv b l < b ^ l.length:=by
  induction l with
  | nil => simp [mv]
  | cons d r ih =>
    have h1:=h d (by simp)
    have h2:=ih fun x hx => h x (by simp [hx])
    simp only [mv,List.length_cons]
    exact mv_lt_step _ _ _ _ h1 h2
theorem mv_zeros (b k:Nat):mv b (List.replicate k 0) = 0:=by
  induction k with
  | zero => rfl
  | succ k ih => simp [List.replicate_succ,mv,ih]
theorem mv_getD (b:Nat) (hb:0 < b) (l:List Nat) (h:∀ d ∈ l,d < b) (i:Nat):l.getD i 0 = mv b l / b ^ i % b:=by
  induction l generalizing i with
  | nil => simp [mv]
  | cons d r ih =>
    have hd:=h d (by simp)
    have ih:=fun i => ih (fun x hx => h x (by simp [hx])) i
    cases i with
    | zero => simp [mv,Nat.add_mul_mod_self_left,Nat.mod_eq_of_lt hd]
    | succ i =>
      rw [List.getD_cons_succ,ih,mv,Nat.pow_succ,Nat.mul_comm (b ^ i) b,← Nat.div_div_eq_div_mul,Nat.add_mul_div_left _ _ hb,Nat.div_eq_of_lt hd,Nat.zero_add]
theorem mv_set (b:Nat) (l:List Nat) (i d:Nat) (h:i < l.length):mv b (l.set i d) + b ^ i * l.getD i 0 = mv b l + b ^ i * d:=by
  induction l generalizing i with
  | nil => simp at h
  | cons x r ih =>
    cases i with
    | zero => simp [mv];omega
    | succ i =>
      have:=ih i (by simpa using h)
      simp only [List.set_cons_succ,mv,List.getD_cons_succ,Nat.pow_succ]
      grind
theorem mod_succ (b n i:Nat):n % b ^ (i + 1) = n % b ^ i + b ^ i * (n / b ^ i % b):=by
  rw [Nat.pow_succ];exact Nat.mod_mul
theorem mod_all (b n i:Nat) (h:n < b ^ i):n % b ^ i = n:=Nat.mod_eq_of_lt h
def magL (n:Nat):List Nat:=if _h:n = 0 then [] else n % B9 :: magL (n / B9)
termination_by n
decreasing_by exact Nat.div_lt_self (by omega) (by decide)
theorem magL_zero:magL 0 = []:=by rw [magL];simp
theorem magL_pos {n:Nat} (h:n ≠ 0):magL n = n % B9 :: magL (n / B9):=by rw [magL,dif_neg h]
theorem magL_lt (n:Nat):∀ d ∈ magL n,d < B9:=by
  induction n using Nat.strongRecOn with
  | _ n ih =>
    by_cases h:n = 0
    · subst h;simp [magL_zero]
    · rw [magL_pos h]
      intro d hd
      rcases List.mem_cons.1 hd with rfl | hd
      · exact Nat.mod_lt _ B9_pos
      · exact ih _ (Nat.div_lt_self (by omega) (by decide)) d hd
theorem mv_magL (n:Nat):mv B9 (magL n) = n:=by
  induction n using Nat.strongRecOn with
  | _ n ih =>
    by_cases h:n = 0
    · subst h;simp [magL_zero,mv]
    · rw [magL_pos h,mv,ih _ (Nat.div_lt_self (by omega) (by decide))]
      exact Nat.mod_add_div n B9
theorem magL_getD (n i:Nat):(magL n).getD i 0 = n / B9 ^ i % B9:=by
  rw [mv_getD B9 B9_pos _ (magL_lt n),mv_magL]
theorem magL_len (n k:Nat):(magL n).length ≤ k ↔ n < B9 ^ k:=by
  induction k generalizing n with
  | zero =>
    by_cases h:n = 0
    · subst h;simp [magL_zero]
    · rw [magL_pos h];simp;omega
  | succ k ih =>
    by_cases h:n = 0
    · subst h;simp [magL_zero];exact Nat.pow_pos B9_pos
    · rw [magL_pos h,List.length_cons,Nat.add_le_add_iff_right,ih,Nat.div_lt_iff_lt_mul B9_pos,Nat.pow_succ]
theorem magL_ne (n:Nat) (h:n ≠ 0):0 < (magL n).length:=by rw [magL_pos h];simp
theorem magL_nil {n:Nat}:(magL n).length = 0 ↔ n = 0:=by
  constructor
  · intro h;by_cases h0:n = 0
    · exact h0
    · have:=magL_ne n h0;omega
  · rintro rfl;simp [magL_zero]
theorem magL_top (n:Nat) (h:n ≠ 0):B9 ^ ((magL n).length - 1) ≤ n:=by
  have h0:=magL_ne n h
  rcases Nat.lt_or_ge n (B9 ^ ((magL n).length - 1)) with h1 | h1
  · have:=(magL_len n _).2 h1;omega
  · exact h1
theorem lt_len (n:Nat):n < B9 ^ (magL n).length:=(magL_len n _).1 (Nat.le_refl _)
theorem magL_mono {m n:Nat} (h:m ≤ n):(magL m).length ≤ (magL n).length:=(magL_len _ _).2 (Nat.lt_of_le_of_lt h (lt_len n))
theorem magL_mv (l:List Nat) (h:∀ d ∈ l,d < B9) (h0:l.getLast? ≠ some 0):magL (mv B9 l) = l:=by
  induction l with
  | nil => simp [mv,magL_zero]
  | cons d r ih =>
    have hd:=h d (by simp)
    have hr:r.getLast? ≠ some 0:=by
      cases r with
      | nil => simp
      | cons x y => simpa [List.getLast?_cons_cons] using h0
    have ih':=ih (fun x hx => h x (by simp [hx])) hr
    have hne:mv B9 (d :: r) ≠ 0:=by
      simp only [mv]
      intro e
      have e1:d = 0:=by omega
      have e2:mv B9 r = 0:=by
        rcases Nat.eq_zero_or_pos (mv B9 r) with h | h
        · exact h
        · have:=Nat.mul_pos B9_pos h;omega
      rw [e2,magL_zero] at ih'
      subst e1;rw [← ih'] at h0;simp at h0
    rw [magL_pos hne]
    have e1:mv B9 (d :: r) % B9 = d:=by rw [mv,Nat.add_mul_mod_self_left,Nat.mod_eq_of_lt hd]
    have e2:mv B9 (d :: r) / B9 = mv B9 r:=by rw [mv,Nat.add_mul_div_left _ _ B9_pos,Nat.div_eq_of_lt hd];omega
    rw [e1,e2,ih']
theorem cut_at (l : List Nat) (h : ∀ d ∈ l, d < B9) (k : Nat) (hk : k ≤ l.length) (hz : ∀ i, k ≤ i → i < l.length → l.getD i 0 = 0)
    (hl:k = 0 ∨ l.getD (k - 1) 0 ≠ 0):magL (mv B9 l) = l.take k:=by
  have e:l = l.take k ++ List.replicate (l.length - k) 0:=by
    apply List.ext_getElem
    · simp;omega
    · intro i h1 h2
      by_cases hi:i < k
      · rw [List.getElem_append_left (by simp;omega)];simp
      · rw [List.getElem_append_right (by simp;omega)]
        have:=hz i (by omega) h1
        rw [List.getElem_replicate]
        simpa [List.getD_eq_getElem?_getD,h1] using this
  have e2:mv B9 l = mv B9 (l.take k):=by
    conv => lhs;rw [e]
    rw [mv_append,mv_zeros];simp
  rw [e2]
  refine magL_mv _ (fun d hd => h d (List.mem_of_mem_take hd)) ?_
  rcases hl with rfl | hl
  · simp
  · by_cases h0:k = 0
    · subst h0;simp
    · rw [List.getLast?_eq_getElem?,List.length_take,Nat.min_eq_left hk,List.getElem?_take,if_pos (by omega)]
      intro e3
      rw [List.getD_eq_getElem?_getD,e3] at hl
      simp at hl
theorem natOf_zeros (k:Nat) (l:Txt):natOf (List.replicate k 48 ++ l) = natOf l:=by
  induction k with
  | zero => simp
  | succ k ih => rw [List.replicate_succ,List.cons_append,natOf_cons,ih];simp
def padk (k w:Nat):Txt:=List.replicate (k - (decDigits w).length) 48 ++ decDigits w
theorem padk_len (k w:Nat) (hk:1 ≤ k) (h:w < 10 ^ k):(padk k w).length = k:=by
  have:=(dec_length_lt w k hk).2 h
  simp [padk];omega
theorem padk_digits (k w:Nat):(padk k w).all isDig = true:=by
  rw [padk,List.all_append,dec_digits]
  simp only [Bool.and_true,List.all_eq_true,List.mem_replicate]
  rintro c ⟨_,rfl⟩;decide
theorem dec_word (k a w:Nat) (hk:1 ≤ k) (ha:a ≠ 0) (hw:w < 10 ^ k):decDigits (a * 10 ^ k + w) = decDigits a ++ padk k w:=by
  have h1:canon (decDigits a ++ padk k w) = true:=by
    simp only [canon,Bool.and_eq_true,Bool.or_eq_true,bne_iff_ne,beq_iff_eq,Bool.not_eq_true']
    refine ⟨⟨?_,?_⟩,.inl ?_⟩
    · have:=dec_ne a;cases h:decDigits a with
      | nil => exact absurd h this
      | cons => simp
    · rw [List.all_append,dec_digits,padk_digits];rfl
    · rw [List.head?_append]
      rcases hd:(decDigits a).head? with _ | d
      · exact absurd (List.head?_eq_none_iff.1 hd) (dec_ne _)
      · simpa using dec_head a ha d hd
  have h2:natOf (decDigits a ++ padk k w) = a * 10 ^ k + w:=by
    rw [natOf_append,natOf_dec,padk_len k w hk hw,padk,natOf_zeros,natOf_dec]
  rw [← h2,dec_natOf _ h1]
theorem carry_le (b c x y:Nat) (hc:c ≤ 1) (hx:x < b) (hy:y < b):(c + (x + y)) / b ≤ 1:=by
  have hb:0 < b:=by omega
  have:(c + (x + y)) / b < 2:=(Nat.div_lt_iff_lt_mul hb).2 (by omega)
  omega
theorem plus_step (b i m n c V : Nat) (h : V + c * b ^ i = m % b ^ i + n % b ^ i) :
    V + b ^ i * ((c + (m / b ^ i % b + n / b ^ i % b)) % b) + (c + (m / b ^ i % b + n / b ^ i % b)) / b * b ^ (i + 1) = m % b ^ (i + 1) + n % b ^ (i + 1):=by
  rw [mod_succ b m,mod_succ b n]
  generalize m / b ^ i % b = x at *
  generalize n / b ^ i % b = y at *
  have h2:=Nat.mod_add_div (c + (x + y)) b
  generalize (c + (x + y)) % b = r at *
  generalize (c + (x + y)) / b = q at *
  rw [Nat.pow_succ]
  generalize b ^ i = p at *
  grind
theorem plus_end (b i m n c V:Nat) (h:V + c * b ^ i = m % b ^ i + n % b ^ i) (hs:m + n < b ^ i):V = m + n ∧ c = 0:=by
  rw [mod_all b m i (by omega),mod_all b n i (by omega)] at h
  have:c = 0:=by
    rcases Nat.eq_zero_or_pos c with h0 | h0
    · exact h0
    · have:=Nat.mul_le_mul_right (b ^ i) h0;omega
  subst this;omega
theorem less_step (b i m n c V : Nat) (hb : 0 < b) (hc : c ≤ 1) (h : V + n % b ^ i = m % b ^ i + c * b ^ i) :
    V + b ^ i * ((m / b ^ i % b + (b - n / b ^ i % b - c)) % b) + n % b ^ (i + 1) = m % b ^ (i + 1) + (1 - (m / b ^ i % b + (b - n / b ^ i % b - c)) / b) * b ^ (i + 1):=by
  rw [mod_succ b m,mod_succ b n]
  have hx:=Nat.mod_lt (m / b ^ i) hb
  have hy:=Nat.mod_lt (n / b ^ i) hb
  generalize m / b ^ i % b = x at *
  generalize n / b ^ i % b = y at *
  have h2:=Nat.mod_add_div (x + (b - y - c)) b
  have h3:(x + (b - y - c)) / b ≤ 1:=by
    have:(x + (b - y - c)) / b < 2:=(Nat.div_lt_iff_lt_mul hb).2 (by omega)
    omega
  generalize (x + (b - y - c)) % b = r at *
  generalize (x + (b - y - c)) / b = q at *
  rw [Nat.pow_succ]
  generalize b ^ i = p at *
  have hq:q = 0 ∨ q = 1:=by omega
  have hc':c = 0 ∨ c = 1:=by omega
  rcases hq with rfl | rfl <;> rcases hc' with rfl | rfl
  · have:r + y = x + b:=by omega
    grind
  · have:r + y + 1 = x + b:=by omega
    grind
  · have:r + y = x:=by omega
    grind
  · have:r + y + 1 = x:=by omega
    grind
theorem less_end (b i m n c V:Nat) (h:V + n % b ^ i = m % b ^ i + c * b ^ i) (hm:m < b ^ i) (hn:n ≤ m) (hV:V < b ^ i):V = m - n:=by
  rw [mod_all b m i hm,mod_all b n i (by omega)] at h
  have:c = 0:=by
    rcases Nat.eq_zero_or_pos c with h0 | h0
    · exact h0
    · have:=Nat.mul_le_mul_right (b ^ i) h0;omega
  subst this;omega
theorem row_step (b i j v n c V W o : Nat) (h : V + c * b ^ (i + j) = W + v * (n % b ^ j) * b ^ i) (V' : Nat)
    (hV:V' + b ^ (i + j) * o = V + b ^ (i + j) * ((c + (o + v * (n / b ^ j % b))) % b)) :
    V' + (c + (o + v * (n / b ^ j % b))) / b * b ^ (i + (j + 1)) = W + v * (n % b ^ (j + 1)) * b ^ i:=by
  rw [mod_succ b n]
  generalize n / b ^ j % b = x at *
  have h2:=Nat.mod_add_div (c + (o + v * x)) b
  generalize (c + (o + v * x)) % b = r at *
  generalize (c + (o + v * x)) / b = q at *
  rw [← Nat.add_assoc,Nat.pow_succ]
  rw [Nat.pow_add] at *
  generalize b ^ i = p at *
  generalize b ^ j = s at *
  generalize n % s = t at *
  grind
theorem row_carry (b c o v x:Nat) (hb:0 < b) (hc:c < b) (ho:o < b) (hv:v < b) (hx:x < b):c + (o + v * x) < b * b ∧ (c + (o + v * x)) / b < b:=by
  have h1:v * x ≤ (b - 1) * (b - 1):=Nat.mul_le_mul (by omega) (by omega)
  have h2:c + (o + v * x) < b * b:=by
    obtain ⟨k,rfl⟩:∃ k,b = k + 1:=⟨b - 1,by omega⟩
    simp only [Nat.add_sub_cancel] at h1
    grind
  exact ⟨h2,(Nat.div_lt_iff_lt_mul hb).2 h2⟩
theorem row_end (b i ln m n c V : Nat) (hn : n < b ^ (ln + 1)) (hs : m % b ^ (i + 1) * n < b ^ (i + (ln + 1)))
    (h:V + c * b ^ (i + (ln + 1)) = m % b ^ i * n + (m / b ^ i % b) * (n % b ^ (ln + 1)) * b ^ i):V = m % b ^ (i + 1) * n ∧ c = 0:=by
  rw [mod_all b n _ hn] at h
  have e:m % b ^ i * n + m / b ^ i % b * n * b ^ i = m % b ^ (i + 1) * n:=by
    rw [mod_succ b m];grind
  rw [e] at h
  have:c = 0:=by
    rcases Nat.eq_zero_or_pos c with h0 | h0
    · exact h0
    · have:=Nat.mul_le_mul_right (b ^ (i + (ln + 1))) h0;omega
  subst this;omega
theorem word_step (b i m d Q r : Nat) (h : Q * d + r = m / b ^ (i + 1)) :
    (Q * b + (r * b + m / b ^ i % b) / d) * d + (r * b + m / b ^ i % b) % d = m / b ^ i:=by
  have h1:m / b ^ i = m / b ^ (i + 1) * b + m / b ^ i % b:=by
    rw [Nat.pow_succ,← Nat.div_div_eq_div_mul]
    exact (Nat.div_add_mod' (m / b ^ i) b).symm
  rw [← h] at h1
  generalize m / b ^ i % b = x at *
  have h2:=Nat.mod_add_div (r * b + x) d
  generalize (r * b + x) % d = s at *
  generalize (r * b + x) / d = q at *
  rw [h1];grind
theorem word_lt (b d r x:Nat) (hd:0 < d) (hr:r < d) (hx:x < b):(r * b + x) / d < b:=by
  rw [Nat.div_lt_iff_lt_mul hd]
  have:(r + 1) * b ≤ d * b:=Nat.mul_le_mul_right _ hr
  grind
theorem guess_ge (b R d k L : Nat) (hb : 0 < b) (hL : 1 ≤ L) (hd : b ^ (L - 1) ≤ d) (hR : R < d * b ^ (k + 1)) :
    R / (d * b ^ k) ≤ min ((R / b ^ (L + k - 1)) / (d / b ^ (L - 1))) (b - 1):=by
  have hp:0 < b ^ (L - 1):=Nat.pow_pos hb
  have hk:0 < b ^ k:=Nat.pow_pos hb
  have hdt:0 < d / b ^ (L - 1):=Nat.div_pos hd hp
  have hd0:0 < d * b ^ k:=Nat.mul_pos (by omega) hk
  refine Nat.le_min.2 ⟨?_,?_⟩
  · rw [Nat.le_div_iff_mul_le hdt,Nat.le_div_iff_mul_le (Nat.pow_pos hb),show L + k - 1 = (L - 1) + k by omega,Nat.pow_add]
    have h1:=Nat.div_mul_le_self R (d * b ^ k)
    have h2:=Nat.div_mul_le_self d (b ^ (L - 1))
    have h3:R / (d * b ^ k) * (d / b ^ (L - 1) * b ^ (L - 1)) * b ^ k ≤ R / (d * b ^ k) * d * b ^ k:=Nat.mul_le_mul_right _ (Nat.mul_le_mul_left _ h2)
    grind
  · have:R / (d * b ^ k) < b:=by
      rw [Nat.div_lt_iff_lt_mul hd0]
      rw [Nat.pow_succ] at hR;grind
    omega
theorem two_words (b R t:Nat) (hb:0 < b) (ht:1 ≤ t) (hR:R < b ^ (t + 1)):R / b ^ t % b * b + R / b ^ (t - 1) % b = R / b ^ (t - 1):=by
  obtain ⟨s,rfl⟩:∃ s,t = s + 1:=⟨t - 1,by omega⟩
  simp only [Nat.add_sub_cancel]
  have h1:R / b ^ (s + 1) < b:=by
    rw [Nat.div_lt_iff_lt_mul (Nat.pow_pos hb)];rw [Nat.pow_succ b (s + 1)] at hR;grind
  rw [Nat.mod_eq_of_lt h1,Nat.pow_succ,← Nat.div_div_eq_div_mul]
  exact Nat.div_add_mod' _ _
end Lum

/- A part of the proof of EffectAdds: contracts of functions, and plain facts. -/
import Derived.Test.YtbeojahilbglcaaGreatDoorQdMd
set_option maxHeartbeats 2000000
set_option linter.unusedVariables false
set_option linter.unusedSimpArgs false
namespace Lum
open Go.Lib (decDigits itoa)
def dl (x:Int):Nat:=(decDigits x.natAbs).length
def sgnZ (x:Int):Int:=if x = 0 then 0 else if x < 0 then -1 else 1
theorem itoa_eq_zero (x:Int):itoa x = [48] ↔ x = 0:=by
  rw [← itoa_zero];exact ⟨fun h => itoa_inj h,fun h => by rw [h]⟩
theorem sgnT_itoa (x:Int):sgnT (itoa x) = sgnZ x:=by
  unfold sgnT sgnZ
  rw [minus_itoa]
  by_cases h0:x = 0
  · rw [if_pos h0,if_pos ((itoa_eq_zero x).2 h0)]
  · rw [if_neg h0,if_neg (mt (itoa_eq_zero x).1 h0)]
    by_cases h1:x < 0 <;> simp [h1]
theorem negT_itoa (x:Int):negT (itoa x) = itoa (-x):=by
  unfold negT
  rw [minus_itoa]
  by_cases h0:x = 0
  · subst h0;rw [if_pos itoa_zero];rfl
  · rw [if_neg (mt (itoa_eq_zero x).1 h0)]
    by_cases h1:x < 0
    · rw [if_pos (by simpa using h1)]
      unfold itoa
      rw [if_pos h1,if_neg (by omega),List.tail_cons]
      congr 1;omega
    · rw [if_neg (by simpa using h1)]
      unfold itoa
      rw [if_neg h1,if_pos (by omega)]
      congr 2;omega
theorem signedT_dec (n:Nat) (b:Bool):signedT (decDigits n) b = itoa (if b then -(n:Int) else n):=by
  unfold signedT
  by_cases h0:n = 0
  · subst h0;rw [dec_zero];cases b <;> simp [itoa_zero]
  · have:(decDigits n != [48]) = true:=by rw [bne_iff_ne];exact mt (dec_eq_zero n).1 h0
    rw [this]
    cases b
    · simp [itoa_nat]
    · simp [itoa_negsucc n (by omega)]
theorem itoa_len_dl (x:Int):(itoa x).length ≤ dl x + 1:=itoa_len x
theorem dl_len (x:Int):dl x ≤ (itoa x).length:=by
  unfold dl;rw [← body_itoa];exact body_le _
theorem dl_pos (x:Int):1 ≤ dl x:=dec_length_pos _
theorem dl_neg (x:Int):dl (-x) = dl x:=by unfold dl;rw [Int.natAbs_neg]
theorem dl_mono {x y:Int} (h:x.natAbs ≤ y.natAbs):dl x ≤ dl y:=dec_len_mono h
theorem dl_lt (x:Int):x.natAbs < 10 ^ dl x:=(dec_length_lt _ _ (dec_length_pos _)).1 (Nat.le_refl _)
theorem dl_le {x:Int} {k:Nat} (hk:1 ≤ k):dl x ≤ k ↔ x.natAbs < 10 ^ k:=dec_length_lt _ _ hk
theorem dl_mul (x y:Int):dl (x * y) ≤ dl x + dl y:=by
  have h1:=dl_pos x
  rw [dl_le (by omega),Int.natAbs_mul,Nat.pow_add]
  exact Nat.mul_lt_mul_of_lt_of_lt (dl_lt x) (dl_lt y)
theorem dl_add (x y:Int) (k:Nat) (hx:dl x ≤ k) (hy:dl y ≤ k):dl (x + y) ≤ k + 1:=by
  have h1:=dl_pos x
  have h2:=(dl_le (by omega)).1 hx
  have h3:=(dl_le (by omega)).1 hy
  rw [dl_le (by omega),Nat.pow_succ]
  omega
theorem plus_len (m n k:Nat) (hm:(decDigits m).length ≤ k) (hn:(decDigits n).length ≤ k):(decDigits (m + n)).length ≤ k + 1:=by
  have:=dec_length_pos m
  rw [dec_length_lt _ _ (by omega)] at *
  rw [Nat.pow_succ];omega
theorem times_len (m n j k:Nat) (hm:(decDigits m).length ≤ j) (hn:(decDigits n).length ≤ k):(decDigits (m * n)).length ≤ j + k:=by
  have h1:=dec_length_pos m
  have h2:=dec_length_pos n
  rw [dec_length_lt _ _ (by omega)] at *
  rw [Nat.pow_add]
  exact Nat.mul_lt_mul_of_lt_of_lt hm hn
theorem short_abs (x:Int) (h:(itoa x).length ≤ 17):x.natAbs < 100000000000000000:=by
  have h1:=dl_len x
  have:=(dl_le (x:=x) (k:=17) (by omega)).1 (by omega)
  simpa using this
def cmpZ (x y:Int):Int:=if x < y then -1 else if y < x then 1 else 0
end Lum
namespace Go.Proofs.YtbeojahilbglcaaGreatDoor
open Go.RowKit Lum
open Go.Lib (decDigits itoa)
attribute [local go_sem] bs_get bs_extract_end bs_extract_from bs_extract bs_append
theorem r1_body_z (z : Int) (w : World) :
    Calls Tryz.prog 107 #[.string ⟨(itoa z).toArray⟩] w fun e w' => e = .returned (.string ⟨(decDigits z.natAbs).toArray⟩) ∧ w = w':=by
  rw [← body_itoa];exact r1_body _ _
theorem r1_magnitude_z (z : Int) (w : World) :
    Calls Tryz.prog 108 #[.string ⟨(itoa z).toArray⟩] w fun e w' => e = .returned (.string ⟨(decDigits z.natAbs).toArray⟩) ∧ w = w':=by
  rw [← body_itoa];exact r1_magnitude _ _
theorem r1_digits_z (z : Int) (w : World) :
    Calls Tryz.prog 70 #[.string ⟨(itoa z).toArray⟩] w fun e w' => e = .returned (.int .i64 (dl z:Int)) ∧ w = w':=by
  have:=r1_digits (itoa z) w
  rw [body_itoa] at this;exact this
theorem r1_sign_z (z : Int) (w : World) :
    Calls Tryz.prog 69 #[.string ⟨(itoa z).toArray⟩] w fun e w' => e = .returned (.int .i64 (sgnZ z)) ∧ w = w':=by
  rw [← sgnT_itoa];exact r1_sign _ _
theorem r1_negated_z (z : Int) (w : World) (hz : dl z ≤ 20000) :
    Calls Tryz.prog 110 #[.string ⟨(itoa z).toArray⟩] w fun e w' => e = .returned (.string ⟨(itoa (-z)).toArray⟩) ∧ w = w':=by
  rw [← negT_itoa];exact r1_negated _ _ (by have:=itoa_len_dl z;omega)
theorem r1_signed_n (n : Nat) (b : Bool) (w : World) (hn : (decDigits n).length ≤ 100000) :
    Calls Tryz.prog 115 #[.string ⟨(decDigits n).toArray⟩,.bool b] w fun e w' => e = .returned (.string ⟨(itoa (if b then -(n:Int) else n)).toArray⟩) ∧ w = w':=by
  rw [← signedT_dec];exact r1_signed _ _ _ (by omega)
theorem sum_same (x y:Int) (b:Bool) (hx:decide (x < 0) = b) (hy:decide (y < 0) = b):(if b then -((x.natAbs + y.natAbs:Nat):Int) else ((x.natAbs + y.natAbs:Nat):Int)) = x + y:=by
  cases b <;> simp at hx hy ⊢ <;> omega
theorem sgnZ_neg (x:Int):decide (sgnZ x < 0) = decide (x < 0):=by
  unfold sgnZ;repeat' split
  all_goals simp_all
theorem r1_sum (x y : Int) (w : World) (hx : dl x ≤ 20000) (hy : dl y ≤ 20000) :
    Calls Tryz.prog 73 #[.string ⟨(itoa x).toArray⟩,.string ⟨(itoa y).toArray⟩] w fun e w' => e = .returned (.string ⟨(itoa (x + y)).toArray⟩) ∧ Below w.heap.size w w':=by
  by_cases hs:(itoa x).length ≤ 17 ∧ (itoa y).length ≤ 17
  · obtain ⟨h1,h2⟩:=hs
    have a1:=short_abs x h1
    have a2:=short_abs y h2
    have d1:decide ((itoa x).length ≤ 17) = true:=by simpa using h1
    have d2:decide ((itoa y).length ≤ 17) = true:=by simpa using h2
    go_enter Tryz.func73,Tryz.ntmps73
    go_wp2_with (first | (go_at_call 112;refine (r1_short _ _).mono ?_;rintro e w' ⟨rfl,rfl⟩) | (go_at_call 114;refine (r1_number _ _ (by assumption)).mono ?_;rintro e w' ⟨rfl,rfl⟩) | (go_at_call 113;refine (r1_whole _ _ (by omega) (by omega)).mono ?_;rintro e w' ⟨rfl,hb⟩))
    go_ret
    exact ⟨rfl,hb⟩
  · have sx:=r1_sign_z x
    have sy:=r1_sign_z y
    have bx:=r1_body_z x
    have b_y:=r1_body_z y
    have hdx:(decDigits x.natAbs).length ≤ 20000:=hx
    have hdy:(decDigits y.natAbs).length ≤ 20000:=hy
    have hcase:decide ((itoa x).length ≤ 17) = false ∨ (decide ((itoa x).length ≤ 17) = true ∧ decide ((itoa y).length ≤ 17) = false):=by
      by_cases h1:(itoa x).length ≤ 17
      · right;exact ⟨by simpa using h1,by simpa using fun h2 => hs ⟨h1,h2⟩⟩
      · left;simpa using h1
    clear hs
    have nx:=sgnZ_neg x
    have ny:=sgnZ_neg y
    have NX:=Lib.hid nx
    have NY:=Lib.hid ny
    clear nx ny
    by_cases hsame:decide (x < 0) = decide (y < 0)
    · have hsum:=sum_same x y (decide (x < 0)) rfl hsame.symm
      have hlen:=plus_len _ _ 20000 hdx hdy
      have hS:=fun W => r1_signed_n (x.natAbs + y.natAbs) (decide (x < 0)) W (by omega)
      rw [hsum] at hS
      have HS:=Lib.hid hS;clear hS hsum hlen
      have d3:decide (sgnZ x < 0) = decide (x < 0):=NX.out
      have d4:decide (sgnZ y < 0) = decide (x < 0):=NY.out.trans hsame.symm
      clear hsame
      generalize decide (x < 0) = b at *
      rcases hcase with h1 | ⟨h1,h2⟩
      all_goals
        go_enter Tryz.func73,Tryz.ntmps73
        go_wp2_with (first | (go_at_call 112;refine (r1_short _ _).mono ?_;rintro e w' ⟨rfl,rfl⟩))
        refine (bx _).mono ?_;rintro e w' ⟨rfl,rfl⟩
        go_wp2_with fail
        refine (b_y _).mono ?_;rintro e w' ⟨rfl,rfl⟩
        go_wp2_with fail
        refine (sx _).mono ?_;rintro e w' ⟨rfl,rfl⟩
        go_wp2_with fail
        refine (sy _).mono ?_;rintro e w' ⟨rfl,rfl⟩
        go_wp2_with fail
        refine (r1_plus _ _ _ (by omega) (by omega)).mono ?_;rintro e w1 ⟨rfl,hb⟩
        go_wp2_with fail
        refine (HS.out _).mono ?_;rintro e w2 ⟨rfl,rfl⟩
        go_wp2_with fail
        go_ret
        exact ⟨rfl,hb⟩
    · have hns:decide (y < 0) = !decide (x < 0):=by
        cases h1:decide (x < 0) <;> cases h2:decide (y < 0) <;> simp_all
      have d3:decide (sgnZ x < 0) = decide (x < 0):=NX.out
      have d4:decide (sgnZ y < 0) = !decide (x < 0):=NY.out.trans hns
      have hvals : (y.natAbs ≤ x.natAbs → (if decide (x < 0) then -((x.natAbs - y.natAbs : Nat) : Int) else ((x.natAbs - y.natAbs : Nat) : Int)) = x + y) ∧
          (x.natAbs ≤ y.natAbs → (if !decide (x < 0) then -((y.natAbs - x.natAbs:Nat):Int) else ((y.natAbs - x.natAbs:Nat):Int)) = x + y):=by
        clear hsame d3 d4 NX NY
        cases h1:decide (x < 0) <;> simp_all <;> omega
      have HV:=Lib.hid hvals;clear hvals hsame hns
      generalize decide (x < 0) = b at *
      by_cases hge:y.natAbs ≤ x.natAbs
      · have hS:=fun W => r1_signed_n (x.natAbs - y.natAbs) b W (Nat.le_trans (dec_len_mono (Nat.sub_le _ _)) (by omega))
        rw [HV.out.1 hge] at hS
        have HS:=Lib.hid hS;clear hS
        have hcm:cmpN x.natAbs y.natAbs = 0 ∨ cmpN x.natAbs y.natAbs = 1:=by unfold cmpN;split <;> (try split) <;> omega
        have hcm2:(0:Int) ≤ cmpN x.natAbs y.natAbs:=by omega
        clear hcm
        rcases hcase with h1 | ⟨h1,h2⟩
        all_goals
          cases b
          all_goals
            go_enter Tryz.func73,Tryz.ntmps73
            go_wp2_with (first | (go_at_call 112;refine (r1_short _ _).mono ?_;rintro e w' ⟨rfl,rfl⟩))
            refine (bx _).mono ?_;rintro e w' ⟨rfl,rfl⟩
            go_wp2_with fail
            refine (b_y _).mono ?_;rintro e w' ⟨rfl,rfl⟩
            go_wp2_with fail
            refine (sx _).mono ?_;rintro e w' ⟨rfl,rfl⟩
            go_wp2_with fail
            refine (sy _).mono ?_;rintro e w' ⟨rfl,rfl⟩
            go_wp2_with fail
            refine (r1_compare _ _ _ (by omega) (by omega)).mono ?_;rintro e w1 ⟨rfl,hb⟩
            go_wp2_with fail
            refine (r1_minus _ _ _ (by omega) (by omega) hge).mono ?_;rintro e w2 ⟨rfl,hb2⟩
            go_wp2_with fail
            refine (HS.out _).mono ?_;rintro e w3 ⟨rfl,rfl⟩
            go_wp2_with fail
            go_ret
            exact ⟨rfl,hb.trans (hb2.mono hb.size)⟩
      · have hge2:x.natAbs ≤ y.natAbs:=by omega
        have hS:=fun W => r1_signed_n (y.natAbs - x.natAbs) (!b) W (Nat.le_trans (dec_len_mono (Nat.sub_le _ _)) (by omega))
        rw [HV.out.2 hge2] at hS
        have HS:=Lib.hid hS;clear hS
        have hcm:cmpN x.natAbs y.natAbs = -1:=by unfold cmpN;rw [if_pos (by omega)]
        rcases hcase with h1 | ⟨h1,h2⟩
        all_goals
          cases b
          all_goals
            go_enter Tryz.func73,Tryz.ntmps73
            go_wp2_with (first | (go_at_call 112;refine (r1_short _ _).mono ?_;rintro e w' ⟨rfl,rfl⟩))
            refine (bx _).mono ?_;rintro e w' ⟨rfl,rfl⟩
            go_wp2_with fail
            refine (b_y _).mono ?_;rintro e w' ⟨rfl,rfl⟩
            go_wp2_with fail
            refine (sx _).mono ?_;rintro e w' ⟨rfl,rfl⟩
            go_wp2_with fail
            refine (sy _).mono ?_;rintro e w' ⟨rfl,rfl⟩
            go_wp2_with fail
            refine (r1_compare _ _ _ (by omega) (by omega)).mono ?_;rintro e w1 ⟨rfl,hb⟩
            go_wp2_with fail
            refine (r1_minus _ _ _ (by omega) (by omega) hge2).mono ?_;rintro e w2 ⟨rfl,hb2⟩
            go_wp2_with fail
            refine (HS.out _).mono ?_;rintro e w3 ⟨rfl,rfl⟩
            go_wp2_with fail
            go_ret
            exact ⟨rfl,hb.trans (hb2.mono hb.size)⟩
theorem r1_diff (x y : Int) (w : World) (hx : dl x ≤ 20000) (hy : dl y ≤ 20000) :
    Calls Tryz.prog 156 #[.string ⟨(itoa x).toArray⟩,.string ⟨(itoa y).toArray⟩] w fun e w' => e = .returned (.string ⟨(itoa (x - y)).toArray⟩) ∧ Below w.heap.size w w':=by
  have hs:=fun W => r1_sum x (-y) W hx (by rw [dl_neg];exact hy)
  rw [← Int.sub_eq_add_neg] at hs
  have HS:=Lib.hid hs;clear hs
  go_enter Tryz.func156,Tryz.ntmps156
  go_wp2_with (go_at_call 110;refine (r1_negated_z _ _ hy).mono ?_;rintro e w' ⟨rfl,rfl⟩)
  refine (HS.out _).mono ?_;rintro e w2 ⟨rfl,hb⟩
  go_wp2_with fail
  go_ret
  exact ⟨rfl,hb⟩
end Go.Proofs.YtbeojahilbglcaaGreatDoor
namespace Lum
open Go.Lib (decDigits itoa)
theorem dn (m:Nat):decide ((m:Int) < 0) = false:=decide_eq_false (by omega)
theorem dneg (m:Nat) (h:m ≠ 0):decide (-(m:Int) < 0) = true:=decide_eq_true (by omega)
theorem abs_form (x:Int):∃ m:Nat,x = m ∨ (x = -(m:Int) ∧ m ≠ 0):=by
  by_cases h:0 ≤ x
  · exact ⟨x.toNat,.inl (by omega)⟩
  · exact ⟨(-x).toNat,.inr ⟨by omega,by omega⟩⟩
theorem prod_sign (x y:Int):(if decide (x < 0) != decide (y < 0) then -((x.natAbs * y.natAbs:Nat):Int) else ((x.natAbs * y.natAbs:Nat):Int)) = x * y:=by
  obtain ⟨m,hm⟩:=abs_form x
  obtain ⟨n,hn⟩:=abs_form y
  rcases hm with rfl | ⟨rfl,hm0⟩ <;> rcases hn with rfl | ⟨rfl,hn0⟩
  · simp only [dn];simp
  · simp only [dn,dneg n hn0];simp [Int.mul_neg]
  · simp only [dn,dneg m hm0];simp [Int.neg_mul]
  · simp only [dneg m hm0,dneg n hn0];simp [Int.neg_mul,Int.mul_neg]
theorem neg_ediv_nat (m n:Nat) (hn:n ≠ 0):(-(m:Int)) / (n:Int) = -((m / n:Nat) + (if m % n = 0 then 0 else 1):Int):=by
  rw [Int.neg_ediv]
  have hd:((n:Int) ∣ (m:Int)) ↔ m % n = 0:=by rw [Int.natCast_dvd_natCast];exact Nat.dvd_iff_mod_eq_zero
  have hs:(n:Int).sign = 1:=Int.sign_eq_one_of_pos (by omega)
  rw [hs,Int.natCast_ediv]
  by_cases h:m % n = 0
  · rw [if_pos (hd.2 h),if_pos h];omega
  · rw [if_neg (mt hd.1 h),if_neg h];omega
theorem fdiv_abs (x y : Int) (hy : y ≠ 0) : Int.fdiv x y =
    if decide (x < 0) != decide (y < 0) then -((x.natAbs / y.natAbs:Nat) + (if x.natAbs % y.natAbs = 0 then 0 else 1):Int) else ((x.natAbs / y.natAbs:Nat):Int):=by
  obtain ⟨m,hm⟩:=abs_form x
  obtain ⟨n,hn⟩:=abs_form y
  have hpos:∀ a:Int,∀ k:Nat,k ≠ 0 → a.fdiv (k:Int) = a / (k:Int):=fun a k hk => Int.fdiv_eq_ediv_of_nonneg a (by omega)
  rcases hm with rfl | ⟨rfl,hm0⟩ <;> rcases hn with rfl | ⟨rfl,hn0⟩
  · rw [hpos _ n (by omega)];simp only [dn];simp
  · have e:=Int.neg_fdiv_neg (-(m:Int)) (n:Int)
    rw [Int.neg_neg] at e
    rw [e,hpos _ n hn0,neg_ediv_nat m n hn0]
    simp only [dn,dneg n hn0];simp
  · rw [hpos _ n (by omega),neg_ediv_nat m n (by omega)]
    simp only [dn,dneg m hm0];simp
  · rw [Int.neg_fdiv_neg,hpos _ n hn0]
    simp only [dneg m hm0,dneg n hn0];simp
theorem fdiv_go (x y:Int) (hy:y ≠ 0):Int.fdiv x y = if (x.tmod y != 0) && (decide (x < 0) != decide (y < 0)) then x.tdiv y - 1 else x.tdiv y:=by
  rw [fdiv_abs x y hy]
  obtain ⟨m,hm⟩:=abs_form x
  obtain ⟨n,hn⟩:=abs_form y
  have e1:(m:Int).tdiv n = (m / n:Nat):=by simp
  have e2:(m:Int).tmod n = (m % n:Nat):=rfl
  have hb:∀ r:Nat,(((r:Nat):Int) != 0) = decide (r ≠ 0):=fun r => by
    by_cases h:r = 0
    · subst h;rfl
    · rw [decide_eq_true h,bne_iff_ne];omega
  have hb2:∀ r:Nat,(-((r:Nat):Int) != 0) = decide (r ≠ 0):=fun r => by
    by_cases h:r = 0
    · subst h;rfl
    · rw [decide_eq_true h,bne_iff_ne];omega
  rcases hm with rfl | ⟨rfl,hm0⟩ <;> rcases hn with rfl | ⟨rfl,hn0⟩
  · simp only [dn];simp
  · simp only [dn,dneg n hn0,Int.neg_tdiv,Int.tdiv_neg,Int.neg_tmod,Int.tmod_neg,e1,e2,Int.natAbs_neg,Int.natAbs_natCast,hb,hb2]
    by_cases h:m % n = 0 <;> simp [h] <;> omega
  · simp only [dn,dneg m hm0,Int.neg_tdiv,Int.tdiv_neg,Int.neg_tmod,Int.tmod_neg,e1,e2,Int.natAbs_neg,Int.natAbs_natCast,hb,hb2]
    by_cases h:m % n = 0 <;> simp [h] <;> omega
  · simp only [dneg m hm0,dneg n hn0,Int.neg_tdiv,Int.tdiv_neg,Int.neg_tmod,Int.tmod_neg,e1,e2,Int.natAbs_neg,Int.natAbs_natCast]
    simp
end Lum
namespace Go.Proofs.YtbeojahilbglcaaGreatDoor
open Go.RowKit Lum
open Go.Lib (decDigits itoa)
attribute [local go_sem] bs_get bs_extract_end bs_extract_from bs_extract bs_append
theorem r1_product (x y : Int) (w : World) (hx : dl x ≤ 20000) (hy : dl y ≤ 20000) :
    Calls Tryz.prog 74 #[.string ⟨(itoa x).toArray⟩,.string ⟨(itoa y).toArray⟩] w fun e w' => e = .returned (.string ⟨(itoa (x * y)).toArray⟩) ∧ Below w.heap.size w w':=by
  have lx:=itoa_len_dl x
  have ly:=itoa_len_dl y
  by_cases hs:(itoa x).length + (itoa y).length ≤ 17
  · have a1:=dl_len x
    have a2:=dl_len y
    have a3:=dl_mul x y
    have a4:=(dl_le (x:=x * y) (k:=17) (by omega)).1 (by omega)
    have b1:(itoa x).length ≤ 17:=by omega
    have b2:(itoa y).length ≤ 17:=by omega
    have n1:=fun W => r1_number x W b1
    have n2:=fun W => r1_number y W b2
    obtain ⟨p,hp⟩:∃ p,x * y = p:=⟨_,rfl⟩
    have hp2:-100000000000000000 ≤ p ∧ p ≤ 100000000000000000:=by rw [hp] at a4;omega
    obtain ⟨hp3,hp4⟩:=hp2
    clear a1 a2 a3 a4 b1 b2
    go_enter Tryz.func74,Tryz.ntmps74
    go_wp2_with fail
    refine (n1 _).mono ?_;rintro e w' ⟨rfl,rfl⟩
    go_wp2_with fail
    refine (n2 _).mono ?_;rintro e w' ⟨rfl,rfl⟩
    go_wp2_with fail
    refine (r1_whole _ _ (by omega) (by omega)).mono ?_;rintro e w' ⟨rfl,hb⟩
    go_wp2_with fail
    go_ret
    exact ⟨by rw [hp];rfl,hb⟩
  · have sx:=r1_sign_z x
    have sy:=r1_sign_z y
    have bx:=r1_body_z x
    have b_y:=r1_body_z y
    have hdx:(decDigits x.natAbs).length ≤ 20000:=hx
    have hdy:(decDigits y.natAbs).length ≤ 20000:=hy
    have nx:=sgnZ_neg x
    have ny:=sgnZ_neg y
    have hlen:=times_len _ _ _ _ hdx hdy
    have hS:=fun W => r1_signed_n (x.natAbs * y.natAbs) (decide (x < 0) != decide (y < 0)) W (by omega)
    rw [prod_sign] at hS
    have HS:=Lib.hid hS;clear hS hlen
    generalize decide (x < 0) = b at *
    generalize decide (y < 0) = c at *
    cases b <;> cases c
    all_goals
      go_enter Tryz.func74,Tryz.ntmps74
      go_wp2_with fail
      refine (bx _).mono ?_;rintro e w' ⟨rfl,rfl⟩
      go_wp2_with fail
      refine (b_y _).mono ?_;rintro e w' ⟨rfl,rfl⟩
      go_wp2_with fail
      refine (r1_times _ _ _ (by omega) (by omega)).mono ?_;rintro e w1 ⟨rfl,hb⟩
      go_wp2_with fail
      refine (sx _).mono ?_;rintro e w' ⟨rfl,rfl⟩
      go_wp2_with fail
      refine (sy _).mono ?_;rintro e w' ⟨rfl,rfl⟩
      go_wp2_with fail
      refine (HS.out _).mono ?_;rintro e w2 ⟨rfl,rfl⟩
      go_wp2_with fail
      go_ret
      exact ⟨rfl,hb⟩
theorem r1_floor (x y : Int) (w : World) (hx : dl x ≤ 19000) (hy : dl y ≤ 19000) (hy0 : y ≠ 0) :
    Calls Tryz.prog 111 #[.string ⟨(itoa x).toArray⟩,.string ⟨(itoa y).toArray⟩] w fun e w' => e = .returned (.string ⟨(itoa (Int.fdiv x y)).toArray⟩) ∧ Below w.heap.size w w':=by
  by_cases hs:(itoa x).length ≤ 17 ∧ (itoa y).length ≤ 17
  · obtain ⟨h1,h2⟩:=hs
    have a1:=short_abs x h1
    have a2:=short_abs y h2
    have n1:=fun W => r1_number x W h1
    have n2:=fun W => r1_number y W h2
    have d1:decide ((itoa x).length ≤ 17) = true:=by simpa using h1
    have d2:decide ((itoa y).length ≤ 17) = true:=by simpa using h2
    have x1:-100000000000000000 ≤ x:=by omega
    have x2:x ≤ 100000000000000000:=by omega
    have hg:=fdiv_go x y hy0
    have HG:=Lib.hid hg
    clear a1 a2 h1 h2 hg
    go_enter Tryz.func111,Tryz.ntmps111
    go_wp2_with (first | (go_at_call 112;refine (r1_short _ _).mono ?_;rintro e w' ⟨rfl,rfl⟩))
    refine (n1 _).mono ?_;rintro e w' ⟨rfl,rfl⟩
    go_wp2_with fail
    refine (n2 _).mono ?_;rintro e w' ⟨rfl,rfl⟩
    go_wp2_with fail
    all_goals
      refine (r1_whole _ _ (by unfold wrap64;omega) (by unfold wrap64;omega)).mono ?_;rintro e w' ⟨rfl,hb⟩
      go_wp2_with fail
      go_ret
      refine ⟨ret_str (congrArg itoa ?_),hb⟩
      have hq:(x.tdiv y).natAbs ≤ x.natAbs:=by rw [Int.natAbs_tdiv];exact Nat.div_le_self _ _
      have e1:wrap64 (x.tdiv y) = x.tdiv y:=wr64 (by omega) (by omega)
      have e2:wrap64 (x.tdiv y - 1) = x.tdiv y - 1:=wr64 (by omega) (by omega)
      rw [HG.out]
      simp only [e1,e2]
    · have h:x.tmod y = 0:=by assumption
      rw [h];simp
    · have h:(x.tmod y != 0) = true ∧ (!decide (x < 0) == decide (y < 0)) = true:=by assumption
      rw [h.1,if_pos]
      have:=h.2
      cases h3:decide (x < 0) <;> cases h4:decide (y < 0) <;> simp_all
    · have h:(x.tmod y != 0) = false ∨ (!decide (x < 0) == decide (y < 0)) = false:=by assumption
      rw [if_neg]
      cases h3:decide (x < 0) <;> cases h4:decide (y < 0) <;> simp_all
  · have sx:=r1_sign_z x
    have sy:=r1_sign_z y
    have bx:=r1_body_z x
    have b_y:=r1_body_z y
    have hdx:(decDigits x.natAbs).length ≤ 19000:=hx
    have hdy:(decDigits y.natAbs).length ≤ 19000:=hy
    have hcase:decide ((itoa x).length ≤ 17) = false ∨ (decide ((itoa x).length ≤ 17) = true ∧ decide ((itoa y).length ≤ 17) = false):=by
      by_cases h1:(itoa x).length ≤ 17
      · right;exact ⟨by simpa using h1,by simpa using fun h2 => hs ⟨h1,h2⟩⟩
      · left;simpa using h1
    clear hs
    have nx:=sgnZ_neg x
    have ny:=sgnZ_neg y
    have hql:=dec_len_mono (Nat.div_le_self x.natAbs y.natAbs)
    have hql2:=plus_len (x.natAbs / y.natAbs) 1 19000 (by omega) (by rw [dec_small (by omega)];simp)
    have hval:=fdiv_abs x y hy0
    have hny:0 < y.natAbs:=by omega
    have hr0:(decDigits (x.natAbs % y.natAbs) != [48]) = decide (x.natAbs % y.natAbs ≠ 0):=by
      by_cases h:x.natAbs % y.natAbs = 0
      · rw [h,dec_zero];rfl
      · rw [decide_eq_true h,bne_iff_ne];exact mt (dec_eq_zero _).1 h
    have hone:decDigits 1 = [49]:=dec_small (by omega)
    have hp1:=fun W => r1_plus (x.natAbs / y.natAbs) 1 W (by omega) (by rw [hone];simp)
    rw [hone] at hp1
    have HP1:=Lib.hid hp1;clear hp1 hone
    by_cases hdown:decide (x < 0) = decide (y < 0)
    · have hS:=fun W => r1_signed_n (x.natAbs / y.natAbs) false W (by omega)
      rw [hdown] at hval
      simp only [bne_self_eq_false,Bool.false_eq_true,if_false] at hval hS
      rw [← hval] at hS
      have HS:=Lib.hid hS;clear hS hval hr0 HP1
      rw [hdown] at nx
      clear hdown
      generalize decide (y < 0) = b at *
      rcases hcase with h1 | ⟨h1,h2⟩
      all_goals
        cases b
        all_goals
          go_enter Tryz.func111,Tryz.ntmps111
          go_wp2_with (first | (go_at_call 112;refine (r1_short _ _).mono ?_;rintro e w' ⟨rfl,rfl⟩))
          refine (bx _).mono ?_;rintro e w' ⟨rfl,rfl⟩
          go_wp2_with fail
          refine (b_y _).mono ?_;rintro e w' ⟨rfl,rfl⟩
          go_wp2_with fail
          refine (r1_divided _ _ _ (by omega) (by omega) hny).mono ?_;rintro e w1 ⟨rfl,hb⟩
          go_wp2_with fail
          refine (sx _).mono ?_;rintro e w' ⟨rfl,rfl⟩
          go_wp2_with fail
          refine (sy _).mono ?_;rintro e w' ⟨rfl,rfl⟩
          go_wp2_with fail
          refine (HS.out _).mono ?_;rintro e w2 ⟨rfl,rfl⟩
          go_wp2_with fail
          go_ret
          exact ⟨rfl,hb⟩
    · have hns:decide (y < 0) = !decide (x < 0):=by
        cases h1:decide (x < 0) <;> cases h2:decide (y < 0) <;> simp_all
      have hb1:(decide (x < 0) != decide (y < 0)) = true:=by rw [hns];cases decide (x < 0) <;> rfl
      rw [hb1,if_pos rfl] at hval
      rw [hns] at ny
      clear hb1 hns hdown
      generalize decide (x < 0) = b at *
      by_cases h0:x.natAbs % y.natAbs = 0
      · have hS:=fun W => r1_signed_n (x.natAbs / y.natAbs) true W (by omega)
        rw [if_pos h0] at hval
        simp only [Int.add_zero] at hval
        simp only [if_true] at hS
        rw [← hval] at hS
        have hdv:=fun W => r1_divided x.natAbs y.natAbs W (by omega) (by omega) hny
        rw [h0,dec_zero] at hdv
        have HDV:=Lib.hid hdv;clear hdv hr0
        have HS:=Lib.hid hS;clear hS hval h0 HP1
        rcases hcase with h1 | ⟨h1,h2⟩
        all_goals
          cases b
          all_goals
            go_enter Tryz.func111,Tryz.ntmps111
            go_wp2_with (first | (go_at_call 112;refine (r1_short _ _).mono ?_;rintro e w' ⟨rfl,rfl⟩))
            refine (bx _).mono ?_;rintro e w' ⟨rfl,rfl⟩
            go_wp2_with fail
            refine (b_y _).mono ?_;rintro e w' ⟨rfl,rfl⟩
            go_wp2_with fail
            refine (HDV.out _).mono ?_;rintro e w1 ⟨rfl,hb⟩
            go_wp2_with fail
            refine (sx _).mono ?_;rintro e w' ⟨rfl,rfl⟩
            go_wp2_with fail
            refine (sy _).mono ?_;rintro e w' ⟨rfl,rfl⟩
            go_wp2_with fail
            refine (HS.out _).mono ?_;rintro e w2 ⟨rfl,rfl⟩
            go_wp2_with fail
            go_ret
            exact ⟨rfl,hb⟩
      · have hS:=fun W => r1_signed_n (x.natAbs / y.natAbs + 1) true W (by omega)
        rw [if_neg h0] at hval
        simp only [if_true,Int.natCast_add] at hS
        rw [show ((1:Nat):Int) = 1 from rfl,← hval] at hS
        have hr1:(decDigits (x.natAbs % y.natAbs) == [48]) = false:=by rw [beq_eq_false_iff_ne];exact mt (dec_eq_zero _).1 h0
        clear hr0
        have HS:=Lib.hid hS;clear hS hval h0
        rcases hcase with h1 | ⟨h1,h2⟩
        all_goals
          cases b
          all_goals
            go_enter Tryz.func111,Tryz.ntmps111
            go_wp2_with (first | (go_at_call 112;refine (r1_short _ _).mono ?_;rintro e w' ⟨rfl,rfl⟩))
            refine (bx _).mono ?_;rintro e w' ⟨rfl,rfl⟩
            go_wp2_with fail
            refine (b_y _).mono ?_;rintro e w' ⟨rfl,rfl⟩
            go_wp2_with fail
            refine (r1_divided _ _ _ (by omega) (by omega) hny).mono ?_;rintro e w1 ⟨rfl,hb⟩
            go_wp2_with fail
            refine (sx _).mono ?_;rintro e w' ⟨rfl,rfl⟩
            go_wp2_with fail
            refine (sy _).mono ?_;rintro e w' ⟨rfl,rfl⟩
            go_wp2_with fail
            refine (HP1.out _).mono ?_;rintro e w2 ⟨rfl,hb2⟩
            go_wp2_with fail
            refine (HS.out _).mono ?_;rintro e w3 ⟨rfl,rfl⟩
            go_wp2_with fail
            go_ret
            exact ⟨rfl,hb.trans (hb2.mono hb.size)⟩
end Go.Proofs.YtbeojahilbglcaaGreatDoor
namespace Lum
open Go
def strNat:Value → Nat | .string s => natOf s.data.toList | _ => 0
theorem strNat_dec (n:Nat):strNat (.string ⟨(Go.Lib.decDigits n).toArray⟩) = n:=by
  show natOf _ = _
  simp [natOf_dec]
end Lum
namespace Go.Proofs.YtbeojahilbglcaaGreatDoor
open Go.RowKit Lum
open Go.Lib (decDigits itoa)
attribute [local go_sem] bs_get bs_extract_end bs_extract_from bs_extract bs_append
theorem r1_rest (m n : Nat) (w : World) (hm : (decDigits m).length ≤ 19000) (hn : (decDigits n).length ≤ 19000) (hn0 : 0 < n) :
    Calls Tryz.prog 109 #[.string ⟨(decDigits m).toArray⟩,.string ⟨(decDigits n).toArray⟩] w fun e w' => e = .returned (.string ⟨(decDigits (m % n)).toArray⟩) ∧ Below w.heap.size w w':=by
  have e1:Int.fdiv (m:Int) n = (m / n:Nat):=by rw [Int.fdiv_eq_ediv_of_nonneg _ (by omega)];simp
  have d1:∀ k:Nat,dl (k:Int) = (decDigits k).length:=fun k => by unfold dl;simp
  have q1:=dec_len_mono (Nat.div_le_self m n)
  have hle:n * (m / n) ≤ m:=Nat.mul_div_le m n
  have q2:=dec_len_mono hle
  have hf:=fun W => r1_floor m n W (by rw [d1];omega) (by rw [d1];omega) (by omega)
  have hp:=fun W => r1_product n (m / n:Nat) W (by rw [d1];omega) (by rw [d1];omega)
  have hd:=fun W => r1_diff m (n * (m / n):Nat) W (by rw [d1];omega) (by rw [d1];omega)
  have e2:((n:Int) * ((m / n:Nat):Int)) = (n * (m / n):Nat):=by simp
  have e3:(m:Int) - ((n * (m / n):Nat):Int) = (m % n:Nat):=by have:=Nat.div_add_mod m n;omega
  rw [e2] at hp
  simp only [e1,e3,itoa_nat] at hf hp hd
  have HF:=Lib.hid hf
  have HP:=Lib.hid hp
  have HD:=Lib.hid hd
  clear hf hp hd e1 e2 e3 d1 q1 q2 hle
  go_enter Tryz.func109,Tryz.ntmps109
  go_wp2_with fail
  refine (HF.out _).mono ?_;rintro e w1 ⟨rfl,hb1⟩
  go_wp2_with fail
  refine (HP.out _).mono ?_;rintro e w2 ⟨rfl,hb2⟩
  go_wp2_with fail
  refine (HD.out _).mono ?_;rintro e w3 ⟨rfl,hb3⟩
  go_wp2_with fail
  go_ret
  exact ⟨rfl,(hb1.trans (hb2.mono hb1.size)).trans (hb3.mono (Nat.le_trans hb1.size hb2.size))⟩
theorem r1_common (x y : Int) (w : World) (hx : dl x ≤ 19000) (hy : dl y ≤ 19000) :
    Calls Tryz.prog 71 #[.string ⟨(itoa x).toArray⟩,.string ⟨(itoa y).toArray⟩] w fun e w' => e = .returned (.string ⟨(decDigits (Nat.gcd x.natAbs y.natAbs)).toArray⟩) ∧ Below w.heap.size w w':=by
  have hdx:(decDigits x.natAbs).length ≤ 19000:=hx
  have hdy:(decDigits y.natAbs).length ≤ 19000:=hy
  have bx:=r1_magnitude_z x
  have b_y:=r1_magnitude_z y
  go_enter Tryz.func71,Tryz.ntmps71
  go_wp2_with fail
  refine (bx _).mono ?_;rintro e w' ⟨rfl,rfl⟩
  go_wp2_with fail
  refine (b_y _).mono ?_;rintro e w' ⟨rfl,rfl⟩
  go_wp2_with fail
  go_loopw [0,1] (fun u v wr => ∃ m n:Nat,u = .string ⟨(decDigits m).toArray⟩ ∧ v = .string ⟨(decDigits n).toArray⟩ ∧ Hid (Nat.gcd m n = Nat.gcd x.natAbs y.natAbs) ∧ (decDigits m).length ≤ 19000 ∧ (decDigits n).length ≤ 19000 ∧ Below w.heap.size w wr) (fun _ v _ => strNat v)
  case atStart => exact ⟨_,_,rfl,rfl,rfl,hdx,hdy,Below.refl _ _⟩
  case round =>
    obtain ⟨m,n,rfl,rfl,HG,hm,hn,hb⟩:=hrel
    by_cases h0:n = 0
    · subst h0
      have hz:(decDigits 0 == [48]) = true:=by rw [dec_zero];rfl
      have hg:m = Nat.gcd x.natAbs y.natAbs:=by have:=HG.out;rwa [Nat.gcd_zero_right] at this
      have HM:=Lib.hid hg;clear hg
      go_wp2_with fail
      go_ret
      exact ⟨ret_str (congrArg decDigits HM.out),hb⟩
    · have hz:(decDigits n == [48]) = false:=by rw [beq_eq_false_iff_ne];exact mt (dec_eq_zero _).1 h0
      have hr:=fun W => r1_rest m n W hm hn (by omega)
      have HR:=Lib.hid hr;clear hr
      have hlt:=Nat.mod_lt m (show n > 0 by omega)
      go_wp2_with (go_at_call 109;refine (HR.out _).mono ?_;rintro e w1 ⟨rfl,hb1⟩)
      go_roundw
      case rel =>
        exact ⟨n,m % n,rfl,rfl,(show _ = _ by rw [← HG.out,Nat.gcd_comm m n,Nat.gcd_rec n m,Nat.gcd_comm]),hn,Nat.le_trans (dec_len_mono (Nat.le_of_lt hlt)) hn,hb.trans (hb1.mono hb.size)⟩
      case measure => rw [strNat_dec,strNat_dec];exact hlt
end Go.Proofs.YtbeojahilbglcaaGreatDoor
namespace Lum
open Go.Lib (decDigits itoa)
theorem canon_iff (b:Txt):canon b = true ↔ b ≠ [] ∧ b.all isDig = true ∧ (b.head? ≠ some 48 ∨ b = [48]):=by
  simp only [canon,Bool.and_eq_true,Bool.or_eq_true,bne_iff_ne,beq_iff_eq,Bool.not_eq_true',ne_eq,List.isEmpty_eq_false_iff,and_assoc]
theorem intCheck_shaped (l:Txt):intCheck l = 3 ↔ shaped l = false:=by
  have hb:(minus l = true ∧ l.length = (body l).length + 1) ∨ (minus l = false ∧ body l = l):=by
    cases hm:minus l
    · exact .inr ⟨rfl,body_no l hm⟩
    · left;refine ⟨rfl,?_⟩
      simp only [minus,beq_iff_eq] at hm
      rw [body,if_pos hm,List.length_tail]
      cases l with
      | nil => simp at hm
      | cons => simp
  unfold intCheck shaped
  have hc:=canon_iff (body l)
  by_cases h1:body l = []
  · rw [if_pos (.inl h1)];simp [canon,h1]
  · by_cases h2:(body l).all isDig = true
    · by_cases h3:(body l).head? = some 48
      · by_cases h4:1 < l.length
        · rw [if_pos (.inr ⟨h3,h4⟩)]
          simp only [true_iff]
          rcases hb with ⟨h5,h6⟩ | ⟨h5,h6⟩
          · rw [h5,h3];simp
          · have:canon (body l) = false:=by
              rw [Bool.eq_false_iff];intro h
              rcases (hc.1 h).2.2 with h7 | h7
              · exact h7 h3
              · rw [← h6,h7] at h4;simp at h4
            rw [this];rfl
        · rw [if_neg (by rintro (h | h);exact h1 h;exact h4 h.2),if_neg (by simp [h2])]
          have h7:(body l).length ≠ 0:=fun h => h1 (List.eq_nil_of_length_eq_zero h)
          have h8:minus l = false ∧ body l = l:=by
            rcases hb with ⟨h5,h6⟩ | h5
            · omega
            · exact h5
          have h9:body l = [48]:=by
            rw [h8.2] at h3 h7 ⊢
            cases hl:l with
            | nil => rw [hl] at h7;simp at h7
            | cons c r =>
              rw [hl] at h3 h4
              have:r = []:=by cases r with
                | nil => rfl
                | cons => simp at h4
              subst this;simp at h3;rw [h3]
          rw [h9,h8.1]
          simp only [List.length_singleton]
          have:canon [48] = true:=by decide
          rw [this];simp
      · rw [if_neg (by rintro (h | h);exact h1 h;exact h3 h.1),if_neg (by simp [h2])]
        have:canon (body l) = true:=hc.2 ⟨h1,h2,.inl h3⟩
        rw [this]
        have h9:((body l).head? == some 48) = false:=by simpa using h3
        rw [h9];simp;split <;> simp
    · have h2':(body l).all isDig = false:=by simpa using h2
      have:canon (body l) = false:=by
        rw [Bool.eq_false_iff];intro h;exact h2 (hc.1 h).2.1
      rw [this]
      simp only [h2',if_true,Bool.false_and,iff_true]
      split <;> rfl
theorem hasSlash_len (l:Txt):(top l).length < l.length ↔ hasSlash l = true:=by
  constructor
  · intro h
    cases hs:hasSlash l with
    | true => rfl
    | false => rw [top_noslash l hs] at h;omega
  · intro h
    have:=congrArg List.length (split_slash l h)
    simp at this;omega
theorem top_take (l:Txt):l.take (top l).length = top l:=by
  unfold top
  induction l with
  | nil => simp
  | cons c r ih =>
    rw [List.takeWhile_cons];split
    · simp [ih]
    · simp
theorem bot_drop (l:Txt) (h:hasSlash l = true):l.drop ((top l).length + 1) = bot l:=by
  have e:∀ t b:Txt,(t ++ 47 :: b).drop (t.length + 1) = b:=fun t b => by simp
  exact (congrArg (List.drop ((top l).length + 1)) (split_slash l h)).trans (e _ _)
theorem dec_eq_one (n:Nat):decDigits n = [49] ↔ n = 1:=by
  have:decDigits 1 = [49]:=dec_small (by omega)
  rw [← this];exact ⟨fun h => dec_inj h,fun h => by rw [h]⟩
theorem itoa_eq_one (n:Int):itoa n = [49] ↔ n = 1:=by
  rw [← itoa_one];exact ⟨fun h => itoa_inj h,fun h => by rw [h]⟩
theorem long_dl (z:Int):long z = decide (4096 < dl z):=rfl
end Lum
namespace Go.Proofs.YtbeojahilbglcaaGreatDoor
open Go.RowKit Lum
open Go.Lib (decDigits itoa)
attribute [local go_sem] bs_get bs_extract_end bs_extract_from bs_extract bs_append
theorem r2_slash (l : Txt) (w : World) (hl : l.length ≤ 1000000) :
    Calls Tryz.prog 68 #[.string ⟨l.toArray⟩] w fun e w' => e = .returned (.int .i64 ((top l).length:Int)) ∧ w = w':=by
  go_enter Tryz.func68,Tryz.ntmps68
  go_wp2
  go_loop [3] (fun i => ∃ k:Nat,k ≤ l.length ∧ i = .int .i64 k ∧ (47:UInt8) ∉ l.take k) (fun i => l.length - (intOf i).toNat)
  case atStart => exact ⟨0,Nat.zero_le _,rfl,by simp⟩
  case round =>
    obtain ⟨k,hk,rfl,ha⟩:=hrel
    have HA:=Lib.hid ha;clear ha
    by_cases hlt:k < l.length
    · by_cases h47:(l[k].toNat:Int) = 47
      · have hc:l[k] = 47:=by apply UInt8.toNat_inj.1;show l[k].toNat = 47;omega
        have ht:top l = l.take k:=by
          have e:l = l.take k ++ 47 :: l.drop (k + 1):=by rw [← hc,List.getElem_cons_drop,List.take_append_drop]
          conv => lhs;rw [e]
          exact takeWhile_ne _ _ HA.out
        have HT:=Lib.hid ht;clear ht hc
        go_wp2
        go_ret
        exact ⟨ret_int (by rw [HT.out,List.length_take];omega),rfl⟩
      · have h47':((l[k].toNat:Int) == 47) = false:=by simpa using h47
        have hn:(47:UInt8) ∉ l.take (k + 1):=by
          rw [List.take_succ_eq_append_getElem hlt]
          intro h
          rcases List.mem_append.1 h with h | h
          · exact HA.out h
          · simp at h;rw [← h] at h47;exact h47 rfl
        have HN:=Lib.hid hn;clear hn h47
        go_wp2
        go_round
        case rel => exact ⟨k + 1,by omega,by go_num,HN.out⟩
        case measure => simp [intOf];omega
    · have hk2:l.take k = l:=List.take_of_length_le (by omega)
      have ht:top l = l:=takeWhile_all l (by rw [← hk2];exact HA.out)
      have HT:=Lib.hid ht;clear ht hk2
      go_wp2
      go_ret
      exact ⟨ret_int (by rw [HT.out]),rfl⟩
theorem r2_top (l : Txt) (w : World) (hl : l.length ≤ 1000000) :
    Calls Tryz.prog 65 #[.string ⟨l.toArray⟩] w fun e w' => e = .returned (.string ⟨(top l).toArray⟩) ∧ w = w':=by
  have h1:(top l).length ≤ l.length:=by rw [← top_take l];simp;omega
  have h2:=top_take l
  have H2:=Lib.hid h2;clear h2
  have hS:=r2_slash l w hl
  generalize hn:(top l).length = n at *
  have HN:=Lib.hid hn;clear hn
  go_enter Tryz.func65,Tryz.ntmps65
  go_wp2_with (go_at_call 68;refine hS.mono ?_;rintro e w' ⟨rfl,rfl⟩)
  go_ret
  exact ⟨ret_str H2.out,rfl⟩
theorem r2_bottom (l : Txt) (w : World) (hl : l.length ≤ 1000000) :
    Calls Tryz.prog 66 #[.string ⟨l.toArray⟩] w fun e w' => e = .returned (.string ⟨(bot l).toArray⟩) ∧ w = w':=by
  have h1:(top l).length ≤ l.length:=by rw [← top_take l];simp;omega
  have hS:=r2_slash l w hl
  by_cases hs:hasSlash l = true
  · have h2:=(hasSlash_len l).2 hs
    have h3:=bot_drop l hs
    have H3:=Lib.hid h3;clear h3 hs
    generalize hn:(top l).length = n at *
    have HN:=Lib.hid hn;clear hn
    have hne:((n:Int) == (l.length:Int)) = false:=by simp;omega
    go_enter Tryz.func66,Tryz.ntmps66
    go_wp2_with (go_at_call 68;refine hS.mono ?_;rintro e w' ⟨rfl,rfl⟩)
    go_ret
    exact ⟨ret_str (by rw [← H3.out,List.take_of_length_le (by simp)]),rfl⟩
  · have hs':hasSlash l = false:=by simpa using hs
    rw [top_noslash l hs'] at hS
    have hb:=bot_noslash l hs'
    have HB:=Lib.hid hb;clear hb hs hs' h1
    go_enter Tryz.func66,Tryz.ntmps66
    go_wp2_with (go_at_call 68;refine hS.mono ?_;rintro e w' ⟨rfl,rfl⟩)
    go_ret
    exact ⟨ret_str HB.out.symm,rfl⟩
theorem r2_shaped (l : Txt) (w : World) (hl : l.length ≤ 1000000) :
    Calls Tryz.prog 67 #[.string ⟨l.toArray⟩] w fun e w' => e = .returned (.bool (shaped l)) ∧ w = w':=by
  have hS:=r1_check l w hl
  have hc:=intCheck_shaped l
  have he:(intCheck l != 3) = shaped l:=by
    cases h:shaped l
    · rw [hc.2 h];rfl
    · rw [bne_iff_ne];intro h2;rw [hc.1 h2] at h;cases h
  have HE:=Lib.hid he;clear he hc
  go_enter Tryz.func67,Tryz.ntmps67
  go_wp2_with (go_at_call 106;refine hS.mono ?_;rintro e w' ⟨rfl,rfl⟩)
  go_ret
  exact ⟨ret_bool HE.out,rfl⟩
end Go.Proofs.YtbeojahilbglcaaGreatDoor
namespace Lum
open Go.Lib (decDigits itoa)
theorem top_le (l:Txt):(top l).length ≤ l.length:=by rw [← top_take l];simp;omega
theorem bot_le (l:Txt):(bot l).length ≤ l.length + 1:=by
  cases h:hasSlash l with
  | true => rw [← bot_drop l h];simp;omega
  | false => rw [bot_noslash l h];simp
theorem ratCheck_parts (l : Txt) (p q : Int) (hp : top l = itoa p) (hq : bot l = itoa q) :
    ratCheck l = if hasSlash l = true ∧ q ≤ 1 then 3 else if long p = true ∨ long q = true then 23 else if Nat.gcd p.natAbs q.natAbs ≠ 1 then 3 else 0:=by
  rw [ratCheck,hp,hq,zOf_itoa,zOf_itoa,shaped_itoa,shaped_itoa];simp
def checkTwo (a b:Txt):Int:=if ratCheck a ≠ 0 then ratCheck a else ratCheck b
end Lum
namespace Go.Proofs.YtbeojahilbglcaaGreatDoor
open Go.RowKit Lum
open Go.Lib (decDigits itoa)
attribute [local go_sem] bs_get bs_extract_end bs_extract_from bs_extract bs_append
theorem r2_check (l : Txt) (w : World) (hl : l.length ≤ 100000) :
    Calls Tryz.prog 25 #[.string ⟨l.toArray⟩] w fun e w' => e = .returned (.int .i64 (ratCheck l)) ∧ Below w.heap.size w w':=by
  have hT:=r2_top l w (by omega)
  have hB:=r2_bottom l w (by omega)
  have hS:=r2_slash l w (by omega)
  have htl:=top_le l
  have hbl:=bot_le l
  have sT:=r2_shaped (top l) w (by omega)
  have sB:=r2_shaped (bot l) w (by omega)
  cases h1:shaped (top l) with
  | false =>
    have hr:ratCheck l = 3:=by rw [ratCheck,if_pos (.inl h1)]
    have HR:=Lib.hid hr;clear hr
    rw [h1] at sT
    clear h1 hS
    go_enter Tryz.func25,Tryz.ntmps25
    go_wp2_with (first | (go_at_call 65;refine hT.mono ?_;rintro e w' ⟨rfl,rfl⟩) | (go_at_call 66;refine hB.mono ?_;rintro e w' ⟨rfl,rfl⟩) | (go_at_call 67;refine sT.mono ?_;rintro e w' ⟨rfl,rfl⟩))
    go_ret
    exact ⟨ret_int HR.out.symm,Below.refl _ _⟩
  | true =>
    rw [h1] at sT
    cases h2:shaped (bot l) with
    | false =>
      have hr:ratCheck l = 3:=by rw [ratCheck,if_pos (.inr (.inl h2))]
      have HR:=Lib.hid hr;clear hr
      rw [h2] at sB
      clear h1 h2 hS
      go_enter Tryz.func25,Tryz.ntmps25
      go_wp2_with (first | (go_at_call 65;refine hT.mono ?_;rintro e w' ⟨rfl,rfl⟩) | (go_at_call 66;refine hB.mono ?_;rintro e w' ⟨rfl,rfl⟩))
      refine sT.mono ?_;rintro e w' ⟨rfl,rfl⟩
      go_wp2_with fail
      refine sB.mono ?_;rintro e w' ⟨rfl,rfl⟩
      go_wp2_with fail
      go_ret
      exact ⟨ret_int HR.out.symm,Below.refl _ _⟩
    | true =>
      rw [h2] at sB
      obtain ⟨p,hp⟩:=(shaped_iff _).1 h1
      obtain ⟨q,hq⟩:=(shaped_iff _).1 h2
      have hr:=ratCheck_parts l p q hp hq
      have hsl:=hasSlash_len l
      have hbn:hasSlash l = false → q = 1:=fun h => by
        have:=bot_noslash l h;rw [hq] at this;exact (itoa_eq_one q).1 this
      have lp:=dl_len p
      have lq:=dl_len q
      rw [hp] at hT sT htl
      rw [hq] at hB sB hbl
      have dp:=r1_digits_z p w
      have dq:=r1_digits_z q w
      have gq:=r1_sign_z q w
      have cpq:=fun h1 h2 => r1_common p q w h1 h2
      have HR:=Lib.hid hr;clear hr
      clear h1 h2
      generalize top l = tp at *
      clear hp hq
      cases hs:hasSlash l with
      | true =>
        have hlt:=hsl.2 hs
        rw [hs] at HR
        clear hsl hbn hs
        by_cases hq1:q ≤ 1
        · have hr:=HR.out
          rw [if_pos ⟨rfl,hq1⟩] at hr
          have HR2:=Lib.hid hr;clear hr HR
          by_cases hq0:q ≤ 0
          · have hsg : sgnZ q ≤ 0 := by unfold sgnZ; repeat' split
                                        all_goals omega
            go_enter Tryz.func25,Tryz.ntmps25
            go_wp2_with (first | (go_at_call 65;refine hT.mono ?_;rintro e w' ⟨rfl,rfl⟩) | (go_at_call 66;refine hB.mono ?_;rintro e w' ⟨rfl,rfl⟩))
            refine sT.mono ?_;rintro e w' ⟨rfl,rfl⟩
            go_wp2_with fail
            refine sB.mono ?_;rintro e w' ⟨rfl,rfl⟩
            go_wp2_with (first | (go_at_call 68;refine hS.mono ?_;rintro e w' ⟨rfl,rfl⟩) | (go_at_call 69;refine gq.mono ?_;rintro e w' ⟨rfl,rfl⟩))
            go_ret
            exact ⟨ret_int HR2.out.symm,Below.refl _ _⟩
          · obtain rfl:q = 1:=by omega
            have hone:(itoa 1 == [49]) = true:=by rw [itoa_one];rfl
            have hsg:¬ sgnZ 1 ≤ 0:=by decide
            go_enter Tryz.func25,Tryz.ntmps25
            go_wp2_with (first | (go_at_call 65;refine hT.mono ?_;rintro e w' ⟨rfl,rfl⟩) | (go_at_call 66;refine hB.mono ?_;rintro e w' ⟨rfl,rfl⟩))
            refine sT.mono ?_;rintro e w' ⟨rfl,rfl⟩
            go_wp2_with fail
            refine sB.mono ?_;rintro e w' ⟨rfl,rfl⟩
            go_wp2_with (first | (go_at_call 68;refine hS.mono ?_;rintro e w' ⟨rfl,rfl⟩) | (go_at_call 69;refine gq.mono ?_;rintro e w' ⟨rfl,rfl⟩))
            go_ret
            exact ⟨ret_int HR2.out.symm,Below.refl _ _⟩
        · have hq2 : ¬ sgnZ q ≤ 0 := by unfold sgnZ; repeat' split
                                        all_goals omega
          have hone:(itoa q == [49]) = false:=by rw [beq_eq_false_iff_ne];exact fun h => hq1 (by rw [(itoa_eq_one q).1 h];omega)
          have hr:=HR.out
          rw [if_neg (by rintro ⟨_,h⟩;exact hq1 h),long_dl,long_dl] at hr
          by_cases h4:4096 < dl p
          · rw [if_pos (.inl (by simpa using h4))] at hr
            have HR2:=Lib.hid hr;clear hr HR
            go_enter Tryz.func25,Tryz.ntmps25
            go_wp2_with (first | (go_at_call 65;refine hT.mono ?_;rintro e w' ⟨rfl,rfl⟩) | (go_at_call 66;refine hB.mono ?_;rintro e w' ⟨rfl,rfl⟩))
            refine sT.mono ?_;rintro e w' ⟨rfl,rfl⟩
            go_wp2_with fail
            refine sB.mono ?_;rintro e w' ⟨rfl,rfl⟩
            go_wp2_with (first | (go_at_call 68;refine hS.mono ?_;rintro e w' ⟨rfl,rfl⟩) | (go_at_call 69;refine gq.mono ?_;rintro e w' ⟨rfl,rfl⟩))
            refine dp.mono ?_;rintro e w' ⟨rfl,rfl⟩
            go_wp2_with fail
            go_ret
            exact ⟨ret_int HR2.out.symm,Below.refl _ _⟩
          · by_cases h5:4096 < dl q
            · rw [if_pos (.inr (by simpa using h5))] at hr
              have HR2:=Lib.hid hr;clear hr HR
              go_enter Tryz.func25,Tryz.ntmps25
              go_wp2_with (first | (go_at_call 65;refine hT.mono ?_;rintro e w' ⟨rfl,rfl⟩) | (go_at_call 66;refine hB.mono ?_;rintro e w' ⟨rfl,rfl⟩))
              refine sT.mono ?_;rintro e w' ⟨rfl,rfl⟩
              go_wp2_with fail
              refine sB.mono ?_;rintro e w' ⟨rfl,rfl⟩
              go_wp2_with (first | (go_at_call 68;refine hS.mono ?_;rintro e w' ⟨rfl,rfl⟩) | (go_at_call 69;refine gq.mono ?_;rintro e w' ⟨rfl,rfl⟩))
              refine dp.mono ?_;rintro e w' ⟨rfl,rfl⟩
              go_wp2_with fail
              refine dq.mono ?_;rintro e w' ⟨rfl,rfl⟩
              go_wp2_with fail
              go_ret
              exact ⟨ret_int HR2.out.symm,Below.refl _ _⟩
            · rw [if_neg (by simp;omega)] at hr
              have hC:=cpq (by omega) (by omega)
              by_cases h6:Nat.gcd p.natAbs q.natAbs = 1
              · rw [if_neg (by simpa using h6)] at hr
                have HR2:=Lib.hid hr;clear hr HR
                have hg:decDigits (Nat.gcd p.natAbs q.natAbs) = [49]:=by rw [h6];exact dec_small (by omega)
                rw [hg] at hC
                clear h6 hg
                go_enter Tryz.func25,Tryz.ntmps25
                go_wp2_with (first | (go_at_call 65;refine hT.mono ?_;rintro e w' ⟨rfl,rfl⟩) | (go_at_call 66;refine hB.mono ?_;rintro e w' ⟨rfl,rfl⟩))
                refine sT.mono ?_;rintro e w' ⟨rfl,rfl⟩
                go_wp2_with fail
                refine sB.mono ?_;rintro e w' ⟨rfl,rfl⟩
                go_wp2_with (first | (go_at_call 68;refine hS.mono ?_;rintro e w' ⟨rfl,rfl⟩) | (go_at_call 69;refine gq.mono ?_;rintro e w' ⟨rfl,rfl⟩))
                refine dp.mono ?_;rintro e w' ⟨rfl,rfl⟩
                go_wp2_with fail
                refine dq.mono ?_;rintro e w' ⟨rfl,rfl⟩
                go_wp2_with fail
                refine hC.mono ?_;rintro e w1 ⟨rfl,hb⟩
                go_wp2_with fail
                go_ret
                exact ⟨ret_int HR2.out.symm,hb⟩
              · rw [if_pos h6] at hr
                have HR2:=Lib.hid hr;clear hr HR
                have hg:(decDigits (Nat.gcd p.natAbs q.natAbs) == [49]) = false:=by rw [beq_eq_false_iff_ne];exact mt (dec_eq_one _).1 h6
                clear h6
                generalize decDigits (Nat.gcd p.natAbs q.natAbs) = g at *
                go_enter Tryz.func25,Tryz.ntmps25
                go_wp2_with (first | (go_at_call 65;refine hT.mono ?_;rintro e w' ⟨rfl,rfl⟩) | (go_at_call 66;refine hB.mono ?_;rintro e w' ⟨rfl,rfl⟩))
                refine sT.mono ?_;rintro e w' ⟨rfl,rfl⟩
                go_wp2_with fail
                refine sB.mono ?_;rintro e w' ⟨rfl,rfl⟩
                go_wp2_with (first | (go_at_call 68;refine hS.mono ?_;rintro e w' ⟨rfl,rfl⟩) | (go_at_call 69;refine gq.mono ?_;rintro e w' ⟨rfl,rfl⟩))
                refine dp.mono ?_;rintro e w' ⟨rfl,rfl⟩
                go_wp2_with fail
                refine dq.mono ?_;rintro e w' ⟨rfl,rfl⟩
                go_wp2_with fail
                refine hC.mono ?_;rintro e w1 ⟨rfl,hb⟩
                go_wp2_with fail
                go_ret
                exact ⟨ret_int HR2.out.symm,hb⟩
      | false =>
        have hlt:¬ tp.length < l.length:=fun h => by have:=hsl.1 h;rw [hs] at this;cases this
        obtain rfl:=hbn hs
        rw [hs] at HR
        clear hsl hbn hs
        have hr:=HR.out
        have d1:dl 1 = 1:=by unfold dl;rw [show (1:Int).natAbs = 1 from rfl,dec_small (by omega)];rfl
        rw [if_neg (by rintro ⟨h,_⟩;cases h),long_dl,long_dl,d1] at hr
        rw [d1] at dq
        clear d1
        by_cases h4:4096 < dl p
        · rw [if_pos (.inl (by simpa using h4))] at hr
          have HR2:=Lib.hid hr;clear hr HR
          go_enter Tryz.func25,Tryz.ntmps25
          go_wp2_with (first | (go_at_call 65;refine hT.mono ?_;rintro e w' ⟨rfl,rfl⟩) | (go_at_call 66;refine hB.mono ?_;rintro e w' ⟨rfl,rfl⟩))
          refine sT.mono ?_;rintro e w' ⟨rfl,rfl⟩
          go_wp2_with fail
          refine sB.mono ?_;rintro e w' ⟨rfl,rfl⟩
          go_wp2_with (first | (go_at_call 68;refine hS.mono ?_;rintro e w' ⟨rfl,rfl⟩) | (go_at_call 69;refine gq.mono ?_;rintro e w' ⟨rfl,rfl⟩))
          refine dp.mono ?_;rintro e w' ⟨rfl,rfl⟩
          go_wp2_with fail
          go_ret
          exact ⟨ret_int HR2.out.symm,Below.refl _ _⟩
        · rw [if_neg (by simp;omega),if_neg (by simp)] at hr
          have HR2:=Lib.hid hr;clear hr HR
          go_enter Tryz.func25,Tryz.ntmps25
          go_wp2_with (first | (go_at_call 65;refine hT.mono ?_;rintro e w' ⟨rfl,rfl⟩) | (go_at_call 66;refine hB.mono ?_;rintro e w' ⟨rfl,rfl⟩))
          refine sT.mono ?_;rintro e w' ⟨rfl,rfl⟩
          go_wp2_with fail
          refine sB.mono ?_;rintro e w' ⟨rfl,rfl⟩
          go_wp2_with (first | (go_at_call 68;refine hS.mono ?_;rintro e w' ⟨rfl,rfl⟩) | (go_at_call 69;refine gq.mono ?_;rintro e w' ⟨rfl,rfl⟩))
          refine dp.mono ?_;rintro e w' ⟨rfl,rfl⟩
          go_wp2_with fail
          refine dq.mono ?_;rintro e w' ⟨rfl,rfl⟩
          go_wp2_with fail
          go_ret
          exact ⟨ret_int HR2.out.symm,Below.refl _ _⟩
end Go.Proofs.YtbeojahilbglcaaGreatDoor
namespace Lum
open Go
open Go.Lib (decDigits itoa)
def Fits (k:Nat) (x:Rat):Prop:=dl x.num ≤ k ∧ dl (x.den:Int) ≤ k
theorem Fits.mono {k l:Nat} {x:Rat} (h:Fits k x) (hl:k ≤ l):Fits l x:=⟨Nat.le_trans h.1 hl,Nat.le_trans h.2 hl⟩
theorem fit_fits (x:Rat):Fit x ↔ Fits 4096 x:=by
  unfold Fit Fits LIM
  rw [dl_le (by omega),dl_le (by omega),Int.natAbs_natCast]
theorem showR_len (x:Rat) (k:Nat) (h:Fits k x):(showR x).length ≤ 2 * k + 2:=by
  have h1:=itoa_len_dl x.num
  have h2:(decDigits x.den).length ≤ k:=by have:=h.2;unfold dl at this;simpa using this
  have h3:=h.1
  unfold showR
  split
  · omega
  · simp only [List.length_append,List.length_cons];omega
theorem bot_z (x:Rat):bot (showR x) = itoa (x.den:Int):=by rw [bot_showR,itoa_nat]
theorem mul_fdiv_neg (a g:Int) (hg:g ≠ 0):Int.fdiv (g * a) (-g) = -a:=by
  rw [show g * a = (-g) * (-a) by rw [Int.neg_mul_neg],Int.mul_fdiv_cancel_left _ (by omega)]
theorem ratio_parts (p q : Int) (hq : q ≠ 0) (g : Nat) (hg : g = Nat.gcd p.natAbs q.natAbs) (s : Int) (hs : s = if q < 0 then -(g : Int) else g) :
    Int.fdiv p s = (Rat.divInt p q).num ∧ Int.fdiv q s = ((Rat.divInt p q).den:Int):=by
  have hgp:0 < g:=by rw [hg];exact Nat.gcd_pos_of_pos_right _ (by omega)
  have d1:(g:Int) ∣ p:=by rw [hg];exact Int.natAbs_dvd_natAbs.1 (by simpa using Nat.gcd_dvd_left _ _)
  have d2:(g:Int) ∣ q:=by rw [hg];exact Int.natAbs_dvd_natAbs.1 (by simpa using Nat.gcd_dvd_right _ _)
  rw [Rat.num_divInt,Rat.den_divInt,if_neg hq]
  have e:Int.gcd q p = g:=by rw [Int.gcd,Nat.gcd_comm,hg]
  rw [e]
  obtain ⟨a,rfl⟩:=d1
  obtain ⟨b,rfl⟩:=d2
  have hb:b ≠ 0:=by rintro rfl;simp at hq
  have hg0:(g:Int) ≠ 0:=by omega
  have hn:((g:Int) * b).natAbs / g = b.natAbs:=by rw [Int.natAbs_mul];simp;exact Nat.mul_div_cancel_left _ hgp
  rw [hn]
  have hneg:((g:Int) * b < 0) ↔ b < 0:=by
    constructor
    · intro h;rcases Int.lt_or_le b 0 with h' | h'
      · exact h'
      · have:=Int.mul_nonneg (by omega:(0:Int) ≤ g) h';omega
    · intro h;exact Int.mul_neg_of_pos_of_neg (by omega) h
  rw [Int.sign_mul,Int.sign_eq_one_of_pos (by omega:(0:Int) < g),Int.one_mul]
  by_cases hb2:b < 0
  · rw [if_pos (hneg.2 hb2)] at hs
    subst hs
    rw [Int.sign_eq_neg_one_of_neg hb2]
    rw [mul_fdiv_neg a g hg0,mul_fdiv_neg b g hg0]
    constructor
    · rw [show (-1:Int) * (g * a) = g * (-a) by rw [Int.mul_neg];omega,Int.mul_ediv_cancel_left _ hg0]
    · omega
  · rw [if_neg (mt hneg.1 hb2)] at hs
    subst hs
    rw [Int.sign_eq_one_of_pos (by omega),Int.one_mul,Int.mul_ediv_cancel_left _ hg0,Int.mul_fdiv_cancel_left _ hg0,Int.mul_fdiv_cancel_left _ hg0]
    exact ⟨rfl,by omega⟩
theorem divInt_le (p q:Int) (hq:q ≠ 0):(Rat.divInt p q).num.natAbs ≤ p.natAbs ∧ (Rat.divInt p q).den ≤ q.natAbs:=by
  rw [Rat.num_divInt,Rat.den_divInt,if_neg hq]
  constructor
  · refine Nat.le_trans (Int.natAbs_ediv_le_natAbs _ _) ?_
    rw [Int.natAbs_mul]
    rcases Int.lt_trichotomy q 0 with h | h | h
    · rw [Int.sign_eq_neg_one_of_neg h];simp
    · exact absurd h hq
    · rw [Int.sign_eq_one_of_pos h];simp
  · exact Nat.div_le_self _ _
theorem divInt_fits (p q:Int) (hq:q ≠ 0) (k:Nat) (h1:dl p ≤ k) (h2:dl q ≤ k):Fits k (Rat.divInt p q):=by
  have:=divInt_le p q hq
  exact ⟨Nat.le_trans (dl_mono this.1) h1,Nat.le_trans (dl_mono (by simpa using this.2)) h2⟩
end Lum
namespace Lum
open Go Go.RowKit
theorem bch {w w1 w2:World} (h1:Below w.heap.size w w1) (h2:Below w1.heap.size w1 w2):Below w.heap.size w w2:=h1.trans (h2.mono h1.size)
end Lum
namespace Go.Proofs.YtbeojahilbglcaaGreatDoor
open Go.RowKit Lum
open Go.Lib (decDigits itoa)
attribute [local go_sem] bs_get bs_extract_end bs_extract_from bs_extract bs_append
theorem r2_top_q (x : Rat) (w : World) (hx : Fits 19000 x) :
    Calls Tryz.prog 65 #[.string ⟨(showR x).toArray⟩] w fun e w' => e = .returned (.string ⟨(itoa x.num).toArray⟩) ∧ w = w':=by
  rw [← top_showR];exact r2_top _ _ (by have:=showR_len x _ hx;omega)
theorem r2_bottom_q (x : Rat) (w : World) (hx : Fits 19000 x) :
    Calls Tryz.prog 66 #[.string ⟨(showR x).toArray⟩] w fun e w' => e = .returned (.string ⟨(itoa (x.den:Int)).toArray⟩) ∧ w = w':=by
  rw [← bot_z];exact r2_bottom _ _ (by have:=showR_len x _ hx;omega)
theorem r2_ratio (p q : Int) (w : World) (hp : dl p ≤ 19000) (hq : dl q ≤ 19000) (hq0 : q ≠ 0) :
    Calls Tryz.prog 72 #[.string ⟨(itoa p).toArray⟩,.string ⟨(itoa q).toArray⟩] w fun e w' => e = .returned (.string ⟨(showR (Rat.divInt p q)).toArray⟩) ∧ Below w.heap.size w w':=by
  obtain ⟨g,hg⟩:∃ g:Nat,g = Nat.gcd p.natAbs q.natAbs:=⟨_,rfl⟩
  have hC:=r1_common p q w hp hq
  rw [← hg,← itoa_nat] at hC
  have hgp:0 < g:=by rw [hg];exact Nat.gcd_pos_of_pos_right _ (by omega)
  have hgq:g ≤ q.natAbs:=by rw [hg];exact Nat.gcd_le_right _ (by omega)
  have hgd:dl (g:Int) ≤ 19000:=Nat.le_trans (dl_mono (by simpa using hgq)) hq
  have hfit:=divInt_fits p q hq0 19000 hp hq
  have key:=fun s hs => ratio_parts p q hq0 g hg s hs
  generalize hr:Rat.divInt p q = r at *
  have hshow:showR r = if (r.den:Int) = 1 then itoa r.num else itoa r.num ++ 47 :: itoa (r.den:Int):=by
    rw [showR,itoa_nat]
    by_cases h:r.den = 1
    · rw [if_pos h,if_pos (by omega)]
    · rw [if_neg h,if_neg (by omega)]
  have ln:=Nat.le_trans (itoa_len_dl r.num) (Nat.add_le_add_right hfit.1 1)
  have ld:=Nat.le_trans (itoa_len_dl (r.den:Int)) (Nat.add_le_add_right hfit.2 1)
  clear hr hg hfit
  have sq:=r1_sign_z q
  have HS:=Lib.hid hshow;clear hshow
  have hd:(r.den:Int) = 1 ∨ ¬ (r.den:Int) = 1:=by omega
  have hone:itoa 1 = [49]:=itoa_one
  by_cases hneg:q < 0
  · have k:=key (-(g:Int)) (by rw [if_pos hneg])
    have hF1:=fun W => r1_floor p (-(g:Int)) W hp (by rw [dl_neg];exact hgd) (by omega)
    have hF2:=fun W => r1_floor q (-(g:Int)) W hq (by rw [dl_neg];exact hgd) (by omega)
    rw [k.1] at hF1;rw [k.2] at hF2
    have hsg : sgnZ q < 0 := by unfold sgnZ; repeat' split
                                all_goals omega
    have hN:=fun W => r1_negated_z (g:Int) W (by omega)
    clear key k
    rcases hd with hd | hd
    · have h2:=HS.out
      rw [if_pos hd] at h2
      have H2:=Lib.hid h2;clear h2 HS
      rw [hd,hone] at hF2
      clear hd hone
      go_enter Tryz.func72,Tryz.ntmps72
      go_wp2_with fail;refine ((hC).mono ?_);rintro e w1 ⟨rfl,hb1⟩
      go_wp2_with fail;refine ((sq _).mono ?_);rintro e w' ⟨rfl,rfl⟩
      go_wp2_with fail;refine ((hN _).mono ?_);rintro e w' ⟨rfl,rfl⟩
      go_wp2_with fail;refine ((hF1 _).mono ?_);rintro e w2 ⟨rfl,hb2⟩
      go_wp2_with fail;refine ((hF2 _).mono ?_);rintro e w3 ⟨rfl,hb3⟩
      go_wp2_with fail
      go_ret
      exact ⟨ret_str H2.out.symm,bch (bch hb1 hb2) hb3⟩
    · have h2:=HS.out
      rw [if_neg hd] at h2
      have H2:=Lib.hid h2;clear h2 HS
      have hne:(itoa (r.den:Int) == [49]) = false:=by rw [beq_eq_false_iff_ne];exact mt (itoa_eq_one _).1 hd
      clear hd hone
      go_enter Tryz.func72,Tryz.ntmps72
      go_wp2_with fail;refine ((hC).mono ?_);rintro e w1 ⟨rfl,hb1⟩
      go_wp2_with fail;refine ((sq _).mono ?_);rintro e w' ⟨rfl,rfl⟩
      go_wp2_with fail;refine ((hN _).mono ?_);rintro e w' ⟨rfl,rfl⟩
      go_wp2_with fail;refine ((hF1 _).mono ?_);rintro e w2 ⟨rfl,hb2⟩
      go_wp2_with fail;refine ((hF2 _).mono ?_);rintro e w3 ⟨rfl,hb3⟩
      go_wp2_with fail
      go_ret
      exact ⟨ret_str (by rw [H2.out]),bch (bch hb1 hb2) hb3⟩
  · have k:=key (g:Int) (by rw [if_neg hneg])
    have hF1:=fun W => r1_floor p (g:Int) W hp hgd (by omega)
    have hF2:=fun W => r1_floor q (g:Int) W hq hgd (by omega)
    rw [k.1] at hF1;rw [k.2] at hF2
    have hsg : ¬ sgnZ q < 0 := by unfold sgnZ; repeat' split
                                  all_goals omega
    clear key k
    rcases hd with hd | hd
    · have h2:=HS.out
      rw [if_pos hd] at h2
      have H2:=Lib.hid h2;clear h2 HS
      rw [hd,hone] at hF2
      clear hd hone
      go_enter Tryz.func72,Tryz.ntmps72
      go_wp2_with fail;refine ((hC).mono ?_);rintro e w1 ⟨rfl,hb1⟩
      go_wp2_with fail;refine ((sq _).mono ?_);rintro e w' ⟨rfl,rfl⟩
      go_wp2_with fail;refine ((hF1 _).mono ?_);rintro e w2 ⟨rfl,hb2⟩
      go_wp2_with fail;refine ((hF2 _).mono ?_);rintro e w3 ⟨rfl,hb3⟩
      go_wp2_with fail
      go_ret
      exact ⟨ret_str H2.out.symm,bch (bch hb1 hb2) hb3⟩
    · have h2:=HS.out
      rw [if_neg hd] at h2
      have H2:=Lib.hid h2;clear h2 HS
      have hne:(itoa (r.den:Int) == [49]) = false:=by rw [beq_eq_false_iff_ne];exact mt (itoa_eq_one _).1 hd
      clear hd hone
      go_enter Tryz.func72,Tryz.ntmps72
      go_wp2_with fail;refine ((hC).mono ?_);rintro e w1 ⟨rfl,hb1⟩
      go_wp2_with fail;refine ((sq _).mono ?_);rintro e w' ⟨rfl,rfl⟩
      go_wp2_with fail;refine ((hF1 _).mono ?_);rintro e w2 ⟨rfl,hb2⟩
      go_wp2_with fail;refine ((hF2 _).mono ?_);rintro e w3 ⟨rfl,hb3⟩
      go_wp2_with fail
      go_ret
      exact ⟨ret_str (by rw [H2.out]),bch (bch hb1 hb2) hb3⟩
end Go.Proofs.YtbeojahilbglcaaGreatDoor
namespace Lum
open Go
open Go.Lib (decDigits itoa)
theorem cmpZ_sgn (x y:Rat):cmpZ (x.num * y.den) (y.num * x.den) = sgn x y:=by
  unfold cmpZ sgn
  by_cases h1:x < y
  · rw [if_pos h1,if_pos ((lt_cross x y).1 h1)]
  · rw [if_neg h1,if_neg (mt (lt_cross x y).2 h1)]
    by_cases h2:y < x
    · rw [if_pos h2,if_pos ((lt_cross y x).1 h2)]
    · rw [if_neg h2,if_neg (mt (lt_cross y x).2 h2)]
theorem den_ne (x:Rat):(x.den:Int) ≠ 0:=by have:=x.den_pos;omega
def flr (x:Rat):Int:=Int.fdiv x.num x.den
def half:Rat:=⟨1,2,by decide,by decide⟩
def near (x:Rat):Int:=flr (x + half)
def least (x y:Rat):Rat:=if y < x then y else x
def most (x y:Rat):Rat:=if x < y then y else x
def clampR (x:Rat) (lo hi:Int):Rat:=if x < (lo:Rat) then (lo:Rat) else least x hi
theorem showR_int (n:Int):showR (n:Rat) = itoa n:=by
  unfold showR;rw [if_pos (by rfl)];rfl
theorem fits_int (n:Int) (k:Nat) (hk:1 ≤ k) (h:dl n ≤ k):Fits k (n:Rat):=⟨h,by
  show dl 1 ≤ k
  have:dl 1 = 1:=by unfold dl;rw [show (1:Int).natAbs = 1 from rfl,dec_small (by omega)];rfl
  omega⟩
theorem dl_i64 (n:Int) (h0:-9223372036854775808 ≤ n) (h1:n ≤ 9223372036854775807):dl n ≤ 19:=by
  rw [dl_le (by omega)]
  have:(10:Nat) ^ 19 = 10000000000000000000:=by decide
  rw [this];omega
theorem fits_i64 (n:Int) (h0:-9223372036854775808 ≤ n) (h1:n ≤ 9223372036854775807):Fits 19 (n:Rat):=fits_int _ _ (by omega) (dl_i64 n h0 h1)
def longP (a b:Int):Bool:=decide (4096 < dl (a * b))
def qCross (x y:Rat):Int:=if longP x.num y.den || longP y.num x.den then 23 else 0
def qSum (x y:Rat):Int:=if longP x.num y.den || longP y.num x.den || long (x.num * y.den + y.num * x.den) || longP x.den y.den then 23 else 0
theorem fits_add {k:Nat} {x y:Rat} (hx:Fits k x) (hy:Fits k y):Fits (2 * k + 1) (x + y):=by
  rw [add_divInt]
  have a:=dl_mul x.num y.den
  have b:=dl_mul y.num x.den
  have c:=dl_mul x.den y.den
  have:=hx.1;have:=hx.2;have:=hy.1;have:=hy.2
  refine divInt_fits _ _ (Int.mul_ne_zero (den_ne x) (den_ne y)) _ (dl_add _ _ (2 * k) (by omega) (by omega)) (by omega)
theorem fits_mul {k:Nat} {x y:Rat} (hx:Fits k x) (hy:Fits k y):Fits (2 * k + 1) (x * y):=by
  rw [mul_divInt]
  have a:=dl_mul x.num y.num
  have c:=dl_mul x.den y.den
  have:=hx.1;have:=hx.2;have:=hy.1;have:=hy.2
  refine divInt_fits _ _ (Int.mul_ne_zero (den_ne x) (den_ne y)) _ (by omega) (by omega)
theorem fits_neg {k:Nat} {x:Rat} (hx:Fits k x):Fits k (-x):=by
  refine ⟨?_,?_⟩
  · rw [Rat.neg_num,dl_neg];exact hx.1
  · rw [Rat.neg_den];exact hx.2
end Lum
namespace Go.Proofs.YtbeojahilbglcaaGreatDoor
open Go.RowKit Lum
open Go.Lib (decDigits itoa)
attribute [local go_sem] bs_get bs_extract_end bs_extract_from bs_extract bs_append
theorem r2_plus (x y : Rat) (w : World) (hx : Fits 9000 x) (hy : Fits 9000 y) :
    Calls Tryz.prog 26 #[.string ⟨(showR x).toArray⟩,.string ⟨(showR y).toArray⟩] w fun e w' => e = .returned (.string ⟨(showR (x + y)).toArray⟩) ∧ Below w.heap.size w w':=by
  rw [add_divInt]
  have tx:=fun W => r2_top_q x W (hx.mono (by omega))
  have bx:=fun W => r2_bottom_q x W (hx.mono (by omega))
  have ty:=fun W => r2_top_q y W (hy.mono (by omega))
  have b_y:=fun W => r2_bottom_q y W (hy.mono (by omega))
  obtain ⟨hx1,hx2⟩:=hx
  obtain ⟨hy1,hy2⟩:=hy
  have d1:=dl_mul x.num y.den
  have d2:=dl_mul y.num x.den
  have d3:=dl_mul x.den y.den
  have d4:=dl_add (x.num * y.den) (y.num * x.den) 18000 (by omega) (by omega)
  have p1:=fun W => r1_product x.num y.den W (by omega) (by omega)
  have p2:=fun W => r1_product y.num x.den W (by omega) (by omega)
  have p3:=fun W => r1_product x.den y.den W (by omega) (by omega)
  have s:=fun W => r1_sum (x.num * y.den) (y.num * x.den) W (by omega) (by omega)
  have r:=fun W => r2_ratio (x.num * y.den + y.num * x.den) (x.den * y.den) W (by omega) (by omega) (Int.mul_ne_zero (den_ne x) (den_ne y))
  generalize x.num * (y.den:Int) = u at *
  generalize y.num * (x.den:Int) = v at *
  generalize (x.den:Int) * (y.den:Int) = t at *
  generalize u + v = z at *
  go_enter Tryz.func26,Tryz.ntmps26
  go_wp2_with fail;refine ((tx _).mono ?_);rintro e w' ⟨rfl,rfl⟩
  go_wp2_with fail;refine ((b_y _).mono ?_);rintro e w' ⟨rfl,rfl⟩
  go_wp2_with fail;refine ((p1 _).mono ?_);rintro e w1 ⟨rfl,hb1⟩
  go_wp2_with fail;refine ((ty _).mono ?_);rintro e w' ⟨rfl,rfl⟩
  go_wp2_with fail;refine ((bx _).mono ?_);rintro e w' ⟨rfl,rfl⟩
  go_wp2_with fail;refine ((p2 _).mono ?_);rintro e w2 ⟨rfl,hb2⟩
  go_wp2_with fail;refine ((s _).mono ?_);rintro e w3 ⟨rfl,hb3⟩
  go_wp2_with fail;refine ((bx _).mono ?_);rintro e w' ⟨rfl,rfl⟩
  go_wp2_with fail;refine ((b_y _).mono ?_);rintro e w' ⟨rfl,rfl⟩
  go_wp2_with fail;refine ((p3 _).mono ?_);rintro e w4 ⟨rfl,hb4⟩
  go_wp2_with fail;refine ((r _).mono ?_);rintro e w5 ⟨rfl,hb5⟩
  go_wp2_with fail
  go_ret
  exact ⟨rfl,bch (bch (bch (bch hb1 hb2) hb3) hb4) hb5⟩
end Go.Proofs.YtbeojahilbglcaaGreatDoor

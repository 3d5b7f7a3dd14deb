/-
  
-/
import Derived.Test.YtmjkenlifgmeeaaGreatDoorQzKd
set_option linter.unusedVariables false
set_option linter.unusedSimpArgs false
namespace Lum
open Go Go.RowKit Go.Shelf
open Go.Lib (decDigits itoa)
theorem qAdd_sum (x y:Rat):qAdd x y = if qSum x y = 0 then (showR (x + y),0) else ([],23):=by
  have hs:qSum x y = if (long (x.num * ↑y.den) || long (y.num * ↑x.den) || long (x.num * ↑y.den + y.num * ↑x.den) || long (↑x.den * ↑y.den)) = true then 23 else 0:=rfl
  rw [hs]
  unfold qAdd
  by_cases h:(long (x.num * ↑y.den) || long (y.num * ↑x.den) || long (x.num * ↑y.den + y.num * ↑x.den) || long (↑x.den * ↑y.den)) = true
  · rw [if_pos h,if_pos h];rfl
  · rw [if_neg h,if_neg h];rfl
theorem qSub_neg (x y:Rat):qSub x y = qAdd x (-y):=by
  unfold qSub qAdd
  rw [Rat.neg_num,Rat.neg_den,Rat.sub_eq_add_neg]
  have h1:long (-y.num * (x.den:Int)) = long (y.num * x.den):=by
    rw [long_dl,long_dl,Int.neg_mul,dl_neg]
  rw [h1,Int.neg_mul,← Int.sub_eq_add_neg]
theorem fit_of_fits {x:Rat} (h:Fit x) (k:Nat) (hk:4096 ≤ k):Fits k x:=((fit_fits x).1 h).mono hk
theorem sgn_lt (x y:Rat):sgn x y < 0 ↔ x < y:=by
  unfold sgn
  split
  · simp_all
  · rename_i h;split <;> simp_all
theorem sgn_gt (x y:Rat):0 < sgn x y ↔ y < x:=by
  unfold sgn
  split
  · rename_i h;simp;exact Rat.not_lt.2 (Rat.le_of_lt h)
  · split <;> simp_all
theorem showR_zero:showR 0 = [48]:=by rw [show (0:Rat) = ((0:Int):Rat) from rfl,showR_int,itoa_zero]
def minT (a b:Txt):Txt × Int:=if (cTwo a b).2 ≠ 0 then ([],(cTwo a b).2) else (if 0 < (cTwo a b).1 then b else a,0)
def maxT (a b:Txt):Txt × Int:=if (cTwo a b).2 ≠ 0 then ([],(cTwo a b).2) else (if (cTwo a b).1 < 0 then b else a,0)
theorem cTwo_ok {x y:Rat} (hx:Fit x) (hy:Fit y):cTwo (showR x) (showR y) = qCmp x y:=by
  unfold cTwo checkTwo
  rw [ratCheck_showR x hx,ratCheck_showR y hy,valR_showR,valR_showR]
  rfl
def mixT (a b w:Txt):Txt × Int :=
  if checkTwo a b ≠ 0 then ([],checkTwo a b) else if ratCheck w ≠ 0 then ([],ratCheck w)
  else if (rTwo b a qSub).2 ≠ 0 then ([],(rTwo b a qSub).2)
  else if (rTwo (rTwo b a qSub).1 w qMul).2 ≠ 0 then ([],(rTwo (rTwo b a qSub).1 w qMul).2)
  else rTwo a (rTwo (rTwo b a qSub).1 w qMul).1 qAdd
def clampT (a:Txt) (lo hi:Int):Txt × Int :=
  if ratCheck a ≠ 0 then ([],ratCheck a) else if hi < lo then ([],2)
  else if (cTwo a (itoa lo)).2 ≠ 0 then ([],(cTwo a (itoa lo)).2) else if (cTwo a (itoa hi)).2 ≠ 0 then ([],(cTwo a (itoa hi)).2)
  else (showR (clampR (valR a) lo hi),0)
theorem len_ok {x:Rat} {k:Nat} (h:Fits k x) (hk:k ≤ 40000):(showR x).length ≤ 100000:=by have:=showR_len x k h;omega
theorem rTwo_len (a b:Txt) (r:Rat → Rat → Txt × Int) (h:∀ x y,Fit x → Fit y → (r x y).1.length ≤ 100000):(rTwo a b r).1.length ≤ 100000:=by
  by_cases hc:checkTwo a b = 0
  · obtain ⟨x,y,rfl,rfl,fx,fy⟩:=checkTwo_ok hc
    rw [rTwo_ok x y _ fx fy];exact h x y fx fy
  · rw [rTwo_err _ hc];simp
theorem qSub_len (x y:Rat) (hx:Fit x) (hy:Fit y):(qSub x y).1.length ≤ 100000:=by
  rw [qSub_neg,qAdd_sum];split
  · exact len_ok (fits_add (fit_of_fits hx 4096 (by omega)) (fits_neg (fit_of_fits hy 4096 (by omega)))) (by omega)
  · simp
theorem qMul_len (x y:Rat) (hx:Fit x) (hy:Fit y):(qMul x y).1.length ≤ 100000:=by
  unfold qMul;split
  · simp
  · exact len_ok (fits_mul (fit_of_fits hx 4096 (by omega)) (fit_of_fits hy 4096 (by omega))) (by omega)
end Lum
namespace Go.Proofs.YtmjkenlifgmeeaaGreatDoor
open Go.RowKit Go.Shelf Lum
open Go.Lib (decDigits itoa)
attribute [local go_sem] bs_get bs_extract_end bs_extract_from bs_extract bs_append
theorem r2_whole (n : Int) (w : World) (h0 : -9223372036854775808 ≤ n) (h1 : n ≤ 9223372036854775807) :
    Calls Tryz.prog 125 #[.int .i64 n] w fun e w' => e = .returned (.string ⟨(itoa n).toArray⟩) ∧ Below w.heap.size w w':=by
  have h:=fun W => r1_whole n W h0 h1
  have H:=Lib.hid h;clear h
  have HB:=Lib.hid (Below.refl w.heap.size w)
  go_enter Tryz.func125,Tryz.ntmps125
  go_wp2_with (first | (with_reducible refine ((H.out _).mono ?_);rintro e w' ⟨rfl,hb⟩;replace HB:=Lib.hid (bch' HB.out hb);clear hb))
  go_ret
  exact ⟨rfl,HB.out⟩
end Go.Proofs.YtmjkenlifgmeeaaGreatDoor
set_option maxHeartbeats 2000000
namespace Lum
open Go Go.RowKit Go.Shelf
open Go.Lib (decDigits itoa)
theorem floor_divInt (n d:Int) (hd:0 < d):(Rat.divInt n d).floor = n / d:=by
  have key:∀ z:Int,z ≤ (Rat.divInt n d).floor ↔ z ≤ n / d:=by
    intro z
    rw [Rat.le_floor_iff,Int.le_ediv_iff_mul_le hd,← Rat.not_lt,← Int.not_lt,Rat.divInt_eq_div,Rat.div_lt_iff (by rw [show (0:Rat) = ((0:Int):Rat) from rfl];exact Rat.intCast_lt_intCast.2 hd),← Rat.intCast_mul,Rat.intCast_lt_intCast]
  exact Int.le_antisymm ((key _).1 (Int.le_refl _)) ((key _).2 (Int.le_refl _))
theorem flr_floor (x:Rat):flr x = x.floor:=by
  rw [flr,Rat.floor_def,Int.fdiv_eq_ediv_of_nonneg _ (by omega)]
theorem near_round (x:Rat):near x = if Int.fmod x.num x.den < x.den - Int.fmod x.num x.den then flr x else flr x + 1:=by
  have hp:=x.den_pos
  rw [near,flr_floor (x + half),add_divInt]
  show (Rat.divInt (x.num * ((2:Nat):Int) + 1 * x.den) (x.den * ((2:Nat):Int))).floor = _
  rw [floor_divInt _ _ (by omega),flr,Int.fdiv_eq_ediv_of_nonneg _ (by omega),Int.fmod_eq_emod_of_nonneg _ (by omega)]
  have e:=Int.mul_ediv_add_emod x.num x.den
  have l0:=Int.emod_nonneg x.num (show (x.den:Int) ≠ 0 by omega)
  have l1:=Int.emod_lt_of_pos x.num (show (0:Int) < (x.den:Int) by omega)
  generalize x.num % (x.den:Int) = r at *
  generalize x.num / (x.den:Int) = k at *
  generalize hq:(x.den:Int) = q at *
  split
  · exact ((Int.ediv_emod_unique (r:=2 * r + q) (by omega)).2 ⟨by grind,by omega,by omega⟩).1
  · exact ((Int.ediv_emod_unique (r:=2 * r - q) (by omega)).2 ⟨by grind,by omega,by omega⟩).1
theorem flr_dl (x:Rat) (h:Fit x):dl (flr x) ≤ 4096:=by
  have f:=((fit_fits x).1 h).1
  have hp:=x.den_pos
  refine Nat.le_trans (dl_mono ?_) f
  rw [flr,Int.fdiv_eq_ediv_of_nonneg _ (by omega)]
  rcases (show x.num < 0 ∨ 0 ≤ x.num by omega) with h | h
  · have h1:x.num ≤ x.num / (x.den:Int):=(Int.le_ediv_iff_mul_le (by omega)).2 (by
      have:=Int.mul_le_mul_of_nonpos_left (show x.num ≤ 0 by omega) (show (1:Int) ≤ x.den by omega)
      omega)
    have h2:=Int.ediv_neg_of_neg_of_pos h (show (0:Int) < x.den by omega)
    omega
  · have h1:=Int.ediv_le_self (x.den:Int) h
    have h2:=Int.ediv_nonneg h (show (0:Int) ≤ x.den by omega)
    omega
theorem half_dl (a b:Int) (k:Nat) (h:a.natAbs * 2 ≤ b.natAbs + 2) (hb:dl b ≤ k + 1):dl (a + 1) ≤ k + 1:=by
  rw [dl_le (by omega)] at hb ⊢
  rw [Nat.pow_succ] at hb ⊢
  have:=Nat.pow_pos (n:=k) (show 0 < 10 by omega)
  omega
def negR (a:Txt):Txt × Int:=if ratCheck a ≠ 0 then ([],ratCheck a) else (showR (-(valR a)),0)
def floorT (a:Txt):Txt × Int:=if ratCheck a ≠ 0 then ([],ratCheck a) else (itoa (flr (valR a)),0)
def roundT (a:Txt):Txt × Int:=if ratCheck a ≠ 0 then ([],ratCheck a) else (itoa (near (valR a)),0)
theorem checkAll_three (a b c:Txt):checkAll [a,b,c] = if checkTwo a b ≠ 0 then checkTwo a b else ratCheck c:=by
  unfold checkTwo
  simp only [checkAll]
  by_cases h1:ratCheck a = 0 <;> by_cases h2:ratCheck b = 0 <;> by_cases h3:ratCheck c = 0 <;> simp_all
end Lum
namespace Go.Proofs.YtmjkenlifgmeeaaGreatDoor
open Go.RowKit Go.Shelf Lum
open Go.Lib (decDigits itoa)
attribute [local go_sem] bs_get bs_extract_end bs_extract_from bs_extract bs_append
theorem own_floor (a : Txt) (w : World) (ha : a.length ≤ 100000) (env : Env w) :
    Calls Tryz.prog 68 #[.string ⟨(a).toArray⟩] w fun e w' => e = .returned (.tuple #[.string ⟨((floorT a).1).toArray⟩,.int .i64 ((floorT a).2)]) ∧ Below w.heap.size w w':=by
  have hc:=fun W (e:Env W) => own_rcheck a W ha e
  unfold floorT
  by_cases hz:ratCheck a = 0
  · rw [if_neg (by simpa using hz)]
    rw [hz] at hc
    obtain ⟨x,rfl,fx⟩:=ratCheck_zero a hz
    have hp:=fun W (e:Env W) => own_parts (showR x) W (by omega) e
    rw [top_showR,bot_showR,← itoa_nat] at hp
    have hq:=fun W (e:Env W) => own_quo x.num x.den W ((fit_fits x).1 fx).1 ((fit_fits x).1 fx).2 (den_ne x) e
    rw [show x.num.fdiv x.den = flr x from rfl,wrT_ok _ (flr_dl x fx)] at hq
    rw [valR_showR]
    generalize showR x = a at *
    generalize itoa (flr x) = f at *
    generalize itoa x.num = tp at *
    generalize itoa (x.den:Int) = tq at *
    generalize hasSlash a = hs at *
    clear hz fx
    have HC:=Lib.hid hc;clear hc
    have HP:=Lib.hid hp;clear hp
    have HQ:=Lib.hid hq;clear hq
    have HB:=Lib.hid (Below.refl w.heap.size w)
    have ENV:=Lib.hid env;clear env
    go_enter Tryz.func68,Tryz.ntmps68
    go_wp2_with (first | (with_reducible refine ((HC.out _ (ENV.out.below HB.out)).mono ?_);rintro e w' ⟨rfl,hb⟩;replace HB:=Lib.hid (bch' HB.out hb);clear hb) | (with_reducible refine ((HP.out _ (ENV.out.below HB.out)).mono ?_);rintro e w' ⟨rfl,hb⟩;replace HB:=Lib.hid (bch' HB.out hb);clear hb) | (with_reducible refine ((HQ.out _ (ENV.out.below HB.out)).mono ?_);rintro e w' ⟨rfl,hb⟩;replace HB:=Lib.hid (bch' HB.out hb);clear hb))
    go_ret2
    exact ⟨rfl,HB.out⟩
  · rw [if_pos hz]
    have hne:((ratCheck a:Int) != 0) = true:=by simpa using hz
    generalize ratCheck a = m at *
    clear hz ha
    have HC:=Lib.hid hc;clear hc
    have HB:=Lib.hid (Below.refl w.heap.size w)
    have ENV:=Lib.hid env;clear env
    go_enter Tryz.func68,Tryz.ntmps68
    go_wp2_with (first | (with_reducible refine ((HC.out _ (ENV.out.below HB.out)).mono ?_);rintro e w' ⟨rfl,hb⟩;replace HB:=Lib.hid (bch' HB.out hb);clear hb))
    go_ret2
    exact ⟨rfl,HB.out⟩
theorem own_round (a : Txt) (w : World) (ha : a.length ≤ 100000) (env : Env w) :
    Calls Tryz.prog 35 #[.string ⟨(a).toArray⟩] w fun e w' => e = .returned (.tuple #[.string ⟨((roundT a).1).toArray⟩,.int .i64 ((roundT a).2)]) ∧ Below w.heap.size w w':=by
  have hc:=fun W (e:Env W) => own_floor a W ha e
  unfold roundT
  unfold floorT at hc
  by_cases hz:ratCheck a = 0
  · rw [if_neg (by simpa using hz)]
    rw [if_neg (by simpa using hz)] at hc
    obtain ⟨x,rfl,fx⟩:=ratCheck_zero a hz
    have f1:=((fit_fits x).1 fx).1
    have f2:=((fit_fits x).1 fx).2
    have hden:=x.den_pos
    have hp:=fun W (e:Env W) => own_parts (showR x) W (by omega) e
    rw [top_showR,bot_showR,← itoa_nat] at hp
    have hq:=fun W (e:Env W) => own_rem x.num x.den W f1 f2 (den_ne x) e
    have m0:0 ≤ x.num.fmod x.den:=Int.fmod_nonneg_of_pos _ (by omega)
    have m1:x.num.fmod x.den < x.den:=Int.fmod_lt_of_pos _ (by omega)
    have nr:=near_round x
    rw [valR_showR] at hc ⊢
    generalize x.num.fmod x.den = r at *
    have l1:dl r ≤ 4096:=Nat.le_trans (dl_mono (by omega)) f2
    have l2:dl ((x.den:Int) - r) ≤ 4096:=Nat.le_trans (dl_mono (by omega)) f2
    have hg:=fun W (e:Env W) => own_sub x.den r W f2 l1 e
    rw [wrT_ok _ l1] at hq
    rw [wrT_ok _ l2] at hg
    have ho:=fun W => own_compare r (x.den - r) W l1 l2
    have hcmp:decide (cmpZ r (x.den - r) < 0) = decide (r < x.den - r):=by
      rw [decide_eq_decide];unfold cmpZ;split <;> simp_all;split <;> simp_all
    have l3:=flr_dl x fx
    have l4:dl (flr x + 1) ≤ 4096 ∨ r < x.den - r:=by
      by_cases hd1:x.den = 1
      · right;omega
      · left
        have h4:(flr x).natAbs * 2 ≤ x.num.natAbs + 2:=by
          have e:=Int.mul_fdiv_add_fmod x.num x.den
          rw [show x.num.fdiv x.den = flr x from rfl] at e
          have g0:0 ≤ x.num.fmod x.den:=Int.fmod_nonneg_of_pos _ (by omega)
          have g1:x.num.fmod x.den < x.den:=Int.fmod_lt_of_pos _ (by omega)
          generalize x.num.fmod x.den = s at *
          generalize flr x = k at *
          have hd2:2 ≤ x.den:=by omega
          rcases (show k < 0 ∨ 0 ≤ k by omega) with hk | hk
          · have h5:(x.den:Int) * (-k - 1) ≥ 2 * (-k - 1):=Int.mul_le_mul_of_nonneg_right (by omega) (by omega)
            have h6:(x.den:Int) * (-k - 1) = -(x.den * k) - x.den:=by rw [Int.mul_sub,Int.mul_neg];omega
            omega
          · have h5:(x.den:Int) * k ≥ 2 * k:=Int.mul_le_mul_of_nonneg_right (by omega) hk
            omega
        exact half_dl _ _ 4095 h4 f1
    generalize showR x = a at *
    generalize hasSlash a = hs at *
    have HC:=Lib.hid hc;clear hc
    have HP:=Lib.hid hp;clear hp
    have HQ:=Lib.hid hq;clear hq
    have HG:=Lib.hid hg;clear hg
    have HO:=Lib.hid ho;clear ho
    have HB:=Lib.hid (Below.refl w.heap.size w)
    have ENV:=Lib.hid env;clear env
    by_cases hlt:r < x.den - r
    · rw [nr,if_pos hlt]
      rw [decide_eq_true hlt] at hcmp
      clear nr l4 hz fx f1 f2 hden m0 m1 l1 l2 l3 hlt
      generalize cmpZ r (x.den - r) = c at *
      generalize itoa (flr x) = f at *
      generalize itoa x.num = tp at *
      generalize itoa (x.den:Int) = tq at *
      generalize itoa ((x.den:Int) - r) = tg at *
      generalize itoa r = tr at *
      go_enter Tryz.func35,Tryz.ntmps35
      go_wp2_with (first | (with_reducible refine ((HC.out _ (ENV.out.below HB.out)).mono ?_);rintro e w' ⟨rfl,hb⟩;replace HB:=Lib.hid (bch' HB.out hb);clear hb) | (with_reducible refine ((HP.out _ (ENV.out.below HB.out)).mono ?_);rintro e w' ⟨rfl,hb⟩;replace HB:=Lib.hid (bch' HB.out hb);clear hb) | (with_reducible refine ((HQ.out _ (ENV.out.below HB.out)).mono ?_);rintro e w' ⟨rfl,hb⟩;replace HB:=Lib.hid (bch' HB.out hb);clear hb) | (with_reducible refine ((HG.out _ (ENV.out.below HB.out)).mono ?_);rintro e w' ⟨rfl,hb⟩;replace HB:=Lib.hid (bch' HB.out hb);clear hb) | (with_reducible refine ((HO.out _).mono ?_);rintro e w' ⟨rfl,hb⟩;replace HB:=Lib.hid (bch' HB.out hb);clear hb))
      go_ret2
      exact ⟨rfl,HB.out⟩
    · rw [nr,if_neg hlt]
      have hadd:=fun W (e:Env W) => own_add (flr x) 1 W l3 (by have:=dl_zero;have:dl 1 = 1:=by {unfold dl;rw [show (1:Int).natAbs = 1 from rfl,dec_small (by omega)];rfl};omega) e
      rw [wrT_ok _ (l4.resolve_right hlt),itoa_one] at hadd
      rw [decide_eq_false hlt] at hcmp
      have HA:=Lib.hid hadd;clear hadd
      clear nr l4 hz fx f1 f2 hden m0 m1 l1 l2 l3 hlt
      generalize cmpZ r (x.den - r) = c at *
      generalize itoa (flr x + 1) = f1 at *
      generalize itoa (flr x) = f at *
      generalize itoa x.num = tp at *
      generalize itoa (x.den:Int) = tq at *
      generalize itoa ((x.den:Int) - r) = tg at *
      generalize itoa r = tr at *
      go_enter Tryz.func35,Tryz.ntmps35
      go_wp2_with (first | (with_reducible refine ((HC.out _ (ENV.out.below HB.out)).mono ?_);rintro e w' ⟨rfl,hb⟩;replace HB:=Lib.hid (bch' HB.out hb);clear hb) | (with_reducible refine ((HP.out _ (ENV.out.below HB.out)).mono ?_);rintro e w' ⟨rfl,hb⟩;replace HB:=Lib.hid (bch' HB.out hb);clear hb) | (with_reducible refine ((HQ.out _ (ENV.out.below HB.out)).mono ?_);rintro e w' ⟨rfl,hb⟩;replace HB:=Lib.hid (bch' HB.out hb);clear hb) | (with_reducible refine ((HG.out _ (ENV.out.below HB.out)).mono ?_);rintro e w' ⟨rfl,hb⟩;replace HB:=Lib.hid (bch' HB.out hb);clear hb) | (with_reducible refine ((HO.out _).mono ?_);rintro e w' ⟨rfl,hb⟩;replace HB:=Lib.hid (bch' HB.out hb);clear hb) | (with_reducible refine ((HA.out _ (ENV.out.below HB.out)).mono ?_);rintro e w' ⟨rfl,hb⟩;replace HB:=Lib.hid (bch' HB.out hb);clear hb))
      go_ret2
      exact ⟨rfl,HB.out⟩
  · rw [if_pos hz]
    rw [if_pos hz] at hc
    have hne:((ratCheck a:Int) != 0) = true:=by simpa using hz
    generalize ratCheck a = m at *
    clear hz ha
    have HC:=Lib.hid hc;clear hc
    have HB:=Lib.hid (Below.refl w.heap.size w)
    have ENV:=Lib.hid env;clear env
    go_enter Tryz.func35,Tryz.ntmps35
    go_wp2_with (first | (with_reducible refine ((HC.out _ (ENV.out.below HB.out)).mono ?_);rintro e w' ⟨rfl,hb⟩;replace HB:=Lib.hid (bch' HB.out hb);clear hb))
    go_ret2
    exact ⟨rfl,HB.out⟩
end Go.Proofs.YtmjkenlifgmeeaaGreatDoor
set_option maxRecDepth 100000
set_option maxHeartbeats 2000000
namespace Lum
open Go Go.RowKit Go.Shelf
open Go.Lib (decDigits itoa)
theorem mixT_all (a b c : Txt) : mixT a b c = if checkAll [a, b, c] ≠ 0 then ([], checkAll [a, b, c]) else if (rTwo b a qSub).2 ≠ 0 then ([], (rTwo b a qSub).2)
    else if (rTwo (rTwo b a qSub).1 c qMul).2 ≠ 0 then ([],(rTwo (rTwo b a qSub).1 c qMul).2) else rTwo a (rTwo (rTwo b a qSub).1 c qMul).1 qAdd:=by
  unfold mixT
  rw [checkAll_three]
  by_cases h1:checkTwo a b = 0
  · by_cases h2:ratCheck c = 0
    · simp only [h1,h2,ne_eq,not_true_eq_false,if_false]
    · simp only [h1,h2,ne_eq,not_true_eq_false,not_false_eq_true,if_false,if_true]
  · simp only [h1,ne_eq,not_false_eq_true,if_true]
end Lum
namespace Go.Proofs.YtmjkenlifgmeeaaGreatDoor
open Go.RowKit Go.Shelf Lum
open Go.Lib (decDigits itoa)
attribute [local go_sem] bs_get bs_extract_end bs_extract_from bs_extract bs_append
theorem three_cells (W:World) (a b c:Value) (t:TypeId):∀ j,j < 3 → (W.alloc (.cells #[a,b,c] t)).cell? ⟨W.heap.size,j,none⟩ = some ([a,b,c][j]?.getD undef):=by
  intro j hj
  rw [World.cell?_alloc_new]
  match j,hj with
  | 0,_ => rfl
  | 1,_ => rfl
  | 2,_ => rfl
theorem own_checks3 (a b c : Txt) (w : World) (env : Env w) (ha : a.length ≤ 100000) (hb : b.length ≤ 100000) (hc : c.length ≤ 100000) :
    Calls Tryz.prog 138 #[.slice (some ⟨w.heap.size,0,none⟩) 3 3] (w.alloc (.cells #[.string ⟨a.toArray⟩,.string ⟨b.toArray⟩,.string ⟨c.toArray⟩] 39)) fun e w' => e = .returned (.int .i64 (checkAll [a,b,c])) ∧ Below w.heap.size w w':=by
  have hB:=(Below.refl w.heap.size w).alloc (Nat.le_refl _) (.cells #[.string ⟨a.toArray⟩,.string ⟨b.toArray⟩,.string ⟨c.toArray⟩] 39)
  have h:=own_checks [a,b,c] w.heap.size (w.alloc (.cells #[.string ⟨a.toArray⟩,.string ⟨b.toArray⟩,.string ⟨c.toArray⟩] 39)) (env.below hB) (by simp) (by intro l hl;simp at hl;rcases hl with rfl | rfl | rfl <;> assumption) (by simp) (by
    intro j hj
    rw [three_cells w _ _ _ _ j hj]
    match j,hj with
    | 0,_ => rfl
    | 1,_ => rfl
    | 2,_ => rfl)
  exact h.mono fun e w' ⟨h1,h2⟩ => ⟨h1,bch' hB h2⟩
theorem own_mix (a b c : Txt) (w : World) (ha : a.length ≤ 100000) (hb : b.length ≤ 100000) (hc : c.length ≤ 100000) (env : Env w) :
    Calls Tryz.prog 176 #[.string ⟨(a).toArray⟩,.string ⟨(b).toArray⟩,.string ⟨(c).toArray⟩] w fun e w' => e = .returned (.tuple #[.string ⟨((mixT a b c).1).toArray⟩,.int .i64 ((mixT a b c).2)]) ∧ Below w.heap.size w w':=by
  have hk:=own_checks3 a b c w env ha hb hc
  rw [mixT_all]
  have la:=rTwo_len b a qSub qSub_len
  have lm:=rTwo_len (rTwo b a qSub).1 c qMul qMul_len
  have hs:=fun W (e:Env W) => own_rsub b a W e hb ha
  have hm:=fun W (e:Env W) => own_rmul (rTwo b a qSub).1 c W e la hc
  have hp:=fun W (e:Env W) => own_radd a (rTwo (rTwo b a qSub).1 c qMul).1 W e ha lm
  clear la lm
  generalize rTwo a (rTwo (rTwo b a qSub).1 c qMul).1 qAdd = z at *
  generalize rTwo (rTwo b a qSub).1 c qMul = y at *
  generalize rTwo b a qSub = x at *
  obtain ⟨x1,x2⟩:=x
  obtain ⟨y1,y2⟩:=y
  dsimp only at hs hm hp ⊢
  generalize checkAll [a,b,c] = k at *
  clear ha hb hc
  have HS:=Lib.hid hs;clear hs
  have HM:=Lib.hid hm;clear hm
  have HP:=Lib.hid hp;clear hp
  have HK:=Lib.hid hk;clear hk
  have ENV:=Lib.hid env;clear env
  by_cases h1:k = 0
  · subst h1
    rw [if_neg (by simp)]
    by_cases h2:x2 = 0
    · subst h2
      rw [if_neg (by simp)]
      by_cases h3:y2 = 0
      · subst h3
        rw [if_neg (by simp)]
        go_enter Tryz.func176,Tryz.ntmps176;go_wp2_with fail;refine ((HK.out).mono ?_);rintro e w1 ⟨rfl,hb⟩;have HB:=Lib.hid hb;clear hb
        go_wp2_with (first | (with_reducible refine ((HS.out _ (ENV.out.below HB.out)).mono ?_);rintro e w' ⟨rfl,hb⟩;replace HB:=Lib.hid (bch' HB.out hb);clear hb) | (with_reducible refine ((HM.out _ (ENV.out.below HB.out)).mono ?_);rintro e w' ⟨rfl,hb⟩;replace HB:=Lib.hid (bch' HB.out hb);clear hb) | (with_reducible refine ((HP.out _ (ENV.out.below HB.out)).mono ?_);rintro e w' ⟨rfl,hb⟩;replace HB:=Lib.hid (bch' HB.out hb);clear hb))
        go_ret2
        exact ⟨rfl,HB.out⟩
      · rw [if_pos h3]
        have hne:((y2:Int) != 0) = true:=by simpa using h3
        clear h3
        go_enter Tryz.func176,Tryz.ntmps176;go_wp2_with fail;refine ((HK.out).mono ?_);rintro e w1 ⟨rfl,hb⟩;have HB:=Lib.hid hb;clear hb
        go_wp2_with (first | (with_reducible refine ((HS.out _ (ENV.out.below HB.out)).mono ?_);rintro e w' ⟨rfl,hb⟩;replace HB:=Lib.hid (bch' HB.out hb);clear hb) | (with_reducible refine ((HM.out _ (ENV.out.below HB.out)).mono ?_);rintro e w' ⟨rfl,hb⟩;replace HB:=Lib.hid (bch' HB.out hb);clear hb) | (with_reducible refine ((HP.out _ (ENV.out.below HB.out)).mono ?_);rintro e w' ⟨rfl,hb⟩;replace HB:=Lib.hid (bch' HB.out hb);clear hb))
        go_ret2
        exact ⟨rfl,HB.out⟩
    · rw [if_pos h2]
      have hne:((x2:Int) != 0) = true:=by simpa using h2
      clear h2
      go_enter Tryz.func176,Tryz.ntmps176;go_wp2_with fail;refine ((HK.out).mono ?_);rintro e w1 ⟨rfl,hb⟩;have HB:=Lib.hid hb;clear hb
      go_wp2_with (first | (with_reducible refine ((HS.out _ (ENV.out.below HB.out)).mono ?_);rintro e w' ⟨rfl,hb⟩;replace HB:=Lib.hid (bch' HB.out hb);clear hb) | (with_reducible refine ((HM.out _ (ENV.out.below HB.out)).mono ?_);rintro e w' ⟨rfl,hb⟩;replace HB:=Lib.hid (bch' HB.out hb);clear hb) | (with_reducible refine ((HP.out _ (ENV.out.below HB.out)).mono ?_);rintro e w' ⟨rfl,hb⟩;replace HB:=Lib.hid (bch' HB.out hb);clear hb))
      go_ret2
      exact ⟨rfl,HB.out⟩
  · rw [if_pos h1]
    have hne:((k:Int) != 0) = true:=by simpa using h1
    clear h1
    go_enter Tryz.func176,Tryz.ntmps176;go_wp2_with fail;refine ((HK.out).mono ?_);rintro e w1 ⟨rfl,hb⟩;have HB:=Lib.hid hb;clear hb
    go_wp2
    go_ret2
    exact ⟨rfl,HB.out⟩
end Go.Proofs.YtmjkenlifgmeeaaGreatDoor

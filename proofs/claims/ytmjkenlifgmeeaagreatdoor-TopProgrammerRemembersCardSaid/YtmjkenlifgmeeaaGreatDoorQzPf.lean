/-
  
-/
import Derived.Test.YtmjkenlifgmeeaaGreatDoorQzSd
import Derived.Test.YtmjkenlifgmeeaaGreatDoorQzSb
import Derived.Test.YtmjkenlifgmeeaaGreatDoorQzSx
import Derived.Test.YtmjkenlifgmeeaaGreatDoorQzSm
import Derived.Test.YtmjkenlifgmeeaaGreatDoorQzNf
set_option linter.unusedVariables false
set_option linter.unusedSimpArgs false
set_option maxRecDepth 100000
set_option maxHeartbeats 2000000
namespace Lum
open Go Go.RowKit Go.Shelf
open Go.Lib (decDigits itoa)
theorem blkN1 (w:World) (o:Obj) (t:TypeId) (cs:Array Value):Blk ((w.alloc o).alloc (.cells cs t)) (w.heap.size + 1) t cs:=by
  have h:=Blk.new (w.alloc o) t cs
  rwa [World.size_alloc] at h
def frontG:List Gn:=[⟨1,0,40000⟩,⟨1,1,500⟩]
theorem gns_front {W:World} {g:Nat} {t:TypeId} (h:Blk W g t #[.int .i64 1,.int .i64 0,.int .i64 40000,.int .i64 1,.int .i64 1,.int .i64 500]):GnsAt W (.slice (some ⟨g,0,none⟩) 2 2) frontG:=by
  refine ⟨_,_,rfl,Nat.le_refl _,fun _ => ⟨g,0,rfl,h.lt,fun i hi => ?_⟩⟩
  match i,hi with
  | 0,_ => exact ⟨h.c6.1,h.c6.2.1,h.c6.2.2.1⟩
  | 1,_ => exact ⟨h.c6.2.2.2.1,h.c6.2.2.2.2.1,h.c6.2.2.2.2.2.1⟩
theorem belongs_nil {nu:Int}:Belongs (fun k => (fdv [] k).su) ([]:List Fdr).length nu 0 false:=⟨Nat.le_refl _,fun _ h => absurd h (Nat.not_lt_zero _),(fun h => by cases h),fun _ _ _ h => absurd h (Nat.not_lt_zero _),fun _ _ h => absurd h (Nat.not_lt_zero _)⟩
end Lum
namespace Go.Proofs.YtmjkenlifgmeeaaGreatDoor
open Go.RowKit Go.Shelf Lum
open Go.Lib (decDigits itoa)
attribute [local go_sem] bs_get bs_extract_end bs_extract_from bs_extract bs_append
theorem l26_front (w : World) :
    Calls Tryz.prog 20 #[] w fun e w' => ∃ gv,e = .returned (.agg #[.int .i64 3,.int .i64 0,.bool false,gv]) ∧ GnsAt w' gv frontG ∧ Below w.heap.size w w':=by
  go_enter Tryz.func20,Tryz.ntmps20
  go_wp2
  refine bodyPost_ret_by (v:=.agg #[.int .i64 3,.int .i64 0,.bool false,.slice (some ⟨w.heap.size + 1,0,none⟩) 2 2]) (by simp [results,Tryz.f20,go_sem]) rfl ⟨_,rfl,gns_front (blkN1 w _ 106 _),((Below.refl _ _).alloc (Nat.le_refl _) _).alloc (by simp) _⟩
end Go.Proofs.YtmjkenlifgmeeaaGreatDoor
set_option maxRecDepth 100000
set_option maxHeartbeats 4000000
namespace Go.Proofs.YtmjkenlifgmeeaaGreatDoor
open Go.RowKit Go.Shelf Lum
open Go.Lib (decDigits itoa)
attribute [local go_sem] bs_get bs_extract_end bs_extract_from bs_extract bs_append
end Go.Proofs.YtmjkenlifgmeeaaGreatDoor
namespace Lum
open Go Go.RowKit Go.Shelf
open Go.Lib (decDigits itoa)
def wiE (v:Txt) (lim:Int):Int:=if ratCheck v ≠ 0 then ratCheck v else if valR v < 0 ∨ ((lim:Int):Rat) < valR v then 2 else 0
theorem wiE_bad {v:Txt} {lim:Int} (h:¬ ratCheck v = 0):wiE v lim = ratCheck v:=by unfold wiE;rw [if_pos h]
theorem wiE_out {q:Rat} {lim:Int} (h:ratCheck (showR q) = 0) (h2:q < 0 ∨ ((lim:Int):Rat) < q):wiE (showR q) lim = 2:=by unfold wiE;rw [if_neg (by simpa using h),valR_showR,if_pos h2]
theorem wiE_in {q:Rat} {lim:Int} (h:ratCheck (showR q) = 0) (h2:¬ (q < 0 ∨ ((lim:Int):Rat) < q)):wiE (showR q) lim = 0:=by unfold wiE;rw [if_neg (by simpa using h),valR_showR,if_neg h2]
theorem wiE_zero {v:Txt} {lim:Int} (h:wiE v lim = 0):∃ q,v = showR q ∧ valR v = q ∧ 0 ≤ q ∧ q ≤ ((lim:Int):Rat):=by
  by_cases h1:ratCheck v = 0
  · obtain ⟨q,rfl,-⟩:=ratCheck_zero v h1
    by_cases h2:q < 0 ∨ ((lim:Int):Rat) < q
    · rw [wiE_out h1 h2] at h;omega
    · exact ⟨q,rfl,valR_showR q,Rat.not_lt.1 fun g => h2 (.inl g),Rat.not_lt.1 fun g => h2 (.inr g)⟩
  · rw [wiE_bad h1] at h;exact absurd h h1
def apT (v fa:Txt) (at_:Int):Txt × Int:=if wiE v 65535 ≠ 0 then ([],wiE v 65535) else if wiE fa 1 ≠ 0 then ([],wiE fa 1) else if at_ < 0 ∨ 15 ≤ at_ then ([],2) else if at_ ≠ 0 then (v,0) else (showR (valR v * valR fa),0)
theorem apT_v {v fa:Txt} {at_:Int} (h:¬ wiE v 65535 = 0):apT v fa at_ = ([],wiE v 65535):=by unfold apT;rw [if_pos h]
theorem apT_f {v fa:Txt} {at_:Int} (h:wiE v 65535 = 0) (h2:¬ wiE fa 1 = 0):apT v fa at_ = ([],wiE fa 1):=by unfold apT;rw [if_neg (by simpa using h),if_pos h2]
theorem apT_at {v fa:Txt} {at_:Int} (h:wiE v 65535 = 0) (h2:wiE fa 1 = 0) (h3:at_ < 0 ∨ 15 ≤ at_):apT v fa at_ = ([],2):=by unfold apT;rw [if_neg (by simpa using h),if_neg (by simpa using h2),if_pos h3]
theorem apT_no {v fa:Txt} {at_:Int} (h:wiE v 65535 = 0) (h2:wiE fa 1 = 0) (h3:¬ (at_ < 0 ∨ 15 ≤ at_)) (h4:¬ at_ = 0):apT v fa at_ = (v,0):=by unfold apT;rw [if_neg (by simpa using h),if_neg (by simpa using h2),if_neg h3,if_pos h4]
theorem apT_ok {v fa:Txt} {at_:Int} (h:wiE v 65535 = 0) (h2:wiE fa 1 = 0) (h3:¬ (at_ < 0 ∨ 15 ≤ at_)) (h4:at_ = 0):apT v fa at_ = (showR (valR v * valR fa),0):=by unfold apT;rw [if_neg (by simpa using h),if_neg (by simpa using h2),if_neg h3,if_neg (by simpa using h4)]
end Lum
namespace Go.Proofs.YtmjkenlifgmeeaaGreatDoor
open Go.RowKit Go.Shelf Lum
open Go.Lib (decDigits itoa)
attribute [local go_sem] bs_get bs_extract_end bs_extract_from bs_extract bs_append
theorem own_mwithin (lim : Int) (v : Txt) (k : Nat) (w : World) (hx : v.length ≤ 100000) (hk : ∀ q, v = showR q → Fits k q) (hk2 : k ≤ 4000) (h0 : 0 ≤ lim) (h1 : lim ≤ 65535) (env : Env w) :
    Calls Tryz.prog 48 #[.string ⟨(v).toArray⟩,.int .i64 lim] w fun e w' => e = .returned (.int .i64 (wiE v lim)) ∧ Below w.heap.size w w':=by
  have ENV:=Lib.hid env;clear env
  have HB:=Lib.hid (Below.refl w.heap.size w)
  have hw0:=fun W (e:Env W) => own_whole 0 W (by omega) (by omega) e
  have hw1:=fun W (e:Env W) => own_whole lim W (by omega) (by omega) e
  have hc:=fun W (e:Env W) => own_rcheck v W hx e
  rw [show itoa 0 = [48] by decide +kernel] at hw0
  rw [← showR_int] at hw1
  by_cases hz:ratCheck v = 0
  · obtain ⟨q,rfl,-⟩:=ratCheck_zero v hz
    have fq:=hk q rfl
    have fm:=fits_i64 lim (by omega) (by omega)
    have c1:=fun W (e:Env W) => own_rcompare (showR 0) (showR q) W e (len_ok fits_0 (by omega)) (len_ok fq (by omega))
    have c2:=fun W (e:Env W) => own_rcompare (showR q) (showR ((lim:Int):Rat)) W e (len_ok fq (by omega)) (len_ok fm (by omega))
    rw [cmp_gen fits_0 fq (by omega),showR_zero] at c1
    rw [cmp_gen fq fm (by omega)] at c2
    dsimp only at c1 c2
    obtain ⟨s1,hs1⟩:∃ s,s = sgn 0 q:=⟨_,rfl⟩
    obtain ⟨s2,hs2⟩:∃ s,s = sgn q ((lim:Int):Rat):=⟨_,rfl⟩
    rw [← hs1] at c1
    rw [← hs2] at c2
    have HS1:=Lib.hid hs1;have HS2:=Lib.hid hs2;clear hs1 hs2
    rw [hz] at hc
    by_cases g1:q < 0
    · rw [wiE_out hz (.inl g1)]
      have k1:0 < s1:=by rw [HS1.out];exact (sgn_gt _ _).2 g1
      clear g1
      have HC:=Lib.hid hc;clear hc
      have HW0:=Lib.hid hw0;clear hw0
      have HW1:=Lib.hid hw1;clear hw1
      have HC1:=Lib.hid c1;clear c1
      have HC2:=Lib.hid c2;clear c2
      clear hz fq fm hk hx
      generalize showR q = tq at *
      generalize showR ((lim:Int):Rat) = tl at *
      go_enter Tryz.func48,Tryz.ntmps48
      go_wp2_with (first | (with_reducible refine ((HC.out _ (ENV.out.below HB.out)).mono ?_);rintro e w' ⟨rfl,hb⟩;replace HB:=Lib.hid (bch' HB.out hb);clear hb) | (with_reducible refine ((HW0.out _ (ENV.out.below HB.out)).mono ?_);rintro e w' ⟨rfl,hb⟩;replace HB:=Lib.hid (bch' HB.out hb);clear hb) | (with_reducible refine ((HW1.out _ (ENV.out.below HB.out)).mono ?_);rintro e w' ⟨rfl,hb⟩;replace HB:=Lib.hid (bch' HB.out hb);clear hb) | (with_reducible refine ((HC1.out _ (ENV.out.below HB.out)).mono ?_);rintro e w' ⟨rfl,hb⟩;replace HB:=Lib.hid (bch' HB.out hb);clear hb) | (with_reducible refine ((HC2.out _ (ENV.out.below HB.out)).mono ?_);rintro e w' ⟨rfl,hb⟩;replace HB:=Lib.hid (bch' HB.out hb);clear hb))
      go_ret
      exact ⟨rfl,HB.out⟩
    have k1:¬ 0 < s1:=by rw [HS1.out];exact mt (sgn_gt _ _).1 g1
    by_cases g2:((lim:Int):Rat) < q
    · rw [wiE_out hz (.inr g2)]
      have k2:0 < s2:=by rw [HS2.out];exact (sgn_gt _ _).2 g2
      clear g1 g2
      have HC:=Lib.hid hc;clear hc
      have HW0:=Lib.hid hw0;clear hw0
      have HW1:=Lib.hid hw1;clear hw1
      have HC1:=Lib.hid c1;clear c1
      have HC2:=Lib.hid c2;clear c2
      clear hz fq fm hk hx
      generalize showR q = tq at *
      generalize showR ((lim:Int):Rat) = tl at *
      go_enter Tryz.func48,Tryz.ntmps48
      go_wp2_with (first | (with_reducible refine ((HC.out _ (ENV.out.below HB.out)).mono ?_);rintro e w' ⟨rfl,hb⟩;replace HB:=Lib.hid (bch' HB.out hb);clear hb) | (with_reducible refine ((HW0.out _ (ENV.out.below HB.out)).mono ?_);rintro e w' ⟨rfl,hb⟩;replace HB:=Lib.hid (bch' HB.out hb);clear hb) | (with_reducible refine ((HW1.out _ (ENV.out.below HB.out)).mono ?_);rintro e w' ⟨rfl,hb⟩;replace HB:=Lib.hid (bch' HB.out hb);clear hb) | (with_reducible refine ((HC1.out _ (ENV.out.below HB.out)).mono ?_);rintro e w' ⟨rfl,hb⟩;replace HB:=Lib.hid (bch' HB.out hb);clear hb) | (with_reducible refine ((HC2.out _ (ENV.out.below HB.out)).mono ?_);rintro e w' ⟨rfl,hb⟩;replace HB:=Lib.hid (bch' HB.out hb);clear hb))
      go_ret
      exact ⟨rfl,HB.out⟩
    have k2:¬ 0 < s2:=by rw [HS2.out];exact mt (sgn_gt _ _).1 g2
    rw [wiE_in hz (fun h => h.elim g1 g2)]
    clear g1 g2
    have HC:=Lib.hid hc;clear hc
    have HW0:=Lib.hid hw0;clear hw0
    have HW1:=Lib.hid hw1;clear hw1
    have HC1:=Lib.hid c1;clear c1
    have HC2:=Lib.hid c2;clear c2
    clear hz fq fm hk hx
    generalize showR q = tq at *
    generalize showR ((lim:Int):Rat) = tl at *
    go_enter Tryz.func48,Tryz.ntmps48
    go_wp2_with (first | (with_reducible refine ((HC.out _ (ENV.out.below HB.out)).mono ?_);rintro e w' ⟨rfl,hb⟩;replace HB:=Lib.hid (bch' HB.out hb);clear hb) | (with_reducible refine ((HW0.out _ (ENV.out.below HB.out)).mono ?_);rintro e w' ⟨rfl,hb⟩;replace HB:=Lib.hid (bch' HB.out hb);clear hb) | (with_reducible refine ((HW1.out _ (ENV.out.below HB.out)).mono ?_);rintro e w' ⟨rfl,hb⟩;replace HB:=Lib.hid (bch' HB.out hb);clear hb) | (with_reducible refine ((HC1.out _ (ENV.out.below HB.out)).mono ?_);rintro e w' ⟨rfl,hb⟩;replace HB:=Lib.hid (bch' HB.out hb);clear hb) | (with_reducible refine ((HC2.out _ (ENV.out.below HB.out)).mono ?_);rintro e w' ⟨rfl,hb⟩;replace HB:=Lib.hid (bch' HB.out hb);clear hb))
    go_ret
    exact ⟨rfl,HB.out⟩
  · rw [wiE_bad hz]
    have hne:((ratCheck v:Int) != 0) = true:=by simpa using hz
    clear hz
    generalize ratCheck v = m at *
    have HC:=Lib.hid hc;clear hc
    have HW0:=Lib.hid hw0;clear hw0
    have HW1:=Lib.hid hw1;clear hw1
    go_enter Tryz.func48,Tryz.ntmps48
    go_wp2_with (first | (with_reducible refine ((HC.out _ (ENV.out.below HB.out)).mono ?_);rintro e w' ⟨rfl,hb⟩;replace HB:=Lib.hid (bch' HB.out hb);clear hb))
    go_ret
    exact ⟨rfl,HB.out⟩
theorem own_mapply (at_ : Int) (v fa : Txt) (k l : Nat) (w : World) (hx : v.length ≤ 100000) (hy : fa.length ≤ 100000) (hk : ∀ q, v = showR q → Fits k q) (hl : ∀ q, fa = showR q → Fits l q) (hkl : k + l ≤ 4000) (env : Env w) :
    Calls Tryz.prog 22 #[.string ⟨(v).toArray⟩,.string ⟨(fa).toArray⟩,.int .i64 at_] w fun e w' => e = .returned (.tuple #[.string ⟨((apT v fa at_).1).toArray⟩,.int .i64 ((apT v fa at_).2)]) ∧ Below w.heap.size w w':=by
  have ENV:=Lib.hid env;clear env
  have HB:=Lib.hid (Below.refl w.heap.size w)
  have ha:=fun W (e:Env W) => own_mwithin 65535 v k W hx hk (by omega) (by omega) (by omega) e
  have hb2:=fun W (e:Env W) => own_mwithin 1 fa l W hy hl (by omega) (by omega) (by omega) e
  by_cases z1:wiE v 65535 = 0
  · rw [z1] at ha
    by_cases z2:wiE fa 1 = 0
    · rw [z2] at hb2
      by_cases o1:at_ < 0
      · rw [apT_at z1 z2 (by omega)]
        clear z1 z2
        have HA:=Lib.hid ha;clear ha
        have HB2:=Lib.hid hb2;clear hb2
        go_enter Tryz.func22,Tryz.ntmps22
        go_wp2_with (first | (with_reducible refine ((HA.out _ (ENV.out.below HB.out)).mono ?_);rintro e w' ⟨rfl,hb⟩;replace HB:=Lib.hid (bch' HB.out hb);clear hb) | (with_reducible refine ((HB2.out _ (ENV.out.below HB.out)).mono ?_);rintro e w' ⟨rfl,hb⟩;replace HB:=Lib.hid (bch' HB.out hb);clear hb) | (with_reducible refine ((HMU.out _ (ENV.out.below HB.out)).mono ?_);rintro e w' ⟨rfl,hb⟩;replace HB:=Lib.hid (bch' HB.out hb);clear hb))
        go_ret2
        exact ⟨rfl,HB.out⟩
      by_cases o2:15 ≤ at_
      · rw [apT_at z1 z2 (by omega)]
        clear z1 z2
        have HA:=Lib.hid ha;clear ha
        have HB2:=Lib.hid hb2;clear hb2
        go_enter Tryz.func22,Tryz.ntmps22
        go_wp2_with (first | (with_reducible refine ((HA.out _ (ENV.out.below HB.out)).mono ?_);rintro e w' ⟨rfl,hb⟩;replace HB:=Lib.hid (bch' HB.out hb);clear hb) | (with_reducible refine ((HB2.out _ (ENV.out.below HB.out)).mono ?_);rintro e w' ⟨rfl,hb⟩;replace HB:=Lib.hid (bch' HB.out hb);clear hb) | (with_reducible refine ((HMU.out _ (ENV.out.below HB.out)).mono ?_);rintro e w' ⟨rfl,hb⟩;replace HB:=Lib.hid (bch' HB.out hb);clear hb))
        go_ret2
        exact ⟨rfl,HB.out⟩
      by_cases o3:at_ = 0
      · rw [apT_ok z1 z2 (by omega) o3]
        obtain ⟨x,rfl,e1,-,-⟩:=wiE_zero z1
        obtain ⟨y,rfl,e2,-,-⟩:=wiE_zero z2
        rw [e1,e2]
        have hmu:=fun W (e:Env W) => own_rmul (showR x) (showR y) W e hx hy
        rw [mul_gen (hk x rfl) (hl y rfl) (by omega)] at hmu
        dsimp only at hmu
        have o4:((at_:Int) != 0) = false:=by simpa using o3
        clear z1 z2 e1 e2 hk hl o3
        generalize showR (x * y) = t3 at *
        generalize showR x = t1 at *
        generalize showR y = t2 at *
        have HA:=Lib.hid ha;clear ha
        have HB2:=Lib.hid hb2;clear hb2
        have HMU:=Lib.hid hmu;clear hmu
        go_enter Tryz.func22,Tryz.ntmps22
        go_wp2_with (first | (with_reducible refine ((HA.out _ (ENV.out.below HB.out)).mono ?_);rintro e w' ⟨rfl,hb⟩;replace HB:=Lib.hid (bch' HB.out hb);clear hb) | (with_reducible refine ((HB2.out _ (ENV.out.below HB.out)).mono ?_);rintro e w' ⟨rfl,hb⟩;replace HB:=Lib.hid (bch' HB.out hb);clear hb) | (with_reducible refine ((HMU.out _ (ENV.out.below HB.out)).mono ?_);rintro e w' ⟨rfl,hb⟩;replace HB:=Lib.hid (bch' HB.out hb);clear hb))
        go_ret2
        exact ⟨rfl,HB.out⟩
      · rw [apT_no z1 z2 (by omega) o3]
        have o4:((at_:Int) != 0) = true:=by simpa using o3
        clear z1 z2 o3
        have HA:=Lib.hid ha;clear ha
        have HB2:=Lib.hid hb2;clear hb2
        go_enter Tryz.func22,Tryz.ntmps22
        go_wp2_with (first | (with_reducible refine ((HA.out _ (ENV.out.below HB.out)).mono ?_);rintro e w' ⟨rfl,hb⟩;replace HB:=Lib.hid (bch' HB.out hb);clear hb) | (with_reducible refine ((HB2.out _ (ENV.out.below HB.out)).mono ?_);rintro e w' ⟨rfl,hb⟩;replace HB:=Lib.hid (bch' HB.out hb);clear hb) | (with_reducible refine ((HMU.out _ (ENV.out.below HB.out)).mono ?_);rintro e w' ⟨rfl,hb⟩;replace HB:=Lib.hid (bch' HB.out hb);clear hb))
        go_ret2
        exact ⟨rfl,HB.out⟩
    · rw [apT_f z1 z2]
      have hne:((wiE fa 1:Int) != 0) = true:=by simpa using z2
      clear z1 z2
      generalize wiE fa 1 = m at *
      have HA:=Lib.hid ha;clear ha
      have HB2:=Lib.hid hb2;clear hb2
      go_enter Tryz.func22,Tryz.ntmps22
      go_wp2_with (first | (with_reducible refine ((HA.out _ (ENV.out.below HB.out)).mono ?_);rintro e w' ⟨rfl,hb⟩;replace HB:=Lib.hid (bch' HB.out hb);clear hb) | (with_reducible refine ((HB2.out _ (ENV.out.below HB.out)).mono ?_);rintro e w' ⟨rfl,hb⟩;replace HB:=Lib.hid (bch' HB.out hb);clear hb) | (with_reducible refine ((HMU.out _ (ENV.out.below HB.out)).mono ?_);rintro e w' ⟨rfl,hb⟩;replace HB:=Lib.hid (bch' HB.out hb);clear hb))
      go_ret2
      exact ⟨rfl,HB.out⟩
  · rw [apT_v z1]
    have hne:((wiE v 65535:Int) != 0) = true:=by simpa using z1
    clear z1
    generalize wiE v 65535 = m at *
    have HA:=Lib.hid ha;clear ha
    have HB2:=Lib.hid hb2;clear hb2
    go_enter Tryz.func22,Tryz.ntmps22
    go_wp2_with (first | (with_reducible refine ((HA.out _ (ENV.out.below HB.out)).mono ?_);rintro e w' ⟨rfl,hb⟩;replace HB:=Lib.hid (bch' HB.out hb);clear hb) | (with_reducible refine ((HB2.out _ (ENV.out.below HB.out)).mono ?_);rintro e w' ⟨rfl,hb⟩;replace HB:=Lib.hid (bch' HB.out hb);clear hb) | (with_reducible refine ((HMU.out _ (ENV.out.below HB.out)).mono ?_);rintro e w' ⟨rfl,hb⟩;replace HB:=Lib.hid (bch' HB.out hb);clear hb))
    go_ret2
    exact ⟨rfl,HB.out⟩
end Go.Proofs.YtmjkenlifgmeeaaGreatDoor
namespace Go.Proofs.YtmjkenlifgmeeaaGreatDoor
open Go.RowKit Go.Shelf Lum
open Go.Lib (decDigits itoa)
attribute [local go_sem] bs_get bs_extract_end bs_extract_from bs_extract bs_append
end Go.Proofs.YtmjkenlifgmeeaaGreatDoor
set_option maxRecDepth 100000
set_option maxHeartbeats 8000000
namespace Go.Proofs.YtmjkenlifgmeeaaGreatDoor
open Go.RowKit Go.Shelf Lum
open Go.Lib (decDigits itoa)
attribute [local go_sem] bs_get bs_extract_end bs_extract_from bs_extract bs_append
theorem l15_play (w : World) (env : Env w) :
    Calls Tryz.prog 4 #[] w fun e w' => e = .returned (.bool (true)) ∧ Below w.heap.size w w':=by
  have ENV:=Lib.hid env;clear env
  have HB:=Lib.hid (Below.refl w.heap.size w)
  have hfr:=fun W => l26_front W
  have HFR:=Lib.hid hfr;clear hfr
  go_enter Tryz.func4,Tryz.ntmps4
  go_wp2_with fail
  refine ((HFR.out _).mono ?_)
  rintro e w1 ⟨gv1,rfl,hg1,hb⟩
  have HG1:=Lib.hid hg1;clear hg1
  replace HB:=Lib.hid (bch' HB.out hb);clear hb
  go_wp2_with fail
  refine ((own_smove_new 3 0 0 13107 0 false frontG [] gv1 (.slice none 0 0) 0 _ HG1.out (fds_nil _) (by decide +kernel) (by decide +kernel) (fun i h => absurd h (Nat.not_lt_zero i)) (by decide) belongs_nil (by decide) (ENV.out.below HB.out)).mono ?_)
  rw [show insL [] 0 false (mvF 3 false [] 0 13107 0 false) = [⟨3,[48],13107,0,0,0⟩] by decide +kernel]
  rintro e w2 ⟨pp2,cc2,rfl,ho2,hb⟩
  have HL2:=Lib.hid (OwnR.fds ho2);clear ho2
  replace HG1:=Lib.hid (GnsAt.kept HG1.out hb)
  replace HB:=Lib.hid (bch' HB.out hb);clear hb
  go_wp2_with fail
  clear HG1
  refine ((HFR.out _).mono ?_)
  rintro e w3 ⟨gv3,rfl,hg3,hb⟩
  replace HL2:=Lib.hid (FdsAt.kept HL2.out hb)
  have HG3:=Lib.hid hg3;clear hg3
  replace HB:=Lib.hid (bch' HB.out hb);clear hb
  go_wp2_with fail
  refine ((own_samount_ok 3 0 1 0 5 false frontG [⟨3,[48],13107,0,0,0⟩] gv3 (.slice pp2 1 cc2) _ HG3.out HL2.out (by decide +kernel) (by decide +kernel) (fdN_len (.inr (.inl ⟨3,13107,rfl⟩))) (by decide) (ENV.out.below HB.out)).mono ?_)
  rw [show amT 3 false frontG [⟨3,[48],13107,0,0,0⟩] 1 0 5 = ([56,48,48,48],true) by decide +kernel]
  dsimp only
  rintro e w4 ⟨rfl,hb⟩
  replace HL2:=Lib.hid (FdsAt.kept HL2.out hb)
  replace HG3:=Lib.hid (GnsAt.kept HG3.out hb)
  replace HB:=Lib.hid (bch' HB.out hb);clear hb
  go_wp2_with fail
  clear HG3 HL2
  refine ((own_mapply 0 [56,48,48,48] [49,47,50] 6 6 _ (by decide) (by decide) (fun q h => by have h2:=congrArg valR h;rw [valR_showR] at h2;rw [← h2];unfold Fits;decide +kernel) (fun q h => by have h2:=congrArg valR h;rw [valR_showR] at h2;rw [← h2];unfold Fits;decide +kernel) (by omega) (ENV.out.below HB.out)).mono ?_)
  rw [show apT [56,48,48,48] [49,47,50] 0 = ([52,48,48,48],0) by decide +kernel]
  dsimp only
  rintro e w5 ⟨rfl,hb⟩
  replace HB:=Lib.hid (bch' HB.out hb);clear hb
  go_wp2_with fail
  go_ret
  exact ⟨rfl,HB.out⟩
end Go.Proofs.YtmjkenlifgmeeaaGreatDoor

/- A part of the proof of EffectAdds: contracts of functions, and plain facts. -/
import Derived.Test.YtbeojahilbglcaaGreatDoorQdWp
import Derived.Test.YtbeojahilbglcaaGreatDoorQdWc
import Derived.Test.YtbeojahilbglcaaGreatDoorQdWv1
import Derived.Test.YtbeojahilbglcaaGreatDoorQdWv2
import Derived.Test.YtbeojahilbglcaaGreatDoorQdTl
set_option maxRecDepth 100000
set_option maxHeartbeats 4000000
set_option linter.unusedVariables false
set_option linter.unusedSimpArgs false
namespace Lum
open Go Go.RowKit Go.Shelf
open Go.Lib (decDigits itoa)
theorem fits_k:Fits 4 ((1000:Int):Rat):=by unfold Fits;decide +kernel
theorem show_k:showR ((1000:Int):Rat) = [49,48,48,48]:=by decide +kernel
theorem k_ne:((1000:Int):Rat) ≠ 0:=by decide +kernel
theorem flr_dlk {x:Rat} {k:Nat} (h:Fits k x):dl (flr x) ≤ k:=by
  have f:=h.1
  have hp:=x.den_pos
  refine Nat.le_trans (dl_mono ?_) f
  rw [flr,Int.fdiv_eq_ediv_of_nonneg _ (by omega)]
  rcases (show x.num < 0 ∨ 0 ≤ x.num by omega) with h | h
  · have h1:x.num ≤ x.num / (x.den:Int):=(Int.le_ediv_iff_mul_le (by omega)).2 (by
      have:=Int.mul_le_mul_of_nonpos_left (show x.num ≤ 0 by omega) (show (1:Int) ≤ x.den by omega)
      omega)
    have h2:=Int.ediv_neg_of_neg_of_pos h (show (0:Int) < x.den by omega)
    omega
  · have h1:=Int.ediv_le_self (x.den:Int) h
    have h2:=Int.ediv_nonneg h (show (0:Int) ≤ x.den by omega)
    omega
theorem floor_gen {k:Nat} {x:Rat} (hx:Fits k x) (hk:k ≤ 4096):floorT (showR x) = (showR ((flr x:Int):Rat),0):=by
  unfold floorT
  rw [check_gen hx hk,valR_showR,showR_int]
  rfl
theorem fits_flr {k:Nat} {x:Rat} (hx:Fits k x) (h1:1 ≤ k):Fits k ((flr x:Int):Rat):=fits_int _ _ h1 (flr_dlk hx)
theorem place_flr (x:Rat):place x = x - ((flr (x / ((1000:Int):Rat)):Int):Rat) * ((1000:Int):Rat):=by
  unfold place
  rw [flr_floor,show ((1000:Int):Rat) = 1000 from rfl]
  grind
theorem fits_place {x:Rat} (hx:Fits 400 x):Fits 900 (place x):=by
  rw [place_flr]
  exact (fits_sub2 hx (fits_mul2 (fits_flr (fits_div2 hx fits_k k_ne) (by omega)) fits_k)).mono (by omega)
end Lum
namespace Go.Proofs.YtbeojahilbglcaaGreatDoor
open Go.RowKit Go.Shelf Lum
open Go.Lib (decDigits itoa)
attribute [local go_sem] bs_get bs_extract_end bs_extract_from bs_extract bs_append
theorem own_turn (x : Rat) (w : World) (hx : Fits 400 x) (env : Env w) :
    Calls Tryz.prog 164 #[.string ⟨(showR x).toArray⟩] w fun e w' => e = .returned (.tuple #[.string ⟨(showR (place x)).toArray⟩,.int .i64 0]) ∧ Below w.heap.size w w':=by
  have hy:=fits_div2 hx fits_k k_ne
  have hn:=fits_flr hy (by omega)
  have hm:=fits_mul2 hn fits_k
  have c1:=fun W (e:Env W) => own_rdiv (showR x) (showR ((1000:Int):Rat)) W e (len_ok hx (by omega)) (len_ok fits_k (by omega))
  rw [div_gen hx fits_k (by omega) k_ne,show_k] at c1
  have c2:=fun W (e:Env W) => own_floor (showR (x / ((1000:Int):Rat))) W (len_ok hy (by omega)) e
  rw [floor_gen hy (by omega)] at c2
  have c3:=fun W (e:Env W) => own_rmul (showR ((flr (x / ((1000:Int):Rat)):Int):Rat)) (showR ((1000:Int):Rat)) W e (len_ok hn (by omega)) (len_ok fits_k (by omega))
  rw [mul_gen hn fits_k (by omega),show_k] at c3
  have c4:=fun W (e:Env W) => own_rsub (showR x) (showR (((flr (x / ((1000:Int):Rat)):Int):Rat) * ((1000:Int):Rat))) W e (len_ok hx (by omega)) (len_ok hm (by omega))
  rw [sub_gen hx hm (by omega),← place_flr] at c4
  dsimp only at c1 c2 c3 c4
  generalize showR (x / ((1000:Int):Rat)) = t1 at *
  generalize showR (((flr (x / ((1000:Int):Rat)):Int):Rat) * ((1000:Int):Rat)) = t3 at *
  generalize showR ((flr (x / ((1000:Int):Rat)):Int):Rat) = t2 at *
  generalize showR (place x) = t4 at *
  generalize showR x = t0 at *
  clear hx hy hn hm
  have C1:=Lib.hid c1;clear c1
  have C2:=Lib.hid c2;clear c2
  have C3:=Lib.hid c3;clear c3
  have C4:=Lib.hid c4;clear c4
  have ENV:=Lib.hid env;clear env
  have HB:=Lib.hid (Below.refl w.heap.size w)
  go_enter Tryz.func164,Tryz.ntmps164
  go_wp2_with (first | (with_reducible refine ((C1.out _ (ENV.out.below HB.out)).mono ?_);rintro e w' ⟨rfl,hb⟩;replace HB:=Lib.hid (bch' HB.out hb);clear hb) | (with_reducible refine ((C2.out _ (ENV.out.below HB.out)).mono ?_);rintro e w' ⟨rfl,hb⟩;replace HB:=Lib.hid (bch' HB.out hb);clear hb) | (with_reducible refine ((C3.out _ (ENV.out.below HB.out)).mono ?_);rintro e w' ⟨rfl,hb⟩;replace HB:=Lib.hid (bch' HB.out hb);clear hb) | (with_reducible refine ((C4.out _ (ENV.out.below HB.out)).mono ?_);rintro e w' ⟨rfl,hb⟩;replace HB:=Lib.hid (bch' HB.out hb);clear hb))
  go_ret2
  exact ⟨rfl,HB.out⟩
end Go.Proofs.YtbeojahilbglcaaGreatDoor
namespace Lum
open Go Go.RowKit Go.Shelf
open Go.Lib (decDigits itoa)
def meT (l:List (Int × Int)):Txt × Int:=if wvE l ≠ 0 then ([],wvE l) else (showR (meanW l),0)
def segA (l:List (Int × Int)) (i:Nat):Int:=(pX l (i + 1) - pX l i) * (pY l i + pY l (i + 1))
def sumA (l:List (Int × Int)) (pre:List (Fin (l.length - 1))):Int:=(pre.map fun i => segA l i.1).sum
theorem keepsFrom_below {B:Nat} {W W':World} (hb:Below W.heap.size W W'):KeepsFrom B W W':=⟨hb.size,fun i o _ hi _ => by rw [hb.block i (Array.getElem?_eq_some_iff.1 hi).1];exact hi⟩
theorem ownFrom_size {β:Type} {B n:Nat}:OwnFrom B (fun (_:β) W => n ≤ W.heap.size):=fun _ _ _ _ hs hg _ => Nat.le_trans hs hg.size
end Lum
namespace Go.Proofs.YtbeojahilbglcaaGreatDoor
open Go.RowKit Go.Shelf Lum
open Go.Lib (decDigits itoa)
attribute [local go_sem] Oper.semAt_some bs_get bs_extract_end bs_extract_from bs_extract bs_append
end Go.Proofs.YtbeojahilbglcaaGreatDoor

/- A part of the proof of EffectAdds: contracts of functions, and plain facts. -/
import Derived.Test.YtbeojahilbglcaaGreatDoorQdRa
set_option linter.unusedVariables false
set_option linter.unusedSimpArgs false
namespace Lum
open Go Go.RowKit Go.Shelf
open Go.Lib (decDigits itoa)
theorem long_off {z:Int} (h:dl z ≤ 4096):¬ long z = true:=by rw [long_dl];simp;omega
theorem fits_add2 {k l:Nat} {x y:Rat} (hx:Fits k x) (hy:Fits l y):Fits (k + l + 1) (x + y):=by
  rw [add_divInt]
  have a:=dl_mul x.num y.den
  have b:=dl_mul y.num x.den
  have c:=dl_mul x.den y.den
  have:=hx.1;have:=hx.2;have:=hy.1;have:=hy.2
  exact divInt_fits _ _ (Int.mul_ne_zero (den_ne x) (den_ne y)) _ (dl_add _ _ (k + l) (by omega) (by omega)) (by omega)
theorem fits_sub2 {k l:Nat} {x y:Rat} (hx:Fits k x) (hy:Fits l y):Fits (k + l + 1) (x - y):=by rw [Rat.sub_eq_add_neg];exact fits_add2 hx (fits_neg hy)
theorem fits_mul2 {k l:Nat} {x y:Rat} (hx:Fits k x) (hy:Fits l y):Fits (k + l) (x * y):=by
  rw [mul_divInt]
  have a:=dl_mul x.num y.num
  have c:=dl_mul x.den y.den
  have:=hx.1;have:=hx.2;have:=hy.1;have:=hy.2
  exact divInt_fits _ _ (Int.mul_ne_zero (den_ne x) (den_ne y)) _ (by omega) (by omega)
theorem fits_div2 {k l:Nat} {x y:Rat} (hx:Fits k x) (hy:Fits l y) (h0:y ≠ 0):Fits (k + l) (x / y):=by
  rw [div_divInt]
  have a:=dl_mul x.num y.den
  have c:=dl_mul x.den y.num
  have:=hx.1;have:=hx.2;have:=hy.1;have:=hy.2
  have hyn:y.num ≠ 0:=fun h => h0 (Rat.num_eq_zero.1 h)
  exact divInt_fits _ _ (Int.mul_ne_zero (den_ne x) hyn) _ (by omega) (by omega)
theorem fits_fit2 {k:Nat} {x:Rat} (h:Fits k x) (hk:k ≤ 4096):Fit x:=(fit_fits x).2 (h.mono hk)
theorem add_gen {k l:Nat} {x y:Rat} (hx:Fits k x) (hy:Fits l y) (h:k + l + 1 ≤ 4096):rTwo (showR x) (showR y) qAdd = (showR (x + y),0):=by
  rw [rTwo_ok x y _ (fits_fit2 hx (by omega)) (fits_fit2 hy (by omega))]
  unfold qAdd
  have a:=dl_mul x.num y.den
  have b:=dl_mul y.num x.den
  have c:=dl_mul x.den y.den
  have:=hx.1;have:=hx.2;have:=hy.1;have:=hy.2
  have d:=dl_add (x.num * y.den) (y.num * x.den) (k + l) (by omega) (by omega)
  rw [if_neg]
  simp only [Bool.or_eq_true]
  rintro (((h | h) | h) | h)
  all_goals exact long_off (by omega) h
theorem sub_gen {k l:Nat} {x y:Rat} (hx:Fits k x) (hy:Fits l y) (h:k + l + 1 ≤ 4096):rTwo (showR x) (showR y) qSub = (showR (x - y),0):=by
  have h2:=add_gen hx (fits_neg hy) h
  rw [rTwo_ok x (-y) _ (fits_fit2 hx (by omega)) (fits_fit2 (fits_neg hy) (by omega))] at h2
  rw [rTwo_ok x y _ (fits_fit2 hx (by omega)) (fits_fit2 hy (by omega)),qSub_neg,h2,Rat.sub_eq_add_neg]
theorem mul_gen {k l:Nat} {x y:Rat} (hx:Fits k x) (hy:Fits l y) (h:k + l ≤ 4095):rTwo (showR x) (showR y) qMul = (showR (x * y),0):=by
  rw [rTwo_ok x y _ (fits_fit2 hx (by omega)) (fits_fit2 hy (by omega))]
  unfold qMul
  have a:=dl_mul x.num y.num
  have c:=dl_mul x.den y.den
  have:=hx.1;have:=hx.2;have:=hy.1;have:=hy.2
  rw [if_neg]
  simp only [Bool.or_eq_true]
  rintro (h | h)
  all_goals exact long_off (by omega) h
theorem div_gen {k l:Nat} {x y:Rat} (hx:Fits k x) (hy:Fits l y) (h:k + l ≤ 4095) (h0:y ≠ 0):rTwo (showR x) (showR y) qDiv = (showR (x / y),0):=by
  rw [rTwo_ok x y _ (fits_fit2 hx (by omega)) (fits_fit2 hy (by omega))]
  unfold qDiv
  have a:=dl_mul x.num y.den
  have c:=dl_mul x.den y.num
  have:=hx.1;have:=hx.2;have:=hy.1;have:=hy.2
  rw [if_neg h0,if_neg]
  simp only [Bool.or_eq_true]
  rintro (h | h)
  all_goals exact long_off (by omega) h
theorem cmp_gen {k l:Nat} {x y:Rat} (hx:Fits k x) (hy:Fits l y) (h:k + l ≤ 4095):cTwo (showR x) (showR y) = (sgn x y,0):=by
  rw [cTwo_ok (fits_fit2 hx (by omega)) (fits_fit2 hy (by omega))]
  unfold qCmp
  have a:=dl_mul x.num y.den
  have b:=dl_mul y.num x.den
  have:=hx.1;have:=hx.2;have:=hy.1;have:=hy.2
  rw [if_neg]
  simp only [Bool.or_eq_true]
  rintro (h | h)
  all_goals exact long_off (by omega) h
theorem check_gen {k:Nat} {x:Rat} (hx:Fits k x) (h:k ≤ 4096):ratCheck (showR x) = 0:=ratCheck_showR x (fits_fit2 hx h)
theorem mix_gen {k l m:Nat} {x y v:Rat} (hx:Fits k x) (hy:Fits l y) (hv:Fits m v) (h:2 * k + l + m + 3 ≤ 4000):mixT (showR x) (showR y) (showR v) = (showR (x + (y - x) * v),0):=by
  have f1:=fits_sub2 hy hx
  have f2:=fits_mul2 f1 hv
  have e1:checkTwo (showR x) (showR y) = 0:=by unfold checkTwo;rw [check_gen hx (by omega),check_gen hy (by omega)];rfl
  have e2:=check_gen hv (by omega)
  have e3:=sub_gen hy hx (by omega)
  have e4:=mul_gen f1 hv (by omega)
  have e5:=add_gen hx f2 (by omega)
  unfold mixT
  rw [e1,e2,e3]
  dsimp only
  rw [e4]
  dsimp only
  rw [e5]
  rfl
theorem fits_0:Fits 1 (0:Rat):=by unfold Fits;decide +kernel
end Lum
namespace Lum
open Go Go.RowKit Go.Shelf
open Go.Lib (decDigits itoa)
def CellsAt (W:World) (B:Nat) (vs:List Value):Prop:=B < W.heap.size ∧ ∀ j v,vs[j]? = some v → W.cell? ⟨B,j,none⟩ = some v
theorem CellsAt.keep {W W':World} {B:Nat} {vs:List Value} (h:CellsAt W B vs) (hb:Below W.heap.size W W'):CellsAt W' B vs :=
  ⟨Nat.lt_of_lt_of_le h.1 hb.size,fun j v hv => (hb.cell (p:=⟨B,j,none⟩) h.1).trans (h.2 j v hv)⟩
theorem CellsAt.new (W:World) (vs:List Value) (t:TypeId):CellsAt (W.alloc (.cells vs.toArray t)) W.heap.size vs :=
  ⟨by simp,fun j v hv => by rw [World.cell?_alloc_new];simpa using hv⟩
theorem CellsAt.alloc {W:World} {B:Nat} {vs:List Value} (h:CellsAt W B vs) (o:Obj):CellsAt (W.alloc o) B vs:=h.keep ((Below.refl _ W).alloc (Nat.le_refl _) o)
theorem CellsAt.drew {W:World} {B:Nat} {vs:List Value} (h:CellsAt W B vs):CellsAt W.drew B vs:=h.keep (Below.refl _ W).drew
theorem CellsAt.set {W:World} {B:Nat} {vs:List Value} (h:CellsAt W B vs) (i:Nat) (v:Value):CellsAt (W.setCell ⟨B,i,none⟩ v) B (vs.set i v):=by
  refine ⟨by simpa using h.1,fun j u hu => ?_⟩
  by_cases e:j = i
  · subst e
    have hj:j < vs.length:=by have:=(List.getElem?_eq_some_iff.1 hu).1;simpa using this
    rw [List.getElem?_set_self hj] at hu
    injection hu with hu;subst hu
    exact World.cell?_setCell_same _ _ _ (h.2 j _ (List.getElem?_eq_getElem hj))
  · rw [List.getElem?_set_ne (by omega)] at hu
    rw [World.cell?_setCell_other _ _ _ _ (by simp;try omega)]
    exact h.2 j u hu
theorem CellsAt.far {W:World} {B C:Nat} {vs:List Value} (h:CellsAt W B vs) (hne:B ≠ C) (i:Nat) (v:Value):CellsAt (W.setCell ⟨C,i,none⟩ v) B vs :=
  ⟨by simpa using h.1,fun j u hu => by rw [World.cell?_setCell_other _ _ _ _ (by simp;try omega)];exact h.2 j u hu⟩
def FreeAt (W:World) (B n:Nat):Prop:=B < W.heap.size ∧ ∀ j,j < n → W.frozen? ⟨B,j,none⟩ = false
theorem FreeAt.keep {W W':World} {B n:Nat} (h:FreeAt W B n) (hb:Below W.heap.size W W'):FreeAt W' B n :=
  ⟨Nat.lt_of_lt_of_le h.1 hb.size,fun j hj => (hb.frozen (p:=⟨B,j,none⟩) h.1).trans (h.2 j hj)⟩
theorem FreeAt.new (W:World) (vs:Array Value) (t:TypeId) (n:Nat):FreeAt (W.alloc (.cells vs t)) W.heap.size n :=
  ⟨by simp,fun j hj => by simp⟩
theorem FreeAt.alloc {W:World} {B n:Nat} (h:FreeAt W B n) (o:Obj):FreeAt (W.alloc o) B n:=h.keep ((Below.refl _ W).alloc (Nat.le_refl _) o)
theorem FreeAt.set {W:World} {B n:Nat} (h:FreeAt W B n) (a:Addr) (v:Value):FreeAt (W.setCell a v) B n:=⟨by simpa using h.1,fun j hj => by simp [h.2 j hj]⟩
end Lum
namespace Go.Proofs.YtbeojahilbglcaaGreatDoor
open Go.RowKit Go.Shelf Lum
open Go.Lib (decDigits itoa)
attribute [local go_sem] bs_get bs_extract_end bs_extract_from bs_extract bs_append
end Go.Proofs.YtbeojahilbglcaaGreatDoor

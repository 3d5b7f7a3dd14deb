/- A part of the proof of EffectSums: contracts of functions, and plain facts. -/
import Derived.Test.YtbeojahilbglcaaGreatDoorQsWv2
import Derived.Test.YtbeojahilbglcaaGreatDoorQsYw
import Derived.Deep.RegionHeld3
import Derived.StillTailTactics
import Derived.Deep.DeepCutAuto
import Derived.Deep.Cut
set_option maxRecDepth 100000
set_option maxHeartbeats 8000000
set_option linter.unusedVariables false
set_option linter.unusedSimpArgs false
namespace Lum
open Go Go.RowKit Go.Shelf
open Go.Lib (decDigits itoa)
theorem keepP4 {w W W' : World} {a b c d : Addr} {x y z u : Value} (h : Below w.heap.size w W ∧ W.cell? ⟨a.block, a.off, none⟩ = some x ∧ W.cell? ⟨b.block, b.off, none⟩ = some y ∧ W.cell? ⟨c.block, c.off, none⟩ = some z ∧ W.cell? ⟨d.block, d.off, none⟩ = some u) (hb : Below W.heap.size W W') :
    Below w.heap.size w W' ∧ W'.cell? ⟨a.block,a.off,none⟩ = some x ∧ W'.cell? ⟨b.block,b.off,none⟩ = some y ∧ W'.cell? ⟨c.block,c.off,none⟩ = some z ∧ W'.cell? ⟨d.block,d.off,none⟩ = some u :=
  ⟨bch' h.1 hb,keepQ h.2.1 hb,keepQ h.2.2.1 hb,keepQ h.2.2.2.1 hb,keepQ h.2.2.2.2 hb⟩
theorem sgn_le {x y:Rat}:sgn x y ≤ 0 ↔ x ≤ y:=by
  unfold sgn
  by_cases h:x < y
  · rw [if_pos h];exact ⟨fun _ => Rat.le_of_lt h,fun _ => by omega⟩
  · rw [if_neg h]
    by_cases h2:y < x
    · rw [if_pos h2];exact ⟨fun h3 => by omega,fun h3 => absurd h2 (Rat.not_lt.2 h3)⟩
    · rw [if_neg h2];exact ⟨fun _ => Rat.not_lt.1 h2,fun _ => by omega⟩
end Lum
namespace Go.Proofs.YtbeojahilbglcaaGreatDoor
open Go.RowKit Go.Shelf Lum
open Go.Lib (decDigits itoa)
attribute [local go_sem] bs_get bs_extract_end bs_extract_from bs_extract bs_append
theorem r27_height_at (l : List (Int × Int)) (v : Value) (x : Rat) (w : World) (hv : PtsAt w v l) (wv : Wv l) (hx : Fits 400 x) :
    Calls Tryz.prog 136 #[v,.string ⟨(showR x).toArray⟩] w fun e w' => e = .returned (.string ⟨(showR (hgtW l x)).toArray⟩) ∧ Below w.heap.size w w':=by
  have hlo:=wv.lo
  have hhi:=wv.hi
  obtain ⟨p,c,rfl,hv2⟩:=hv
  obtain ⟨b,o,rfl,hb,hc⟩:=hv2 (fun h => by subst h;simp at hlo)
  clear hv2
  replace hc:PtC w b o l:=hc
  have HC:=Lib.hid hc;clear hc
  have hp:=fun W => r27_place x W hx
  have hpl:=fits_place hx
  have hran:=place_range x
  obtain ⟨at_,hat⟩:∃ at_,at_ = place x:=⟨_,rfl⟩
  rw [← hat] at hp hpl hran
  have HAT:=Lib.hid hat;clear hat
  obtain ⟨E,hE⟩:∃ E,E = showR (hgtW l x):=⟨_,rfl⟩
  rw [← hE]
  have HE:=Lib.hid hE;clear hE
  have HPL:=Lib.hid hpl;clear hpl
  have HP:=Lib.hid hp;clear hp hx
  have HB:=Lib.hid (Below.refl w.heap.size w)
  go_enter Tryz.func136,Tryz.ntmps136
  go_wp2_with (first | (with_reducible refine ((HP.out _).mono ?_);rintro e w' ⟨rfl,hb⟩;replace HB:=Lib.hid (bch' HB.out hb);clear hb))
  go_loopw [6] (fun i wr => ∃ k:Nat,i = .int .i64 (k:Int) ∧ k + 1 < l.length ∧ Below w.heap.size w wr ∧ Hid ((pX l k:Rat) ≤ at_)) (fun i _ => l.length - (intOf i).toNat)
  case atStart => exact ⟨0,rfl,by omega,HB.out,Lib.hid (by rw [wv.x0];exact hran.1)⟩
  case round =>
    obtain ⟨k,rfl,hk,hB,hS⟩:=hrel
    have HBW:=Lib.hid hB;
    have hcw:=HC.out.below hB hb
    have hbr:b < wr.heap.size:=by have:=hB.size;omega
    clear hB HB
    have e2:IntKind.i64.wrap ((k:Int) + 2) = (k:Int) + 2:=IntWalk.i64_in _ (by omega)
    have e1:IntKind.i64.wrap ((k:Int) + 1) = (k:Int) + 1:=IntWalk.i64_in _ (by omega)
    have hp0:(0:Int) ≤ (k:Int) + 1:=by omega
    have hpt:((k:Int) + 1).toNat = k + 1:=by omega
    have hX1:=wv.range (show k + 1 < l.length by omega)
    have hX0:=wv.range (show k < l.length by omega)
    have f1:=fits_i64 (pX l (k + 1)) (by omega) (by omega)
    have hw1:=fun W => r2_whole (pX l (k + 1)) W (by omega) (by omega)
    have ho:=fun W => r2_order ((pX l (k + 1):Int):Rat) at_ W (f1.mono (by omega)) (HPL.out.mono (by omega))
    rw [showR_int] at ho
    have HW1:=Lib.hid hw1;clear hw1
    have HO:=Lib.hid ho;clear ho f1
    have HCW:=Lib.hid hcw
    by_cases hgo:k + 2 < l.length ∧ ((pX l (k + 1):Int):Rat) ≤ at_
    · obtain ⟨g1,g2⟩:=hgo
      have hs:=sgn_le.2 g2
      have G2:=Lib.hid g2;clear g2
      obtain ⟨c1,c2⟩:=hcw (k + 1) (by omega)
      clear hcw
      have hl2:(k:Int) + 2 < (l.length:Int):=by omega
      have hl1:k + 1 < l.length:=by omega
      generalize sgn ((pX l (k + 1):Int):Rat) at_ = sg at *
      have HB:=HBW
      go_wp2_with (first | (with_reducible refine ((HW1.out _).mono ?_);rintro e w' ⟨rfl,hb⟩;replace HB:=Lib.hid (bch' HB.out hb);clear hb) | (with_reducible refine ((HO.out _).mono ?_);rintro e w' ⟨rfl,hb⟩;replace HB:=Lib.hid (bch' HB.out hb);clear hb))
      go_roundw
      case rel => exact ⟨k + 1,by simp,by omega,HB.out,G2⟩
      case measure => simp [intOf];omega
    · have hend:hgtW l x = segW l k at_:=by
        rw [HAT.out]
        refine hgt_on wv x hk (by rw [← HAT.out];exact hS.out) ?_
        rw [← HAT.out]
        by_cases g1:k + 2 < l.length
        · exact Rat.le_of_lt (Rat.not_le.1 fun h => hgo ⟨g1,h⟩)
        · rw [show k + 1 = l.length - 1 by omega,wv.x1];exact Rat.le_of_lt hran.2
      have HEN:=Lib.hid hend;clear hend
      have hss:=wv.s k hk
      have hY0:=wv.h k (by omega)
      have hY1:=wv.h (k + 1) (by omega)
      have e3:IntKind.i64.wrap (pX l (k + 1) - pX l k) = pX l (k + 1) - pX l k:=IntWalk.i64_in _ (by omega)
      have f0:=fits_i64 (pX l k) (by omega) (by omega)
      have fd:=fits_i64 (pX l (k + 1) - pX l k) (by omega) (by omega)
      have g0:=fits_i64 (pY l k) (by omega) (by omega)
      have g1:=fits_i64 (pY l (k + 1)) (by omega) (by omega)
      have ff:=fits_sub2 HPL.out f0
      have hdn:((pX l (k + 1) - pX l k:Int):Rat) ≠ 0:=fun h => by have:=Rat.intCast_inj.1 (h.trans (show (0:Rat) = ((0:Int):Rat) from rfl));omega
      have fp:=fits_div2 ff fd hdn
      have hw0:=fun W => r2_whole (pX l k) W (by omega) (by omega)
      have hsu:=fun W => r2_minus at_ ((pX l k:Int):Rat) W (HPL.out.mono (by omega)) (f0.mono (by omega))
      have hwd:=fun W => r2_whole (pX l (k + 1) - pX l k) W (by omega) (by omega)
      have hdi:=fun W => r2_by (at_ - ((pX l k:Int):Rat)) ((pX l (k + 1) - pX l k:Int):Rat) W (ff.mono (by omega)) (fd.mono (by omega)) hdn
      have hy0:=fun W => r2_whole (pY l k) W (by omega) (by omega)
      have hy1:=fun W => r2_whole (pY l (k + 1)) W (by omega) (by omega)
      have hmi:=fun W => r2_mixed ((pY l k:Int):Rat) ((pY l (k + 1):Int):Rat) ((at_ - ((pX l k:Int):Rat)) / ((pX l (k + 1) - pX l k:Int):Rat)) W (g0.mono (by omega)) (g1.mono (by omega)) (fp.mono (by omega))
      rw [showR_int] at hsu hdi
      rw [showR_int,showR_int] at hmi
      have hE2:E = showR (((pY l k:Int):Rat) + (((pY l (k + 1):Int):Rat) - ((pY l k:Int):Rat)) * ((at_ - ((pX l k:Int):Rat)) / ((pX l (k + 1) - pX l k:Int):Rat))):=by rw [HE.out,HEN.out];rfl
      rw [← hE2] at hmi
      have HE2:=Lib.hid hE2;clear hE2
      clear f0 fd g0 g1 ff fp hdn
      generalize showR ((at_ - ((pX l k:Int):Rat)) / ((pX l (k + 1) - pX l k:Int):Rat)) = tp at *
      generalize showR (at_ - ((pX l k:Int):Rat)) = tf at *
      have HW0:=Lib.hid hw0;clear hw0
      have HSU:=Lib.hid hsu;clear hsu
      have HWD:=Lib.hid hwd;clear hwd
      have HDI:=Lib.hid hdi;clear hdi
      have HY0:=Lib.hid hy0;clear hy0
      have HY1:=Lib.hid hy1;clear hy1
      have HMI:=Lib.hid hmi;clear hmi
      have hmx:Tryz.prog.follows .mixedOrders = true:=by kernel_rfl
      have REST:∀ w1:World,Below w.heap.size w w1 → True:=fun _ _ => trivial
      by_cases g1:k + 2 < l.length
      · have hs:¬ sgn ((pX l (k + 1):Int):Rat) at_ ≤ 0:=fun h => hgo ⟨g1,sgn_le.1 h⟩
        have hl2:(k:Int) + 2 < (l.length:Int):=by omega
        have hl1:k + 1 < l.length:=by omega
        obtain ⟨c1,c2⟩:=hcw (k + 1) (by omega)
        clear hcw hgo
        generalize sgn ((pX l (k + 1):Int):Rat) at_ = sg at *
        have HB:=HBW
        go_wp2_with (first | (with_reducible refine ((HW1.out _).mono ?_);rintro e w' ⟨rfl,hb⟩;replace HB:=Lib.hid (bch' HB.out hb);clear hb) | (with_reducible refine ((HO.out _).mono ?_);rintro e w' ⟨rfl,hb⟩;replace HB:=Lib.hid (bch' HB.out hb);clear hb))
        clear c1 c2
        have hcd:=HC.out.below HB.out hb
        have hbr2:b < w'.heap.size:=by have:=HB.out.size;omega
        have hl0:k < l.length:=by omega
        obtain ⟨c1,c2⟩:=hcd (k + 1) (by omega)
        obtain ⟨c3,c4⟩:=hcd k (by omega)
        clear hcd HO HW1
        go_cut [7,8] (fun s7 s8 wx => ∃ A B:Nat,s7 = .pointer (some ⟨A,0,none⟩) ∧ s8 = .pointer (some ⟨B,0,none⟩) ∧ wx.cell? ⟨A,0,none⟩ = some (.int .i64 (pX l k)) ∧ wx.cell? ⟨A,1,none⟩ = some (.int .i64 (pY l k)) ∧ wx.cell? ⟨B,0,none⟩ = some (.int .i64 (pX l (k + 1))) ∧ wx.cell? ⟨B,1,none⟩ = some (.int .i64 (pY l (k + 1))) ∧ Hid (Below w.heap.size w wx))
        case first =>
          go_region
          all_goals (go_wp2_with fail;go_meet;refine ⟨_,_,rfl,rfl,?_,?_,?_,?_,Lib.hid ?_⟩)
          all_goals first | (simp [go_sem];done) | exact ((HB.out.alloc (by have:=HB.out.size;omega) _).alloc (by have:=HB.out.size;simp;omega) _).drew | exact (HB.out.alloc (by have:=HB.out.size;omega) _).alloc (by have:=HB.out.size;simp;omega) _
        case rest =>
          obtain ⟨A,B,rfl,rfl,c5,c6,c7,c8,HB9⟩:=hcut
          clear c1 c2 c3 c4 HB
          generalize pX l k = X0 at *
          generalize pX l (k + 1) = X1 at *
          generalize pY l k = Y0 at *
          generalize pY l (k + 1) = Y1 at *
          go_wp2
          go_cut [9] (fun s9 wx => s9 = .string ⟨tp.toArray⟩ ∧ Hid (Below w.heap.size w wx ∧ wx.cell? ⟨A,0,none⟩ = some (.int .i64 X0) ∧ wx.cell? ⟨A,1,none⟩ = some (.int .i64 Y0) ∧ wx.cell? ⟨B,0,none⟩ = some (.int .i64 X1) ∧ wx.cell? ⟨B,1,none⟩ = some (.int .i64 Y1)))
          case first =>
            have HS0:=Lib.hid (show Below w.heap.size w wc.drew ∧ wc.drew.cell? ⟨A,0,none⟩ = some (.int .i64 X0) ∧ wc.drew.cell? ⟨A,1,none⟩ = some (.int .i64 Y0) ∧ wc.drew.cell? ⟨B,0,none⟩ = some (.int .i64 X1) ∧ wc.drew.cell? ⟨B,1,none⟩ = some (.int .i64 Y1) from ⟨HB9.out.drew,c5,c6,c7,c8⟩)
            go_region_held3 (fun W' => Below w.heap.size w W' ∧ W'.cell? ⟨A,0,none⟩ = some (.int .i64 X0) ∧ W'.cell? ⟨A,1,none⟩ = some (.int .i64 Y0) ∧ W'.cell? ⟨B,0,none⟩ = some (.int .i64 X1) ∧ W'.cell? ⟨B,1,none⟩ = some (.int .i64 Y1)) (first | assumption | exact HS0.out | exact keepP4 (a:=⟨A,0,none⟩) (b:=⟨A,1,none⟩) (c:=⟨B,0,none⟩) (d:=⟨B,1,none⟩) (by assumption) (by assumption)) (first | (go_at_call 135;with_reducible refine (HW0.out _).mono ?_;rintro e w' ⟨rfl,hbw⟩) | (go_at_call 174;with_reducible refine (HSU.out _).mono ?_;rintro e w' ⟨rfl,hbw⟩) | (go_at_call 135;with_reducible refine (HWD.out _).mono ?_;rintro e w' ⟨rfl,hbw⟩) | (go_at_call 133;with_reducible refine (HDI.out _).mono ?_;rintro e w' ⟨rfl,hbw⟩))
            all_goals (go_wp2_with fail;go_meet;exact ⟨rfl,Lib.hid (by assumption)⟩)
          case rest =>
            obtain ⟨rfl,HI⟩:=hcut
            clear c5 c6 c7 c8 HB9
            obtain ⟨-,c5,c6,c7,c8⟩:=HI.out
            go_wp2
            have HS0:=Lib.hid (show Below w.heap.size w wc.drew ∧ wc.drew.cell? ⟨A,0,none⟩ = some (.int .i64 X0) ∧ wc.drew.cell? ⟨A,1,none⟩ = some (.int .i64 Y0) ∧ wc.drew.cell? ⟨B,0,none⟩ = some (.int .i64 X1) ∧ wc.drew.cell? ⟨B,1,none⟩ = some (.int .i64 Y1) from ⟨HI.out.1.drew,c5,c6,c7,c8⟩)
            go_region_held3 (fun W' => Below w.heap.size w W' ∧ W'.cell? ⟨A,0,none⟩ = some (.int .i64 X0) ∧ W'.cell? ⟨A,1,none⟩ = some (.int .i64 Y0) ∧ W'.cell? ⟨B,0,none⟩ = some (.int .i64 X1) ∧ W'.cell? ⟨B,1,none⟩ = some (.int .i64 Y1)) (first | assumption | exact HS0.out | exact keepP4 (a:=⟨A,0,none⟩) (b:=⟨A,1,none⟩) (c:=⟨B,0,none⟩) (d:=⟨B,1,none⟩) (by assumption) (by assumption)) (first | (go_at_call 135;with_reducible refine (HY0.out _).mono ?_;rintro e w' ⟨rfl,hbw⟩) | (go_at_call 135;with_reducible refine (HY1.out _).mono ?_;rintro e w' ⟨rfl,hbw⟩) | (go_at_call 175;with_reducible refine (HMI.out _).mono ?_;rintro e w' ⟨rfl,hbw⟩))
            all_goals (go_wp2_with fail;go_ret;exact ⟨rfl,And.left (by assumption)⟩)
      · have hl2:¬ (k:Int) + 2 < (l.length:Int):=by omega
        have g1':¬ k + 2 < l.length:=g1
        have HB:=HBW
        obtain ⟨c1,c2⟩:=hcw (k + 1) (by omega)
        obtain ⟨c3,c4⟩:=hcw k (by omega)
        have hl1:k + 1 < l.length:=by omega
        have hl0:k < l.length:=by omega
        clear hcw hgo HO HW1
        go_wp2
        go_cut [7,8] (fun s7 s8 wx => ∃ A B:Nat,s7 = .pointer (some ⟨A,0,none⟩) ∧ s8 = .pointer (some ⟨B,0,none⟩) ∧ wx.cell? ⟨A,0,none⟩ = some (.int .i64 (pX l k)) ∧ wx.cell? ⟨A,1,none⟩ = some (.int .i64 (pY l k)) ∧ wx.cell? ⟨B,0,none⟩ = some (.int .i64 (pX l (k + 1))) ∧ wx.cell? ⟨B,1,none⟩ = some (.int .i64 (pY l (k + 1))) ∧ Hid (Below w.heap.size w wx))
        case first =>
          go_region
          all_goals (go_wp2_with fail;go_meet;refine ⟨_,_,rfl,rfl,?_,?_,?_,?_,Lib.hid ?_⟩)
          all_goals first | (simp [go_sem];done) | exact ((HB.out.alloc (by have:=HB.out.size;omega) _).alloc (by have:=HB.out.size;simp;omega) _).drew | exact (HB.out.alloc (by have:=HB.out.size;omega) _).alloc (by have:=HB.out.size;simp;omega) _
        case rest =>
          obtain ⟨A,B,rfl,rfl,c5,c6,c7,c8,HB9⟩:=hcut
          clear c1 c2 c3 c4 HB
          generalize pX l k = X0 at *
          generalize pX l (k + 1) = X1 at *
          generalize pY l k = Y0 at *
          generalize pY l (k + 1) = Y1 at *
          go_wp2
          go_cut [9] (fun s9 wx => s9 = .string ⟨tp.toArray⟩ ∧ Hid (Below w.heap.size w wx ∧ wx.cell? ⟨A,0,none⟩ = some (.int .i64 X0) ∧ wx.cell? ⟨A,1,none⟩ = some (.int .i64 Y0) ∧ wx.cell? ⟨B,0,none⟩ = some (.int .i64 X1) ∧ wx.cell? ⟨B,1,none⟩ = some (.int .i64 Y1)))
          case first =>
            have HS0:=Lib.hid (show Below w.heap.size w wc.drew ∧ wc.drew.cell? ⟨A,0,none⟩ = some (.int .i64 X0) ∧ wc.drew.cell? ⟨A,1,none⟩ = some (.int .i64 Y0) ∧ wc.drew.cell? ⟨B,0,none⟩ = some (.int .i64 X1) ∧ wc.drew.cell? ⟨B,1,none⟩ = some (.int .i64 Y1) from ⟨HB9.out.drew,c5,c6,c7,c8⟩)
            go_region_held3 (fun W' => Below w.heap.size w W' ∧ W'.cell? ⟨A,0,none⟩ = some (.int .i64 X0) ∧ W'.cell? ⟨A,1,none⟩ = some (.int .i64 Y0) ∧ W'.cell? ⟨B,0,none⟩ = some (.int .i64 X1) ∧ W'.cell? ⟨B,1,none⟩ = some (.int .i64 Y1)) (first | assumption | exact HS0.out | exact keepP4 (a:=⟨A,0,none⟩) (b:=⟨A,1,none⟩) (c:=⟨B,0,none⟩) (d:=⟨B,1,none⟩) (by assumption) (by assumption)) (first | (go_at_call 135;with_reducible refine (HW0.out _).mono ?_;rintro e w' ⟨rfl,hbw⟩) | (go_at_call 174;with_reducible refine (HSU.out _).mono ?_;rintro e w' ⟨rfl,hbw⟩) | (go_at_call 135;with_reducible refine (HWD.out _).mono ?_;rintro e w' ⟨rfl,hbw⟩) | (go_at_call 133;with_reducible refine (HDI.out _).mono ?_;rintro e w' ⟨rfl,hbw⟩))
            all_goals (go_wp2_with fail;go_meet;exact ⟨rfl,Lib.hid (by assumption)⟩)
          case rest =>
            obtain ⟨rfl,HI⟩:=hcut
            clear c5 c6 c7 c8 HB9
            obtain ⟨-,c5,c6,c7,c8⟩:=HI.out
            go_wp2
            have HS0:=Lib.hid (show Below w.heap.size w wc.drew ∧ wc.drew.cell? ⟨A,0,none⟩ = some (.int .i64 X0) ∧ wc.drew.cell? ⟨A,1,none⟩ = some (.int .i64 Y0) ∧ wc.drew.cell? ⟨B,0,none⟩ = some (.int .i64 X1) ∧ wc.drew.cell? ⟨B,1,none⟩ = some (.int .i64 Y1) from ⟨HI.out.1.drew,c5,c6,c7,c8⟩)
            go_region_held3 (fun W' => Below w.heap.size w W' ∧ W'.cell? ⟨A,0,none⟩ = some (.int .i64 X0) ∧ W'.cell? ⟨A,1,none⟩ = some (.int .i64 Y0) ∧ W'.cell? ⟨B,0,none⟩ = some (.int .i64 X1) ∧ W'.cell? ⟨B,1,none⟩ = some (.int .i64 Y1)) (first | assumption | exact HS0.out | exact keepP4 (a:=⟨A,0,none⟩) (b:=⟨A,1,none⟩) (c:=⟨B,0,none⟩) (d:=⟨B,1,none⟩) (by assumption) (by assumption)) (first | (go_at_call 135;with_reducible refine (HY0.out _).mono ?_;rintro e w' ⟨rfl,hbw⟩) | (go_at_call 135;with_reducible refine (HY1.out _).mono ?_;rintro e w' ⟨rfl,hbw⟩) | (go_at_call 175;with_reducible refine (HMI.out _).mono ?_;rintro e w' ⟨rfl,hbw⟩))
            all_goals (go_wp2_with fail;go_ret;exact ⟨rfl,And.left (by assumption)⟩)
end Go.Proofs.YtbeojahilbglcaaGreatDoor

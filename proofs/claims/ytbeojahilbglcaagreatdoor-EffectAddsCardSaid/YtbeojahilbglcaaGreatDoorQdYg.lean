/- A part of the proof of EffectAdds: contracts of functions, and plain facts. -/
import Derived.Test.YtbeojahilbglcaaGreatDoorQdKe
import Derived.Test.YtbeojahilbglcaaGreatDoorQdYx
import Derived.Test.YtbeojahilbglcaaGreatDoorQdYc
import Derived.Test.YtbeojahilbglcaaGreatDoorQdWv6
import Derived.Test.YtbeojahilbglcaaGreatDoorQdYa
set_option maxHeartbeats 4000000
set_option maxRecDepth 100000
set_option linter.unusedVariables false
set_option linter.unusedSimpArgs false
namespace Go.Proofs.YtbeojahilbglcaaGreatDoor
open Go.RowKit Go.Shelf Lum
attribute [local go_sem] bs_get bs_extract_end bs_extract_from bs_extract bs_append
theorem r23_reading (n:Int) (w:World):Calls Tryz.prog 128 #[.int .i64 n] w fun e w' => e = .returned (.bool (rdB n)) ∧ w = w':=by
  by_cases h1:0 ≤ n
  · by_cases h2:n ≤ 8000000000
    all_goals
      go_enter Tryz.func128,Tryz.ntmps128
      go_wp2
      go_ret
      exact ⟨ret_bool (by unfold rdB;simp [h1,h2]),rfl⟩
  · go_enter Tryz.func128,Tryz.ntmps128
    go_wp2
    go_ret
    exact ⟨ret_bool (by unfold rdB;simp;omega),rfl⟩
end Go.Proofs.YtbeojahilbglcaaGreatDoor
namespace Go.Proofs.YtbeojahilbglcaaGreatDoor
open Go.RowKit Go.Shelf Lum
attribute [local go_sem] bs_get bs_extract_end bs_extract_from bs_extract bs_append
end Go.Proofs.YtbeojahilbglcaaGreatDoor
namespace Lum
open Go Go.RowKit Go.Shelf
end Lum
namespace Go.Proofs.YtbeojahilbglcaaGreatDoor
open Go.RowKit Go.Shelf Lum
attribute [local go_sem] bs_get bs_extract_end bs_extract_from bs_extract bs_append
end Go.Proofs.YtbeojahilbglcaaGreatDoor
namespace Lum
open Go Go.RowKit Go.Shelf
end Lum
namespace Go.Proofs.YtbeojahilbglcaaGreatDoor
open Go.RowKit Go.Shelf Lum
attribute [local go_sem] bs_get bs_extract_end bs_extract_from bs_extract bs_append
end Go.Proofs.YtbeojahilbglcaaGreatDoor
namespace Lum
open Go Go.RowKit Go.Shelf
open Go.Lib (decDigits itoa)
end Lum
namespace Go.Proofs.YtbeojahilbglcaaGreatDoor
open Go.RowKit Go.Shelf Lum
open Go.Lib (decDigits itoa)
attribute [local go_sem] bs_get bs_extract_end bs_extract_from bs_extract bs_append
theorem r15_islevel (v : Int) (w : World) :
    Calls Tryz.prog 154 #[.int .i64 v] w fun e w' => e = .returned (.bool (decide (0 ≤ v ∧ v ≤ 65535))) ∧ w = w':=by
  by_cases h1:0 ≤ v
  · by_cases h2:v ≤ 65535
    · rw [decide_eq_true (⟨h1,h2⟩:0 ≤ v ∧ v ≤ 65535)]
      go_enter Tryz.func154,Tryz.ntmps154
      go_wp2
      go_ret
      exact ⟨rfl,rfl⟩
    · rw [decide_eq_false (fun h => h2 h.2:¬ (0 ≤ v ∧ v ≤ 65535))]
      go_enter Tryz.func154,Tryz.ntmps154
      go_wp2
      go_ret
      exact ⟨rfl,rfl⟩
  · rw [decide_eq_false (fun h => h1 h.1:¬ (0 ≤ v ∧ v ≤ 65535))]
    go_enter Tryz.func154,Tryz.ntmps154
    go_wp2
    go_ret
    exact ⟨rfl,rfl⟩
theorem r28_effect (nu at_ pe sp sz : Int) (wv : List (Int × Int)) (p : Option Addr) (n c : Nat) (w : World) (hv : PtsAt w (.slice p n c) wv) :
    Calls Tryz.prog 104 #[.agg #[.int .i64 nu,.int .i64 at_,.slice p n c,.int .i64 pe,.int .i64 sp,.int .i64 sz]] w fun e w' => e = .returned (.int .i64 (efE ⟨nu,at_,wv,pe,sp,sz⟩)) ∧ Below w.heap.size w w':=by
  have hck:=fun W (h:PtsAt W (.slice p n c) wv) => r27_checkA wv (.slice p n c) W h
  have HV:=Lib.hid (PtsAt.below hv ((Below.refl w.heap.size w).alloc (Nat.le_refl _) (.cells #[.int .i64 nu,.int .i64 at_,.slice p n c,.int .i64 pe,.int .i64 sp,.int .i64 sz] 71)))
  clear hv
  have HK:=Lib.hid (Blk.new w 71 #[.int .i64 nu,.int .i64 at_,.slice p n c,.int .i64 pe,.int .i64 sp,.int .i64 sz])
  have HB:=Lib.hid ((Below.refl w.heap.size w).alloc (Nat.le_refl _) (.cells #[.int .i64 nu,.int .i64 at_,.slice p n c,.int .i64 pe,.int .i64 sp,.int .i64 sz] 71))
  obtain ⟨k0,k1,k2,k3,k4,k5,kf0,kf1,kf2,kf3,kf4,kf5⟩:=HK.out.c6
  by_cases o0:nu < 1
  · rw [efE_num (x:=⟨nu,at_,wv,pe,sp,sz⟩) (by dsimp only;omega)]
    clear hck
    go_enter Tryz.func104,Tryz.ntmps104
    go_wp2_with fail
    go_ret
    exact ⟨rfl,HB.out⟩
  by_cases o1:1048576 < nu
  · rw [efE_num (x:=⟨nu,at_,wv,pe,sp,sz⟩) (by dsimp only;omega)]
    clear hck
    go_enter Tryz.func104,Tryz.ntmps104
    go_wp2_with fail
    go_ret
    exact ⟨rfl,HB.out⟩
  by_cases o2:at_ < 0
  · rw [efE_num (x:=⟨nu,at_,wv,pe,sp,sz⟩) (by dsimp only;omega)]
    clear hck
    go_enter Tryz.func104,Tryz.ntmps104
    go_wp2_with fail
    go_ret
    exact ⟨rfl,HB.out⟩
  by_cases o3:15 ≤ at_
  · rw [efE_num (x:=⟨nu,at_,wv,pe,sp,sz⟩) (by dsimp only;omega)]
    clear hck
    go_enter Tryz.func104,Tryz.ntmps104
    go_wp2_with fail
    go_ret
    exact ⟨rfl,HB.out⟩
  have on:¬ (nu < 1 ∨ 1048576 < nu ∨ at_ < 0 ∨ 15 ≤ at_):=by omega
  by_cases hz:wvE wv = 0
  · rw [hz] at hck
    have HCK:=Lib.hid hck;clear hck
    by_cases o0:pe < 1
    · rw [efE_pe (x:=⟨nu,at_,wv,pe,sp,sz⟩) on hz (by dsimp only;omega)]
      clear on hz
      go_enter Tryz.func104,Tryz.ntmps104
      go_wp2_with (first | (with_reducible refine ((HCK.out _ HV.out).mono ?_);rintro e w' ⟨rfl,hb⟩;replace HK:=Lib.hid (HK.out.keep hb);clear k0 k1 k2 k3 k4 k5 kf0 kf1 kf2 kf3 kf4 kf5;replace HV:=Lib.hid (PtsAt.below HV.out hb);replace HB:=Lib.hid (bch' HB.out hb);clear hb;obtain ⟨k0,k1,k2,k3,k4,k5,kf0,kf1,kf2,kf3,kf4,kf5⟩:=HK.out.c6))
      go_ret
      exact ⟨rfl,HB.out⟩
    by_cases o1:10000000 < pe
    · rw [efE_pe (x:=⟨nu,at_,wv,pe,sp,sz⟩) on hz (by dsimp only;omega)]
      clear on hz
      go_enter Tryz.func104,Tryz.ntmps104
      go_wp2_with (first | (with_reducible refine ((HCK.out _ HV.out).mono ?_);rintro e w' ⟨rfl,hb⟩;replace HK:=Lib.hid (HK.out.keep hb);clear k0 k1 k2 k3 k4 k5 kf0 kf1 kf2 kf3 kf4 kf5;replace HV:=Lib.hid (PtsAt.below HV.out hb);replace HB:=Lib.hid (bch' HB.out hb);clear hb;obtain ⟨k0,k1,k2,k3,k4,k5,kf0,kf1,kf2,kf3,kf4,kf5⟩:=HK.out.c6))
      go_ret
      exact ⟨rfl,HB.out⟩
    by_cases o2:sp < 0
    · rw [efE_pe (x:=⟨nu,at_,wv,pe,sp,sz⟩) on hz (by dsimp only;omega)]
      clear on hz
      go_enter Tryz.func104,Tryz.ntmps104
      go_wp2_with (first | (with_reducible refine ((HCK.out _ HV.out).mono ?_);rintro e w' ⟨rfl,hb⟩;replace HK:=Lib.hid (HK.out.keep hb);clear k0 k1 k2 k3 k4 k5 kf0 kf1 kf2 kf3 kf4 kf5;replace HV:=Lib.hid (PtsAt.below HV.out hb);replace HB:=Lib.hid (bch' HB.out hb);clear hb;obtain ⟨k0,k1,k2,k3,k4,k5,kf0,kf1,kf2,kf3,kf4,kf5⟩:=HK.out.c6))
      go_ret
      exact ⟨rfl,HB.out⟩
    by_cases o3:1000 < sp
    · rw [efE_pe (x:=⟨nu,at_,wv,pe,sp,sz⟩) on hz (by dsimp only;omega)]
      clear on hz
      go_enter Tryz.func104,Tryz.ntmps104
      go_wp2_with (first | (with_reducible refine ((HCK.out _ HV.out).mono ?_);rintro e w' ⟨rfl,hb⟩;replace HK:=Lib.hid (HK.out.keep hb);clear k0 k1 k2 k3 k4 k5 kf0 kf1 kf2 kf3 kf4 kf5;replace HV:=Lib.hid (PtsAt.below HV.out hb);replace HB:=Lib.hid (bch' HB.out hb);clear hb;obtain ⟨k0,k1,k2,k3,k4,k5,kf0,kf1,kf2,kf3,kf4,kf5⟩:=HK.out.c6))
      go_ret
      exact ⟨rfl,HB.out⟩
    by_cases o9:0 ≤ sz ∧ sz ≤ 65535
    · have hil:=fun W => r15_islevel sz W
      rw [decide_eq_true o9] at hil
      rw [efE_ok (x:=⟨nu,at_,wv,pe,sp,sz⟩) on hz (by dsimp only;omega)]
      clear on hz
      have HIL:=Lib.hid hil;clear hil
      go_enter Tryz.func104,Tryz.ntmps104
      go_wp2_with (first | (with_reducible refine ((HCK.out _ HV.out).mono ?_);rintro e w' ⟨rfl,hb⟩;replace HK:=Lib.hid (HK.out.keep hb);clear k0 k1 k2 k3 k4 k5 kf0 kf1 kf2 kf3 kf4 kf5;replace HV:=Lib.hid (PtsAt.below HV.out hb);replace HB:=Lib.hid (bch' HB.out hb);clear hb;obtain ⟨k0,k1,k2,k3,k4,k5,kf0,kf1,kf2,kf3,kf4,kf5⟩:=HK.out.c6) | (with_reducible refine ((HIL.out _).mono ?_);rintro e w' ⟨rfl,rfl⟩))
      go_ret
      exact ⟨rfl,HB.out⟩
    · have hil:=fun W => r15_islevel sz W
      rw [decide_eq_false o9] at hil
      rw [efE_pe (x:=⟨nu,at_,wv,pe,sp,sz⟩) on hz (by dsimp only;omega)]
      clear on hz
      have HIL:=Lib.hid hil;clear hil
      go_enter Tryz.func104,Tryz.ntmps104
      go_wp2_with (first | (with_reducible refine ((HCK.out _ HV.out).mono ?_);rintro e w' ⟨rfl,hb⟩;replace HK:=Lib.hid (HK.out.keep hb);clear k0 k1 k2 k3 k4 k5 kf0 kf1 kf2 kf3 kf4 kf5;replace HV:=Lib.hid (PtsAt.below HV.out hb);replace HB:=Lib.hid (bch' HB.out hb);clear hb;obtain ⟨k0,k1,k2,k3,k4,k5,kf0,kf1,kf2,kf3,kf4,kf5⟩:=HK.out.c6) | (with_reducible refine ((HIL.out _).mono ?_);rintro e w' ⟨rfl,rfl⟩))
      go_ret
      exact ⟨rfl,HB.out⟩
  · rw [efE_wv (x:=⟨nu,at_,wv,pe,sp,sz⟩) on hz]
    have he:((wvE wv:Int) != 0) = true:=by simpa using hz
    clear on hz
    show Calls _ _ _ _ (fun e w' => e = .returned (.int .i64 (wvE wv)) ∧ _)
    generalize wvE wv = m at *
    have HCK:=Lib.hid hck;clear hck
    go_enter Tryz.func104,Tryz.ntmps104
    go_wp2_with (first | (with_reducible refine ((HCK.out _ HV.out).mono ?_);rintro e w' ⟨rfl,hb⟩;replace HK:=Lib.hid (HK.out.keep hb);clear k0 k1 k2 k3 k4 k5 kf0 kf1 kf2 kf3 kf4 kf5;replace HV:=Lib.hid (PtsAt.below HV.out hb);replace HB:=Lib.hid (bch' HB.out hb);clear hb;obtain ⟨k0,k1,k2,k3,k4,k5,kf0,kf1,kf2,kf3,kf4,kf5⟩:=HK.out.c6))
    go_ret
    exact ⟨rfl,HB.out⟩
end Go.Proofs.YtbeojahilbglcaaGreatDoor
namespace Lum
open Go Go.RowKit Go.Shelf
open Go.Lib (decDigits itoa)
end Lum
namespace Go.Proofs.YtbeojahilbglcaaGreatDoor
open Go.RowKit Go.Shelf Lum
open Go.Lib (decDigits itoa)
attribute [local go_sem] bs_get bs_extract_end bs_extract_from bs_extract bs_append
end Go.Proofs.YtbeojahilbglcaaGreatDoor

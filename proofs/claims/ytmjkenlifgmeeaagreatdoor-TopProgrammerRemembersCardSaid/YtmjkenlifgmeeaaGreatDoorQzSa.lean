/-
  
-/
import Derived.Test.YtmjkenlifgmeeaaGreatDoorQzSx
import Derived.Test.YtmjkenlifgmeeaaGreatDoorQzGl
import Derived.Test.YtmjkenlifgmeeaaGreatDoorQzYa
import Derived.Test.YtmjkenlifgmeeaaGreatDoorQzQq
import Derived.Deep.RegionHeld3
set_option linter.unusedVariables false
set_option linter.unusedSimpArgs false
set_option maxRecDepth 100000
set_option maxHeartbeats 4000000
namespace Lum
open Go Go.RowKit Go.Shelf
open Go.Lib (decDigits itoa)
def gvE (s:Sb) (l:List Fdr):Int:=if sbE s ≠ 0 then sbE s else facE l
def amT (nu:Int) (inh:Bool) (gs:List Gn) (l:List Fdr) (ch a t:Int):Txt × Bool :=
  match gnG gs ch a with
  | none => ([],false)
  | some g => if inh = true ∨ lvlQ nu inh l t = 0 then ([],false) else if a = 0 then (showR (lvlQ nu inh l t * Rat.divInt g 65535),true) else (showR ((g:Int):Rat),true)
theorem amT_none {nu:Int} {inh:Bool} {gs:List Gn} {l:List Fdr} {ch a t:Int} (h:gnG gs ch a = none):amT nu inh gs l ch a t = ([],false):=by unfold amT;rw [h]
theorem amT_zero {nu:Int} {inh:Bool} {gs:List Gn} {l:List Fdr} {ch a t g:Int} (h:gnG gs ch a = some g) (h2:inh = true ∨ lvlQ nu inh l t = 0):amT nu inh gs l ch a t = ([],false):=by unfold amT;rw [h];simp only;rw [if_pos h2]
theorem amT_int {nu:Int} {inh:Bool} {gs:List Gn} {l:List Fdr} {ch a t g:Int} (h:gnG gs ch a = some g) (h2:¬ (inh = true ∨ lvlQ nu inh l t = 0)) (h3:a = 0):amT nu inh gs l ch a t = (showR (lvlQ nu inh l t * Rat.divInt g 65535),true):=by unfold amT;rw [h];simp only;rw [if_neg h2,if_pos h3]
theorem amT_other {nu:Int} {inh:Bool} {gs:List Gn} {l:List Fdr} {ch a t g:Int} (h:gnG gs ch a = some g) (h2:¬ (inh = true ∨ lvlQ nu inh l t = 0)) (h3:¬ a = 0):amT nu inh gs l ch a t = (showR ((g:Int):Rat),true):=by unfold amT;rw [h];simp only;rw [if_neg h2,if_neg h3]
theorem show_zero {q:Rat}:showR q = [48] ↔ q = 0:=by
  constructor
  · intro h
    rw [← showR_zero] at h
    have:=congrArg valR h
    rwa [valR_showR,valR_showR] at this
  · intro h;rw [h,showR_zero]
end Lum
namespace Go.Proofs.YtmjkenlifgmeeaaGreatDoor
open Go.RowKit Go.Shelf Lum
open Go.Lib (decDigits itoa)
attribute [local go_sem] bs_get bs_extract_end bs_extract_from bs_extract bs_append
theorem own_samt_int (nu pr su tz st ti stp at_ ch a g : Int) (inh mv : Bool) (gv : Value) (fr : Txt) (q : Rat) (w : World) (h0 : 0 ≤ g) (h1 : g ≤ 65535) (fq : Fits 2000 q) (ha : a = 0) (env : Env w) :
    Calls Tryz.prog 47 #[.agg #[.int .i64 nu,.int .i64 pr,.bool (inh),gv,.int .i64 su,.string ⟨(fr).toArray⟩,.int .i64 tz,.int .i64 st,.int .i64 ti,.int .i64 stp,.int .i64 at_,.bool (mv)],.agg #[.int .i64 ch,.int .i64 a],.int .i64 g,.string ⟨(showR q).toArray⟩] w fun e w' => e = .returned (.tuple #[.string ⟨(showR (q * Rat.divInt g 65535)).toArray⟩,.int .i64 0]) ∧ Below w.heap.size w w':=by
  have ENV:=Lib.hid env;clear env
  have ha2:((a:Int) == 0) = true:=by simpa using ha
  have hsh:=fun W (e:Env W) => own_sshare g q W h0 h1 fq e
  clear h0 h1 fq ha
  generalize showR (q * Rat.divInt g 65535) = t2 at *
  generalize showR q = tq at *
  have HSH:=Lib.hid hsh;clear hsh
  have HB:=Lib.hid (((Below.refl w.heap.size w).alloc (Nat.le_refl _) (.cells #[.int .i64 nu,.int .i64 pr,.bool (inh),gv,.int .i64 su,.string ⟨(fr).toArray⟩,.int .i64 tz,.int .i64 st,.int .i64 ti,.int .i64 stp,.int .i64 at_,.bool (mv)] 97)).alloc (by simp) (.cells #[.int .i64 ch,.int .i64 a] 34))
  have hR:=Blk.new (w.alloc (.cells #[.int .i64 nu,.int .i64 pr,.bool (inh),gv,.int .i64 su,.string ⟨(fr).toArray⟩,.int .i64 tz,.int .i64 st,.int .i64 ti,.int .i64 stp,.int .i64 at_,.bool (mv)] 97)) 34 #[.int .i64 ch,.int .i64 a]
  rw [World.size_alloc] at hR
  have HP:=Lib.hid hR;clear hR
  obtain ⟨p0,p1,pf0,pf1⟩:=HP.out.c2
  go_enter Tryz.func47,Tryz.ntmps47
  go_wp2_with (first | (with_reducible refine ((HSH.out _ (ENV.out.below HB.out)).mono ?_);rintro e w' ⟨rfl,hb⟩;replace HP:=Lib.hid (HP.out.keep hb);clear p0 p1 pf0 pf1;replace HB:=Lib.hid (bch' HB.out hb);clear hb;obtain ⟨p0,p1,pf0,pf1⟩:=HP.out.c2))
  go_ret2
  exact ⟨rfl,HB.out⟩
theorem own_samt_other (nu pr su tz st ti stp at_ ch a g : Int) (inh mv : Bool) (gv : Value) (fr : Txt) (q : Rat) (w : World) (h0 : 0 ≤ g) (h1 : g ≤ 65535) (fq : Fits 2000 q) (ha : ¬ a = 0) (env : Env w) :
    Calls Tryz.prog 47 #[.agg #[.int .i64 nu,.int .i64 pr,.bool (inh),gv,.int .i64 su,.string ⟨(fr).toArray⟩,.int .i64 tz,.int .i64 st,.int .i64 ti,.int .i64 stp,.int .i64 at_,.bool (mv)],.agg #[.int .i64 ch,.int .i64 a],.int .i64 g,.string ⟨(showR q).toArray⟩] w fun e w' => e = .returned (.tuple #[.string ⟨(showR ((g:Int):Rat)).toArray⟩,.int .i64 0]) ∧ Below w.heap.size w w':=by
  have ENV:=Lib.hid env;clear env
  have ha2:((a:Int) == 0) = false:=by simpa using ha
  have hw:=fun W (e:Env W) => own_whole g W (by omega) (by omega) e
  rw [← showR_int] at hw
  clear h0 h1 fq ha
  generalize showR ((g:Int):Rat) = t2 at *
  generalize showR q = tq at *
  have HW:=Lib.hid hw;clear hw
  have HB:=Lib.hid (((Below.refl w.heap.size w).alloc (Nat.le_refl _) (.cells #[.int .i64 nu,.int .i64 pr,.bool (inh),gv,.int .i64 su,.string ⟨(fr).toArray⟩,.int .i64 tz,.int .i64 st,.int .i64 ti,.int .i64 stp,.int .i64 at_,.bool (mv)] 97)).alloc (by simp) (.cells #[.int .i64 ch,.int .i64 a] 34))
  have hR:=Blk.new (w.alloc (.cells #[.int .i64 nu,.int .i64 pr,.bool (inh),gv,.int .i64 su,.string ⟨(fr).toArray⟩,.int .i64 tz,.int .i64 st,.int .i64 ti,.int .i64 stp,.int .i64 at_,.bool (mv)] 97)) 34 #[.int .i64 ch,.int .i64 a]
  rw [World.size_alloc] at hR
  have HP:=Lib.hid hR;clear hR
  obtain ⟨p0,p1,pf0,pf1⟩:=HP.out.c2
  go_enter Tryz.func47,Tryz.ntmps47
  go_wp2_with (first | (with_reducible refine ((HW.out _ (ENV.out.below HB.out)).mono ?_);rintro e w' ⟨rfl,hb⟩;replace HP:=Lib.hid (HP.out.keep hb);clear p0 p1 pf0 pf1;replace HB:=Lib.hid (bch' HB.out hb);clear hb;obtain ⟨p0,p1,pf0,pf1⟩:=HP.out.c2))
  go_ret2
  exact ⟨rfl,HB.out⟩
end Go.Proofs.YtmjkenlifgmeeaaGreatDoor
set_option maxRecDepth 100000
set_option maxHeartbeats 4000000
namespace Lum
open Go Go.RowKit Go.Shelf
open Go.Lib (decDigits itoa)
def goE (fr:Txt) (tz st ti xt xo xi:Int):Int:=if glE fr tz st ti ≠ 0 then glE fr tz st ti else if ¬ (((0 ≤ xt ∧ xt ≤ 10000000) ∧ (0 ≤ xi ∧ xi ≤ 10000000)) ∧ (0 ≤ xo ∧ xo ≤ 65535)) then 2 else 0
theorem goE_gl {fr:Txt} {tz st ti xt xo xi:Int} (h:¬ glE fr tz st ti = 0):goE fr tz st ti xt xo xi = glE fr tz st ti:=by unfold goE;rw [if_pos h]
theorem goE_out {fr:Txt} {tz st ti xt xo xi:Int} (h:glE fr tz st ti = 0) (h2:¬ (((0 ≤ xt ∧ xt ≤ 10000000) ∧ (0 ≤ xi ∧ xi ≤ 10000000)) ∧ (0 ≤ xo ∧ xo ≤ 65535))):goE fr tz st ti xt xo xi = 2:=by unfold goE;rw [if_neg (by simpa using h),if_pos h2]
theorem goE_in {fr:Txt} {tz st ti xt xo xi:Int} (h:glE fr tz st ti = 0) (h2:((0 ≤ xt ∧ xt ≤ 10000000) ∧ (0 ≤ xi ∧ xi ≤ 10000000)) ∧ (0 ≤ xo ∧ xo ≤ 65535)):goE fr tz st ti xt xo xi = 0:=by unfold goE;rw [if_neg (by simpa using h),if_neg (fun g => g h2)]
theorem goE_zero {fr:Txt} {tz st ti xt xo xi:Int} (h:goE fr tz st ti xt xo xi = 0):glE fr tz st ti = 0 ∧ ((0 ≤ xt ∧ xt ≤ 10000000) ∧ (0 ≤ xi ∧ xi ≤ 10000000)) ∧ (0 ≤ xo ∧ xo ≤ 65535):=by
  by_cases h1:glE fr tz st ti = 0
  · by_cases h2:((0 ≤ xt ∧ xt ≤ 10000000) ∧ (0 ≤ xi ∧ xi ≤ 10000000)) ∧ (0 ≤ xo ∧ xo ≤ 65535)
    · exact ⟨h1,h2⟩
    · rw [goE_out h1 h2] at h;cases h
  · rw [goE_gl h1] at h;exact absurd h h1
end Lum
namespace Go.Proofs.YtmjkenlifgmeeaaGreatDoor
open Go.RowKit Go.Shelf Lum
open Go.Lib (decDigits itoa)
attribute [local go_sem] bs_get bs_extract_end bs_extract_from bs_extract bs_append
theorem own_ggo_ok (fr : Txt) (tz st ti xt xo xi : Int) (w : World) (hx : fr.length ≤ 1000) (hz : goE fr tz st ti xt xo xi = 0) (env : Env w) :
    Calls Tryz.prog 42 #[.agg #[.string ⟨(fr).toArray⟩,.int .i64 tz,.int .i64 st,.int .i64 ti],.int .i64 xt,.int .i64 xo,.int .i64 xi] w fun e w' => e = .returned (.tuple #[.agg #[.string ⟨(showR (glV (valR fr) tz st ti xt)).toArray⟩,.int .i64 xo,.int .i64 xt,.int .i64 xi],.int .i64 0]) ∧ Below w.heap.size w w':=by
  have ENV:=Lib.hid env;clear env
  have hal:=((Below.refl w.heap.size w).alloc (Nat.le_refl _) (.cells #[.string ⟨(fr).toArray⟩,.int .i64 tz,.int .i64 st,.int .i64 ti] 93)).alloc (by simp) (.cells #[.string ⟨#[]⟩,.int .i64 0,.int .i64 0,.int .i64 0] 93)
  have HB:=Lib.hid hal
  have HK:=Lib.hid ((Blk.new w 93 #[.string ⟨(fr).toArray⟩,.int .i64 tz,.int .i64 st,.int .i64 ti]).alloc (.cells #[.string ⟨#[]⟩,.int .i64 0,.int .i64 0,.int .i64 0] 93))
  have hR:=Blk.new (w.alloc (.cells #[.string ⟨(fr).toArray⟩,.int .i64 tz,.int .i64 st,.int .i64 ti] 93)) 93 #[.string ⟨#[]⟩,.int .i64 0,.int .i64 0,.int .i64 0]
  rw [World.size_alloc] at hR
  have HR:=Lib.hid hR;clear hR
  obtain ⟨k0,k1,k2,k3,kf0,kf1,kf2,kf3⟩:=HK.out.c4
  obtain ⟨r0,r1,r2,r3,rf0,rf1,rf2,rf3⟩:=HR.out.c4
  clear hal
  have hc:=fun W (e:Env W) => own_gcheck fr tz st ti W hx e
  obtain ⟨h0,h1,h2⟩:=goE_zero hz
  rw [h0] at hc
  have hi1:∀ W:World,Calls Tryz.prog 96 #[.int .i64 65535,.slice (some ⟨W.heap.size,0,none⟩) 1 1] (W.alloc (.cells #[.int .i64 xo] 3)) fun e w' => e = .returned (.bool (inAll1 65535 xo)) ∧ Below W.heap.size W w':=fun W => (own_gwithin1 65535 xo _ _ _ (by rw [World.cell?_alloc_new];rfl)).mono fun e w2 h => ⟨h.1,by rw [← h.2];exact (Below.refl _ _).alloc (Nat.le_refl _) _⟩
  have hi2:∀ W:World,Calls Tryz.prog 96 #[.int .i64 10000000,.slice (some ⟨W.heap.size,0,none⟩) 2 2] (W.alloc (.cells #[.int .i64 xt,.int .i64 xi] 3)) fun e w' => e = .returned (.bool (inAll2 10000000 xt xi)) ∧ Below W.heap.size W w':=fun W => (own_gwithin2 10000000 xt xi _ _ _ (by rw [World.cell?_alloc_new];rfl) (by rw [World.cell?_alloc_new];rfl)).mono fun e w2 h => ⟨h.1,by rw [← h.2];exact (Below.refl _ _).alloc (Nat.le_refl _) _⟩
  rw [show inAll1 65535 xo = decide (0 ≤ xo ∧ xo ≤ 65535) from rfl] at hi1
  rw [show inAll2 10000000 xt xi = decide ((0 ≤ xt ∧ xt ≤ 10000000) ∧ (0 ≤ xi ∧ xi ≤ 10000000)) from rfl] at hi2
  rw [decide_eq_true h1] at hi2
  rw [decide_eq_true h2] at hi1
  have ha:=fun W (e:Env W) => own_gat fr tz st ti xt W h0 hx e
  clear h0 h1 h2 hz
  generalize showR (glV (valR fr) tz st ti xt) = tr at *
  have HC:=Lib.hid hc;clear hc
  have HI1:=Lib.hid hi1;clear hi1
  have HI2:=Lib.hid hi2;clear hi2
  have HA:=Lib.hid ha;clear ha
  go_enter Tryz.func42,Tryz.ntmps42
  go_wp2_with (first | (with_reducible refine ((HC.out _ (ENV.out.below HB.out)).mono ?_);rintro e w' ⟨rfl,hb⟩;replace HK:=Lib.hid (HK.out.keep hb);clear k0 k1 k2 k3 kf0 kf1 kf2 kf3;replace HR:=Lib.hid (HR.out.keep hb);clear r0 r1 r2 r3 rf0 rf1 rf2 rf3;replace HB:=Lib.hid (bch' HB.out hb);clear hb;obtain ⟨k0,k1,k2,k3,kf0,kf1,kf2,kf3⟩:=HK.out.c4;obtain ⟨r0,r1,r2,r3,rf0,rf1,rf2,rf3⟩:=HR.out.c4) | (with_reducible refine ((HI1.out _).mono ?_);rintro e w' ⟨rfl,hb⟩;replace HK:=Lib.hid (HK.out.keep hb);clear k0 k1 k2 k3 kf0 kf1 kf2 kf3;replace HR:=Lib.hid (HR.out.keep hb);clear r0 r1 r2 r3 rf0 rf1 rf2 rf3;replace HB:=Lib.hid (bch' HB.out hb);clear hb;obtain ⟨k0,k1,k2,k3,kf0,kf1,kf2,kf3⟩:=HK.out.c4;obtain ⟨r0,r1,r2,r3,rf0,rf1,rf2,rf3⟩:=HR.out.c4) | (with_reducible refine ((HI2.out _).mono ?_);rintro e w' ⟨rfl,hb⟩;replace HK:=Lib.hid (HK.out.keep hb);clear k0 k1 k2 k3 kf0 kf1 kf2 kf3;replace HR:=Lib.hid (HR.out.keep hb);clear r0 r1 r2 r3 rf0 rf1 rf2 rf3;replace HB:=Lib.hid (bch' HB.out hb);clear hb;obtain ⟨k0,k1,k2,k3,kf0,kf1,kf2,kf3⟩:=HK.out.c4;obtain ⟨r0,r1,r2,r3,rf0,rf1,rf2,rf3⟩:=HR.out.c4) | (with_reducible refine ((HA.out _ (ENV.out.below HB.out)).mono ?_);rintro e w' ⟨rfl,hb⟩;replace HK:=Lib.hid (HK.out.keep hb);clear k0 k1 k2 k3 kf0 kf1 kf2 kf3;replace HR:=Lib.hid (HR.out.keep hb);clear r0 r1 r2 r3 rf0 rf1 rf2 rf3;replace HB:=Lib.hid (bch' HB.out hb);clear hb;obtain ⟨k0,k1,k2,k3,kf0,kf1,kf2,kf3⟩:=HK.out.c4;obtain ⟨r0,r1,r2,r3,rf0,rf1,rf2,rf3⟩:=HR.out.c4))
  refine bodyPost_ret_by (v:=.tuple #[.agg #[.string ⟨(tr).toArray⟩,.int .i64 xo,.int .i64 xt,.int .i64 xi],.int .i64 0]) (by simp [results,Tryz.f42,go_sem,r0,r1,r2,r3,rf0,rf1,rf2,rf3]) rfl ⟨rfl,?_⟩
  exact ((((HB.out.setCell (Nat.le_succ _) _).setCell (Nat.le_succ _) _).setCell (Nat.le_succ _) _).setCell (Nat.le_succ _) _)
end Go.Proofs.YtmjkenlifgmeeaaGreatDoor

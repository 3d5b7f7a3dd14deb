/-
  
-/
import Derived.Test.YtknlohmkachbmaaGreatDoorPHd
import Derived.Test.YtknlohmkachbmaaGreatDoorPHh
import Derived.Test.YtknlohmkachbmaaGreatDoorPHf
set_option linter.unusedVariables false
set_option linter.unusedSimpArgs false
set_option maxRecDepth 100000
set_option maxHeartbeats 4000000
namespace Lum
open Go Go.RowKit Go.Shelf
open Go.Lib (decDigits itoa)
def fewH (l:List Hnd):Bool:=(l.take 30).all (fun x => decide (x.fr.length ≤ 60)) && (decide (l.length ≤ 30) || (decide (256 < l.length) && decide (l.length < 400)))
theorem fewH_all {l:List Hnd} {k:Nat} (hk:k = l.length ∨ 30 ≤ k) (h:∀ j (hj:j < l.length),j < k → (l[j]'hj).fr.length ≤ 60):(l.take 30).all (fun x => decide (x.fr.length ≤ 60)) = true:=List.all_eq_true.2 fun x hx => by
  obtain ⟨j,hj,h1,rfl⟩:=mem_take_at hx
  exact decide_eq_true (h j hj (by omega))
theorem fewH_bad {l:List Hnd} {k:Nat} (hk:k < l.length) (h30:k < 30) (h:60 < (l[k]'hk).fr.length):(l.take 30).all (fun x => decide (x.fr.length ≤ 60)) = false:=List.all_eq_false.2 ⟨l[k]'hk,List.mem_take_iff_getElem.2 ⟨k,by omega,rfl⟩,by rw [decide_eq_false (by omega)];decide⟩
theorem fewH_short {l:List Hnd} (h:fewH l = true):(l.length ≤ 256 → l.length ≤ 30 ∧ ∀ x ∈ l,x.fr.length ≤ 60) ∧ l.length < 400:=by
  unfold fewH at h
  simp only [Bool.and_eq_true,Bool.or_eq_true,decide_eq_true_eq] at h
  obtain ⟨h1,h2⟩:=h
  refine ⟨fun h3 => ?_,by omega⟩
  have h4:l.length ≤ 30:=by omega
  refine ⟨h4,fun x hx => ?_⟩
  rw [List.take_of_length_le h4] at h1
  exact of_decide_eq_true (List.all_eq_true.1 h1 x hx)
end Lum
namespace Go.Proofs.YtknlohmkachbmaaGreatDoor
open Go.RowKit Go.Shelf Lum
open Go.Lib (decDigits itoa)
attribute [local go_sem] bs_get bs_extract_end bs_extract_from bs_extract bs_append
theorem r29_few (l : List Hnd) (v : Value) (w : World) (hv : HndsAt w v l) :
    Calls Tryz.prog 12 #[v] w fun e w' => e = .returned (.bool (fewH l)) ∧ w = w':=by
  obtain ⟨p,c,rfl,hR⟩:=hv
  have hv2:=Lib.hid hR;clear hR
  go_enter Tryz.func12,Tryz.ntmps12
  go_wp2_with fail
  go_loopw [3] (fun s wr => ∃ k:Nat,s = .int .i64 (k:Int) ∧ w = wr ∧ k ≤ l.length ∧ Hid (∀ j (hj:j < l.length),j < k → (l[j]'hj).fr.length ≤ 60)) (fun s _ => l.length - (intOf s).toNat)
  case atStart => exact ⟨0,rfl,rfl,by omega,Lib.hid (fun j hj h => absurd h (Nat.not_lt_zero _))⟩
  case round =>
    obtain ⟨k,rfl,rfl,h5,HF⟩:=hrel
    by_cases hkl:k < l.length
    · by_cases h3:k < 30
      · have hlt:(k:Int) < (l.length:Int):=by omega
        have hk30:(k:Int) < 30:=by omega
        have hk0:(0:Int) ≤ (k:Int):=by omega
        have hlo:k * 7 < 9223372036854775807:=by omega
        have hun:IntKind.i64.wrap ((k:Int) + 1) = (k:Int) + 1:=IntWalk.i64_in _ (by omega)
        obtain ⟨bb,oo,rfl,hbb,hC⟩:=hv2.out (fun h => by subst h;exact absurd hkl (Nat.not_lt_zero _))
        obtain ⟨x,hx⟩:∃ x,x = l[k]'hkl:=⟨_,rfl⟩
        have hcell:=hC k hkl
        rw [← hx] at hcell
        have y0:=hcell 0 _ rfl
        have y1:=hcell 1 _ rfl
        have y2:=hcell 2 _ rfl
        have y3:=hcell 3 _ rfl
        have y4:=hcell 4 _ rfl
        have y5:=hcell 5 _ rfl
        have y6:=hcell 6 _ rfl
        have HX:=Lib.hid hx
        clear hcell hx hC
        by_cases h6:60 < x.fr.length
        · have hg:(60:Int) < (x.fr.length:Int):=by omega
          have HA:Hid ((l.take 30).all (fun x => decide (x.fr.length ≤ 60)) = false):=Lib.hid (fewH_bad hkl h3 (by rw [← HX.out];exact h6))
          have HE:Hid (fewH l = false):=Lib.hid (by unfold fewH;rw [HA.out];rfl)
          go_wp2_with fail
          go_ret
          exact ⟨by first | (rw [HE.out];done) | (rw [HE.out];rfl),rfl⟩
        · have hg:¬ (60:Int) < (x.fr.length:Int):=by omega
          have HF2:Hid (∀ j (hj:j < l.length),j < k + 1 → (l[j]'hj).fr.length ≤ 60):=Lib.hid (fun j hj h => by by_cases e:j = k;(subst e;rw [← HX.out];omega);exact HF.out j hj (by omega))
          go_wp2_with fail
          go_roundw
          case rel => exact ⟨k + 1,by first | rfl | simp,by trivial,by omega,HF2⟩
          case measure => first | (simp [intOf];done) | (simp [intOf];omega)
      · have hlt:(k:Int) < (l.length:Int):=by omega
        have hk30:¬ (k:Int) < 30:=by omega
        have HA:Hid ((l.take 30).all (fun x => decide (x.fr.length ≤ 60)) = true):=Lib.hid (fewH_all (k:=k) (by omega) HF.out)
        by_cases h1:l.length ≤ 30
        · have g1:(l.length:Int) ≤ 30:=by omega
          have HE:Hid (fewH l = true):=Lib.hid (by unfold fewH;rw [HA.out,decide_eq_true h1];rfl)
          go_wp2_with fail
          go_ret
          exact ⟨by first | (rw [HE.out];done) | (rw [HE.out];rfl),rfl⟩
        · by_cases h2:256 < l.length
          · by_cases h3:l.length < 400
            · have g1:¬ (l.length:Int) ≤ 30:=by omega
              have g2:(256:Int) < (l.length:Int):=by omega
              have g3:(l.length:Int) < 400:=by omega
              have HE:Hid (fewH l = true):=Lib.hid (by unfold fewH;rw [HA.out,decide_eq_false h1,decide_eq_true h2,decide_eq_true h3];rfl)
              go_wp2_with fail
              go_ret
              exact ⟨by first | (rw [HE.out];done) | (rw [HE.out];rfl),rfl⟩
            · have g1:¬ (l.length:Int) ≤ 30:=by omega
              have g2:(256:Int) < (l.length:Int):=by omega
              have g3:¬ (l.length:Int) < 400:=by omega
              have HE:Hid (fewH l = false):=Lib.hid (by unfold fewH;rw [HA.out,decide_eq_false h1,decide_eq_true h2,decide_eq_false h3];rfl)
              go_wp2_with fail
              go_ret
              exact ⟨by first | (rw [HE.out];done) | (rw [HE.out];rfl),rfl⟩
          · have g1:¬ (l.length:Int) ≤ 30:=by omega
            have g2:¬ (256:Int) < (l.length:Int):=by omega
            have HE:Hid (fewH l = false):=Lib.hid (by unfold fewH;rw [HA.out,decide_eq_false h1,decide_eq_false h2];rfl)
            go_wp2_with fail
            go_ret
            exact ⟨by first | (rw [HE.out];done) | (rw [HE.out];rfl),rfl⟩
    · have hlt:¬ (k:Int) < (l.length:Int):=by omega
      have HA:Hid ((l.take 30).all (fun x => decide (x.fr.length ≤ 60)) = true):=Lib.hid (fewH_all (k:=k) (by omega) HF.out)
      by_cases h1:l.length ≤ 30
      · have g1:(l.length:Int) ≤ 30:=by omega
        have HE:Hid (fewH l = true):=Lib.hid (by unfold fewH;rw [HA.out,decide_eq_true h1];rfl)
        go_wp2_with fail
        go_ret
        exact ⟨by first | (rw [HE.out];done) | (rw [HE.out];rfl),rfl⟩
      · by_cases h2:256 < l.length
        · by_cases h3:l.length < 400
          · have g1:¬ (l.length:Int) ≤ 30:=by omega
            have g2:(256:Int) < (l.length:Int):=by omega
            have g3:(l.length:Int) < 400:=by omega
            have HE:Hid (fewH l = true):=Lib.hid (by unfold fewH;rw [HA.out,decide_eq_false h1,decide_eq_true h2,decide_eq_true h3];rfl)
            go_wp2_with fail
            go_ret
            exact ⟨by first | (rw [HE.out];done) | (rw [HE.out];rfl),rfl⟩
          · have g1:¬ (l.length:Int) ≤ 30:=by omega
            have g2:(256:Int) < (l.length:Int):=by omega
            have g3:¬ (l.length:Int) < 400:=by omega
            have HE:Hid (fewH l = false):=Lib.hid (by unfold fewH;rw [HA.out,decide_eq_false h1,decide_eq_true h2,decide_eq_false h3];rfl)
            go_wp2_with fail
            go_ret
            exact ⟨by first | (rw [HE.out];done) | (rw [HE.out];rfl),rfl⟩
        · have g1:¬ (l.length:Int) ≤ 30:=by omega
          have g2:¬ (256:Int) < (l.length:Int):=by omega
          have HE:Hid (fewH l = false):=Lib.hid (by unfold fewH;rw [HA.out,decide_eq_false h1,decide_eq_false h2];rfl)
          go_wp2_with fail
          go_ret
          exact ⟨by first | (rw [HE.out];done) | (rw [HE.out];rfl),rfl⟩
end Go.Proofs.YtknlohmkachbmaaGreatDoor
set_option maxRecDepth 100000
set_option maxHeartbeats 4000000
namespace Lum
open Go Go.RowKit Go.Shelf
open Go.Lib (decDigits itoa)
def donT (l:List Hnd) (t:Int):Bool × Int:=if hnsE l ≠ 0 then (false,hnsE l) else (l.all (fun x => !decide (t < x.st + x.ti)),0)
theorem donT_bad {l:List Hnd} {t:Int} (h:¬ hnsE l = 0):donT l t = (false,hnsE l):=by unfold donT;rw [if_pos h]
theorem donT_ok {l:List Hnd} {t:Int} (h:hnsE l = 0):donT l t = (l.all (fun x => !decide (t < x.st + x.ti)),0):=by unfold donT;rw [if_neg (by simpa using h)]
theorem don_all {l:List Hnd} {t:Int} (h:∀ j (hj:j < l.length),¬ t < (l[j]'hj).st + (l[j]'hj).ti):l.all (fun x => !decide (t < x.st + x.ti)) = true:=List.all_eq_true.2 fun x hx => by
  obtain ⟨j,hj,rfl⟩:=List.getElem_of_mem hx
  rw [decide_eq_false (h j hj)];rfl
theorem don_bad {l:List Hnd} {t:Int} {k:Nat} (hk:k < l.length) (h:t < (l[k]'hk).st + (l[k]'hk).ti):l.all (fun x => !decide (t < x.st + x.ti)) = false:=List.all_eq_false.2 ⟨l[k]'hk,List.getElem_mem hk,by rw [decide_eq_true h];decide⟩
theorem hnd_sum {x:Hnd} (h:hndE x = 0):IntKind.i64.wrap (x.st + x.ti) = x.st + x.ti:=by
  obtain ⟨-,h1,h2⟩:=hndE_parts h
  exact IntWalk.i64_in _ (by omega)
end Lum
namespace Go.Proofs.YtknlohmkachbmaaGreatDoor
open Go.RowKit Go.Shelf Lum
open Go.Lib (decDigits itoa)
attribute [local go_sem] bs_get bs_extract_end bs_extract_from bs_extract bs_append
theorem r29_done (l : List Hnd) (v : Value) (t : Int) (w : World) (hv : HndsAt w v l) (hx : l.length ≤ 256 → ∀ x ∈ l, x.fr.length ≤ 1000) :
    Calls Tryz.prog 38 #[v,.int .i64 t] w fun e w' => e = .returned (.tuple #[.bool ((donT l t).1),.int .i64 ((donT l t).2)]) ∧ Below w.heap.size w w':=by
  have hck:=fun W (h:HndsAt W v l) => r29_check l v W h hx
  change ∀ W,HndsAt W v l → Calls _ _ _ _ (fun e w' => e = .returned (.int .i64 (hnsE l)) ∧ _) at hck
  have HV:=Lib.hid hv
  have HB:=Lib.hid (Below.refl w.heap.size w)
  by_cases hz:hnsE l = 0
  · have hok:=ordP_ok (show ordP 256 hndE Hnd.ky l = 0 from hz)
    rw [donT_ok hz]
    rw [hz] at hck
    dsimp only
    have HFEW:=Lib.hid hok.few;have HOK:=Lib.hid hok.ok
    clear hz hx hok
    have HCK:=Lib.hid hck;clear hck
    obtain ⟨p,c,rfl,hR⟩:=hv
    have hv2:=Lib.hid hR;clear hR
    go_enter Tryz.func38,Tryz.ntmps38
    go_wp2_with (first | (with_reducible refine ((HCK.out _ HV.out).mono ?_);rintro e w' ⟨rfl,hb⟩;replace HV:=Lib.hid (HndsAt.kept HV.out hb);replace HB:=Lib.hid (bch' HB.out hb);clear hb))
    clear HV
    go_loopw [7] (fun s wr => ∃ k:Nat,s = .int .i64 (k:Int) ∧ k ≤ l.length ∧ Hid (∀ j (hj:j < l.length),j < k → ¬ t < (l[j]'hj).st + (l[j]'hj).ti) ∧ Hid (Below w.heap.size w wr)) (fun s _ => l.length - (intOf s).toNat)
    case atStart => exact ⟨0,rfl,by omega,Lib.hid (fun j hj h => absurd h (Nat.not_lt_zero _)),HB⟩
    case round =>
      obtain ⟨k,rfl,hk9,HF,HB2⟩:=hrel
      clear HB
      have HB:=HB2;clear HB2
      by_cases hkl:k < l.length
      · have hlt:(k:Int) < (l.length:Int):=by omega
        have hk0:(0:Int) ≤ (k:Int):=by omega
        have hlo:k * 7 < 9223372036854775807:=by have:=HFEW.out;omega
        have hun:IntKind.i64.wrap ((k:Int) + 1) = (k:Int) + 1:=IntWalk.i64_in _ (by have:=HFEW.out;omega)
        obtain ⟨bb,oo,rfl,hbb,hC⟩:=hv2.out (fun h => by subst h;exact absurd hkl (Nat.not_lt_zero _))
        obtain ⟨x,hx⟩:∃ x,x = l[k]'hkl:=⟨_,rfl⟩
        have hcell:=hC k hkl
        rw [← hx] at hcell
        have HCX:=Lib.hid hcell;have HBb:=Lib.hid hbb;have HX:=Lib.hid hx
        have hwr:=hnd_sum (HOK.out x (by rw [HX.out];exact List.getElem_mem hkl))
        clear hcell hx hbb hC
        go_upto_region 7 with fail
        by_cases hq:t < x.st + x.ti
        · have HE:Hid (l.all (fun x => !decide (t < x.st + x.ti)) = false):=Lib.hid (don_bad hkl (by rw [← HX.out];exact hq))
          have r0:=fun p:BelowOf _ => ((bch' HB.out p.h).cell (p:=⟨bb,oo + k * 7,none⟩) HBb.out).trans (HCX.out 0 _ rfl)
          have r1:=fun p:BelowOf _ => ((bch' HB.out p.h).cell (p:=⟨bb,oo + k * 7 + 1,none⟩) HBb.out).trans (HCX.out 1 _ rfl)
          have r2:=fun p:BelowOf _ => ((bch' HB.out p.h).cell (p:=⟨bb,oo + k * 7 + 2,none⟩) HBb.out).trans (HCX.out 2 _ rfl)
          have r3:=fun p:BelowOf _ => ((bch' HB.out p.h).cell (p:=⟨bb,oo + k * 7 + 3,none⟩) HBb.out).trans (HCX.out 3 _ rfl)
          have r4:=fun p:BelowOf _ => ((bch' HB.out p.h).cell (p:=⟨bb,oo + k * 7 + 4,none⟩) HBb.out).trans (HCX.out 4 _ rfl)
          have r5:=fun p:BelowOf _ => ((bch' HB.out p.h).cell (p:=⟨bb,oo + k * 7 + 5,none⟩) HBb.out).trans (HCX.out 5 _ rfl)
          have r6:=fun p:BelowOf _ => ((bch' HB.out p.h).cell (p:=⟨bb,oo + k * 7 + 6,none⟩) HBb.out).trans (HCX.out 6 _ rfl)
          have zz:=fun p:BelowOf _ => Nat.lt_of_lt_of_le HBb.out (bch' HB.out p.h).size
          refine wp_region_WQ (by kernel_rfl) (by kernel_rfl) ?_
          repeat (refine WQ.step (fun K hK => ?_);go_simp;first | (refine hK.out _ ?_;clear hK K) | (apply Exists.intro;refine ⟨fun _ => ?_,hK.out _ ?_⟩;(first | rfl);clear hK K))
          refine WQ.nil ?_
          intro _ hw'
          obtain ⟨⟨wq,hbq⟩,hw2⟩:=hw'
          subst hw2
          replace HB:=Lib.hid (bch' HB.out hbq)
          clear r0 r1 r2 r3 r4 r5 r6 zz
          go_wp2_with fail
          go_ret2
          exact ⟨by rw [HE.out];rfl,HB.out⟩
        · have HF2:Hid (∀ j (hj:j < l.length),j < k + 1 → ¬ t < (l[j]'hj).st + (l[j]'hj).ti):=Lib.hid (fun j hj h => by by_cases e:j = k;(subst e;rw [← HX.out];exact hq);exact HF.out j hj (by omega))
          have r0:=fun p:BelowOf _ => ((bch' HB.out p.h).cell (p:=⟨bb,oo + k * 7,none⟩) HBb.out).trans (HCX.out 0 _ rfl)
          have r1:=fun p:BelowOf _ => ((bch' HB.out p.h).cell (p:=⟨bb,oo + k * 7 + 1,none⟩) HBb.out).trans (HCX.out 1 _ rfl)
          have r2:=fun p:BelowOf _ => ((bch' HB.out p.h).cell (p:=⟨bb,oo + k * 7 + 2,none⟩) HBb.out).trans (HCX.out 2 _ rfl)
          have r3:=fun p:BelowOf _ => ((bch' HB.out p.h).cell (p:=⟨bb,oo + k * 7 + 3,none⟩) HBb.out).trans (HCX.out 3 _ rfl)
          have r4:=fun p:BelowOf _ => ((bch' HB.out p.h).cell (p:=⟨bb,oo + k * 7 + 4,none⟩) HBb.out).trans (HCX.out 4 _ rfl)
          have r5:=fun p:BelowOf _ => ((bch' HB.out p.h).cell (p:=⟨bb,oo + k * 7 + 5,none⟩) HBb.out).trans (HCX.out 5 _ rfl)
          have r6:=fun p:BelowOf _ => ((bch' HB.out p.h).cell (p:=⟨bb,oo + k * 7 + 6,none⟩) HBb.out).trans (HCX.out 6 _ rfl)
          have zz:=fun p:BelowOf _ => Nat.lt_of_lt_of_le HBb.out (bch' HB.out p.h).size
          refine wp_region_WQ (by kernel_rfl) (by kernel_rfl) ?_
          repeat (refine WQ.step (fun K hK => ?_);go_simp;first | (refine hK.out _ ?_;clear hK K) | (apply Exists.intro;refine ⟨fun _ => ?_,hK.out _ ?_⟩;(first | rfl);clear hK K))
          refine WQ.nil ?_
          intro _ hw'
          obtain ⟨⟨wq,hbq⟩,hw2⟩:=hw'
          subst hw2
          replace HB:=Lib.hid (bch' HB.out hbq)
          clear r0 r1 r2 r3 r4 r5 r6 zz
          go_wp2_with fail
          go_roundw
          case rel => exact ⟨k + 1,by first | rfl | simp,by omega,HF2,HB⟩
          case measure => first | (simp [intOf];done) | (simp [intOf];omega)
      · have hlt:¬ (k:Int) < (l.length:Int):=by omega
        have HE:Hid (l.all (fun x => !decide (t < x.st + x.ti)) = true):=Lib.hid (don_all fun j hj => HF.out j hj (by omega))
        go_wp2_with fail
        go_ret2
        exact ⟨by rw [HE.out];rfl,HB.out⟩
  · rw [donT_bad hz]
    have hne:((hnsE l:Int) != 0) = true:=by simpa using hz
    clear hz hx hv
    generalize hnsE l = m at *
    have HCK:=Lib.hid hck;clear hck
    go_enter Tryz.func38,Tryz.ntmps38
    go_wp2_with (first | (with_reducible refine ((HCK.out _ HV.out).mono ?_);rintro e w' ⟨rfl,hb⟩;replace HV:=Lib.hid (HndsAt.kept HV.out hb);replace HB:=Lib.hid (bch' HB.out hb);clear hb))
    go_ret2
    exact ⟨rfl,HB.out⟩
end Go.Proofs.YtknlohmkachbmaaGreatDoor
set_option maxRecDepth 100000
set_option maxHeartbeats 4000000
namespace Lum
open Go Go.RowKit Go.Shelf
open Go.Lib (decDigits itoa)
def entO (x:Hnd):Ent:=⟨x.ch,x.at_,x.pa,x.lv⟩
def EntP (l:List Ent) (n:Int) (w:World) (e:Ending) (w':World):Prop:=∃ v',e = .returned (.tuple #[v',.int .i64 n]) ∧ EntsAt w' v' l ∧ Below w.heap.size w w'
theorem EntP.nil {n:Int} {w w':World} {e:Ending} (he:e = .returned (.tuple #[.slice none 0 0,.int .i64 n])) (h:Below w.heap.size w w'):EntP [] n w e w':=⟨_,he,⟨none,0,rfl,fun h => absurd rfl h⟩,h⟩
def entsL (l:List Hnd):List Ent:=if hnsE l = 0 then l.map entO else []
end Lum
namespace Go.Proofs.YtknlohmkachbmaaGreatDoor
open Go.RowKit Go.Shelf Lum
open Go.Lib (decDigits itoa)
attribute [local go_sem] bs_get bs_extract_end bs_extract_from bs_extract bs_append
theorem info_en:(Tryz.prog.info? 55).map (fun i => (i.zero,i.size,i.bytes)) = some (some (.agg #[.int .i64 0,.int .i64 0,.int .i64 0,.int .i64 0]),4,32):=by kernel_rfl
theorem own_pentries (l : List Hnd) (v : Value) (w : World) (hv : HndsAt w v l) (hx : l.length ≤ 256 → ∀ x ∈ l, x.fr.length ≤ 1000) (env : Env w) :
    Calls Tryz.prog 35 #[v] w (EntP (entsL l) (hnsE l) w):=by
  have hck:=fun W (e:Env W) (h:HndsAt W v l) => own_pcheck l v W h hx e
  change ∀ W,Env W → HndsAt W v l → Calls _ _ _ _ (fun e w' => e = .returned (.int .i64 (hnsE l)) ∧ _) at hck
  have HV:=Lib.hid hv;have ENV:=Lib.hid env
  have HB:=Lib.hid (Below.refl w.heap.size w)
  by_cases hz:hnsE l = 0
  · have hok:=ordP_ok (show ordP 256 hndE Hnd.ky l = 0 from hz)
    rw [show entsL l = l.map entO from if_pos hz,hz]
    rw [hz] at hck
    have HFEW:=Lib.hid hok.few
    clear hz hx hok
    have HCK:=Lib.hid hck;clear hck
    obtain ⟨p,c,rfl,hR⟩:=hv
    have hv2:=Lib.hid hR;clear hR
    obtain ⟨i0,hi,hz0,hz1,hz2⟩:=info_parts info_en
    go_enter Tryz.func35,Tryz.ntmps35
    go_wp2_with (first | (with_reducible refine ((HCK.out _ (ENV.out.below HB.out) HV.out).mono ?_);rintro e w' ⟨rfl,hb⟩;replace HV:=Lib.hid (HndsAt.kept HV.out hb);replace HB:=Lib.hid (bch' HB.out hb);clear hb))
    clear HV
    go_loopw [5,15] (fun s j wr => ∃ (k n:Nat) (pp:Option Addr) (cc:Nat),s = .slice pp n cc ∧ j = .int .i64 (k:Int) ∧ k ≤ l.length ∧ Hid (n = ((l.take k).map entO).length) ∧ Hid (Below w.heap.size w wr) ∧ Hid (OwnR encEn 4 w.heap.size 55 wr pp cc ((l.take k).map entO))) (fun _ j _ => l.length - (intOf j).toNat)
    case atStart => exact ⟨0,0,none,0,rfl,rfl,Nat.zero_le _,Lib.hid (by simp),HB,Lib.hid (by rw [List.take_zero];exact OwnR.nil _ _ _)⟩
    case round =>
      obtain ⟨k,n,pp,cc,rfl,rfl,hk9,HN,HB2,HO⟩:=hrel
      clear HB
      have HB:=HB2;clear HB2
      by_cases hkl:k < l.length
      · have hlt:(k:Int) < (l.length:Int):=by omega
        have hk0:(0:Int) ≤ (k:Int):=by omega
        have hlo:k * 7 < 9223372036854775807:=by have:=HFEW.out;omega
        have hun:IntKind.i64.wrap ((k:Int) + 1) = (k:Int) + 1:=IntWalk.i64_in _ (by have:=HFEW.out;omega)
        obtain ⟨bb,oo,rfl,hbb,hC⟩:=hv2.out (fun h => by subst h;exact absurd hkl (Nat.not_lt_zero _))
        obtain ⟨x,hx⟩:∃ x,x = l[k]'hkl:=⟨_,rfl⟩
        have hcell:=hC k hkl
        rw [← hx] at hcell
        have y0:wr.cell? ⟨bb,oo + k * 7,none⟩ = some (.int .i64 (x.ch)):=(HB.out.cell (p:=⟨bb,oo + k * 7 + 0,none⟩) hbb).trans (hcell 0 _ rfl)
        have y1:wr.cell? ⟨bb,oo + k * 7 + 1,none⟩ = some (.int .i64 (x.at_)):=(HB.out.cell (p:=⟨bb,oo + k * 7 + 1,none⟩) hbb).trans (hcell 1 _ rfl)
        have y2:wr.cell? ⟨bb,oo + k * 7 + 2,none⟩ = some (.string ⟨x.fr.toArray⟩):=(HB.out.cell (p:=⟨bb,oo + k * 7 + 2,none⟩) hbb).trans (hcell 2 _ rfl)
        have y3:wr.cell? ⟨bb,oo + k * 7 + 3,none⟩ = some (.int .i64 (x.pa)):=(HB.out.cell (p:=⟨bb,oo + k * 7 + 3,none⟩) hbb).trans (hcell 3 _ rfl)
        have y4:wr.cell? ⟨bb,oo + k * 7 + 4,none⟩ = some (.int .i64 (x.lv)):=(HB.out.cell (p:=⟨bb,oo + k * 7 + 4,none⟩) hbb).trans (hcell 4 _ rfl)
        have y5:wr.cell? ⟨bb,oo + k * 7 + 5,none⟩ = some (.int .i64 (x.st)):=(HB.out.cell (p:=⟨bb,oo + k * 7 + 5,none⟩) hbb).trans (hcell 5 _ rfl)
        have y6:wr.cell? ⟨bb,oo + k * 7 + 6,none⟩ = some (.int .i64 (x.ti)):=(HB.out.cell (p:=⟨bb,oo + k * 7 + 6,none⟩) hbb).trans (hcell 6 _ rfl)
        have hbr:bb < wr.heap.size:=Nat.lt_of_lt_of_le hbb HB.out.size
        have HT:Hid (((l.take (k + 1)).map entO) = ((l.take k).map entO) ++ [entO x]):=Lib.hid (by rw [List.take_succ_eq_append_getElem hkl,List.map_append,← hx];rfl)
        have HBb:=Lib.hid hbb;have HCX:=Lib.hid hcell
        clear hcell hx hbb hC
        go_upto_region 8 with fail
        clear y0 y1 y2 y3 y4 y5 y6 hbr
        have hb:=(Below.refl wr.heap.size wr).alloc (Nat.le_refl _) (.cells #[.int .i64 (x.ch),.int .i64 (x.at_),.string ⟨x.fr.toArray⟩,.int .i64 (x.pa),.int .i64 (x.lv),.int .i64 (x.st),.int .i64 (x.ti)] 28)
        have HX:=Lib.hid (Blk.new wr 28 #[.int .i64 (x.ch),.int .i64 (x.at_),.string ⟨x.fr.toArray⟩,.int .i64 (x.pa),.int .i64 (x.lv),.int .i64 (x.st),.int .i64 (x.ti)])
        obtain ⟨n8,hn8⟩:∃ n,n = wr.heap.size:=⟨_,rfl⟩
        obtain ⟨Wa,hWWa⟩:∃ X,X = wr.alloc (.cells #[.int .i64 (x.ch),.int .i64 (x.at_),.string ⟨x.fr.toArray⟩,.int .i64 (x.pa),.int .i64 (x.lv),.int .i64 (x.st),.int .i64 (x.ti)] 28):=⟨_,rfl⟩
        rw [← hn8] at HX ⊢
        rw [← hWWa] at hb HX ⊢
        replace HO:=Lib.hid (OwnR.keep HO.out hb);replace HB:=Lib.hid (bch' HB.out hb);clear hb
        clear hWWa hn8
        obtain ⟨q0,q1,q2,q3,q4,q5,q6,qf0,qf1,qf2,qf3,qf4,qf5,qf6⟩:=HX.out.c7
        go_wp2_with (first | (at_builtin;refine wpList_appR3 rfl (.tmp 19) (.tmp 25) 45 rfl w.heap.size 55 i0 (.agg #[.int .i64 0,.int .i64 0,.int .i64 0,.int .i64 0]) 32 Tryz.underlying45 hi hz0 hz1 hz2 rfl (by decide) (by decide) pp cc n (((l.take k).map entO)) (HN.out) _ (entO x) Wa.heap.size (encEn_len _) (fun j u hu => cellN _ 55 hu) (encEn_one _) rfl (HO.out.keep ((Below.refl _ Wa).alloc (Nat.le_refl _) _)) rfl (by have:=HFEW.out;rw [List.length_map,List.length_take];omega) (by have:=HB.out.size;rw [World.size_alloc];omega) ?_;intro p1 c1 w4 hO3 hb3 _;have HO3:=Lib.hid hO3;have HB3:=Lib.hid (HB.out.trans (((Below.refl _ Wa).alloc (by have:=HB.out.size;omega) _).trans hb3));clear hO3 hb3))
        go_roundw
        case rel => exact ⟨k + 1,n + 1,p1,c1,by first | rfl | simp,by first | rfl | simp,by omega,Lib.hid (by rw [HT.out,List.length_append,← HN.out];rfl),HB3,Lib.hid (by rw [HT.out];exact HO3.out)⟩
        case measure => first | (simp [intOf];done) | (simp [intOf];omega)
      · have hlt:¬ (k:Int) < (l.length:Int):=by omega
        obtain rfl:k = l.length:=by omega
        have HTA:Hid (((l.take l.length).map entO) = l.map entO):=Lib.hid (by rw [List.take_length])
        rw [HTA.out] at HN HO
        have HN2:=HN;clear HN
        go_wp2_with fail
        go_ret2
        obtain rfl:=HN2.out
        exact ⟨_,rfl,⟨_,_,rfl,HO.out.row encEn_len⟩,HB.out⟩
  · rw [show entsL l = [] from if_neg hz]
    have hne:((hnsE l:Int) != 0) = true:=by simpa using hz
    clear hz hx hv
    generalize hnsE l = m at *
    have HCK:=Lib.hid hck;clear hck
    go_enter Tryz.func35,Tryz.ntmps35
    go_wp2_with (first | (with_reducible refine ((HCK.out _ (ENV.out.below HB.out) HV.out).mono ?_);rintro e w' ⟨rfl,hb⟩;replace HV:=Lib.hid (HndsAt.kept HV.out hb);replace HB:=Lib.hid (bch' HB.out hb);clear hb))
    go_ret2
    exact EntP.nil rfl HB.out
end Go.Proofs.YtknlohmkachbmaaGreatDoor

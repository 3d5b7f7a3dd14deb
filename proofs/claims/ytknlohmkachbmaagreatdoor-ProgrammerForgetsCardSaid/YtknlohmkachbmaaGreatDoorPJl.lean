/-
  
-/
import Derived.Test.YtknlohmkachbmaaGreatDoorPJj
import Derived.Test.YtknlohmkachbmaaGreatDoorPHl
import Derived.Test.YtknlohmkachbmaaGreatDoorPHh
set_option linter.unusedVariables false
set_option linter.unusedSimpArgs false
set_option maxRecDepth 100000
set_option maxHeartbeats 8000000
namespace Lum
open Go Go.RowKit Go.Shelf
open Go.Lib (decDigits itoa)
theorem hndsAt_one (W:World) (x:Hnd) (t:TypeId):HndsAt (W.alloc (.cells (encHd x).toArray t)) (.slice (some ⟨W.heap.size,0,none⟩) 1 1) [x]:=⟨_,_,rfl,fun _ => ⟨_,_,rfl,by simp,fun i hi j u hu => by
  have hi0:i = 0:=by simpa using hi
  subst hi0
  rw [show (0 + 0 * 7 + j) = j from by omega];exact cellN (cs:=encHd x) W t hu⟩⟩
theorem fewH_thou {l:List Hnd} (h:fewH l = true):l.length ≤ 256 → ∀ x ∈ l,x.fr.length ≤ 1000:=fun hl x hx => by have:=((fewH_short h).1 hl).2 x hx;omega
theorem fewH_len {l:List Hnd} (h:fewH l = true):l.length < 400:=(fewH_short h).2
theorem clrO_len (l:List Hnd) (ps:List (Int × Int)):(clrO l ps).length ≤ l.length:=by
  by_cases h:clrE l ps = 0
  · rw [clrO_ok h];exact List.length_filter_le _ _
  · rw [clrO_bad h];exact Nat.zero_le _
end Lum
namespace Go.Proofs.YtknlohmkachbmaaGreatDoor
open Go.RowKit Go.Shelf Lum
open Go.Lib (decDigits itoa)
attribute [local go_sem] bs_get bs_extract_end bs_extract_from bs_extract bs_append
theorem law_plevels (x : Hnd) (t tz : Int) (w : World) (env : Env w) :
    Calls Tryz.prog 3 #[.agg #[.int .i64 (x.ch),.int .i64 (x.at_),.string ⟨x.fr.toArray⟩,.int .i64 (x.pa),.int .i64 (x.lv),.int .i64 (x.st),.int .i64 (x.ti)],.int .i64 t,.int .i64 tz] w fun e w' => e = .returned (.bool (true)) ∧ Below w.heap.size w w':=by
  have ENV:=Lib.hid env;clear env
  have haw:=fun W (e:Env W) => l29_awake W e
  have hfw:∀ W:World,Calls Tryz.prog 12 #[.slice (some ⟨W.heap.size,0,none⟩) 1 1] (W.alloc (.cells #[.int .i64 (x.ch),.int .i64 (x.at_),.string ⟨x.fr.toArray⟩,.int .i64 (x.pa),.int .i64 (x.lv),.int .i64 (x.st),.int .i64 (x.ti)] 28)) fun e w' => e = .returned (.bool (fewH [x])) ∧ Below W.heap.size W w':=fun W => (r29_few [x] (.slice (some ⟨W.heap.size,0,none⟩) 1 1) _ (hndsAt_one W x 28)).mono fun e w' h => ⟨h.1,by rw [← h.2];exact (Below.refl _ _).alloc (Nat.le_refl _) _⟩
  have HK:=Lib.hid (Blk.new w 28 #[.int .i64 (x.ch),.int .i64 (x.at_),.string ⟨x.fr.toArray⟩,.int .i64 (x.pa),.int .i64 (x.lv),.int .i64 (x.st),.int .i64 (x.ti)])
  have HB:=Lib.hid ((Below.refl w.heap.size w).alloc (Nat.le_refl _) (.cells #[.int .i64 (x.ch),.int .i64 (x.at_),.string ⟨x.fr.toArray⟩,.int .i64 (x.pa),.int .i64 (x.lv),.int .i64 (x.st),.int .i64 (x.ti)] 28))
  obtain ⟨k0,k1,k2,k3,k4,k5,k6,kf0,kf1,kf2,kf3,kf4,kf5,kf6⟩:=HK.out.c7
  obtain ⟨W0,hW0⟩:∃ X,X = w.alloc (.cells #[.int .i64 (x.ch),.int .i64 (x.at_),.string ⟨x.fr.toArray⟩,.int .i64 (x.pa),.int .i64 (x.lv),.int .i64 (x.st),.int .i64 (x.ti)] 28):=⟨_,rfl⟩
  rw [← hW0] at HK HB k0 k1 k2 k3 k4 k5 k6 kf0 kf1 kf2 kf3 kf4 kf5 kf6
  by_cases hf:fewH [x] = true
  · have hx:x.fr.length ≤ 1000:=fewH_thou hf (by simp) x (by simp)
    rw [hf] at hfw
    have h1:=fun W (e:Env W) => own_plevel x.ch x.at_ x.fr x.pa x.lv x.st x.ti t tz W hx e
    have h2:=fun W => r29_level x.ch x.at_ x.fr x.pa x.lv x.st x.ti t tz W hx
    generalize levT (⟨x.ch,x.at_,x.fr,x.pa,x.lv,x.st,x.ti⟩:Hnd) t tz = T at *
    obtain ⟨s,m⟩:=T
    dsimp only at h1 h2
    clear hf hx
    have HAW:=Lib.hid haw;clear haw
    have HFW:=Lib.hid hfw;clear hfw
    have H1:=Lib.hid h1;clear h1
    have H2:=Lib.hid h2;clear h2
    go_enter Tryz.func3,Tryz.ntmps3
    go_upto_region 1 with fail
    rw [← hW0]
    clear hW0
    go_wp2_with (first | (with_reducible refine ((HFW.out _).mono ?_);rintro e w' ⟨rfl,hb⟩;replace HK:=Lib.hid (HK.out.keep hb);clear k0 k1 k2 k3 k4 k5 k6 kf0 kf1 kf2 kf3 kf4 kf5 kf6;replace HB:=Lib.hid (bch' HB.out hb);clear hb;obtain ⟨k0,k1,k2,k3,k4,k5,k6,kf0,kf1,kf2,kf3,kf4,kf5,kf6⟩:=HK.out.c7) | (with_reducible refine ((H1.out _ (ENV.out.below HB.out)).mono ?_);rintro e w' ⟨rfl,hb⟩;replace HK:=Lib.hid (HK.out.keep hb);clear k0 k1 k2 k3 k4 k5 k6 kf0 kf1 kf2 kf3 kf4 kf5 kf6;replace HB:=Lib.hid (bch' HB.out hb);clear hb;obtain ⟨k0,k1,k2,k3,k4,k5,k6,kf0,kf1,kf2,kf3,kf4,kf5,kf6⟩:=HK.out.c7) | (with_reducible refine ((H2.out _).mono ?_);rintro e w' ⟨rfl,hb⟩;replace HK:=Lib.hid (HK.out.keep hb);clear k0 k1 k2 k3 k4 k5 k6 kf0 kf1 kf2 kf3 kf4 kf5 kf6;replace HB:=Lib.hid (bch' HB.out hb);clear hb;obtain ⟨k0,k1,k2,k3,k4,k5,k6,kf0,kf1,kf2,kf3,kf4,kf5,kf6⟩:=HK.out.c7) | (with_reducible refine ((HAW.out _ (ENV.out.below HB.out)).mono ?_);rintro e w' ⟨rfl,hb⟩;replace HK:=Lib.hid (HK.out.keep hb);clear k0 k1 k2 k3 k4 k5 k6 kf0 kf1 kf2 kf3 kf4 kf5 kf6;replace HB:=Lib.hid (bch' HB.out hb);clear hb;obtain ⟨k0,k1,k2,k3,k4,k5,k6,kf0,kf1,kf2,kf3,kf4,kf5,kf6⟩:=HK.out.c7))
    go_ret
    exact ⟨rfl,HB.out⟩
  · have hf:fewH [x] = false:=by simpa using hf
    rw [hf] at hfw
    clear hf
    have HAW:=Lib.hid haw;clear haw
    have HFW:=Lib.hid hfw;clear hfw
    go_enter Tryz.func3,Tryz.ntmps3
    go_upto_region 1 with fail
    rw [← hW0]
    clear hW0
    go_wp2_with (first | (with_reducible refine ((HFW.out _).mono ?_);rintro e w' ⟨rfl,hb⟩;replace HK:=Lib.hid (HK.out.keep hb);clear k0 k1 k2 k3 k4 k5 k6 kf0 kf1 kf2 kf3 kf4 kf5 kf6;replace HB:=Lib.hid (bch' HB.out hb);clear hb;obtain ⟨k0,k1,k2,k3,k4,k5,k6,kf0,kf1,kf2,kf3,kf4,kf5,kf6⟩:=HK.out.c7) | (with_reducible refine ((HAW.out _ (ENV.out.below HB.out)).mono ?_);rintro e w' ⟨rfl,hb⟩;replace HK:=Lib.hid (HK.out.keep hb);clear k0 k1 k2 k3 k4 k5 k6 kf0 kf1 kf2 kf3 kf4 kf5 kf6;replace HB:=Lib.hid (bch' HB.out hb);clear hb;obtain ⟨k0,k1,k2,k3,k4,k5,k6,kf0,kf1,kf2,kf3,kf4,kf5,kf6⟩:=HK.out.c7))
    go_ret
    exact ⟨rfl,HB.out⟩
theorem law_pcompares (a b : List Hnd) (u v : Value) (w : World) (hu : HndsAt w u a) (hv : HndsAt w v b) (env : Env w) :
    Calls Tryz.prog 6 #[u,v] w fun e w' => e = .returned (.bool (true)) ∧ Below w.heap.size w w':=by
  have ENV:=Lib.hid env;clear env
  have HU:=Lib.hid hu;have HV:=Lib.hid hv;clear hu hv
  have HB:=Lib.hid (Below.refl w.heap.size w)
  have haw:=fun W (e:Env W) => l29_awake W e
  have hfa:=fun W (h:HndsAt W u a) => r29_few a u W h
  have hfb:=fun W (h:HndsAt W v b) => r29_few b v W h
  by_cases ha:fewH a = true
  · by_cases hb:fewH b = true
    · rw [ha] at hfa
      rw [hb] at hfb
      have h1:=fun W (h1:HndsAt W u a) (h2:HndsAt W v b) => own_psame a b u v W h1 h2 (by have:=fewH_len ha;omega) (by have:=fewH_len hb;omega)
      have h2:=fun W (h1:HndsAt W u a) (h2:HndsAt W v b) => r29_same a b u v W h1 h2 (by have:=fewH_len ha;omega)
      generalize decide (a = b) = r at *
      clear ha hb
      have HAW:=Lib.hid haw;clear haw
      have HFA:=Lib.hid hfa;clear hfa
      have HFB:=Lib.hid hfb;clear hfb
      have H1:=Lib.hid h1;clear h1
      have H2:=Lib.hid h2;clear h2
      go_enter Tryz.func6,Tryz.ntmps6
      go_wp2_with (first | (with_reducible refine ((HFA.out _ HU.out).mono ?_);rintro e w' ⟨rfl,rfl⟩) | (with_reducible refine ((HFB.out _ HV.out).mono ?_);rintro e w' ⟨rfl,rfl⟩) | (with_reducible refine ((HAW.out _ (ENV.out.below HB.out)).mono ?_);rintro e w' ⟨rfl,hb⟩;replace HU:=Lib.hid (HndsAt.kept HU.out hb);replace HV:=Lib.hid (HndsAt.kept HV.out hb);replace HB:=Lib.hid (bch' HB.out hb);clear hb) | (with_reducible refine ((H1.out _ HU.out HV.out).mono ?_);rintro e w' ⟨rfl,hb⟩;replace HU:=Lib.hid (HndsAt.kept HU.out hb);replace HV:=Lib.hid (HndsAt.kept HV.out hb);replace HB:=Lib.hid (bch' HB.out hb);clear hb) | (with_reducible refine ((H2.out _ HU.out HV.out).mono ?_);rintro e w' ⟨rfl,hb⟩;replace HU:=Lib.hid (HndsAt.kept HU.out hb);replace HV:=Lib.hid (HndsAt.kept HV.out hb);replace HB:=Lib.hid (bch' HB.out hb);clear hb))
      go_ret
      exact ⟨by first | rfl | (cases r <;> rfl),HB.out⟩
    · rw [ha] at hfa
      clear ha
      have hb:fewH b = false:=by simpa using hb
      rw [hb] at hfb
      clear hb
      have HAW:=Lib.hid haw;clear haw
      have HFA:=Lib.hid hfa;clear hfa
      have HFB:=Lib.hid hfb;clear hfb
      go_enter Tryz.func6,Tryz.ntmps6
      go_wp2_with (first | (with_reducible refine ((HFA.out _ HU.out).mono ?_);rintro e w' ⟨rfl,rfl⟩) | (with_reducible refine ((HFB.out _ HV.out).mono ?_);rintro e w' ⟨rfl,rfl⟩) | (with_reducible refine ((HAW.out _ (ENV.out.below HB.out)).mono ?_);rintro e w' ⟨rfl,hb⟩;replace HU:=Lib.hid (HndsAt.kept HU.out hb);replace HV:=Lib.hid (HndsAt.kept HV.out hb);replace HB:=Lib.hid (bch' HB.out hb);clear hb))
      go_ret
      exact ⟨rfl,HB.out⟩
  · have ha:fewH a = false:=by simpa using ha
    rw [ha] at hfa
    clear ha
    have HAW:=Lib.hid haw;clear haw
    have HFA:=Lib.hid hfa;clear hfa
    go_enter Tryz.func6,Tryz.ntmps6
    go_wp2_with (first | (with_reducible refine ((HFA.out _ HU.out).mono ?_);rintro e w' ⟨rfl,rfl⟩) | (with_reducible refine ((HAW.out _ (ENV.out.below HB.out)).mono ?_);rintro e w' ⟨rfl,hb⟩;replace HU:=Lib.hid (HndsAt.kept HU.out hb);replace HV:=Lib.hid (HndsAt.kept HV.out hb);replace HB:=Lib.hid (bch' HB.out hb);clear hb))
    go_ret
    exact ⟨rfl,HB.out⟩
theorem law_pclears (l : List Hnd) (ps : List (Int × Int)) (v u : Value) (w : World) (hv : HndsAt w v l) (hu : PmsAt w u ps) (env : Env w) :
    Calls Tryz.prog 4 #[v,u] w fun e w' => e = .returned (.bool (true)) ∧ Below w.heap.size w w':=by
  have ENV:=Lib.hid env;clear env
  obtain ⟨p2,c2,rfl,hR2⟩:=hu
  have HV:=Lib.hid hv;have HU:=Lib.hid (show PmsAt w (.slice p2 ps.length c2) ps from ⟨_,_,rfl,hR2⟩);clear hv hR2
  have HB:=Lib.hid (Below.refl w.heap.size w)
  have haw:=fun W (e:Env W) => l29_awake W e
  have hfa:=fun W (h:HndsAt W v l) => r29_few l v W h
  by_cases hf:fewH l = true
  · by_cases hp:ps.length ≤ 400
    · have hlt9:¬ (400:Int) < (ps.length:Int):=by omega
      have h1:=fun W (e:Env W) (h1:HndsAt W v l) (h2:PmsAt W (.slice p2 ps.length c2) ps) => own_pclear l ps v (.slice p2 ps.length c2) W h1 h2 (fewH_thou hf) (by omega) e
      have h2:=fun W (h1:HndsAt W v l) (h2:PmsAt W (.slice p2 ps.length c2) ps) => r29_clear l ps v (.slice p2 ps.length c2) W h1 h2 (fewH_thou hf) (by omega)
      have hle:(clrO l ps).length ≤ 1000000:=by have h8:=clrO_len l ps;have:=fewH_len hf;omega
      generalize clrO l ps = L at *
      generalize clrE l ps = m at *
      have hsa:=fun W v1 v2 (h1:HndsAt W v1 L) (h2:HndsAt W v2 L) => r29_same L L v1 v2 W h1 h2 hle
      rw [decide_eq_true rfl] at hsa
      unfold SetP at h1 h2
      rw [hf] at hfa
      clear hf hle hp
      have HAW:=Lib.hid haw;clear haw
      have HFA:=Lib.hid hfa;clear hfa
      have H1:=Lib.hid h1;clear h1
      have H2:=Lib.hid h2;clear h2
      have HSA:=Lib.hid hsa;clear hsa
      go_enter Tryz.func4,Tryz.ntmps4
      go_wp2_with (first | (with_reducible refine ((HFA.out _ HV.out).mono ?_);rintro e w' ⟨rfl,rfl⟩) | ((with_reducible refine ((H1.out _ (ENV.out.below HB.out) HV.out HU.out).mono ?_));rintro e w' ⟨v_hv1,rfl,hv9,hb⟩;have HV1:=Lib.hid hv9;clear hv9;replace HV:=Lib.hid (HndsAt.kept HV.out hb);replace HU:=Lib.hid (PmsAt.kept HU.out hb);replace HB:=Lib.hid (bch' HB.out hb);clear hb) | ((with_reducible refine ((H2.out _ HV.out HU.out).mono ?_));rintro e w' ⟨v_hv2,rfl,hv9,hb⟩;have HV2:=Lib.hid hv9;clear hv9;replace HV:=Lib.hid (HndsAt.kept HV.out hb);replace HU:=Lib.hid (PmsAt.kept HU.out hb);replace HV1:=Lib.hid (HndsAt.kept HV1.out hb);replace HB:=Lib.hid (bch' HB.out hb);clear hb) | (with_reducible refine ((HAW.out _ (ENV.out.below HB.out)).mono ?_);rintro e w' ⟨rfl,hb⟩;replace HV:=Lib.hid (HndsAt.kept HV.out hb);replace HU:=Lib.hid (PmsAt.kept HU.out hb);replace HV1:=Lib.hid (HndsAt.kept HV1.out hb);replace HV2:=Lib.hid (HndsAt.kept HV2.out hb);replace HB:=Lib.hid (bch' HB.out hb);clear hb) | (with_reducible refine ((HSA.out _ _ _ HV1.out HV2.out).mono ?_);rintro e w' ⟨rfl,hb⟩;replace HV:=Lib.hid (HndsAt.kept HV.out hb);replace HU:=Lib.hid (PmsAt.kept HU.out hb);replace HV1:=Lib.hid (HndsAt.kept HV1.out hb);replace HV2:=Lib.hid (HndsAt.kept HV2.out hb);replace HB:=Lib.hid (bch' HB.out hb);clear hb))
      go_ret
      exact ⟨by first | rfl | simp,HB.out⟩
    · have hlt9:(400:Int) < (ps.length:Int):=by omega
      rw [hf] at hfa
      clear hf
      have HAW:=Lib.hid haw;clear haw
      have HFA:=Lib.hid hfa;clear hfa
      go_enter Tryz.func4,Tryz.ntmps4
      go_wp2_with (first | (with_reducible refine ((HFA.out _ HV.out).mono ?_);rintro e w' ⟨rfl,rfl⟩) | (with_reducible refine ((HAW.out _ (ENV.out.below HB.out)).mono ?_);rintro e w' ⟨rfl,hb⟩;replace HV:=Lib.hid (HndsAt.kept HV.out hb);replace HU:=Lib.hid (PmsAt.kept HU.out hb);replace HB:=Lib.hid (bch' HB.out hb);clear hb))
      go_ret
      exact ⟨rfl,HB.out⟩
  · have hf:fewH l = false:=by simpa using hf
    rw [hf] at hfa
    clear hf
    have HAW:=Lib.hid haw;clear haw
    have HFA:=Lib.hid hfa;clear hfa
    go_enter Tryz.func4,Tryz.ntmps4
    go_wp2_with (first | (with_reducible refine ((HFA.out _ HV.out).mono ?_);rintro e w' ⟨rfl,rfl⟩) | (with_reducible refine ((HAW.out _ (ENV.out.below HB.out)).mono ?_);rintro e w' ⟨rfl,hb⟩;replace HV:=Lib.hid (HndsAt.kept HV.out hb);replace HU:=Lib.hid (PmsAt.kept HU.out hb);replace HB:=Lib.hid (bch' HB.out hb);clear hb))
    go_ret
    exact ⟨rfl,HB.out⟩
theorem law_pchecks (l : List Hnd) (v : Value) (d b t : Int) (w : World) (hv : HndsAt w v l) (env : Env w) :
    Calls Tryz.prog 10 #[v,.agg #[.int .i64 d,.int .i64 b],.int .i64 t] w fun e w' => e = .returned (.bool (true)) ∧ Below w.heap.size w w':=by
  have ENV:=Lib.hid env;clear env
  have hal:=(Below.refl w.heap.size w).alloc (Nat.le_refl _) (.cells #[.int .i64 d,.int .i64 b] 23)
  have HV:=Lib.hid (HndsAt.kept hv hal);have HB:=Lib.hid hal;clear hal hv
  have HP:=Lib.hid (Blk.new w 23 #[.int .i64 d,.int .i64 b])
  obtain ⟨p0,p1,pf0,pf1⟩:=HP.out.c2
  have haw:=fun W (e:Env W) => l29_awake W e
  have hfa:=fun W (h:HndsAt W v l) => r29_few l v W h
  by_cases hf:fewH l = true
  · have ht:=fewH_thou hf
    have hln:l.length ≤ 1000000:=by have:=fewH_len hf;omega
    have hlo:(entsL l).length ≤ 1000000:=by unfold entsL;split;(rw [List.length_map];exact hln);exact Nat.zero_le _
    have g1:=fun W (e:Env W) (h:HndsAt W v l) => own_pfind l v d b W h ht e
    have g2:=fun W (h:HndsAt W v l) => r29_find l v d b W h ht
    have g3:=fun W (e:Env W) (h:HndsAt W v l) => own_pentries l v W h ht e
    have g4:=fun W (h:HndsAt W v l) => r29_entries l v W h ht
    have g5:=fun W (e:Env W) (h:HndsAt W v l) => own_pdone l v t W h ht e
    have g6:=fun W (h:HndsAt W v l) => r29_done l v t W h ht
    have g7:=fun W (e:Env W) (h:HndsAt W v l) => own_pcheck l v W h ht e
    have g8:=fun W (h:HndsAt W v l) => r29_check l v W h ht
    have g9:=fun W (h:HndsAt W v l) => own_psame l l v v W h h hln hln
    rw [decide_eq_true rfl] at g9
    unfold EntP at g3 g4
    generalize entsL l = L at *
    have ga:=fun W v1 v2 (h1:EntsAt W v1 L) (h2:EntsAt W v2 L) => r15_sameents L L v1 v2 W h1 h2 hlo
    rw [decide_eq_true rfl] at ga
    rw [hf] at hfa
    generalize ordP 256 hndE Hnd.ky l = m1 at *
    generalize hnsE l = m2 at *
    generalize finT l (d,b) = T1 at *
    obtain ⟨a1,a2,a3⟩:=T1
    generalize donT l t = T2 at *
    obtain ⟨d1,d2⟩:=T2
    dsimp only at g1 g2 g5 g6
    clear hf ht hln hlo
    have HAW:=Lib.hid haw;clear haw
    have HFA:=Lib.hid hfa;clear hfa
    have G1:=Lib.hid g1;clear g1
    have G2:=Lib.hid g2;clear g2
    have G3:=Lib.hid g3;clear g3
    have G4:=Lib.hid g4;clear g4
    have G5:=Lib.hid g5;clear g5
    have G6:=Lib.hid g6;clear g6
    have G7:=Lib.hid g7;clear g7
    have G8:=Lib.hid g8;clear g8
    have G9:=Lib.hid g9;clear g9
    have GA:=Lib.hid ga;clear ga
    go_enter Tryz.func10,Tryz.ntmps10
    go_upto_region 9 with (first | (with_reducible refine ((HFA.out _ HV.out).mono ?_);rintro e w' ⟨rfl,rfl⟩) | (with_reducible refine ((G1.out _ (ENV.out.below HB.out) HV.out).mono ?_);rintro e w' ⟨rfl,hb⟩;replace HP:=Lib.hid (HP.out.keep hb);clear p0 p1 pf0 pf1;replace HV:=Lib.hid (HndsAt.kept HV.out hb);replace HB:=Lib.hid (bch' HB.out hb);clear hb;obtain ⟨p0,p1,pf0,pf1⟩:=HP.out.c2) | (with_reducible refine ((G2.out _ HV.out).mono ?_);rintro e w' ⟨rfl,hb⟩;replace HP:=Lib.hid (HP.out.keep hb);clear p0 p1 pf0 pf1;replace HV:=Lib.hid (HndsAt.kept HV.out hb);replace HB:=Lib.hid (bch' HB.out hb);clear hb;obtain ⟨p0,p1,pf0,pf1⟩:=HP.out.c2) | ((with_reducible refine ((G3.out _ (ENV.out.below HB.out) HV.out).mono ?_));rintro e w' ⟨v1,rfl,hv9,hb⟩;have HM:=Lib.hid hv9;clear hv9;replace HP:=Lib.hid (HP.out.keep hb);clear p0 p1 pf0 pf1;replace HV:=Lib.hid (HndsAt.kept HV.out hb);replace HB:=Lib.hid (bch' HB.out hb);clear hb;obtain ⟨p0,p1,pf0,pf1⟩:=HP.out.c2) | ((with_reducible refine ((G4.out _ HV.out).mono ?_));rintro e w' ⟨v2,rfl,hv9,hb⟩;have HN:=Lib.hid hv9;clear hv9;replace HP:=Lib.hid (HP.out.keep hb);clear p0 p1 pf0 pf1;replace HV:=Lib.hid (HndsAt.kept HV.out hb);replace HM:=Lib.hid (EntsAt.kept HM.out hb);replace HB:=Lib.hid (bch' HB.out hb);clear hb;obtain ⟨p0,p1,pf0,pf1⟩:=HP.out.c2) | (with_reducible refine ((G5.out _ (ENV.out.below HB.out) HV.out).mono ?_);rintro e w' ⟨rfl,hb⟩;replace HP:=Lib.hid (HP.out.keep hb);clear p0 p1 pf0 pf1;replace HV:=Lib.hid (HndsAt.kept HV.out hb);replace HM:=Lib.hid (EntsAt.kept HM.out hb);replace HN:=Lib.hid (EntsAt.kept HN.out hb);replace HB:=Lib.hid (bch' HB.out hb);clear hb;obtain ⟨p0,p1,pf0,pf1⟩:=HP.out.c2) | (with_reducible refine ((G6.out _ HV.out).mono ?_);rintro e w' ⟨rfl,hb⟩;replace HP:=Lib.hid (HP.out.keep hb);clear p0 p1 pf0 pf1;replace HV:=Lib.hid (HndsAt.kept HV.out hb);replace HM:=Lib.hid (EntsAt.kept HM.out hb);replace HN:=Lib.hid (EntsAt.kept HN.out hb);replace HB:=Lib.hid (bch' HB.out hb);clear hb;obtain ⟨p0,p1,pf0,pf1⟩:=HP.out.c2))
    go_wp2_with (first | (with_reducible refine ((HAW.out _ (ENV.out.below HB.out)).mono ?_);rintro e w' ⟨rfl,hb⟩;replace HP:=Lib.hid (HP.out.keep hb);clear p0 p1 pf0 pf1;replace HV:=Lib.hid (HndsAt.kept HV.out hb);replace HM:=Lib.hid (EntsAt.kept HM.out hb);replace HN:=Lib.hid (EntsAt.kept HN.out hb);replace HB:=Lib.hid (bch' HB.out hb);clear hb;obtain ⟨p0,p1,pf0,pf1⟩:=HP.out.c2) | (with_reducible refine ((G7.out _ (ENV.out.below HB.out) HV.out).mono ?_);rintro e w' ⟨rfl,hb⟩;replace HP:=Lib.hid (HP.out.keep hb);clear p0 p1 pf0 pf1;replace HV:=Lib.hid (HndsAt.kept HV.out hb);replace HM:=Lib.hid (EntsAt.kept HM.out hb);replace HN:=Lib.hid (EntsAt.kept HN.out hb);replace HB:=Lib.hid (bch' HB.out hb);clear hb;obtain ⟨p0,p1,pf0,pf1⟩:=HP.out.c2) | (with_reducible refine ((G8.out _ HV.out).mono ?_);rintro e w' ⟨rfl,hb⟩;replace HP:=Lib.hid (HP.out.keep hb);clear p0 p1 pf0 pf1;replace HV:=Lib.hid (HndsAt.kept HV.out hb);replace HM:=Lib.hid (EntsAt.kept HM.out hb);replace HN:=Lib.hid (EntsAt.kept HN.out hb);replace HB:=Lib.hid (bch' HB.out hb);clear hb;obtain ⟨p0,p1,pf0,pf1⟩:=HP.out.c2) | (with_reducible refine ((G9.out _ HV.out).mono ?_);rintro e w' ⟨rfl,hb⟩;replace HP:=Lib.hid (HP.out.keep hb);clear p0 p1 pf0 pf1;replace HV:=Lib.hid (HndsAt.kept HV.out hb);replace HM:=Lib.hid (EntsAt.kept HM.out hb);replace HN:=Lib.hid (EntsAt.kept HN.out hb);replace HB:=Lib.hid (bch' HB.out hb);clear hb;obtain ⟨p0,p1,pf0,pf1⟩:=HP.out.c2) | (with_reducible refine ((GA.out _ _ _ HM.out HN.out).mono ?_);rintro e w' ⟨rfl,hb⟩;replace HP:=Lib.hid (HP.out.keep hb);clear p0 p1 pf0 pf1;replace HV:=Lib.hid (HndsAt.kept HV.out hb);replace HM:=Lib.hid (EntsAt.kept HM.out hb);replace HN:=Lib.hid (EntsAt.kept HN.out hb);replace HB:=Lib.hid (bch' HB.out hb);clear hb;obtain ⟨p0,p1,pf0,pf1⟩:=HP.out.c2))
    go_ret
    exact ⟨by first | rfl | simp,HB.out⟩
  · have hf:fewH l = false:=by simpa using hf
    rw [hf] at hfa
    clear hf
    have HAW:=Lib.hid haw;clear haw
    have HFA:=Lib.hid hfa;clear hfa
    go_enter Tryz.func10,Tryz.ntmps10
    go_wp2_with (first | (with_reducible refine ((HFA.out _ HV.out).mono ?_);rintro e w' ⟨rfl,rfl⟩) | (with_reducible refine ((HAW.out _ (ENV.out.below HB.out)).mono ?_);rintro e w' ⟨rfl,hb⟩;replace HP:=Lib.hid (HP.out.keep hb);clear p0 p1 pf0 pf1;replace HV:=Lib.hid (HndsAt.kept HV.out hb);replace HB:=Lib.hid (bch' HB.out hb);clear hb;obtain ⟨p0,p1,pf0,pf1⟩:=HP.out.c2))
    go_ret
    exact ⟨rfl,HB.out⟩
end Go.Proofs.YtknlohmkachbmaaGreatDoor
set_option maxRecDepth 100000
set_option maxHeartbeats 8000000
namespace Lum
open Go Go.RowKit Go.Shelf
open Go.Lib (decDigits itoa)
def fewEn (es:List Ent):Bool:=decide (es.length ≤ 200) || decide (4096 < es.length)
def fewX (es:List Ent) (now:List Amt):Bool:=fewEn es && (decide (now.length ≤ 300) && !(now.any (fun y => decide (60 < y.le.length))))
theorem fewX_parts {es:List Ent} {now:List Amt} (h:fewX es now = true):(es.length ≤ 200 ∨ 4096 < es.length) ∧ now.length ≤ 300 ∧ ∀ y ∈ now,y.le.length ≤ 60:=by
  unfold fewX fewEn at h
  simp only [Bool.and_eq_true,Bool.or_eq_true,decide_eq_true_eq,Bool.not_eq_true'] at h
  obtain ⟨h1,h2,h3⟩:=h
  refine ⟨h1,h2,fun y hy => ?_⟩
  have:=List.any_eq_false.1 h3 y hy
  simp only [decide_eq_true_eq] at this
  omega
def ordV (t ti:Int) (p1:Option Addr) (n1 c1:Nat) (p2:Option Addr) (n2 c2:Nat):Value:=.agg #[.int .i64 t,.int .i64 ti,.slice p1 n1 c1,.slice p2 n2 c2]
theorem setO_len (l:List Hnd) (t:Int) (es:List Ent) (ti:Int) (now:List Amt):(setO l t es ti now).length ≤ 1000000:=by
  unfold setO
  by_cases h:setE l t es ti now = 0
  · rw [if_pos h]
    by_cases h1:askE l t es ti now = 0
    · by_cases h2:256 < (setL l t es ti now).length
      · rw [setE_many h1 h2] at h;cases h
      · omega
    · rw [setE_ask h1] at h;exact absurd h h1
  · rw [if_neg h];exact Nat.zero_le _
def rgtB (l:List Hnd) (t ti:Int) (es:List Ent) (now:List Amt):Bool:=fewH l && (fewX es now && (decide (hnsE l = 0) && decide (setE l t es ti now = 0)))
theorem rgtB_parts {l:List Hnd} {t ti:Int} {es:List Ent} {now:List Amt} (h:rgtB l t ti es now = true):fewH l = true ∧ fewX es now = true ∧ hnsE l = 0 ∧ setE l t es ti now = 0:=by
  unfold rgtB at h
  simp only [Bool.and_eq_true,decide_eq_true_eq] at h
  exact ⟨h.1,h.2.1,h.2.2.1,h.2.2.2⟩
end Lum
namespace Go.Proofs.YtknlohmkachbmaaGreatDoor
open Go.RowKit Go.Shelf Lum
open Go.Lib (decDigits itoa)
attribute [local go_sem] bs_get bs_extract_end bs_extract_from bs_extract bs_append
theorem r15_fewents (es : List Ent) (u : Value) (w : World) (hu : EntsAt w u es) :
    Calls Tryz.prog 42 #[u] w fun e w' => e = .returned (.bool (fewEn es)) ∧ w = w':=by
  obtain ⟨p,c,rfl,-⟩:=hu
  by_cases h1:es.length ≤ 200
  · have g1:(es.length:Int) ≤ 200:=by omega
    have HE:Hid (fewEn es = true):=Lib.hid (by unfold fewEn;rw [decide_eq_true h1];rfl)
    go_enter Tryz.func42,Tryz.ntmps42
    go_wp2_with fail
    go_ret
    exact ⟨by first | (rw [HE.out];done) | (rw [HE.out];rfl),rfl⟩
  · by_cases h2:4096 < es.length
    · have g1:¬ (es.length:Int) ≤ 200:=by omega
      have g2:(4096:Int) < (es.length:Int):=by omega
      have HE:Hid (fewEn es = true):=Lib.hid (by unfold fewEn;rw [decide_eq_false h1,decide_eq_true h2];rfl)
      go_enter Tryz.func42,Tryz.ntmps42
      go_wp2_with fail
      go_ret
      exact ⟨by first | (rw [HE.out];done) | (rw [HE.out];rfl),rfl⟩
    · have g1:¬ (es.length:Int) ≤ 200:=by omega
      have g2:¬ (4096:Int) < (es.length:Int):=by omega
      have HE:Hid (fewEn es = false):=Lib.hid (by unfold fewEn;rw [decide_eq_false h1,decide_eq_false h2];rfl)
      go_enter Tryz.func42,Tryz.ntmps42
      go_wp2_with fail
      go_ret
      exact ⟨by first | (rw [HE.out];done) | (rw [HE.out];rfl),rfl⟩
theorem cl_few (x : Amt) (w : World) :
    Calls Tryz.prog 64 #[.agg #[.int .i64 x.ch,.int .i64 x.at_,.string ⟨(x.le).toArray⟩]] w fun e w' => e = .returned (.bool (decide (60 < x.le.length))) ∧ Below w.heap.size w w':=by
  by_cases h:60 < x.le.length
  · have g1:(60:Int) < (x.le.length:Int):=by omega
    have HE:Hid (decide (60 < x.le.length) = true):=Lib.hid (decide_eq_true h)
    have HK:=Lib.hid (Blk.new w 63 #[.int .i64 x.ch,.int .i64 x.at_,.string ⟨(x.le).toArray⟩])
    have HB:=Lib.hid ((Below.refl w.heap.size w).alloc (Nat.le_refl _) (.cells #[.int .i64 x.ch,.int .i64 x.at_,.string ⟨(x.le).toArray⟩] 63))
    obtain ⟨k0,k1,k2,kf0,kf1,kf2⟩:=HK.out.c3
    go_enter Tryz.func64,Tryz.ntmps64
    go_wp2_with fail
    go_ret
    exact ⟨by first | rfl | (rw [HE.out];done) | (rw [HE.out];rfl),HB.out⟩
  · have g1:¬ (60:Int) < (x.le.length:Int):=by omega
    have HE:Hid (decide (60 < x.le.length) = false):=Lib.hid (decide_eq_false h)
    have HK:=Lib.hid (Blk.new w 63 #[.int .i64 x.ch,.int .i64 x.at_,.string ⟨(x.le).toArray⟩])
    have HB:=Lib.hid ((Below.refl w.heap.size w).alloc (Nat.le_refl _) (.cells #[.int .i64 x.ch,.int .i64 x.at_,.string ⟨(x.le).toArray⟩] 63))
    obtain ⟨k0,k1,k2,kf0,kf1,kf2⟩:=HK.out.c3
    go_enter Tryz.func64,Tryz.ntmps64
    go_wp2_with fail
    go_ret
    exact ⟨by first | rfl | (rw [HE.out];done) | (rw [HE.out];rfl),HB.out⟩
theorem amt0_index (M : FuncId) (l : List Amt) (pr : Amt → Bool) (pp : Option Addr) (cc base : Nat) (w : World) (hR : RowX encAm 3 w pp l) (hbase : base ≤ w.heap.size) (hn : l.length ≤ 1000000) (hF : ∀ args w, (callFunc M args).run Tryz.prog w = .ok (.enter M args) w)
    (hcm:∀ x ∈ l,∀ W,Below base w W → Calls Tryz.prog M #[.agg #[.int .i64 x.ch,.int .i64 x.at_,.string ⟨(x.le).toArray⟩]] W fun e w' => e = .returned (.bool (pr x)) ∧ Below W.heap.size W w') :
    Calls Tryz.prog 110 #[.slice pp l.length cc,.func (.func M) #[] #[]] w fun e w' => e = .returned (.int .i64 (ixOf pr l)) ∧ Below w.heap.size w w':=by
  have hv2:=Lib.hid hR;clear hR
  have hcc:=Lib.hid hcm;clear hcm
  have HB:=Lib.hid (Below.refl w.heap.size w)
  go_enter Tryz.func110,Tryz.ntmps110
  go_wp2_with fail
  go_loopw [8] (fun s8 wr => ∃ i r:Nat,s8 = .int .i64 (i:Int) ∧ Hid (i + r = l.length) ∧ Hid (Below w.heap.size w wr) ∧ Hid (∀ j (hj:j < l.length),j < i → pr (l[j]'hj) = false)) (fun s8 _ => l.length - (intOf s8).toNat)
  case atStart => exact ⟨0,l.length,rfl,Lib.hid (by omega),HB,Lib.hid (fun j hj h => absurd h (Nat.not_lt_zero _))⟩
  case round =>
    clear HB
    obtain ⟨i,r,rfl,hkr,HB,HN⟩:=hrel
    cases r with
    | zero =>
      have hlt:¬ (i:Int) < (l.length:Int):=by have:=hkr.out;omega
      have HR:Hid (ixOf pr l = -1):=Lib.hid (ixOf_no fun j hj => HN.out j hj (by have:=hkr.out;omega))
      go_wp2_with fail
      go_ret
      exact ⟨by rw [HR.out];rfl,HB.out⟩
    | succ r =>
      have hkl:i < l.length:=by have:=hkr.out;omega
      have hlt:(i:Int) < (l.length:Int):=by omega
      have hi0:(0:Int) ≤ (i:Int):=by omega
      have hun:IntKind.i64.wrap ((i:Int) + 1) = (i:Int) + 1:=IntWalk.i64_in _ (by omega)
      obtain ⟨b,o,rfl,hb,hC⟩:=hv2.out (fun h => by subst h;exact absurd hkl (Nat.not_lt_zero _))
      obtain ⟨x,hx⟩:∃ x,x = l[i]'hkl:=⟨_,rfl⟩
      have hcell:=hC i hkl
      rw [← hx] at hcell
      have x0:wr.cell? ⟨b,o + i * 3,none⟩ = some (.int .i64 x.ch):=(HB.out.cell (p:=⟨b,o + i * 3 + 0,none⟩) hb).trans (hcell 0 _ rfl)
      have x1:wr.cell? ⟨b,o + i * 3 + 1,none⟩ = some (.int .i64 x.at_):=(HB.out.cell (p:=⟨b,o + i * 3 + 1,none⟩) hb).trans (hcell 1 _ rfl)
      have x2:wr.cell? ⟨b,o + i * 3 + 2,none⟩ = some (.string ⟨(x.le).toArray⟩):=(HB.out.cell (p:=⟨b,o + i * 3 + 2,none⟩) hb).trans (hcell 2 _ rfl)
      have hcm:=hcc.out x (by rw [hx];exact List.getElem_mem hkl)
      have HBB:=Lib.hid (HB.out.mono hbase)
      have hbr:b < wr.heap.size:=by have:=HB.out.size;omega
      have hlo:i * 3 < 9223372036854775807:=by omega
      have HXE:=Lib.hid hx
      have HCM0:=Lib.hid hcm
      clear hC hcell hb hx hcm
      cases hpx:pr x
      · have HN2:Hid (∀ j (hj:j < l.length),j < i + 1 → pr (l[j]'hj) = false):=Lib.hid (fun j hj h => by by_cases e:j = i;(subst e;rw [← HXE.out];exact hpx);exact HN.out j hj (by omega))
        have hcm:=HCM0.out
        rw [hpx] at hcm
        clear hpx
        have HCM:=Lib.hid hcm;clear hcm
        go_wp2_with (first | (with_reducible refine ((HCM.out _ HBB.out).mono ?_);rintro e w' ⟨rfl,hb⟩;replace HB:=Lib.hid (bch' HB.out hb);clear hb))
        go_roundw
        case rel => exact ⟨i + 1,r,by first | rfl | simp,Lib.hid (by have:=hkr.out;omega),HB,HN2⟩
        case measure => first | (simp [intOf];done) | (simp [intOf];omega)
      · have HR:Hid (ixOf pr l = (i:Int)):=Lib.hid (ixOf_at hkl (by rw [← HXE.out];exact hpx) (fun j hj => HN.out j (by omega) hj))
        have hcm:=HCM0.out
        rw [hpx] at hcm
        clear hpx
        have HCM:=Lib.hid hcm;clear hcm
        go_wp2_with (first | (with_reducible refine ((HCM.out _ HBB.out).mono ?_);rintro e w' ⟨rfl,hb⟩;replace HB:=Lib.hid (bch' HB.out hb);clear hb))
        go_ret
        exact ⟨by rw [HR.out];rfl,HB.out⟩
theorem amt0_contains (M : FuncId) (l : List Amt) (pr : Amt → Bool) (pp : Option Addr) (cc base : Nat) (w : World) (hR : RowX encAm 3 w pp l) (hbase : base ≤ w.heap.size) (hn : l.length ≤ 1000000) (hF : ∀ args w, (callFunc M args).run Tryz.prog w = .ok (.enter M args) w)
    (hcm:∀ x ∈ l,∀ W,Below base w W → Calls Tryz.prog M #[.agg #[.int .i64 x.ch,.int .i64 x.at_,.string ⟨(x.le).toArray⟩]] W fun e w' => e = .returned (.bool (pr x)) ∧ Below W.heap.size W w') :
    Calls Tryz.prog 63 #[.slice pp l.length cc,.func (.func M) #[] #[]] w fun e w' => e = .returned (.bool (l.any pr)) ∧ Below w.heap.size w w':=by
  have h:=amt0_index M  l pr pp cc base w hR hbase hn hF hcm
  have hd:decide ((0:Int) ≤ ixOf pr l) = l.any pr:=ixOf_has _ _
  generalize ixOf pr l = m at *
  generalize l.any pr = r at *
  have H:=Lib.hid h;have HD:=Lib.hid hd;clear h hcm hF hR hd
  go_enter Tryz.func63,Tryz.ntmps63
  go_wp2_with ((with_reducible refine ((H.out).mono ?_));rintro e w' ⟨rfl,hb⟩;have HB:=Lib.hid hb;clear hb)
  go_ret
  exact ⟨by rw [← HD.out];rfl,HB.out⟩
theorem l29_few (t ti : Int) (es : List Ent) (now : List Amt) (p1 p2 : Option Addr) (c1 c2 : Nat) (w : World) (hu : EntsAt w (.slice p1 es.length c1) es) (hz : AmtsAt w (.slice p2 now.length c2) now) :
    Calls Tryz.prog 19 #[.agg #[.int .i64 t,.int .i64 ti,.slice p1 es.length c1,.slice p2 now.length c2]] w fun e w' => e = .returned (.bool (fewX es now)) ∧ Below w.heap.size w w':=by
  have hal:=(Below.refl w.heap.size w).alloc (Nat.le_refl _) (.cells #[.int .i64 t,.int .i64 ti,.slice p1 es.length c1,.slice p2 now.length c2] 48)
  have HU:=Lib.hid (EntsAt.kept hu hal);have HZ:=Lib.hid (AmtsAt.kept hz hal);have HB:=Lib.hid hal;clear hal hu hz
  have HK:=Lib.hid (Blk.new w 48 #[.int .i64 t,.int .i64 ti,.slice p1 es.length c1,.slice p2 now.length c2])
  obtain ⟨k0,k1,k2,k3,kf0,kf1,kf2,kf3⟩:=HK.out.c4
  have hfe:=fun W (h:EntsAt W (.slice p1 es.length c1) es) => r15_fewents es (.slice p1 es.length c1) W h
  by_cases he:fewEn es = true
  · by_cases hn:now.length ≤ 300
    · rw [he] at hfe
      have g1:(now.length:Int) ≤ 300:=by omega
      have hcf:∀ W,AmtsAt W (.slice p2 now.length c2) now → Calls Tryz.prog 63 #[(.slice p2 now.length c2),.func (.func 64) #[] #[]] W fun e w' => e = .returned (.bool (now.any (fun y => decide (60 < y.le.length)))) ∧ Below W.heap.size W w':=fun W h => by
        obtain ⟨p,c,e9,hR⟩:=h
        injection e9 with e1 e2 e3
        subst e1 e3
        exact amt0_contains 64 now (fun y => decide (60 < y.le.length)) p2 c2 W.heap.size W hR (Nat.le_refl _) (by omega) (enters_of Tryz.func64 (by kernel_rfl) rfl) (fun x hx W2 hW => cl_few x W2)
      have HE:Hid (fewX es now = !(now.any (fun y => decide (60 < y.le.length)))):=Lib.hid (by unfold fewX;rw [he,decide_eq_true hn,Bool.true_and,Bool.true_and])
      clear he hn
      generalize now.any (fun y => decide (60 < y.le.length)) = r at *
      have HFE:=Lib.hid hfe;clear hfe
      have HCF:=Lib.hid hcf;clear hcf
      go_enter Tryz.func19,Tryz.ntmps19
      go_wp2_with (first | (with_reducible refine ((HFE.out _ HU.out).mono ?_);rintro e w' ⟨rfl,rfl⟩) | (with_reducible refine ((HCF.out _ HZ.out).mono ?_);rintro e w' ⟨rfl,hb⟩;replace HK:=Lib.hid (HK.out.keep hb);clear k0 k1 k2 k3 kf0 kf1 kf2 kf3;replace HU:=Lib.hid (EntsAt.kept HU.out hb);replace HZ:=Lib.hid (AmtsAt.kept HZ.out hb);replace HB:=Lib.hid (bch' HB.out hb);clear hb;obtain ⟨k0,k1,k2,k3,kf0,kf1,kf2,kf3⟩:=HK.out.c4))
      go_ret
      exact ⟨by first | (rw [HE.out];done) | (rw [HE.out];rfl),HB.out⟩
    · rw [he] at hfe
      have g1:¬ (now.length:Int) ≤ 300:=by omega
      have HE:Hid (fewX es now = false):=Lib.hid (by unfold fewX;rw [decide_eq_false hn,Bool.false_and,Bool.and_false])
      clear he hn
      have HFE:=Lib.hid hfe;clear hfe
      go_enter Tryz.func19,Tryz.ntmps19
      go_wp2_with (first | (with_reducible refine ((HFE.out _ HU.out).mono ?_);rintro e w' ⟨rfl,rfl⟩))
      go_ret
      exact ⟨by first | (rw [HE.out];done) | (rw [HE.out];rfl),HB.out⟩
  · have he:fewEn es = false:=by simpa using he
    rw [he] at hfe
    have HE:Hid (fewX es now = false):=Lib.hid (by unfold fewX;rw [he,Bool.false_and])
    clear he
    have HFE:=Lib.hid hfe;clear hfe
    go_enter Tryz.func19,Tryz.ntmps19
    go_wp2_with (first | (with_reducible refine ((HFE.out _ HU.out).mono ?_);rintro e w' ⟨rfl,rfl⟩))
    go_ret
    exact ⟨by first | (rw [HE.out];done) | (rw [HE.out];rfl),HB.out⟩
theorem law_psets (l : List Hnd) (v : Value) (t ti : Int) (es : List Ent) (now : List Amt) (p1 p2 : Option Addr) (c1 c2 : Nat) (w : World) (hv : HndsAt w v l) (hu : EntsAt w (.slice p1 es.length c1) es) (hz : AmtsAt w (.slice p2 now.length c2) now) (env : Env w) :
    Calls Tryz.prog 5 #[v,.agg #[.int .i64 t,.int .i64 ti,.slice p1 es.length c1,.slice p2 now.length c2]] w fun e w' => e = .returned (.bool (true)) ∧ Below w.heap.size w w':=by
  have ENV:=Lib.hid env;clear env
  have hal:=(Below.refl w.heap.size w).alloc (Nat.le_refl _) (.cells #[.int .i64 t,.int .i64 ti,.slice p1 es.length c1,.slice p2 now.length c2] 48)
  have HV:=Lib.hid (HndsAt.kept hv hal);have HU:=Lib.hid (EntsAt.kept hu hal);have HZ:=Lib.hid (AmtsAt.kept hz hal);have HB:=Lib.hid hal;clear hal hv hu hz
  have HK:=Lib.hid (Blk.new w 48 #[.int .i64 t,.int .i64 ti,.slice p1 es.length c1,.slice p2 now.length c2])
  obtain ⟨k0,k1,k2,k3,kf0,kf1,kf2,kf3⟩:=HK.out.c4
  have haw:=fun W (e:Env W) => l29_awake W e
  have hfa:=fun W (h:HndsAt W v l) => r29_few l v W h
  have hfx:=fun W (h1:EntsAt W (.slice p1 es.length c1) es) (h2:AmtsAt W (.slice p2 now.length c2) now) => l29_few t ti es now p1 p2 c1 c2 W h1 h2
  by_cases hf:fewH l = true
  · by_cases hx:fewX es now = true
    · obtain ⟨-,hx2,hx3⟩:=fewX_parts hx
      have hlen:∀ y ∈ now,y.le.length ≤ 1000:=fun y hy => by have:=hx3 y hy;omega
      have h1:=fun W (e:Env W) (h1:HndsAt W v l) (h2:EntsAt W (.slice p1 es.length c1) es) (h3:AmtsAt W (.slice p2 now.length c2) now) => own_pset l t es ti now v (.slice p1 es.length c1) (.slice p2 now.length c2) W h1 h2 h3 (fewH_thou hf) (by omega) hlen e
      have h2:=fun W (h1:HndsAt W v l) (h2:EntsAt W (.slice p1 es.length c1) es) (h3:AmtsAt W (.slice p2 now.length c2) now) => r29_set l t es ti now v (.slice p1 es.length c1) (.slice p2 now.length c2) W h1 h2 h3 (fewH_thou hf) (by omega) hlen
      have hle:=setO_len l t es ti now
      generalize setO l t es ti now = L at *
      generalize setE l t es ti now = m at *
      have hsa:=fun W v1 v2 (h1:HndsAt W v1 L) (h2:HndsAt W v2 L) => r29_same L L v1 v2 W h1 h2 hle
      rw [decide_eq_true rfl] at hsa
      unfold SetP at h1 h2
      rw [hf] at hfa
      rw [hx] at hfx
      clear hf hx hle hx2 hx3 hlen
      have HAW:=Lib.hid haw;clear haw
      have HFA:=Lib.hid hfa;clear hfa
      have HFX:=Lib.hid hfx;clear hfx
      have H1:=Lib.hid h1;clear h1
      have H2:=Lib.hid h2;clear h2
      have HSA:=Lib.hid hsa;clear hsa
      go_enter Tryz.func5,Tryz.ntmps5
      go_wp2_with (first | (with_reducible refine ((HFA.out _ HV.out).mono ?_);rintro e w' ⟨rfl,rfl⟩) | (with_reducible refine ((HFX.out _ HU.out HZ.out).mono ?_);rintro e w' ⟨rfl,hb⟩;replace HK:=Lib.hid (HK.out.keep hb);clear k0 k1 k2 k3 kf0 kf1 kf2 kf3;replace HV:=Lib.hid (HndsAt.kept HV.out hb);replace HU:=Lib.hid (EntsAt.kept HU.out hb);replace HZ:=Lib.hid (AmtsAt.kept HZ.out hb);replace HB:=Lib.hid (bch' HB.out hb);clear hb;obtain ⟨k0,k1,k2,k3,kf0,kf1,kf2,kf3⟩:=HK.out.c4) | ((with_reducible refine ((H1.out _ (ENV.out.below HB.out) HV.out HU.out HZ.out).mono ?_));rintro e w' ⟨v_hv1,rfl,hv9,hb⟩;have HV1:=Lib.hid hv9;clear hv9;replace HK:=Lib.hid (HK.out.keep hb);clear k0 k1 k2 k3 kf0 kf1 kf2 kf3;replace HV:=Lib.hid (HndsAt.kept HV.out hb);replace HU:=Lib.hid (EntsAt.kept HU.out hb);replace HZ:=Lib.hid (AmtsAt.kept HZ.out hb);replace HB:=Lib.hid (bch' HB.out hb);clear hb;obtain ⟨k0,k1,k2,k3,kf0,kf1,kf2,kf3⟩:=HK.out.c4) | ((with_reducible refine ((H2.out _ HV.out HU.out HZ.out).mono ?_));rintro e w' ⟨v_hv2,rfl,hv9,hb⟩;have HV2:=Lib.hid hv9;clear hv9;replace HK:=Lib.hid (HK.out.keep hb);clear k0 k1 k2 k3 kf0 kf1 kf2 kf3;replace HV:=Lib.hid (HndsAt.kept HV.out hb);replace HU:=Lib.hid (EntsAt.kept HU.out hb);replace HZ:=Lib.hid (AmtsAt.kept HZ.out hb);replace HV1:=Lib.hid (HndsAt.kept HV1.out hb);replace HB:=Lib.hid (bch' HB.out hb);clear hb;obtain ⟨k0,k1,k2,k3,kf0,kf1,kf2,kf3⟩:=HK.out.c4) | (with_reducible refine ((HAW.out _ (ENV.out.below HB.out)).mono ?_);rintro e w' ⟨rfl,hb⟩;replace HK:=Lib.hid (HK.out.keep hb);clear k0 k1 k2 k3 kf0 kf1 kf2 kf3;replace HV:=Lib.hid (HndsAt.kept HV.out hb);replace HU:=Lib.hid (EntsAt.kept HU.out hb);replace HZ:=Lib.hid (AmtsAt.kept HZ.out hb);replace HV1:=Lib.hid (HndsAt.kept HV1.out hb);replace HV2:=Lib.hid (HndsAt.kept HV2.out hb);replace HB:=Lib.hid (bch' HB.out hb);clear hb;obtain ⟨k0,k1,k2,k3,kf0,kf1,kf2,kf3⟩:=HK.out.c4) | (with_reducible refine ((HSA.out _ _ _ HV1.out HV2.out).mono ?_);rintro e w' ⟨rfl,hb⟩;replace HK:=Lib.hid (HK.out.keep hb);clear k0 k1 k2 k3 kf0 kf1 kf2 kf3;replace HV:=Lib.hid (HndsAt.kept HV.out hb);replace HU:=Lib.hid (EntsAt.kept HU.out hb);replace HZ:=Lib.hid (AmtsAt.kept HZ.out hb);replace HV1:=Lib.hid (HndsAt.kept HV1.out hb);replace HV2:=Lib.hid (HndsAt.kept HV2.out hb);replace HB:=Lib.hid (bch' HB.out hb);clear hb;obtain ⟨k0,k1,k2,k3,kf0,kf1,kf2,kf3⟩:=HK.out.c4))
      go_ret
      exact ⟨by first | rfl | simp,HB.out⟩
    · have hx:fewX es now = false:=by simpa using hx
      rw [hf] at hfa
      rw [hx] at hfx
      clear hf hx
      have HAW:=Lib.hid haw;clear haw
      have HFA:=Lib.hid hfa;clear hfa
      have HFX:=Lib.hid hfx;clear hfx
      go_enter Tryz.func5,Tryz.ntmps5
      go_wp2_with (first | (with_reducible refine ((HFA.out _ HV.out).mono ?_);rintro e w' ⟨rfl,rfl⟩) | (with_reducible refine ((HFX.out _ HU.out HZ.out).mono ?_);rintro e w' ⟨rfl,hb⟩;replace HK:=Lib.hid (HK.out.keep hb);clear k0 k1 k2 k3 kf0 kf1 kf2 kf3;replace HV:=Lib.hid (HndsAt.kept HV.out hb);replace HU:=Lib.hid (EntsAt.kept HU.out hb);replace HZ:=Lib.hid (AmtsAt.kept HZ.out hb);replace HB:=Lib.hid (bch' HB.out hb);clear hb;obtain ⟨k0,k1,k2,k3,kf0,kf1,kf2,kf3⟩:=HK.out.c4) | (with_reducible refine ((HAW.out _ (ENV.out.below HB.out)).mono ?_);rintro e w' ⟨rfl,hb⟩;replace HK:=Lib.hid (HK.out.keep hb);clear k0 k1 k2 k3 kf0 kf1 kf2 kf3;replace HV:=Lib.hid (HndsAt.kept HV.out hb);replace HU:=Lib.hid (EntsAt.kept HU.out hb);replace HZ:=Lib.hid (AmtsAt.kept HZ.out hb);replace HB:=Lib.hid (bch' HB.out hb);clear hb;obtain ⟨k0,k1,k2,k3,kf0,kf1,kf2,kf3⟩:=HK.out.c4))
      go_ret
      exact ⟨rfl,HB.out⟩
  · have hf:fewH l = false:=by simpa using hf
    rw [hf] at hfa
    clear hf
    have HAW:=Lib.hid haw;clear haw
    have HFA:=Lib.hid hfa;clear hfa
    go_enter Tryz.func5,Tryz.ntmps5
    go_wp2_with (first | (with_reducible refine ((HFA.out _ HV.out).mono ?_);rintro e w' ⟨rfl,rfl⟩) | (with_reducible refine ((HAW.out _ (ENV.out.below HB.out)).mono ?_);rintro e w' ⟨rfl,hb⟩;replace HK:=Lib.hid (HK.out.keep hb);clear k0 k1 k2 k3 kf0 kf1 kf2 kf3;replace HV:=Lib.hid (HndsAt.kept HV.out hb);replace HU:=Lib.hid (EntsAt.kept HU.out hb);replace HZ:=Lib.hid (AmtsAt.kept HZ.out hb);replace HB:=Lib.hid (bch' HB.out hb);clear hb;obtain ⟨k0,k1,k2,k3,kf0,kf1,kf2,kf3⟩:=HK.out.c4))
    go_ret
    exact ⟨rfl,HB.out⟩
theorem l29_right (l : List Hnd) (v : Value) (t ti : Int) (es : List Ent) (now : List Amt) (p1 p2 : Option Addr) (c1 c2 : Nat) (w : World) (hv : HndsAt w v l) (hu : EntsAt w (.slice p1 es.length c1) es) (hz : AmtsAt w (.slice p2 now.length c2) now) :
    Calls Tryz.prog 23 #[v,.agg #[.int .i64 t,.int .i64 ti,.slice p1 es.length c1,.slice p2 now.length c2]] w fun e w' => e = .returned (.bool (rgtB l t ti es now)) ∧ Below w.heap.size w w':=by
  have hal:=(Below.refl w.heap.size w).alloc (Nat.le_refl _) (.cells #[.int .i64 t,.int .i64 ti,.slice p1 es.length c1,.slice p2 now.length c2] 48)
  have HV:=Lib.hid (HndsAt.kept hv hal);have HU:=Lib.hid (EntsAt.kept hu hal);have HZ:=Lib.hid (AmtsAt.kept hz hal);have HB:=Lib.hid hal;clear hal hv hu hz
  have HK:=Lib.hid (Blk.new w 48 #[.int .i64 t,.int .i64 ti,.slice p1 es.length c1,.slice p2 now.length c2])
  obtain ⟨k0,k1,k2,k3,kf0,kf1,kf2,kf3⟩:=HK.out.c4
  have hfa:=fun W (h:HndsAt W v l) => r29_few l v W h
  have hfx:=fun W (h1:EntsAt W (.slice p1 es.length c1) es) (h2:AmtsAt W (.slice p2 now.length c2) now) => l29_few t ti es now p1 p2 c1 c2 W h1 h2
  by_cases hf:fewH l = true
  · by_cases hx:fewX es now = true
    · by_cases hc:hnsE l = 0
      · have hck:=fun W (h:HndsAt W v l) => r29_check l v W h (fewH_thou hf)
        change ∀ W,HndsAt W v l → Calls _ _ _ _ (fun e w' => e = .returned (.int .i64 (hnsE l)) ∧ _) at hck
        obtain ⟨-,hx2,hx3⟩:=fewX_parts hx
        have hst:=fun W (h1:HndsAt W v l) (h2:EntsAt W (.slice p1 es.length c1) es) (h3:AmtsAt W (.slice p2 now.length c2) now) => r29_set l t es ti now v (.slice p1 es.length c1) (.slice p2 now.length c2) W h1 h2 h3 (fewH_thou hf) (by omega) (fun y hy => by have:=hx3 y hy;omega)
        unfold SetP at hst
        rw [hc] at hck
        by_cases hs:setE l t es ti now = 0
        · rw [hs] at hst
          have HE:Hid (rgtB l t ti es now = true):=Lib.hid (by unfold rgtB;rw [hf,hx,decide_eq_true hc,decide_eq_true hs];rfl)
          rw [hf] at hfa
          rw [hx] at hfx
          clear hf hx hc hs hx2 hx3
          generalize setO l t es ti now = L at *
          have HFA:=Lib.hid hfa;clear hfa
          have HFX:=Lib.hid hfx;clear hfx
          have HCK:=Lib.hid hck;clear hck
          have HST:=Lib.hid hst;clear hst
          go_enter Tryz.func23,Tryz.ntmps23
          go_wp2_with (first | (with_reducible refine ((HFA.out _ HV.out).mono ?_);rintro e w' ⟨rfl,rfl⟩) | (with_reducible refine ((HFX.out _ HU.out HZ.out).mono ?_);rintro e w' ⟨rfl,hb⟩;replace HK:=Lib.hid (HK.out.keep hb);clear k0 k1 k2 k3 kf0 kf1 kf2 kf3;replace HV:=Lib.hid (HndsAt.kept HV.out hb);replace HU:=Lib.hid (EntsAt.kept HU.out hb);replace HZ:=Lib.hid (AmtsAt.kept HZ.out hb);replace HB:=Lib.hid (bch' HB.out hb);clear hb;obtain ⟨k0,k1,k2,k3,kf0,kf1,kf2,kf3⟩:=HK.out.c4) | (with_reducible refine ((HCK.out _ HV.out).mono ?_);rintro e w' ⟨rfl,hb⟩;replace HK:=Lib.hid (HK.out.keep hb);clear k0 k1 k2 k3 kf0 kf1 kf2 kf3;replace HV:=Lib.hid (HndsAt.kept HV.out hb);replace HU:=Lib.hid (EntsAt.kept HU.out hb);replace HZ:=Lib.hid (AmtsAt.kept HZ.out hb);replace HB:=Lib.hid (bch' HB.out hb);clear hb;obtain ⟨k0,k1,k2,k3,kf0,kf1,kf2,kf3⟩:=HK.out.c4) | ((with_reducible refine ((HST.out _ HV.out HU.out HZ.out).mono ?_));rintro e w' ⟨v9,rfl,hv9,hb⟩;clear hv9;replace HK:=Lib.hid (HK.out.keep hb);clear k0 k1 k2 k3 kf0 kf1 kf2 kf3;replace HV:=Lib.hid (HndsAt.kept HV.out hb);replace HU:=Lib.hid (EntsAt.kept HU.out hb);replace HZ:=Lib.hid (AmtsAt.kept HZ.out hb);replace HB:=Lib.hid (bch' HB.out hb);clear hb;obtain ⟨k0,k1,k2,k3,kf0,kf1,kf2,kf3⟩:=HK.out.c4))
          go_ret
          exact ⟨by first | (rw [HE.out];done) | (rw [HE.out];rfl),HB.out⟩
        · have heq:((setE l t es ti now:Int) == 0) = false:=by rw [beq_eq_false_iff_ne];exact hs
          have HE:Hid (rgtB l t ti es now = false):=Lib.hid (by unfold rgtB;rw [decide_eq_false hs];simp)
          rw [hf] at hfa
          rw [hx] at hfx
          clear hf hx hc hs hx2 hx3
          generalize setO l t es ti now = L at *
          generalize setE l t es ti now = m at *
          have HFA:=Lib.hid hfa;clear hfa
          have HFX:=Lib.hid hfx;clear hfx
          have HCK:=Lib.hid hck;clear hck
          have HST:=Lib.hid hst;clear hst
          go_enter Tryz.func23,Tryz.ntmps23
          go_wp2_with (first | (with_reducible refine ((HFA.out _ HV.out).mono ?_);rintro e w' ⟨rfl,rfl⟩) | (with_reducible refine ((HFX.out _ HU.out HZ.out).mono ?_);rintro e w' ⟨rfl,hb⟩;replace HK:=Lib.hid (HK.out.keep hb);clear k0 k1 k2 k3 kf0 kf1 kf2 kf3;replace HV:=Lib.hid (HndsAt.kept HV.out hb);replace HU:=Lib.hid (EntsAt.kept HU.out hb);replace HZ:=Lib.hid (AmtsAt.kept HZ.out hb);replace HB:=Lib.hid (bch' HB.out hb);clear hb;obtain ⟨k0,k1,k2,k3,kf0,kf1,kf2,kf3⟩:=HK.out.c4) | (with_reducible refine ((HCK.out _ HV.out).mono ?_);rintro e w' ⟨rfl,hb⟩;replace HK:=Lib.hid (HK.out.keep hb);clear k0 k1 k2 k3 kf0 kf1 kf2 kf3;replace HV:=Lib.hid (HndsAt.kept HV.out hb);replace HU:=Lib.hid (EntsAt.kept HU.out hb);replace HZ:=Lib.hid (AmtsAt.kept HZ.out hb);replace HB:=Lib.hid (bch' HB.out hb);clear hb;obtain ⟨k0,k1,k2,k3,kf0,kf1,kf2,kf3⟩:=HK.out.c4) | ((with_reducible refine ((HST.out _ HV.out HU.out HZ.out).mono ?_));rintro e w' ⟨v9,rfl,hv9,hb⟩;clear hv9;replace HK:=Lib.hid (HK.out.keep hb);clear k0 k1 k2 k3 kf0 kf1 kf2 kf3;replace HV:=Lib.hid (HndsAt.kept HV.out hb);replace HU:=Lib.hid (EntsAt.kept HU.out hb);replace HZ:=Lib.hid (AmtsAt.kept HZ.out hb);replace HB:=Lib.hid (bch' HB.out hb);clear hb;obtain ⟨k0,k1,k2,k3,kf0,kf1,kf2,kf3⟩:=HK.out.c4))
          go_ret
          exact ⟨by first | (rw [HE.out];done) | (rw [HE.out];rfl),HB.out⟩
      · have hck:=fun W (h:HndsAt W v l) => r29_check l v W h (fewH_thou hf)
        change ∀ W,HndsAt W v l → Calls _ _ _ _ (fun e w' => e = .returned (.int .i64 (hnsE l)) ∧ _) at hck
        have hne:((hnsE l:Int) != 0) = true:=by simpa using hc
        have HE:Hid (rgtB l t ti es now = false):=Lib.hid (by unfold rgtB;rw [decide_eq_false hc];simp)
        rw [hf] at hfa
        rw [hx] at hfx
        clear hf hx hc
        generalize hnsE l = m at *
        have HFA:=Lib.hid hfa;clear hfa
        have HFX:=Lib.hid hfx;clear hfx
        have HCK:=Lib.hid hck;clear hck
        go_enter Tryz.func23,Tryz.ntmps23
        go_wp2_with (first | (with_reducible refine ((HFA.out _ HV.out).mono ?_);rintro e w' ⟨rfl,rfl⟩) | (with_reducible refine ((HFX.out _ HU.out HZ.out).mono ?_);rintro e w' ⟨rfl,hb⟩;replace HK:=Lib.hid (HK.out.keep hb);clear k0 k1 k2 k3 kf0 kf1 kf2 kf3;replace HV:=Lib.hid (HndsAt.kept HV.out hb);replace HU:=Lib.hid (EntsAt.kept HU.out hb);replace HZ:=Lib.hid (AmtsAt.kept HZ.out hb);replace HB:=Lib.hid (bch' HB.out hb);clear hb;obtain ⟨k0,k1,k2,k3,kf0,kf1,kf2,kf3⟩:=HK.out.c4) | (with_reducible refine ((HCK.out _ HV.out).mono ?_);rintro e w' ⟨rfl,hb⟩;replace HK:=Lib.hid (HK.out.keep hb);clear k0 k1 k2 k3 kf0 kf1 kf2 kf3;replace HV:=Lib.hid (HndsAt.kept HV.out hb);replace HU:=Lib.hid (EntsAt.kept HU.out hb);replace HZ:=Lib.hid (AmtsAt.kept HZ.out hb);replace HB:=Lib.hid (bch' HB.out hb);clear hb;obtain ⟨k0,k1,k2,k3,kf0,kf1,kf2,kf3⟩:=HK.out.c4))
        go_ret
        exact ⟨by first | (rw [HE.out];done) | (rw [HE.out];rfl),HB.out⟩
    · have hx:fewX es now = false:=by simpa using hx
      have HE:Hid (rgtB l t ti es now = false):=Lib.hid (by unfold rgtB;rw [hx];simp)
      rw [hf] at hfa
      rw [hx] at hfx
      clear hf hx
      have HFA:=Lib.hid hfa;clear hfa
      have HFX:=Lib.hid hfx;clear hfx
      go_enter Tryz.func23,Tryz.ntmps23
      go_wp2_with (first | (with_reducible refine ((HFA.out _ HV.out).mono ?_);rintro e w' ⟨rfl,rfl⟩) | (with_reducible refine ((HFX.out _ HU.out HZ.out).mono ?_);rintro e w' ⟨rfl,hb⟩;replace HK:=Lib.hid (HK.out.keep hb);clear k0 k1 k2 k3 kf0 kf1 kf2 kf3;replace HV:=Lib.hid (HndsAt.kept HV.out hb);replace HU:=Lib.hid (EntsAt.kept HU.out hb);replace HZ:=Lib.hid (AmtsAt.kept HZ.out hb);replace HB:=Lib.hid (bch' HB.out hb);clear hb;obtain ⟨k0,k1,k2,k3,kf0,kf1,kf2,kf3⟩:=HK.out.c4))
      go_ret
      exact ⟨by first | (rw [HE.out];done) | (rw [HE.out];rfl),HB.out⟩
  · have hf:fewH l = false:=by simpa using hf
    have HE:Hid (rgtB l t ti es now = false):=Lib.hid (by unfold rgtB;rw [hf];rfl)
    rw [hf] at hfa
    clear hf
    have HFA:=Lib.hid hfa;clear hfa
    go_enter Tryz.func23,Tryz.ntmps23
    go_wp2_with (first | (with_reducible refine ((HFA.out _ HV.out).mono ?_);rintro e w' ⟨rfl,rfl⟩))
    go_ret
    exact ⟨by first | (rw [HE.out];done) | (rw [HE.out];rfl),HB.out⟩
end Go.Proofs.YtknlohmkachbmaaGreatDoor

/-
  
-/
import Derived.Test.YtbeojahilbglcaaGreatDoorQdYg
set_option linter.unusedVariables false
set_option linter.unusedSimpArgs false
set_option maxHeartbeats 4000000
set_option maxRecDepth 100000
namespace Lum
open Go Go.RowKit Go.Shelf
open Go.Lib (decDigits itoa)
theorem inI_get {l:List Int} {i:Nat} (h:i < l.length):l[i]'h = inI l i:=by unfold inI;rw [List.getElem?_eq_getElem h];rfl
theorem has_take {l:List Int} {i k:Nat} (hk:k < i) (hi:i < l.length) (h:inI l k = inI l i):(l.take i).contains (inI l i) = true:=by
  rw [List.contains_iff_mem]
  have hk2:k < (l.take i).length:=by rw [List.length_take];omega
  have:(l.take i)[k]'hk2 = inI l i:=by rw [List.getElem_take,inI_get (by omega)];exact h
  rw [← this];exact List.getElem_mem hk2
theorem no_take {l:List Int} {i:Nat} (hi:i < l.length) (h:∀ k,k < i → inI l k ≠ inI l i):(l.take i).contains (inI l i) = false:=by
  cases hc:(l.take i).contains (inI l i) with
  | false => rfl
  | true =>
    rw [List.contains_iff_mem] at hc
    obtain ⟨k,hk,e⟩:=List.getElem_of_mem hc
    rw [List.length_take] at hk
    rw [List.getElem_take,inI_get (by omega)] at e
    exact absurd e (h k (by omega))
end Lum
namespace Go.Proofs.YtbeojahilbglcaaGreatDoor
open Go.RowKit Go.Shelf Lum
open Go.Lib (decDigits itoa)
attribute [local go_sem] bs_get bs_extract_end bs_extract_from bs_extract bs_append
theorem r23_time (n:Int) (w:World):Calls Tryz.prog 64 #[.int .i64 n] w fun e w' => e = .returned (.bool (wiB n 0 10000000)) ∧ w = w':=by
  by_cases h1:0 ≤ n
  · by_cases h2:n ≤ 10000000
    all_goals
      go_enter Tryz.func64,Tryz.ntmps64
      go_wp2
      go_ret
      exact ⟨ret_bool (by unfold wiB;simp [h1,h2]),rfl⟩
  · go_enter Tryz.func64,Tryz.ntmps64
    go_wp2
    go_ret
    exact ⟨ret_bool (by unfold wiB;simp;omega),rfl⟩
theorem r23_check (E R D L:Int) (w:World):Calls Tryz.prog 84 #[.agg #[.int .i64 E,.int .i64 R,.int .i64 D,.int .i64 L]] w fun e w' => e = .returned (.int .i64 (ckE E R D L)) ∧ Below w.heap.size w w':=by
  have hB:=(Below.refl w.heap.size w).alloc (Nat.le_refl _) (.cells #[.int .i64 E,.int .i64 R,.int .i64 D,.int .i64 L] 66)
  have hrd:=fun W => r23_reading E W
  have htm:=fun W => r23_time L W
  obtain ⟨v,hv⟩:∃ v,v = ckE E R D L:=⟨_,rfl⟩
  rw [← hv]
  unfold ckE ckB at hv
  cases h1:rdB E
  · simp only [h1] at hrd hv
    have HV:Hid (v = 2):=by show _ = _;rw [hv];simp
    have HRD:=Lib.hid hrd
    clear hv hrd htm h1
    go_enter Tryz.func84,Tryz.ntmps84
    go_wp2_with (go_at_call 128;refine (HRD.out _).mono ?_;rintro e w' ⟨rfl,rfl⟩)
    go_ret
    exact ⟨ret_int HV.out.symm,hB⟩
  · simp only [h1] at hrd hv
    have HRD:=Lib.hid hrd;clear hrd h1
    by_cases h2:1 ≤ R ∧ R ≤ 400 ∧ -1 ≤ D ∧ D ≤ 1
    · obtain ⟨g1,g2,g3,g4⟩:=h2
      have w1:wiB R 1 400 = true:=(wiB_iff _ _ _).2 ⟨g1,g2⟩
      have w2:wiB D (-1) 1 = true:=(wiB_iff _ _ _).2 ⟨g3,g4⟩
      rw [w1,w2] at hv
      cases h3:wiB L 0 10000000
      all_goals
        simp only [h3] at htm hv
        have HV:=Lib.hid hv
        have HTM:=Lib.hid htm
        clear hv htm h3 w1 w2
        go_enter Tryz.func84,Tryz.ntmps84
        go_wp2_with (first | (go_at_call 128;refine (HRD.out _).mono ?_;rintro e w' ⟨rfl,rfl⟩) | (go_at_call 64;refine (HTM.out _).mono ?_;rintro e w' ⟨rfl,rfl⟩))
        go_ret
        exact ⟨ret_int (by rw [HV.out];rfl),hB⟩
    · have hv2:v = 2:=by
        rw [hv]
        have:(wiB R 1 400 && wiB D (-1) 1) = false:=by
          simp only [wiB,Bool.and_eq_false_iff,decide_eq_false_iff_not];omega
        simp [Bool.and_assoc,this]
      have HV:=Lib.hid hv2
      clear hv hv2 htm
      rcases (show R < 1 ∨ (¬ R < 1 ∧ 400 < R) ∨ (¬ R < 1 ∧ ¬ 400 < R ∧ D < -1) ∨ (¬ R < 1 ∧ ¬ 400 < R ∧ ¬ D < -1 ∧ 1 < D) by omega) with g | ⟨g,g2⟩ | ⟨g,g2,g3⟩ | ⟨g,g2,g3,g4⟩
      all_goals
        clear h2
        go_enter Tryz.func84,Tryz.ntmps84
        go_wp2_with (go_at_call 128;refine (HRD.out _).mono ?_;rintro e w' ⟨rfl,rfl⟩)
        go_ret
        exact ⟨ret_int HV.out.symm,hB⟩
theorem r28_channels (l : List Int) (v : Value) (w : World) (hv : IntsAt w v l) :
    Calls Tryz.prog 83 #[v] w fun e w' => e = .returned (.int .i64 (chE l)) ∧ Below w.heap.size w w':=by
  obtain ⟨p,c,rfl,hv2⟩:=hv
  have HB:=Lib.hid (Below.refl w.heap.size w)
  by_cases h0:l.length = 0
  · rw [chE_no h0,h0]
    clear hv2
    go_enter Tryz.func83,Tryz.ntmps83
    go_wp2_with fail
    go_ret
    exact ⟨rfl,HB.out⟩
  · have hz1:((l.length:Int) == 0) = false:=by rw [beq_eq_false_iff_ne];omega
    by_cases h1:256 < l.length
    · have hz2:(256:Int) < (l.length:Int):=by omega
      rw [chE_many h1]
      clear hv2
      go_enter Tryz.func83,Tryz.ntmps83
      go_wp2_with fail
      go_ret
      exact ⟨rfl,HB.out⟩
    · have hz2:¬ (256:Int) < (l.length:Int):=by omega
      obtain ⟨b,o,rfl,hb,hC⟩:=hv2 (fun e => h0 (by rw [e];rfl))
      have HC:=Lib.hid hC;have HBb:=Lib.hid hb;clear hC hb hv2
      have HS0:=Lib.hid (chE_few h0 h1).symm
      go_enter Tryz.func83,Tryz.ntmps83
      go_wp2_with fail
      go_loopw [3] (fun s3 wr => ∃ i r:Nat,s3 = .int .i64 (i:Int) ∧ Hid (i + r = l.length) ∧ Hid (Below w.heap.size w wr) ∧ Hid (chF l r i = chE l)) (fun s3 _ => l.length - (intOf s3).toNat)
      case atStart => exact ⟨0,l.length,rfl,Lib.hid (by omega),HB,HS0⟩
      case round =>
        clear HB
        obtain ⟨i,r,rfl,hkr,HB,HS⟩:=hrel
        cases r with
        | zero =>
          have hlt:¬ (i:Int) < (l.length:Int):=by have:=hkr.out;omega
          have HE:Hid (chE l = 0):=Lib.hid (by rw [← HS.out];rfl)
          go_wp2_with fail
          go_ret
          exact ⟨by first | (rw [HE.out];done) | (rw [HE.out];rfl),HB.out⟩
        | succ r =>
          have hkl:i < l.length:=by have:=hkr.out;omega
          have hlt:(i:Int) < (l.length:Int):=by omega
          have hi0:(0:Int) ≤ (i:Int):=by omega
          have hun:IntKind.i64.wrap ((i:Int) + 1) = (i:Int) + 1:=IntWalk.i64_in _ (by omega)
          have x00:=HC.out i hkl
          have x0:wr.cell? ⟨b,o + i,none⟩ = some (.int .i64 (inI l i)):=(HB.out.cell (p:=⟨b,o + i,none⟩) HBb.out).trans x00
          have hbr:b < wr.heap.size:=by have:=HB.out.size;have:=HBb.out;omega
          by_cases o0:inI l i < 1
          · have HE:Hid (chE l = 2):=Lib.hid (by rw [← HS.out,chF_out (by omega)])
            clear HS HC
            generalize inI l i = z at *
            go_wp2_with fail
            go_ret
            exact ⟨by first | (rw [HE.out];done) | (rw [HE.out];rfl),HB.out⟩
          by_cases o1:999 < inI l i
          · have HE:Hid (chE l = 2):=Lib.hid (by rw [← HS.out,chF_out (by omega)])
            clear HS HC
            generalize inI l i = z at *
            go_wp2_with fail
            go_ret
            exact ⟨by first | (rw [HE.out];done) | (rw [HE.out];rfl),HB.out⟩
          have hin:¬ (inI l i < 1 ∨ 999 < inI l i):=by omega
          go_wp2_with fail
          go_loopw [4] (fun s4 wr2 => ∃ k r2:Nat,s4 = .int .i64 (k:Int) ∧ Hid (k + r2 = i) ∧ Hid (Below w.heap.size w wr2) ∧ Hid (∀ j,j < k → inI l j ≠ inI l i)) (fun s4 _ => i - (intOf s4).toNat)
          case atStart => exact ⟨0,i,rfl,Lib.hid (by omega),HB,Lib.hid (fun j h => absurd h (Nat.not_lt_zero _))⟩
          case round =>
            clear HB x0
            obtain ⟨k,r2,rfl,hkr2,HB,HN⟩:=hrel
            cases r2 with
            | zero =>
              have hlt2:¬ (k:Int) < (i:Int):=by have:=hkr2.out;omega
              have HS2:Hid (chF l r (i + 1) = chE l):=Lib.hid (by rw [← HS.out,chF_go hin (no_take hkl (fun j hj => HN.out j (by have:=hkr2.out;omega)))])
              go_wp2_with fail
              go_roundw
              case rel => exact ⟨i + 1,r,by first | rfl | simp,Lib.hid (by have:=hkr.out;omega),HB,HS2⟩
              case measure => first | (simp [intOf];done) | (simp [intOf];omega)
            | succ r2 =>
              have hki:k < i:=by have:=hkr2.out;omega
              have hlt2:(k:Int) < (i:Int):=by omega
              have hkl2:(k:Int) < (l.length:Int):=by omega
              have hk0:(0:Int) ≤ (k:Int):=by omega
              have hun2:IntKind.i64.wrap ((k:Int) + 1) = (k:Int) + 1:=IntWalk.i64_in _ (by omega)
              have y0:=HC.out k (by omega)
              have hbr:b < wr.heap.size:=Nat.lt_of_lt_of_le HBb.out HB.out.size
              by_cases he:inI l k = inI l i
              · have HE:Hid (chE l = 7):=Lib.hid (by rw [← HS.out,chF_two hin (has_take hki hkl he)])
                have hq:((inI l k:Int) == inI l i) = true:=by simpa using he
                clear he HS HC HN
                go_wp2_with fail
                have f0:=fun p:BelowOf _ => ((bch' HB.out p.h).cell (p:=⟨b,o + k,none⟩) HBb.out).trans y0
                have g0:=fun p:BelowOf _ => ((bch' HB.out p.h).cell (p:=⟨b,o + i,none⟩) HBb.out).trans x00
                refine wp_region_WQ (by kernel_rfl) (by kernel_rfl) ?_
                repeat (refine WQ.step (fun K hK => ?_);go_simp;first | (refine hK.out _ ?_;clear hK K) | (apply Exists.intro;refine ⟨fun _ => ?_,hK.out _ ?_⟩;(first | rfl);clear hK K))
                refine WQ.nil ?_
                intro _ hw'
                obtain ⟨⟨wq,hbq⟩,hw2⟩:=hw'
                subst hw2
                replace HB:=Lib.hid (bch' HB.out hbq)
                clear f0 g0
                go_wp2_with fail
                go_ret
                exact ⟨by first | (rw [HE.out];done) | (rw [HE.out];rfl),HB.out⟩
              · have hq:((inI l k:Int) == inI l i) = false:=by simpa using he
                have HN2:Hid (∀ j,j < k + 1 → inI l j ≠ inI l i):=Lib.hid (fun j hj => by by_cases e:j = k;(subst e;exact he);exact HN.out j (by omega))
                clear he
                go_wp2_with fail
                have f0:=fun p:BelowOf _ => ((bch' HB.out p.h).cell (p:=⟨b,o + k,none⟩) HBb.out).trans y0
                have g0:=fun p:BelowOf _ => ((bch' HB.out p.h).cell (p:=⟨b,o + i,none⟩) HBb.out).trans x00
                refine wp_region_WQ (by kernel_rfl) (by kernel_rfl) ?_
                repeat (refine WQ.step (fun K hK => ?_);go_simp;first | (refine hK.out _ ?_;clear hK K) | (apply Exists.intro;refine ⟨fun _ => ?_,hK.out _ ?_⟩;(first | rfl);clear hK K))
                refine WQ.nil ?_
                intro _ hw'
                obtain ⟨⟨wq,hbq⟩,hw2⟩:=hw'
                subst hw2
                replace HB:=Lib.hid (bch' HB.out hbq)
                clear f0 g0
                go_wp2_with fail
                go_roundw
                case rel => exact ⟨k + 1,r2,by first | rfl | simp,Lib.hid (by have:=hkr2.out;omega),HB,HN2⟩
                case measure => first | (simp [intOf];done) | (simp [intOf];omega)
theorem r28_run (ef ce cr cd cl : Int) (cs : List Int) (p : Option Addr) (n c : Nat) (w : World) (hv : IntsAt w (.slice p n c) cs) :
    Calls Tryz.prog 35 #[.agg #[.int .i64 ef,.slice p n c,.int .i64 ce,.int .i64 cr,.int .i64 cd,.int .i64 cl]] w fun e w' => e = .returned (.int .i64 (rnE ⟨ef,cs,ce,cr,cd,cl⟩)) ∧ Below w.heap.size w w':=by
  have hch:=fun W (h:IntsAt W (.slice p n c) cs) => r28_channels cs (.slice p n c) W h
  have hcc:=fun W => r23_check ce cr cd cl W
  have HV:=Lib.hid (IntsAt.below hv ((Below.refl w.heap.size w).alloc (Nat.le_refl _) (.cells #[.int .i64 ef,.slice p n c,.int .i64 ce,.int .i64 cr,.int .i64 cd,.int .i64 cl] 68)))
  clear hv
  have HK:=Lib.hid (Blk.new w 68 #[.int .i64 ef,.slice p n c,.int .i64 ce,.int .i64 cr,.int .i64 cd,.int .i64 cl])
  have HB:=Lib.hid ((Below.refl w.heap.size w).alloc (Nat.le_refl _) (.cells #[.int .i64 ef,.slice p n c,.int .i64 ce,.int .i64 cr,.int .i64 cd,.int .i64 cl] 68))
  obtain ⟨k0,k1,k2,k3,k4,k5,kf0,kf1,kf2,kf3,kf4,kf5⟩:=HK.out.c6
  by_cases o0:ef < 1
  · rw [rnE_ef (x:=⟨ef,cs,ce,cr,cd,cl⟩) (by dsimp only;omega)]
    clear hch hcc
    go_enter Tryz.func35,Tryz.ntmps35
    go_wp2_with fail
    go_ret
    exact ⟨rfl,HB.out⟩
  by_cases o1:1048576 < ef
  · rw [rnE_ef (x:=⟨ef,cs,ce,cr,cd,cl⟩) (by dsimp only;omega)]
    clear hch hcc
    go_enter Tryz.func35,Tryz.ntmps35
    go_wp2_with fail
    go_ret
    exact ⟨rfl,HB.out⟩
  have on:¬ (ef < 1 ∨ 1048576 < ef):=by omega
  by_cases hz:chE cs = 0
  · rw [hz] at hch
    rw [rnE_ck (x:=⟨ef,cs,ce,cr,cd,cl⟩) on hz]
    show Calls _ _ _ _ (fun e w' => e = .returned (.int .i64 (ckE ce cr cd cl)) ∧ _)
    clear on hz
    generalize ckE ce cr cd cl = m at *
    have HCH:=Lib.hid hch;clear hch
    have HCC:=Lib.hid hcc;clear hcc
    go_enter Tryz.func35,Tryz.ntmps35
    go_wp2_with (first | (with_reducible refine ((HCH.out _ HV.out).mono ?_);rintro e w' ⟨rfl,hb⟩;replace HK:=Lib.hid (HK.out.keep hb);clear k0 k1 k2 k3 k4 k5 kf0 kf1 kf2 kf3 kf4 kf5;replace HV:=Lib.hid (IntsAt.below HV.out hb);replace HB:=Lib.hid (bch' HB.out hb);clear hb;obtain ⟨k0,k1,k2,k3,k4,k5,kf0,kf1,kf2,kf3,kf4,kf5⟩:=HK.out.c6) | (with_reducible refine ((HCC.out _).mono ?_);rintro e w' ⟨rfl,hb⟩;replace HK:=Lib.hid (HK.out.keep hb);clear k0 k1 k2 k3 k4 k5 kf0 kf1 kf2 kf3 kf4 kf5;replace HB:=Lib.hid (bch' HB.out hb);clear hb;obtain ⟨k0,k1,k2,k3,k4,k5,kf0,kf1,kf2,kf3,kf4,kf5⟩:=HK.out.c6))
    go_ret
    exact ⟨rfl,HB.out⟩
  · rw [rnE_ch (x:=⟨ef,cs,ce,cr,cd,cl⟩) on hz]
    have he:((chE cs:Int) != 0) = true:=by simpa using hz
    clear on hz
    show Calls _ _ _ _ (fun e w' => e = .returned (.int .i64 (chE cs)) ∧ _)
    generalize chE cs = m at *
    have HCH:=Lib.hid hch;clear hch
    go_enter Tryz.func35,Tryz.ntmps35
    go_wp2_with (first | (with_reducible refine ((HCH.out _ HV.out).mono ?_);rintro e w' ⟨rfl,hb⟩;replace HK:=Lib.hid (HK.out.keep hb);clear k0 k1 k2 k3 k4 k5 kf0 kf1 kf2 kf3 kf4 kf5;replace HV:=Lib.hid (IntsAt.below HV.out hb);replace HB:=Lib.hid (bch' HB.out hb);clear hb;obtain ⟨k0,k1,k2,k3,k4,k5,kf0,kf1,kf2,kf3,kf4,kf5⟩:=HK.out.c6))
    go_ret
    exact ⟨rfl,HB.out⟩
end Go.Proofs.YtbeojahilbglcaaGreatDoor
set_option maxRecDepth 100000
set_option maxHeartbeats 4000000
namespace Go.Proofs.YtbeojahilbglcaaGreatDoor
open Go.RowKit Go.Shelf Lum
open Go.Lib (decDigits itoa)
attribute [local go_sem] bs_get bs_extract_end bs_extract_from bs_extract bs_append
theorem r28_runs (l0 : List Rnx) (v : Value) (w : World) (hv : RunsAt w v l0) :
    Calls Tryz.prog 11 #[v] w fun e w' => e = .returned (.int .i64 (ordE rnE (·.ef) l0)) ∧ Below w.heap.size w w':=by
  obtain ⟨l,p,c,rfl,hL,hR,hH⟩:=hv
  rw [← hL,ordE_map]
  have h1:=Lib.hid (show ∀ i (hi:i < l.length),∀ W,Below w.heap.size w W → Calls Tryz.prog 35 #[.agg #[.int .i64 ((l[i]'hi).1.ef),.slice (l[i]'hi).2.1 (l[i]'hi).2.2.1 (l[i]'hi).2.2.2,.int .i64 ((l[i]'hi).1.ce),.int .i64 ((l[i]'hi).1.cr),.int .i64 ((l[i]'hi).1.cd),.int .i64 ((l[i]'hi).1.cl)]] W fun e w' => e = .returned (.int .i64 (rnE (l[i]'hi).1)) ∧ Below W.heap.size W w' from fun i hi W hb => r28_run _ _ _ _ _ _ _ _ _ W (IntsAt.below (hH _ (List.getElem_mem hi)).1 hb))
  have hv2:=Lib.hid hR;clear hR hH hL
  have HB:=Lib.hid (Below.refl w.heap.size w)
  by_cases hm:16 < l.length
  · have hm2:(16:Int) < (l.length:Int):=by omega
    rw [ordE_many hm]
    clear hv2 h1
    go_enter Tryz.func11,Tryz.ntmps11
    go_wp2_with fail
    go_ret
    exact ⟨rfl,HB.out⟩
  have hm2:¬ (16:Int) < (l.length:Int):=by omega
  have HS0:Hid (ordF (fun x:Rnx × Sl3 => rnE x.1) (fun x:Rnx × Sl3 => x.1.ef) (prevK (fun x:Rnx × Sl3 => x.1.ef) l 0) (l.drop 0) = ordE (fun x:Rnx × Sl3 => rnE x.1) (fun x:Rnx × Sl3 => x.1.ef) l):=Lib.hid (ordE_few hm).symm
  go_enter Tryz.func11,Tryz.ntmps11
  go_wp2_with fail
  go_loopw [3] (fun s3 wr => ∃ i r:Nat,s3 = .int .i64 (i:Int) ∧ Hid (i + r = l.length) ∧ Hid (Below w.heap.size w wr) ∧ Hid (ordF (fun x:Rnx × Sl3 => rnE x.1) (fun x:Rnx × Sl3 => x.1.ef) (prevK (fun x:Rnx × Sl3 => x.1.ef) l i) (l.drop i) = ordE (fun x:Rnx × Sl3 => rnE x.1) (fun x:Rnx × Sl3 => x.1.ef) l)) (fun s3 _ => l.length - (intOf s3).toNat)
  case atStart => exact ⟨0,l.length,rfl,Lib.hid (by omega),HB,HS0⟩
  case round =>
    clear HB
    obtain ⟨i,r,rfl,hkr,HB,HS⟩:=hrel
    cases r with
    | zero =>
      have hlt:¬ (i:Int) < (l.length:Int):=by have:=hkr.out;omega
      have HE:Hid (ordE (fun x:Rnx × Sl3 => rnE x.1) (fun x:Rnx × Sl3 => x.1.ef) l = 0):=Lib.hid (by rw [← HS.out,show i = l.length from hkr.out];exact ordF_end)
      go_wp2_with fail
      go_ret
      exact ⟨by first | (rw [HE.out];done) | (rw [HE.out];rfl),HB.out⟩
    | succ r =>
      have hkl:i < l.length:=by have:=hkr.out;omega
      have hlt:(i:Int) < (l.length:Int):=by omega
      have hi0:(0:Int) ≤ (i:Int):=by omega
      have hlo:i * 6 < 9223372036854775807:=by omega
      have hun:IntKind.i64.wrap ((i:Int) + 1) = (i:Int) + 1:=IntWalk.i64_in _ (by omega)
      obtain ⟨b,o,rfl,hb,hC⟩:=hv2.out (fun h => by subst h;exact absurd hkl (Nat.not_lt_zero _))
      obtain ⟨x,hx⟩:∃ x,x = l[i]'hkl:=⟨_,rfl⟩
      have hcell:=hC i hkl
      have hc1:=h1.out i hkl
      rw [← hx] at hcell hc1
      have x0:wr.cell? ⟨b,o + i * 6,none⟩ = some (.int .i64 (x.1.ef)):=(HB.out.cell (p:=⟨b,o + i * 6 + 0,none⟩) hb).trans (hcell 0 _ rfl)
      have x1:wr.cell? ⟨b,o + i * 6 + 1,none⟩ = some (.slice x.2.1 x.2.2.1 x.2.2.2):=(HB.out.cell (p:=⟨b,o + i * 6 + 1,none⟩) hb).trans (hcell 1 _ rfl)
      have x2:wr.cell? ⟨b,o + i * 6 + 2,none⟩ = some (.int .i64 (x.1.ce)):=(HB.out.cell (p:=⟨b,o + i * 6 + 2,none⟩) hb).trans (hcell 2 _ rfl)
      have x3:wr.cell? ⟨b,o + i * 6 + 3,none⟩ = some (.int .i64 (x.1.cr)):=(HB.out.cell (p:=⟨b,o + i * 6 + 3,none⟩) hb).trans (hcell 3 _ rfl)
      have x4:wr.cell? ⟨b,o + i * 6 + 4,none⟩ = some (.int .i64 (x.1.cd)):=(HB.out.cell (p:=⟨b,o + i * 6 + 4,none⟩) hb).trans (hcell 4 _ rfl)
      have x5:wr.cell? ⟨b,o + i * 6 + 5,none⟩ = some (.int .i64 (x.1.cl)):=(HB.out.cell (p:=⟨b,o + i * 6 + 5,none⟩) hb).trans (hcell 5 _ rfl)
      have hbr:b < wr.heap.size:=by have:=HB.out.size;omega
      have HC0:=Lib.hid (hcell 0 _ rfl)
      have HX:=Lib.hid hx
      have HBb:=Lib.hid hb
      clear hcell
      by_cases hz:rnE x.1 = 0
      · by_cases hi0:i = 0
        · have hd:decide ((0:Int) < ((0:Nat):Int)) = false:=decide_eq_false (by omega)
          subst hi0
          have HS2:Hid (ordF (fun x:Rnx × Sl3 => rnE x.1) (fun x:Rnx × Sl3 => x.1.ef) (prevK (fun x:Rnx × Sl3 => x.1.ef) l (0 + 1)) (l.drop (0 + 1)) = ordE (fun x:Rnx × Sl3 => rnE x.1) (fun x:Rnx × Sl3 => x.1.ef) l):=Lib.hid (by rw [← HS.out];subst hx;exact (ordF_first hkl hz).symm)
          rw [hz] at hc1
          clear hz HS hC hb hx
          simp only [Nat.zero_mul,Nat.add_zero] at x0 x1 x2 x3 x4 x5
          have HC1:=Lib.hid hc1;clear hc1
          go_wp2_with (first | (with_reducible refine ((HC1.out _ HB.out).mono ?_);rintro e w' ⟨rfl,hb⟩;replace HB:=Lib.hid (bch' HB.out hb);clear hb))
          refine wp_region_WQ (by kernel_rfl) (by kernel_rfl) ?_
          repeat (refine WQ.step (fun K hK => ?_);go_simp;first | (refine hK.out _ ?_;clear hK K) | (apply Exists.intro;refine ⟨fun _ => ?_,hK.out _ ?_⟩;(first | rfl);clear hK K))
          refine WQ.nil ?_
          intro _ hw'
          obtain ⟨⟨wq,hbq⟩,hw2⟩:=hw'
          subst hw2
          replace HB:=Lib.hid (bch' HB.out hbq)
          go_wp2_with fail
          go_roundw
          case rel => exact ⟨0 + 1,r,by first | rfl | simp,Lib.hid (by have:=hkr.out;omega),HB,HS2⟩
          case measure => first | (simp [intOf];done) | (simp [intOf];omega)
        · have hi1:i - 1 < l.length:=by omega
          have hgi:(0:Int) < (i:Int):=by omega
          have hd:decide (0 < i) = true:=decide_eq_true (by omega)
          have hm1:IntKind.i64.wrap ((i:Int) - 1) = ((i - 1:Nat):Int):=by rw [IntWalk.i64_in _ (by omega)];omega
          have hlo1:(i - 1) * 6 < 9223372036854775807:=by omega
          have hm2:((i - 1:Nat):Int) < (l.length:Int):=by omega
          have hm3:(0:Int) ≤ ((i - 1:Nat):Int):=by omega
          obtain ⟨y,hy⟩:∃ y,y = l[i - 1]'hi1:=⟨_,rfl⟩
          have hcell1:=hC (i - 1) hi1
          rw [← hy] at hcell1
          have HCY:=Lib.hid (hcell1 0 _ rfl)
          have HY:=Lib.hid hy
          clear hcell1 hC hy hb
          rw [hz] at hc1
          by_cases hle:x.1.ef ≤ y.1.ef
          · have HE:Hid (ordE (fun x:Rnx × Sl3 => rnE x.1) (fun x:Rnx × Sl3 => x.1.ef) l = 9):=Lib.hid (by rw [← HS.out];obtain ⟨i,rfl⟩:∃ m,i = m + 1:=⟨i - 1,by omega⟩;rw [HX.out,HY.out] at hle;exact ordF_low hkl (by rw [← HX.out];exact hz) hle)
            have hle2:decide (x.1.ef ≤ y.1.ef) = true:=decide_eq_true hle
            clear hle hz HS hx
            have HC1:=Lib.hid hc1;clear hc1
            go_wp2_with (first | (with_reducible refine ((HC1.out _ HB.out).mono ?_);rintro e w' ⟨rfl,hb⟩;replace HB:=Lib.hid (bch' HB.out hb);clear hb))
            have f0:=fun p:BelowOf _ => ((bch' HB.out p.h).cell (p:=⟨b,o + i * 6,none⟩) HBb.out).trans HC0.out
            have g0:=fun p:BelowOf _ => ((bch' HB.out p.h).cell (p:=⟨b,o + (i - 1) * 6,none⟩) HBb.out).trans HCY.out
            refine wp_region_WQ (by kernel_rfl) (by kernel_rfl) ?_
            repeat (refine WQ.step (fun K hK => ?_);go_simp;first | (refine hK.out _ ?_;clear hK K) | (apply Exists.intro;refine ⟨fun _ => ?_,hK.out _ ?_⟩;(first | rfl);clear hK K))
            refine WQ.nil ?_
            intro _ hw'
            obtain ⟨⟨wq,hbq⟩,hw2⟩:=hw'
            subst hw2
            replace HB:=Lib.hid (bch' HB.out hbq)
            clear f0 g0
            go_wp2_with fail
            go_ret
            exact ⟨by first | (rw [HE.out];done) | (rw [HE.out];rfl),HB.out⟩
          · have HS2:Hid (ordF (fun x:Rnx × Sl3 => rnE x.1) (fun x:Rnx × Sl3 => x.1.ef) (prevK (fun x:Rnx × Sl3 => x.1.ef) l (i + 1)) (l.drop (i + 1)) = ordE (fun x:Rnx × Sl3 => rnE x.1) (fun x:Rnx × Sl3 => x.1.ef) l):=Lib.hid (by rw [← HS.out];obtain ⟨i,rfl⟩:∃ m,i = m + 1:=⟨i - 1,by omega⟩;rw [HX.out,HY.out] at hle;exact (ordF_next hkl (by rw [← HX.out];exact hz) hle).symm)
            have hle2:decide (x.1.ef ≤ y.1.ef) = false:=decide_eq_false hle
            clear hle hz HS hx
            have HC1:=Lib.hid hc1;clear hc1
            go_wp2_with (first | (with_reducible refine ((HC1.out _ HB.out).mono ?_);rintro e w' ⟨rfl,hb⟩;replace HB:=Lib.hid (bch' HB.out hb);clear hb))
            have f0:=fun p:BelowOf _ => ((bch' HB.out p.h).cell (p:=⟨b,o + i * 6,none⟩) HBb.out).trans HC0.out
            have g0:=fun p:BelowOf _ => ((bch' HB.out p.h).cell (p:=⟨b,o + (i - 1) * 6,none⟩) HBb.out).trans HCY.out
            refine wp_region_WQ (by kernel_rfl) (by kernel_rfl) ?_
            repeat (refine WQ.step (fun K hK => ?_);go_simp;first | (refine hK.out _ ?_;clear hK K) | (apply Exists.intro;refine ⟨fun _ => ?_,hK.out _ ?_⟩;(first | rfl);clear hK K))
            refine WQ.nil ?_
            intro _ hw'
            obtain ⟨⟨wq,hbq⟩,hw2⟩:=hw'
            subst hw2
            replace HB:=Lib.hid (bch' HB.out hbq)
            clear f0 g0
            go_wp2_with fail
            go_roundw
            case rel => exact ⟨i + 1,r,by first | rfl | simp,Lib.hid (by have:=hkr.out;omega),HB,HS2⟩
            case measure => first | (simp [intOf];done) | (simp [intOf];omega)
      · have he:ordE (fun x:Rnx × Sl3 => rnE x.1) (fun x:Rnx × Sl3 => x.1.ef) l = rnE x.1:=by rw [← HS.out];subst hx;exact ordF_err hkl hz
        have HE:=Lib.hid he;clear he
        have hne:((rnE x.1:Int) != 0) = true:=by simpa using hz
        clear hz HS hC hb hx
        have HC1:=Lib.hid hc1;clear hc1
        generalize rnE x.1 = m at *
        go_wp2_with (first | (with_reducible refine ((HC1.out _ HB.out).mono ?_);rintro e w' ⟨rfl,hb⟩;replace HB:=Lib.hid (bch' HB.out hb);clear hb))
        go_ret
        exact ⟨by first | (rw [HE.out];done) | (rw [HE.out];rfl),HB.out⟩
end Go.Proofs.YtbeojahilbglcaaGreatDoor

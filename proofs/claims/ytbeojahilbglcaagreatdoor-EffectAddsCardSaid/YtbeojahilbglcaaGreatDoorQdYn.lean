/- A part of the proof of EffectAdds: contracts of functions, and plain facts. -/
import Derived.Test.YtbeojahilbglcaaGreatDoorQdYg
set_option maxRecDepth 100000
set_option maxHeartbeats 4000000
set_option linter.unusedVariables false
set_option linter.unusedSimpArgs false
namespace Go.Proofs.YtbeojahilbglcaaGreatDoor
open Go.RowKit Go.Shelf Lum
open Go.Lib (decDigits itoa)
attribute [local go_sem] bs_get bs_extract_end bs_extract_from bs_extract bs_append
theorem r28_check (l0 : List Efx) (v : Value) (w : World) (hv : EfsAt w v l0) :
    Calls Tryz.prog 61 #[v] w fun e w' => e = .returned (.int .i64 (ordE efE (·.nu) l0)) ∧ Below w.heap.size w w':=by
  obtain ⟨l,p,c,rfl,hL,hR,hH⟩:=hv
  rw [← hL,ordE_map]
  have h1:=Lib.hid (show ∀ i (hi:i < l.length),∀ W,Below w.heap.size w W → Calls Tryz.prog 104 #[.agg #[.int .i64 ((l[i]'hi).1.nu),.int .i64 ((l[i]'hi).1.at_),.slice (l[i]'hi).2.1 (l[i]'hi).2.2.1 (l[i]'hi).2.2.2,.int .i64 ((l[i]'hi).1.pe),.int .i64 ((l[i]'hi).1.sp),.int .i64 ((l[i]'hi).1.sz)]] W fun e w' => e = .returned (.int .i64 (efE (l[i]'hi).1)) ∧ Below W.heap.size W w' from fun i hi W hb => r28_effect _ _ _ _ _ _ _ _ _ W (PtsAt.below (hH _ (List.getElem_mem hi)) hb))
  have hv2:=Lib.hid hR;clear hR hH hL
  have HB:=Lib.hid (Below.refl w.heap.size w)
  by_cases hm:16 < l.length
  · have hm2:(16:Int) < (l.length:Int):=by omega
    rw [ordE_many hm]
    clear hv2 h1
    go_enter Tryz.func61,Tryz.ntmps61
    go_wp2_with fail
    go_ret
    exact ⟨rfl,HB.out⟩
  have hm2:¬ (16:Int) < (l.length:Int):=by omega
  have HS0:Hid (ordF (fun x:Efx × Sl3 => efE x.1) (fun x:Efx × Sl3 => x.1.nu) (prevK (fun x:Efx × Sl3 => x.1.nu) l 0) (l.drop 0) = ordE (fun x:Efx × Sl3 => efE x.1) (fun x:Efx × Sl3 => x.1.nu) l):=Lib.hid (ordE_few hm).symm
  go_enter Tryz.func61,Tryz.ntmps61
  go_wp2_with fail
  go_loopw [3] (fun s3 wr => ∃ i r:Nat,s3 = .int .i64 (i:Int) ∧ Hid (i + r = l.length) ∧ Hid (Below w.heap.size w wr) ∧ Hid (ordF (fun x:Efx × Sl3 => efE x.1) (fun x:Efx × Sl3 => x.1.nu) (prevK (fun x:Efx × Sl3 => x.1.nu) l i) (l.drop i) = ordE (fun x:Efx × Sl3 => efE x.1) (fun x:Efx × Sl3 => x.1.nu) l)) (fun s3 _ => l.length - (intOf s3).toNat)
  case atStart => exact ⟨0,l.length,rfl,Lib.hid (by omega),HB,HS0⟩
  case round =>
    clear HB
    obtain ⟨i,r,rfl,hkr,HB,HS⟩:=hrel
    cases r with
    | zero =>
      have hlt:¬ (i:Int) < (l.length:Int):=by have:=hkr.out;omega
      have HE:Hid (ordE (fun x:Efx × Sl3 => efE x.1) (fun x:Efx × Sl3 => x.1.nu) l = 0):=Lib.hid (by rw [← HS.out,show i = l.length from hkr.out];exact ordF_end)
      go_wp2_with fail
      go_ret
      exact ⟨by first | (rw [HE.out];done) | (rw [HE.out];rfl),HB.out⟩
    | succ r =>
      have hkl:i < l.length:=by have:=hkr.out;omega
      have hlt:(i:Int) < (l.length:Int):=by omega
      have hi0:(0:Int) ≤ (i:Int):=by omega
      have hlo:i * 6 < 9223372036854775807:=by omega
      have hun:IntKind.i64.wrap ((i:Int) + 1) = (i:Int) + 1:=IntWalk.i64_in _ (by omega)
      obtain ⟨b,o,rfl,hb,hC⟩:=hv2.out (fun h => by subst h;exact absurd hkl (Nat.not_lt_zero _))
      obtain ⟨x,hx⟩:∃ x,x = l[i]'hkl:=⟨_,rfl⟩
      have hcell:=hC i hkl
      have hc1:=h1.out i hkl
      rw [← hx] at hcell hc1
      have x0:wr.cell? ⟨b,o + i * 6,none⟩ = some (.int .i64 (x.1.nu)):=(HB.out.cell (p:=⟨b,o + i * 6 + 0,none⟩) hb).trans (hcell 0 _ rfl)
      have x1:wr.cell? ⟨b,o + i * 6 + 1,none⟩ = some (.int .i64 (x.1.at_)):=(HB.out.cell (p:=⟨b,o + i * 6 + 1,none⟩) hb).trans (hcell 1 _ rfl)
      have x2:wr.cell? ⟨b,o + i * 6 + 2,none⟩ = some (.slice x.2.1 x.2.2.1 x.2.2.2):=(HB.out.cell (p:=⟨b,o + i * 6 + 2,none⟩) hb).trans (hcell 2 _ rfl)
      have x3:wr.cell? ⟨b,o + i * 6 + 3,none⟩ = some (.int .i64 (x.1.pe)):=(HB.out.cell (p:=⟨b,o + i * 6 + 3,none⟩) hb).trans (hcell 3 _ rfl)
      have x4:wr.cell? ⟨b,o + i * 6 + 4,none⟩ = some (.int .i64 (x.1.sp)):=(HB.out.cell (p:=⟨b,o + i * 6 + 4,none⟩) hb).trans (hcell 4 _ rfl)
      have x5:wr.cell? ⟨b,o + i * 6 + 5,none⟩ = some (.int .i64 (x.1.sz)):=(HB.out.cell (p:=⟨b,o + i * 6 + 5,none⟩) hb).trans (hcell 5 _ rfl)
      have hbr:b < wr.heap.size:=by have:=HB.out.size;omega
      have HC0:=Lib.hid (hcell 0 _ rfl)
      have HX:=Lib.hid hx
      have HBb:=Lib.hid hb
      clear hcell
      by_cases hz:efE x.1 = 0
      · by_cases hi0:i = 0
        · have hd:decide ((0:Int) < ((0:Nat):Int)) = false:=decide_eq_false (by omega)
          subst hi0
          have HS2:Hid (ordF (fun x:Efx × Sl3 => efE x.1) (fun x:Efx × Sl3 => x.1.nu) (prevK (fun x:Efx × Sl3 => x.1.nu) l (0 + 1)) (l.drop (0 + 1)) = ordE (fun x:Efx × Sl3 => efE x.1) (fun x:Efx × Sl3 => x.1.nu) l):=Lib.hid (by rw [← HS.out];subst hx;exact (ordF_first hkl hz).symm)
          rw [hz] at hc1
          clear hz HS hC hb hx
          simp only [Nat.zero_mul,Nat.add_zero] at x0 x1 x2 x3 x4 x5
          have HC1:=Lib.hid hc1;clear hc1
          go_wp2_with (first | (with_reducible refine ((HC1.out _ HB.out).mono ?_);rintro e w' ⟨rfl,hb⟩;replace HB:=Lib.hid (bch' HB.out hb);clear hb))
          refine wp_region_WQ (by kernel_rfl) (by kernel_rfl) ?_
          repeat (refine WQ.step (fun K hK => ?_);go_simp;first | (refine hK.out _ ?_;clear hK K) | (apply Exists.intro;refine ⟨fun _ => ?_,hK.out _ ?_⟩;(first | rfl);clear hK K))
          refine WQ.nil ?_
          intro _ hw'
          obtain ⟨⟨wq,hbq⟩,hw2⟩:=hw'
          subst hw2
          replace HB:=Lib.hid (bch' HB.out hbq)
          go_wp2_with fail
          go_roundw
          case rel => exact ⟨0 + 1,r,by first | rfl | simp,Lib.hid (by have:=hkr.out;omega),HB,HS2⟩
          case measure => first | (simp [intOf];done) | (simp [intOf];omega)
        · have hi1:i - 1 < l.length:=by omega
          have hgi:(0:Int) < (i:Int):=by omega
          have hd:decide (0 < i) = true:=decide_eq_true (by omega)
          have hm1:IntKind.i64.wrap ((i:Int) - 1) = ((i - 1:Nat):Int):=by rw [IntWalk.i64_in _ (by omega)];omega
          have hlo1:(i - 1) * 6 < 9223372036854775807:=by omega
          have hm2:((i - 1:Nat):Int) < (l.length:Int):=by omega
          have hm3:(0:Int) ≤ ((i - 1:Nat):Int):=by omega
          obtain ⟨y,hy⟩:∃ y,y = l[i - 1]'hi1:=⟨_,rfl⟩
          have hcell1:=hC (i - 1) hi1
          rw [← hy] at hcell1
          have HCY:=Lib.hid (hcell1 0 _ rfl)
          have HY:=Lib.hid hy
          clear hcell1 hC hy hb
          rw [hz] at hc1
          by_cases hle:x.1.nu ≤ y.1.nu
          · have HE:Hid (ordE (fun x:Efx × Sl3 => efE x.1) (fun x:Efx × Sl3 => x.1.nu) l = 9):=Lib.hid (by rw [← HS.out];obtain ⟨i,rfl⟩:∃ m,i = m + 1:=⟨i - 1,by omega⟩;rw [HX.out,HY.out] at hle;exact ordF_low hkl (by rw [← HX.out];exact hz) hle)
            have hle2:decide (x.1.nu ≤ y.1.nu) = true:=decide_eq_true hle
            clear hle hz HS hx
            have HC1:=Lib.hid hc1;clear hc1
            go_wp2_with (first | (with_reducible refine ((HC1.out _ HB.out).mono ?_);rintro e w' ⟨rfl,hb⟩;replace HB:=Lib.hid (bch' HB.out hb);clear hb))
            have f0:=fun p:BelowOf _ => ((bch' HB.out p.h).cell (p:=⟨b,o + i * 6,none⟩) HBb.out).trans HC0.out
            have g0:=fun p:BelowOf _ => ((bch' HB.out p.h).cell (p:=⟨b,o + (i - 1) * 6,none⟩) HBb.out).trans HCY.out
            refine wp_region_WQ (by kernel_rfl) (by kernel_rfl) ?_
            repeat (refine WQ.step (fun K hK => ?_);go_simp;first | (refine hK.out _ ?_;clear hK K) | (apply Exists.intro;refine ⟨fun _ => ?_,hK.out _ ?_⟩;(first | rfl);clear hK K))
            refine WQ.nil ?_
            intro _ hw'
            obtain ⟨⟨wq,hbq⟩,hw2⟩:=hw'
            subst hw2
            replace HB:=Lib.hid (bch' HB.out hbq)
            clear f0 g0
            go_wp2_with fail
            go_ret
            exact ⟨by first | (rw [HE.out];done) | (rw [HE.out];rfl),HB.out⟩
          · have HS2:Hid (ordF (fun x:Efx × Sl3 => efE x.1) (fun x:Efx × Sl3 => x.1.nu) (prevK (fun x:Efx × Sl3 => x.1.nu) l (i + 1)) (l.drop (i + 1)) = ordE (fun x:Efx × Sl3 => efE x.1) (fun x:Efx × Sl3 => x.1.nu) l):=Lib.hid (by rw [← HS.out];obtain ⟨i,rfl⟩:∃ m,i = m + 1:=⟨i - 1,by omega⟩;rw [HX.out,HY.out] at hle;exact (ordF_next hkl (by rw [← HX.out];exact hz) hle).symm)
            have hle2:decide (x.1.nu ≤ y.1.nu) = false:=decide_eq_false hle
            clear hle hz HS hx
            have HC1:=Lib.hid hc1;clear hc1
            go_wp2_with (first | (with_reducible refine ((HC1.out _ HB.out).mono ?_);rintro e w' ⟨rfl,hb⟩;replace HB:=Lib.hid (bch' HB.out hb);clear hb))
            have f0:=fun p:BelowOf _ => ((bch' HB.out p.h).cell (p:=⟨b,o + i * 6,none⟩) HBb.out).trans HC0.out
            have g0:=fun p:BelowOf _ => ((bch' HB.out p.h).cell (p:=⟨b,o + (i - 1) * 6,none⟩) HBb.out).trans HCY.out
            refine wp_region_WQ (by kernel_rfl) (by kernel_rfl) ?_
            repeat (refine WQ.step (fun K hK => ?_);go_simp;first | (refine hK.out _ ?_;clear hK K) | (apply Exists.intro;refine ⟨fun _ => ?_,hK.out _ ?_⟩;(first | rfl);clear hK K))
            refine WQ.nil ?_
            intro _ hw'
            obtain ⟨⟨wq,hbq⟩,hw2⟩:=hw'
            subst hw2
            replace HB:=Lib.hid (bch' HB.out hbq)
            clear f0 g0
            go_wp2_with fail
            go_roundw
            case rel => exact ⟨i + 1,r,by first | rfl | simp,Lib.hid (by have:=hkr.out;omega),HB,HS2⟩
            case measure => first | (simp [intOf];done) | (simp [intOf];omega)
      · have he:ordE (fun x:Efx × Sl3 => efE x.1) (fun x:Efx × Sl3 => x.1.nu) l = efE x.1:=by rw [← HS.out];subst hx;exact ordF_err hkl hz
        have HE:=Lib.hid he;clear he
        have hne:((efE x.1:Int) != 0) = true:=by simpa using hz
        clear hz HS hC hb hx
        have HC1:=Lib.hid hc1;clear hc1
        generalize efE x.1 = m at *
        go_wp2_with (first | (with_reducible refine ((HC1.out _ HB.out).mono ?_);rintro e w' ⟨rfl,hb⟩;replace HB:=Lib.hid (bch' HB.out hb);clear hb))
        go_ret
        exact ⟨by first | (rw [HE.out];done) | (rw [HE.out];rfl),HB.out⟩
end Go.Proofs.YtbeojahilbglcaaGreatDoor

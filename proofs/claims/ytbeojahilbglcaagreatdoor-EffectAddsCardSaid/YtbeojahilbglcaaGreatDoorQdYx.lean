/- A part of the proof of EffectAdds: contracts of functions, and plain facts. -/
import Derived.Test.YtbeojahilbglcaaGreatDoorQdYb
import Derived.Test.YtbeojahilbglcaaGreatDoorQdWv2
import Derived.Test.YtbeojahilbglcaaGreatDoorQdQq
import Derived.Deep.LoopGhost
import Derived.Test.YtbeojahilbglcaaGreatDoorQdWv4
import Derived.Test.YtbeojahilbglcaaGreatDoorQdEv
import Derived.Test.YtbeojahilbglcaaGreatDoorQdRa
import Derived.Test.YtbeojahilbglcaaGreatDoorQdWc
set_option maxRecDepth 100000
set_option maxHeartbeats 4000000
set_option linter.unusedVariables false
set_option linter.unusedSimpArgs false
namespace Go.Proofs.YtbeojahilbglcaaGreatDoor
open Go.RowKit Go.Shelf Lum
open Go.Lib (decDigits itoa)
attribute [local go_sem] bs_get bs_extract_end bs_extract_from bs_extract bs_append
theorem own_wcheckA (l : List (Int × Int)) (v : Value) (w : World) (hv : PtsAt w v l) :
    Calls Tryz.prog 120 #[v] w fun e w' => e = .returned (.int .i64 (wvE l)) ∧ Below w.heap.size w w':=by
  by_cases hn:l.length ≤ 1000000000
  · exact own_wcheck l v w hv hn
  · obtain ⟨p,c,rfl,-⟩:=hv
    have HB:=Lib.hid (Below.refl w.heap.size w)
    have h0:16 < l.length:=by omega
    rw [wvE_len (Or.inr h0)]
    have h1:¬ l.length < 2:=by omega
    clear hn
    go_enter Tryz.func120,Tryz.ntmps120
    go_wp2
    go_ret
    exact ⟨rfl,HB.out⟩
theorem r27_checkA (l : List (Int × Int)) (v : Value) (w : World) (hv : PtsAt w v l) :
    Calls Tryz.prog 153 #[v] w fun e w' => e = .returned (.int .i64 (wvE l)) ∧ Below w.heap.size w w':=by
  by_cases hn:l.length ≤ 1000000000
  · exact r27_check l v w hv hn
  · obtain ⟨p,c,rfl,-⟩:=hv
    have HB:=Lib.hid (Below.refl w.heap.size w)
    have h0:16 < l.length:=by omega
    rw [wvE_len (Or.inr h0)]
    have h1:¬ l.length < 2:=by omega
    clear hn
    go_enter Tryz.func153,Tryz.ntmps153
    go_wp2
    go_ret
    exact ⟨rfl,HB.out⟩
theorem own_eright (nu at_ pe sp sz : Int) (wv : List (Int × Int)) (p : Option Addr) (n c : Nat) (w : World) (hv : PtsAt w (.slice p n c) wv) :
    Calls Tryz.prog 76 #[.agg #[.int .i64 nu,.int .i64 at_,.slice p n c,.int .i64 pe,.int .i64 sp,.int .i64 sz]] w fun e w' => e = .returned (.int .i64 (efE ⟨nu,at_,wv,pe,sp,sz⟩)) ∧ Below w.heap.size w w':=by
  have hck:=fun W (h:PtsAt W (.slice p n c) wv) => own_wcheckA wv (.slice p n c) W h
  have HV:=Lib.hid (PtsAt.below hv ((Below.refl w.heap.size w).alloc (Nat.le_refl _) (.cells #[.int .i64 nu,.int .i64 at_,.slice p n c,.int .i64 pe,.int .i64 sp,.int .i64 sz] 71)))
  clear hv
  have HK:=Lib.hid (Blk.new w 71 #[.int .i64 nu,.int .i64 at_,.slice p n c,.int .i64 pe,.int .i64 sp,.int .i64 sz])
  have HB:=Lib.hid ((Below.refl w.heap.size w).alloc (Nat.le_refl _) (.cells #[.int .i64 nu,.int .i64 at_,.slice p n c,.int .i64 pe,.int .i64 sp,.int .i64 sz] 71))
  obtain ⟨k0,k1,k2,k3,k4,k5,kf0,kf1,kf2,kf3,kf4,kf5⟩:=HK.out.c6
  by_cases o0:nu < 1
  · rw [efE_num (x:=⟨nu,at_,wv,pe,sp,sz⟩) (by dsimp only;omega)]
    clear hck
    go_enter Tryz.func76,Tryz.ntmps76
    go_wp2_with fail
    go_ret
    exact ⟨rfl,HB.out⟩
  by_cases o1:1048576 < nu
  · rw [efE_num (x:=⟨nu,at_,wv,pe,sp,sz⟩) (by dsimp only;omega)]
    clear hck
    go_enter Tryz.func76,Tryz.ntmps76
    go_wp2_with fail
    go_ret
    exact ⟨rfl,HB.out⟩
  by_cases o2:at_ < 0
  · rw [efE_num (x:=⟨nu,at_,wv,pe,sp,sz⟩) (by dsimp only;omega)]
    clear hck
    go_enter Tryz.func76,Tryz.ntmps76
    go_wp2_with fail
    go_ret
    exact ⟨rfl,HB.out⟩
  by_cases o3:15 ≤ at_
  · rw [efE_num (x:=⟨nu,at_,wv,pe,sp,sz⟩) (by dsimp only;omega)]
    clear hck
    go_enter Tryz.func76,Tryz.ntmps76
    go_wp2_with fail
    go_ret
    exact ⟨rfl,HB.out⟩
  have on:¬ (nu < 1 ∨ 1048576 < nu ∨ at_ < 0 ∨ 15 ≤ at_):=by omega
  by_cases hz:wvE wv = 0
  · rw [hz] at hck
    have HCK:=Lib.hid hck;clear hck
    by_cases o0:pe < 1
    · rw [efE_pe (x:=⟨nu,at_,wv,pe,sp,sz⟩) on hz (by dsimp only;omega)]
      clear on hz
      go_enter Tryz.func76,Tryz.ntmps76
      go_wp2_with (first | (with_reducible refine ((HCK.out _ HV.out).mono ?_);rintro e w' ⟨rfl,hb⟩;replace HK:=Lib.hid (HK.out.keep hb);clear k0 k1 k2 k3 k4 k5 kf0 kf1 kf2 kf3 kf4 kf5;replace HV:=Lib.hid (PtsAt.below HV.out hb);replace HB:=Lib.hid (bch' HB.out hb);clear hb;obtain ⟨k0,k1,k2,k3,k4,k5,kf0,kf1,kf2,kf3,kf4,kf5⟩:=HK.out.c6))
      go_ret
      exact ⟨rfl,HB.out⟩
    by_cases o1:10000000 < pe
    · rw [efE_pe (x:=⟨nu,at_,wv,pe,sp,sz⟩) on hz (by dsimp only;omega)]
      clear on hz
      go_enter Tryz.func76,Tryz.ntmps76
      go_wp2_with (first | (with_reducible refine ((HCK.out _ HV.out).mono ?_);rintro e w' ⟨rfl,hb⟩;replace HK:=Lib.hid (HK.out.keep hb);clear k0 k1 k2 k3 k4 k5 kf0 kf1 kf2 kf3 kf4 kf5;replace HV:=Lib.hid (PtsAt.below HV.out hb);replace HB:=Lib.hid (bch' HB.out hb);clear hb;obtain ⟨k0,k1,k2,k3,k4,k5,kf0,kf1,kf2,kf3,kf4,kf5⟩:=HK.out.c6))
      go_ret
      exact ⟨rfl,HB.out⟩
    by_cases o2:sp < 0
    · rw [efE_pe (x:=⟨nu,at_,wv,pe,sp,sz⟩) on hz (by dsimp only;omega)]
      clear on hz
      go_enter Tryz.func76,Tryz.ntmps76
      go_wp2_with (first | (with_reducible refine ((HCK.out _ HV.out).mono ?_);rintro e w' ⟨rfl,hb⟩;replace HK:=Lib.hid (HK.out.keep hb);clear k0 k1 k2 k3 k4 k5 kf0 kf1 kf2 kf3 kf4 kf5;replace HV:=Lib.hid (PtsAt.below HV.out hb);replace HB:=Lib.hid (bch' HB.out hb);clear hb;obtain ⟨k0,k1,k2,k3,k4,k5,kf0,kf1,kf2,kf3,kf4,kf5⟩:=HK.out.c6))
      go_ret
      exact ⟨rfl,HB.out⟩
    by_cases o3:1000 < sp
    · rw [efE_pe (x:=⟨nu,at_,wv,pe,sp,sz⟩) on hz (by dsimp only;omega)]
      clear on hz
      go_enter Tryz.func76,Tryz.ntmps76
      go_wp2_with (first | (with_reducible refine ((HCK.out _ HV.out).mono ?_);rintro e w' ⟨rfl,hb⟩;replace HK:=Lib.hid (HK.out.keep hb);clear k0 k1 k2 k3 k4 k5 kf0 kf1 kf2 kf3 kf4 kf5;replace HV:=Lib.hid (PtsAt.below HV.out hb);replace HB:=Lib.hid (bch' HB.out hb);clear hb;obtain ⟨k0,k1,k2,k3,k4,k5,kf0,kf1,kf2,kf3,kf4,kf5⟩:=HK.out.c6))
      go_ret
      exact ⟨rfl,HB.out⟩
    by_cases o4:sz < 0
    · rw [efE_pe (x:=⟨nu,at_,wv,pe,sp,sz⟩) on hz (by dsimp only;omega)]
      clear on hz
      go_enter Tryz.func76,Tryz.ntmps76
      go_wp2_with (first | (with_reducible refine ((HCK.out _ HV.out).mono ?_);rintro e w' ⟨rfl,hb⟩;replace HK:=Lib.hid (HK.out.keep hb);clear k0 k1 k2 k3 k4 k5 kf0 kf1 kf2 kf3 kf4 kf5;replace HV:=Lib.hid (PtsAt.below HV.out hb);replace HB:=Lib.hid (bch' HB.out hb);clear hb;obtain ⟨k0,k1,k2,k3,k4,k5,kf0,kf1,kf2,kf3,kf4,kf5⟩:=HK.out.c6))
      go_ret
      exact ⟨rfl,HB.out⟩
    by_cases o5:65535 < sz
    · rw [efE_pe (x:=⟨nu,at_,wv,pe,sp,sz⟩) on hz (by dsimp only;omega)]
      clear on hz
      go_enter Tryz.func76,Tryz.ntmps76
      go_wp2_with (first | (with_reducible refine ((HCK.out _ HV.out).mono ?_);rintro e w' ⟨rfl,hb⟩;replace HK:=Lib.hid (HK.out.keep hb);clear k0 k1 k2 k3 k4 k5 kf0 kf1 kf2 kf3 kf4 kf5;replace HV:=Lib.hid (PtsAt.below HV.out hb);replace HB:=Lib.hid (bch' HB.out hb);clear hb;obtain ⟨k0,k1,k2,k3,k4,k5,kf0,kf1,kf2,kf3,kf4,kf5⟩:=HK.out.c6))
      go_ret
      exact ⟨rfl,HB.out⟩
    rw [efE_ok (x:=⟨nu,at_,wv,pe,sp,sz⟩) on hz (by dsimp only;omega)]
    clear on hz
    go_enter Tryz.func76,Tryz.ntmps76
    go_wp2_with (first | (with_reducible refine ((HCK.out _ HV.out).mono ?_);rintro e w' ⟨rfl,hb⟩;replace HK:=Lib.hid (HK.out.keep hb);clear k0 k1 k2 k3 k4 k5 kf0 kf1 kf2 kf3 kf4 kf5;replace HV:=Lib.hid (PtsAt.below HV.out hb);replace HB:=Lib.hid (bch' HB.out hb);clear hb;obtain ⟨k0,k1,k2,k3,k4,k5,kf0,kf1,kf2,kf3,kf4,kf5⟩:=HK.out.c6))
    go_ret
    exact ⟨rfl,HB.out⟩
  · rw [efE_wv (x:=⟨nu,at_,wv,pe,sp,sz⟩) on hz]
    have he:((wvE wv:Int) != 0) = true:=by simpa using hz
    clear on hz
    show Calls _ _ _ _ (fun e w' => e = .returned (.int .i64 (wvE wv)) ∧ _)
    generalize wvE wv = m at *
    have HCK:=Lib.hid hck;clear hck
    go_enter Tryz.func76,Tryz.ntmps76
    go_wp2_with (first | (with_reducible refine ((HCK.out _ HV.out).mono ?_);rintro e w' ⟨rfl,hb⟩;replace HK:=Lib.hid (HK.out.keep hb);clear k0 k1 k2 k3 k4 k5 kf0 kf1 kf2 kf3 kf4 kf5;replace HV:=Lib.hid (PtsAt.below HV.out hb);replace HB:=Lib.hid (bch' HB.out hb);clear hb;obtain ⟨k0,k1,k2,k3,k4,k5,kf0,kf1,kf2,kf3,kf4,kf5⟩:=HK.out.c6))
    go_ret
    exact ⟨rfl,HB.out⟩
theorem own_enumber (nu at_ pe sp sz : Int) (p : Option Addr) (n c : Nat) (w : World) :
    Calls Tryz.prog 56 #[.agg #[.int .i64 nu,.int .i64 at_,.slice p n c,.int .i64 pe,.int .i64 sp,.int .i64 sz]] w fun e w' => e = .returned (.int .i64 nu) ∧ Below w.heap.size w w':=by
  have HK:=Lib.hid (Blk.new w 71 #[.int .i64 nu,.int .i64 at_,.slice p n c,.int .i64 pe,.int .i64 sp,.int .i64 sz])
  have HB:=Lib.hid ((Below.refl w.heap.size w).alloc (Nat.le_refl _) (.cells #[.int .i64 nu,.int .i64 at_,.slice p n c,.int .i64 pe,.int .i64 sp,.int .i64 sz] 71))
  obtain ⟨k0,k1,k2,k3,k4,k5,kf0,kf1,kf2,kf3,kf4,kf5⟩:=HK.out.c6
  go_enter Tryz.func56,Tryz.ntmps56
  go_wp2_with fail
  go_ret
  exact ⟨rfl,HB.out⟩
theorem own_eeffect (ef ce cr cd cl : Int) (p : Option Addr) (n c : Nat) (w : World) :
    Calls Tryz.prog 38 #[.agg #[.int .i64 ef,.slice p n c,.int .i64 ce,.int .i64 cr,.int .i64 cd,.int .i64 cl]] w fun e w' => e = .returned (.int .i64 ef) ∧ Below w.heap.size w w':=by
  have HK:=Lib.hid (Blk.new w 68 #[.int .i64 ef,.slice p n c,.int .i64 ce,.int .i64 cr,.int .i64 cd,.int .i64 cl])
  have HB:=Lib.hid ((Below.refl w.heap.size w).alloc (Nat.le_refl _) (.cells #[.int .i64 ef,.slice p n c,.int .i64 ce,.int .i64 cr,.int .i64 cd,.int .i64 cl] 68))
  obtain ⟨k0,k1,k2,k3,k4,k5,kf0,kf1,kf2,kf3,kf4,kf5⟩:=HK.out.c6
  go_enter Tryz.func38,Tryz.ntmps38
  go_wp2_with fail
  go_ret
  exact ⟨rfl,HB.out⟩
theorem own_ordE (M1 M2 : FuncId) (l : List (Efx × Sl3)) (pp : Option Addr) (cc : Nat) (err key : Efx × Sl3 → Int) (w : World) (hR : RowX encE 6 w pp l) (hF1 : ∀ args w, (callFunc M1 args).run Tryz.prog w = .ok (.enter M1 args) w) (hF2 : ∀ args w, (callFunc M2 args).run Tryz.prog w = .ok (.enter M2 args) w)
    (hc1:∀ i (hi:i < l.length),∀ W,Below w.heap.size w W → Calls Tryz.prog M1 #[.agg #[.int .i64 ((l[i]'hi).1.nu),.int .i64 ((l[i]'hi).1.at_),.slice (l[i]'hi).2.1 (l[i]'hi).2.2.1 (l[i]'hi).2.2.2,.int .i64 ((l[i]'hi).1.pe),.int .i64 ((l[i]'hi).1.sp),.int .i64 ((l[i]'hi).1.sz)]] W fun e w' => e = .returned (.int .i64 (err (l[i]'hi))) ∧ Below W.heap.size W w')
    (hc2:∀ i (hi:i < l.length),∀ W,Below w.heap.size w W → Calls Tryz.prog M2 #[.agg #[.int .i64 ((l[i]'hi).1.nu),.int .i64 ((l[i]'hi).1.at_),.slice (l[i]'hi).2.1 (l[i]'hi).2.2.1 (l[i]'hi).2.2.2,.int .i64 ((l[i]'hi).1.pe),.int .i64 ((l[i]'hi).1.sp),.int .i64 ((l[i]'hi).1.sz)]] W fun e w' => e = .returned (.int .i64 (key (l[i]'hi))) ∧ Below W.heap.size W w') :
    Calls Tryz.prog 141 #[.slice pp l.length cc,.func (.func M1) #[] #[],.func (.func M2) #[] #[]] w fun e w' => e = .returned (.int .i64 (ordE err key l)) ∧ Below w.heap.size w w':=by
  have hv2:=Lib.hid hR;clear hR
  have h1:=Lib.hid hc1;clear hc1
  have h2:=Lib.hid hc2;clear hc2
  have HB:=Lib.hid (Below.refl w.heap.size w)
  by_cases hm:16 < l.length
  · have hm2:(16:Int) < (l.length:Int):=by omega
    rw [ordE_many hm]
    clear hv2 h1 h2
    go_enter Tryz.func141,Tryz.ntmps141
    go_wp2_with fail
    go_ret
    exact ⟨rfl,HB.out⟩
  have hm2:¬ (16:Int) < (l.length:Int):=by omega
  have HS0:Hid (ordF err key (prevK key l 0) (l.drop 0) = ordE err key l):=Lib.hid (ordE_few hm).symm
  go_enter Tryz.func141,Tryz.ntmps141
  go_wp2_with fail
  go_loopw [15] (fun s15 wr => ∃ i r:Nat,s15 = .int .i64 (i:Int) ∧ Hid (i + r = l.length) ∧ Hid (Below w.heap.size w wr) ∧ Hid (ordF err key (prevK key l i) (l.drop i) = ordE err key l)) (fun s15 _ => l.length - (intOf s15).toNat)
  case atStart => exact ⟨0,l.length,rfl,Lib.hid (by omega),HB,HS0⟩
  case round =>
    clear HB
    obtain ⟨i,r,rfl,hkr,HB,HS⟩:=hrel
    cases r with
    | zero =>
      have hlt:¬ (i:Int) < (l.length:Int):=by have:=hkr.out;omega
      have HE:Hid (ordE err key l = 0):=Lib.hid (by rw [← HS.out,show i = l.length from hkr.out];exact ordF_end)
      go_wp2_with fail
      go_ret
      exact ⟨by first | (rw [HE.out];done) | (rw [HE.out];rfl),HB.out⟩
    | succ r =>
      have hkl:i < l.length:=by have:=hkr.out;omega
      have hlt:(i:Int) < (l.length:Int):=by omega
      have hi0:(0:Int) ≤ (i:Int):=by omega
      have hlo:i * 6 < 9223372036854775807:=by omega
      have hun:IntKind.i64.wrap ((i:Int) + 1) = (i:Int) + 1:=IntWalk.i64_in _ (by omega)
      obtain ⟨b,o,rfl,hb,hC⟩:=hv2.out (fun h => by subst h;exact absurd hkl (Nat.not_lt_zero _))
      obtain ⟨x,hx⟩:∃ x,x = l[i]'hkl:=⟨_,rfl⟩
      have hcell:=hC i hkl
      have hc1:=h1.out i hkl
      have hc2:=h2.out i hkl
      rw [← hx] at hcell hc1 hc2
      have x0:wr.cell? ⟨b,o + i * 6,none⟩ = some (.int .i64 (x.1.nu)):=(HB.out.cell (p:=⟨b,o + i * 6 + 0,none⟩) hb).trans (hcell 0 _ rfl)
      have x1:wr.cell? ⟨b,o + i * 6 + 1,none⟩ = some (.int .i64 (x.1.at_)):=(HB.out.cell (p:=⟨b,o + i * 6 + 1,none⟩) hb).trans (hcell 1 _ rfl)
      have x2:wr.cell? ⟨b,o + i * 6 + 2,none⟩ = some (.slice x.2.1 x.2.2.1 x.2.2.2):=(HB.out.cell (p:=⟨b,o + i * 6 + 2,none⟩) hb).trans (hcell 2 _ rfl)
      have x3:wr.cell? ⟨b,o + i * 6 + 3,none⟩ = some (.int .i64 (x.1.pe)):=(HB.out.cell (p:=⟨b,o + i * 6 + 3,none⟩) hb).trans (hcell 3 _ rfl)
      have x4:wr.cell? ⟨b,o + i * 6 + 4,none⟩ = some (.int .i64 (x.1.sp)):=(HB.out.cell (p:=⟨b,o + i * 6 + 4,none⟩) hb).trans (hcell 4 _ rfl)
      have x5:wr.cell? ⟨b,o + i * 6 + 5,none⟩ = some (.int .i64 (x.1.sz)):=(HB.out.cell (p:=⟨b,o + i * 6 + 5,none⟩) hb).trans (hcell 5 _ rfl)
      have hbr:b < wr.heap.size:=by have:=HB.out.size;omega
      clear hcell
      by_cases hz:err x = 0
      · by_cases hi0:i = 0
        · have hd:decide ((0:Int) < ((0:Nat):Int)) = false:=decide_eq_false (by omega)
          subst hi0
          have HS2:Hid (ordF err key (prevK key l (0 + 1)) (l.drop (0 + 1)) = ordE err key l):=Lib.hid (by rw [← HS.out];subst hx;exact (ordF_first hkl hz).symm)
          rw [hz] at hc1
          clear hz hc2 HS hC hb hx
          simp only [Nat.zero_mul,Nat.add_zero] at x0 x1 x2 x3 x4 x5
          have hG:=Blk.new wr 71 #[.int .i64 (x.1.nu),.int .i64 (x.1.at_),.slice x.2.1 x.2.2.1 x.2.2.2,.int .i64 (x.1.pe),.int .i64 (x.1.sp),.int .i64 (x.1.sz)]
          have HG:=Lib.hid hG;clear hG
          replace HB:=Lib.hid (HB.out.alloc HB.out.size (.cells #[.int .i64 (x.1.nu),.int .i64 (x.1.at_),.slice x.2.1 x.2.2.1 x.2.2.2,.int .i64 (x.1.pe),.int .i64 (x.1.sp),.int .i64 (x.1.sz)] 71))
          obtain ⟨g0,g1,g2,g3,g4,g5,gf0,gf1,gf2,gf3,gf4,gf5⟩:=HG.out.c6
          have HC1:=Lib.hid hc1;clear hc1
          go_wp2_with (first | (with_reducible refine ((HC1.out _ HB.out).mono ?_);rintro e w' ⟨rfl,hb⟩;replace HG:=Lib.hid (HG.out.keep hb);clear g0 g1 g2 g3 g4 g5 gf0 gf1 gf2 gf3 gf4 gf5;replace HB:=Lib.hid (bch' HB.out hb);clear hb;obtain ⟨g0,g1,g2,g3,g4,g5,gf0,gf1,gf2,gf3,gf4,gf5⟩:=HG.out.c6))
          have f0:=fun p:BelowOf _ => (HG.out.keep p.h).c6.1
          have f1:=fun p:BelowOf _ => (HG.out.keep p.h).c6.2.1
          have f2:=fun p:BelowOf _ => (HG.out.keep p.h).c6.2.2.1
          have f3:=fun p:BelowOf _ => (HG.out.keep p.h).c6.2.2.2.1
          have f4:=fun p:BelowOf _ => (HG.out.keep p.h).c6.2.2.2.2.1
          have f5:=fun p:BelowOf _ => (HG.out.keep p.h).c6.2.2.2.2.2.1
          refine wp_region_WQ (by kernel_rfl) (by kernel_rfl) ?_
          repeat (refine WQ.step (fun K hK => ?_);go_simp;first | (refine hK.out _ ?_;clear hK K) | (apply Exists.intro;refine ⟨fun _ => ?_,hK.out _ ?_⟩;(first | rfl);clear hK K))
          refine WQ.nil ?_
          intro _ hw'
          obtain ⟨⟨wq,hbq⟩,hw2⟩:=hw'
          subst hw2
          replace HB:=Lib.hid (bch' HB.out hbq)
          clear f0 f1 f2 f3 f4 f5
          go_wp2_with fail
          go_roundw
          case rel => exact ⟨0 + 1,r,by first | rfl | simp,Lib.hid (by have:=hkr.out;omega),HB,HS2⟩
          case measure => first | (simp [intOf];done) | (simp [intOf];omega)
        · have hi1:i - 1 < l.length:=by omega
          have hgi:(0:Int) < (i:Int):=by omega
          have hd:decide (0 < i) = true:=decide_eq_true (by omega)
          have hm1:IntKind.i64.wrap ((i:Int) - 1) = ((i - 1:Nat):Int):=by rw [IntWalk.i64_in _ (by omega)];omega
          have hlo1:(i - 1) * 6 < 9223372036854775807:=by omega
          obtain ⟨y,hy⟩:∃ y,y = l[i - 1]'hi1:=⟨_,rfl⟩
          have hcell1:=hC (i - 1) hi1
          have hd2:=h2.out (i - 1) hi1
          rw [← hy] at hcell1 hd2
          have HCY:=Lib.hid hcell1;have HBb:=Lib.hid hb;clear hcell1 hC hb
          have HY:=Lib.hid hy;clear hy
          rw [hz] at hc1
          have hG:=Blk.new wr 71 #[.int .i64 (x.1.nu),.int .i64 (x.1.at_),.slice x.2.1 x.2.2.1 x.2.2.2,.int .i64 (x.1.pe),.int .i64 (x.1.sp),.int .i64 (x.1.sz)]
          have HG:=Lib.hid hG;clear hG
          have HX:=Lib.hid hx
          replace HB:=Lib.hid (HB.out.alloc HB.out.size (.cells #[.int .i64 (x.1.nu),.int .i64 (x.1.at_),.slice x.2.1 x.2.2.1 x.2.2.2,.int .i64 (x.1.pe),.int .i64 (x.1.sp),.int .i64 (x.1.sz)] 71))
          obtain ⟨g0,g1,g2,g3,g4,g5,gf0,gf1,gf2,gf3,gf4,gf5⟩:=HG.out.c6
          have HC1:=Lib.hid hc1;clear hc1
          by_cases hle:key x ≤ key y
          · have HE:Hid (ordE err key l = 9):=Lib.hid (by rw [← HS.out];obtain ⟨i,rfl⟩:∃ m,i = m + 1:=⟨i - 1,by omega⟩;rw [HX.out,HY.out] at hle;exact ordF_low hkl (by rw [← HX.out];exact hz) hle)
            have hle2:decide (key x ≤ key y) = true:=decide_eq_true hle
            clear hle hz HS
            have HC2:=Lib.hid hc2;clear hc2
            have HD2:=Lib.hid hd2;clear hd2
            clear hx
            generalize key x = kx at *
            generalize key y = ky at *
            go_wp2_with (first | (with_reducible refine ((HC1.out _ HB.out).mono ?_);rintro e w' ⟨rfl,hb⟩;replace HG:=Lib.hid (HG.out.keep hb);clear g0 g1 g2 g3 g4 g5 gf0 gf1 gf2 gf3 gf4 gf5;replace HB:=Lib.hid (bch' HB.out hb);clear hb;obtain ⟨g0,g1,g2,g3,g4,g5,gf0,gf1,gf2,gf3,gf4,gf5⟩:=HG.out.c6))
            have f0:=fun p:BelowOf _ => (HG.out.keep p.h).c6.1
            have f1:=fun p:BelowOf _ => (HG.out.keep p.h).c6.2.1
            have f2:=fun p:BelowOf _ => (HG.out.keep p.h).c6.2.2.1
            have f3:=fun p:BelowOf _ => (HG.out.keep p.h).c6.2.2.2.1
            have f4:=fun p:BelowOf _ => (HG.out.keep p.h).c6.2.2.2.2.1
            have f5:=fun p:BelowOf _ => (HG.out.keep p.h).c6.2.2.2.2.2.1
            have e0:=fun p:BelowOf _ => ((bch' HB.out p.h).cell (p:=⟨b,o + (i - 1) * 6,none⟩) HBb.out).trans (HCY.out 0 _ rfl)
            have e1:=fun p:BelowOf _ => ((bch' HB.out p.h).cell (p:=⟨b,o + (i - 1) * 6 + 1,none⟩) HBb.out).trans (HCY.out 1 _ rfl)
            have e2:=fun p:BelowOf _ => ((bch' HB.out p.h).cell (p:=⟨b,o + (i - 1) * 6 + 2,none⟩) HBb.out).trans (HCY.out 2 _ rfl)
            have e3:=fun p:BelowOf _ => ((bch' HB.out p.h).cell (p:=⟨b,o + (i - 1) * 6 + 3,none⟩) HBb.out).trans (HCY.out 3 _ rfl)
            have e4:=fun p:BelowOf _ => ((bch' HB.out p.h).cell (p:=⟨b,o + (i - 1) * 6 + 4,none⟩) HBb.out).trans (HCY.out 4 _ rfl)
            have e5:=fun p:BelowOf _ => ((bch' HB.out p.h).cell (p:=⟨b,o + (i - 1) * 6 + 5,none⟩) HBb.out).trans (HCY.out 5 _ rfl)
            refine wp_region_WQ (by kernel_rfl) (by kernel_rfl) ?_
            repeat (refine WQ.step (fun K hK => ?_);go_simp;first | (refine hK.out _ ?_;clear hK K) | (apply Exists.intro;refine ⟨fun _ => ?_,hK.out _ ?_⟩;(first | rfl | (with_reducible exact calls_below_of _ (HC2.out _ (bch' HB.out (BelowOf.h _)))) | (with_reducible exact calls_below_of _ (HD2.out _ (bch' HB.out (BelowOf.h _)))));clear hK K))
            refine WQ.nil ?_
            intro _ hw'
            obtain ⟨⟨wq,hbq⟩,hw2⟩:=hw'
            subst hw2
            replace HB:=Lib.hid (bch' HB.out hbq)
            clear f0 f1 f2 f3 f4 f5 e0 e1 e2 e3 e4 e5
            go_wp2_with fail
            go_ret
            exact ⟨by first | (rw [HE.out];done) | (rw [HE.out];rfl),HB.out⟩
          · have HS2:Hid (ordF err key (prevK key l (i + 1)) (l.drop (i + 1)) = ordE err key l):=Lib.hid (by rw [← HS.out];obtain ⟨i,rfl⟩:∃ m,i = m + 1:=⟨i - 1,by omega⟩;rw [HX.out,HY.out] at hle;exact (ordF_next hkl (by rw [← HX.out];exact hz) hle).symm)
            have hle2:decide (key x ≤ key y) = false:=decide_eq_false hle
            clear hle hz HS
            have HC2:=Lib.hid hc2;clear hc2
            have HD2:=Lib.hid hd2;clear hd2
            clear hx
            generalize key x = kx at *
            generalize key y = ky at *
            go_wp2_with (first | (with_reducible refine ((HC1.out _ HB.out).mono ?_);rintro e w' ⟨rfl,hb⟩;replace HG:=Lib.hid (HG.out.keep hb);clear g0 g1 g2 g3 g4 g5 gf0 gf1 gf2 gf3 gf4 gf5;replace HB:=Lib.hid (bch' HB.out hb);clear hb;obtain ⟨g0,g1,g2,g3,g4,g5,gf0,gf1,gf2,gf3,gf4,gf5⟩:=HG.out.c6))
            have f0:=fun p:BelowOf _ => (HG.out.keep p.h).c6.1
            have f1:=fun p:BelowOf _ => (HG.out.keep p.h).c6.2.1
            have f2:=fun p:BelowOf _ => (HG.out.keep p.h).c6.2.2.1
            have f3:=fun p:BelowOf _ => (HG.out.keep p.h).c6.2.2.2.1
            have f4:=fun p:BelowOf _ => (HG.out.keep p.h).c6.2.2.2.2.1
            have f5:=fun p:BelowOf _ => (HG.out.keep p.h).c6.2.2.2.2.2.1
            have e0:=fun p:BelowOf _ => ((bch' HB.out p.h).cell (p:=⟨b,o + (i - 1) * 6,none⟩) HBb.out).trans (HCY.out 0 _ rfl)
            have e1:=fun p:BelowOf _ => ((bch' HB.out p.h).cell (p:=⟨b,o + (i - 1) * 6 + 1,none⟩) HBb.out).trans (HCY.out 1 _ rfl)
            have e2:=fun p:BelowOf _ => ((bch' HB.out p.h).cell (p:=⟨b,o + (i - 1) * 6 + 2,none⟩) HBb.out).trans (HCY.out 2 _ rfl)
            have e3:=fun p:BelowOf _ => ((bch' HB.out p.h).cell (p:=⟨b,o + (i - 1) * 6 + 3,none⟩) HBb.out).trans (HCY.out 3 _ rfl)
            have e4:=fun p:BelowOf _ => ((bch' HB.out p.h).cell (p:=⟨b,o + (i - 1) * 6 + 4,none⟩) HBb.out).trans (HCY.out 4 _ rfl)
            have e5:=fun p:BelowOf _ => ((bch' HB.out p.h).cell (p:=⟨b,o + (i - 1) * 6 + 5,none⟩) HBb.out).trans (HCY.out 5 _ rfl)
            refine wp_region_WQ (by kernel_rfl) (by kernel_rfl) ?_
            repeat (refine WQ.step (fun K hK => ?_);go_simp;first | (refine hK.out _ ?_;clear hK K) | (apply Exists.intro;refine ⟨fun _ => ?_,hK.out _ ?_⟩;(first | rfl | (with_reducible exact calls_below_of _ (HC2.out _ (bch' HB.out (BelowOf.h _)))) | (with_reducible exact calls_below_of _ (HD2.out _ (bch' HB.out (BelowOf.h _)))));clear hK K))
            refine WQ.nil ?_
            intro _ hw'
            obtain ⟨⟨wq,hbq⟩,hw2⟩:=hw'
            subst hw2
            replace HB:=Lib.hid (bch' HB.out hbq)
            clear f0 f1 f2 f3 f4 f5 e0 e1 e2 e3 e4 e5
            go_wp2_with fail
            go_roundw
            case rel => exact ⟨i + 1,r,by first | rfl | simp,Lib.hid (by have:=hkr.out;omega),HB,HS2⟩
            case measure => first | (simp [intOf];done) | (simp [intOf];omega)
      · have he:ordE err key l = err x:=by rw [← HS.out];subst hx;exact ordF_err hkl hz
        have HE:=Lib.hid he;clear he
        have hne:((err x:Int) != 0) = true:=by simpa using hz
        clear hz hc2 HS hC hb
        have hG:=Blk.new wr 71 #[.int .i64 (x.1.nu),.int .i64 (x.1.at_),.slice x.2.1 x.2.2.1 x.2.2.2,.int .i64 (x.1.pe),.int .i64 (x.1.sp),.int .i64 (x.1.sz)]
        have HG:=Lib.hid hG;clear hG
        replace HB:=Lib.hid (HB.out.alloc HB.out.size (.cells #[.int .i64 (x.1.nu),.int .i64 (x.1.at_),.slice x.2.1 x.2.2.1 x.2.2.2,.int .i64 (x.1.pe),.int .i64 (x.1.sp),.int .i64 (x.1.sz)] 71))
        obtain ⟨g0,g1,g2,g3,g4,g5,gf0,gf1,gf2,gf3,gf4,gf5⟩:=HG.out.c6
        have HC1:=Lib.hid hc1;clear hc1
        clear hx
        generalize err x = m at *
        go_wp2_with (first | (with_reducible refine ((HC1.out _ HB.out).mono ?_);rintro e w' ⟨rfl,hb⟩;replace HG:=Lib.hid (HG.out.keep hb);clear g0 g1 g2 g3 g4 g5 gf0 gf1 gf2 gf3 gf4 gf5;replace HB:=Lib.hid (bch' HB.out hb);clear hb;obtain ⟨g0,g1,g2,g3,g4,g5,gf0,gf1,gf2,gf3,gf4,gf5⟩:=HG.out.c6))
        go_ret
        exact ⟨by first | (rw [HE.out];done) | (rw [HE.out];rfl),HB.out⟩
theorem own_ordN (M1 M2 : FuncId) (l : List (Rnx × Sl3)) (pp : Option Addr) (cc : Nat) (err key : Rnx × Sl3 → Int) (w : World) (hR : RowX encN 6 w pp l) (hF1 : ∀ args w, (callFunc M1 args).run Tryz.prog w = .ok (.enter M1 args) w) (hF2 : ∀ args w, (callFunc M2 args).run Tryz.prog w = .ok (.enter M2 args) w)
    (hc1:∀ i (hi:i < l.length),∀ W,Below w.heap.size w W → Calls Tryz.prog M1 #[.agg #[.int .i64 ((l[i]'hi).1.ef),.slice (l[i]'hi).2.1 (l[i]'hi).2.2.1 (l[i]'hi).2.2.2,.int .i64 ((l[i]'hi).1.ce),.int .i64 ((l[i]'hi).1.cr),.int .i64 ((l[i]'hi).1.cd),.int .i64 ((l[i]'hi).1.cl)]] W fun e w' => e = .returned (.int .i64 (err (l[i]'hi))) ∧ Below W.heap.size W w')
    (hc2:∀ i (hi:i < l.length),∀ W,Below w.heap.size w W → Calls Tryz.prog M2 #[.agg #[.int .i64 ((l[i]'hi).1.ef),.slice (l[i]'hi).2.1 (l[i]'hi).2.2.1 (l[i]'hi).2.2.2,.int .i64 ((l[i]'hi).1.ce),.int .i64 ((l[i]'hi).1.cr),.int .i64 ((l[i]'hi).1.cd),.int .i64 ((l[i]'hi).1.cl)]] W fun e w' => e = .returned (.int .i64 (key (l[i]'hi))) ∧ Below W.heap.size W w') :
    Calls Tryz.prog 37 #[.slice pp l.length cc,.func (.func M1) #[] #[],.func (.func M2) #[] #[]] w fun e w' => e = .returned (.int .i64 (ordE err key l)) ∧ Below w.heap.size w w':=by
  have hv2:=Lib.hid hR;clear hR
  have h1:=Lib.hid hc1;clear hc1
  have h2:=Lib.hid hc2;clear hc2
  have HB:=Lib.hid (Below.refl w.heap.size w)
  by_cases hm:16 < l.length
  · have hm2:(16:Int) < (l.length:Int):=by omega
    rw [ordE_many hm]
    clear hv2 h1 h2
    go_enter Tryz.func37,Tryz.ntmps37
    go_wp2_with fail
    go_ret
    exact ⟨rfl,HB.out⟩
  have hm2:¬ (16:Int) < (l.length:Int):=by omega
  have HS0:Hid (ordF err key (prevK key l 0) (l.drop 0) = ordE err key l):=Lib.hid (ordE_few hm).symm
  go_enter Tryz.func37,Tryz.ntmps37
  go_wp2_with fail
  go_loopw [15] (fun s15 wr => ∃ i r:Nat,s15 = .int .i64 (i:Int) ∧ Hid (i + r = l.length) ∧ Hid (Below w.heap.size w wr) ∧ Hid (ordF err key (prevK key l i) (l.drop i) = ordE err key l)) (fun s15 _ => l.length - (intOf s15).toNat)
  case atStart => exact ⟨0,l.length,rfl,Lib.hid (by omega),HB,HS0⟩
  case round =>
    clear HB
    obtain ⟨i,r,rfl,hkr,HB,HS⟩:=hrel
    cases r with
    | zero =>
      have hlt:¬ (i:Int) < (l.length:Int):=by have:=hkr.out;omega
      have HE:Hid (ordE err key l = 0):=Lib.hid (by rw [← HS.out,show i = l.length from hkr.out];exact ordF_end)
      go_wp2_with fail
      go_ret
      exact ⟨by first | (rw [HE.out];done) | (rw [HE.out];rfl),HB.out⟩
    | succ r =>
      have hkl:i < l.length:=by have:=hkr.out;omega
      have hlt:(i:Int) < (l.length:Int):=by omega
      have hi0:(0:Int) ≤ (i:Int):=by omega
      have hlo:i * 6 < 9223372036854775807:=by omega
      have hun:IntKind.i64.wrap ((i:Int) + 1) = (i:Int) + 1:=IntWalk.i64_in _ (by omega)
      obtain ⟨b,o,rfl,hb,hC⟩:=hv2.out (fun h => by subst h;exact absurd hkl (Nat.not_lt_zero _))
      obtain ⟨x,hx⟩:∃ x,x = l[i]'hkl:=⟨_,rfl⟩
      have hcell:=hC i hkl
      have hc1:=h1.out i hkl
      have hc2:=h2.out i hkl
      rw [← hx] at hcell hc1 hc2
      have x0:wr.cell? ⟨b,o + i * 6,none⟩ = some (.int .i64 (x.1.ef)):=(HB.out.cell (p:=⟨b,o + i * 6 + 0,none⟩) hb).trans (hcell 0 _ rfl)
      have x1:wr.cell? ⟨b,o + i * 6 + 1,none⟩ = some (.slice x.2.1 x.2.2.1 x.2.2.2):=(HB.out.cell (p:=⟨b,o + i * 6 + 1,none⟩) hb).trans (hcell 1 _ rfl)
      have x2:wr.cell? ⟨b,o + i * 6 + 2,none⟩ = some (.int .i64 (x.1.ce)):=(HB.out.cell (p:=⟨b,o + i * 6 + 2,none⟩) hb).trans (hcell 2 _ rfl)
      have x3:wr.cell? ⟨b,o + i * 6 + 3,none⟩ = some (.int .i64 (x.1.cr)):=(HB.out.cell (p:=⟨b,o + i * 6 + 3,none⟩) hb).trans (hcell 3 _ rfl)
      have x4:wr.cell? ⟨b,o + i * 6 + 4,none⟩ = some (.int .i64 (x.1.cd)):=(HB.out.cell (p:=⟨b,o + i * 6 + 4,none⟩) hb).trans (hcell 4 _ rfl)
      have x5:wr.cell? ⟨b,o + i * 6 + 5,none⟩ = some (.int .i64 (x.1.cl)):=(HB.out.cell (p:=⟨b,o + i * 6 + 5,none⟩) hb).trans (hcell 5 _ rfl)
      have hbr:b < wr.heap.size:=by have:=HB.out.size;omega
      clear hcell
      by_cases hz:err x = 0
      · by_cases hi0:i = 0
        · have hd:decide ((0:Int) < ((0:Nat):Int)) = false:=decide_eq_false (by omega)
          subst hi0
          have HS2:Hid (ordF err key (prevK key l (0 + 1)) (l.drop (0 + 1)) = ordE err key l):=Lib.hid (by rw [← HS.out];subst hx;exact (ordF_first hkl hz).symm)
          rw [hz] at hc1
          clear hz hc2 HS hC hb hx
          simp only [Nat.zero_mul,Nat.add_zero] at x0 x1 x2 x3 x4 x5
          have hG:=Blk.new wr 68 #[.int .i64 (x.1.ef),.slice x.2.1 x.2.2.1 x.2.2.2,.int .i64 (x.1.ce),.int .i64 (x.1.cr),.int .i64 (x.1.cd),.int .i64 (x.1.cl)]
          have HG:=Lib.hid hG;clear hG
          replace HB:=Lib.hid (HB.out.alloc HB.out.size (.cells #[.int .i64 (x.1.ef),.slice x.2.1 x.2.2.1 x.2.2.2,.int .i64 (x.1.ce),.int .i64 (x.1.cr),.int .i64 (x.1.cd),.int .i64 (x.1.cl)] 68))
          obtain ⟨g0,g1,g2,g3,g4,g5,gf0,gf1,gf2,gf3,gf4,gf5⟩:=HG.out.c6
          have HC1:=Lib.hid hc1;clear hc1
          go_wp2_with (first | (with_reducible refine ((HC1.out _ HB.out).mono ?_);rintro e w' ⟨rfl,hb⟩;replace HG:=Lib.hid (HG.out.keep hb);clear g0 g1 g2 g3 g4 g5 gf0 gf1 gf2 gf3 gf4 gf5;replace HB:=Lib.hid (bch' HB.out hb);clear hb;obtain ⟨g0,g1,g2,g3,g4,g5,gf0,gf1,gf2,gf3,gf4,gf5⟩:=HG.out.c6))
          have f0:=fun p:BelowOf _ => (HG.out.keep p.h).c6.1
          have f1:=fun p:BelowOf _ => (HG.out.keep p.h).c6.2.1
          have f2:=fun p:BelowOf _ => (HG.out.keep p.h).c6.2.2.1
          have f3:=fun p:BelowOf _ => (HG.out.keep p.h).c6.2.2.2.1
          have f4:=fun p:BelowOf _ => (HG.out.keep p.h).c6.2.2.2.2.1
          have f5:=fun p:BelowOf _ => (HG.out.keep p.h).c6.2.2.2.2.2.1
          refine wp_region_WQ (by kernel_rfl) (by kernel_rfl) ?_
          repeat (refine WQ.step (fun K hK => ?_);go_simp;first | (refine hK.out _ ?_;clear hK K) | (apply Exists.intro;refine ⟨fun _ => ?_,hK.out _ ?_⟩;(first | rfl);clear hK K))
          refine WQ.nil ?_
          intro _ hw'
          obtain ⟨⟨wq,hbq⟩,hw2⟩:=hw'
          subst hw2
          replace HB:=Lib.hid (bch' HB.out hbq)
          clear f0 f1 f2 f3 f4 f5
          go_wp2_with fail
          go_roundw
          case rel => exact ⟨0 + 1,r,by first | rfl | simp,Lib.hid (by have:=hkr.out;omega),HB,HS2⟩
          case measure => first | (simp [intOf];done) | (simp [intOf];omega)
        · have hi1:i - 1 < l.length:=by omega
          have hgi:(0:Int) < (i:Int):=by omega
          have hd:decide (0 < i) = true:=decide_eq_true (by omega)
          have hm1:IntKind.i64.wrap ((i:Int) - 1) = ((i - 1:Nat):Int):=by rw [IntWalk.i64_in _ (by omega)];omega
          have hlo1:(i - 1) * 6 < 9223372036854775807:=by omega
          obtain ⟨y,hy⟩:∃ y,y = l[i - 1]'hi1:=⟨_,rfl⟩
          have hcell1:=hC (i - 1) hi1
          have hd2:=h2.out (i - 1) hi1
          rw [← hy] at hcell1 hd2
          have HCY:=Lib.hid hcell1;have HBb:=Lib.hid hb;clear hcell1 hC hb
          have HY:=Lib.hid hy;clear hy
          rw [hz] at hc1
          have hG:=Blk.new wr 68 #[.int .i64 (x.1.ef),.slice x.2.1 x.2.2.1 x.2.2.2,.int .i64 (x.1.ce),.int .i64 (x.1.cr),.int .i64 (x.1.cd),.int .i64 (x.1.cl)]
          have HG:=Lib.hid hG;clear hG
          have HX:=Lib.hid hx
          replace HB:=Lib.hid (HB.out.alloc HB.out.size (.cells #[.int .i64 (x.1.ef),.slice x.2.1 x.2.2.1 x.2.2.2,.int .i64 (x.1.ce),.int .i64 (x.1.cr),.int .i64 (x.1.cd),.int .i64 (x.1.cl)] 68))
          obtain ⟨g0,g1,g2,g3,g4,g5,gf0,gf1,gf2,gf3,gf4,gf5⟩:=HG.out.c6
          have HC1:=Lib.hid hc1;clear hc1
          by_cases hle:key x ≤ key y
          · have HE:Hid (ordE err key l = 9):=Lib.hid (by rw [← HS.out];obtain ⟨i,rfl⟩:∃ m,i = m + 1:=⟨i - 1,by omega⟩;rw [HX.out,HY.out] at hle;exact ordF_low hkl (by rw [← HX.out];exact hz) hle)
            have hle2:decide (key x ≤ key y) = true:=decide_eq_true hle
            clear hle hz HS
            have HC2:=Lib.hid hc2;clear hc2
            have HD2:=Lib.hid hd2;clear hd2
            clear hx
            generalize key x = kx at *
            generalize key y = ky at *
            go_wp2_with (first | (with_reducible refine ((HC1.out _ HB.out).mono ?_);rintro e w' ⟨rfl,hb⟩;replace HG:=Lib.hid (HG.out.keep hb);clear g0 g1 g2 g3 g4 g5 gf0 gf1 gf2 gf3 gf4 gf5;replace HB:=Lib.hid (bch' HB.out hb);clear hb;obtain ⟨g0,g1,g2,g3,g4,g5,gf0,gf1,gf2,gf3,gf4,gf5⟩:=HG.out.c6))
            have f0:=fun p:BelowOf _ => (HG.out.keep p.h).c6.1
            have f1:=fun p:BelowOf _ => (HG.out.keep p.h).c6.2.1
            have f2:=fun p:BelowOf _ => (HG.out.keep p.h).c6.2.2.1
            have f3:=fun p:BelowOf _ => (HG.out.keep p.h).c6.2.2.2.1
            have f4:=fun p:BelowOf _ => (HG.out.keep p.h).c6.2.2.2.2.1
            have f5:=fun p:BelowOf _ => (HG.out.keep p.h).c6.2.2.2.2.2.1
            have e0:=fun p:BelowOf _ => ((bch' HB.out p.h).cell (p:=⟨b,o + (i - 1) * 6,none⟩) HBb.out).trans (HCY.out 0 _ rfl)
            have e1:=fun p:BelowOf _ => ((bch' HB.out p.h).cell (p:=⟨b,o + (i - 1) * 6 + 1,none⟩) HBb.out).trans (HCY.out 1 _ rfl)
            have e2:=fun p:BelowOf _ => ((bch' HB.out p.h).cell (p:=⟨b,o + (i - 1) * 6 + 2,none⟩) HBb.out).trans (HCY.out 2 _ rfl)
            have e3:=fun p:BelowOf _ => ((bch' HB.out p.h).cell (p:=⟨b,o + (i - 1) * 6 + 3,none⟩) HBb.out).trans (HCY.out 3 _ rfl)
            have e4:=fun p:BelowOf _ => ((bch' HB.out p.h).cell (p:=⟨b,o + (i - 1) * 6 + 4,none⟩) HBb.out).trans (HCY.out 4 _ rfl)
            have e5:=fun p:BelowOf _ => ((bch' HB.out p.h).cell (p:=⟨b,o + (i - 1) * 6 + 5,none⟩) HBb.out).trans (HCY.out 5 _ rfl)
            refine wp_region_WQ (by kernel_rfl) (by kernel_rfl) ?_
            repeat (refine WQ.step (fun K hK => ?_);go_simp;first | (refine hK.out _ ?_;clear hK K) | (apply Exists.intro;refine ⟨fun _ => ?_,hK.out _ ?_⟩;(first | rfl | (with_reducible exact calls_below_of _ (HC2.out _ (bch' HB.out (BelowOf.h _)))) | (with_reducible exact calls_below_of _ (HD2.out _ (bch' HB.out (BelowOf.h _)))));clear hK K))
            refine WQ.nil ?_
            intro _ hw'
            obtain ⟨⟨wq,hbq⟩,hw2⟩:=hw'
            subst hw2
            replace HB:=Lib.hid (bch' HB.out hbq)
            clear f0 f1 f2 f3 f4 f5 e0 e1 e2 e3 e4 e5
            go_wp2_with fail
            go_ret
            exact ⟨by first | (rw [HE.out];done) | (rw [HE.out];rfl),HB.out⟩
          · have HS2:Hid (ordF err key (prevK key l (i + 1)) (l.drop (i + 1)) = ordE err key l):=Lib.hid (by rw [← HS.out];obtain ⟨i,rfl⟩:∃ m,i = m + 1:=⟨i - 1,by omega⟩;rw [HX.out,HY.out] at hle;exact (ordF_next hkl (by rw [← HX.out];exact hz) hle).symm)
            have hle2:decide (key x ≤ key y) = false:=decide_eq_false hle
            clear hle hz HS
            have HC2:=Lib.hid hc2;clear hc2
            have HD2:=Lib.hid hd2;clear hd2
            clear hx
            generalize key x = kx at *
            generalize key y = ky at *
            go_wp2_with (first | (with_reducible refine ((HC1.out _ HB.out).mono ?_);rintro e w' ⟨rfl,hb⟩;replace HG:=Lib.hid (HG.out.keep hb);clear g0 g1 g2 g3 g4 g5 gf0 gf1 gf2 gf3 gf4 gf5;replace HB:=Lib.hid (bch' HB.out hb);clear hb;obtain ⟨g0,g1,g2,g3,g4,g5,gf0,gf1,gf2,gf3,gf4,gf5⟩:=HG.out.c6))
            have f0:=fun p:BelowOf _ => (HG.out.keep p.h).c6.1
            have f1:=fun p:BelowOf _ => (HG.out.keep p.h).c6.2.1
            have f2:=fun p:BelowOf _ => (HG.out.keep p.h).c6.2.2.1
            have f3:=fun p:BelowOf _ => (HG.out.keep p.h).c6.2.2.2.1
            have f4:=fun p:BelowOf _ => (HG.out.keep p.h).c6.2.2.2.2.1
            have f5:=fun p:BelowOf _ => (HG.out.keep p.h).c6.2.2.2.2.2.1
            have e0:=fun p:BelowOf _ => ((bch' HB.out p.h).cell (p:=⟨b,o + (i - 1) * 6,none⟩) HBb.out).trans (HCY.out 0 _ rfl)
            have e1:=fun p:BelowOf _ => ((bch' HB.out p.h).cell (p:=⟨b,o + (i - 1) * 6 + 1,none⟩) HBb.out).trans (HCY.out 1 _ rfl)
            have e2:=fun p:BelowOf _ => ((bch' HB.out p.h).cell (p:=⟨b,o + (i - 1) * 6 + 2,none⟩) HBb.out).trans (HCY.out 2 _ rfl)
            have e3:=fun p:BelowOf _ => ((bch' HB.out p.h).cell (p:=⟨b,o + (i - 1) * 6 + 3,none⟩) HBb.out).trans (HCY.out 3 _ rfl)
            have e4:=fun p:BelowOf _ => ((bch' HB.out p.h).cell (p:=⟨b,o + (i - 1) * 6 + 4,none⟩) HBb.out).trans (HCY.out 4 _ rfl)
            have e5:=fun p:BelowOf _ => ((bch' HB.out p.h).cell (p:=⟨b,o + (i - 1) * 6 + 5,none⟩) HBb.out).trans (HCY.out 5 _ rfl)
            refine wp_region_WQ (by kernel_rfl) (by kernel_rfl) ?_
            repeat (refine WQ.step (fun K hK => ?_);go_simp;first | (refine hK.out _ ?_;clear hK K) | (apply Exists.intro;refine ⟨fun _ => ?_,hK.out _ ?_⟩;(first | rfl | (with_reducible exact calls_below_of _ (HC2.out _ (bch' HB.out (BelowOf.h _)))) | (with_reducible exact calls_below_of _ (HD2.out _ (bch' HB.out (BelowOf.h _)))));clear hK K))
            refine WQ.nil ?_
            intro _ hw'
            obtain ⟨⟨wq,hbq⟩,hw2⟩:=hw'
            subst hw2
            replace HB:=Lib.hid (bch' HB.out hbq)
            clear f0 f1 f2 f3 f4 f5 e0 e1 e2 e3 e4 e5
            go_wp2_with fail
            go_roundw
            case rel => exact ⟨i + 1,r,by first | rfl | simp,Lib.hid (by have:=hkr.out;omega),HB,HS2⟩
            case measure => first | (simp [intOf];done) | (simp [intOf];omega)
      · have he:ordE err key l = err x:=by rw [← HS.out];subst hx;exact ordF_err hkl hz
        have HE:=Lib.hid he;clear he
        have hne:((err x:Int) != 0) = true:=by simpa using hz
        clear hz hc2 HS hC hb
        have hG:=Blk.new wr 68 #[.int .i64 (x.1.ef),.slice x.2.1 x.2.2.1 x.2.2.2,.int .i64 (x.1.ce),.int .i64 (x.1.cr),.int .i64 (x.1.cd),.int .i64 (x.1.cl)]
        have HG:=Lib.hid hG;clear hG
        replace HB:=Lib.hid (HB.out.alloc HB.out.size (.cells #[.int .i64 (x.1.ef),.slice x.2.1 x.2.2.1 x.2.2.2,.int .i64 (x.1.ce),.int .i64 (x.1.cr),.int .i64 (x.1.cd),.int .i64 (x.1.cl)] 68))
        obtain ⟨g0,g1,g2,g3,g4,g5,gf0,gf1,gf2,gf3,gf4,gf5⟩:=HG.out.c6
        have HC1:=Lib.hid hc1;clear hc1
        clear hx
        generalize err x = m at *
        go_wp2_with (first | (with_reducible refine ((HC1.out _ HB.out).mono ?_);rintro e w' ⟨rfl,hb⟩;replace HG:=Lib.hid (HG.out.keep hb);clear g0 g1 g2 g3 g4 g5 gf0 gf1 gf2 gf3 gf4 gf5;replace HB:=Lib.hid (bch' HB.out hb);clear hb;obtain ⟨g0,g1,g2,g3,g4,g5,gf0,gf1,gf2,gf3,gf4,gf5⟩:=HG.out.c6))
        go_ret
        exact ⟨by first | (rw [HE.out];done) | (rw [HE.out];rfl),HB.out⟩
theorem own_echeck (l : List Efx) (v : Value) (w : World) (hv : EfsAt w v l) :
    Calls Tryz.prog 98 #[v] w fun e w' => e = .returned (.int .i64 (ordE efE (·.nu) l)) ∧ Below w.heap.size w w':=by
  obtain ⟨L,p,c,rfl,hL,hR,hH⟩:=hv
  have ho := own_ordE 76 56 L p c (fun x => efE x.1) (fun x => x.1.nu) w hR (enters_of Tryz.func76 (by kernel_rfl) rfl) (enters_of Tryz.func56 (by kernel_rfl) rfl)
    (fun i hi W hb => own_eright _ _ _ _ _ _ _ _ _ W (PtsAt.below (hH _ (List.getElem_mem hi)) hb)) (fun i hi W _ => own_enumber _ _ _ _ _ _ _ _ W)
  rw [← ordE_map (fun x => x.1) efE (fun y => y.nu) L,hL] at ho
  have HO:=Lib.hid ho;clear ho hR hH hL
  generalize ordE efE _ l = m at *
  have HB:=Lib.hid (Below.refl w.heap.size w)
  go_enter Tryz.func98,Tryz.ntmps98
  go_wp2_with (with_reducible refine (HO.out.mono ?_);rintro e w' ⟨rfl,hb⟩;replace HB:=Lib.hid hb;clear hb)
  go_ret
  exact ⟨rfl,HB.out⟩
end Go.Proofs.YtbeojahilbglcaaGreatDoor
namespace Lum
open Go Go.RowKit Go.Shelf
open Go.Lib (decDigits itoa)
def ofsT (x:Efx) (i k el:Int):Txt × Int:=if efE x ≠ 0 then ([],efE x) else if ofB i k el then (showR (offQ x i k el),0) else ([],2)
theorem ofsT_ef {x:Efx} {i k el:Int} (h:¬ efE x = 0):ofsT x i k el = ([],efE x):=by unfold ofsT;rw [if_pos h]
theorem ofsT_out {x:Efx} {i k el:Int} (h:efE x = 0) (h2:¬ ofB i k el):ofsT x i k el = ([],2):=by unfold ofsT;rw [if_neg (by simpa using h),if_neg h2]
theorem ofsT_ok {x:Efx} {i k el:Int} (h:efE x = 0) (h2:ofB i k el):ofsT x i k el = (showR (offQ x i k el),0):=by unfold ofsT;rw [if_neg (by simpa using h),if_pos h2]
theorem ofC_ofB {i k el:Int} (h:ofB i k el):ofC i k el:=by unfold ofB at h;exact ⟨by omega,by omega,by omega⟩
end Lum
namespace Go.Proofs.YtbeojahilbglcaaGreatDoor
open Go.RowKit Go.Shelf Lum
open Go.Lib (decDigits itoa)
attribute [local go_sem] bs_get bs_extract_end bs_extract_from bs_extract bs_append
theorem own_eoffset (x : Efx × Sl3) (i k el : Int) (w : World) (hv : PtsAt w (.slice x.2.1 x.2.2.1 x.2.2.2) x.1.wv) (hx : EfOk x.1) (hb : ofC i k el) (env : Env w) :
    Calls Tryz.prog 77 #[.agg #[.int .i64 (x.1.nu),.int .i64 (x.1.at_),.slice x.2.1 x.2.2.1 x.2.2.2,.int .i64 (x.1.pe),.int .i64 (x.1.sp),.int .i64 (x.1.sz)],.int .i64 i,.int .i64 k,.int .i64 el] w fun e w' => e = .returned (.tuple #[.string ⟨(showR (offQ x.1 i k el)).toArray⟩,.int .i64 0]) ∧ Below w.heap.size w w':=by
  obtain ⟨k1,i1,el1⟩:=hb
  have hp:=hx.pe
  have hs:=hx.sp
  have hz9:=hx.sz
  have hi:0 ≤ x.1.sp * i:=Int.mul_nonneg hs.1 (by omega)
  have hi2:x.1.sp * i ≤ 1000 * 256:=Int.mul_le_mul hs.2 (by omega) (by omega) (by omega)
  have e1:IntKind.i64.wrap (10 * el) = 10 * el:=IntWalk.i64_in _ (by omega)
  have e2:IntKind.i64.wrap (x.1.sp * i) = x.1.sp * i:=IntWalk.i64_in _ (by omega)
  have f1:Fits 12 (Rat.divInt (10 * el) x.1.pe):=fits_div (by omega) ⟨by omega,by omega⟩ (by omega) (by omega)
  have f2:Fits 7 (Rat.divInt (x.1.sp * i) k):=fits_div (by omega) ⟨by omega,by omega⟩ (by omega) (by omega)
  have f3:Fits 5 (Rat.divInt x.1.sz 1000):=fits_div (by omega) ⟨by omega,by omega⟩ (by omega) (by omega)
  have f4:=atQ_fits2 hx ⟨k1,i1,el1⟩
  have wv:=wvE_zero hx.wv
  have hhi:=wv.hi
  have f5:=fits_hgtK wv f4
  have hp1:=fun W (e:Env W) => own_part (10 * el) x.1.pe W (by omega) (by omega) (by omega) (by omega) e
  rw [show partT (10 * el) x.1.pe = (showR (Rat.divInt (10 * el) x.1.pe),0) by unfold partT;rw [if_neg (by omega)]] at hp1
  have hp2:=fun W (e:Env W) => own_part (x.1.sp * i) k W (by omega) (by omega) (by omega) (by omega) e
  rw [show partT (x.1.sp * i) k = (showR (Rat.divInt (x.1.sp * i) k),0) by unfold partT;rw [if_neg (by omega)]] at hp2
  have hp3:=fun W (e:Env W) => own_part x.1.sz 1000 W (by omega) (by omega) (by omega) (by omega) e
  rw [show partT x.1.sz 1000 = (showR (Rat.divInt x.1.sz 1000),0) by unfold partT;rw [if_neg (by omega)]] at hp3
  have had:=fun W (e:Env W) => own_radd (showR (Rat.divInt (10 * el) x.1.pe)) (showR (Rat.divInt (x.1.sp * i) k)) W e (len_ok f1 (by omega)) (len_ok f2 (by omega))
  rw [add_gen f1 f2 (by omega)] at had
  have hat:=fun W (e:Env W) (h:PtsAt W (.slice x.2.1 x.2.2.1 x.2.2.2) x.1.wv) => own_at_ok x.1.wv (.slice x.2.1 x.2.2.1 x.2.2.2) (atQ x.1 i k el) W h (by omega) hx.wv (f4.mono (by omega)) e
  have hmu:=fun W (e:Env W) => own_rmul (showR (hgtW x.1.wv (atQ x.1 i k el))) (showR (Rat.divInt x.1.sz 1000)) W e (len_ok f5 (by omega)) (len_ok f3 (by omega))
  rw [mul_gen f5 f3 (by omega)] at hmu
  dsimp only at hp1 hp2 hp3 had hmu
  change ∀ W (e:Env W),Calls _ _ _ _ (fun e w' => e = .returned (.tuple #[.string ⟨(showR (atQ x.1 i k el)).toArray⟩,.int .i64 0]) ∧ _) at had
  change ∀ W (e:Env W),Calls _ _ _ _ (fun e w' => e = .returned (.tuple #[.string ⟨(showR (offQ x.1 i k el)).toArray⟩,.int .i64 0]) ∧ _) at hmu
  clear f1 f2 f3 f4 f5 wv hhi hp hs hz9 hi hi2 hx k1 i1 el1
  have HV:=Lib.hid (PtsAt.below hv ((Below.refl w.heap.size w).alloc (Nat.le_refl _) (.cells #[.int .i64 (x.1.nu),.int .i64 (x.1.at_),.slice x.2.1 x.2.2.1 x.2.2.2,.int .i64 (x.1.pe),.int .i64 (x.1.sp),.int .i64 (x.1.sz)] 71)))
  clear hv
  have ENV:=Lib.hid env;clear env
  have HK:=Lib.hid (Blk.new w 71 #[.int .i64 (x.1.nu),.int .i64 (x.1.at_),.slice x.2.1 x.2.2.1 x.2.2.2,.int .i64 (x.1.pe),.int .i64 (x.1.sp),.int .i64 (x.1.sz)])
  have HB:=Lib.hid ((Below.refl w.heap.size w).alloc (Nat.le_refl _) (.cells #[.int .i64 (x.1.nu),.int .i64 (x.1.at_),.slice x.2.1 x.2.2.1 x.2.2.2,.int .i64 (x.1.pe),.int .i64 (x.1.sp),.int .i64 (x.1.sz)] 71))
  obtain ⟨k0,k1,k2,k3,k4,k5,kf0,kf1,kf2,kf3,kf4,kf5⟩:=HK.out.c6
  generalize showR (offQ x.1 i k el) = tr at *
  generalize showR (hgtW x.1.wv (atQ x.1 i k el)) = th at *
  generalize showR (atQ x.1 i k el) = ta at *
  generalize showR (Rat.divInt x.1.sz 1000) = tz at *
  generalize showR (Rat.divInt (x.1.sp * i) k) = ts at *
  generalize showR (Rat.divInt (10 * el) x.1.pe) = tt at *
  have HP1:=Lib.hid hp1;clear hp1
  have HP2:=Lib.hid hp2;clear hp2
  have HP3:=Lib.hid hp3;clear hp3
  have HAD:=Lib.hid had;clear had
  have HAT:=Lib.hid hat;clear hat
  have HMU:=Lib.hid hmu;clear hmu
  go_enter Tryz.func77,Tryz.ntmps77
  go_wp2_with (first | (with_reducible refine ((HP1.out _ (ENV.out.below HB.out)).mono ?_);rintro e w' ⟨rfl,hb⟩;replace HK:=Lib.hid (HK.out.keep hb);clear k0 k1 k2 k3 k4 k5 kf0 kf1 kf2 kf3 kf4 kf5;replace HV:=Lib.hid (PtsAt.below HV.out hb);replace HB:=Lib.hid (bch' HB.out hb);clear hb;obtain ⟨k0,k1,k2,k3,k4,k5,kf0,kf1,kf2,kf3,kf4,kf5⟩:=HK.out.c6) | (with_reducible refine ((HP2.out _ (ENV.out.below HB.out)).mono ?_);rintro e w' ⟨rfl,hb⟩;replace HK:=Lib.hid (HK.out.keep hb);clear k0 k1 k2 k3 k4 k5 kf0 kf1 kf2 kf3 kf4 kf5;replace HV:=Lib.hid (PtsAt.below HV.out hb);replace HB:=Lib.hid (bch' HB.out hb);clear hb;obtain ⟨k0,k1,k2,k3,k4,k5,kf0,kf1,kf2,kf3,kf4,kf5⟩:=HK.out.c6) | (with_reducible refine ((HP3.out _ (ENV.out.below HB.out)).mono ?_);rintro e w' ⟨rfl,hb⟩;replace HK:=Lib.hid (HK.out.keep hb);clear k0 k1 k2 k3 k4 k5 kf0 kf1 kf2 kf3 kf4 kf5;replace HV:=Lib.hid (PtsAt.below HV.out hb);replace HB:=Lib.hid (bch' HB.out hb);clear hb;obtain ⟨k0,k1,k2,k3,k4,k5,kf0,kf1,kf2,kf3,kf4,kf5⟩:=HK.out.c6) | (with_reducible refine ((HAD.out _ (ENV.out.below HB.out)).mono ?_);rintro e w' ⟨rfl,hb⟩;replace HK:=Lib.hid (HK.out.keep hb);clear k0 k1 k2 k3 k4 k5 kf0 kf1 kf2 kf3 kf4 kf5;replace HV:=Lib.hid (PtsAt.below HV.out hb);replace HB:=Lib.hid (bch' HB.out hb);clear hb;obtain ⟨k0,k1,k2,k3,k4,k5,kf0,kf1,kf2,kf3,kf4,kf5⟩:=HK.out.c6) | (with_reducible refine ((HMU.out _ (ENV.out.below HB.out)).mono ?_);rintro e w' ⟨rfl,hb⟩;replace HK:=Lib.hid (HK.out.keep hb);clear k0 k1 k2 k3 k4 k5 kf0 kf1 kf2 kf3 kf4 kf5;replace HV:=Lib.hid (PtsAt.below HV.out hb);replace HB:=Lib.hid (bch' HB.out hb);clear hb;obtain ⟨k0,k1,k2,k3,k4,k5,kf0,kf1,kf2,kf3,kf4,kf5⟩:=HK.out.c6) | (with_reducible refine ((HAT.out _ (ENV.out.below HB.out) HV.out).mono ?_);rintro e w' ⟨rfl,hb⟩;replace HK:=Lib.hid (HK.out.keep hb);clear k0 k1 k2 k3 k4 k5 kf0 kf1 kf2 kf3 kf4 kf5;replace HV:=Lib.hid (PtsAt.below HV.out hb);replace HB:=Lib.hid (bch' HB.out hb);clear hb;obtain ⟨k0,k1,k2,k3,k4,k5,kf0,kf1,kf2,kf3,kf4,kf5⟩:=HK.out.c6))
  go_ret2
  exact ⟨rfl,HB.out⟩
theorem own_eOffset (x : Efx × Sl3) (i k el : Int) (w : World) (hv : PtsAt w (.slice x.2.1 x.2.2.1 x.2.2.2) x.1.wv) (env : Env w) :
    Calls Tryz.prog 29 #[.agg #[.int .i64 (x.1.nu),.int .i64 (x.1.at_),.slice x.2.1 x.2.2.1 x.2.2.2,.int .i64 (x.1.pe),.int .i64 (x.1.sp),.int .i64 (x.1.sz)],.int .i64 i,.int .i64 k,.int .i64 el] w fun e w' => e = .returned (.tuple #[.string ⟨((ofsT x.1 i k el).1).toArray⟩,.int .i64 ((ofsT x.1 i k el).2)]) ∧ Below w.heap.size w w':=by
  have hrt:=fun W (h:PtsAt W (.slice x.2.1 x.2.2.1 x.2.2.2) x.1.wv) => own_eright x.1.nu x.1.at_ x.1.pe x.1.sp x.1.sz x.1.wv x.2.1 x.2.2.1 x.2.2.2 W h
  change ∀ W,PtsAt W (.slice x.2.1 x.2.2.1 x.2.2.2) x.1.wv → Calls _ _ _ _ (fun e w' => e = .returned (.int .i64 (efE x.1)) ∧ _) at hrt
  have HV:=Lib.hid (PtsAt.below hv ((Below.refl w.heap.size w).alloc (Nat.le_refl _) (.cells #[.int .i64 (x.1.nu),.int .i64 (x.1.at_),.slice x.2.1 x.2.2.1 x.2.2.2,.int .i64 (x.1.pe),.int .i64 (x.1.sp),.int .i64 (x.1.sz)] 71)))
  clear hv
  have ENV:=Lib.hid env;clear env
  have HK:=Lib.hid (Blk.new w 71 #[.int .i64 (x.1.nu),.int .i64 (x.1.at_),.slice x.2.1 x.2.2.1 x.2.2.2,.int .i64 (x.1.pe),.int .i64 (x.1.sp),.int .i64 (x.1.sz)])
  have HB:=Lib.hid ((Below.refl w.heap.size w).alloc (Nat.le_refl _) (.cells #[.int .i64 (x.1.nu),.int .i64 (x.1.at_),.slice x.2.1 x.2.2.1 x.2.2.2,.int .i64 (x.1.pe),.int .i64 (x.1.sp),.int .i64 (x.1.sz)] 71))
  obtain ⟨k0,k1,k2,k3,k4,k5,kf0,kf1,kf2,kf3,kf4,kf5⟩:=HK.out.c6
  by_cases hz:efE x.1 = 0
  · rw [hz] at hrt
    by_cases o0:k < 1
    · rw [ofsT_out hz (by unfold ofB;omega)]
      clear hz
      have HRT:=Lib.hid hrt;clear hrt
      go_enter Tryz.func29,Tryz.ntmps29
      go_wp2_with (first | (with_reducible refine ((HRT.out _ HV.out).mono ?_);rintro e w' ⟨rfl,hb⟩;replace HK:=Lib.hid (HK.out.keep hb);clear k0 k1 k2 k3 k4 k5 kf0 kf1 kf2 kf3 kf4 kf5;replace HV:=Lib.hid (PtsAt.below HV.out hb);replace HB:=Lib.hid (bch' HB.out hb);clear hb;obtain ⟨k0,k1,k2,k3,k4,k5,kf0,kf1,kf2,kf3,kf4,kf5⟩:=HK.out.c6))
      go_ret2
      exact ⟨rfl,HB.out⟩
    by_cases o1:256 < k
    · rw [ofsT_out hz (by unfold ofB;omega)]
      clear hz
      have HRT:=Lib.hid hrt;clear hrt
      go_enter Tryz.func29,Tryz.ntmps29
      go_wp2_with (first | (with_reducible refine ((HRT.out _ HV.out).mono ?_);rintro e w' ⟨rfl,hb⟩;replace HK:=Lib.hid (HK.out.keep hb);clear k0 k1 k2 k3 k4 k5 kf0 kf1 kf2 kf3 kf4 kf5;replace HV:=Lib.hid (PtsAt.below HV.out hb);replace HB:=Lib.hid (bch' HB.out hb);clear hb;obtain ⟨k0,k1,k2,k3,k4,k5,kf0,kf1,kf2,kf3,kf4,kf5⟩:=HK.out.c6))
      go_ret2
      exact ⟨rfl,HB.out⟩
    by_cases o2:i < 0
    · rw [ofsT_out hz (by unfold ofB;omega)]
      clear hz
      have HRT:=Lib.hid hrt;clear hrt
      go_enter Tryz.func29,Tryz.ntmps29
      go_wp2_with (first | (with_reducible refine ((HRT.out _ HV.out).mono ?_);rintro e w' ⟨rfl,hb⟩;replace HK:=Lib.hid (HK.out.keep hb);clear k0 k1 k2 k3 k4 k5 kf0 kf1 kf2 kf3 kf4 kf5;replace HV:=Lib.hid (PtsAt.below HV.out hb);replace HB:=Lib.hid (bch' HB.out hb);clear hb;obtain ⟨k0,k1,k2,k3,k4,k5,kf0,kf1,kf2,kf3,kf4,kf5⟩:=HK.out.c6))
      go_ret2
      exact ⟨rfl,HB.out⟩
    by_cases o3:k ≤ i
    · rw [ofsT_out hz (by unfold ofB;omega)]
      clear hz
      have HRT:=Lib.hid hrt;clear hrt
      go_enter Tryz.func29,Tryz.ntmps29
      go_wp2_with (first | (with_reducible refine ((HRT.out _ HV.out).mono ?_);rintro e w' ⟨rfl,hb⟩;replace HK:=Lib.hid (HK.out.keep hb);clear k0 k1 k2 k3 k4 k5 kf0 kf1 kf2 kf3 kf4 kf5;replace HV:=Lib.hid (PtsAt.below HV.out hb);replace HB:=Lib.hid (bch' HB.out hb);clear hb;obtain ⟨k0,k1,k2,k3,k4,k5,kf0,kf1,kf2,kf3,kf4,kf5⟩:=HK.out.c6))
      go_ret2
      exact ⟨rfl,HB.out⟩
    by_cases o4:el < 0
    · rw [ofsT_out hz (by unfold ofB;omega)]
      clear hz
      have HRT:=Lib.hid hrt;clear hrt
      go_enter Tryz.func29,Tryz.ntmps29
      go_wp2_with (first | (with_reducible refine ((HRT.out _ HV.out).mono ?_);rintro e w' ⟨rfl,hb⟩;replace HK:=Lib.hid (HK.out.keep hb);clear k0 k1 k2 k3 k4 k5 kf0 kf1 kf2 kf3 kf4 kf5;replace HV:=Lib.hid (PtsAt.below HV.out hb);replace HB:=Lib.hid (bch' HB.out hb);clear hb;obtain ⟨k0,k1,k2,k3,k4,k5,kf0,kf1,kf2,kf3,kf4,kf5⟩:=HK.out.c6))
      go_ret2
      exact ⟨rfl,HB.out⟩
    by_cases o5:8000000000 < el
    · rw [ofsT_out hz (by unfold ofB;omega)]
      clear hz
      have HRT:=Lib.hid hrt;clear hrt
      go_enter Tryz.func29,Tryz.ntmps29
      go_wp2_with (first | (with_reducible refine ((HRT.out _ HV.out).mono ?_);rintro e w' ⟨rfl,hb⟩;replace HK:=Lib.hid (HK.out.keep hb);clear k0 k1 k2 k3 k4 k5 kf0 kf1 kf2 kf3 kf4 kf5;replace HV:=Lib.hid (PtsAt.below HV.out hb);replace HB:=Lib.hid (bch' HB.out hb);clear hb;obtain ⟨k0,k1,k2,k3,k4,k5,kf0,kf1,kf2,kf3,kf4,kf5⟩:=HK.out.c6))
      go_ret2
      exact ⟨rfl,HB.out⟩
    have hob:ofB i k el:=by unfold ofB;omega
    rw [ofsT_ok hz hob]
    have hof:=fun W (e:Env W) (h:PtsAt W (.slice x.2.1 x.2.2.1 x.2.2.2) x.1.wv) => own_eoffset x i k el W h (efOk hz) (ofC_ofB hob) e
    dsimp only
    clear hz hob
    generalize showR (offQ x.1 i k el) = tr at *
    have HRT:=Lib.hid hrt;clear hrt
    have HOF:=Lib.hid hof;clear hof
    go_enter Tryz.func29,Tryz.ntmps29
    go_wp2_with (first | (with_reducible refine ((HRT.out _ HV.out).mono ?_);rintro e w' ⟨rfl,hb⟩;replace HK:=Lib.hid (HK.out.keep hb);clear k0 k1 k2 k3 k4 k5 kf0 kf1 kf2 kf3 kf4 kf5;replace HV:=Lib.hid (PtsAt.below HV.out hb);replace HB:=Lib.hid (bch' HB.out hb);clear hb;obtain ⟨k0,k1,k2,k3,k4,k5,kf0,kf1,kf2,kf3,kf4,kf5⟩:=HK.out.c6) | (with_reducible refine ((HOF.out _ (ENV.out.below HB.out) HV.out).mono ?_);rintro e w' ⟨rfl,hb⟩;replace HK:=Lib.hid (HK.out.keep hb);clear k0 k1 k2 k3 k4 k5 kf0 kf1 kf2 kf3 kf4 kf5;replace HV:=Lib.hid (PtsAt.below HV.out hb);replace HB:=Lib.hid (bch' HB.out hb);clear hb;obtain ⟨k0,k1,k2,k3,k4,k5,kf0,kf1,kf2,kf3,kf4,kf5⟩:=HK.out.c6))
    go_ret2
    exact ⟨rfl,HB.out⟩
  · have hne:((efE x.1:Int) != 0) = true:=by simpa using hz
    rw [ofsT_ef hz]
    dsimp only
    clear hz
    generalize efE x.1 = m at *
    have HRT:=Lib.hid hrt;clear hrt
    go_enter Tryz.func29,Tryz.ntmps29
    go_wp2_with (first | (with_reducible refine ((HRT.out _ HV.out).mono ?_);rintro e w' ⟨rfl,hb⟩;replace HK:=Lib.hid (HK.out.keep hb);clear k0 k1 k2 k3 k4 k5 kf0 kf1 kf2 kf3 kf4 kf5;replace HV:=Lib.hid (PtsAt.below HV.out hb);replace HB:=Lib.hid (bch' HB.out hb);clear hb;obtain ⟨k0,k1,k2,k3,k4,k5,kf0,kf1,kf2,kf3,kf4,kf5⟩:=HK.out.c6))
    go_ret2
    exact ⟨rfl,HB.out⟩
end Go.Proofs.YtbeojahilbglcaaGreatDoor

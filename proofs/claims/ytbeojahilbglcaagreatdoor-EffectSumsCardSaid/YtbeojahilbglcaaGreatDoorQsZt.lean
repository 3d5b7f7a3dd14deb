/-
  
-/
import Derived.Test.YtbeojahilbglcaaGreatDoorQsZq
import Derived.Test.YtbeojahilbglcaaGreatDoorQsLr
import Derived.Test.YtbeojahilbglcaaGreatDoorQsZr
import Derived.Test.YtbeojahilbglcaaGreatDoorQsZo
import Derived.Deep.RegionHeld3
set_option linter.unusedVariables false
set_option linter.unusedSimpArgs false
set_option maxRecDepth 100000
set_option maxHeartbeats 8000000
namespace Go.Proofs.YtbeojahilbglcaaGreatDoor
open Go.RowKit Go.Shelf Lum
open Go.Lib (decDigits itoa)
attribute [local go_sem] bs_get bs_extract_end bs_extract_from bs_extract bs_append
theorem r15_before (x y z u : Int) (w : World) :
    Calls Tryz.prog 155 #[.agg #[.int .i64 x,.int .i64 y],.agg #[.int .i64 z,.int .i64 u]] w fun e w' => e = .returned (.bool (ltP (x,y) (z,u))) ∧ Below w.heap.size w w':=by
  have hal:=((Below.refl w.heap.size w).alloc (Nat.le_refl _) (.cells #[.int .i64 x,.int .i64 y] 45)).alloc (by simp) (.cells #[.int .i64 z,.int .i64 u] 45)
  have HB:=Lib.hid hal;clear hal
  have HX:=Lib.hid ((Blk.new w 45 #[.int .i64 x,.int .i64 y]).alloc (.cells #[.int .i64 z,.int .i64 u] 45))
  have hA:=Blk.new (w.alloc (.cells #[.int .i64 x,.int .i64 y] 45)) 45 #[.int .i64 z,.int .i64 u]
  rw [World.size_alloc] at hA
  have HZ:=Lib.hid hA;clear hA
  go_enter Tryz.func155,Tryz.ntmps155
  go_upto_region 1 with fail
  obtain ⟨W2,hW2⟩:∃ X,X = (w.alloc (.cells #[.int .i64 x,.int .i64 y] 45)).alloc (.cells #[.int .i64 z,.int .i64 u] 45):=⟨_,rfl⟩
  rw [← hW2] at HB HX HZ ⊢
  clear hW2
  obtain ⟨p0,p1,pf0,pf1⟩:=HX.out.c2
  obtain ⟨q0,q1,qf0,qf1⟩:=HZ.out.c2
  by_cases h1:x < z
  · have HE:Hid (ltP (x,y) (z,u) = true):=Lib.hid (by rw [ltP_iff];omega)
    try clear h2
    go_wp2_with fail
    go_ret
    exact ⟨by first | (rw [HE.out];done) | (rw [HE.out];rfl),HB.out⟩
  · by_cases h2:x = z
    · have heq:((x:Int) == z) = true:=by rw [beq_iff_eq];exact h2
      by_cases h3:y < u
      · have HE:Hid (ltP (x,y) (z,u) = true):=Lib.hid (by rw [ltP_iff];omega)
        try clear h2
        go_wp2_with fail
        go_ret
        exact ⟨by first | (rw [HE.out];done) | (rw [HE.out];rfl),HB.out⟩
      · have HE:Hid (ltP (x,y) (z,u) = false):=Lib.hid (by rw [ltP_false];omega)
        try clear h2
        go_wp2_with fail
        go_ret
        exact ⟨by first | (rw [HE.out];done) | (rw [HE.out];rfl),HB.out⟩
    · have heq:((x:Int) == z) = false:=by rw [beq_eq_false_iff_ne];exact h2
      have HE:Hid (ltP (x,y) (z,u) = false):=Lib.hid (by rw [ltP_false];omega)
      try clear h2
      go_wp2_with fail
      go_ret
      exact ⟨by first | (rw [HE.out];done) | (rw [HE.out];rfl),HB.out⟩
theorem r28_put_hit (w : World) (l : List (Int × Int)) (ch a : Int) (p : Option Addr) (c : Nat) (i : Nat) (hR : RowX encQ 2 w p l) (h16 : l.length ≤ 1000000) (hcap : l.length ≤ c) (hcz : p = none → c = 0) (hei : i < l.length) (hbe0 : ∀ j (hj : j < l.length), j < i → ltP (l[j]'hj) (ch, a) = true) (hat : ∀ h : i < l.length, l[i]'h = (ch, a)) :
    Calls Tryz.prog 105 #[.slice p l.length c,.agg #[.int .i64 ch,.int .i64 a]] w fun e w' => ∃ pp cc,e = .returned (.slice pp l.length cc) ∧ OwnR encQ 2 w.heap.size 45 w' pp cc l ∧ Below w.heap.size w w':=by
  have hal:=(Below.refl w.heap.size w).alloc (Nat.le_refl _) (.cells #[.int .i64 ch,.int .i64 a] 45)
  have HB0:=Lib.hid hal;clear hal
  have HK1:=Lib.hid (Blk.new w 45 #[.int .i64 ch,.int .i64 a])
  have HK:=HK1
  obtain ⟨k0,k1,kf0,kf1⟩:=HK.out.c2
  have HLE:Hid (i ≤ l.length):=Lib.hid (by omega)
  have HBE:=Lib.hid hbe0;have HAT:=Lib.hid hat;have HFEW:=Lib.hid h16;have hv2:=Lib.hid hR;have HCC:=Lib.hid hcap;have HCZ:=Lib.hid hcz;have HEI:=Lib.hid hei;clear hbe0 hat h16 hR hcz hei
  obtain ⟨i0,hi,hz0,hz1,hz2⟩:=info_parts info_pa
  go_enter Tryz.func105,Tryz.ntmps105
  go_upto_region 1 with fail
  generalize w.alloc (.cells #[.int .i64 ch,.int .i64 a] 45) = w3 at *
  have HB:=Lib.hid (Below.refl w3.heap.size w3)
  go_wp2_with fail
  go_loopw [5,6] (fun s j wr => ∃ (k n:Nat) (pp:Option Addr) (cc:Nat),s = .slice pp n cc ∧ j = .int .i64 (k:Int) ∧ Hid (k ≤ i) ∧ Hid (n = (l.take k).length) ∧ Hid (Below w3.heap.size w3 wr) ∧ Hid (OwnR encQ 2 w3.heap.size 45 wr pp cc (l.take k))) (fun _ j _ => l.length - (intOf j).toNat)
  case atStart => exact ⟨0,0,none,0,rfl,rfl,Lib.hid (Nat.zero_le _),Lib.hid (by simp),HB,Lib.hid (by rw [List.take_zero];exact OwnR.nil _ _ _)⟩
  case round =>
    obtain ⟨k,n,pp,cc,rfl,rfl,hkle,HN,HB2,HO2⟩:=hrel
    clear HB
    have HB:=HB2;have HO:=HO2;clear HB2 HO2
    clear k0 k1 kf0 kf1
    clear HK
    have HK:=Lib.hid (HK1.out.keep HB.out)
    have HBW:Hid (Below w.heap.size w wr):=Lib.hid (bch' HB0.out HB.out)
    obtain ⟨k0,k1,kf0,kf1⟩:=HK.out.c2
    by_cases hki:k < i
    · have hkl:k < l.length:=by have:=HLE.out;omega
      have hlt:(k:Int) < (l.length:Int):=by omega
      have hk0:(0:Int) ≤ (k:Int):=by omega
      have hun:IntKind.i64.wrap ((k:Int) + 1) = (k:Int) + 1:=IntWalk.i64_in _ (by have:=HFEW.out;omega)
      obtain ⟨b,o,rfl,hb,hC⟩:=hv2.out (fun h => by subst h;simp at hkl)
      obtain ⟨x,hx⟩:∃ x,x = l[k]'hkl:=⟨_,rfl⟩
      have hcell:=hC k hkl
      rw [← hx] at hcell
      have HCE:=Lib.hid hcell;have HX:=Lib.hid hx;clear hcell hx
      clear hC
      have y0:wr.cell? ⟨b,o + k * 2,none⟩ = some (.int .i64 (x.1)):=(HBW.out.cell (p:=⟨b,o + k * 2 + 0,none⟩) hb).trans (HCE.out 0 _ rfl)
      have y1:wr.cell? ⟨b,o + k * 2 + 1,none⟩ = some (.int .i64 (x.2)):=(HBW.out.cell (p:=⟨b,o + k * 2 + 1,none⟩) hb).trans (HCE.out 1 _ rfl)
      have hbr:b < wr.heap.size:=by have:=HBW.out.size;omega
      have hbt:ltP (x.1,x.2) (ch,a) = true:=by have:=HBE.out k hkl hki;rwa [← HX.out] at this
      have hbf:=fun W => r15_before x.1 x.2 ch a W
      rw [hbt] at hbf
      have HBF:=Lib.hid hbf;clear hbf
      clear hbt
      go_upto_region 3 with fail
      have f0:=fun p:BelowOf _ => (HK.out.keep p.h).c2.1
      have f1:=fun p:BelowOf _ => (HK.out.keep p.h).c2.2.1
      have g0:=fun p:BelowOf _ => BelowOf.cell hbr y0 p
      have g1:=fun p:BelowOf _ => BelowOf.cell hbr y1 p
      have e0:=fun p:BelowOf _ => Nat.lt_of_lt_of_le hbr p.h.size
      refine wp_region_WQ (by kernel_rfl) (by kernel_rfl) ?_
      repeat (refine WQ.step (fun K hK => ?_);go_simp;first | (refine hK.out _ ?_;clear hK K) | (apply Exists.intro;refine ⟨fun _ => ?_,hK.out _ ?_⟩;(first | rfl | (go_at_call 155;exact calls_below_of _ (HBF.out _)));clear hK K))
      refine WQ.nil ?_
      intro Wq hw'
      obtain ⟨⟨wq,hbq⟩,hw2⟩:=hw'
      subst hw2
      replace HO:=Lib.hid (HO.out.keep hbq)
      replace HB:=Lib.hid (bch' HB.out hbq)
      clear f0 f1 g0 g1 e0
      clear k0 k1 kf0 kf1
      clear HK HBW
      clear y0 y1 hbr
      have HK:=Lib.hid (HK1.out.keep HB.out)
      have HBW:Hid (Below w.heap.size w Wq):=Lib.hid (bch' HB0.out HB.out)
      obtain ⟨k0,k1,kf0,kf1⟩:=HK.out.c2
      have y0:Wq.cell? ⟨b,o + k * 2,none⟩ = some (.int .i64 (x.1)):=(HBW.out.cell (p:=⟨b,o + k * 2 + 0,none⟩) hb).trans (HCE.out 0 _ rfl)
      have y1:Wq.cell? ⟨b,o + k * 2 + 1,none⟩ = some (.int .i64 (x.2)):=(HBW.out.cell (p:=⟨b,o + k * 2 + 1,none⟩) hb).trans (HCE.out 1 _ rfl)
      have hbr:b < Wq.heap.size:=by have:=HBW.out.size;omega
      go_wp2_with (first | (at_builtin;refine wpList_appR3 rfl (.tmp 19) (.tmp 24) 55 rfl w3.heap.size 45 i0 (.agg #[.int .i64 0,.int .i64 0]) 16 Tryz.underlying55 hi hz0 hz1 hz2 rfl (by decide) (by decide) pp cc n ((l.take k)) (HN.out) _ (x) Wq.heap.size (encQ_len _) (fun j u hu => cellN _ 45 hu) (encQ_one _) rfl (HO.out.keep ((Below.refl _ Wq).alloc (Nat.le_refl _) _)) rfl (by have:=HFEW.out;rw [List.length_take];omega) (by have:=HB.out.size;rw [World.size_alloc];omega) ?_;intro p1 c1 w4 hO3 hb3 _;have HO3:=Lib.hid hO3;have HB3:=Lib.hid (HB.out.trans (((Below.refl _ Wq).alloc (by have:=HB.out.size;omega) _).trans hb3));clear hO3 hb3))
      clear HB
      have HB:=HB3;clear HB3
      have HT:Hid (l.take (k + 1) = l.take k ++ [x]):=Lib.hid (by rw [List.take_succ_eq_append_getElem hkl,HX.out])
      go_roundw
      case rel => exact ⟨k + 1,n + 1,p1,c1,by first | rfl | simp,by first | rfl | simp,Lib.hid (by omega),Lib.hid (by rw [HT.out,List.length_append,← HN.out];rfl),HB,Lib.hid (by rw [HT.out];exact HO3.out)⟩
      case measure => first | (simp [intOf];done) | (simp [intOf];omega)
    · obtain rfl:i = k:=by have:=hkle.out;omega
      have hil:=HEI.out
      have hlt:(i:Int) < (l.length:Int):=by omega
      have hi0:(0:Int) ≤ (i:Int):=by omega
      have heq:((i:Int) == (l.length:Int)) = false:=by rw [beq_eq_false_iff_ne];omega
      obtain ⟨b,o,rfl,hb,hC⟩:=hv2.out (fun h => by subst h;simp at hil)
      obtain ⟨x,hx⟩:∃ x,x = l[i]'hil:=⟨_,rfl⟩
      have hcell:=hC i hil
      rw [← hx] at hcell
      have HCE:=Lib.hid hcell;have HX:=Lib.hid hx;clear hcell hx
      have y0:wr.cell? ⟨b,o + i * 2,none⟩ = some (.int .i64 (x.1)):=(HBW.out.cell (p:=⟨b,o + i * 2 + 0,none⟩) hb).trans (HCE.out 0 _ rfl)
      have y1:wr.cell? ⟨b,o + i * 2 + 1,none⟩ = some (.int .i64 (x.2)):=(HBW.out.cell (p:=⟨b,o + i * 2 + 1,none⟩) hb).trans (HCE.out 1 _ rfl)
      have hbr:b < wr.heap.size:=by have:=HBW.out.size;omega
      have hxe:x = (ch,a):=by rw [HX.out];exact HAT.out hil
      have hbt:ltP (x.1,x.2) (ch,a) = false:=by rw [show ((x.1,x.2):Int × Int) = (ch,a) from hxe];exact ltP_irr _
      have hbe:((x.1 == (ch,a).1) && (x.2 == (ch,a).2)) = true:=by rw [hxe];simp
      have hneqr:=fun W => nq_pa W x (ch,a)
      rw [hbe] at hneqr
      dsimp only [Bool.not_true,Bool.not_false] at hneqr
      have HNE:=Lib.hid hneqr
      clear hbe hxe hneqr
      have hbf:=fun W => r15_before x.1 x.2 ch a W
      rw [hbt] at hbf
      have HBF:=Lib.hid hbf;clear hbf
      clear hbt
      go_upto_region 3 with fail
      have f0:=fun p:BelowOf _ => (HK.out.keep p.h).c2.1
      have f1:=fun p:BelowOf _ => (HK.out.keep p.h).c2.2.1
      have g0:=fun p:BelowOf _ => BelowOf.cell hbr y0 p
      have g1:=fun p:BelowOf _ => BelowOf.cell hbr y1 p
      have e0:=fun p:BelowOf _ => Nat.lt_of_lt_of_le hbr p.h.size
      refine wp_region_WQ (by kernel_rfl) (by kernel_rfl) ?_
      repeat (refine WQ.step (fun K hK => ?_);go_simp;first | (refine hK.out _ ?_;clear hK K) | (apply Exists.intro;refine ⟨fun _ => ?_,hK.out _ ?_⟩;(first | rfl | (go_at_call 155;exact calls_below_of _ (HBF.out _)));clear hK K))
      refine WQ.nil ?_
      intro Wq hw'
      obtain ⟨⟨wq,hbq⟩,hw2⟩:=hw'
      subst hw2
      replace HO:=Lib.hid (HO.out.keep hbq)
      replace HB:=Lib.hid (bch' HB.out hbq)
      clear f0 f1 g0 g1 e0
      clear k0 k1 kf0 kf1
      clear HK HBW
      clear y0 y1 hbr
      have HK:=Lib.hid (HK1.out.keep HB.out)
      have HBW:Hid (Below w.heap.size w Wq):=Lib.hid (bch' HB0.out HB.out)
      obtain ⟨k0,k1,kf0,kf1⟩:=HK.out.c2
      have y0:Wq.cell? ⟨b,o + i * 2,none⟩ = some (.int .i64 (x.1)):=(HBW.out.cell (p:=⟨b,o + i * 2 + 0,none⟩) hb).trans (HCE.out 0 _ rfl)
      have y1:Wq.cell? ⟨b,o + i * 2 + 1,none⟩ = some (.int .i64 (x.2)):=(HBW.out.cell (p:=⟨b,o + i * 2 + 1,none⟩) hb).trans (HCE.out 1 _ rfl)
      have hbr:b < Wq.heap.size:=by have:=HBW.out.size;omega
      go_upto_region 6 with fail
      have hneqr:=HNE.out
      have f0:=fun p:BelowOf _ => (HK.out.keep p.h).c2.1
      have f1:=fun p:BelowOf _ => (HK.out.keep p.h).c2.2.1
      have g0:=fun p:BelowOf _ => BelowOf.cell hbr y0 p
      have g1:=fun p:BelowOf _ => BelowOf.cell hbr y1 p
      have e0:=fun p:BelowOf _ => Nat.lt_of_lt_of_le hbr p.h.size
      refine wp_region_WQ (by kernel_rfl) (by kernel_rfl) ?_
      repeat (refine WQ.step (fun K hK => ?_);go_simp;first | (refine hK.out _ ?_;clear hK K) | (apply Exists.intro;refine ⟨fun _ => ?_,hK.out _ ?_⟩;(first | rfl);clear hK K))
      refine WQ.nil ?_
      intro Wr hw'
      obtain ⟨⟨wr,hbr⟩,hw2⟩:=hw'
      subst hw2
      replace HO:=Lib.hid (HO.out.keep hbr)
      replace HB:=Lib.hid (bch' HB.out hbr)
      clear f0 f1 g0 g1 e0
      clear k0 k1 kf0 kf1
      clear HK HBW
      clear y0 y1 hbr
      clear hneqr
      have HK:=Lib.hid (HK1.out.keep HB.out)
      have HBW:Hid (Below w.heap.size w Wr):=Lib.hid (bch' HB0.out HB.out)
      obtain ⟨k0,k1,kf0,kf1⟩:=HK.out.c2
      have y0:Wr.cell? ⟨b,o + i * 2,none⟩ = some (.int .i64 (x.1)):=(HBW.out.cell (p:=⟨b,o + i * 2 + 0,none⟩) hb).trans (HCE.out 0 _ rfl)
      have y1:Wr.cell? ⟨b,o + i * 2 + 1,none⟩ = some (.int .i64 (x.2)):=(HBW.out.cell (p:=⟨b,o + i * 2 + 1,none⟩) hb).trans (HCE.out 1 _ rfl)
      have hbr:b < Wr.heap.size:=by have:=HBW.out.size;omega
      go_upto_region 8 with fail
      clear k0 k1 kf0 kf1
      have hb3:(i:Int) ≤ (l.length:Int):=by have:=HEI.out;omega
      have htn:((i:Int)).toNat = i:=by omega
      have hcd:¬ c = i:=by omega
      have HTL:Hid (∀ j u,((l.drop i).flatMap encQ)[j]? = some u → Wr.cell? ⟨b,o + i * 2 + j,none⟩ = some u):=Lib.hid (by have h9:=flat_cell encQ_len l (fun j => Wr.cell? ⟨b,o + j,none⟩) (fun i hi j v hj => by have:=(HBW.out.cell (p:=⟨b,o + i * 2 + j,none⟩) hb).trans (hC i hi j v hj);rwa [Nat.add_assoc] at this);intro j u hu;have:=h9 _ _ (flat_drop_get encQ_len hu);rwa [← Nat.add_assoc] at this)
      go_wp2_with (first | (at_builtin;refine wpList_appM rfl (.tmp 44) (.tmp 47) 55 rfl w3.heap.size 45 i0 (.agg #[.int .i64 0,.int .i64 0]) 16 Tryz.underlying55 hi hz0 hz1 hz2 rfl (by decide) (by decide) pp cc n (l.take i) HN.out _ (l.drop i) (l.length - i) (by rw [List.length_drop]) b (o + i * 2) (c - i) encQ_len HTL.out (fun y _ => encQ_one y) rfl HO.out rfl (by have:=HFEW.out;rw [List.length_take,List.length_drop];omega) (by have:=HB.out.size;omega) ?_;intro p2 c2 w5 hO3 hb3;have HO3:=Lib.hid hO3;have HB3:=Lib.hid (HB.out.trans hb3);clear hO3 hb3))
      go_ret
      have HE:=Lib.hid (show l.take i ++ l.drop i = l from List.take_append_drop i l)
      rw [HE.out] at HO3
      have HL:Hid (n + (l.length - i) = l.length):=Lib.hid (by rw [← HE.out,HN.out];simp [List.length_drop];try omega)
      rw [HL.out]
      exact ⟨_,_,by first | rfl | (rw [show min i l.length + 1 = l.length from by simp;have:=HEI.out;omega];rfl),HO3.out.lower (by have:=HB0.out.size;omega),bch' HB0.out HB3.out⟩
theorem r28_put_mid (w : World) (l : List (Int × Int)) (ch a : Int) (p : Option Addr) (c : Nat) (i : Nat) (hR : RowX encQ 2 w p l) (h16 : l.length ≤ 1000000) (hcap : l.length ≤ c) (hcz : p = none → c = 0) (hei : i < l.length) (hbe0 : ∀ j (hj : j < l.length), j < i → ltP (l[j]'hj) (ch, a) = true) (hat : ∀ h : i < l.length, ltP (l[i]'h) (ch, a) = false ∧ ¬ l[i]'h = (ch, a)) :
    Calls Tryz.prog 105 #[.slice p l.length c,.agg #[.int .i64 ch,.int .i64 a]] w fun e w' => ∃ pp cc,e = .returned (.slice pp (l.take i ++ (ch,a) :: l.drop i).length cc) ∧ OwnR encQ 2 w.heap.size 45 w' pp cc (l.take i ++ (ch,a) :: l.drop i) ∧ Below w.heap.size w w':=by
  have hal:=(Below.refl w.heap.size w).alloc (Nat.le_refl _) (.cells #[.int .i64 ch,.int .i64 a] 45)
  have HB0:=Lib.hid hal;clear hal
  have HK1:=Lib.hid (Blk.new w 45 #[.int .i64 ch,.int .i64 a])
  have HK:=HK1
  obtain ⟨k0,k1,kf0,kf1⟩:=HK.out.c2
  have HLE:Hid (i ≤ l.length):=Lib.hid (by omega)
  have HBE:=Lib.hid hbe0;have HAT:=Lib.hid hat;have HFEW:=Lib.hid h16;have hv2:=Lib.hid hR;have HCC:=Lib.hid hcap;have HCZ:=Lib.hid hcz;have HEI:=Lib.hid hei;clear hbe0 hat h16 hR hcz hei
  obtain ⟨i0,hi,hz0,hz1,hz2⟩:=info_parts info_pa
  go_enter Tryz.func105,Tryz.ntmps105
  go_upto_region 1 with fail
  generalize w.alloc (.cells #[.int .i64 ch,.int .i64 a] 45) = w3 at *
  have HB:=Lib.hid (Below.refl w3.heap.size w3)
  go_wp2_with fail
  go_loopw [5,6] (fun s j wr => ∃ (k n:Nat) (pp:Option Addr) (cc:Nat),s = .slice pp n cc ∧ j = .int .i64 (k:Int) ∧ Hid (k ≤ i) ∧ Hid (n = (l.take k).length) ∧ Hid (Below w3.heap.size w3 wr) ∧ Hid (OwnR encQ 2 w3.heap.size 45 wr pp cc (l.take k))) (fun _ j _ => l.length - (intOf j).toNat)
  case atStart => exact ⟨0,0,none,0,rfl,rfl,Lib.hid (Nat.zero_le _),Lib.hid (by simp),HB,Lib.hid (by rw [List.take_zero];exact OwnR.nil _ _ _)⟩
  case round =>
    obtain ⟨k,n,pp,cc,rfl,rfl,hkle,HN,HB2,HO2⟩:=hrel
    clear HB
    have HB:=HB2;have HO:=HO2;clear HB2 HO2
    clear k0 k1 kf0 kf1
    clear HK
    have HK:=Lib.hid (HK1.out.keep HB.out)
    have HBW:Hid (Below w.heap.size w wr):=Lib.hid (bch' HB0.out HB.out)
    obtain ⟨k0,k1,kf0,kf1⟩:=HK.out.c2
    by_cases hki:k < i
    · have hkl:k < l.length:=by have:=HLE.out;omega
      have hlt:(k:Int) < (l.length:Int):=by omega
      have hk0:(0:Int) ≤ (k:Int):=by omega
      have hun:IntKind.i64.wrap ((k:Int) + 1) = (k:Int) + 1:=IntWalk.i64_in _ (by have:=HFEW.out;omega)
      obtain ⟨b,o,rfl,hb,hC⟩:=hv2.out (fun h => by subst h;simp at hkl)
      obtain ⟨x,hx⟩:∃ x,x = l[k]'hkl:=⟨_,rfl⟩
      have hcell:=hC k hkl
      rw [← hx] at hcell
      have HCE:=Lib.hid hcell;have HX:=Lib.hid hx;clear hcell hx
      clear hC
      have y0:wr.cell? ⟨b,o + k * 2,none⟩ = some (.int .i64 (x.1)):=(HBW.out.cell (p:=⟨b,o + k * 2 + 0,none⟩) hb).trans (HCE.out 0 _ rfl)
      have y1:wr.cell? ⟨b,o + k * 2 + 1,none⟩ = some (.int .i64 (x.2)):=(HBW.out.cell (p:=⟨b,o + k * 2 + 1,none⟩) hb).trans (HCE.out 1 _ rfl)
      have hbr:b < wr.heap.size:=by have:=HBW.out.size;omega
      have hbt:ltP (x.1,x.2) (ch,a) = true:=by have:=HBE.out k hkl hki;rwa [← HX.out] at this
      have hbf:=fun W => r15_before x.1 x.2 ch a W
      rw [hbt] at hbf
      have HBF:=Lib.hid hbf;clear hbf
      clear hbt
      go_upto_region 3 with fail
      have f0:=fun p:BelowOf _ => (HK.out.keep p.h).c2.1
      have f1:=fun p:BelowOf _ => (HK.out.keep p.h).c2.2.1
      have g0:=fun p:BelowOf _ => BelowOf.cell hbr y0 p
      have g1:=fun p:BelowOf _ => BelowOf.cell hbr y1 p
      have e0:=fun p:BelowOf _ => Nat.lt_of_lt_of_le hbr p.h.size
      refine wp_region_WQ (by kernel_rfl) (by kernel_rfl) ?_
      repeat (refine WQ.step (fun K hK => ?_);go_simp;first | (refine hK.out _ ?_;clear hK K) | (apply Exists.intro;refine ⟨fun _ => ?_,hK.out _ ?_⟩;(first | rfl | (go_at_call 155;exact calls_below_of _ (HBF.out _)));clear hK K))
      refine WQ.nil ?_
      intro Wq hw'
      obtain ⟨⟨wq,hbq⟩,hw2⟩:=hw'
      subst hw2
      replace HO:=Lib.hid (HO.out.keep hbq)
      replace HB:=Lib.hid (bch' HB.out hbq)
      clear f0 f1 g0 g1 e0
      clear k0 k1 kf0 kf1
      clear HK HBW
      clear y0 y1 hbr
      have HK:=Lib.hid (HK1.out.keep HB.out)
      have HBW:Hid (Below w.heap.size w Wq):=Lib.hid (bch' HB0.out HB.out)
      obtain ⟨k0,k1,kf0,kf1⟩:=HK.out.c2
      have y0:Wq.cell? ⟨b,o + k * 2,none⟩ = some (.int .i64 (x.1)):=(HBW.out.cell (p:=⟨b,o + k * 2 + 0,none⟩) hb).trans (HCE.out 0 _ rfl)
      have y1:Wq.cell? ⟨b,o + k * 2 + 1,none⟩ = some (.int .i64 (x.2)):=(HBW.out.cell (p:=⟨b,o + k * 2 + 1,none⟩) hb).trans (HCE.out 1 _ rfl)
      have hbr:b < Wq.heap.size:=by have:=HBW.out.size;omega
      go_wp2_with (first | (at_builtin;refine wpList_appR3 rfl (.tmp 19) (.tmp 24) 55 rfl w3.heap.size 45 i0 (.agg #[.int .i64 0,.int .i64 0]) 16 Tryz.underlying55 hi hz0 hz1 hz2 rfl (by decide) (by decide) pp cc n ((l.take k)) (HN.out) _ (x) Wq.heap.size (encQ_len _) (fun j u hu => cellN _ 45 hu) (encQ_one _) rfl (HO.out.keep ((Below.refl _ Wq).alloc (Nat.le_refl _) _)) rfl (by have:=HFEW.out;rw [List.length_take];omega) (by have:=HB.out.size;rw [World.size_alloc];omega) ?_;intro p1 c1 w4 hO3 hb3 _;have HO3:=Lib.hid hO3;have HB3:=Lib.hid (HB.out.trans (((Below.refl _ Wq).alloc (by have:=HB.out.size;omega) _).trans hb3));clear hO3 hb3))
      clear HB
      have HB:=HB3;clear HB3
      have HT:Hid (l.take (k + 1) = l.take k ++ [x]):=Lib.hid (by rw [List.take_succ_eq_append_getElem hkl,HX.out])
      go_roundw
      case rel => exact ⟨k + 1,n + 1,p1,c1,by first | rfl | simp,by first | rfl | simp,Lib.hid (by omega),Lib.hid (by rw [HT.out,List.length_append,← HN.out];rfl),HB,Lib.hid (by rw [HT.out];exact HO3.out)⟩
      case measure => first | (simp [intOf];done) | (simp [intOf];omega)
    · obtain rfl:i = k:=by have:=hkle.out;omega
      have hil:=HEI.out
      have hlt:(i:Int) < (l.length:Int):=by omega
      have hi0:(0:Int) ≤ (i:Int):=by omega
      have heq:((i:Int) == (l.length:Int)) = false:=by rw [beq_eq_false_iff_ne];omega
      obtain ⟨b,o,rfl,hb,hC⟩:=hv2.out (fun h => by subst h;simp at hil)
      obtain ⟨x,hx⟩:∃ x,x = l[i]'hil:=⟨_,rfl⟩
      have hcell:=hC i hil
      rw [← hx] at hcell
      have HCE:=Lib.hid hcell;have HX:=Lib.hid hx;clear hcell hx
      have y0:wr.cell? ⟨b,o + i * 2,none⟩ = some (.int .i64 (x.1)):=(HBW.out.cell (p:=⟨b,o + i * 2 + 0,none⟩) hb).trans (HCE.out 0 _ rfl)
      have y1:wr.cell? ⟨b,o + i * 2 + 1,none⟩ = some (.int .i64 (x.2)):=(HBW.out.cell (p:=⟨b,o + i * 2 + 1,none⟩) hb).trans (HCE.out 1 _ rfl)
      have hbr:b < wr.heap.size:=by have:=HBW.out.size;omega
      have hbt:ltP (x.1,x.2) (ch,a) = false:=by have:=HAT.out hil;rw [← HX.out] at this;exact this.1
      have hxe:¬ x = (ch,a):=by have:=HAT.out hil;rw [← HX.out] at this;exact this.2
      have hbe:((x.1 == (ch,a).1) && (x.2 == (ch,a).2)) = false:=by rw [Bool.eq_false_iff];intro h;rw [Bool.and_eq_true,beq_iff_eq,beq_iff_eq] at h;exact hxe (Prod.ext h.1 h.2)
      have hneqr:=fun W => nq_pa W x (ch,a)
      rw [hbe] at hneqr
      dsimp only [Bool.not_true,Bool.not_false] at hneqr
      have HNE:=Lib.hid hneqr
      clear hbe hxe hneqr
      have hbf:=fun W => r15_before x.1 x.2 ch a W
      rw [hbt] at hbf
      have HBF:=Lib.hid hbf;clear hbf
      clear hbt
      go_upto_region 3 with fail
      have f0:=fun p:BelowOf _ => (HK.out.keep p.h).c2.1
      have f1:=fun p:BelowOf _ => (HK.out.keep p.h).c2.2.1
      have g0:=fun p:BelowOf _ => BelowOf.cell hbr y0 p
      have g1:=fun p:BelowOf _ => BelowOf.cell hbr y1 p
      have e0:=fun p:BelowOf _ => Nat.lt_of_lt_of_le hbr p.h.size
      refine wp_region_WQ (by kernel_rfl) (by kernel_rfl) ?_
      repeat (refine WQ.step (fun K hK => ?_);go_simp;first | (refine hK.out _ ?_;clear hK K) | (apply Exists.intro;refine ⟨fun _ => ?_,hK.out _ ?_⟩;(first | rfl | (go_at_call 155;exact calls_below_of _ (HBF.out _)));clear hK K))
      refine WQ.nil ?_
      intro Wq hw'
      obtain ⟨⟨wq,hbq⟩,hw2⟩:=hw'
      subst hw2
      replace HO:=Lib.hid (HO.out.keep hbq)
      replace HB:=Lib.hid (bch' HB.out hbq)
      clear f0 f1 g0 g1 e0
      clear k0 k1 kf0 kf1
      clear HK HBW
      clear y0 y1 hbr
      have HK:=Lib.hid (HK1.out.keep HB.out)
      have HBW:Hid (Below w.heap.size w Wq):=Lib.hid (bch' HB0.out HB.out)
      obtain ⟨k0,k1,kf0,kf1⟩:=HK.out.c2
      have y0:Wq.cell? ⟨b,o + i * 2,none⟩ = some (.int .i64 (x.1)):=(HBW.out.cell (p:=⟨b,o + i * 2 + 0,none⟩) hb).trans (HCE.out 0 _ rfl)
      have y1:Wq.cell? ⟨b,o + i * 2 + 1,none⟩ = some (.int .i64 (x.2)):=(HBW.out.cell (p:=⟨b,o + i * 2 + 1,none⟩) hb).trans (HCE.out 1 _ rfl)
      have hbr:b < Wq.heap.size:=by have:=HBW.out.size;omega
      go_upto_region 6 with fail
      have hneqr:=HNE.out
      have f0:=fun p:BelowOf _ => (HK.out.keep p.h).c2.1
      have f1:=fun p:BelowOf _ => (HK.out.keep p.h).c2.2.1
      have g0:=fun p:BelowOf _ => BelowOf.cell hbr y0 p
      have g1:=fun p:BelowOf _ => BelowOf.cell hbr y1 p
      have e0:=fun p:BelowOf _ => Nat.lt_of_lt_of_le hbr p.h.size
      refine wp_region_WQ (by kernel_rfl) (by kernel_rfl) ?_
      repeat (refine WQ.step (fun K hK => ?_);go_simp;first | (refine hK.out _ ?_;clear hK K) | (apply Exists.intro;refine ⟨fun _ => ?_,hK.out _ ?_⟩;(first | rfl);clear hK K))
      refine WQ.nil ?_
      intro Wr hw'
      obtain ⟨⟨wr,hbr⟩,hw2⟩:=hw'
      subst hw2
      replace HO:=Lib.hid (HO.out.keep hbr)
      replace HB:=Lib.hid (bch' HB.out hbr)
      clear f0 f1 g0 g1 e0
      clear k0 k1 kf0 kf1
      clear HK HBW
      clear y0 y1 hbr
      clear hneqr
      have HK:=Lib.hid (HK1.out.keep HB.out)
      have HBW:Hid (Below w.heap.size w Wr):=Lib.hid (bch' HB0.out HB.out)
      obtain ⟨k0,k1,kf0,kf1⟩:=HK.out.c2
      have y0:Wr.cell? ⟨b,o + i * 2,none⟩ = some (.int .i64 (x.1)):=(HBW.out.cell (p:=⟨b,o + i * 2 + 0,none⟩) hb).trans (HCE.out 0 _ rfl)
      have y1:Wr.cell? ⟨b,o + i * 2 + 1,none⟩ = some (.int .i64 (x.2)):=(HBW.out.cell (p:=⟨b,o + i * 2 + 1,none⟩) hb).trans (HCE.out 1 _ rfl)
      have hbr:b < Wr.heap.size:=by have:=HBW.out.size;omega
      go_upto_region 8 with (first | (at_builtin;refine wpList_appR3 rfl (.tmp 40) (.tmp 42) 55 rfl w3.heap.size 45 i0 (.agg #[.int .i64 0,.int .i64 0]) 16 Tryz.underlying55 hi hz0 hz1 hz2 rfl (by decide) (by decide) pp cc n ((l.take i)) (HN.out) _ ((ch,a)) Wr.heap.size (encQ_len _) (fun j u hu => cellN _ 45 hu) (encQ_one _) rfl (HO.out.keep ((Below.refl _ Wr).alloc (Nat.le_refl _) _)) rfl (by have:=HFEW.out;rw [List.length_take];omega) (by have:=HB.out.size;rw [World.size_alloc];omega) ?_;intro p1 c1 w4 hO3 hb3 _;have HO3:=Lib.hid hO3;have HB3:=Lib.hid (HB.out.trans (((Below.refl _ Wr).alloc (by have:=HB.out.size;omega) _).trans hb3));clear hO3 hb3))
      have HN1:Hid (n + 1 = (l.take i ++ [(ch,a)]).length):=Lib.hid (by rw [List.length_append,← HN.out];rfl)
      clear k0 k1 kf0 kf1
      clear HK HBW
      clear y0 y1 hbr
      have HO:=HO3;clear HO3
      clear HB
      have HB:=HB3;clear HB3
      have HBW:Hid (Below w.heap.size w w4):=Lib.hid (bch' HB0.out HB.out)
      have hb3:(i:Int) ≤ (l.length:Int):=by have:=HEI.out;omega
      have htn:((i:Int)).toNat = i:=by omega
      have hcd:¬ c = i:=by omega
      have HTL:Hid (∀ j u,((l.drop i).flatMap encQ)[j]? = some u → w4.cell? ⟨b,o + i * 2 + j,none⟩ = some u):=Lib.hid (by have h9:=flat_cell encQ_len l (fun j => w4.cell? ⟨b,o + j,none⟩) (fun i hi j v hj => by have:=(HBW.out.cell (p:=⟨b,o + i * 2 + j,none⟩) hb).trans (hC i hi j v hj);rwa [Nat.add_assoc] at this);intro j u hu;have:=h9 _ _ (flat_drop_get encQ_len hu);rwa [← Nat.add_assoc] at this)
      go_wp2_with (first | (at_builtin;refine wpList_appM rfl (.tmp 44) (.tmp 47) 55 rfl w3.heap.size 45 i0 (.agg #[.int .i64 0,.int .i64 0]) 16 Tryz.underlying55 hi hz0 hz1 hz2 rfl (by decide) (by decide) p1 c1 (n + 1) (l.take i ++ [(ch,a)]) HN1.out _ (l.drop i) (l.length - i) (by rw [List.length_drop]) b (o + i * 2) (c - i) encQ_len HTL.out (fun y _ => encQ_one y) rfl HO.out rfl (by have:=HFEW.out;rw [List.length_append];rw [List.length_take,List.length_drop];simp;omega) (by have:=HB.out.size;omega) ?_;intro p2 c2 w5 hO3 hb3;have HO3:=Lib.hid hO3;have HB3:=Lib.hid (HB.out.trans hb3);clear hO3 hb3))
      go_ret
      have HE:=Lib.hid (show (l.take i ++ [(ch,a)]) ++ l.drop i = l.take i ++ (ch,a) :: l.drop i from by rw [List.append_assoc,List.singleton_append])
      rw [HE.out] at HO3
      have HL:Hid (n + 1 + (l.length - i) = (l.take i ++ (ch,a) :: l.drop i).length):=Lib.hid (by rw [← HE.out,HN1.out];simp [List.length_drop];try omega)
      rw [HL.out]
      exact ⟨_,_,by first | rfl | (rw [show min i l.length + 1 = (l.take i ++ (ch,a) :: l.drop i).length from by simp;have:=HEI.out;omega];rfl),HO3.out.lower (by have:=HB0.out.size;omega),bch' HB0.out HB3.out⟩
theorem r28_put_end (w : World) (l : List (Int × Int)) (ch a : Int) (p : Option Addr) (c : Nat) (i : Nat) (hR : RowX encQ 2 w p l) (h16 : l.length ≤ 1000000) (hcap : l.length ≤ c) (hcz : p = none → c = 0) (hei : i = l.length) (hbe0 : ∀ j (hj : j < l.length), j < i → ltP (l[j]'hj) (ch, a) = true) (hat : True) :
    Calls Tryz.prog 105 #[.slice p l.length c,.agg #[.int .i64 ch,.int .i64 a]] w fun e w' => ∃ pp cc,e = .returned (.slice pp (l.take i ++ (ch,a) :: l.drop i).length cc) ∧ OwnR encQ 2 w.heap.size 45 w' pp cc (l.take i ++ (ch,a) :: l.drop i) ∧ Below w.heap.size w w':=by
  have hal:=(Below.refl w.heap.size w).alloc (Nat.le_refl _) (.cells #[.int .i64 ch,.int .i64 a] 45)
  have HB0:=Lib.hid hal;clear hal
  have HK1:=Lib.hid (Blk.new w 45 #[.int .i64 ch,.int .i64 a])
  have HK:=HK1
  obtain ⟨k0,k1,kf0,kf1⟩:=HK.out.c2
  have HLE:Hid (i ≤ l.length):=Lib.hid (by omega)
  have HBE:=Lib.hid hbe0;have HAT:=Lib.hid hat;have HFEW:=Lib.hid h16;have hv2:=Lib.hid hR;have HCC:=Lib.hid hcap;have HCZ:=Lib.hid hcz;have HEI:=Lib.hid hei;clear hbe0 hat h16 hR hcz hei
  obtain ⟨i0,hi,hz0,hz1,hz2⟩:=info_parts info_pa
  go_enter Tryz.func105,Tryz.ntmps105
  go_upto_region 1 with fail
  generalize w.alloc (.cells #[.int .i64 ch,.int .i64 a] 45) = w3 at *
  have HB:=Lib.hid (Below.refl w3.heap.size w3)
  go_wp2_with fail
  go_loopw [5,6] (fun s j wr => ∃ (k n:Nat) (pp:Option Addr) (cc:Nat),s = .slice pp n cc ∧ j = .int .i64 (k:Int) ∧ Hid (k ≤ i) ∧ Hid (n = (l.take k).length) ∧ Hid (Below w3.heap.size w3 wr) ∧ Hid (OwnR encQ 2 w3.heap.size 45 wr pp cc (l.take k))) (fun _ j _ => l.length - (intOf j).toNat)
  case atStart => exact ⟨0,0,none,0,rfl,rfl,Lib.hid (Nat.zero_le _),Lib.hid (by simp),HB,Lib.hid (by rw [List.take_zero];exact OwnR.nil _ _ _)⟩
  case round =>
    obtain ⟨k,n,pp,cc,rfl,rfl,hkle,HN,HB2,HO2⟩:=hrel
    clear HB
    have HB:=HB2;have HO:=HO2;clear HB2 HO2
    clear k0 k1 kf0 kf1
    clear HK
    have HK:=Lib.hid (HK1.out.keep HB.out)
    have HBW:Hid (Below w.heap.size w wr):=Lib.hid (bch' HB0.out HB.out)
    obtain ⟨k0,k1,kf0,kf1⟩:=HK.out.c2
    by_cases hki:k < i
    · have hkl:k < l.length:=by have:=HLE.out;omega
      have hlt:(k:Int) < (l.length:Int):=by omega
      have hk0:(0:Int) ≤ (k:Int):=by omega
      have hun:IntKind.i64.wrap ((k:Int) + 1) = (k:Int) + 1:=IntWalk.i64_in _ (by have:=HFEW.out;omega)
      obtain ⟨b,o,rfl,hb,hC⟩:=hv2.out (fun h => by subst h;simp at hkl)
      obtain ⟨x,hx⟩:∃ x,x = l[k]'hkl:=⟨_,rfl⟩
      have hcell:=hC k hkl
      rw [← hx] at hcell
      have HCE:=Lib.hid hcell;have HX:=Lib.hid hx;clear hcell hx
      clear hC
      have y0:wr.cell? ⟨b,o + k * 2,none⟩ = some (.int .i64 (x.1)):=(HBW.out.cell (p:=⟨b,o + k * 2 + 0,none⟩) hb).trans (HCE.out 0 _ rfl)
      have y1:wr.cell? ⟨b,o + k * 2 + 1,none⟩ = some (.int .i64 (x.2)):=(HBW.out.cell (p:=⟨b,o + k * 2 + 1,none⟩) hb).trans (HCE.out 1 _ rfl)
      have hbr:b < wr.heap.size:=by have:=HBW.out.size;omega
      have hbt:ltP (x.1,x.2) (ch,a) = true:=by have:=HBE.out k hkl hki;rwa [← HX.out] at this
      have hbf:=fun W => r15_before x.1 x.2 ch a W
      rw [hbt] at hbf
      have HBF:=Lib.hid hbf;clear hbf
      clear hbt
      go_upto_region 3 with fail
      have f0:=fun p:BelowOf _ => (HK.out.keep p.h).c2.1
      have f1:=fun p:BelowOf _ => (HK.out.keep p.h).c2.2.1
      have g0:=fun p:BelowOf _ => BelowOf.cell hbr y0 p
      have g1:=fun p:BelowOf _ => BelowOf.cell hbr y1 p
      have e0:=fun p:BelowOf _ => Nat.lt_of_lt_of_le hbr p.h.size
      refine wp_region_WQ (by kernel_rfl) (by kernel_rfl) ?_
      repeat (refine WQ.step (fun K hK => ?_);go_simp;first | (refine hK.out _ ?_;clear hK K) | (apply Exists.intro;refine ⟨fun _ => ?_,hK.out _ ?_⟩;(first | rfl | (go_at_call 155;exact calls_below_of _ (HBF.out _)));clear hK K))
      refine WQ.nil ?_
      intro Wq hw'
      obtain ⟨⟨wq,hbq⟩,hw2⟩:=hw'
      subst hw2
      replace HO:=Lib.hid (HO.out.keep hbq)
      replace HB:=Lib.hid (bch' HB.out hbq)
      clear f0 f1 g0 g1 e0
      clear k0 k1 kf0 kf1
      clear HK HBW
      clear y0 y1 hbr
      have HK:=Lib.hid (HK1.out.keep HB.out)
      have HBW:Hid (Below w.heap.size w Wq):=Lib.hid (bch' HB0.out HB.out)
      obtain ⟨k0,k1,kf0,kf1⟩:=HK.out.c2
      have y0:Wq.cell? ⟨b,o + k * 2,none⟩ = some (.int .i64 (x.1)):=(HBW.out.cell (p:=⟨b,o + k * 2 + 0,none⟩) hb).trans (HCE.out 0 _ rfl)
      have y1:Wq.cell? ⟨b,o + k * 2 + 1,none⟩ = some (.int .i64 (x.2)):=(HBW.out.cell (p:=⟨b,o + k * 2 + 1,none⟩) hb).trans (HCE.out 1 _ rfl)
      have hbr:b < Wq.heap.size:=by have:=HBW.out.size;omega
      go_wp2_with (first | (at_builtin;refine wpList_appR3 rfl (.tmp 19) (.tmp 24) 55 rfl w3.heap.size 45 i0 (.agg #[.int .i64 0,.int .i64 0]) 16 Tryz.underlying55 hi hz0 hz1 hz2 rfl (by decide) (by decide) pp cc n ((l.take k)) (HN.out) _ (x) Wq.heap.size (encQ_len _) (fun j u hu => cellN _ 45 hu) (encQ_one _) rfl (HO.out.keep ((Below.refl _ Wq).alloc (Nat.le_refl _) _)) rfl (by have:=HFEW.out;rw [List.length_take];omega) (by have:=HB.out.size;rw [World.size_alloc];omega) ?_;intro p1 c1 w4 hO3 hb3 _;have HO3:=Lib.hid hO3;have HB3:=Lib.hid (HB.out.trans (((Below.refl _ Wq).alloc (by have:=HB.out.size;omega) _).trans hb3));clear hO3 hb3))
      clear HB
      have HB:=HB3;clear HB3
      have HT:Hid (l.take (k + 1) = l.take k ++ [x]):=Lib.hid (by rw [List.take_succ_eq_append_getElem hkl,HX.out])
      go_roundw
      case rel => exact ⟨k + 1,n + 1,p1,c1,by first | rfl | simp,by first | rfl | simp,Lib.hid (by omega),Lib.hid (by rw [HT.out,List.length_append,← HN.out];rfl),HB,Lib.hid (by rw [HT.out];exact HO3.out)⟩
      case measure => first | (simp [intOf];done) | (simp [intOf];omega)
    · obtain rfl:i = k:=by have:=hkle.out;omega
      have hlt:¬ (i:Int) < (l.length:Int):=by have:=HEI.out;omega
      have hdn:decide (i < l.length) = false:=decide_eq_false (by have:=HEI.out;omega)
      have hnl:¬ i < l.length:=by have:=HEI.out;omega
      have hde:decide ((i:Int) = (l.length:Int)) = true:=decide_eq_true (by have:=HEI.out;omega)
      have heq:((i:Int) == (l.length:Int)) = true:=by rw [beq_iff_eq];have:=HEI.out;omega
      go_upto_region 3 with fail
      have f0:=fun p:BelowOf _ => (HK.out.keep p.h).c2.1
      have f1:=fun p:BelowOf _ => (HK.out.keep p.h).c2.2.1
      refine wp_region_WQ (by kernel_rfl) (by kernel_rfl) ?_
      repeat (refine WQ.step (fun K hK => ?_);go_simp;first | (refine hK.out _ ?_;clear hK K) | (apply Exists.intro;refine ⟨fun _ => ?_,hK.out _ ?_⟩;(first | rfl);clear hK K))
      refine WQ.nil ?_
      intro Wq hw'
      obtain ⟨⟨wq,hbq⟩,hw2⟩:=hw'
      subst hw2
      replace HO:=Lib.hid (HO.out.keep hbq)
      replace HB:=Lib.hid (bch' HB.out hbq)
      clear f0 f1
      clear k0 k1 kf0 kf1
      clear HK HBW
      have HK:=Lib.hid (HK1.out.keep HB.out)
      have HBW:Hid (Below w.heap.size w Wq):=Lib.hid (bch' HB0.out HB.out)
      obtain ⟨k0,k1,kf0,kf1⟩:=HK.out.c2
      go_upto_region 6 with fail
      have f0:=fun p:BelowOf _ => (HK.out.keep p.h).c2.1
      have f1:=fun p:BelowOf _ => (HK.out.keep p.h).c2.2.1
      refine wp_region_WQ (by kernel_rfl) (by kernel_rfl) ?_
      repeat (refine WQ.step (fun K hK => ?_);go_simp;first | (refine hK.out _ ?_;clear hK K) | (apply Exists.intro;refine ⟨fun _ => ?_,hK.out _ ?_⟩;(first | rfl);clear hK K))
      refine WQ.nil ?_
      intro Wr hw'
      obtain ⟨⟨wr,hbr⟩,hw2⟩:=hw'
      subst hw2
      replace HO:=Lib.hid (HO.out.keep hbr)
      replace HB:=Lib.hid (bch' HB.out hbr)
      clear f0 f1
      clear k0 k1 kf0 kf1
      clear HK HBW
      have HK:=Lib.hid (HK1.out.keep HB.out)
      have HBW:Hid (Below w.heap.size w Wr):=Lib.hid (bch' HB0.out HB.out)
      obtain ⟨k0,k1,kf0,kf1⟩:=HK.out.c2
      go_upto_region 8 with (first | (at_builtin;refine wpList_appR3 rfl (.tmp 40) (.tmp 42) 55 rfl w3.heap.size 45 i0 (.agg #[.int .i64 0,.int .i64 0]) 16 Tryz.underlying55 hi hz0 hz1 hz2 rfl (by decide) (by decide) pp cc n ((l.take i)) (HN.out) _ ((ch,a)) Wr.heap.size (encQ_len _) (fun j u hu => cellN _ 45 hu) (encQ_one _) rfl (HO.out.keep ((Below.refl _ Wr).alloc (Nat.le_refl _) _)) rfl (by have:=HFEW.out;rw [List.length_take];omega) (by have:=HB.out.size;rw [World.size_alloc];omega) ?_;intro p1 c1 w4 hO3 hb3 _;have HO3:=Lib.hid hO3;have HB3:=Lib.hid (HB.out.trans (((Below.refl _ Wr).alloc (by have:=HB.out.size;omega) _).trans hb3));clear hO3 hb3))
      have HN1:Hid (n + 1 = (l.take i ++ [(ch,a)]).length):=Lib.hid (by rw [List.length_append,← HN.out];rfl)
      clear k0 k1 kf0 kf1
      clear HK HBW
      have HO:=HO3;clear HO3
      clear HB
      have HB:=HB3;clear HB3
      have HBW:Hid (Below w.heap.size w w4):=Lib.hid (bch' HB0.out HB.out)
      have hb3:(i:Int) ≤ (l.length:Int):=by have:=HEI.out;omega
      have htn:((i:Int)).toNat = i:=by omega
      have hb1:(0:Int) ≤ (i:Int):=by omega
      have hs0:l.length - i = 0:=by have:=HEI.out;omega
      cases p with
      | none =>
        have hcz:c = 0:=HCZ.out rfl
        subst hcz
        go_wp2_with (first | (at_builtin;refine wpList_appE rfl (.tmp 44) (.tmp 47) 55 rfl w3.heap.size 45 i0 (.agg #[.int .i64 0,.int .i64 0]) 16 Tryz.underlying55 hi hz0 hz1 hz2 rfl (by decide) (by decide) p1 c1 (n + 1) (l.take i ++ [(ch,a)]) HN1.out (by simp) _ _ _ rfl HO.out rfl (by first | (intro h;cases h;done) | (intro _;rfl)) (by have:=HFEW.out;rw [List.length_append];rw [List.length_take];simp;omega) (by have:=HB.out.size;omega) ?_;intro p2 c2 w5 hO3 hb3;have HO3:=Lib.hid hO3;have HB3:=Lib.hid (HB.out.trans hb3);clear hO3 hb3))
        go_ret
        have HE:=Lib.hid (show l.take i ++ [(ch,a)] = l.take i ++ (ch,a) :: l.drop i from by rw [List.drop_eq_nil_of_le (by have:=HEI.out;omega)])
        rw [HE.out] at HO3
        have HL:Hid (n + 1 = (l.take i ++ (ch,a) :: l.drop i).length):=Lib.hid (by rw [← HE.out,HN1.out])
        rw [HL.out]
        exact ⟨_,_,by first | rfl | (rw [show min i l.length + 1 = (l.take i ++ (ch,a) :: l.drop i).length from by simp;have:=HEI.out;omega];rfl),HO3.out.lower (by have:=HB0.out.size;omega),bch' HB0.out HB3.out⟩
      | some ad =>
        by_cases hcd:c = i
        · go_wp2_with (first | (at_builtin;refine wpList_appE rfl (.tmp 44) (.tmp 47) 55 rfl w3.heap.size 45 i0 (.agg #[.int .i64 0,.int .i64 0]) 16 Tryz.underlying55 hi hz0 hz1 hz2 rfl (by decide) (by decide) p1 c1 (n + 1) (l.take i ++ [(ch,a)]) HN1.out (by simp) _ _ _ rfl HO.out rfl (by first | (intro h;cases h;done) | (intro _;rfl)) (by have:=HFEW.out;rw [List.length_append];rw [List.length_take];simp;omega) (by have:=HB.out.size;omega) ?_;intro p2 c2 w5 hO3 hb3;have HO3:=Lib.hid hO3;have HB3:=Lib.hid (HB.out.trans hb3);clear hO3 hb3))
          go_ret
          have HE:=Lib.hid (show l.take i ++ [(ch,a)] = l.take i ++ (ch,a) :: l.drop i from by rw [List.drop_eq_nil_of_le (by have:=HEI.out;omega)])
          rw [HE.out] at HO3
          have HL:Hid (n + 1 = (l.take i ++ (ch,a) :: l.drop i).length):=Lib.hid (by rw [← HE.out,HN1.out])
          rw [HL.out]
          exact ⟨_,_,by first | rfl | (rw [show min i l.length + 1 = (l.take i ++ (ch,a) :: l.drop i).length from by simp;have:=HEI.out;omega];rfl),HO3.out.lower (by have:=HB0.out.size;omega),bch' HB0.out HB3.out⟩
        · go_wp2_with (first | (at_builtin;refine wpList_appE rfl (.tmp 44) (.tmp 47) 55 rfl w3.heap.size 45 i0 (.agg #[.int .i64 0,.int .i64 0]) 16 Tryz.underlying55 hi hz0 hz1 hz2 rfl (by decide) (by decide) p1 c1 (n + 1) (l.take i ++ [(ch,a)]) HN1.out (by simp) _ _ _ rfl HO.out rfl (by first | (intro h;cases h;done) | (intro _;rfl)) (by have:=HFEW.out;rw [List.length_append];rw [List.length_take];simp;omega) (by have:=HB.out.size;omega) ?_;intro p2 c2 w5 hO3 hb3;have HO3:=Lib.hid hO3;have HB3:=Lib.hid (HB.out.trans hb3);clear hO3 hb3))
          go_ret
          have HE:=Lib.hid (show l.take i ++ [(ch,a)] = l.take i ++ (ch,a) :: l.drop i from by rw [List.drop_eq_nil_of_le (by have:=HEI.out;omega)])
          rw [HE.out] at HO3
          have HL:Hid (n + 1 = (l.take i ++ (ch,a) :: l.drop i).length):=Lib.hid (by rw [← HE.out,HN1.out])
          rw [HL.out]
          exact ⟨_,_,by first | rfl | (rw [show min i l.length + 1 = (l.take i ++ (ch,a) :: l.drop i).length from by simp;have:=HEI.out;omega];rfl),HO3.out.lower (by have:=HB0.out.size;omega),bch' HB0.out HB3.out⟩
theorem r28_put (w : World) (l : List (Int × Int)) (ch a : Int) (p : Option Addr) (c : Nat) (hR : RowX encQ 2 w p l) (h16 : l.length ≤ 1000000) (hcap : l.length ≤ c) (hcz : p = none → c = 0) :
    Calls Tryz.prog 105 #[.slice p l.length c,.agg #[.int .i64 ch,.int .i64 a]] w fun e w' => ∃ pp cc,e = .returned (.slice pp (putP l (ch,a)).length cc) ∧ OwnR encQ 2 w.heap.size 45 w' pp cc (putP l (ch,a)) ∧ Below w.heap.size w w':=by
  obtain ⟨i,hi⟩:∃ i,i = l.findIdx (fun q => !ltP q (ch,a)):=⟨_,rfl⟩
  have hle:i ≤ l.length:=by rw [hi];exact List.findIdx_le_length
  have hbe:∀ j (hj:j < l.length),j < i → ltP (l[j]'hj) (ch,a) = true:=fun j hj h => by
    rw [hi] at h
    have:=List.not_of_lt_findIdx h
    simpa using this
  have hat:∀ h:i < l.length,ltP (l[i]'h) (ch,a) = false:=fun h => by
    have:=List.findIdx_getElem (xs:=l) (p:=fun q => !ltP q (ch,a)) (w:=by rw [← hi];exact h)
    simp only [← hi] at this
    simpa using this
  rw [putP_at hle hbe hat]
  by_cases h:i < l.length
  · by_cases e:l[i]'h = (ch,a)
    · rw [if_pos (by rw [List.getElem?_eq_getElem h,e])]
      exact r28_put_hit w l ch a p c i hR h16 hcap hcz h hbe (fun _ => e)
    · rw [if_neg (by rw [List.getElem?_eq_getElem h];intro k;exact e (Option.some.inj k))]
      exact r28_put_mid w l ch a p c i hR h16 hcap hcz h hbe (fun _ => ⟨hat h,e⟩)
  · rw [if_neg (by rw [List.getElem?_eq_none (by omega)];intro k;cases k)]
    exact r28_put_end w l ch a p c i hR h16 hcap hcz (by omega) hbe trivial
end Go.Proofs.YtbeojahilbglcaaGreatDoor
set_option maxRecDepth 100000
set_option maxHeartbeats 4000000
namespace Lum
open Go Go.RowKit Go.Shelf
open Go.Lib (decDigits itoa)
theorem putP_len (l:List (Int × Int)) (p:Int × Int):(putP l p).length ≤ l.length + 1:=by
  induction l with
  | nil => simp [putP]
  | cons x r ih => rw [putP];split;(· simpa using ih);split <;> simp
theorem putsP_snoc (l:List (Int × Int)) (p:Int × Int):putsP (l ++ [p]) = putP (putsP l) p:=by unfold putsP;rw [List.foldl_append];rfl
theorem putsP_len (l:List (Int × Int)):(putsP l).length ≤ l.length:=by
  unfold putsP
  suffices h:∀ (l a:List (Int × Int)),(l.foldl putP a).length ≤ a.length + l.length by simpa using h l []
  intro l
  induction l with
  | nil => intro a;simp
  | cons x r ih => intro a;have h1:=ih (putP a x);have h2:=putP_len a x;rw [List.foldl_cons,List.length_cons];omega
theorem take_map_snoc {cs:List Int} {m:Nat} (h:m < cs.length) (a:Int):(cs.take (m + 1)).map (fun c => (c,a)) = (cs.take m).map (fun c => (c,a)) ++ [(inI cs m,a)]:=by
  rw [List.take_succ_eq_append_getElem h,List.map_append];unfold inI;simp [h]
theorem OwnR.capz {β:Type} {enc:β → List Value} {k base:Nat} {e:TypeId} {W:World} {p:Option Addr} {c:Nat} {l:List β} (h:OwnR enc k base e W p c l):p = none → c = 0:=by
  intro hp
  rcases h.2 with ⟨h1,-⟩ | ⟨g,cap,cur,h1,-⟩
  · injection h1 with _ _ h1
  · injection h1 with h1;rw [hp] at h1;cases h1
theorem RowX.nil {β:Type} {enc:β → List Value} {k:Nat} {W:World}:RowX enc k W none ([]:List β):=fun h => absurd rfl h
def ParP (l:List (Int × Int)) (n:Int) (w:World) (e:Ending) (w':World):Prop:=∃ v',e = .returned (.tuple #[v',.int .i64 n]) ∧ ParsAt w' v' l ∧ Below w.heap.size w w'
theorem ParP.nil {n:Int} {w w':World} {e:Ending} (he:e = .returned (.tuple #[.slice none 0 0,.int .i64 n])) (h:Below w.heap.size w w'):ParP [] n w e w':=⟨_,he,⟨none,0,rfl,RowX.nil⟩,h⟩
def parE (L:List Efx) (R:List Rnx):List (Int × Int):=if boE L R = 0 then parL L R else []
end Lum
namespace Go.Proofs.YtbeojahilbglcaaGreatDoor
open Go.RowKit Go.Shelf Lum
open Go.Lib (decDigits itoa)
attribute [local go_sem] bs_get bs_extract_end bs_extract_from bs_extract bs_append
theorem r28_listed (L : List Efx) (R : List Rnx) (v u : Value) (w : World) (hl : EfsAt w v L) (hu : RunsAt w u R) (hoL : OrdOk efE (·.nu) L) (hoR : OrdOk rnE (·.ef) R) :
    Calls Tryz.prog 62 #[v,u] w fun e w' => ∃ pp cc,e = .returned (.slice pp (parL L R).length cc) ∧ OwnR encQ 2 w.heap.size 45 w' pp cc (parL L R) ∧ Below w.heap.size w w':=by
  have HE1:=Lib.hid hl;have HOL:=Lib.hid hoL;have HOR:=Lib.hid hoR
  obtain ⟨M,pm,cm,rfl,hM,hMR,hMC⟩:=hu
  obtain ⟨E,pe,ce,rfl,hEm,hER,hEW⟩:=hl
  have HL:Hid (M.length = R.length):=Lib.hid (by rw [← hM,List.length_map])
  have HFEW:Hid (R.length ≤ 16):=Lib.hid hoR.few
  have HM1:=Lib.hid hM;have HR1:=Lib.hid hMR;have HH1:=Lib.hid hMC;have HEM:=Lib.hid hEm;have HER:=Lib.hid hER
  clear hM hMR hMC hEm hER hEW hoL hoR
  have HB:=Lib.hid (Below.refl w.heap.size w)
  go_enter Tryz.func62,Tryz.ntmps62
  go_wp2_with fail
  go_loopw [5,6] (fun s j wr => ∃ (k n:Nat) (p:Option Addr) (c:Nat),s = .slice p n c ∧ j = .int .i64 (k:Int) ∧ k ≤ R.length ∧ Hid (n = (putsP (movedL L (R.take k))).length) ∧ Hid (Below w.heap.size w wr) ∧ Hid (OwnR encQ 2 w.heap.size 45 wr p c (putsP (movedL L (R.take k))))) (fun _ j _ => R.length - (intOf j).toNat)
  case atStart => exact ⟨0,0,none,0,rfl,rfl,Nat.zero_le _,Lib.hid (by rw [List.take_zero];rfl),HB,Lib.hid (by rw [List.take_zero];exact OwnR.nil _ _ _)⟩
  case round =>
    obtain ⟨k,n,p,c,rfl,rfl,hk9,HN,HB2,HO⟩:=hrel
    clear HB
    have HB:=HB2;clear HB2
    have HE:=Lib.hid (EfsAt.kept HE1.out HB.out)
    by_cases hlt0:k < R.length
    · have hlm:k < M.length:=by have:=HL.out;omega
      have hlt:(k:Int) < (M.length:Int):=by omega
      have hk0:(0:Int) ≤ (k:Int):=by omega
      have hlo:k * 6 < 9223372036854775807:=by have:=HFEW.out;omega
      have hun:IntKind.i64.wrap ((k:Int) + 1) = (k:Int) + 1:=IntWalk.i64_in _ (by have:=HFEW.out;omega)
      obtain ⟨bb,oo,rfl,hbb,hCC⟩:=HR1.out (fun e => by subst e;simp at hlm)
      obtain ⟨⟨x,q1,q2,q3⟩,hq⟩:∃ y,y = M[k]'hlm:=⟨_,rfl⟩
      have hcell:=hCC k hlm
      rw [← hq] at hcell
      have hxi:=(HH1.out _ (List.getElem_mem hlm)).1
      rw [← hq] at hxi
      dsimp only at hxi
      have hq2:=hxi.len
      subst hq2
      have hxr:R[k]'hlt0 = x:=(fst_at HM1.out hlm hlt0).trans (by rw [← hq])
      have hxo:=rnOk (HOR.out.ok k hlt0)
      rw [hxr] at hxo
      obtain ⟨p',c',e9,hp9⟩:=hxi
      injection e9 with e1 e2 e3
      subst e1
      clear e2 e3
      have hpos:0 < x.cs.length:=by have:=hxo.ch.pos;exact this
      have hcs:x.cs.length ≤ 256:=hxo.ch.few
      obtain ⟨bq,oq,rfl,hbq,hCQ⟩:=hp9 (fun h => by rw [h] at hpos;exact absurd hpos (Nat.lt_irrefl _))
      have HBb:=Lib.hid hbb;have HBq:=Lib.hid hbq;have HCQ:=Lib.hid hCQ;have HCS:=Lib.hid hcs;have HPOS:=Lib.hid hpos
      have HY0:=Lib.hid (hcell 0 _ rfl);have HY1:=Lib.hid (hcell 1 _ rfl)
      have HTK:Hid (movedL L (R.take (k + 1)) = movedL L (R.take k) ++ movedE L x):=Lib.hid (by rw [movedL_take hlt0,hxr])
      obtain ⟨i,hit,hbl⟩:=belongs_key HOL.out x.ef
      have hpl:=fun W (h:EfsAt W (.slice pe E.length ce) L) => r28_place x.ef L (.slice pe E.length ce) W h (by have:=HOL.out.few;omega)
      clear hcell hCC hq hxr hxo hbb hbq hCQ hp9 hcs
      cases hit with
      | false =>
        rw [place_no hbl.miss] at hpl
        have HNO:Hid (movedE L x = []):=Lib.hid (movedE_none (find_miss hbl.miss))
        clear hbl
        have HPL:=Lib.hid hpl;clear hpl
        have y0:wr.cell? ⟨bb,oo + k * 6,none⟩ = some (.int .i64 x.ef):=(HB.out.cell (p:=⟨bb,oo + k * 6 + 0,none⟩) HBb.out).trans HY0.out
        have y1:wr.cell? ⟨bb,oo + k * 6 + 1,none⟩ = some (.slice (some ⟨bq,oq,none⟩) x.cs.length q3):=(HB.out.cell (p:=⟨bb,oo + k * 6 + 1,none⟩) HBb.out).trans HY1.out
        have hbr:bb < wr.heap.size:=Nat.lt_of_lt_of_le HBb.out HB.out.size
        go_upto_region 6 with (first | (with_reducible refine ((HPL.out _ HE.out).mono ?_);rintro e w' ⟨rfl,hb⟩;replace HE:=Lib.hid (EfsAt.kept HE.out hb);replace HO:=Lib.hid (OwnR.keep HO.out hb);replace HB:=Lib.hid (bch' HB.out hb);clear hb))
        clear y0 y1 hbr
        have HT2:Hid ((putsP (movedL L (R.take (k + 1)))) = (putsP (movedL L (R.take k)))):=Lib.hid (by rw [HTK.out,HNO.out,List.append_nil])
        go_wp2_with fail
        go_loopw [5,8] (fun s j wr => ∃ (p:Option Addr) (c:Nat),s = .slice p n c ∧ j = .int .i64 (0:Int) ∧ Hid (Below w.heap.size w wr) ∧ Hid (OwnR encQ 2 w.heap.size 45 wr p c (putsP (movedL L (R.take k))))) (fun _ _ _ => 0)
        case atStart => exact ⟨p,c,rfl,rfl,HB,HO⟩
        case round =>
          obtain ⟨p,c,rfl,rfl,HB2,HO2⟩:=hrel
          clear HB HO
          have HB:=HB2;have HO:=HO2;clear HB2 HO2
          have hp0:=HPOS.out
          have hlt2:(0:Int) < (x.cs.length:Int):=by omega
          have y0:wr.cell? ⟨bb,oo + k * 6,none⟩ = some (.int .i64 x.ef):=(HB.out.cell (p:=⟨bb,oo + k * 6 + 0,none⟩) HBb.out).trans HY0.out
          have y1:wr.cell? ⟨bb,oo + k * 6 + 1,none⟩ = some (.slice (some ⟨bq,oq,none⟩) x.cs.length q3):=(HB.out.cell (p:=⟨bb,oo + k * 6 + 1,none⟩) HBb.out).trans HY1.out
          have hbr:bb < wr.heap.size:=Nat.lt_of_lt_of_le HBb.out HB.out.size
          go_wp2_with fail
          go_roundw
          case rel => exact ⟨k + 1,n,p,c,by first | rfl | simp,by first | rfl | simp,by omega,Lib.hid (by rw [HT2.out];exact HN.out),HB,Lib.hid (by rw [HT2.out];exact HO.out)⟩
          case measure => first | (simp [intOf];done) | (simp [intOf];omega)
      | true =>
        rw [hbl.ix] at hpl
        have hil0:=(hbl.yes rfl).1
        have hil:i < E.length:=by have:=hil0;rw [← HEM.out,List.length_map] at this;exact this
        obtain ⟨y,hy⟩:∃ y,y = E[i]'hil:=⟨_,rfl⟩
        obtain ⟨be,oe,rfl,hbe,hCE⟩:=HER.out (fun e => by subst e;exact absurd hil (Nat.not_lt_zero _))
        have hcE:=hCE i hil
        rw [← hy] at hcE
        obtain ⟨ya,hya⟩:∃ ya,ya = y.1.at_:=⟨_,rfl⟩
        have hya2:w.cell? ⟨be,oe + i * 6 + 1,none⟩ = some (.int .i64 ya):=by rw [hya];exact hcE 1 _ rfl
        have HYA:=Lib.hid hya2;have HBe:=Lib.hid hbe
        have hlr:L[i]'hil0 = y.1:=(fst_at HEM.out hil hil0).trans (by rw [← hy])
        have HME:Hid (movedE L x = x.cs.map fun c => (c,ya)):=Lib.hid (by rw [movedE_some hbl.find,hlr,hya])
        have hii:(i:Int) < (E.length:Int):=by omega
        have hi0:(0:Int) ≤ (i:Int):=by omega
        have hilo:i * 6 < 9223372036854775807:=by have:=HOL.out.few;omega
        clear hbl hcE hCE hya2 hbe hya hy hlr hil hil0
        have HPL:=Lib.hid hpl;clear hpl
        have y0:wr.cell? ⟨bb,oo + k * 6,none⟩ = some (.int .i64 x.ef):=(HB.out.cell (p:=⟨bb,oo + k * 6 + 0,none⟩) HBb.out).trans HY0.out
        have y1:wr.cell? ⟨bb,oo + k * 6 + 1,none⟩ = some (.slice (some ⟨bq,oq,none⟩) x.cs.length q3):=(HB.out.cell (p:=⟨bb,oo + k * 6 + 1,none⟩) HBb.out).trans HY1.out
        have hbr:bb < wr.heap.size:=Nat.lt_of_lt_of_le HBb.out HB.out.size
        go_upto_region 6 with (first | (with_reducible refine ((HPL.out _ HE.out).mono ?_);rintro e w' ⟨rfl,hb⟩;replace HE:=Lib.hid (EfsAt.kept HE.out hb);replace HO:=Lib.hid (OwnR.keep HO.out hb);replace HB:=Lib.hid (bch' HB.out hb);clear hb))
        clear y0 y1 hbr
        go_wp2_with fail
        go_loopw [5,8] (fun s j wr => ∃ (m n:Nat) (p:Option Addr) (c:Nat),s = .slice p n c ∧ j = .int .i64 (m:Int) ∧ m ≤ x.cs.length ∧ Hid (n = (putsP (movedL L (R.take k) ++ (x.cs.take m).map (fun c => (c,ya)))).length) ∧ Hid (Below w.heap.size w wr) ∧ Hid (OwnR encQ 2 w.heap.size 45 wr p c (putsP (movedL L (R.take k) ++ (x.cs.take m).map (fun c => (c,ya)))))) (fun _ j _ => x.cs.length - (intOf j).toNat)
        case atStart => exact ⟨0,n,p,c,rfl,rfl,Nat.zero_le _,Lib.hid (by rw [List.take_zero,List.map_nil,List.append_nil];exact HN.out),HB,Lib.hid (by rw [List.take_zero,List.map_nil,List.append_nil];exact HO.out)⟩
        case round =>
          obtain ⟨m,n,p,c,rfl,rfl,hm9,HN,HB2,HO2⟩:=hrel
          clear HB HO
          have HB:=HB2;have HO:=HO2;clear HB2 HO2
          have y1:wr.cell? ⟨bb,oo + k * 6 + 1,none⟩ = some (.slice (some ⟨bq,oq,none⟩) x.cs.length q3):=(HB.out.cell (p:=⟨bb,oo + k * 6 + 1,none⟩) HBb.out).trans HY1.out
          have hbr:bb < wr.heap.size:=Nat.lt_of_lt_of_le HBb.out HB.out.size
          by_cases hml:m < x.cs.length
          · have hlt2:(m:Int) < (x.cs.length:Int):=by omega
            have hm0:(0:Int) ≤ (m:Int):=by omega
            have hun2:IntKind.i64.wrap ((m:Int) + 1) = (m:Int) + 1:=IntWalk.i64_in _ (by have:=HCS.out;omega)
            obtain ⟨z,hz⟩:∃ z,z = inI x.cs m:=⟨_,rfl⟩
            have hzc:=HCQ.out m hml
            have hzc:w.cell? ⟨bq,oq + m,none⟩ = some (.int .i64 z):=by rw [hz];exact hzc
            have HZC:=Lib.hid hzc;clear hzc
            have HSN:Hid ((putsP (movedL L (R.take k) ++ (x.cs.take (m + 1)).map (fun c => (c,ya)))) = putP (putsP (movedL L (R.take k) ++ (x.cs.take m).map (fun c => (c,ya)))) (z,ya)):=Lib.hid (by rw [hz,take_map_snoc hml,← List.append_assoc,putsP_snoc])
            clear hz
            go_upto_region 9 with fail
            clear y1 hbr
            obtain ⟨SS,hSS⟩:∃ SS:World → Prop,∀ W',SS W' ↔ (Below w.heap.size w W' ∧ OwnR encQ 2 w.heap.size 45 W' p c (putsP (movedL L (R.take k) ++ (x.cs.take m).map (fun c => (c,ya))))):=⟨fun W' => Below w.heap.size w W' ∧ OwnR encQ 2 w.heap.size 45 W' p c (putsP (movedL L (R.take k) ++ (x.cs.take m).map (fun c => (c,ya)))),fun _ => Iff.rfl⟩
            have HBO:Hid (∀ W',SS W' → (W'.cell? ⟨bb,oo + k * 6 + 1,none⟩ = some (.slice (some ⟨bq,oq,none⟩) x.cs.length q3) ∧ W'.cell? ⟨bq,oq + m,none⟩ = some (.int .i64 z) ∧ W'.cell? ⟨be,oe + i * 6 + 1,none⟩ = some (.int .i64 ya) ∧ bb < W'.heap.size ∧ bq < W'.heap.size ∧ be < W'.heap.size ∧ SS W')):=Lib.hid fun W' hs => by obtain ⟨h1,h2⟩:=(hSS W').1 hs;exact ⟨(h1.cell (p:=⟨bb,oo + k * 6 + 1,none⟩) HBb.out).trans HY1.out,(h1.cell (p:=⟨bq,oq + m,none⟩) HBq.out).trans HZC.out,(h1.cell (p:=⟨be,oe + i * 6 + 1,none⟩) HBe.out).trans HYA.out,Nat.lt_of_lt_of_le HBb.out h1.size,Nat.lt_of_lt_of_le HBq.out h1.size,Nat.lt_of_lt_of_le HBe.out h1.size,hs⟩
            have HS1:Hid (SS wr):=Lib.hid ((hSS _).2 ⟨HB.out,HO.out⟩)
            have HKE:Hid (∀ A B,SS A → Below A.heap.size A B → SS B):=Lib.hid fun A B hs hb => by obtain ⟨h1,h2⟩:=(hSS A).1 hs;exact (hSS B).2 ⟨bch' h1 hb,h2.keep hb⟩
            have HKD:Hid (∀ A,SS A → SS A.drew):=Lib.hid fun A h => HKE.out _ _ h ((Below.refl _ _).drew)
            have HFI2:Hid (∀ A,SS A → Below w.heap.size w A):=Lib.hid fun A hs => ((hSS A).1 hs).1
            obtain ⟨n2,hn2⟩:∃ n2,n2 = (putsP (movedL L (R.take k) ++ (x.cs.take (m + 1)).map (fun c => (c,ya)))).length:=⟨_,rfl⟩
            have HPU:Hid (∀ A,SS A → Calls Tryz.prog 105 #[.slice p n c,.agg #[.int .i64 z,.int .i64 ya]] A fun e w' => ∃ pp cc,e = .returned (.slice pp n2 cc) ∧ OwnR encQ 2 w.heap.size 45 w' pp cc (putsP (movedL L (R.take k) ++ (x.cs.take (m + 1)).map (fun c => (c,ya)))) ∧ Below A.heap.size A w'):=Lib.hid fun A hs => by obtain ⟨h1,h2⟩:=(hSS A).1 hs;have h3:=r28_put A (putsP (movedL L (R.take k) ++ (x.cs.take m).map (fun c => (c,ya)))) z ya p c (h2.row encQ_len) (by have:=putsP_len (movedL L (R.take k) ++ (x.cs.take m).map (fun c => (c,ya)));have h5:=movedL_few (L:=L) HOR.out k;rw [List.length_append,List.length_map,List.length_take] at this;have:=HCS.out;omega) h2.cap h2.capz;rw [← HN.out,← HSN.out,← hn2] at h3;exact h3.mono fun e w' ⟨pp,cc,a1,a2,a3⟩ => ⟨pp,cc,a1,a2.lower h1.size,a3⟩
            have HN2:=Lib.hid hn2
            clear hSS HB HO HE hn2
            go_region_held3 (fun W' => W'.cell? ⟨bb,oo + k * 6 + 1,none⟩ = some (.slice (some ⟨bq,oq,none⟩) x.cs.length q3) ∧ W'.cell? ⟨bq,oq + m,none⟩ = some (.int .i64 z) ∧ W'.cell? ⟨be,oe + i * 6 + 1,none⟩ = some (.int .i64 ya) ∧ bb < W'.heap.size ∧ bq < W'.heap.size ∧ be < W'.heap.size ∧ SS W') (with_reducible refine HBO.out _ ?_;((repeat (first | with_reducible refine HKE.out _ _ ?_ hb9 | with_reducible refine HKD.out _ ?_));with_reducible exact HS1.out)) (first | (go_at_call 105;with_reducible refine (HPU.out _ (by ((repeat (first | with_reducible refine HKE.out _ _ ?_ hb9 | with_reducible refine HKD.out _ ?_));with_reducible exact HS1.out))).mono ?_;rintro e w9 ⟨p9,c9,rfl,ho9,hb9⟩))
            all_goals (have hB9:=HFI2.out _ (show SS w9 by ((repeat (first | with_reducible refine HKE.out _ _ ?_ hb9 | with_reducible refine HKD.out _ ?_));with_reducible exact HS1.out));have HB9:=Lib.hid hB9;have HO9:=Lib.hid ho9;clear hB9 ho9;go_wp2_with fail;go_roundw)
            all_goals first | exact ⟨m + 1,n2,p9,c9,by first | rfl | simp,by first | rfl | simp,by omega,HN2,HB9,HO9⟩ | (simp [intOf];done) | (simp [intOf];omega)
          · have hlt2:¬ (m:Int) < (x.cs.length:Int):=by omega
            obtain rfl:m = x.cs.length:=by omega
            have HT2:Hid ((putsP (movedL L (R.take (k + 1)))) = (putsP (movedL L (R.take k) ++ (x.cs.take x.cs.length).map (fun c => (c,ya))))):=Lib.hid (by rw [HTK.out,HME.out,List.take_length])
            go_wp2_with fail
            go_roundw
            case rel => exact ⟨k + 1,n,p,c,by first | rfl | simp,by first | rfl | simp,by omega,Lib.hid (by rw [HT2.out];exact HN.out),HB,Lib.hid (by rw [HT2.out];exact HO.out)⟩
            case measure => first | (simp [intOf];done) | (simp [intOf];omega)
    · have hlm:¬ (k:Int) < (M.length:Int):=by have:=HL.out;omega
      obtain rfl:k = R.length:=by omega
      have HTA:Hid ((putsP (movedL L (R.take R.length))) = parL L R):=Lib.hid (by rw [List.take_length];rfl)
      rw [HTA.out] at HN HO
      have HN2:=HN;clear HN
      go_wp2_with fail
      go_ret
      obtain rfl:=HN2.out
      exact ⟨_,_,rfl,HO.out,HB.out⟩
theorem r28_params (L : List Efx) (R : List Rnx) (v u : Value) (w : World) (hl : EfsAt w v L) (hu : RunsAt w u R) :
    Calls Tryz.prog 22 #[v,u] w (ParP (parE L R) (boE L R) w):=by
  have hc:=fun W (h:EfsAt W v L) => r28_check L v W h
  have hr:=fun W (h:RunsAt W u R) => r28_runs R u W h
  change ∀ W,EfsAt W v L → Calls _ _ _ _ (fun e w' => e = .returned (.int .i64 (efsE L)) ∧ _) at hc
  change ∀ W,RunsAt W u R → Calls _ _ _ _ (fun e w' => e = .returned (.int .i64 (rnsE R)) ∧ _) at hr
  have HE:=Lib.hid hl;have HN:=Lib.hid hu
  have HB:=Lib.hid (Below.refl w.heap.size w)
  by_cases h1:efsE L = 0
  · by_cases h2:rnsE R = 0
    · have HBZ:Hid (boE L R = 0):=Lib.hid (by rw [boE_rn h1];exact h2)
      rw [show parE L R = parL L R from if_pos (by rw [HBZ.out]),HBZ.out]
      have hli:=fun W (h:EfsAt W v L) (h3:RunsAt W u R) => r28_listed L R v u W h h3 (ordOk (show ordE efE (·.nu) L = 0 from h1)) (ordOk (show ordE rnE (·.ef) R = 0 from h2))
      rw [h1] at hc
      rw [h2] at hr
      clear h1 h2 hl hu
      have HC:=Lib.hid hc;clear hc
      have HR:=Lib.hid hr;clear hr
      have HLI:=Lib.hid hli;clear hli
      go_enter Tryz.func22,Tryz.ntmps22
      go_wp2_with (first | (with_reducible refine ((HC.out _ HE.out).mono ?_);rintro e w' ⟨rfl,hb⟩;replace HE:=Lib.hid (EfsAt.kept HE.out hb);replace HN:=Lib.hid (RunsAt.kept HN.out hb);replace HB:=Lib.hid (bch' HB.out hb);clear hb) | (with_reducible refine ((HR.out _ HN.out).mono ?_);rintro e w' ⟨rfl,hb⟩;replace HE:=Lib.hid (EfsAt.kept HE.out hb);replace HN:=Lib.hid (RunsAt.kept HN.out hb);replace HB:=Lib.hid (bch' HB.out hb);clear hb) | (with_reducible refine ((HLI.out _ HE.out HN.out).mono ?_);rintro e w' ⟨pp,cc,rfl,ho,hb⟩;have HO:=Lib.hid ho;clear ho;replace HE:=Lib.hid (EfsAt.kept HE.out hb);replace HN:=Lib.hid (RunsAt.kept HN.out hb);replace HB:=Lib.hid (bch' HB.out hb);clear hb))
      go_ret2
      exact ⟨_,rfl,HO.out.pars,HB.out⟩
    · have HBZ:Hid (boE L R = rnsE R):=Lib.hid (boE_rn h1)
      have HNZ:Hid (¬ rnsE R = 0):=Lib.hid h2
      rw [show parE L R = [] from if_neg (by rw [HBZ.out];exact HNZ.out),HBZ.out]
      rw [h1] at hc
      have hne:((rnsE R:Int) != 0) = true:=by simpa using h2
      clear h1 h2 hl hu HBZ HNZ
      generalize rnsE R = m at *
      have HC:=Lib.hid hc;clear hc
      have HR:=Lib.hid hr;clear hr
      go_enter Tryz.func22,Tryz.ntmps22
      go_wp2_with (first | (with_reducible refine ((HC.out _ HE.out).mono ?_);rintro e w' ⟨rfl,hb⟩;replace HE:=Lib.hid (EfsAt.kept HE.out hb);replace HN:=Lib.hid (RunsAt.kept HN.out hb);replace HB:=Lib.hid (bch' HB.out hb);clear hb) | (with_reducible refine ((HR.out _ HN.out).mono ?_);rintro e w' ⟨rfl,hb⟩;replace HE:=Lib.hid (EfsAt.kept HE.out hb);replace HN:=Lib.hid (RunsAt.kept HN.out hb);replace HB:=Lib.hid (bch' HB.out hb);clear hb))
      go_ret2
      exact ParP.nil rfl HB.out
  · have HBZ:Hid (boE L R = efsE L):=Lib.hid (boE_ef h1)
    have HNZ:Hid (¬ efsE L = 0):=Lib.hid h1
    rw [show parE L R = [] from if_neg (by rw [HBZ.out];exact HNZ.out),HBZ.out]
    have hne:((efsE L:Int) != 0) = true:=by simpa using h1
    clear h1 hl hu hr HBZ HNZ
    generalize efsE L = m at *
    have HC:=Lib.hid hc;clear hc
    go_enter Tryz.func22,Tryz.ntmps22
    go_wp2_with (first | (with_reducible refine ((HC.out _ HE.out).mono ?_);rintro e w' ⟨rfl,hb⟩;replace HE:=Lib.hid (EfsAt.kept HE.out hb);replace HN:=Lib.hid (RunsAt.kept HN.out hb);replace HB:=Lib.hid (bch' HB.out hb);clear hb))
    go_ret2
    exact ParP.nil rfl HB.out
theorem own_eparams (L : List Efx) (R : List Rnx) (v u : Value) (w : World) (hl : EfsAt w v L) (hu : RunsAt w u R) :
    Calls Tryz.prog 21 #[v,u] w (ParP (parE L R) (boE L R) w):=by
  by_cases hz:boE L R = 0
  · obtain ⟨h1,h2⟩:efsE L = 0 ∧ rnsE R = 0:=by by_cases h1:efsE L = 0;exact ⟨h1,by rw [boE_rn h1] at hz;exact hz⟩;rw [boE_ef h1] at hz;exact absurd hz h1
    rw [show parE L R = parL L R from if_pos hz,hz]
    obtain ⟨M,pp,cc,rfl,hM,hMR,hMW⟩:=hl
    obtain ⟨N,pr,cr,rfl,hN,hNR,hNC⟩:=hu
    subst hM hN
    exact own_eparams0 M N pp pr cc cr w hMR hMW hNR hNC (ordOk (show ordE efE (·.nu) _ = 0 from h1)) (ordOk (show ordE rnE (·.ef) _ = 0 from h2))
  · obtain ⟨pv,nv,cv,rfl⟩:∃ p n c,v = .slice p n c:=by obtain ⟨M,p,c,h,-⟩:=hl;exact ⟨_,_,_,h⟩
    have hbo:=fun W (h1:EfsAt W (.slice pv nv cv) L) (h2:RunsAt W u R) => own_eboth L R (.slice pv nv cv) u W h1 h2
    rw [show parE L R = [] from if_neg hz]
    have hal:=(Below.refl w.heap.size w).alloc (Nat.le_refl _) (.cells #[.slice pv nv cv] 43)
    have HE:=Lib.hid (EfsAt.kept hl hal);have HN:=Lib.hid (RunsAt.kept hu hal);have HB:=Lib.hid hal;clear hal hl hu
    have HL:=Lib.hid (Blk.new w 43 #[.slice pv nv cv])
    obtain ⟨a0,af0⟩:=HL.out.c1
    have hne:((boE L R:Int) != 0) = true:=by simpa using hz
    clear hz
    generalize boE L R = m at *
    have HBO:=Lib.hid hbo;clear hbo
    refine (callsIn_wide (n:=5)).1 ?_
    refine callsIn_of_wp_marks Tryz.func21 rfl trivial ?_ rfl
    simp only [Tryz.ntmps21,List.size_toArray,List.length_cons,List.length_nil,Nat.reduceAdd,Nat.reduceSub,Array.replicate_succ,Array.replicate_zero,List.push_toArray,List.append_toArray,List.nil_append,List.cons_append]
    refine wpIn_wide.2 ?_
    go_wp2_with (first | (with_reducible refine ((HBO.out _ HE.out HN.out).mono ?_);rintro e w' ⟨rfl,hb⟩;replace HL:=Lib.hid (HL.out.keep hb);clear a0 af0;replace HE:=Lib.hid (EfsAt.kept HE.out hb);replace HN:=Lib.hid (RunsAt.kept HN.out hb);replace HB:=Lib.hid (bch' HB.out hb);clear hb;obtain ⟨a0,af0⟩:=HL.out.c1))
    refine leaves_marks [] _ List.nodup_nil (fun D hD => by cases hD) ⟨.tuple #[.slice none 0 0,.int .i64 m],by simp [results,Tryz.f21,go_sem],ParP.nil rfl HB.out⟩
end Go.Proofs.YtbeojahilbglcaaGreatDoor

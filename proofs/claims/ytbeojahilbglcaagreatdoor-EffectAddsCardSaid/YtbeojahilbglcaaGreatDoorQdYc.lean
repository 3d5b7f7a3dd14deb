/- A part of the proof of EffectAdds: contracts of functions, and plain facts. -/
import Derived.Test.YtbeojahilbglcaaGreatDoorQdYx
set_option maxRecDepth 100000
set_option maxHeartbeats 4000000
set_option linter.unusedVariables false
set_option linter.unusedSimpArgs false
namespace Lum
open Go Go.RowKit Go.Shelf
open Go.Lib (decDigits itoa)
def fndI (l:List Efx) (n:Int):Int:=if efsE l = 0 then (if 0 ≤ ixOf (fun x:Efx => x.nu == n) l then ixOf (fun x:Efx => x.nu == n) l else 0) else 0
def fndB (l:List Efx) (n:Int):Bool:=if efsE l = 0 then decide (0 ≤ ixOf (fun x:Efx => x.nu == n) l) else false
end Lum
namespace Go.Proofs.YtbeojahilbglcaaGreatDoor
open Go.RowKit Go.Shelf Lum
open Go.Lib (decDigits itoa)
attribute [local go_sem] bs_get bs_extract_end bs_extract_from bs_extract bs_append
theorem cl_eff (nu at_ pe sp sz n : Int) (p : Option Addr) (xn c : Nat) (B : Nat) (w : World) (hB : B < w.heap.size) (hc : w.cell? ⟨B, 0, none⟩ = some (.func (.func 56) #[] #[])) :
    Calls Tryz.prog 100 #[.agg #[.int .i64 nu,.int .i64 at_,.slice p xn c,.int .i64 pe,.int .i64 sp,.int .i64 sz],.int .i64 n,.pointer (some ⟨B,0,none⟩)] w fun e w' => e = .returned (.int .i64 (IntKind.i64.wrap (nu - n))) ∧ Below w.heap.size w w':=by
  have hk:=fun W => own_enumber nu at_ pe sp sz p xn c W
  have hF:=enters_of Tryz.func56 (by kernel_rfl) rfl
  have HC:=Lib.hid (((Below.refl w.heap.size w).alloc (Nat.le_refl _) (.cells #[.int .i64 nu,.int .i64 at_,.slice p xn c,.int .i64 pe,.int .i64 sp,.int .i64 sz] 71)).cell (p:=⟨B,0,none⟩) hB |>.trans hc)
  have HK2:=Lib.hid hk;clear hk
  have HK:=Lib.hid (Blk.new w 71 #[.int .i64 nu,.int .i64 at_,.slice p xn c,.int .i64 pe,.int .i64 sp,.int .i64 sz])
  have HB:=Lib.hid ((Below.refl w.heap.size w).alloc (Nat.le_refl _) (.cells #[.int .i64 nu,.int .i64 at_,.slice p xn c,.int .i64 pe,.int .i64 sp,.int .i64 sz] 71))
  obtain ⟨k0,k1,k2,k3,k4,k5,kf0,kf1,kf2,kf3,kf4,kf5⟩:=HK.out.c6
  have hcc:=HC.out
  go_enter Tryz.func100,Tryz.ntmps100
  go_wp2_with (first | (with_reducible refine ((HK2.out _).mono ?_);rintro e w' ⟨rfl,hb⟩;replace HK:=Lib.hid (HK.out.keep hb);clear k0 k1 k2 k3 k4 k5 kf0 kf1 kf2 kf3 kf4 kf5;replace HB:=Lib.hid (bch' HB.out hb);clear hb;obtain ⟨k0,k1,k2,k3,k4,k5,kf0,kf1,kf2,kf3,kf4,kf5⟩:=HK.out.c6))
  go_ret
  exact ⟨by first | rfl | (rw [IntWalk.i64_left];rfl),HB.out⟩
theorem bs_eff (M : FuncId) (fv : Value) (l : List (Efx × Sl3)) (pp : Option Addr) (cc : Nat) (tv : Value) (c : Nat → Int) (w : World) (hR : RowX encE 6 w pp l) (hn0 : l.length ≤ 1000000) (hF : ∀ args w, (callFunc M args).run Tryz.prog w = .ok (.enter M args) w)
    (hcm:∀ i (hi:i < l.length),∀ W,Below w.heap.size w W → Calls Tryz.prog M #[.agg #[.int .i64 ((l[i]'hi).1.nu),.int .i64 ((l[i]'hi).1.at_),.slice (l[i]'hi).2.1 (l[i]'hi).2.2.1 (l[i]'hi).2.2.2,.int .i64 ((l[i]'hi).1.pe),.int .i64 ((l[i]'hi).1.sp),.int .i64 ((l[i]'hi).1.sz)],tv,fv] W fun e w' => e = .returned (.int .i64 (c i)) ∧ Below W.heap.size W w') :
    Calls Tryz.prog 99 #[.slice pp l.length cc,tv,.func (.func M) #[] #[fv]] w fun e w' => ∃ i:Nat,Halved c l.length i ∧ e = .returned (.tuple #[.int .i64 (i:Int),.bool (decide (i < l.length ∧ c i = 0))]) ∧ Below w.heap.size w w':=by
  have hv2:=Lib.hid hR;clear hR
  have hcc:=Lib.hid hcm;clear hcm
  have HB:=Lib.hid (Below.refl w.heap.size w)
  go_enter Tryz.func99,Tryz.ntmps99
  go_wp2_with fail
  go_loopg [9,10] l.length (fun kx s9 s10 wr => ∃ lo hi:Nat,s9 = .int .i64 (lo:Int) ∧ s10 = .int .i64 (hi:Int) ∧ lo ≤ hi ∧ hi ≤ l.length ∧ hi - lo ≤ kx ∧ Hid (Below w.heap.size w wr) ∧ Hid (0 < lo → c (lo - 1) < 0) ∧ Hid (hi < l.length → 0 ≤ c hi))
  case atStart => exact ⟨0,l.length,rfl,rfl,Nat.zero_le _,Nat.le_refl _,by omega,HB,Lib.hid (fun h => absurd h (Nat.lt_irrefl 0)),Lib.hid (fun h => absurd h (Nat.lt_irrefl _))⟩
  case round =>
    clear HB
    obtain ⟨lo,hi,rfl,rfl,hlh,hin,hg,HB,H1,H2⟩:=hrel
    by_cases hlt:lo < hi
    · have hml:(lo + hi) / 2 < l.length:=by omega
      have hlo:(lo + hi) / 2 * 6 < 9223372036854775807:=by omega
      obtain ⟨b,o,rfl,hb,hC⟩:=hv2.out (fun h => by subst h;exact absurd hml (Nat.not_lt_zero _))
      obtain ⟨x,hx⟩:∃ x,x = l[((lo + hi) / 2)]'hml:=⟨_,rfl⟩
      have hcell:=hC ((lo + hi) / 2) hml
      have hcm:=hcc.out ((lo + hi) / 2) hml
      rw [← hx] at hcell hcm
      have x0:wr.cell? ⟨b,o + ((lo + hi) / 2) * 6,none⟩ = some (.int .i64 (x.1.nu)):=(HB.out.cell (p:=⟨b,o + ((lo + hi) / 2) * 6 + 0,none⟩) hb).trans (hcell 0 _ rfl)
      have x1:wr.cell? ⟨b,o + ((lo + hi) / 2) * 6 + 1,none⟩ = some (.int .i64 (x.1.at_)):=(HB.out.cell (p:=⟨b,o + ((lo + hi) / 2) * 6 + 1,none⟩) hb).trans (hcell 1 _ rfl)
      have x2:wr.cell? ⟨b,o + ((lo + hi) / 2) * 6 + 2,none⟩ = some (.slice x.2.1 x.2.2.1 x.2.2.2):=(HB.out.cell (p:=⟨b,o + ((lo + hi) / 2) * 6 + 2,none⟩) hb).trans (hcell 2 _ rfl)
      have x3:wr.cell? ⟨b,o + ((lo + hi) / 2) * 6 + 3,none⟩ = some (.int .i64 (x.1.pe)):=(HB.out.cell (p:=⟨b,o + ((lo + hi) / 2) * 6 + 3,none⟩) hb).trans (hcell 3 _ rfl)
      have x4:wr.cell? ⟨b,o + ((lo + hi) / 2) * 6 + 4,none⟩ = some (.int .i64 (x.1.sp)):=(HB.out.cell (p:=⟨b,o + ((lo + hi) / 2) * 6 + 4,none⟩) hb).trans (hcell 4 _ rfl)
      have x5:wr.cell? ⟨b,o + ((lo + hi) / 2) * 6 + 5,none⟩ = some (.int .i64 (x.1.sz)):=(HB.out.cell (p:=⟨b,o + ((lo + hi) / 2) * 6 + 5,none⟩) hb).trans (hcell 5 _ rfl)
      have hbr:b < wr.heap.size:=by have:=HB.out.size;omega
      clear hC hcell hb hx
      have HCM:=Lib.hid hcm;clear hcm
      by_cases hc:c ((lo + hi) / 2) < 0
      · have K1:Hid (0 < (lo + hi) / 2 + 1 → c ((lo + hi) / 2 + 1 - 1) < 0):=Lib.hid fun _ => by rw [Nat.add_sub_cancel];exact hc
        generalize c ((lo + hi) / 2) = cv at *
        go_wp2_with (first | (with_reducible refine ((HCM.out _ HB.out).mono ?_);rintro e w' ⟨rfl,hb⟩;replace HB:=Lib.hid (bch' HB.out hb);clear hb))
        go_roundg (hi - ((lo + hi) / 2 + 1))
        case measure => omega
        case rel => exact ⟨(lo + hi) / 2 + 1,hi,by rw [show ((lo:Int) + (hi:Int)) / 2 + 1 = (((lo + hi) / 2 + 1:Nat):Int) by omega],rfl,by omega,hin,Nat.le_refl _,HB,K1,H2⟩
      · have K2:Hid ((lo + hi) / 2 < l.length → 0 ≤ c ((lo + hi) / 2)):=Lib.hid fun _ => by omega
        generalize hcv:c ((lo + hi) / 2) = cv at hc HCM
        clear hcv
        go_wp2_with (first | (with_reducible refine ((HCM.out _ HB.out).mono ?_);rintro e w' ⟨rfl,hb⟩;replace HB:=Lib.hid (bch' HB.out hb);clear hb))
        go_roundg ((lo + hi) / 2 - lo)
        case measure => omega
        case rel => exact ⟨lo,(lo + hi) / 2,rfl,by rw [show ((lo:Int) + (hi:Int)) / 2 = (((lo + hi) / 2:Nat):Int) by omega],by omega,by omega,Nat.le_refl _,HB,H1,K2⟩
    · obtain rfl:hi = lo:=by omega
      have HV:Hid (Halved c l.length hi):=Lib.hid ⟨hin,H1.out,H2.out⟩
      by_cases hn:hi < l.length
      · obtain ⟨b,o,rfl,hb,hC⟩:=hv2.out (fun h => by subst h;exact absurd hn (Nat.not_lt_zero _))
        obtain ⟨x,hx⟩:∃ x,x = l[hi]'hn:=⟨_,rfl⟩
        have hcell:=hC hi hn
        have hcm:=hcc.out hi hn
        rw [← hx] at hcell hcm
        have x0:wr.cell? ⟨b,o + hi * 6,none⟩ = some (.int .i64 (x.1.nu)):=(HB.out.cell (p:=⟨b,o + hi * 6 + 0,none⟩) hb).trans (hcell 0 _ rfl)
        have x1:wr.cell? ⟨b,o + hi * 6 + 1,none⟩ = some (.int .i64 (x.1.at_)):=(HB.out.cell (p:=⟨b,o + hi * 6 + 1,none⟩) hb).trans (hcell 1 _ rfl)
        have x2:wr.cell? ⟨b,o + hi * 6 + 2,none⟩ = some (.slice x.2.1 x.2.2.1 x.2.2.2):=(HB.out.cell (p:=⟨b,o + hi * 6 + 2,none⟩) hb).trans (hcell 2 _ rfl)
        have x3:wr.cell? ⟨b,o + hi * 6 + 3,none⟩ = some (.int .i64 (x.1.pe)):=(HB.out.cell (p:=⟨b,o + hi * 6 + 3,none⟩) hb).trans (hcell 3 _ rfl)
        have x4:wr.cell? ⟨b,o + hi * 6 + 4,none⟩ = some (.int .i64 (x.1.sp)):=(HB.out.cell (p:=⟨b,o + hi * 6 + 4,none⟩) hb).trans (hcell 4 _ rfl)
        have x5:wr.cell? ⟨b,o + hi * 6 + 5,none⟩ = some (.int .i64 (x.1.sz)):=(HB.out.cell (p:=⟨b,o + hi * 6 + 5,none⟩) hb).trans (hcell 5 _ rfl)
        have hbr:b < wr.heap.size:=by have:=HB.out.size;omega
        clear hC hcell hb hx
        have HCM:=Lib.hid hcm;clear hcm
        by_cases hc:c hi = 0
        · have HR:Hid (decide (hi < l.length ∧ c hi = 0) = true):=Lib.hid (decide_eq_true ⟨hn,hc⟩)
          rw [hc] at HCM
          clear hc H1 H2
          go_wp2_with (first | (with_reducible refine ((HCM.out _ HB.out).mono ?_);rintro e w' ⟨rfl,hb⟩;replace HB:=Lib.hid (bch' HB.out hb);clear hb))
          go_ret2
          exact ⟨hi,HV.out,by rw [HR.out];rfl,HB.out⟩
        · have HR:Hid (decide (hi < l.length ∧ c hi = 0) = false):=Lib.hid (decide_eq_false fun h => hc h.2)
          have hcb:((c hi:Int) == 0) = false:=by simpa using hc
          clear hc H1 H2
          generalize hcv:c hi = cv at hcb HCM
          clear hcv
          go_wp2_with (first | (with_reducible refine ((HCM.out _ HB.out).mono ?_);rintro e w' ⟨rfl,hb⟩;replace HB:=Lib.hid (bch' HB.out hb);clear hb))
          go_ret2
          exact ⟨hi,HV.out,by rw [HR.out];rfl,HB.out⟩
      · have HR:Hid (decide (hi < l.length ∧ c hi = 0) = false):=Lib.hid (decide_eq_false fun h => hn h.1)
        clear H1 H2
        go_wp2
        go_ret2
        exact ⟨hi,HV.out,by rw [HR.out];rfl,HB.out⟩
theorem own_find_eff (n : Int) (l : List Efx) (L : List (Efx × Sl3)) (pp : Option Addr) (cc : Nat) (w : World) (hL : L.map (·.1) = l) (hR : RowX encE 6 w pp L) (hn : L.length ≤ 16) (hb : ∀ j, j < l.length → 1 ≤ keyAt (·.nu) l j ∧ keyAt (·.nu) l j ≤ 1048576) (hs : ∀ j, j < l.length → ∀ k, k < j → keyAt (·.nu) l k < keyAt (·.nu) l j) (n0 : -9223372036854775808 ≤ n) (n1 : n ≤ 9223372036854775807) :
    Calls Tryz.prog 55 #[.slice pp L.length cc,.int .i64 n,.func (.func 56) #[] #[]] w fun e w' => ∃ (i:Nat) (hit:Bool),e = .returned (.tuple #[.int .i64 (i:Int),.bool hit]) ∧ Plc (·.nu) l n i hit ∧ Below w.heap.size w w':=by
  have hll:L.length = l.length:=by rw [← hL,List.length_map]
  have hal:=(Below.refl w.heap.size w).alloc (Nat.le_refl _) (.cells #[.func (.func 56) #[] #[]] 104)
  have hbx:=(Blk.new w 104 #[.func (.func 56) #[] #[]])
  have hbs := bs_eff 100 (.pointer (some ⟨w.heap.size, 0, none⟩)) L pp cc (.int .i64 n) (fun i => IntKind.i64.wrap (keyAt (·.nu) l i - n)) (w.alloc (.cells #[.func (.func 56) #[] #[]] 104)) (hR.kept hal) (by omega) (enters_of Tryz.func100 (by kernel_rfl) rfl)
    (fun i hi W hW => by
      have e:keyAt (·.nu) l i = (L[i]'hi).1.nu:=by subst hL;rw [keyAt_map,keyAt_at hi]
      rw [e]
      have h3:=hbx.keep hW
      exact cl_eff _ _ _ _ _ n _ _ _ w.heap.size W h3.lt h3.c1.1)
  rw [hll] at hbs
  have HBS:=Lib.hid (hbs.mono (R':=fun e w' => ∃ (i:Nat) (hit:Bool),hit = decide (i < l.length ∧ IntKind.i64.wrap (keyAt (·.nu) l i - n) = 0) ∧ Halved (fun k => IntKind.i64.wrap (keyAt (·.nu) l k - n)) l.length i ∧ e = .returned (.tuple #[.int .i64 (i:Int),.bool hit]) ∧ Below w.heap.size w w') (fun e w' h => by obtain ⟨i,h1,h2,h3⟩:=h;exact ⟨i,_,rfl,h1,h2,bch' hal h3⟩));clear hbs
  rw [hll]
  clear hL hR hll hal hbx
  have HS:=Lib.hid hs;have HB9:=Lib.hid hb;clear hs hb
  go_enter Tryz.func55,Tryz.ntmps55
  go_wp2_with ((with_reducible refine (HBS.out.mono ?_));rintro e w' ⟨i,hit,heq,hv,rfl,hb⟩;have HE:=Lib.hid heq;have HV:=Lib.hid hv;have HB:=Lib.hid hb;clear heq hv hb)
  go_ret2
  exact ⟨i,hit,rfl,by rw [HE.out];exact plcOf HB9.out HS.out n0 n1 HV.out,HB.out⟩
theorem cl_run (ef ce cr cd cl n : Int) (p : Option Addr) (xn c : Nat) (B : Nat) (w : World) (hB : B < w.heap.size) (hc : w.cell? ⟨B, 0, none⟩ = some (.func (.func 38) #[] #[])) :
    Calls Tryz.prog 87 #[.agg #[.int .i64 ef,.slice p xn c,.int .i64 ce,.int .i64 cr,.int .i64 cd,.int .i64 cl],.int .i64 n,.pointer (some ⟨B,0,none⟩)] w fun e w' => e = .returned (.int .i64 (IntKind.i64.wrap (ef - n))) ∧ Below w.heap.size w w':=by
  have hk:=fun W => own_eeffect ef ce cr cd cl p xn c W
  have hF:=enters_of Tryz.func38 (by kernel_rfl) rfl
  have HC:=Lib.hid (((Below.refl w.heap.size w).alloc (Nat.le_refl _) (.cells #[.int .i64 ef,.slice p xn c,.int .i64 ce,.int .i64 cr,.int .i64 cd,.int .i64 cl] 68)).cell (p:=⟨B,0,none⟩) hB |>.trans hc)
  have HK2:=Lib.hid hk;clear hk
  have HK:=Lib.hid (Blk.new w 68 #[.int .i64 ef,.slice p xn c,.int .i64 ce,.int .i64 cr,.int .i64 cd,.int .i64 cl])
  have HB:=Lib.hid ((Below.refl w.heap.size w).alloc (Nat.le_refl _) (.cells #[.int .i64 ef,.slice p xn c,.int .i64 ce,.int .i64 cr,.int .i64 cd,.int .i64 cl] 68))
  obtain ⟨k0,k1,k2,k3,k4,k5,kf0,kf1,kf2,kf3,kf4,kf5⟩:=HK.out.c6
  have hcc:=HC.out
  go_enter Tryz.func87,Tryz.ntmps87
  go_wp2_with (first | (with_reducible refine ((HK2.out _).mono ?_);rintro e w' ⟨rfl,hb⟩;replace HK:=Lib.hid (HK.out.keep hb);clear k0 k1 k2 k3 k4 k5 kf0 kf1 kf2 kf3 kf4 kf5;replace HB:=Lib.hid (bch' HB.out hb);clear hb;obtain ⟨k0,k1,k2,k3,k4,k5,kf0,kf1,kf2,kf3,kf4,kf5⟩:=HK.out.c6))
  go_ret
  exact ⟨by first | rfl | (rw [IntWalk.i64_left];rfl),HB.out⟩
theorem bs_run (M : FuncId) (fv : Value) (l : List (Rnx × Sl3)) (pp : Option Addr) (cc : Nat) (tv : Value) (c : Nat → Int) (w : World) (hR : RowX encN 6 w pp l) (hn0 : l.length ≤ 1000000) (hF : ∀ args w, (callFunc M args).run Tryz.prog w = .ok (.enter M args) w)
    (hcm:∀ i (hi:i < l.length),∀ W,Below w.heap.size w W → Calls Tryz.prog M #[.agg #[.int .i64 ((l[i]'hi).1.ef),.slice (l[i]'hi).2.1 (l[i]'hi).2.2.1 (l[i]'hi).2.2.2,.int .i64 ((l[i]'hi).1.ce),.int .i64 ((l[i]'hi).1.cr),.int .i64 ((l[i]'hi).1.cd),.int .i64 ((l[i]'hi).1.cl)],tv,fv] W fun e w' => e = .returned (.int .i64 (c i)) ∧ Below W.heap.size W w') :
    Calls Tryz.prog 86 #[.slice pp l.length cc,tv,.func (.func M) #[] #[fv]] w fun e w' => ∃ i:Nat,Halved c l.length i ∧ e = .returned (.tuple #[.int .i64 (i:Int),.bool (decide (i < l.length ∧ c i = 0))]) ∧ Below w.heap.size w w':=by
  have hv2:=Lib.hid hR;clear hR
  have hcc:=Lib.hid hcm;clear hcm
  have HB:=Lib.hid (Below.refl w.heap.size w)
  go_enter Tryz.func86,Tryz.ntmps86
  go_wp2_with fail
  go_loopg [9,10] l.length (fun kx s9 s10 wr => ∃ lo hi:Nat,s9 = .int .i64 (lo:Int) ∧ s10 = .int .i64 (hi:Int) ∧ lo ≤ hi ∧ hi ≤ l.length ∧ hi - lo ≤ kx ∧ Hid (Below w.heap.size w wr) ∧ Hid (0 < lo → c (lo - 1) < 0) ∧ Hid (hi < l.length → 0 ≤ c hi))
  case atStart => exact ⟨0,l.length,rfl,rfl,Nat.zero_le _,Nat.le_refl _,by omega,HB,Lib.hid (fun h => absurd h (Nat.lt_irrefl 0)),Lib.hid (fun h => absurd h (Nat.lt_irrefl _))⟩
  case round =>
    clear HB
    obtain ⟨lo,hi,rfl,rfl,hlh,hin,hg,HB,H1,H2⟩:=hrel
    by_cases hlt:lo < hi
    · have hml:(lo + hi) / 2 < l.length:=by omega
      have hlo:(lo + hi) / 2 * 6 < 9223372036854775807:=by omega
      obtain ⟨b,o,rfl,hb,hC⟩:=hv2.out (fun h => by subst h;exact absurd hml (Nat.not_lt_zero _))
      obtain ⟨x,hx⟩:∃ x,x = l[((lo + hi) / 2)]'hml:=⟨_,rfl⟩
      have hcell:=hC ((lo + hi) / 2) hml
      have hcm:=hcc.out ((lo + hi) / 2) hml
      rw [← hx] at hcell hcm
      have x0:wr.cell? ⟨b,o + ((lo + hi) / 2) * 6,none⟩ = some (.int .i64 (x.1.ef)):=(HB.out.cell (p:=⟨b,o + ((lo + hi) / 2) * 6 + 0,none⟩) hb).trans (hcell 0 _ rfl)
      have x1:wr.cell? ⟨b,o + ((lo + hi) / 2) * 6 + 1,none⟩ = some (.slice x.2.1 x.2.2.1 x.2.2.2):=(HB.out.cell (p:=⟨b,o + ((lo + hi) / 2) * 6 + 1,none⟩) hb).trans (hcell 1 _ rfl)
      have x2:wr.cell? ⟨b,o + ((lo + hi) / 2) * 6 + 2,none⟩ = some (.int .i64 (x.1.ce)):=(HB.out.cell (p:=⟨b,o + ((lo + hi) / 2) * 6 + 2,none⟩) hb).trans (hcell 2 _ rfl)
      have x3:wr.cell? ⟨b,o + ((lo + hi) / 2) * 6 + 3,none⟩ = some (.int .i64 (x.1.cr)):=(HB.out.cell (p:=⟨b,o + ((lo + hi) / 2) * 6 + 3,none⟩) hb).trans (hcell 3 _ rfl)
      have x4:wr.cell? ⟨b,o + ((lo + hi) / 2) * 6 + 4,none⟩ = some (.int .i64 (x.1.cd)):=(HB.out.cell (p:=⟨b,o + ((lo + hi) / 2) * 6 + 4,none⟩) hb).trans (hcell 4 _ rfl)
      have x5:wr.cell? ⟨b,o + ((lo + hi) / 2) * 6 + 5,none⟩ = some (.int .i64 (x.1.cl)):=(HB.out.cell (p:=⟨b,o + ((lo + hi) / 2) * 6 + 5,none⟩) hb).trans (hcell 5 _ rfl)
      have hbr:b < wr.heap.size:=by have:=HB.out.size;omega
      clear hC hcell hb hx
      have HCM:=Lib.hid hcm;clear hcm
      by_cases hc:c ((lo + hi) / 2) < 0
      · have K1:Hid (0 < (lo + hi) / 2 + 1 → c ((lo + hi) / 2 + 1 - 1) < 0):=Lib.hid fun _ => by rw [Nat.add_sub_cancel];exact hc
        generalize c ((lo + hi) / 2) = cv at *
        go_wp2_with (first | (with_reducible refine ((HCM.out _ HB.out).mono ?_);rintro e w' ⟨rfl,hb⟩;replace HB:=Lib.hid (bch' HB.out hb);clear hb))
        go_roundg (hi - ((lo + hi) / 2 + 1))
        case measure => omega
        case rel => exact ⟨(lo + hi) / 2 + 1,hi,by rw [show ((lo:Int) + (hi:Int)) / 2 + 1 = (((lo + hi) / 2 + 1:Nat):Int) by omega],rfl,by omega,hin,Nat.le_refl _,HB,K1,H2⟩
      · have K2:Hid ((lo + hi) / 2 < l.length → 0 ≤ c ((lo + hi) / 2)):=Lib.hid fun _ => by omega
        generalize hcv:c ((lo + hi) / 2) = cv at hc HCM
        clear hcv
        go_wp2_with (first | (with_reducible refine ((HCM.out _ HB.out).mono ?_);rintro e w' ⟨rfl,hb⟩;replace HB:=Lib.hid (bch' HB.out hb);clear hb))
        go_roundg ((lo + hi) / 2 - lo)
        case measure => omega
        case rel => exact ⟨lo,(lo + hi) / 2,rfl,by rw [show ((lo:Int) + (hi:Int)) / 2 = (((lo + hi) / 2:Nat):Int) by omega],by omega,by omega,Nat.le_refl _,HB,H1,K2⟩
    · obtain rfl:hi = lo:=by omega
      have HV:Hid (Halved c l.length hi):=Lib.hid ⟨hin,H1.out,H2.out⟩
      by_cases hn:hi < l.length
      · obtain ⟨b,o,rfl,hb,hC⟩:=hv2.out (fun h => by subst h;exact absurd hn (Nat.not_lt_zero _))
        obtain ⟨x,hx⟩:∃ x,x = l[hi]'hn:=⟨_,rfl⟩
        have hcell:=hC hi hn
        have hcm:=hcc.out hi hn
        rw [← hx] at hcell hcm
        have x0:wr.cell? ⟨b,o + hi * 6,none⟩ = some (.int .i64 (x.1.ef)):=(HB.out.cell (p:=⟨b,o + hi * 6 + 0,none⟩) hb).trans (hcell 0 _ rfl)
        have x1:wr.cell? ⟨b,o + hi * 6 + 1,none⟩ = some (.slice x.2.1 x.2.2.1 x.2.2.2):=(HB.out.cell (p:=⟨b,o + hi * 6 + 1,none⟩) hb).trans (hcell 1 _ rfl)
        have x2:wr.cell? ⟨b,o + hi * 6 + 2,none⟩ = some (.int .i64 (x.1.ce)):=(HB.out.cell (p:=⟨b,o + hi * 6 + 2,none⟩) hb).trans (hcell 2 _ rfl)
        have x3:wr.cell? ⟨b,o + hi * 6 + 3,none⟩ = some (.int .i64 (x.1.cr)):=(HB.out.cell (p:=⟨b,o + hi * 6 + 3,none⟩) hb).trans (hcell 3 _ rfl)
        have x4:wr.cell? ⟨b,o + hi * 6 + 4,none⟩ = some (.int .i64 (x.1.cd)):=(HB.out.cell (p:=⟨b,o + hi * 6 + 4,none⟩) hb).trans (hcell 4 _ rfl)
        have x5:wr.cell? ⟨b,o + hi * 6 + 5,none⟩ = some (.int .i64 (x.1.cl)):=(HB.out.cell (p:=⟨b,o + hi * 6 + 5,none⟩) hb).trans (hcell 5 _ rfl)
        have hbr:b < wr.heap.size:=by have:=HB.out.size;omega
        clear hC hcell hb hx
        have HCM:=Lib.hid hcm;clear hcm
        by_cases hc:c hi = 0
        · have HR:Hid (decide (hi < l.length ∧ c hi = 0) = true):=Lib.hid (decide_eq_true ⟨hn,hc⟩)
          rw [hc] at HCM
          clear hc H1 H2
          go_wp2_with (first | (with_reducible refine ((HCM.out _ HB.out).mono ?_);rintro e w' ⟨rfl,hb⟩;replace HB:=Lib.hid (bch' HB.out hb);clear hb))
          go_ret2
          exact ⟨hi,HV.out,by rw [HR.out];rfl,HB.out⟩
        · have HR:Hid (decide (hi < l.length ∧ c hi = 0) = false):=Lib.hid (decide_eq_false fun h => hc h.2)
          have hcb:((c hi:Int) == 0) = false:=by simpa using hc
          clear hc H1 H2
          generalize hcv:c hi = cv at hcb HCM
          clear hcv
          go_wp2_with (first | (with_reducible refine ((HCM.out _ HB.out).mono ?_);rintro e w' ⟨rfl,hb⟩;replace HB:=Lib.hid (bch' HB.out hb);clear hb))
          go_ret2
          exact ⟨hi,HV.out,by rw [HR.out];rfl,HB.out⟩
      · have HR:Hid (decide (hi < l.length ∧ c hi = 0) = false):=Lib.hid (decide_eq_false fun h => hn h.1)
        clear H1 H2
        go_wp2
        go_ret2
        exact ⟨hi,HV.out,by rw [HR.out];rfl,HB.out⟩
theorem own_find_run (n : Int) (l : List Rnx) (L : List (Rnx × Sl3)) (pp : Option Addr) (cc : Nat) (w : World) (hL : L.map (·.1) = l) (hR : RowX encN 6 w pp L) (hn : L.length ≤ 16) (hb : ∀ j, j < l.length → 1 ≤ keyAt (·.ef) l j ∧ keyAt (·.ef) l j ≤ 1048576) (hs : ∀ j, j < l.length → ∀ k, k < j → keyAt (·.ef) l k < keyAt (·.ef) l j) (n0 : -9223372036854775808 ≤ n) (n1 : n ≤ 9223372036854775807) :
    Calls Tryz.prog 40 #[.slice pp L.length cc,.int .i64 n,.func (.func 38) #[] #[]] w fun e w' => ∃ (i:Nat) (hit:Bool),e = .returned (.tuple #[.int .i64 (i:Int),.bool hit]) ∧ Plc (·.ef) l n i hit ∧ Below w.heap.size w w':=by
  have hll:L.length = l.length:=by rw [← hL,List.length_map]
  have hal:=(Below.refl w.heap.size w).alloc (Nat.le_refl _) (.cells #[.func (.func 38) #[] #[]] 83)
  have hbx:=(Blk.new w 83 #[.func (.func 38) #[] #[]])
  have hbs := bs_run 87 (.pointer (some ⟨w.heap.size, 0, none⟩)) L pp cc (.int .i64 n) (fun i => IntKind.i64.wrap (keyAt (·.ef) l i - n)) (w.alloc (.cells #[.func (.func 38) #[] #[]] 83)) (hR.kept hal) (by omega) (enters_of Tryz.func87 (by kernel_rfl) rfl)
    (fun i hi W hW => by
      have e:keyAt (·.ef) l i = (L[i]'hi).1.ef:=by subst hL;rw [keyAt_map,keyAt_at hi]
      rw [e]
      have h3:=hbx.keep hW
      exact cl_run _ _ _ _ _ n _ _ _ w.heap.size W h3.lt h3.c1.1)
  rw [hll] at hbs
  have HBS:=Lib.hid (hbs.mono (R':=fun e w' => ∃ (i:Nat) (hit:Bool),hit = decide (i < l.length ∧ IntKind.i64.wrap (keyAt (·.ef) l i - n) = 0) ∧ Halved (fun k => IntKind.i64.wrap (keyAt (·.ef) l k - n)) l.length i ∧ e = .returned (.tuple #[.int .i64 (i:Int),.bool hit]) ∧ Below w.heap.size w w') (fun e w' h => by obtain ⟨i,h1,h2,h3⟩:=h;exact ⟨i,_,rfl,h1,h2,bch' hal h3⟩));clear hbs
  rw [hll]
  clear hL hR hll hal hbx
  have HS:=Lib.hid hs;have HB9:=Lib.hid hb;clear hs hb
  go_enter Tryz.func40,Tryz.ntmps40
  go_wp2_with ((with_reducible refine (HBS.out.mono ?_));rintro e w' ⟨i,hit,heq,hv,rfl,hb⟩;have HE:=Lib.hid heq;have HV:=Lib.hid hv;have HB:=Lib.hid hb;clear heq hv hb)
  go_ret2
  exact ⟨i,hit,rfl,by rw [HE.out];exact plcOf HB9.out HS.out n0 n1 HV.out,HB.out⟩
end Go.Proofs.YtbeojahilbglcaaGreatDoor
namespace Go.Proofs.YtbeojahilbglcaaGreatDoor
open Go.RowKit Go.Shelf Lum
open Go.Lib (decDigits itoa)
attribute [local go_sem] bs_get bs_extract_end bs_extract_from bs_extract bs_append
theorem own_find_eff_at (n : Int) (l : List Efx) (L : List (Efx × Sl3)) (pp : Option Addr) (cc : Nat) (w : World) (hL : L.map (·.1) = l) (hR : RowX encE 6 w pp L) (hok : OrdOk efE (·.nu) l) (hn : 1 ≤ n ∧ n ≤ 1048576) (i : Nat) (hit : Bool) (hb9 : Belongs (keyAt (·.nu) l) l.length n i hit) :
    Calls Tryz.prog 55 #[.slice pp L.length cc,.int .i64 n,.func (.func 56) #[] #[]] w fun e w' => e = .returned (.tuple #[.int .i64 (i:Int),.bool hit]) ∧ Below w.heap.size w w' :=
  (own_find_eff n l L pp cc w hL hR (by have:=hok.few;rw [← hL,List.length_map] at this;exact this) (efs_key hok) hok.lt (by omega) (by omega)).mono fun e w' ⟨j,h2,he,hp,hb⟩ => by
    obtain ⟨rfl,rfl⟩:=hp.hit_of hn hb9
    exact ⟨he,hb⟩
theorem own_find_eff_no (n : Int) (l : List Efx) (L : List (Efx × Sl3)) (pp : Option Addr) (cc : Nat) (w : World) (hL : L.map (·.1) = l) (hR : RowX encE 6 w pp L) (hok : OrdOk efE (·.nu) l) (n0 : -9223372036854775808 ≤ n) (n1 : n ≤ 9223372036854775807) (hno : ∀ j, j < l.length → keyAt (·.nu) l j ≠ n) :
    Calls Tryz.prog 55 #[.slice pp L.length cc,.int .i64 n,.func (.func 56) #[] #[]] w fun e w' => ∃ i:Nat,e = .returned (.tuple #[.int .i64 (i:Int),.bool false]) ∧ Below w.heap.size w w' :=
  (own_find_eff n l L pp cc w hL hR (by have:=hok.few;rw [← hL,List.length_map] at this;exact this) (efs_key hok) hok.lt n0 n1).mono fun e w' ⟨j,h2,he,hp,hb⟩ => by
    obtain rfl:=hp.miss_of hno
    exact ⟨j,he,hb⟩
theorem own_find_run_at (n : Int) (l : List Rnx) (L : List (Rnx × Sl3)) (pp : Option Addr) (cc : Nat) (w : World) (hL : L.map (·.1) = l) (hR : RowX encN 6 w pp L) (hok : OrdOk rnE (·.ef) l) (hn : 1 ≤ n ∧ n ≤ 1048576) (i : Nat) (hit : Bool) (hb9 : Belongs (keyAt (·.ef) l) l.length n i hit) :
    Calls Tryz.prog 40 #[.slice pp L.length cc,.int .i64 n,.func (.func 38) #[] #[]] w fun e w' => e = .returned (.tuple #[.int .i64 (i:Int),.bool hit]) ∧ Below w.heap.size w w' :=
  (own_find_run n l L pp cc w hL hR (by have:=hok.few;rw [← hL,List.length_map] at this;exact this) (rns_key hok) hok.lt (by omega) (by omega)).mono fun e w' ⟨j,h2,he,hp,hb⟩ => by
    obtain ⟨rfl,rfl⟩:=hp.hit_of hn hb9
    exact ⟨he,hb⟩
theorem own_find_run_no (n : Int) (l : List Rnx) (L : List (Rnx × Sl3)) (pp : Option Addr) (cc : Nat) (w : World) (hL : L.map (·.1) = l) (hR : RowX encN 6 w pp L) (hok : OrdOk rnE (·.ef) l) (n0 : -9223372036854775808 ≤ n) (n1 : n ≤ 9223372036854775807) (hno : ∀ j, j < l.length → keyAt (·.ef) l j ≠ n) :
    Calls Tryz.prog 40 #[.slice pp L.length cc,.int .i64 n,.func (.func 38) #[] #[]] w fun e w' => ∃ i:Nat,e = .returned (.tuple #[.int .i64 (i:Int),.bool false]) ∧ Below w.heap.size w w' :=
  (own_find_run n l L pp cc w hL hR (by have:=hok.few;rw [← hL,List.length_map] at this;exact this) (rns_key hok) hok.lt n0 n1).mono fun e w' ⟨j,h2,he,hp,hb⟩ => by
    obtain rfl:=hp.miss_of hno
    exact ⟨j,he,hb⟩
end Go.Proofs.YtbeojahilbglcaaGreatDoor

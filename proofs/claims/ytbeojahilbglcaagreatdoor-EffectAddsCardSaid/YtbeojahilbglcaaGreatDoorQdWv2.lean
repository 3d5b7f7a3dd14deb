/- A part of the proof of EffectAdds: contracts of functions, and plain facts. -/
import Derived.Test.YtbeojahilbglcaaGreatDoorQdWa
import Derived.BigQuiet
import Derived.Deep.QuietTactic
import Derived.Outline
import Derived.IntWalk
set_option maxRecDepth 100000
set_option maxHeartbeats 8000000
set_option linter.unusedVariables false
set_option linter.unusedSimpArgs false
namespace Lum
open Go Go.RowKit Go.Shelf
open Go.Lib (decDigits itoa)
theorem scanW_step {l:List (Int × Int)} {n i:Nat} (h1:-1000 ≤ pY l i ∧ pY l i ≤ 1000) (h2:¬ (0 < i ∧ pX l i ≤ pX l (i - 1))):scanW l (n + 1) i = scanW l n (i + 1):=by rw [scanW,if_neg (by omega),if_neg h2]
theorem scanW_out {l:List (Int × Int)} {n i:Nat} (h1:¬ (-1000 ≤ pY l i ∧ pY l i ≤ 1000)):scanW l (n + 1) i = 2:=by rw [scanW,if_pos h1]
theorem scanW_back {l:List (Int × Int)} {n i:Nat} (h1:-1000 ≤ pY l i ∧ pY l i ≤ 1000) (h2:0 < i ∧ pX l i ≤ pX l (i - 1)):scanW l (n + 1) i = 9:=by rw [scanW,if_neg (by omega),if_pos h2]
theorem wvE_len {l:List (Int × Int)} (h:l.length < 2 ∨ 16 < l.length):wvE l = 14:=by unfold wvE;rw [if_pos h]
theorem wvE_ends {l:List (Int × Int)} (h:¬ (l.length < 2 ∨ 16 < l.length)) (h2:pX l 0 ≠ 0 ∨ pX l (l.length - 1) ≠ 1000):wvE l = 2:=by unfold wvE;rw [if_neg h,if_pos h2]
def wvF (l:List (Int × Int)) (s:Int):Int:=if s ≠ 0 then s else if pY l 0 ≠ pY l (l.length - 1) then 3 else 0
theorem wvE_scan {l:List (Int × Int)} (h:¬ (l.length < 2 ∨ 16 < l.length)) (h2:¬ (pX l 0 ≠ 0 ∨ pX l (l.length - 1) ≠ 1000)):wvE l = wvF l (scanW l l.length 0):=by unfold wvE wvF;rw [if_neg h,if_neg h2]
def PtC (W:World) (b o:Nat) (l:List (Int × Int)):Prop:=∀ i,i < l.length → W.cell? ⟨b,o + i * 2,none⟩ = some (.int .i64 (pX l i)) ∧ W.cell? ⟨b,o + i * 2 + 1,none⟩ = some (.int .i64 (pY l i))
theorem PtC.below {W W':World} {b o B:Nat} {l:List (Int × Int)} (h:PtC W b o l) (hb:Below B W W') (hl:b < B):PtC W' b o l :=
  fun i hi => ⟨(hb.cell (p:=⟨b,o + i * 2,none⟩) hl).trans (h i hi).1,(hb.cell (p:=⟨b,o + i * 2 + 1,none⟩) hl).trans (h i hi).2⟩
theorem PtC.zero {W:World} {b o:Nat} {l:List (Int × Int)} (h:PtC W b o l) (hn:0 < l.length):W.cell? ⟨b,o,none⟩ = some (.int .i64 (pX l 0)) ∧ W.cell? ⟨b,o + 1,none⟩ = some (.int .i64 (pY l 0)):=by simpa using h 0 hn
end Lum
namespace Go.Proofs.YtbeojahilbglcaaGreatDoor
open Go.RowKit Go.Shelf Lum
open Go.Lib (decDigits itoa)
attribute [local go_sem] bs_get bs_extract_end bs_extract_from bs_extract bs_append
theorem r27_height (y : Int) (w : World) :
    Calls Tryz.prog 190 #[.int .i64 y] w fun e w' => e = .returned (.bool (decide (-1000 ≤ y ∧ y ≤ 1000))) ∧ w = w':=by
  by_cases h1:-1000 ≤ y
  · by_cases h2:y ≤ 1000
    · rw [decide_eq_true (⟨h1,h2⟩:-1000 ≤ y ∧ y ≤ 1000)]
      go_enter Tryz.func190,Tryz.ntmps190
      go_wp2
      go_ret
      exact ⟨rfl,rfl⟩
    · rw [decide_eq_false (fun h => h2 h.2:¬ (-1000 ≤ y ∧ y ≤ 1000))]
      go_enter Tryz.func190,Tryz.ntmps190
      go_wp2
      go_ret
      exact ⟨rfl,rfl⟩
  · rw [decide_eq_false (fun h => h1 h.1:¬ (-1000 ≤ y ∧ y ≤ 1000))]
    go_enter Tryz.func190,Tryz.ntmps190
    go_wp2
    go_ret
    exact ⟨rfl,rfl⟩
theorem own_high (y : Int) (w : World) :
    Calls Tryz.prog 160 #[.int .i64 y] w fun e w' => e = .returned (.bool (decide (-1000 ≤ y ∧ y ≤ 1000))) ∧ w = w':=by
  by_cases h1:-1000 ≤ y
  · by_cases h2:y ≤ 1000
    · rw [decide_eq_true (⟨h1,h2⟩:-1000 ≤ y ∧ y ≤ 1000)]
      go_enter Tryz.func160,Tryz.ntmps160
      go_wp2
      go_ret
      exact ⟨rfl,rfl⟩
    · rw [decide_eq_false (fun h => h2 h.2:¬ (-1000 ≤ y ∧ y ≤ 1000))]
      go_enter Tryz.func160,Tryz.ntmps160
      go_wp2
      go_ret
      exact ⟨rfl,rfl⟩
  · rw [decide_eq_false (fun h => h1 h.1:¬ (-1000 ≤ y ∧ y ≤ 1000))]
    go_enter Tryz.func160,Tryz.ntmps160
    go_wp2
    go_ret
    exact ⟨rfl,rfl⟩
theorem r27_check (l : List (Int × Int)) (v : Value) (w : World) (hv : PtsAt w v l) (hn : l.length ≤ 1000000000) :
    Calls Tryz.prog 153 #[v] w fun e w' => e = .returned (.int .i64 (wvE l)) ∧ Below w.heap.size w w':=by
  obtain ⟨p,c,rfl,hv2⟩:=hv
  have HB:=Lib.hid (Below.refl w.heap.size w)
  by_cases h0:l.length < 2 ∨ 16 < l.length
  · rw [wvE_len h0]
    clear hv2
    rcases h0 with h0 | h0
    · go_enter Tryz.func153,Tryz.ntmps153
      go_wp2
      go_ret
      exact ⟨rfl,HB.out⟩
    · have h1:¬ l.length < 2:=by omega
      go_enter Tryz.func153,Tryz.ntmps153
      go_wp2
      go_ret
      exact ⟨rfl,HB.out⟩
  have hne:l ≠ []:=fun h => by subst h;simp at h0
  obtain ⟨b,o,rfl,hb,hc⟩:=hv2 hne
  clear hv2 hne
  replace hc:PtC w b o l:=hc
  have hl2:2 ≤ l.length:=by omega
  have e1:IntKind.i64.wrap ((l.length:Int) - 1) = ((l.length - 1:Nat):Int):=by rw [IntWalk.i64_in _ (by omega)];omega
  have g1:¬ l.length < 2:=by omega
  have g2:¬ 16 < l.length:=by omega
  obtain ⟨a1,a2⟩:=hc.zero (by omega)
  obtain ⟨a3,a4⟩:=hc (l.length - 1) (by omega)
  have HC:=Lib.hid hc;clear hc
  by_cases h1:pX l 0 ≠ 0 ∨ pX l (l.length - 1) ≠ 1000
  · rw [wvE_ends h0 h1]
    have HD:=Lib.hid h1
    by_cases h2:pX l 0 = 0
    · have h3:((pX l 0:Int) != 0) = false:=by simpa using h2
      have h4:((pX l (l.length - 1):Int) != 1000) = true:=by have:=HD.out;simp [h2] at this;simpa using this
      clear h1 h2 HD
      have hn1:l.length - 1 < l.length:=by omega
      generalize pX l 0 = x0 at *
      generalize pX l (l.length - 1) = x1 at *
      generalize l.length - 1 = n1 at *
      go_enter Tryz.func153,Tryz.ntmps153
      go_wp2
      go_ret
      exact ⟨rfl,HB.out⟩
    · have h3:((pX l 0:Int) != 0) = true:=by simpa using h2
      clear h1 h2 HD
      generalize pX l 0 = x0 at *
      go_enter Tryz.func153,Tryz.ntmps153
      go_wp2
      go_ret
      exact ⟨rfl,HB.out⟩
  rw [wvE_scan h0 h1]
  obtain ⟨E,hE⟩:∃ E,E = wvF l (scanW l l.length 0):=⟨_,rfl⟩
  rw [← hE]
  have HE:=Lib.hid hE;clear hE
  have h3:((pX l 0:Int) != 0) = false:=by simp at h1;simpa using h1.1
  have h4:((pX l (l.length - 1):Int) != 1000) = false:=by simp at h1;simpa using h1.2
  clear h1
  have hn1:l.length - 1 < l.length:=by omega
  go_enter Tryz.func153,Tryz.ntmps153
  go_wp2
  go_loopw [3] (fun i wr => ∃ k r:Nat,Hid (k + r = l.length) ∧ i = .int .i64 (k:Int) ∧ Below w.heap.size w wr ∧ Hid (scanW l r k = scanW l l.length 0)) (fun i _ => l.length - (intOf i).toNat)
  case atStart => exact ⟨0,l.length,Lib.hid (by omega),rfl,HB.out,Lib.hid rfl⟩
  case round =>
    obtain ⟨k,r,hk,rfl,hB,hS⟩:=hrel
    have HBW:=Lib.hid hB
    have hcw:=HC.out.below hB hb
    have hbr:b < wr.heap.size:=by have:=hB.size;omega
    clear hB a1 a2 a3 a4 h3 h4
    obtain ⟨a1,a2⟩:=hcw.zero (by omega)
    obtain ⟨a3,a4⟩:=hcw (l.length - 1) (by omega)
    have HCW:=Lib.hid hcw;clear hcw
    cases r with
    | zero =>
      have hkl:k = l.length:=hk.out
      subst hkl
      have hlt:¬ ((l.length:Int) < (l.length:Int)):=by omega
      have hs0:scanW l l.length 0 = 0:=hS.out.symm
      by_cases hy:pY l 0 = pY l (l.length - 1)
      · have hd:((pY l 0:Int) != pY l (l.length - 1)) = false:=by simpa using hy
        have HF:Hid (E = 0):=by show _ = _;rw [HE.out,hs0,wvF,if_neg (by simp),if_neg (by simpa using hy)]
        have HY:=Lib.hid hy;clear hy
        have HS0:=Lib.hid hs0;clear hs0
        generalize pY l 0 = y0 at *
        generalize pY l (l.length - 1) = y1 at *
        go_wp2
        go_quiet (fail)
        go_wp2
        go_ret
        exact ⟨by rw [HF.out];rfl,below_drewN HBW.out _⟩
      · have hd:((pY l 0:Int) != pY l (l.length - 1)) = true:=by simpa using hy
        have HF:Hid (E = 3):=by show _ = _;rw [HE.out,hs0,wvF,if_neg (by simp),if_pos hy]
        have HY:=Lib.hid hy;clear hy
        have HS0:=Lib.hid hs0;clear hs0
        generalize pY l 0 = y0 at *
        generalize pY l (l.length - 1) = y1 at *
        go_wp2
        go_quiet (fail)
        go_wp2
        go_ret
        exact ⟨by rw [HF.out];rfl,below_drewN HBW.out _⟩
    | succ m =>
      have hkl:k < l.length:=by have:=hk.out;omega
      have hlt:(k:Int) < (l.length:Int):=by omega
      obtain ⟨c1,c2⟩:=HCW.out k hkl
      have hun:IntKind.i64.wrap ((k:Int) + 1) = ((k + 1:Nat):Int):=by rw [IntWalk.i64_in _ (by omega)];omega
      by_cases hy:-1000 ≤ pY l k ∧ pY l k ≤ 1000
      · have hh:=fun W => r27_height (pY l k) W
        rw [decide_eq_true hy] at hh
        by_cases hx:0 < k ∧ pX l k ≤ pX l (k - 1)
        · have HF:Hid (E = 9):=by show _ = _;rw [HE.out,← hS.out,scanW_back hy hx];rfl
          obtain ⟨hk0,hx2⟩:=hx
          obtain ⟨c3,c4⟩:=HCW.out (k - 1) (by omega)
          have hk1:0 < (k:Int):=by omega
          have hd0:decide (0 < k) = true:=decide_eq_true hk0
          have e2:IntKind.i64.wrap ((k:Int) - 1) = ((k - 1:Nat):Int):=by rw [IntWalk.i64_in _ (by omega)];omega
          have hk2:k - 1 < l.length:=by omega
          have HH:=Lib.hid hh;clear hh hy
          generalize pX l k = x0 at *
          generalize pX l (k - 1) = x1 at *
          generalize pY l k = y0 at *
          generalize k - 1 = k1 at *
          go_wp2_with ((with_reducible refine ((HH.out _).mono ?_));rintro e w' ⟨rfl,rfl⟩)
          go_quiet (fail)
          go_wp2
          go_ret
          exact ⟨by rw [HF.out];rfl,below_drewN HBW.out _⟩
        · have HF:Hid (scanW l m (k + 1) = scanW l l.length 0):=by show _ = _;rw [← hS.out,scanW_step hy hx]
          have HH:=Lib.hid hh;clear hh hy
          by_cases hk0:0 < k
          · have hx2:¬ pX l k ≤ pX l (k - 1):=fun h => hx ⟨hk0,h⟩
            obtain ⟨c3,c4⟩:=HCW.out (k - 1) (by omega)
            have hk1:0 < (k:Int):=by omega
            have e2:IntKind.i64.wrap ((k:Int) - 1) = ((k - 1:Nat):Int):=by rw [IntWalk.i64_in _ (by omega)];omega
            have hk2:k - 1 < l.length:=by omega
            have HR:=Lib.hid hk;clear hk hx hS
            have hd0:decide (0 < k) = true:=decide_eq_true hk0
            generalize pX l k = x0 at *
            generalize pX l (k - 1) = x1 at *
            generalize pY l k = y0 at *
            generalize k - 1 = k1 at *
            go_wp2_with ((with_reducible refine ((HH.out _).mono ?_));rintro e w' ⟨rfl,rfl⟩)
            go_quiet (fail)
            go_wp2
            go_roundw
            case rel => exact ⟨k + 1,m,Lib.hid (by have:=HR.out.out;omega),by first | rfl | go_num,below_drewN HBW.out _,HF⟩
            case measure => simp [intOf];omega
          · have hk1:¬ 0 < (k:Int):=by omega
            obtain rfl:k = 0:=by omega
            have HR:=Lib.hid hk;clear hk hx hS
            generalize pX l 0 = x0 at *
            generalize pY l 0 = y0 at *
            go_wp2_with ((with_reducible refine ((HH.out _).mono ?_));rintro e w' ⟨rfl,rfl⟩)
            go_quiet (fail)
            go_wp2
            go_roundw
            case rel => exact ⟨1,m,Lib.hid (by have:=HR.out.out;omega),by first | rfl | go_num,below_drewN HBW.out _,HF⟩
            case measure => simp [intOf];omega
      · have HF:Hid (E = 2):=by show _ = _;rw [HE.out,← hS.out,scanW_out hy];rfl
        have hh:=fun W => r27_height (pY l k) W
        rw [decide_eq_false hy] at hh
        have HH:=Lib.hid hh;clear hh hy
        generalize pX l k = x0 at *
        generalize pY l k = y0 at *
        go_wp2_with ((with_reducible refine ((HH.out _).mono ?_));rintro e w' ⟨rfl,rfl⟩)
        go_ret
        exact ⟨by rw [HF.out];rfl,HBW.out⟩
theorem own_wcheck (l : List (Int × Int)) (v : Value) (w : World) (hv : PtsAt w v l) (hn : l.length ≤ 1000000000) :
    Calls Tryz.prog 120 #[v] w fun e w' => e = .returned (.int .i64 (wvE l)) ∧ Below w.heap.size w w':=by
  obtain ⟨p,c,rfl,hv2⟩:=hv
  have HB:=Lib.hid (Below.refl w.heap.size w)
  by_cases h0:l.length < 2 ∨ 16 < l.length
  · rw [wvE_len h0]
    clear hv2
    rcases h0 with h0 | h0
    · go_enter Tryz.func120,Tryz.ntmps120
      go_wp2
      go_ret
      exact ⟨rfl,HB.out⟩
    · have h1:¬ l.length < 2:=by omega
      go_enter Tryz.func120,Tryz.ntmps120
      go_wp2
      go_ret
      exact ⟨rfl,HB.out⟩
  have hne:l ≠ []:=fun h => by subst h;simp at h0
  obtain ⟨b,o,rfl,hb,hc⟩:=hv2 hne
  clear hv2 hne
  replace hc:PtC w b o l:=hc
  have hl2:2 ≤ l.length:=by omega
  have e1:IntKind.i64.wrap ((l.length:Int) - 1) = ((l.length - 1:Nat):Int):=by rw [IntWalk.i64_in _ (by omega)];omega
  have g1:¬ l.length < 2:=by omega
  have g2:¬ 16 < l.length:=by omega
  obtain ⟨a1,a2⟩:=hc.zero (by omega)
  obtain ⟨a3,a4⟩:=hc (l.length - 1) (by omega)
  have HC:=Lib.hid hc;clear hc
  by_cases h1:pX l 0 ≠ 0 ∨ pX l (l.length - 1) ≠ 1000
  · rw [wvE_ends h0 h1]
    have HD:=Lib.hid h1
    by_cases h2:pX l 0 = 0
    · have h3:((pX l 0:Int) != 0) = false:=by simpa using h2
      have h4:((pX l (l.length - 1):Int) != 1000) = true:=by have:=HD.out;simp [h2] at this;simpa using this
      clear h1 h2 HD
      have hn1:l.length - 1 < l.length:=by omega
      generalize pX l 0 = x0 at *
      generalize pX l (l.length - 1) = x1 at *
      generalize l.length - 1 = n1 at *
      go_enter Tryz.func120,Tryz.ntmps120
      go_wp2
      go_ret
      exact ⟨rfl,HB.out⟩
    · have h3:((pX l 0:Int) != 0) = true:=by simpa using h2
      clear h1 h2 HD
      generalize pX l 0 = x0 at *
      go_enter Tryz.func120,Tryz.ntmps120
      go_wp2
      go_ret
      exact ⟨rfl,HB.out⟩
  rw [wvE_scan h0 h1]
  obtain ⟨E,hE⟩:∃ E,E = wvF l (scanW l l.length 0):=⟨_,rfl⟩
  rw [← hE]
  have HE:=Lib.hid hE;clear hE
  have h3:((pX l 0:Int) != 0) = false:=by simp at h1;simpa using h1.1
  have h4:((pX l (l.length - 1):Int) != 1000) = false:=by simp at h1;simpa using h1.2
  clear h1
  have hn1:l.length - 1 < l.length:=by omega
  go_enter Tryz.func120,Tryz.ntmps120
  go_wp2
  go_loopw [32] (fun i wr => ∃ k r:Nat,Hid (k + r = l.length) ∧ i = .int .i64 (k:Int) ∧ Below w.heap.size w wr ∧ Hid (scanW l r k = scanW l l.length 0)) (fun i _ => l.length - (intOf i).toNat)
  case atStart => exact ⟨0,l.length,Lib.hid (by omega),rfl,HB.out,Lib.hid rfl⟩
  case round =>
    obtain ⟨k,r,hk,rfl,hB,hS⟩:=hrel
    have HBW:=Lib.hid hB
    have hcw:=HC.out.below hB hb
    have hbr:b < wr.heap.size:=by have:=hB.size;omega
    clear hB a1 a2 a3 a4 h3 h4
    obtain ⟨a1,a2⟩:=hcw.zero (by omega)
    obtain ⟨a3,a4⟩:=hcw (l.length - 1) (by omega)
    have HCW:=Lib.hid hcw;clear hcw
    cases r with
    | zero =>
      have hkl:k = l.length:=hk.out
      subst hkl
      have hlt:¬ ((l.length:Int) < (l.length:Int)):=by omega
      have hs0:scanW l l.length 0 = 0:=hS.out.symm
      by_cases hy:pY l 0 = pY l (l.length - 1)
      · have hd:((pY l 0:Int) != pY l (l.length - 1)) = false:=by simpa using hy
        have HF:Hid (E = 0):=by show _ = _;rw [HE.out,hs0,wvF,if_neg (by simp),if_neg (by simpa using hy)]
        have HY:=Lib.hid hy;clear hy
        have HS0:=Lib.hid hs0;clear hs0
        generalize pY l 0 = y0 at *
        generalize pY l (l.length - 1) = y1 at *
        go_wp2
        go_quiet (fail)
        go_wp2
        go_ret
        exact ⟨by rw [HF.out];rfl,below_drewN HBW.out _⟩
      · have hd:((pY l 0:Int) != pY l (l.length - 1)) = true:=by simpa using hy
        have HF:Hid (E = 3):=by show _ = _;rw [HE.out,hs0,wvF,if_neg (by simp),if_pos hy]
        have HY:=Lib.hid hy;clear hy
        have HS0:=Lib.hid hs0;clear hs0
        generalize pY l 0 = y0 at *
        generalize pY l (l.length - 1) = y1 at *
        go_wp2
        go_quiet (fail)
        go_wp2
        go_ret
        exact ⟨by rw [HF.out];rfl,below_drewN HBW.out _⟩
    | succ m =>
      have hkl:k < l.length:=by have:=hk.out;omega
      have hlt:(k:Int) < (l.length:Int):=by omega
      obtain ⟨c1,c2⟩:=HCW.out k hkl
      have hun:IntKind.i64.wrap ((k:Int) + 1) = ((k + 1:Nat):Int):=by rw [IntWalk.i64_in _ (by omega)];omega
      by_cases hy:-1000 ≤ pY l k ∧ pY l k ≤ 1000
      · have hh:=fun W => own_high (pY l k) W
        rw [decide_eq_true hy] at hh
        by_cases hx:0 < k ∧ pX l k ≤ pX l (k - 1)
        · have HF:Hid (E = 9):=by show _ = _;rw [HE.out,← hS.out,scanW_back hy hx];rfl
          obtain ⟨hk0,hx2⟩:=hx
          obtain ⟨c3,c4⟩:=HCW.out (k - 1) (by omega)
          have hk1:0 < (k:Int):=by omega
          have hd0:decide (0 < k) = true:=decide_eq_true hk0
          have e2:IntKind.i64.wrap ((k:Int) - 1) = ((k - 1:Nat):Int):=by rw [IntWalk.i64_in _ (by omega)];omega
          have hk2:k - 1 < l.length:=by omega
          have HH:=Lib.hid hh;clear hh hy
          generalize pX l k = x0 at *
          generalize pX l (k - 1) = x1 at *
          generalize pY l k = y0 at *
          generalize k - 1 = k1 at *
          go_wp2_with ((with_reducible refine ((HH.out _).mono ?_));rintro e w' ⟨rfl,rfl⟩)
          go_quiet (fail)
          go_wp2
          go_ret
          exact ⟨by rw [HF.out];rfl,below_drewN (HBW.out.alloc (by have:=HBW.out.size;omega) _) _⟩
        · have HF:Hid (scanW l m (k + 1) = scanW l l.length 0):=by show _ = _;rw [← hS.out,scanW_step hy hx]
          have HH:=Lib.hid hh;clear hh hy
          by_cases hk0:0 < k
          · have hx2:¬ pX l k ≤ pX l (k - 1):=fun h => hx ⟨hk0,h⟩
            obtain ⟨c3,c4⟩:=HCW.out (k - 1) (by omega)
            have hk1:0 < (k:Int):=by omega
            have e2:IntKind.i64.wrap ((k:Int) - 1) = ((k - 1:Nat):Int):=by rw [IntWalk.i64_in _ (by omega)];omega
            have hk2:k - 1 < l.length:=by omega
            have HR:=Lib.hid hk;clear hk hx hS
            have hd0:decide (0 < k) = true:=decide_eq_true hk0
            generalize pX l k = x0 at *
            generalize pX l (k - 1) = x1 at *
            generalize pY l k = y0 at *
            generalize k - 1 = k1 at *
            go_wp2_with ((with_reducible refine ((HH.out _).mono ?_));rintro e w' ⟨rfl,rfl⟩)
            go_quiet (fail)
            go_wp2
            go_roundw
            case rel => exact ⟨k + 1,m,Lib.hid (by have:=HR.out.out;omega),by first | rfl | go_num,below_drewN (HBW.out.alloc (by have:=HBW.out.size;omega) _) _,HF⟩
            case measure => simp [intOf];omega
          · have hk1:¬ 0 < (k:Int):=by omega
            obtain rfl:k = 0:=by omega
            have HR:=Lib.hid hk;clear hk hx hS
            generalize pX l 0 = x0 at *
            generalize pY l 0 = y0 at *
            go_wp2_with ((with_reducible refine ((HH.out _).mono ?_));rintro e w' ⟨rfl,rfl⟩)
            go_quiet (fail)
            go_wp2
            go_roundw
            case rel => exact ⟨1,m,Lib.hid (by have:=HR.out.out;omega),by first | rfl | go_num,below_drewN (HBW.out.alloc (by have:=HBW.out.size;omega) _) _,HF⟩
            case measure => simp [intOf];omega
      · have HF:Hid (E = 2):=by show _ = _;rw [HE.out,← hS.out,scanW_out hy];rfl
        have hh:=fun W => own_high (pY l k) W
        rw [decide_eq_false hy] at hh
        have HH:=Lib.hid hh;clear hh hy
        generalize pX l k = x0 at *
        generalize pY l k = y0 at *
        go_wp2_with ((with_reducible refine ((HH.out _).mono ?_));rintro e w' ⟨rfl,rfl⟩)
        go_ret
        exact ⟨by rw [HF.out];rfl,(HBW.out.alloc (by have:=HBW.out.size;omega) _)⟩
end Go.Proofs.YtbeojahilbglcaaGreatDoor

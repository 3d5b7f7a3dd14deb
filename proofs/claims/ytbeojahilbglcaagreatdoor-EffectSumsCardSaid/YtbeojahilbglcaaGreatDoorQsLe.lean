/-
  
-/
import Derived.Test.YtbeojahilbglcaaGreatDoorQsYs
import Derived.Laws.StructEq
import Derived.Test.YtbeojahilbglcaaGreatDoorQsYk
import Derived.Test.YtbeojahilbglcaaGreatDoorQsLr
import Derived.Test.YtbeojahilbglcaaGreatDoorQsZt
import Derived.Test.YtbeojahilbglcaaGreatDoorQsZo
set_option linter.unusedVariables false
set_option linter.unusedSimpArgs false
namespace Go.Proofs.YtbeojahilbglcaaGreatDoor
open Go.RowKit Go.Shelf Lum
open Go.Lib (decDigits itoa)
attribute [local go_sem] bs_get bs_extract_end bs_extract_from bs_extract bs_append
end Go.Proofs.YtbeojahilbglcaaGreatDoor
set_option maxRecDepth 100000
set_option maxHeartbeats 4000000
namespace Lum
open Go Go.RowKit Go.Shelf
open Go.Lib (decDigits itoa)
theorem fst_atF {α β:Type} {L:List (α × β)} {R:List α} (hM:L.map (fun x => x.1) = R) {k:Nat} (h1:k < L.length) (h2:k < R.length):R[k]'h2 = (L[k]'h1).1:=by subst hM;rw [List.getElem_map]
def fewC (x:Rnx):Bool:=!decide (8 < x.cs.length ∧ x.cs.length ≤ 256)
def fewB (n:Nat) (R:List Rnx):Bool:=!decide (4 < n ∧ n ≤ 16) && (!decide (4 < R.length ∧ R.length ≤ 16) && (R.take 4).all fewC)
theorem fewB_n {n:Nat} {R:List Rnx} (h:4 < n ∧ n ≤ 16):fewB n R = false:=by unfold fewB;rw [decide_eq_true h];rfl
theorem fewB_r {n:Nat} {R:List Rnx} (h0:¬ (4 < n ∧ n ≤ 16)) (h:4 < R.length ∧ R.length ≤ 16):fewB n R = false:=by unfold fewB;rw [decide_eq_false h0,decide_eq_true h];rfl
theorem fewB_c {n:Nat} {R:List Rnx} (h0:¬ (4 < n ∧ n ≤ 16)) (h:¬ (4 < R.length ∧ R.length ≤ 16)):fewB n R = (R.take 4).all fewC:=by unfold fewB;rw [decide_eq_false h0,decide_eq_false h];rfl
theorem few_all {R:List Rnx} {k:Nat} (hk:k = R.length ∨ 4 ≤ k) (h:∀ j (hj:j < R.length),j < k → fewC (R[j]'hj) = true):(R.take 4).all fewC = true:=List.all_eq_true.2 fun x hx => by
  obtain ⟨j,hj,h1,rfl⟩:=mem_take_at hx
  exact h j hj (by omega)
theorem few_bad {R:List Rnx} {k:Nat} (hk:k < R.length) (h4:k < 4) (h:fewC (R[k]'hk) = false):(R.take 4).all fewC = false:=List.all_eq_false.2 ⟨R[k]'hk,List.mem_take_iff_getElem.2 ⟨k,by omega,rfl⟩,by rw [h];decide⟩
def listIf (E:Int) (L:List Rnx):List Rnx:=if E = 0 then L else []
end Lum
namespace Go.Proofs.YtbeojahilbglcaaGreatDoor
open Go.RowKit Go.Shelf Lum
open Go.Lib (decDigits itoa)
attribute [local go_sem] bs_get bs_extract_end bs_extract_from bs_extract bs_append
theorem r28_few (R : List Rnx) (u : Value) (p : Option Addr) (m c : Nat) (w : World) (hr : RunsAt w u R) :
    Calls Tryz.prog 6 #[.slice p m c,u] w fun e w' => e = .returned (.bool (fewB m R)) ∧ w = w':=by
  obtain ⟨L,p2,c2,rfl,hM,hR,hC0⟩:=hr
  have hl:L.length = R.length:=by rw [← hM,List.length_map]
  have hv2:=Lib.hid hR;have HCN:=Lib.hid hC0;have HM:=Lib.hid hM;clear hR hC0 hM
  by_cases h1:4 < m ∧ m ≤ 16
  · rw [fewB_n h1]
    have hL1:(4:Int) < (m:Int):=by omega
    have hL2:(m:Int) ≤ 16:=by omega
    go_enter Tryz.func6,Tryz.ntmps6
    go_wp2_with fail
    go_ret
    exact ⟨rfl,rfl⟩
  · by_cases h7:4 < m
    · have hL1:(4:Int) < (m:Int):=by omega
      have hL2:¬ (m:Int) ≤ 16:=by omega
      by_cases h2:4 < R.length ∧ R.length ≤ 16
      · have hL3:(4:Int) < (L.length:Int):=by omega
        have hL4:(L.length:Int) ≤ 16:=by omega
        rw [fewB_r h1 h2]
        go_enter Tryz.func6,Tryz.ntmps6
        go_wp2_with fail
        go_ret
        exact ⟨rfl,rfl⟩
      · by_cases h6:4 < R.length
        · have hL3:(4:Int) < (L.length:Int):=by omega
          have hL4:¬ (L.length:Int) ≤ 16:=by omega
          rw [fewB_c h1 h2]
          go_enter Tryz.func6,Tryz.ntmps6
          go_wp2_with fail
          go_loopw [5] (fun s wr => ∃ k:Nat,s = .int .i64 (k:Int) ∧ w = wr ∧ k ≤ R.length ∧ Hid (∀ j (hj:j < R.length),j < k → fewC (R[j]'hj) = true)) (fun s _ => R.length - (intOf s).toNat)
          case atStart => exact ⟨0,rfl,rfl,by omega,Lib.hid (fun j hj h => absurd h (Nat.not_lt_zero _))⟩
          case round =>
            obtain ⟨k,rfl,rfl,h5,HF⟩:=hrel
            by_cases h3:k < R.length
            · have hlt:(k:Int) < (L.length:Int):=by omega
              by_cases h4:k < 4
              · have hkr:k < R.length:=by omega
                have hk4:(k:Int) < 4:=by omega
                have hkl:k < L.length:=by omega
                obtain ⟨b,o,rfl,hb,hC⟩:=hv2.out (fun h => by subst h;simp at hkl)
                obtain ⟨⟨x,q1,q2,q3⟩,hx⟩:∃ x,x = L[k]'hkl:=⟨_,rfl⟩
                have hcell:=hC k hkl
                rw [← hx] at hcell
                have hq:=(HCN.out _ (List.getElem_mem hkl)).1.len
                rw [← hx] at hq
                dsimp only at hq
                subst hq
                have hxr:R[k]'hkr = x:=(fst_atF HM.out hkl hkr).trans (by rw [← hx])
                have y1:=hcell 1 _ rfl
                have hk0:(0:Int) ≤ (k:Int):=by omega
                have hlt2:(k:Int) < (L.length:Int):=by omega
                clear hcell hC
                by_cases h8:8 < x.cs.length
                · by_cases h9:x.cs.length ≤ 256
                  · have HA:Hid ((R.take 4).all fewC = false):=Lib.hid (few_bad hkr h4 (by rw [hxr];unfold fewC;simp;omega))
                    have hl1:(8:Int) < (x.cs.length:Int):=by omega
                    have hl2:(x.cs.length:Int) ≤ 256:=by omega
                    clear hxr hx
                    go_wp2_with fail
                    go_ret
                    exact ⟨by rw [HA.out];rfl,rfl⟩
                  · have hl1:(8:Int) < (x.cs.length:Int):=by omega
                    have hl2:¬ (x.cs.length:Int) ≤ 256:=by omega
                    have HF2:Hid (∀ j (hj:j < R.length),j < k + 1 → fewC (R[j]'hj) = true):=Lib.hid (fun j hj h => by by_cases e:j = k;(subst e;rw [hxr];unfold fewC;simp;omega);exact HF.out j hj (by omega))
                    have hun:IntKind.i64.wrap ((k:Int) + 1) = (k:Int) + 1:=IntWalk.i64_in _ (by omega)
                    clear hxr hx
                    go_wp2_with fail
                    go_roundw
                    case rel => exact ⟨k + 1,by first | rfl | simp,by trivial,by omega,HF2⟩
                    case measure => first | (simp [intOf];done) | (simp [intOf];omega)
                · have hl1:¬ (8:Int) < (x.cs.length:Int):=by omega
                  have HF2:Hid (∀ j (hj:j < R.length),j < k + 1 → fewC (R[j]'hj) = true):=Lib.hid (fun j hj h => by by_cases e:j = k;(subst e;rw [hxr];unfold fewC;simp;omega);exact HF.out j hj (by omega))
                  have hun:IntKind.i64.wrap ((k:Int) + 1) = (k:Int) + 1:=IntWalk.i64_in _ (by omega)
                  clear hxr hx
                  go_wp2_with fail
                  go_roundw
                  case rel => exact ⟨k + 1,by first | rfl | simp,by trivial,by omega,HF2⟩
                  case measure => first | (simp [intOf];done) | (simp [intOf];omega)
              · have hk4:¬ (k:Int) < 4:=by omega
                have HA:Hid ((R.take 4).all fewC = true):=Lib.hid (few_all (k:=k) (by omega) HF.out)
                go_wp2_with fail
                go_ret
                exact ⟨by rw [HA.out];rfl,rfl⟩
            · have hlt:¬ (k:Int) < (L.length:Int):=by omega
              have HA:Hid ((R.take 4).all fewC = true):=Lib.hid (few_all (k:=k) (by omega) HF.out)
              go_wp2_with fail
              go_ret
              exact ⟨by rw [HA.out];rfl,rfl⟩
        · have hL3:¬ (4:Int) < (L.length:Int):=by omega
          rw [fewB_c h1 h2]
          go_enter Tryz.func6,Tryz.ntmps6
          go_wp2_with fail
          go_loopw [5] (fun s wr => ∃ k:Nat,s = .int .i64 (k:Int) ∧ w = wr ∧ k ≤ R.length ∧ Hid (∀ j (hj:j < R.length),j < k → fewC (R[j]'hj) = true)) (fun s _ => R.length - (intOf s).toNat)
          case atStart => exact ⟨0,rfl,rfl,by omega,Lib.hid (fun j hj h => absurd h (Nat.not_lt_zero _))⟩
          case round =>
            obtain ⟨k,rfl,rfl,h5,HF⟩:=hrel
            by_cases h3:k < R.length
            · have hlt:(k:Int) < (L.length:Int):=by omega
              by_cases h4:k < 4
              · have hkr:k < R.length:=by omega
                have hk4:(k:Int) < 4:=by omega
                have hkl:k < L.length:=by omega
                obtain ⟨b,o,rfl,hb,hC⟩:=hv2.out (fun h => by subst h;simp at hkl)
                obtain ⟨⟨x,q1,q2,q3⟩,hx⟩:∃ x,x = L[k]'hkl:=⟨_,rfl⟩
                have hcell:=hC k hkl
                rw [← hx] at hcell
                have hq:=(HCN.out _ (List.getElem_mem hkl)).1.len
                rw [← hx] at hq
                dsimp only at hq
                subst hq
                have hxr:R[k]'hkr = x:=(fst_atF HM.out hkl hkr).trans (by rw [← hx])
                have y1:=hcell 1 _ rfl
                have hk0:(0:Int) ≤ (k:Int):=by omega
                have hlt2:(k:Int) < (L.length:Int):=by omega
                clear hcell hC
                by_cases h8:8 < x.cs.length
                · by_cases h9:x.cs.length ≤ 256
                  · have HA:Hid ((R.take 4).all fewC = false):=Lib.hid (few_bad hkr h4 (by rw [hxr];unfold fewC;simp;omega))
                    have hl1:(8:Int) < (x.cs.length:Int):=by omega
                    have hl2:(x.cs.length:Int) ≤ 256:=by omega
                    clear hxr hx
                    go_wp2_with fail
                    go_ret
                    exact ⟨by rw [HA.out];rfl,rfl⟩
                  · have hl1:(8:Int) < (x.cs.length:Int):=by omega
                    have hl2:¬ (x.cs.length:Int) ≤ 256:=by omega
                    have HF2:Hid (∀ j (hj:j < R.length),j < k + 1 → fewC (R[j]'hj) = true):=Lib.hid (fun j hj h => by by_cases e:j = k;(subst e;rw [hxr];unfold fewC;simp;omega);exact HF.out j hj (by omega))
                    have hun:IntKind.i64.wrap ((k:Int) + 1) = (k:Int) + 1:=IntWalk.i64_in _ (by omega)
                    clear hxr hx
                    go_wp2_with fail
                    go_roundw
                    case rel => exact ⟨k + 1,by first | rfl | simp,by trivial,by omega,HF2⟩
                    case measure => first | (simp [intOf];done) | (simp [intOf];omega)
                · have hl1:¬ (8:Int) < (x.cs.length:Int):=by omega
                  have HF2:Hid (∀ j (hj:j < R.length),j < k + 1 → fewC (R[j]'hj) = true):=Lib.hid (fun j hj h => by by_cases e:j = k;(subst e;rw [hxr];unfold fewC;simp;omega);exact HF.out j hj (by omega))
                  have hun:IntKind.i64.wrap ((k:Int) + 1) = (k:Int) + 1:=IntWalk.i64_in _ (by omega)
                  clear hxr hx
                  go_wp2_with fail
                  go_roundw
                  case rel => exact ⟨k + 1,by first | rfl | simp,by trivial,by omega,HF2⟩
                  case measure => first | (simp [intOf];done) | (simp [intOf];omega)
              · have hk4:¬ (k:Int) < 4:=by omega
                have HA:Hid ((R.take 4).all fewC = true):=Lib.hid (few_all (k:=k) (by omega) HF.out)
                go_wp2_with fail
                go_ret
                exact ⟨by rw [HA.out];rfl,rfl⟩
            · have hlt:¬ (k:Int) < (L.length:Int):=by omega
              have HA:Hid ((R.take 4).all fewC = true):=Lib.hid (few_all (k:=k) (by omega) HF.out)
              go_wp2_with fail
              go_ret
              exact ⟨by rw [HA.out];rfl,rfl⟩
    · have hL1:¬ (4:Int) < (m:Int):=by omega
      by_cases h2:4 < R.length ∧ R.length ≤ 16
      · have hL3:(4:Int) < (L.length:Int):=by omega
        have hL4:(L.length:Int) ≤ 16:=by omega
        rw [fewB_r h1 h2]
        go_enter Tryz.func6,Tryz.ntmps6
        go_wp2_with fail
        go_ret
        exact ⟨rfl,rfl⟩
      · by_cases h6:4 < R.length
        · have hL3:(4:Int) < (L.length:Int):=by omega
          have hL4:¬ (L.length:Int) ≤ 16:=by omega
          rw [fewB_c h1 h2]
          go_enter Tryz.func6,Tryz.ntmps6
          go_wp2_with fail
          go_loopw [5] (fun s wr => ∃ k:Nat,s = .int .i64 (k:Int) ∧ w = wr ∧ k ≤ R.length ∧ Hid (∀ j (hj:j < R.length),j < k → fewC (R[j]'hj) = true)) (fun s _ => R.length - (intOf s).toNat)
          case atStart => exact ⟨0,rfl,rfl,by omega,Lib.hid (fun j hj h => absurd h (Nat.not_lt_zero _))⟩
          case round =>
            obtain ⟨k,rfl,rfl,h5,HF⟩:=hrel
            by_cases h3:k < R.length
            · have hlt:(k:Int) < (L.length:Int):=by omega
              by_cases h4:k < 4
              · have hkr:k < R.length:=by omega
                have hk4:(k:Int) < 4:=by omega
                have hkl:k < L.length:=by omega
                obtain ⟨b,o,rfl,hb,hC⟩:=hv2.out (fun h => by subst h;simp at hkl)
                obtain ⟨⟨x,q1,q2,q3⟩,hx⟩:∃ x,x = L[k]'hkl:=⟨_,rfl⟩
                have hcell:=hC k hkl
                rw [← hx] at hcell
                have hq:=(HCN.out _ (List.getElem_mem hkl)).1.len
                rw [← hx] at hq
                dsimp only at hq
                subst hq
                have hxr:R[k]'hkr = x:=(fst_atF HM.out hkl hkr).trans (by rw [← hx])
                have y1:=hcell 1 _ rfl
                have hk0:(0:Int) ≤ (k:Int):=by omega
                have hlt2:(k:Int) < (L.length:Int):=by omega
                clear hcell hC
                by_cases h8:8 < x.cs.length
                · by_cases h9:x.cs.length ≤ 256
                  · have HA:Hid ((R.take 4).all fewC = false):=Lib.hid (few_bad hkr h4 (by rw [hxr];unfold fewC;simp;omega))
                    have hl1:(8:Int) < (x.cs.length:Int):=by omega
                    have hl2:(x.cs.length:Int) ≤ 256:=by omega
                    clear hxr hx
                    go_wp2_with fail
                    go_ret
                    exact ⟨by rw [HA.out];rfl,rfl⟩
                  · have hl1:(8:Int) < (x.cs.length:Int):=by omega
                    have hl2:¬ (x.cs.length:Int) ≤ 256:=by omega
                    have HF2:Hid (∀ j (hj:j < R.length),j < k + 1 → fewC (R[j]'hj) = true):=Lib.hid (fun j hj h => by by_cases e:j = k;(subst e;rw [hxr];unfold fewC;simp;omega);exact HF.out j hj (by omega))
                    have hun:IntKind.i64.wrap ((k:Int) + 1) = (k:Int) + 1:=IntWalk.i64_in _ (by omega)
                    clear hxr hx
                    go_wp2_with fail
                    go_roundw
                    case rel => exact ⟨k + 1,by first | rfl | simp,by trivial,by omega,HF2⟩
                    case measure => first | (simp [intOf];done) | (simp [intOf];omega)
                · have hl1:¬ (8:Int) < (x.cs.length:Int):=by omega
                  have HF2:Hid (∀ j (hj:j < R.length),j < k + 1 → fewC (R[j]'hj) = true):=Lib.hid (fun j hj h => by by_cases e:j = k;(subst e;rw [hxr];unfold fewC;simp;omega);exact HF.out j hj (by omega))
                  have hun:IntKind.i64.wrap ((k:Int) + 1) = (k:Int) + 1:=IntWalk.i64_in _ (by omega)
                  clear hxr hx
                  go_wp2_with fail
                  go_roundw
                  case rel => exact ⟨k + 1,by first | rfl | simp,by trivial,by omega,HF2⟩
                  case measure => first | (simp [intOf];done) | (simp [intOf];omega)
              · have hk4:¬ (k:Int) < 4:=by omega
                have HA:Hid ((R.take 4).all fewC = true):=Lib.hid (few_all (k:=k) (by omega) HF.out)
                go_wp2_with fail
                go_ret
                exact ⟨by rw [HA.out];rfl,rfl⟩
            · have hlt:¬ (k:Int) < (L.length:Int):=by omega
              have HA:Hid ((R.take 4).all fewC = true):=Lib.hid (few_all (k:=k) (by omega) HF.out)
              go_wp2_with fail
              go_ret
              exact ⟨by rw [HA.out];rfl,rfl⟩
        · have hL3:¬ (4:Int) < (L.length:Int):=by omega
          rw [fewB_c h1 h2]
          go_enter Tryz.func6,Tryz.ntmps6
          go_wp2_with fail
          go_loopw [5] (fun s wr => ∃ k:Nat,s = .int .i64 (k:Int) ∧ w = wr ∧ k ≤ R.length ∧ Hid (∀ j (hj:j < R.length),j < k → fewC (R[j]'hj) = true)) (fun s _ => R.length - (intOf s).toNat)
          case atStart => exact ⟨0,rfl,rfl,by omega,Lib.hid (fun j hj h => absurd h (Nat.not_lt_zero _))⟩
          case round =>
            obtain ⟨k,rfl,rfl,h5,HF⟩:=hrel
            by_cases h3:k < R.length
            · have hlt:(k:Int) < (L.length:Int):=by omega
              by_cases h4:k < 4
              · have hkr:k < R.length:=by omega
                have hk4:(k:Int) < 4:=by omega
                have hkl:k < L.length:=by omega
                obtain ⟨b,o,rfl,hb,hC⟩:=hv2.out (fun h => by subst h;simp at hkl)
                obtain ⟨⟨x,q1,q2,q3⟩,hx⟩:∃ x,x = L[k]'hkl:=⟨_,rfl⟩
                have hcell:=hC k hkl
                rw [← hx] at hcell
                have hq:=(HCN.out _ (List.getElem_mem hkl)).1.len
                rw [← hx] at hq
                dsimp only at hq
                subst hq
                have hxr:R[k]'hkr = x:=(fst_atF HM.out hkl hkr).trans (by rw [← hx])
                have y1:=hcell 1 _ rfl
                have hk0:(0:Int) ≤ (k:Int):=by omega
                have hlt2:(k:Int) < (L.length:Int):=by omega
                clear hcell hC
                by_cases h8:8 < x.cs.length
                · by_cases h9:x.cs.length ≤ 256
                  · have HA:Hid ((R.take 4).all fewC = false):=Lib.hid (few_bad hkr h4 (by rw [hxr];unfold fewC;simp;omega))
                    have hl1:(8:Int) < (x.cs.length:Int):=by omega
                    have hl2:(x.cs.length:Int) ≤ 256:=by omega
                    clear hxr hx
                    go_wp2_with fail
                    go_ret
                    exact ⟨by rw [HA.out];rfl,rfl⟩
                  · have hl1:(8:Int) < (x.cs.length:Int):=by omega
                    have hl2:¬ (x.cs.length:Int) ≤ 256:=by omega
                    have HF2:Hid (∀ j (hj:j < R.length),j < k + 1 → fewC (R[j]'hj) = true):=Lib.hid (fun j hj h => by by_cases e:j = k;(subst e;rw [hxr];unfold fewC;simp;omega);exact HF.out j hj (by omega))
                    have hun:IntKind.i64.wrap ((k:Int) + 1) = (k:Int) + 1:=IntWalk.i64_in _ (by omega)
                    clear hxr hx
                    go_wp2_with fail
                    go_roundw
                    case rel => exact ⟨k + 1,by first | rfl | simp,by trivial,by omega,HF2⟩
                    case measure => first | (simp [intOf];done) | (simp [intOf];omega)
                · have hl1:¬ (8:Int) < (x.cs.length:Int):=by omega
                  have HF2:Hid (∀ j (hj:j < R.length),j < k + 1 → fewC (R[j]'hj) = true):=Lib.hid (fun j hj h => by by_cases e:j = k;(subst e;rw [hxr];unfold fewC;simp;omega);exact HF.out j hj (by omega))
                  have hun:IntKind.i64.wrap ((k:Int) + 1) = (k:Int) + 1:=IntWalk.i64_in _ (by omega)
                  clear hxr hx
                  go_wp2_with fail
                  go_roundw
                  case rel => exact ⟨k + 1,by first | rfl | simp,by trivial,by omega,HF2⟩
                  case measure => first | (simp [intOf];done) | (simp [intOf];omega)
              · have hk4:¬ (k:Int) < 4:=by omega
                have HA:Hid ((R.take 4).all fewC = true):=Lib.hid (few_all (k:=k) (by omega) HF.out)
                go_wp2_with fail
                go_ret
                exact ⟨by rw [HA.out];rfl,rfl⟩
            · have hlt:¬ (k:Int) < (L.length:Int):=by omega
              have HA:Hid ((R.take 4).all fewC = true):=Lib.hid (few_all (k:=k) (by omega) HF.out)
              go_wp2_with fail
              go_ret
              exact ⟨by rw [HA.out];rfl,rfl⟩
end Go.Proofs.YtbeojahilbglcaaGreatDoor
set_option maxRecDepth 100000
set_option maxHeartbeats 8000000
namespace Lum
open Go Go.RowKit Go.Shelf
open Go.Lib (decDigits itoa)
theorem parE_short (L:List Efx) (R:List Rnx):(parE L R).length ≤ 1000000:=by
  unfold parE
  by_cases h:boE L R = 0
  · rw [if_pos h]
    have h2:rnsE R = 0:=by by_cases h1:efsE L = 0;(rw [boE_rn h1] at h;exact h);(rw [boE_ef h1] at h;exact absurd h h1)
    have hok:=ordOk (show ordE rnE (·.ef) R = 0 from h2)
    have h1:=putsP_len (movedL L R)
    have h3:=movedL_few (L:=L) hok R.length
    rw [List.take_length] at h3
    unfold parL
    omega
  · rw [if_neg h];simp
end Lum
namespace Go.Proofs.YtbeojahilbglcaaGreatDoor
open Go.RowKit Go.Shelf Lum
open Go.Lib (decDigits itoa)
attribute [local go_sem] bs_get bs_extract_end bs_extract_from bs_extract bs_append
theorem law_esums (L : List Efx) (R : List Rnx) (v u : Value) (T N C A : Int) (w : World) (hl : EfsAt w v L) (hr : RunsAt w u R) (n0 : -9223372036854775808 ≤ N) (n1 : N ≤ 9223372036854775807) (env : Env w) :
    Calls Tryz.prog 4 #[v,u,.agg #[.int .i64 T,.int .i64 N,.int .i64 C,.int .i64 A]] w fun e w' => e = .returned (.bool (true)) ∧ Below w.heap.size w w':=by
  obtain ⟨pv,nv,cv,rfl⟩:∃ p n c,v = .slice p n c:=by obtain ⟨M,p,c,h,-⟩:=hl;exact ⟨_,_,_,h⟩
  have haw:=fun W (e:Env W) => l28_awake W e
  have hfw:=fun W (h:RunsAt W u R) => r28_few R u pv nv cv W h
  have ho1:=fun W (e:Env W) (h:EfsAt W (.slice pv nv cv) L) (h2:RunsAt W u R) => own_eof L R (.slice pv nv cv) u N T C A W h h2 n0 n1 e
  have ho2:=fun W (h:EfsAt W (.slice pv nv cv) L) (h2:RunsAt W u R) => r28_of L R (.slice pv nv cv) u N T C A W h h2
  have hs1:=fun W (e:Env W) (h:EfsAt W (.slice pv nv cv) L) (h2:RunsAt W u R) => own_esum L R (.slice pv nv cv) u T C A W h h2 e
  have hs2:=fun W (h:EfsAt W (.slice pv nv cv) L) (h2:RunsAt W u R) => r28_sum L R (.slice pv nv cv) u T C A W h h2
  have hp1:=fun W (h:EfsAt W (.slice pv nv cv) L) (h2:RunsAt W u R) => own_eparams L R (.slice pv nv cv) u W h h2
  have hp2:=fun W (h:EfsAt W (.slice pv nv cv) L) (h2:RunsAt W u R) => r28_params L R (.slice pv nv cv) u W h h2
  unfold ParP at hp1 hp2
  have hq:=fun (u v:Value) W (h1:ParsAt W u (parE L R)) (h2:ParsAt W v (parE L R)) => pa_equal (parE L R) u v W h1 h2 (parE_short L R)
  have hal:=(Below.refl w.heap.size w).alloc (Nat.le_refl _) (.cells #[.int .i64 T,.int .i64 N,.int .i64 C,.int .i64 A] 47)
  have HE:=Lib.hid (EfsAt.kept hl hal);have HN:=Lib.hid (RunsAt.kept hr hal);have ENV:=Lib.hid env
  have HB:=Lib.hid hal
  have HK:=Lib.hid (Blk.new w 47 #[.int .i64 T,.int .i64 N,.int .i64 C,.int .i64 A])
  clear hal hl hr env
  clear n0 n1
  generalize ofE L R N T C A = E1 at *
  generalize suE L R T C A = E2 at *
  obtain ⟨S1,E1⟩:=E1
  obtain ⟨S2,E2⟩:=E2
  dsimp only at ho1 ho2 hs1 hs2
  generalize parE L R = P1 at *
  generalize boE L R = E3 at *
  have HAW:=Lib.hid haw;clear haw
  have HFW:=Lib.hid hfw;clear hfw
  have HO1:=Lib.hid ho1;clear ho1
  have HO2:=Lib.hid ho2;clear ho2
  have HS1:=Lib.hid hs1;clear hs1
  have HS2:=Lib.hid hs2;clear hs2
  have HP1:=Lib.hid hp1;clear hp1
  have HP2:=Lib.hid hp2;clear hp2
  have HQ:=Lib.hid hq;clear hq
  obtain ⟨k0,k1,k2,k3,kf0,kf1,kf2,kf3⟩:=HK.out.c4
  by_cases hfb:fewB nv R = true
  · rw [hfb] at HFW
    go_enter Tryz.func4,Tryz.ntmps4
    go_upto_region 3 with (first | (with_reducible refine ((HFW.out _ HN.out).mono ?_);rintro e w' ⟨rfl,rfl⟩))
    go_upto_region 4 with (first | (with_reducible refine ((HO1.out _ (ENV.out.below HB.out) HE.out HN.out).mono ?_);rintro e w' ⟨rfl,hb⟩;replace HK:=Lib.hid (HK.out.keep hb);clear k0 k1 k2 k3 kf0 kf1 kf2 kf3;replace HE:=Lib.hid (EfsAt.kept HE.out hb);replace HN:=Lib.hid (RunsAt.kept HN.out hb);replace HB:=Lib.hid (bch' HB.out hb);clear hb;obtain ⟨k0,k1,k2,k3,kf0,kf1,kf2,kf3⟩:=HK.out.c4))
    go_upto_region 5 with (first | (with_reducible refine ((HO2.out _ HE.out HN.out).mono ?_);rintro e w' ⟨rfl,hb⟩;replace HK:=Lib.hid (HK.out.keep hb);clear k0 k1 k2 k3 kf0 kf1 kf2 kf3;replace HE:=Lib.hid (EfsAt.kept HE.out hb);replace HN:=Lib.hid (RunsAt.kept HN.out hb);replace HB:=Lib.hid (bch' HB.out hb);clear hb;obtain ⟨k0,k1,k2,k3,kf0,kf1,kf2,kf3⟩:=HK.out.c4))
    go_upto_region 6 with (first | (with_reducible refine ((HS1.out _ (ENV.out.below HB.out) HE.out HN.out).mono ?_);rintro e w' ⟨rfl,hb⟩;replace HK:=Lib.hid (HK.out.keep hb);clear k0 k1 k2 k3 kf0 kf1 kf2 kf3;replace HE:=Lib.hid (EfsAt.kept HE.out hb);replace HN:=Lib.hid (RunsAt.kept HN.out hb);replace HB:=Lib.hid (bch' HB.out hb);clear hb;obtain ⟨k0,k1,k2,k3,kf0,kf1,kf2,kf3⟩:=HK.out.c4))
    go_upto_region 7 with (first | (with_reducible refine ((HS2.out _ HE.out HN.out).mono ?_);rintro e w' ⟨rfl,hb⟩;replace HK:=Lib.hid (HK.out.keep hb);clear k0 k1 k2 k3 kf0 kf1 kf2 kf3;replace HE:=Lib.hid (EfsAt.kept HE.out hb);replace HN:=Lib.hid (RunsAt.kept HN.out hb);replace HB:=Lib.hid (bch' HB.out hb);clear hb;obtain ⟨k0,k1,k2,k3,kf0,kf1,kf2,kf3⟩:=HK.out.c4))
    go_upto_region 8 with (first | (with_reducible refine ((HP1.out _ HE.out HN.out).mono ?_);rintro e w' ⟨v1,rfl,hp,hb⟩;have HV1:=Lib.hid hp;clear hp;replace HK:=Lib.hid (HK.out.keep hb);clear k0 k1 k2 k3 kf0 kf1 kf2 kf3;replace HE:=Lib.hid (EfsAt.kept HE.out hb);replace HN:=Lib.hid (RunsAt.kept HN.out hb);replace HB:=Lib.hid (bch' HB.out hb);clear hb;obtain ⟨k0,k1,k2,k3,kf0,kf1,kf2,kf3⟩:=HK.out.c4))
    go_upto_region 9 with (first | (with_reducible refine ((HP2.out _ HE.out HN.out).mono ?_);rintro e w' ⟨v2,rfl,hp,hb⟩;have HV2:=Lib.hid hp;clear hp;replace HK:=Lib.hid (HK.out.keep hb);clear k0 k1 k2 k3 kf0 kf1 kf2 kf3;replace HE:=Lib.hid (EfsAt.kept HE.out hb);replace HN:=Lib.hid (RunsAt.kept HN.out hb);replace HV1:=Lib.hid (ParsAt.kept HV1.out hb);replace HB:=Lib.hid (bch' HB.out hb);clear hb;obtain ⟨k0,k1,k2,k3,kf0,kf1,kf2,kf3⟩:=HK.out.c4))
    go_wp2_with (first | (with_reducible refine ((HAW.out _ (ENV.out.below HB.out)).mono ?_);rintro e w' ⟨rfl,hb⟩;replace HK:=Lib.hid (HK.out.keep hb);clear k0 k1 k2 k3 kf0 kf1 kf2 kf3;replace HE:=Lib.hid (EfsAt.kept HE.out hb);replace HN:=Lib.hid (RunsAt.kept HN.out hb);replace HV1:=Lib.hid (ParsAt.kept HV1.out hb);replace HV2:=Lib.hid (ParsAt.kept HV2.out hb);replace HB:=Lib.hid (bch' HB.out hb);clear hb;obtain ⟨k0,k1,k2,k3,kf0,kf1,kf2,kf3⟩:=HK.out.c4) | (with_reducible refine ((HQ.out _ _ _ HV1.out HV2.out).mono ?_);rintro e w' ⟨rfl,hb⟩;replace HK:=Lib.hid (HK.out.keep hb);clear k0 k1 k2 k3 kf0 kf1 kf2 kf3;replace HE:=Lib.hid (EfsAt.kept HE.out hb);replace HN:=Lib.hid (RunsAt.kept HN.out hb);replace HV1:=Lib.hid (ParsAt.kept HV1.out hb);replace HV2:=Lib.hid (ParsAt.kept HV2.out hb);replace HB:=Lib.hid (bch' HB.out hb);clear hb;obtain ⟨k0,k1,k2,k3,kf0,kf1,kf2,kf3⟩:=HK.out.c4))
    go_ret
    exact ⟨rfl,HB.out⟩
  · have hff:fewB nv R = false:=by simpa using hfb
    rw [hff] at HFW
    go_enter Tryz.func4,Tryz.ntmps4
    go_wp2_with (first | (with_reducible refine ((HFW.out _ HN.out).mono ?_);rintro e w' ⟨rfl,rfl⟩) | (with_reducible refine ((HAW.out _ (ENV.out.below HB.out)).mono ?_);rintro e w' ⟨rfl,hb⟩;replace HK:=Lib.hid (HK.out.keep hb);clear k0 k1 k2 k3 kf0 kf1 kf2 kf3;replace HE:=Lib.hid (EfsAt.kept HE.out hb);replace HN:=Lib.hid (RunsAt.kept HN.out hb);replace HB:=Lib.hid (bch' HB.out hb);clear hb;obtain ⟨k0,k1,k2,k3,kf0,kf1,kf2,kf3⟩:=HK.out.c4))
    go_ret
    exact ⟨rfl,HB.out⟩
end Go.Proofs.YtbeojahilbglcaaGreatDoor

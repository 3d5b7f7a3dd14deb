/-
  
-/
import Derived.Test.YtbeojahilbglcaaGreatDoorQdYs
import Derived.Laws.StructEq
import Derived.Test.YtbeojahilbglcaaGreatDoorQdYk
import Derived.Test.YtbeojahilbglcaaGreatDoorQdLr
import Derived.Test.YtbeojahilbglcaaGreatDoorQdZt
import Derived.Test.YtbeojahilbglcaaGreatDoorQdZo
set_option linter.unusedVariables false
set_option linter.unusedSimpArgs false
namespace Go.Proofs.YtbeojahilbglcaaGreatDoor
open Go.RowKit Go.Shelf Lum
open Go.Lib (decDigits itoa)
attribute [local go_sem] bs_get bs_extract_end bs_extract_from bs_extract bs_append
end Go.Proofs.YtbeojahilbglcaaGreatDoor
set_option maxRecDepth 100000
set_option maxHeartbeats 4000000
namespace Lum
open Go Go.RowKit Go.Shelf
open Go.Lib (decDigits itoa)
theorem fst_atF {α β:Type} {L:List (α × β)} {R:List α} (hM:L.map (fun x => x.1) = R) {k:Nat} (h1:k < L.length) (h2:k < R.length):R[k]'h2 = (L[k]'h1).1:=by subst hM;rw [List.getElem_map]
def fewC (x:Rnx):Bool:=!decide (8 < x.cs.length ∧ x.cs.length ≤ 256)
def fewB (n:Nat) (R:List Rnx):Bool:=!decide (4 < n ∧ n ≤ 16) && (!decide (4 < R.length ∧ R.length ≤ 16) && (R.take 4).all fewC)
theorem fewB_n {n:Nat} {R:List Rnx} (h:4 < n ∧ n ≤ 16):fewB n R = false:=by unfold fewB;rw [decide_eq_true h];rfl
theorem fewB_r {n:Nat} {R:List Rnx} (h0:¬ (4 < n ∧ n ≤ 16)) (h:4 < R.length ∧ R.length ≤ 16):fewB n R = false:=by unfold fewB;rw [decide_eq_false h0,decide_eq_true h];rfl
theorem fewB_c {n:Nat} {R:List Rnx} (h0:¬ (4 < n ∧ n ≤ 16)) (h:¬ (4 < R.length ∧ R.length ≤ 16)):fewB n R = (R.take 4).all fewC:=by unfold fewB;rw [decide_eq_false h0,decide_eq_false h];rfl
theorem few_all {R:List Rnx} {k:Nat} (hk:k = R.length ∨ 4 ≤ k) (h:∀ j (hj:j < R.length),j < k → fewC (R[j]'hj) = true):(R.take 4).all fewC = true:=List.all_eq_true.2 fun x hx => by
  obtain ⟨j,hj,h1,rfl⟩:=mem_take_at hx
  exact h j hj (by omega)
theorem few_bad {R:List Rnx} {k:Nat} (hk:k < R.length) (h4:k < 4) (h:fewC (R[k]'hk) = false):(R.take 4).all fewC = false:=List.all_eq_false.2 ⟨R[k]'hk,List.mem_take_iff_getElem.2 ⟨k,by omega,rfl⟩,by rw [h];decide⟩
def listIf (E:Int) (L:List Rnx):List Rnx:=if E = 0 then L else []
end Lum
namespace Go.Proofs.YtbeojahilbglcaaGreatDoor
open Go.RowKit Go.Shelf Lum
open Go.Lib (decDigits itoa)
attribute [local go_sem] bs_get bs_extract_end bs_extract_from bs_extract bs_append
theorem r28_few (R : List Rnx) (u : Value) (p : Option Addr) (m c : Nat) (w : World) (hr : RunsAt w u R) :
    Calls Tryz.prog 6 #[.slice p m c,u] w fun e w' => e = .returned (.bool (fewB m R)) ∧ w = w':=by
  obtain ⟨L,p2,c2,rfl,hM,hR,hC0⟩:=hr
  have hl:L.length = R.length:=by rw [← hM,List.length_map]
  have hv2:=Lib.hid hR;have HCN:=Lib.hid hC0;have HM:=Lib.hid hM;clear hR hC0 hM
  by_cases h1:4 < m ∧ m ≤ 16
  · rw [fewB_n h1]
    have hL1:(4:Int) < (m:Int):=by omega
    have hL2:(m:Int) ≤ 16:=by omega
    go_enter Tryz.func6,Tryz.ntmps6
    go_wp2_with fail
    go_ret
    exact ⟨rfl,rfl⟩
  · by_cases h7:4 < m
    · have hL1:(4:Int) < (m:Int):=by omega
      have hL2:¬ (m:Int) ≤ 16:=by omega
      by_cases h2:4 < R.length ∧ R.length ≤ 16
      · have hL3:(4:Int) < (L.length:Int):=by omega
        have hL4:(L.length:Int) ≤ 16:=by omega
        rw [fewB_r h1 h2]
        go_enter Tryz.func6,Tryz.ntmps6
        go_wp2_with fail
        go_ret
        exact ⟨rfl,rfl⟩
      · by_cases h6:4 < R.length
        · have hL3:(4:Int) < (L.length:Int):=by omega
          have hL4:¬ (L.length:Int) ≤ 16:=by omega
          rw [fewB_c h1 h2]
          go_enter Tryz.func6,Tryz.ntmps6
          go_wp2_with fail
          go_loopw [5] (fun s wr => ∃ k:Nat,s = .int .i64 (k:Int) ∧ w = wr ∧ k ≤ R.length ∧ Hid (∀ j (hj:j < R.length),j < k → fewC (R[j]'hj) = true)) (fun s _ => R.length - (intOf s).toNat)
          case atStart => exact ⟨0,rfl,rfl,by omega,Lib.hid (fun j hj h => absurd h (Nat.not_lt_zero _))⟩
          case round =>
            obtain ⟨k,rfl,rfl,h5,HF⟩:=hrel
            by_cases h3:k < R.length
            · have hlt:(k:Int) < (L.length:Int):=by omega
              by_cases h4:k < 4
              · have hkr:k < R.length:=by omega
                have hk4:(k:Int) < 4:=by omega
                have hkl:k < L.length:=by omega
                obtain ⟨b,o,rfl,hb,hC⟩:=hv2.out (fun h => by subst h;simp at hkl)
                obtain ⟨⟨x,q1,q2,q3⟩,hx⟩:∃ x,x = L[k]'hkl:=⟨_,rfl⟩
                have hcell:=hC k hkl
                rw [← hx] at hcell
                have hq:=(HCN.out _ (List.getElem_mem hkl)).1.len
                rw [← hx] at hq
                dsimp only at hq
                subst hq
                have hxr:R[k]'hkr = x:=(fst_atF HM.out hkl hkr).trans (by rw [← hx])
                have y1:=hcell 1 _ rfl
                have hk0:(0:Int) ≤ (k:Int):=by omega
                have hlt2:(k:Int) < (L.length:Int):=by omega
                clear hcell hC
                by_cases h8:8 < x.cs.length
                · by_cases h9:x.cs.length ≤ 256
                  · have HA:Hid ((R.take 4).all fewC = false):=Lib.hid (few_bad hkr h4 (by rw [hxr];unfold fewC;simp;omega))
                    have hl1:(8:Int) < (x.cs.length:Int):=by omega
                    have hl2:(x.cs.length:Int) ≤ 256:=by omega
                    clear hxr hx
                    go_wp2_with fail
                    go_ret
                    exact ⟨by rw [HA.out];rfl,rfl⟩
                  · have hl1:(8:Int) < (x.cs.length:Int):=by omega
                    have hl2:¬ (x.cs.length:Int) ≤ 256:=by omega
                    have HF2:Hid (∀ j (hj:j < R.length),j < k + 1 → fewC (R[j]'hj) = true):=Lib.hid (fun j hj h => by by_cases e:j = k;(subst e;rw [hxr];unfold fewC;simp;omega);exact HF.out j hj (by omega))
                    have hun:IntKind.i64.wrap ((k:Int) + 1) = (k:Int) + 1:=IntWalk.i64_in _ (by omega)
                    clear hxr hx
                    go_wp2_with fail
                    go_roundw
                    case rel => exact ⟨k + 1,by first | rfl | simp,by trivial,by omega,HF2⟩
                    case measure => first | (simp [intOf];done) | (simp [intOf];omega)
                · have hl1:¬ (8:Int) < (x.cs.length:Int):=by omega
                  have HF2:Hid (∀ j (hj:j < R.length),j < k + 1 → fewC (R[j]'hj) = true):=Lib.hid (fun j hj h => by by_cases e:j = k;(subst e;rw [hxr];unfold fewC;simp;omega);exact HF.out j hj (by omega))
                  have hun:IntKind.i64.wrap ((k:Int) + 1) = (k:Int) + 1:=IntWalk.i64_in _ (by omega)
                  clear hxr hx
                  go_wp2_with fail
                  go_roundw
                  case rel => exact ⟨k + 1,by first | rfl | simp,by trivial,by omega,HF2⟩
                  case measure => first | (simp [intOf];done) | (simp [intOf];omega)
              · have hk4:¬ (k:Int) < 4:=by omega
                have HA:Hid ((R.take 4).all fewC = true):=Lib.hid (few_all (k:=k) (by omega) HF.out)
                go_wp2_with fail
                go_ret
                exact ⟨by rw [HA.out];rfl,rfl⟩
            · have hlt:¬ (k:Int) < (L.length:Int):=by omega
              have HA:Hid ((R.take 4).all fewC = true):=Lib.hid (few_all (k:=k) (by omega) HF.out)
              go_wp2_with fail
              go_ret
              exact ⟨by rw [HA.out];rfl,rfl⟩
        · have hL3:¬ (4:Int) < (L.length:Int):=by omega
          rw [fewB_c h1 h2]
          go_enter Tryz.func6,Tryz.ntmps6
          go_wp2_with fail
          go_loopw [5] (fun s wr => ∃ k:Nat,s = .int .i64 (k:Int) ∧ w = wr ∧ k ≤ R.length ∧ Hid (∀ j (hj:j < R.length),j < k → fewC (R[j]'hj) = true)) (fun s _ => R.length - (intOf s).toNat)
          case atStart => exact ⟨0,rfl,rfl,by omega,Lib.hid (fun j hj h => absurd h (Nat.not_lt_zero _))⟩
          case round =>
            obtain ⟨k,rfl,rfl,h5,HF⟩:=hrel
            by_cases h3:k < R.length
            · have hlt:(k:Int) < (L.length:Int):=by omega
              by_cases h4:k < 4
              · have hkr:k < R.length:=by omega
                have hk4:(k:Int) < 4:=by omega
                have hkl:k < L.length:=by omega
                obtain ⟨b,o,rfl,hb,hC⟩:=hv2.out (fun h => by subst h;simp at hkl)
                obtain ⟨⟨x,q1,q2,q3⟩,hx⟩:∃ x,x = L[k]'hkl:=⟨_,rfl⟩
                have hcell:=hC k hkl
                rw [← hx] at hcell
                have hq:=(HCN.out _ (List.getElem_mem hkl)).1.len
                rw [← hx] at hq
                dsimp only at hq
                subst hq
                have hxr:R[k]'hkr = x:=(fst_atF HM.out hkl hkr).trans (by rw [← hx])
                have y1:=hcell 1 _ rfl
                have hk0:(0:Int) ≤ (k:Int):=by omega
                have hlt2:(k:Int) < (L.length:Int):=by omega
                clear hcell hC
                by_cases h8:8 < x.cs.length
                · by_cases h9:x.cs.length ≤ 256
                  · have HA:Hid ((R.take 4).all fewC = false):=Lib.hid (few_bad hkr h4 (by rw [hxr];unfold fewC;simp;omega))
                    have hl1:(8:Int) < (x.cs.length:Int):=by omega
                    have hl2:(x.cs.length:Int) ≤ 256:=by omega
                    clear hxr hx
                    go_wp2_with fail
                    go_ret
                    exact ⟨by rw [HA.out];rfl,rfl⟩
                  · have hl1:(8:Int) < (x.cs.length:Int):=by omega
                    have hl2:¬ (x.cs.length:Int) ≤ 256:=by omega
                    have HF2:Hid (∀ j (hj:j < R.length),j < k + 1 → fewC (R[j]'hj) = true):=Lib.hid (fun j hj h => by by_cases e:j = k;(subst e;rw [hxr];unfold fewC;simp;omega);exact HF.out j hj (by omega))
                    have hun:IntKind.i64.wrap ((k:Int) + 1) = (k:Int) + 1:=IntWalk.i64_in _ (by omega)
                    clear hxr hx
                    go_wp2_with fail
                    go_roundw
                    case rel => exact ⟨k + 1,by first | rfl | simp,by trivial,by omega,HF2⟩
                    case measure => first | (simp [intOf];done) | (simp [intOf];omega)
                · have hl1:¬ (8:Int) < (x.cs.length:Int):=by omega
                  have HF2:Hid (∀ j (hj:j < R.length),j < k + 1 → fewC (R[j]'hj) = true):=Lib.hid (fun j hj h => by by_cases e:j = k;(subst e;rw [hxr];unfold fewC;simp;omega);exact HF.out j hj (by omega))
                  have hun:IntKind.i64.wrap ((k:Int) + 1) = (k:Int) + 1:=IntWalk.i64_in _ (by omega)
                  clear hxr hx
                  go_wp2_with fail
                  go_roundw
                  case rel => exact ⟨k + 1,by first | rfl | simp,by trivial,by omega,HF2⟩
                  case measure => first | (simp [intOf];done) | (simp [intOf];omega)
              · have hk4:¬ (k:Int) < 4:=by omega
                have HA:Hid ((R.take 4).all fewC = true):=Lib.hid (few_all (k:=k) (by omega) HF.out)
                go_wp2_with fail
                go_ret
                exact ⟨by rw [HA.out];rfl,rfl⟩
            · have hlt:¬ (k:Int) < (L.length:Int):=by omega
              have HA:Hid ((R.take 4).all fewC = true):=Lib.hid (few_all (k:=k) (by omega) HF.out)
              go_wp2_with fail
              go_ret
              exact ⟨by rw [HA.out];rfl,rfl⟩
    · have hL1:¬ (4:Int) < (m:Int):=by omega
      by_cases h2:4 < R.length ∧ R.length ≤ 16
      · have hL3:(4:Int) < (L.length:Int):=by omega
        have hL4:(L.length:Int) ≤ 16:=by omega
        rw [fewB_r h1 h2]
        go_enter Tryz.func6,Tryz.ntmps6
        go_wp2_with fail
        go_ret
        exact ⟨rfl,rfl⟩
      · by_cases h6:4 < R.length
        · have hL3:(4:Int) < (L.length:Int):=by omega
          have hL4:¬ (L.length:Int) ≤ 16:=by omega
          rw [fewB_c h1 h2]
          go_enter Tryz.func6,Tryz.ntmps6
          go_wp2_with fail
          go_loopw [5] (fun s wr => ∃ k:Nat,s = .int .i64 (k:Int) ∧ w = wr ∧ k ≤ R.length ∧ Hid (∀ j (hj:j < R.length),j < k → fewC (R[j]'hj) = true)) (fun s _ => R.length - (intOf s).toNat)
          case atStart => exact ⟨0,rfl,rfl,by omega,Lib.hid (fun j hj h => absurd h (Nat.not_lt_zero _))⟩
          case round =>
            obtain ⟨k,rfl,rfl,h5,HF⟩:=hrel
            by_cases h3:k < R.length
            · have hlt:(k:Int) < (L.length:Int):=by omega
              by_cases h4:k < 4
              · have hkr:k < R.length:=by omega
                have hk4:(k:Int) < 4:=by omega
                have hkl:k < L.length:=by omega
                obtain ⟨b,o,rfl,hb,hC⟩:=hv2.out (fun h => by subst h;simp at hkl)
                obtain ⟨⟨x,q1,q2,q3⟩,hx⟩:∃ x,x = L[k]'hkl:=⟨_,rfl⟩
                have hcell:=hC k hkl
                rw [← hx] at hcell
                have hq:=(HCN.out _ (List.getElem_mem hkl)).1.len
                rw [← hx] at hq
                dsimp only at hq
                subst hq
                have hxr:R[k]'hkr = x:=(fst_atF HM.out hkl hkr).trans (by rw [← hx])
                have y1:=hcell 1 _ rfl
                have hk0:(0:Int) ≤ (k:Int):=by omega
                have hlt2:(k:Int) < (L.length:Int):=by omega
                clear hcell hC
                by_cases h8:8 < x.cs.length
                · by_cases h9:x.cs.length ≤ 256
                  · have HA:Hid ((R.take 4).all fewC = false):=Lib.hid (few_bad hkr h4 (by rw [hxr];unfold fewC;simp;omega))
                    have hl1:(8:Int) < (x.cs.length:Int):=by omega
                    have hl2:(x.cs.length:Int) ≤ 256:=by omega
                    clear hxr hx
                    go_wp2_with fail
                    go_ret
                    exact ⟨by rw [HA.out];rfl,rfl⟩
                  · have hl1:(8:Int) < (x.cs.length:Int):=by omega
                    have hl2:¬ (x.cs.length:Int) ≤ 256:=by omega
                    have HF2:Hid (∀ j (hj:j < R.length),j < k + 1 → fewC (R[j]'hj) = true):=Lib.hid (fun j hj h => by by_cases e:j = k;(subst e;rw [hxr];unfold fewC;simp;omega);exact HF.out j hj (by omega))
                    have hun:IntKind.i64.wrap ((k:Int) + 1) = (k:Int) + 1:=IntWalk.i64_in _ (by omega)
                    clear hxr hx
                    go_wp2_with fail
                    go_roundw
                    case rel => exact ⟨k + 1,by first | rfl | simp,by trivial,by omega,HF2⟩
                    case measure => first | (simp [intOf];done) | (simp [intOf];omega)
                · have hl1:¬ (8:Int) < (x.cs.length:Int):=by omega
                  have HF2:Hid (∀ j (hj:j < R.length),j < k + 1 → fewC (R[j]'hj) = true):=Lib.hid (fun j hj h => by by_cases e:j = k;(subst e;rw [hxr];unfold fewC;simp;omega);exact HF.out j hj (by omega))
                  have hun:IntKind.i64.wrap ((k:Int) + 1) = (k:Int) + 1:=IntWalk.i64_in _ (by omega)
                  clear hxr hx
                  go_wp2_with fail
                  go_roundw
                  case rel => exact ⟨k + 1,by first | rfl | simp,by trivial,by omega,HF2⟩
                  case measure => first | (simp [intOf];done) | (simp [intOf];omega)
              · have hk4:¬ (k:Int) < 4:=by omega
                have HA:Hid ((R.take 4).all fewC = true):=Lib.hid (few_all (k:=k) (by omega) HF.out)
                go_wp2_with fail
                go_ret
                exact ⟨by rw [HA.out];rfl,rfl⟩
            · have hlt:¬ (k:Int) < (L.length:Int):=by omega
              have HA:Hid ((R.take 4).all fewC = true):=Lib.hid (few_all (k:=k) (by omega) HF.out)
              go_wp2_with fail
              go_ret
              exact ⟨by rw [HA.out];rfl,rfl⟩
        · have hL3:¬ (4:Int) < (L.length:Int):=by omega
          rw [fewB_c h1 h2]
          go_enter Tryz.func6,Tryz.ntmps6
          go_wp2_with fail
          go_loopw [5] (fun s wr => ∃ k:Nat,s = .int .i64 (k:Int) ∧ w = wr ∧ k ≤ R.length ∧ Hid (∀ j (hj:j < R.length),j < k → fewC (R[j]'hj) = true)) (fun s _ => R.length - (intOf s).toNat)
          case atStart => exact ⟨0,rfl,rfl,by omega,Lib.hid (fun j hj h => absurd h (Nat.not_lt_zero _))⟩
          case round =>
            obtain ⟨k,rfl,rfl,h5,HF⟩:=hrel
            by_cases h3:k < R.length
            · have hlt:(k:Int) < (L.length:Int):=by omega
              by_cases h4:k < 4
              · have hkr:k < R.length:=by omega
                have hk4:(k:Int) < 4:=by omega
                have hkl:k < L.length:=by omega
                obtain ⟨b,o,rfl,hb,hC⟩:=hv2.out (fun h => by subst h;simp at hkl)
                obtain ⟨⟨x,q1,q2,q3⟩,hx⟩:∃ x,x = L[k]'hkl:=⟨_,rfl⟩
                have hcell:=hC k hkl
                rw [← hx] at hcell
                have hq:=(HCN.out _ (List.getElem_mem hkl)).1.len
                rw [← hx] at hq
                dsimp only at hq
                subst hq
                have hxr:R[k]'hkr = x:=(fst_atF HM.out hkl hkr).trans (by rw [← hx])
                have y1:=hcell 1 _ rfl
                have hk0:(0:Int) ≤ (k:Int):=by omega
                have hlt2:(k:Int) < (L.length:Int):=by omega
                clear hcell hC
                by_cases h8:8 < x.cs.length
                · by_cases h9:x.cs.length ≤ 256
                  · have HA:Hid ((R.take 4).all fewC = false):=Lib.hid (few_bad hkr h4 (by rw [hxr];unfold fewC;simp;omega))
                    have hl1:(8:Int) < (x.cs.length:Int):=by omega
                    have hl2:(x.cs.length:Int) ≤ 256:=by omega
                    clear hxr hx
                    go_wp2_with fail
                    go_ret
                    exact ⟨by rw [HA.out];rfl,rfl⟩
                  · have hl1:(8:Int) < (x.cs.length:Int):=by omega
                    have hl2:¬ (x.cs.length:Int) ≤ 256:=by omega
                    have HF2:Hid (∀ j (hj:j < R.length),j < k + 1 → fewC (R[j]'hj) = true):=Lib.hid (fun j hj h => by by_cases e:j = k;(subst e;rw [hxr];unfold fewC;simp;omega);exact HF.out j hj (by omega))
                    have hun:IntKind.i64.wrap ((k:Int) + 1) = (k:Int) + 1:=IntWalk.i64_in _ (by omega)
                    clear hxr hx
                    go_wp2_with fail
                    go_roundw
                    case rel => exact ⟨k + 1,by first | rfl | simp,by trivial,by omega,HF2⟩
                    case measure => first | (simp [intOf];done) | (simp [intOf];omega)
                · have hl1:¬ (8:Int) < (x.cs.length:Int):=by omega
                  have HF2:Hid (∀ j (hj:j < R.length),j < k + 1 → fewC (R[j]'hj) = true):=Lib.hid (fun j hj h => by by_cases e:j = k;(subst e;rw [hxr];unfold fewC;simp;omega);exact HF.out j hj (by omega))
                  have hun:IntKind.i64.wrap ((k:Int) + 1) = (k:Int) + 1:=IntWalk.i64_in _ (by omega)
                  clear hxr hx
                  go_wp2_with fail
                  go_roundw
                  case rel => exact ⟨k + 1,by first | rfl | simp,by trivial,by omega,HF2⟩
                  case measure => first | (simp [intOf];done) | (simp [intOf];omega)
              · have hk4:¬ (k:Int) < 4:=by omega
                have HA:Hid ((R.take 4).all fewC = true):=Lib.hid (few_all (k:=k) (by omega) HF.out)
                go_wp2_with fail
                go_ret
                exact ⟨by rw [HA.out];rfl,rfl⟩
            · have hlt:¬ (k:Int) < (L.length:Int):=by omega
              have HA:Hid ((R.take 4).all fewC = true):=Lib.hid (few_all (k:=k) (by omega) HF.out)
              go_wp2_with fail
              go_ret
              exact ⟨by rw [HA.out];rfl,rfl⟩
end Go.Proofs.YtbeojahilbglcaaGreatDoor
namespace Lum
open Go Go.RowKit Go.Shelf
open Go.Lib (decDigits itoa)
theorem parE_short (L:List Efx) (R:List Rnx):(parE L R).length ≤ 1000000:=by
  unfold parE
  by_cases h:boE L R = 0
  · rw [if_pos h]
    have h2:rnsE R = 0:=by by_cases h1:efsE L = 0;(rw [boE_rn h1] at h;exact h);(rw [boE_ef h1] at h;exact absurd h h1)
    have hok:=ordOk (show ordE rnE (·.ef) R = 0 from h2)
    have h1:=putsP_len (movedL L R)
    have h3:=movedL_few (L:=L) hok R.length
    rw [List.take_length] at h3
    unfold parL
    omega
  · rw [if_neg h];simp
end Lum
namespace Go.Proofs.YtbeojahilbglcaaGreatDoor
open Go.RowKit Go.Shelf Lum
open Go.Lib (decDigits itoa)
attribute [local go_sem] bs_get bs_extract_end bs_extract_from bs_extract bs_append
end Go.Proofs.YtbeojahilbglcaaGreatDoor
set_option maxRecDepth 100000
set_option maxHeartbeats 8000000
namespace Lum
open Go Go.RowKit Go.Shelf
open Go.Lib (decDigits itoa)
theorem ordOk_filter {α:Type} {err key:α → Int} {l:List α} (h:OrdOk err key l) (p:α → Bool):OrdOk err key (l.filter p):=by
  refine ⟨Nat.le_trans (List.length_filter_le _ _) h.few,fun j hj => ?_,h.asc.filter p⟩
  obtain ⟨i,hi,he⟩:=List.getElem_of_mem (List.mem_filter.1 (List.getElem_mem hj)).1
  rw [← he];exact h.ok i hi
def rightB (n:Nat) (L:List Efx) (R:List Rnx) (t ch a:Int):Bool:=fewB n R && (decide (efsE L = 0) && (decide (rnsE R = 0) && (decide (paE ch a = 0) && (wiB t 0 10000000 && R.all (fun x => !decide (t < x.cl))))))
theorem rightB_few {n:Nat} {L:List Efx} {R:List Rnx} {t ch a:Int} (h:fewB n R = false):rightB n L R t ch a = false:=by unfold rightB;rw [h];rfl
theorem rightB_ef {n:Nat} {L:List Efx} {R:List Rnx} {t ch a:Int} (h:¬ efsE L = 0):rightB n L R t ch a = false:=by unfold rightB;rw [decide_eq_false h];simp
theorem rightB_rn {n:Nat} {L:List Efx} {R:List Rnx} {t ch a:Int} (h:¬ rnsE R = 0):rightB n L R t ch a = false:=by unfold rightB;rw [decide_eq_false h];simp
theorem rightB_pa {n:Nat} {L:List Efx} {R:List Rnx} {t ch a:Int} (h:¬ paE ch a = 0):rightB n L R t ch a = false:=by unfold rightB;rw [decide_eq_false h];simp
theorem rightB_t {n:Nat} {L:List Efx} {R:List Rnx} {t ch a:Int} (h:wiB t 0 10000000 = false):rightB n L R t ch a = false:=by unfold rightB;rw [h];simp
theorem rightB_bad {n:Nat} {L:List Efx} {R:List Rnx} {t ch a:Int} {k:Nat} (hk:k < R.length) (h:t < (R[k]'hk).cl):rightB n L R t ch a = false:=by
  have:R.all (fun x => !decide (t < x.cl)) = false:=List.all_eq_false.2 ⟨R[k]'hk,List.getElem_mem hk,by rw [decide_eq_true h];decide⟩
  unfold rightB;rw [this];simp
theorem rightB_ok {n:Nat} {L:List Efx} {R:List Rnx} {t ch a:Int} (h1:fewB n R = true) (h2:efsE L = 0) (h3:rnsE R = 0) (h4:paE ch a = 0) (h5:wiB t 0 10000000 = true) (h6:∀ j (hj:j < R.length),¬ t < (R[j]'hj).cl):rightB n L R t ch a = true:=by
  have:R.all (fun x => !decide (t < x.cl)) = true:=List.all_eq_true.2 fun x hx => by
    obtain ⟨i,hi,rfl⟩:=List.getElem_of_mem hx
    rw [decide_eq_false (h6 i hi)];rfl
  unfold rightB;rw [h1,h2,h3,h4,h5,this];rfl
theorem right_facts {n:Nat} {L:List Efx} {R:List Rnx} {t ch a:Int} (h:rightB n L R t ch a = true):OrdOk efE (·.nu) L ∧ OrdOk rnE (·.ef) R ∧ paE ch a = 0 ∧ (∀ x ∈ R,moE x.ce x.cr x.cd x.cl t = 0):=by
  unfold rightB at h
  simp only [Bool.and_eq_true,decide_eq_true_eq] at h
  obtain ⟨-,h1,h2,h3,h4,h5⟩:=h
  have hR:=ordOk (show ordE rnE (·.ef) R = 0 from h2)
  refine ⟨ordOk (show ordE efE (·.nu) L = 0 from h1),hR,h3,fun x hx => ?_⟩
  have hl:=List.all_eq_true.1 h5 x hx
  obtain ⟨i,hi,rfl⟩:=List.getElem_of_mem hx
  have hk:=(rnOk (hR.ok i hi)).ck
  unfold moE
  rw [if_neg (by rw [hk];decide),if_neg (by rw [h4];decide),if_neg (by simpa using hl)]
theorem pbE_right {L:List Efx} {R:List Rnx} {ch a:Int} (hL:OrdOk efE (·.nu) L) (hR:OrdOk rnE (·.ef) R) (hp:paE ch a = 0):pbE L R ch a = 0:=by
  rw [pbE_pa (by rw [boE_rn (show efsE L = 0 from ordE_of hL)];exact ordE_of hR)];exact hp
theorem boE_right {L:List Efx} {R:List Rnx} (hL:OrdOk efE (·.nu) L) (hR:OrdOk rnE (·.ef) R):boE L R = 0:=by rw [boE_rn (show efsE L = 0 from ordE_of hL)];exact ordE_of hR
theorem suE_right {L:List Efx} {R:List Rnx} {t ch a:Int} (hL:OrdOk efE (·.nu) L) (hR:OrdOk rnE (·.ef) R) (hp:paE ch a = 0) (hm:∀ x ∈ R,moE x.ce x.cr x.cd x.cl t = 0):suE L R t ch a = (showR (sumQ L R t ch a),0):=suE_ok (pbE_right hL hR hp) (atF_zero hm)
theorem ofE_right {L:List Efx} {R:List Rnx} {n t ch a:Int} (hL:OrdOk efE (·.nu) L) (hR:OrdOk rnE (·.ef) R) (hp:paE ch a = 0) (hm:∀ x ∈ R,moE x.ce x.cr x.cd x.cl t = 0):ofE L R n t ch a = (showR (ownQ L R n t ch a),0):=by
  unfold ownQ
  cases h:R.find? (fun x => x.ef == n) with
  | none => rw [ofE_no (pbE_right hL hR hp) h];show ([48],(0:Int)) = (showR 0,0);rw [showR_zero]
  | some x => rw [ofE_at (pbE_right hL hR hp) h,tolT_ok (hm x (List.mem_of_find?_eq_some h))]
theorem ownQ_fits {L:List Efx} {R:List Rnx} {n t ch a:Int} (hL:OrdOk efE (·.nu) L) (hR:OrdOk rnE (·.ef) R) (hm:∀ x ∈ R,moE x.ce x.cr x.cd x.cl t = 0):Fits 1000 (ownQ L R n t ch a):=by
  unfold ownQ
  cases h:R.find? (fun x => x.ef == n) with
  | none => show Fits 1000 ((0:Int):Rat);exact (fits_i64 0 (by decide) (by decide)).mono (by omega)
  | some x =>
    have hx:=List.mem_of_find?_eq_some h
    have h2:=hm x hx
    obtain ⟨i,hi,rfl⟩:=List.getElem_of_mem hx
    exact (toldQ_fits hL (rnOk (hR.ok i hi)) h2).mono (by omega)
theorem sumQ_fitsA {L:List Efx} {R:List Rnx} {t ch a:Int} (hL:OrdOk efE (·.nu) L) (hR:OrdOk rnE (·.ef) R) (hm:∀ x ∈ R,moE x.ce x.cr x.cd x.cl t = 0) (k:Nat) (hk:k ≤ R.length):Fits 1000 (sumQ L (R.take k) t ch a):=sumQ_fits1 hL hR hk (fun j hj _ => hm _ (List.getElem_mem hj))
theorem ownQ_self {L:List Efx} {R:List Rnx} {t ch a:Int} (hR:OrdOk rnE (·.ef) R) {i:Nat} (hi:i < R.length):ownQ L R (R[i]'hi).ef t ch a = toldQ L (R[i]'hi) t ch a:=by unfold ownQ;rw [find_self hR.asc hi]
theorem check_fits {x:Rat} (h:Fits 1000 x):ratCheck (showR x) = 0:=ratCheck_showR x ((fit_fits x).2 (h.mono (by omega)))
theorem len_fits {x:Rat} (h:Fits 1000 x):(showR x).length ≤ 100000:=by have:=showR_len x 1000 h;omega
end Lum
namespace Go.Proofs.YtbeojahilbglcaaGreatDoor
open Go.RowKit Go.Shelf Lum
open Go.Lib (decDigits itoa)
attribute [local go_sem] bs_get bs_extract_end bs_extract_from bs_extract bs_append
theorem l28_right (L : List Efx) (R : List Rnx) (pv : Option Addr) (nv cv : Nat) (u : Value) (T N C A : Int) (w : World) (hl : EfsAt w (.slice pv nv cv) L) (hr : RunsAt w u R) :
    Calls Tryz.prog 24 #[.slice pv nv cv,u,.agg #[.int .i64 T,.int .i64 N,.int .i64 C,.int .i64 A]] w fun e w' => e = .returned (.bool (rightB nv L R T C A)) ∧ Below w.heap.size w w':=by
  obtain ⟨bbb,hbbb⟩:∃ b,b = rightB nv L R T C A:=⟨_,rfl⟩
  rw [← hbbb]
  have HBB:=Lib.hid hbbb;clear hbbb
  have hr0:=hr
  obtain ⟨M,pr,cr,rfl,hM,hMR,hMC⟩:=hr0
  have HL:Hid (M.length = R.length):=Lib.hid (by rw [← hM,List.length_map])
  have HM1:=Lib.hid hM;have HR1:=Lib.hid hMR;have HH1:=Lib.hid hMC
  clear hM hMR hMC
  have hfw:=fun W (h:RunsAt W (.slice pr M.length cr) R) => r28_few R (.slice pr M.length cr) pv nv cv W h
  have hc:=fun W (h:EfsAt W (.slice pv nv cv) L) => r28_check L (.slice pv nv cv) W h
  have hrr:=fun W (h:RunsAt W (.slice pr M.length cr) R) => r28_runs R (.slice pr M.length cr) W h
  change ∀ W,EfsAt W (.slice pv nv cv) L → Calls _ _ _ _ (fun e w' => e = .returned (.int .i64 (efsE L)) ∧ _) at hc
  change ∀ W,RunsAt W (.slice pr M.length cr) R → Calls _ _ _ _ (fun e w' => e = .returned (.int .i64 (rnsE R)) ∧ _) at hrr
  have hp:=fun W => r15_paE C A W
  have hti:=fun W => r23_time T W
  have HFW:=Lib.hid hfw;have HC:=Lib.hid hc;have HR:=Lib.hid hrr;have HP:=Lib.hid hp;have HTI:=Lib.hid hti
  clear hfw hc hrr hp hti
  have hal:=(Below.refl w.heap.size w).alloc (Nat.le_refl _) (.cells #[.int .i64 T,.int .i64 N,.int .i64 C,.int .i64 A] 47)
  have HE1:=Lib.hid (EfsAt.kept hl hal);have HN1:=Lib.hid (RunsAt.kept hr hal)
  have HB0:=Lib.hid hal
  have HK1:=Lib.hid (Blk.new w 47 #[.int .i64 T,.int .i64 N,.int .i64 C,.int .i64 A])
  clear hal hl hr
  go_enter Tryz.func24,Tryz.ntmps24
  go_upto_region 1 with fail
  obtain ⟨W2,hW2⟩:∃ X,X = w.alloc (.cells #[.int .i64 T,.int .i64 N,.int .i64 C,.int .i64 A] 47):=⟨_,rfl⟩
  rw [← hW2] at HE1 HN1 HB0 HK1 ⊢
  clear hW2
  have HB:=Lib.hid (Below.refl W2.heap.size W2)
  have HK:=Lib.hid HK1.out;have HE:=Lib.hid HE1.out;have HN:=Lib.hid HN1.out
  obtain ⟨k0,k1,k2,k3,kf0,kf1,kf2,kf3⟩:=HK.out.c4
  by_cases hfb:fewB nv R = true
  · by_cases h2:efsE L = 0
    · by_cases h3:rnsE R = 0
      · by_cases h4:paE C A = 0
        · by_cases h5:wiB T 0 10000000 = true
          · have HOK:Hid ((∀ j (hj:j < R.length),¬ T < (R[j]'hj).cl) → rightB nv L R T C A = true):=Lib.hid (rightB_ok hfb h2 h3 h4 h5)
            have HFEWR:Hid (R.length ≤ 16):=Lib.hid (ordOk (show ordE rnE (·.ef) R = 0 from h3)).few
            rw [hfb] at HFW
            rw [h2] at HC
            rw [h3] at HR
            rw [h4] at HP
            rw [h5] at HTI
            clear hfb h2 h3 h4 h5
            go_wp2_with (first | (with_reducible refine ((HFW.out _ HN.out).mono ?_);rintro e w' ⟨rfl,rfl⟩) | (with_reducible refine ((HC.out _ HE.out).mono ?_);rintro e w' ⟨rfl,hb⟩;replace HK:=Lib.hid (HK.out.keep hb);clear k0 k1 k2 k3 kf0 kf1 kf2 kf3;replace HE:=Lib.hid (EfsAt.kept HE.out hb);replace HN:=Lib.hid (RunsAt.kept HN.out hb);replace HB:=Lib.hid (bch' HB.out hb);clear hb;obtain ⟨k0,k1,k2,k3,kf0,kf1,kf2,kf3⟩:=HK.out.c4) | (with_reducible refine ((HR.out _ HN.out).mono ?_);rintro e w' ⟨rfl,hb⟩;replace HK:=Lib.hid (HK.out.keep hb);clear k0 k1 k2 k3 kf0 kf1 kf2 kf3;replace HE:=Lib.hid (EfsAt.kept HE.out hb);replace HN:=Lib.hid (RunsAt.kept HN.out hb);replace HB:=Lib.hid (bch' HB.out hb);clear hb;obtain ⟨k0,k1,k2,k3,kf0,kf1,kf2,kf3⟩:=HK.out.c4) | (with_reducible refine ((HP.out _).mono ?_);rintro e w' ⟨rfl,hb⟩;replace HK:=Lib.hid (HK.out.keep hb);clear k0 k1 k2 k3 kf0 kf1 kf2 kf3;replace HE:=Lib.hid (EfsAt.kept HE.out hb);replace HN:=Lib.hid (RunsAt.kept HN.out hb);replace HB:=Lib.hid (bch' HB.out hb);clear hb;obtain ⟨k0,k1,k2,k3,kf0,kf1,kf2,kf3⟩:=HK.out.c4) | (with_reducible refine ((HTI.out _).mono ?_);rintro e w' ⟨rfl,rfl⟩))
            go_loopw [37] (fun s wr => ∃ k:Nat,s = .int .i64 (k:Int) ∧ k ≤ R.length ∧ Hid (∀ j (hj:j < R.length),j < k → ¬ T < (R[j]'hj).cl) ∧ Hid (Below W2.heap.size W2 wr)) (fun s _ => R.length - (intOf s).toNat)
            case atStart => exact ⟨0,rfl,by omega,Lib.hid (fun j hj h => absurd h (Nat.not_lt_zero _)),HB⟩
            case round =>
              clear k0 k1 k2 k3 kf0 kf1 kf2 kf3
              clear HK HE HN
              obtain ⟨k,rfl,hk9,HF,HB2⟩:=hrel
              clear HB
              have HB:=HB2;clear HB2
              have HK:=Lib.hid (HK1.out.keep HB.out);have HE:=Lib.hid (EfsAt.kept HE1.out HB.out);have HN:=Lib.hid (RunsAt.kept HN1.out HB.out)
              obtain ⟨k0,k1,k2,k3,kf0,kf1,kf2,kf3⟩:=HK.out.c4
              by_cases hlt0:k < R.length
              · have hlm:k < M.length:=by have:=HL.out;omega
                obtain ⟨bb,oo,rfl,hbb,hCC⟩:=HR1.out (fun e => by subst e;simp at hlm)
                obtain ⟨⟨x,q1,q2,q3⟩,hq⟩:∃ y,y = M[k]'hlm:=⟨_,rfl⟩
                have hcell:=hCC k hlm
                rw [← hq] at hcell
                have hq2:=((HH1.out _ (List.getElem_mem hlm)).1).len
                rw [← hq] at hq2
                dsimp only at hq2
                subst hq2
                have hxr:R[k]'hlt0 = x:=(fst_atF HM1.out hlm hlt0).trans (by rw [← hq])
                have HBb:=Lib.hid hbb;have HXR:=Lib.hid hxr
                have y0:wr.cell? ⟨bb,oo + k * 6,none⟩ = some (.int .i64 x.ef):=((bch' HB0.out HB.out).cell (p:=⟨bb,oo + k * 6 + 0,none⟩) hbb).trans (hcell 0 _ rfl)
                have y1:wr.cell? ⟨bb,oo + k * 6 + 1,none⟩ = some (.slice q1 x.cs.length q3):=((bch' HB0.out HB.out).cell (p:=⟨bb,oo + k * 6 + 1,none⟩) hbb).trans (hcell 1 _ rfl)
                have y2:wr.cell? ⟨bb,oo + k * 6 + 2,none⟩ = some (.int .i64 x.ce):=((bch' HB0.out HB.out).cell (p:=⟨bb,oo + k * 6 + 2,none⟩) hbb).trans (hcell 2 _ rfl)
                have y3:wr.cell? ⟨bb,oo + k * 6 + 3,none⟩ = some (.int .i64 x.cr):=((bch' HB0.out HB.out).cell (p:=⟨bb,oo + k * 6 + 3,none⟩) hbb).trans (hcell 3 _ rfl)
                have y4:wr.cell? ⟨bb,oo + k * 6 + 4,none⟩ = some (.int .i64 x.cd):=((bch' HB0.out HB.out).cell (p:=⟨bb,oo + k * 6 + 4,none⟩) hbb).trans (hcell 4 _ rfl)
                have y5:wr.cell? ⟨bb,oo + k * 6 + 5,none⟩ = some (.int .i64 x.cl):=((bch' HB0.out HB.out).cell (p:=⟨bb,oo + k * 6 + 5,none⟩) hbb).trans (hcell 5 _ rfl)
                have hbr:bb < wr.heap.size:=Nat.lt_of_lt_of_le hbb (bch' HB0.out HB.out).size
                have hlt:(k:Int) < (M.length:Int):=by omega
                have hk0:(0:Int) ≤ (k:Int):=by omega
                have hlo:k * 6 < 9223372036854775807:=by have:=HFEWR.out;omega
                have hun:IntKind.i64.wrap ((k:Int) + 1) = (k:Int) + 1:=IntWalk.i64_in _ (by have:=HFEWR.out;omega)
                clear hcell hCC hq hbb hxr
                go_upto_region 6 with fail
                clear y0 y1 y2 y3 y4 y5 hbr
                have hb:=(Below.refl wr.heap.size wr).alloc (Nat.le_refl _) (.cells #[.int .i64 x.ef,.slice q1 x.cs.length q3,.int .i64 x.ce,.int .i64 x.cr,.int .i64 x.cd,.int .i64 x.cl] 68)
                have HX:=Lib.hid (Blk.new wr 68 #[.int .i64 x.ef,.slice q1 x.cs.length q3,.int .i64 x.ce,.int .i64 x.cr,.int .i64 x.cd,.int .i64 x.cl])
                obtain ⟨n8,hn8⟩:∃ n,n = wr.heap.size:=⟨_,rfl⟩
                obtain ⟨Wa,hWWa⟩:∃ X,X = wr.alloc (.cells #[.int .i64 x.ef,.slice q1 x.cs.length q3,.int .i64 x.ce,.int .i64 x.cr,.int .i64 x.cd,.int .i64 x.cl] 68):=⟨_,rfl⟩
                rw [← hn8] at HX ⊢
                rw [← hWWa] at hb HX ⊢
                replace HK:=Lib.hid (HK.out.keep hb);clear k0 k1 k2 k3 kf0 kf1 kf2 kf3;replace HE:=Lib.hid (EfsAt.kept HE.out hb);replace HN:=Lib.hid (RunsAt.kept HN.out hb);replace HB:=Lib.hid (bch' HB.out hb);clear hb;obtain ⟨k0,k1,k2,k3,kf0,kf1,kf2,kf3⟩:=HK.out.c4
                clear hWWa hn8
                obtain ⟨x0,x1,x2,x3,x4,x5,xf0,xf1,xf2,xf3,xf4,xf5⟩:=HX.out.c6
                by_cases hcl:T < x.cl
                · have HRB:Hid (bbb = false):=Lib.hid (HBB.out.trans (rightB_bad hlt0 (by rw [HXR.out];exact hcl)))
                  go_wp2_with fail
                  go_ret
                  exact ⟨by first | (rw [HRB.out];done) | (rw [HRB.out];rfl),bch' HB0.out HB.out⟩
                · have HF2:Hid (∀ j (hj:j < R.length),j < k + 1 → ¬ T < (R[j]'hj).cl):=Lib.hid (fun j hj h => by by_cases e:j = k;(subst e;rw [HXR.out];exact hcl);exact HF.out j hj (by omega))
                  go_wp2_with fail
                  go_roundw
                  case rel => exact ⟨k + 1,by first | rfl | simp,by omega,HF2,HB⟩
                  case measure => first | (simp [intOf];done) | (simp [intOf];omega)
              · have hlt:¬ (k:Int) < (M.length:Int):=by have:=HL.out;omega
                have HRB:Hid (bbb = true):=Lib.hid (HBB.out.trans (HOK.out (fun j hj => by have:=HF.out j hj (by omega);omega)))
                go_wp2_with fail
                go_ret
                exact ⟨by first | (rw [HRB.out];done) | (rw [HRB.out];rfl),bch' HB0.out HB.out⟩
          · have HRB:Hid (bbb = false):=Lib.hid (HBB.out.trans (rightB_t (by simpa using h5)))
            rw [hfb] at HFW
            rw [h2] at HC
            rw [h3] at HR
            rw [h4] at HP
            have h6:wiB T 0 10000000 = false:=by simpa using h5
            rw [h6] at HTI
            clear hfb h2 h3 h4 h5 h6
            go_wp2_with (first | (with_reducible refine ((HFW.out _ HN.out).mono ?_);rintro e w' ⟨rfl,rfl⟩) | (with_reducible refine ((HC.out _ HE.out).mono ?_);rintro e w' ⟨rfl,hb⟩;replace HK:=Lib.hid (HK.out.keep hb);clear k0 k1 k2 k3 kf0 kf1 kf2 kf3;replace HE:=Lib.hid (EfsAt.kept HE.out hb);replace HN:=Lib.hid (RunsAt.kept HN.out hb);replace HB:=Lib.hid (bch' HB.out hb);clear hb;obtain ⟨k0,k1,k2,k3,kf0,kf1,kf2,kf3⟩:=HK.out.c4) | (with_reducible refine ((HR.out _ HN.out).mono ?_);rintro e w' ⟨rfl,hb⟩;replace HK:=Lib.hid (HK.out.keep hb);clear k0 k1 k2 k3 kf0 kf1 kf2 kf3;replace HE:=Lib.hid (EfsAt.kept HE.out hb);replace HN:=Lib.hid (RunsAt.kept HN.out hb);replace HB:=Lib.hid (bch' HB.out hb);clear hb;obtain ⟨k0,k1,k2,k3,kf0,kf1,kf2,kf3⟩:=HK.out.c4) | (with_reducible refine ((HP.out _).mono ?_);rintro e w' ⟨rfl,hb⟩;replace HK:=Lib.hid (HK.out.keep hb);clear k0 k1 k2 k3 kf0 kf1 kf2 kf3;replace HE:=Lib.hid (EfsAt.kept HE.out hb);replace HN:=Lib.hid (RunsAt.kept HN.out hb);replace HB:=Lib.hid (bch' HB.out hb);clear hb;obtain ⟨k0,k1,k2,k3,kf0,kf1,kf2,kf3⟩:=HK.out.c4) | (with_reducible refine ((HTI.out _).mono ?_);rintro e w' ⟨rfl,rfl⟩))
            go_ret
            exact ⟨by first | (rw [HRB.out];done) | (rw [HRB.out];rfl),bch' HB0.out HB.out⟩
        · have HRB:Hid (bbb = false):=Lib.hid (HBB.out.trans (rightB_pa h4))
          rw [hfb] at HFW
          rw [h2] at HC
          rw [h3] at HR
          have hne:((paE C A:Int) != 0) = true:=by simpa using h4
          clear hfb h2 h3 h4
          generalize paE C A = m at *
          go_wp2_with (first | (with_reducible refine ((HFW.out _ HN.out).mono ?_);rintro e w' ⟨rfl,rfl⟩) | (with_reducible refine ((HC.out _ HE.out).mono ?_);rintro e w' ⟨rfl,hb⟩;replace HK:=Lib.hid (HK.out.keep hb);clear k0 k1 k2 k3 kf0 kf1 kf2 kf3;replace HE:=Lib.hid (EfsAt.kept HE.out hb);replace HN:=Lib.hid (RunsAt.kept HN.out hb);replace HB:=Lib.hid (bch' HB.out hb);clear hb;obtain ⟨k0,k1,k2,k3,kf0,kf1,kf2,kf3⟩:=HK.out.c4) | (with_reducible refine ((HR.out _ HN.out).mono ?_);rintro e w' ⟨rfl,hb⟩;replace HK:=Lib.hid (HK.out.keep hb);clear k0 k1 k2 k3 kf0 kf1 kf2 kf3;replace HE:=Lib.hid (EfsAt.kept HE.out hb);replace HN:=Lib.hid (RunsAt.kept HN.out hb);replace HB:=Lib.hid (bch' HB.out hb);clear hb;obtain ⟨k0,k1,k2,k3,kf0,kf1,kf2,kf3⟩:=HK.out.c4) | (with_reducible refine ((HP.out _).mono ?_);rintro e w' ⟨rfl,hb⟩;replace HK:=Lib.hid (HK.out.keep hb);clear k0 k1 k2 k3 kf0 kf1 kf2 kf3;replace HE:=Lib.hid (EfsAt.kept HE.out hb);replace HN:=Lib.hid (RunsAt.kept HN.out hb);replace HB:=Lib.hid (bch' HB.out hb);clear hb;obtain ⟨k0,k1,k2,k3,kf0,kf1,kf2,kf3⟩:=HK.out.c4))
          go_ret
          exact ⟨by first | (rw [HRB.out];done) | (rw [HRB.out];rfl),bch' HB0.out HB.out⟩
      · have HRB:Hid (bbb = false):=Lib.hid (HBB.out.trans (rightB_rn h3))
        rw [hfb] at HFW
        rw [h2] at HC
        have hne:((rnsE R:Int) != 0) = true:=by simpa using h3
        clear hfb h2 h3
        generalize rnsE R = m at *
        go_wp2_with (first | (with_reducible refine ((HFW.out _ HN.out).mono ?_);rintro e w' ⟨rfl,rfl⟩) | (with_reducible refine ((HC.out _ HE.out).mono ?_);rintro e w' ⟨rfl,hb⟩;replace HK:=Lib.hid (HK.out.keep hb);clear k0 k1 k2 k3 kf0 kf1 kf2 kf3;replace HE:=Lib.hid (EfsAt.kept HE.out hb);replace HN:=Lib.hid (RunsAt.kept HN.out hb);replace HB:=Lib.hid (bch' HB.out hb);clear hb;obtain ⟨k0,k1,k2,k3,kf0,kf1,kf2,kf3⟩:=HK.out.c4) | (with_reducible refine ((HR.out _ HN.out).mono ?_);rintro e w' ⟨rfl,hb⟩;replace HK:=Lib.hid (HK.out.keep hb);clear k0 k1 k2 k3 kf0 kf1 kf2 kf3;replace HE:=Lib.hid (EfsAt.kept HE.out hb);replace HN:=Lib.hid (RunsAt.kept HN.out hb);replace HB:=Lib.hid (bch' HB.out hb);clear hb;obtain ⟨k0,k1,k2,k3,kf0,kf1,kf2,kf3⟩:=HK.out.c4))
        go_ret
        exact ⟨by first | (rw [HRB.out];done) | (rw [HRB.out];rfl),bch' HB0.out HB.out⟩
    · have HRB:Hid (bbb = false):=Lib.hid (HBB.out.trans (rightB_ef h2))
      rw [hfb] at HFW
      have hne:((efsE L:Int) != 0) = true:=by simpa using h2
      clear hfb h2
      generalize efsE L = m at *
      go_wp2_with (first | (with_reducible refine ((HFW.out _ HN.out).mono ?_);rintro e w' ⟨rfl,rfl⟩) | (with_reducible refine ((HC.out _ HE.out).mono ?_);rintro e w' ⟨rfl,hb⟩;replace HK:=Lib.hid (HK.out.keep hb);clear k0 k1 k2 k3 kf0 kf1 kf2 kf3;replace HE:=Lib.hid (EfsAt.kept HE.out hb);replace HN:=Lib.hid (RunsAt.kept HN.out hb);replace HB:=Lib.hid (bch' HB.out hb);clear hb;obtain ⟨k0,k1,k2,k3,kf0,kf1,kf2,kf3⟩:=HK.out.c4))
      go_ret
      exact ⟨by first | (rw [HRB.out];done) | (rw [HRB.out];rfl),bch' HB0.out HB.out⟩
  · have HRB:Hid (bbb = false):=Lib.hid (HBB.out.trans (rightB_few (by simpa using hfb)))
    have hff:fewB nv R = false:=by simpa using hfb
    rw [hff] at HFW
    clear hfb hff
    go_wp2_with (first | (with_reducible refine ((HFW.out _ HN.out).mono ?_);rintro e w' ⟨rfl,rfl⟩))
    go_ret
    exact ⟨by first | (rw [HRB.out];done) | (rw [HRB.out];rfl),bch' HB0.out HB.out⟩
end Go.Proofs.YtbeojahilbglcaaGreatDoor
set_option maxRecDepth 100000
set_option maxHeartbeats 8000000
namespace Go.Proofs.YtbeojahilbglcaaGreatDoor
open Go.RowKit Go.Shelf Lum
open Go.Lib (decDigits itoa)
attribute [local go_sem] bs_get bs_extract_end bs_extract_from bs_extract bs_append
theorem law_eadds (L : List Efx) (R : List Rnx) (v u : Value) (T N C A : Int) (w : World) (hl : EfsAt w v L) (hr : RunsAt w u R) (n0 : -9223372036854775808 ≤ N) (n1 : N ≤ 9223372036854775807) (env : Env w) :
    Calls Tryz.prog 5 #[v,u,.agg #[.int .i64 T,.int .i64 N,.int .i64 C,.int .i64 A]] w fun e w' => e = .returned (.bool (true)) ∧ Below w.heap.size w w':=by
  obtain ⟨pv,nv,cv,rfl⟩:∃ p n c,v = .slice p n c:=by obtain ⟨M,p,c,h,-⟩:=hl;exact ⟨_,_,_,h⟩
  have hr0:=hr
  obtain ⟨M,pr,cr,rfl,hM,hMR,hMC⟩:=hr0
  have HL:Hid (M.length = R.length):=Lib.hid (by rw [← hM,List.length_map])
  have HM1:=Lib.hid hM;have HR1:=Lib.hid hMR;have HH1:=Lib.hid hMC
  clear hM hMR hMC
  have haw:=fun W (e:Env W) => l28_awake W e
  have hri:=fun W (h:EfsAt W (.slice pv nv cv) L) (h2:RunsAt W (.slice pr M.length cr) R) => l28_right L R pv nv cv (.slice pr M.length cr) T N C A W h h2
  by_cases hfb:rightB nv L R T C A = true
  · obtain ⟨hL,hR,hp,hm⟩:=right_facts hfb
    rw [hfb] at hri
    have hbo:=boE_right hL hR
    have hpe:parE L R = parL L R:=if_pos hbo
    have hsu:=fun W (e:Env W) (h:EfsAt W (.slice pv nv cv) L) (h2:RunsAt W (.slice pr M.length cr) R) => own_esum L R (.slice pv nv cv) (.slice pr M.length cr) T C A W h h2 e
    rw [suE_right hL hR hp hm] at hsu
    have hpr:=fun W (h:EfsAt W (.slice pv nv cv) L) (h2:RunsAt W (.slice pr M.length cr) R) => own_eparams L R (.slice pv nv cv) (.slice pr M.length cr) W h h2
    rw [hpe,hbo] at hpr
    unfold ParP at hpr
    have hof:=fun W (e:Env W) (h:EfsAt W (.slice pv nv cv) L) (h2:RunsAt W (.slice pr M.length cr) R) => own_eof L R (.slice pv nv cv) (.slice pr M.length cr) N T C A W h h2 n0 n1 e
    rw [ofE_right hL hR hp hm] at hof
    have hst:=fun W (h:RunsAt W (.slice pr M.length cr) R) => own_estop R (.slice pr M.length cr) N W h n0 n1
    rw [show rnsE R = 0 from ordE_of hR] at hst
    unfold StpR at hst
    have hRf:=ordOk_filter hR (fun x => x.ef != N)
    have hmf:∀ x ∈ (R.filter (fun x => x.ef != N)),moE x.ce x.cr x.cd x.cl T = 0:=fun x hx => hm x (List.mem_filter.1 hx).1
    have hle:=fun v1 W (e:Env W) (h:EfsAt W (.slice pv nv cv) L) (h2:RunsAt W v1 (R.filter (fun x => x.ef != N))) => own_esum L (R.filter (fun x => x.ef != N)) (.slice pv nv cv) v1 T C A W h h2 e
    rw [suE_right hL hRf hp hmf] at hle
    have fS:Fits 1000 (sumQ L R T C A):=by have:=sumQ_fitsA (t:=T) (ch:=C) (a:=A) hL hR hm R.length (Nat.le_refl _);rwa [List.take_length] at this
    have fL:Fits 1000 (sumQ L (R.filter (fun x => x.ef != N)) T C A):=by have:=sumQ_fitsA (t:=T) (ch:=C) (a:=A) hL hRf hmf (R.filter (fun x => x.ef != N)).length (Nat.le_refl _);rwa [List.take_length] at this
    have fO:Fits 1000 (ownQ L R N T C A):=ownQ_fits hL hR hm
    have hc1:=fun W => r2_check (showR (sumQ L R T C A)) W (len_fits fS)
    rw [check_fits fS] at hc1
    have hc2:=fun W => r2_check (showR (ownQ L R N T C A)) W (len_fits fO)
    rw [check_fits fO] at hc2
    have hc3:=fun W => r2_check (showR (sumQ L (R.filter (fun x => x.ef != N)) T C A)) W (len_fits fL)
    rw [check_fits fL] at hc3
    have hpl:=fun W => r2_plus (sumQ L (R.filter (fun x => x.ef != N)) T C A) (ownQ L R N T C A) W (fL.mono (by omega)) (fO.mono (by omega))
    rw [sumQ_less hR.asc] at hpl
    have hcn:=fun v1 W (h:ParsAt W v1 (parL L R)) => pa_contains (parL L R) v1 C A W h (by have:=parE_short L R;rwa [hpe] at this)
    have HSF:Hid (∀ k,k ≤ R.length → Fits 9000 (sumQ L (R.take k) T C A)):=Lib.hid fun k hk => (sumQ_fitsA hL hR hm k hk).mono (by omega)
    have HOW:Hid (∀ k (hk:k < R.length),Fits 1000 (toldQ L (R[k]'hk) T C A) ∧ 1 ≤ (R[k]'hk).ef ∧ (R[k]'hk).ef ≤ 1048576 ∧ ownQ L R (R[k]'hk).ef T C A = toldQ L (R[k]'hk) T C A):=Lib.hid fun k hk => ⟨by have:=ownQ_fits (n:=(R[k]'hk).ef) (t:=T) (ch:=C) (a:=A) hL hR hm;rwa [ownQ_self hR hk] at this,(rnOk (hR.ok k hk)).ef.1,(rnOk (hR.ok k hk)).ef.2,ownQ_self hR hk⟩
    have HOE:Hid (∀ n,ofE L R n T C A = (showR (ownQ L R n T C A),0)):=Lib.hid fun n => ofE_right hL hR hp hm
    have HFEWR:Hid (R.length ≤ 16):=Lib.hid hR.few
    have HEND:Hid (showR (sumQ L (R.take R.length) T C A) = showR (sumQ L R T C A)):=Lib.hid (by rw [List.take_length])
    have hz:¬ (C,A) ∈ parL L R → showR (sumQ L R T C A) = [48]:=fun h => by rw [sumQ_unmoved (fun h2 => h ((putsP_mem _).2 h2)),showR_zero]
    dsimp only at hsu hof hle
    clear hRf hmf fS fL fO hL hR hp hm hbo hpe hfb
    generalize showR (sumQ L R T C A) = s1 at *
    generalize showR (ownQ L R N T C A) = s2 at *
    generalize showR (sumQ L (R.filter (fun x => x.ef != N)) T C A) = s3 at *
    generalize (R.filter (fun x => x.ef != N)) = RF at *
    generalize (decide ((0:Int) = 0) && (R.find? (fun x => x.ef == N)).isSome) = B3 at *
    by_cases hin:(C,A) ∈ parL L R
    · rw [decide_eq_true hin] at hcn
      clear hz hin
      generalize parL L R = PL at *
      have HAW:=Lib.hid haw;have HRI:=Lib.hid hri;have HSU:=Lib.hid hsu;have HPR:=Lib.hid hpr;have HOF:=Lib.hid hof;have HST:=Lib.hid hst;have HLE:=Lib.hid hle;have HC1:=Lib.hid hc1;have HC2:=Lib.hid hc2;have HC3:=Lib.hid hc3;have HPL:=Lib.hid hpl;have HCN:=Lib.hid hcn
      clear haw hri hsu hpr hof hst hle hc1 hc2 hc3 hpl hcn
      have hal:=(Below.refl w.heap.size w).alloc (Nat.le_refl _) (.cells #[.int .i64 T,.int .i64 N,.int .i64 C,.int .i64 A] 47)
      have HE1:=Lib.hid (EfsAt.kept hl hal);have HN1:=Lib.hid (RunsAt.kept hr hal)
      have HB0:=Lib.hid hal
      have HK1:=Lib.hid (Blk.new w 47 #[.int .i64 T,.int .i64 N,.int .i64 C,.int .i64 A])
      clear hal hl hr
      go_enter Tryz.func5,Tryz.ntmps5
      go_upto_region 1 with fail
      obtain ⟨W2,hW2⟩:∃ X,X = w.alloc (.cells #[.int .i64 T,.int .i64 N,.int .i64 C,.int .i64 A] 47):=⟨_,rfl⟩
      rw [← hW2] at HE1 HN1 HB0 HK1 ⊢
      have ENV:=Lib.hid (env.below HB0.out)
      clear hW2
      have HB:=Lib.hid (Below.refl W2.heap.size W2)
      have HK:=Lib.hid HK1.out;have HE:=Lib.hid HE1.out;have HN:=Lib.hid HN1.out
      obtain ⟨k0,k1,k2,k3,kf0,kf1,kf2,kf3⟩:=HK.out.c4
      clear env n0 n1
      go_upto_region 3 with (first | (with_reducible refine ((HRI.out _ HE.out HN.out).mono ?_);rintro e w' ⟨rfl,hb⟩;replace HK:=Lib.hid (HK.out.keep hb);clear k0 k1 k2 k3 kf0 kf1 kf2 kf3;replace HE:=Lib.hid (EfsAt.kept HE.out hb);replace HN:=Lib.hid (RunsAt.kept HN.out hb);replace HB:=Lib.hid (bch' HB.out hb);clear hb;obtain ⟨k0,k1,k2,k3,kf0,kf1,kf2,kf3⟩:=HK.out.c4))
      go_upto_region 4 with (first | (with_reducible refine ((HSU.out _ (ENV.out.below HB.out) HE.out HN.out).mono ?_);rintro e w' ⟨rfl,hb⟩;replace HK:=Lib.hid (HK.out.keep hb);clear k0 k1 k2 k3 kf0 kf1 kf2 kf3;replace HE:=Lib.hid (EfsAt.kept HE.out hb);replace HN:=Lib.hid (RunsAt.kept HN.out hb);replace HB:=Lib.hid (bch' HB.out hb);clear hb;obtain ⟨k0,k1,k2,k3,kf0,kf1,kf2,kf3⟩:=HK.out.c4))
      go_upto_region 5 with (first | (with_reducible refine ((HPR.out _ HE.out HN.out).mono ?_);rintro e w' ⟨v1,rfl,hpp,hb⟩;have HV1:=Lib.hid hpp;clear hpp;replace HK:=Lib.hid (HK.out.keep hb);clear k0 k1 k2 k3 kf0 kf1 kf2 kf3;replace HE:=Lib.hid (EfsAt.kept HE.out hb);replace HN:=Lib.hid (RunsAt.kept HN.out hb);replace HB:=Lib.hid (bch' HB.out hb);clear hb;obtain ⟨k0,k1,k2,k3,kf0,kf1,kf2,kf3⟩:=HK.out.c4))
      go_upto_region 6 with (first | (with_reducible refine ((HOF.out _ (ENV.out.below HB.out) HE.out HN.out).mono ?_);rintro e w' ⟨rfl,hb⟩;replace HK:=Lib.hid (HK.out.keep hb);clear k0 k1 k2 k3 kf0 kf1 kf2 kf3;replace HE:=Lib.hid (EfsAt.kept HE.out hb);replace HN:=Lib.hid (RunsAt.kept HN.out hb);replace HV1:=Lib.hid (ParsAt.kept HV1.out hb);replace HB:=Lib.hid (bch' HB.out hb);clear hb;obtain ⟨k0,k1,k2,k3,kf0,kf1,kf2,kf3⟩:=HK.out.c4))
      go_upto_region 7 with (first | (with_reducible refine ((HST.out _ HN.out).mono ?_);rintro e w' ⟨v2,rfl,hg1,hg2,hb⟩;have HV2:=Lib.hid (hg1 (by first | rfl | trivial));clear hg1 hg2;replace HK:=Lib.hid (HK.out.keep hb);clear k0 k1 k2 k3 kf0 kf1 kf2 kf3;replace HE:=Lib.hid (EfsAt.kept HE.out hb);replace HN:=Lib.hid (RunsAt.kept HN.out hb);replace HV1:=Lib.hid (ParsAt.kept HV1.out hb);replace HB:=Lib.hid (bch' HB.out hb);clear hb;obtain ⟨k0,k1,k2,k3,kf0,kf1,kf2,kf3⟩:=HK.out.c4))
      go_upto_region 8 with (first | (with_reducible refine ((HLE.out _ _ (ENV.out.below HB.out) HE.out HV2.out).mono ?_);rintro e w' ⟨rfl,hb⟩;replace HK:=Lib.hid (HK.out.keep hb);clear k0 k1 k2 k3 kf0 kf1 kf2 kf3;replace HE:=Lib.hid (EfsAt.kept HE.out hb);replace HN:=Lib.hid (RunsAt.kept HN.out hb);replace HV1:=Lib.hid (ParsAt.kept HV1.out hb);replace HV2:=Lib.hid (RunsAt.kept HV2.out hb);replace HB:=Lib.hid (bch' HB.out hb);clear hb;obtain ⟨k0,k1,k2,k3,kf0,kf1,kf2,kf3⟩:=HK.out.c4))
      go_upto_region 10 with (first | (with_reducible refine ((HC1.out _).mono ?_);rintro e w' ⟨rfl,hb⟩;replace HK:=Lib.hid (HK.out.keep hb);clear k0 k1 k2 k3 kf0 kf1 kf2 kf3;replace HE:=Lib.hid (EfsAt.kept HE.out hb);replace HN:=Lib.hid (RunsAt.kept HN.out hb);replace HV1:=Lib.hid (ParsAt.kept HV1.out hb);replace HV2:=Lib.hid (RunsAt.kept HV2.out hb);replace HB:=Lib.hid (bch' HB.out hb);clear hb;obtain ⟨k0,k1,k2,k3,kf0,kf1,kf2,kf3⟩:=HK.out.c4) | (with_reducible refine ((HC2.out _).mono ?_);rintro e w' ⟨rfl,hb⟩;replace HK:=Lib.hid (HK.out.keep hb);clear k0 k1 k2 k3 kf0 kf1 kf2 kf3;replace HE:=Lib.hid (EfsAt.kept HE.out hb);replace HN:=Lib.hid (RunsAt.kept HN.out hb);replace HV1:=Lib.hid (ParsAt.kept HV1.out hb);replace HV2:=Lib.hid (RunsAt.kept HV2.out hb);replace HB:=Lib.hid (bch' HB.out hb);clear hb;obtain ⟨k0,k1,k2,k3,kf0,kf1,kf2,kf3⟩:=HK.out.c4) | (with_reducible refine ((HC3.out _).mono ?_);rintro e w' ⟨rfl,hb⟩;replace HK:=Lib.hid (HK.out.keep hb);clear k0 k1 k2 k3 kf0 kf1 kf2 kf3;replace HE:=Lib.hid (EfsAt.kept HE.out hb);replace HN:=Lib.hid (RunsAt.kept HN.out hb);replace HV1:=Lib.hid (ParsAt.kept HV1.out hb);replace HV2:=Lib.hid (RunsAt.kept HV2.out hb);replace HB:=Lib.hid (bch' HB.out hb);clear hb;obtain ⟨k0,k1,k2,k3,kf0,kf1,kf2,kf3⟩:=HK.out.c4) | (with_reducible refine ((HPL.out _).mono ?_);rintro e w' ⟨rfl,hb⟩;replace HK:=Lib.hid (HK.out.keep hb);clear k0 k1 k2 k3 kf0 kf1 kf2 kf3;replace HE:=Lib.hid (EfsAt.kept HE.out hb);replace HN:=Lib.hid (RunsAt.kept HN.out hb);replace HV1:=Lib.hid (ParsAt.kept HV1.out hb);replace HV2:=Lib.hid (RunsAt.kept HV2.out hb);replace HB:=Lib.hid (bch' HB.out hb);clear hb;obtain ⟨k0,k1,k2,k3,kf0,kf1,kf2,kf3⟩:=HK.out.c4))
      go_upto_region 12 with (first | (with_reducible refine ((HCN.out _ _ HV1.out).mono ?_);rintro e w' ⟨rfl,hb⟩;replace HK:=Lib.hid (HK.out.keep hb);clear k0 k1 k2 k3 kf0 kf1 kf2 kf3;replace HE:=Lib.hid (EfsAt.kept HE.out hb);replace HN:=Lib.hid (RunsAt.kept HN.out hb);replace HV1:=Lib.hid (ParsAt.kept HV1.out hb);replace HV2:=Lib.hid (RunsAt.kept HV2.out hb);replace HB:=Lib.hid (bch' HB.out hb);clear hb;obtain ⟨k0,k1,k2,k3,kf0,kf1,kf2,kf3⟩:=HK.out.c4))
      try clear HV1
      try clear HV2
      go_wp2_with fail
      go_loopw [18,118] (fun s j wr => ∃ k:Nat,s = .string ⟨(showR (sumQ L (R.take k) T C A)).toArray⟩ ∧ j = .int .i64 (k:Int) ∧ k ≤ R.length ∧ Hid (Below W2.heap.size W2 wr)) (fun _ j _ => R.length - (intOf j).toNat)
      case atStart => exact ⟨0,by rw [List.take_zero,sumQ_nil,showR_zero],rfl,by omega,HB⟩
      case round =>
        clear k0 k1 k2 k3 kf0 kf1 kf2 kf3
        clear HK HE HN
        obtain ⟨k,rfl,rfl,hk9,HB2⟩:=hrel
        clear HB
        have HB:=HB2;clear HB2
        have HK:=Lib.hid (HK1.out.keep HB.out);have HE:=Lib.hid (EfsAt.kept HE1.out HB.out);have HN:=Lib.hid (RunsAt.kept HN1.out HB.out)
        obtain ⟨k0,k1,k2,k3,kf0,kf1,kf2,kf3⟩:=HK.out.c4
        by_cases hlt0:k < R.length
        · have hlm:k < M.length:=by have:=HL.out;omega
          obtain ⟨bb,oo,rfl,hbb,hCC⟩:=HR1.out (fun e => by subst e;simp at hlm)
          obtain ⟨⟨x,q1,q2,q3⟩,hq⟩:∃ y,y = M[k]'hlm:=⟨_,rfl⟩
          have hcell:=hCC k hlm
          rw [← hq] at hcell
          have hq2:=((HH1.out _ (List.getElem_mem hlm)).1).len
          rw [← hq] at hq2
          dsimp only at hq2
          subst hq2
          have hxr:R[k]'hlt0 = x:=(fst_atF HM1.out hlm hlt0).trans (by rw [← hq])
          have HBb:=Lib.hid hbb;have HXR:=Lib.hid hxr
          have y0:wr.cell? ⟨bb,oo + k * 6,none⟩ = some (.int .i64 x.ef):=((bch' HB0.out HB.out).cell (p:=⟨bb,oo + k * 6 + 0,none⟩) hbb).trans (hcell 0 _ rfl)
          have y1:wr.cell? ⟨bb,oo + k * 6 + 1,none⟩ = some (.slice q1 x.cs.length q3):=((bch' HB0.out HB.out).cell (p:=⟨bb,oo + k * 6 + 1,none⟩) hbb).trans (hcell 1 _ rfl)
          have y2:wr.cell? ⟨bb,oo + k * 6 + 2,none⟩ = some (.int .i64 x.ce):=((bch' HB0.out HB.out).cell (p:=⟨bb,oo + k * 6 + 2,none⟩) hbb).trans (hcell 2 _ rfl)
          have y3:wr.cell? ⟨bb,oo + k * 6 + 3,none⟩ = some (.int .i64 x.cr):=((bch' HB0.out HB.out).cell (p:=⟨bb,oo + k * 6 + 3,none⟩) hbb).trans (hcell 3 _ rfl)
          have y4:wr.cell? ⟨bb,oo + k * 6 + 4,none⟩ = some (.int .i64 x.cd):=((bch' HB0.out HB.out).cell (p:=⟨bb,oo + k * 6 + 4,none⟩) hbb).trans (hcell 4 _ rfl)
          have y5:wr.cell? ⟨bb,oo + k * 6 + 5,none⟩ = some (.int .i64 x.cl):=((bch' HB0.out HB.out).cell (p:=⟨bb,oo + k * 6 + 5,none⟩) hbb).trans (hcell 5 _ rfl)
          have hbr:bb < wr.heap.size:=Nat.lt_of_lt_of_le hbb (bch' HB0.out HB.out).size
          have hlt:(k:Int) < (M.length:Int):=by omega
          have hk0:(0:Int) ≤ (k:Int):=by omega
          have hlo:k * 6 < 9223372036854775807:=by have:=HFEWR.out;omega
          have hun:IntKind.i64.wrap ((k:Int) + 1) = (k:Int) + 1:=IntWalk.i64_in _ (by have:=HFEWR.out;omega)
          clear hcell hCC hq hbb hxr
          have hfu:=HOW.out k hlt0
          rw [HXR.out] at hfu
          have hof2:=fun W (e:Env W) (h:EfsAt W (.slice pv nv cv) L) (h2:RunsAt W (.slice (some ⟨bb,oo,none⟩) M.length cr) R) => own_eof L R (.slice pv nv cv) (.slice (some ⟨bb,oo,none⟩) M.length cr) x.ef T C A W h h2 (by omega) (by omega) e
          rw [HOE.out x.ef,hfu.2.2.2] at hof2
          have hck:=fun W => r2_check (showR (toldQ L x T C A)) W (len_fits hfu.1)
          rw [check_fits hfu.1] at hck
          have hpk:=fun W => r2_plus (sumQ L (R.take k) T C A) (toldQ L x T C A) W (HSF.out k hk9) (hfu.1.mono (by omega))
          have HS:Hid (sumQ L (R.take (k + 1)) T C A = sumQ L (R.take k) T C A + toldQ L x T C A):=Lib.hid (by rw [sumQ_take hlt0,HXR.out])
          clear hfu
          have HOF2:=Lib.hid hof2;have HCK:=Lib.hid hck;have HPK:=Lib.hid hpk
          clear hof2 hck hpk
          go_upto_region 16 with fail
          clear y0 y1 y2 y3 y4 y5 hbr
          have hb:=(Below.refl wr.heap.size wr).alloc (Nat.le_refl _) (.cells #[.int .i64 x.ef,.slice q1 x.cs.length q3,.int .i64 x.ce,.int .i64 x.cr,.int .i64 x.cd,.int .i64 x.cl] 68)
          have HX:=Lib.hid (Blk.new wr 68 #[.int .i64 x.ef,.slice q1 x.cs.length q3,.int .i64 x.ce,.int .i64 x.cr,.int .i64 x.cd,.int .i64 x.cl])
          obtain ⟨n8,hn8⟩:∃ n,n = wr.heap.size:=⟨_,rfl⟩
          obtain ⟨Wa,hWWa⟩:∃ X,X = wr.alloc (.cells #[.int .i64 x.ef,.slice q1 x.cs.length q3,.int .i64 x.ce,.int .i64 x.cr,.int .i64 x.cd,.int .i64 x.cl] 68):=⟨_,rfl⟩
          rw [← hn8] at HX ⊢
          rw [← hWWa] at hb HX ⊢
          replace HK:=Lib.hid (HK.out.keep hb);clear k0 k1 k2 k3 kf0 kf1 kf2 kf3;replace HE:=Lib.hid (EfsAt.kept HE.out hb);replace HN:=Lib.hid (RunsAt.kept HN.out hb);replace HB:=Lib.hid (bch' HB.out hb);clear hb;obtain ⟨k0,k1,k2,k3,kf0,kf1,kf2,kf3⟩:=HK.out.c4
          clear hWWa hn8
          obtain ⟨x0,x1,x2,x3,x4,x5,xf0,xf1,xf2,xf3,xf4,xf5⟩:=HX.out.c6
          go_upto_region 17 with (first | (with_reducible refine ((HOF2.out _ (ENV.out.below HB.out) HE.out HN.out).mono ?_);rintro e w' ⟨rfl,hb⟩;replace HK:=Lib.hid (HK.out.keep hb);clear k0 k1 k2 k3 kf0 kf1 kf2 kf3;replace HX:=Lib.hid (HX.out.keep hb);clear x0 x1 x2 x3 x4 x5 xf0 xf1 xf2 xf3 xf4 xf5;replace HE:=Lib.hid (EfsAt.kept HE.out hb);replace HN:=Lib.hid (RunsAt.kept HN.out hb);replace HB:=Lib.hid (bch' HB.out hb);clear hb;obtain ⟨k0,k1,k2,k3,kf0,kf1,kf2,kf3⟩:=HK.out.c4;obtain ⟨x0,x1,x2,x3,x4,x5,xf0,xf1,xf2,xf3,xf4,xf5⟩:=HX.out.c6))
          go_upto_region 19 with (first | (with_reducible refine ((HCK.out _).mono ?_);rintro e w' ⟨rfl,hb⟩;replace HK:=Lib.hid (HK.out.keep hb);clear k0 k1 k2 k3 kf0 kf1 kf2 kf3;replace HX:=Lib.hid (HX.out.keep hb);clear x0 x1 x2 x3 x4 x5 xf0 xf1 xf2 xf3 xf4 xf5;replace HE:=Lib.hid (EfsAt.kept HE.out hb);replace HN:=Lib.hid (RunsAt.kept HN.out hb);replace HB:=Lib.hid (bch' HB.out hb);clear hb;obtain ⟨k0,k1,k2,k3,kf0,kf1,kf2,kf3⟩:=HK.out.c4;obtain ⟨x0,x1,x2,x3,x4,x5,xf0,xf1,xf2,xf3,xf4,xf5⟩:=HX.out.c6))
          go_wp2_with (first | (with_reducible refine ((HPK.out _).mono ?_);rintro e w' ⟨rfl,hb⟩;replace HK:=Lib.hid (HK.out.keep hb);clear k0 k1 k2 k3 kf0 kf1 kf2 kf3;replace HX:=Lib.hid (HX.out.keep hb);clear x0 x1 x2 x3 x4 x5 xf0 xf1 xf2 xf3 xf4 xf5;replace HE:=Lib.hid (EfsAt.kept HE.out hb);replace HN:=Lib.hid (RunsAt.kept HN.out hb);replace HB:=Lib.hid (bch' HB.out hb);clear hb;obtain ⟨k0,k1,k2,k3,kf0,kf1,kf2,kf3⟩:=HK.out.c4;obtain ⟨x0,x1,x2,x3,x4,x5,xf0,xf1,xf2,xf3,xf4,xf5⟩:=HX.out.c6))
          go_roundw
          case rel => exact ⟨k + 1,by rw [HS.out],by first | rfl | simp,by omega,HB⟩
          case measure => first | (simp [intOf];done) | (simp [intOf];omega)
        · have hlm:¬ (k:Int) < (M.length:Int):=by have:=HL.out;omega
          obtain rfl:k = R.length:=by omega
          rw [HEND.out]
          go_wp2_with (first | (with_reducible refine ((HAW.out _ (ENV.out.below HB.out)).mono ?_);rintro e w' ⟨rfl,hb⟩;replace HK:=Lib.hid (HK.out.keep hb);clear k0 k1 k2 k3 kf0 kf1 kf2 kf3;replace HE:=Lib.hid (EfsAt.kept HE.out hb);replace HN:=Lib.hid (RunsAt.kept HN.out hb);replace HB:=Lib.hid (bch' HB.out hb);clear hb;obtain ⟨k0,k1,k2,k3,kf0,kf1,kf2,kf3⟩:=HK.out.c4))
          go_ret
          exact ⟨rfl,bch' HB0.out HB.out⟩
    · have hs1:=hz hin
      subst hs1
      rw [decide_eq_false hin] at hcn
      clear hz hin
      generalize parL L R = PL at *
      have HAW:=Lib.hid haw;have HRI:=Lib.hid hri;have HSU:=Lib.hid hsu;have HPR:=Lib.hid hpr;have HOF:=Lib.hid hof;have HST:=Lib.hid hst;have HLE:=Lib.hid hle;have HC1:=Lib.hid hc1;have HC2:=Lib.hid hc2;have HC3:=Lib.hid hc3;have HPL:=Lib.hid hpl;have HCN:=Lib.hid hcn
      clear haw hri hsu hpr hof hst hle hc1 hc2 hc3 hpl hcn
      have hal:=(Below.refl w.heap.size w).alloc (Nat.le_refl _) (.cells #[.int .i64 T,.int .i64 N,.int .i64 C,.int .i64 A] 47)
      have HE1:=Lib.hid (EfsAt.kept hl hal);have HN1:=Lib.hid (RunsAt.kept hr hal)
      have HB0:=Lib.hid hal
      have HK1:=Lib.hid (Blk.new w 47 #[.int .i64 T,.int .i64 N,.int .i64 C,.int .i64 A])
      clear hal hl hr
      go_enter Tryz.func5,Tryz.ntmps5
      go_upto_region 1 with fail
      obtain ⟨W2,hW2⟩:∃ X,X = w.alloc (.cells #[.int .i64 T,.int .i64 N,.int .i64 C,.int .i64 A] 47):=⟨_,rfl⟩
      rw [← hW2] at HE1 HN1 HB0 HK1 ⊢
      have ENV:=Lib.hid (env.below HB0.out)
      clear hW2
      have HB:=Lib.hid (Below.refl W2.heap.size W2)
      have HK:=Lib.hid HK1.out;have HE:=Lib.hid HE1.out;have HN:=Lib.hid HN1.out
      obtain ⟨k0,k1,k2,k3,kf0,kf1,kf2,kf3⟩:=HK.out.c4
      clear env n0 n1
      go_upto_region 3 with (first | (with_reducible refine ((HRI.out _ HE.out HN.out).mono ?_);rintro e w' ⟨rfl,hb⟩;replace HK:=Lib.hid (HK.out.keep hb);clear k0 k1 k2 k3 kf0 kf1 kf2 kf3;replace HE:=Lib.hid (EfsAt.kept HE.out hb);replace HN:=Lib.hid (RunsAt.kept HN.out hb);replace HB:=Lib.hid (bch' HB.out hb);clear hb;obtain ⟨k0,k1,k2,k3,kf0,kf1,kf2,kf3⟩:=HK.out.c4))
      go_upto_region 4 with (first | (with_reducible refine ((HSU.out _ (ENV.out.below HB.out) HE.out HN.out).mono ?_);rintro e w' ⟨rfl,hb⟩;replace HK:=Lib.hid (HK.out.keep hb);clear k0 k1 k2 k3 kf0 kf1 kf2 kf3;replace HE:=Lib.hid (EfsAt.kept HE.out hb);replace HN:=Lib.hid (RunsAt.kept HN.out hb);replace HB:=Lib.hid (bch' HB.out hb);clear hb;obtain ⟨k0,k1,k2,k3,kf0,kf1,kf2,kf3⟩:=HK.out.c4))
      go_upto_region 5 with (first | (with_reducible refine ((HPR.out _ HE.out HN.out).mono ?_);rintro e w' ⟨v1,rfl,hpp,hb⟩;have HV1:=Lib.hid hpp;clear hpp;replace HK:=Lib.hid (HK.out.keep hb);clear k0 k1 k2 k3 kf0 kf1 kf2 kf3;replace HE:=Lib.hid (EfsAt.kept HE.out hb);replace HN:=Lib.hid (RunsAt.kept HN.out hb);replace HB:=Lib.hid (bch' HB.out hb);clear hb;obtain ⟨k0,k1,k2,k3,kf0,kf1,kf2,kf3⟩:=HK.out.c4))
      go_upto_region 6 with (first | (with_reducible refine ((HOF.out _ (ENV.out.below HB.out) HE.out HN.out).mono ?_);rintro e w' ⟨rfl,hb⟩;replace HK:=Lib.hid (HK.out.keep hb);clear k0 k1 k2 k3 kf0 kf1 kf2 kf3;replace HE:=Lib.hid (EfsAt.kept HE.out hb);replace HN:=Lib.hid (RunsAt.kept HN.out hb);replace HV1:=Lib.hid (ParsAt.kept HV1.out hb);replace HB:=Lib.hid (bch' HB.out hb);clear hb;obtain ⟨k0,k1,k2,k3,kf0,kf1,kf2,kf3⟩:=HK.out.c4))
      go_upto_region 7 with (first | (with_reducible refine ((HST.out _ HN.out).mono ?_);rintro e w' ⟨v2,rfl,hg1,hg2,hb⟩;have HV2:=Lib.hid (hg1 (by first | rfl | trivial));clear hg1 hg2;replace HK:=Lib.hid (HK.out.keep hb);clear k0 k1 k2 k3 kf0 kf1 kf2 kf3;replace HE:=Lib.hid (EfsAt.kept HE.out hb);replace HN:=Lib.hid (RunsAt.kept HN.out hb);replace HV1:=Lib.hid (ParsAt.kept HV1.out hb);replace HB:=Lib.hid (bch' HB.out hb);clear hb;obtain ⟨k0,k1,k2,k3,kf0,kf1,kf2,kf3⟩:=HK.out.c4))
      go_upto_region 8 with (first | (with_reducible refine ((HLE.out _ _ (ENV.out.below HB.out) HE.out HV2.out).mono ?_);rintro e w' ⟨rfl,hb⟩;replace HK:=Lib.hid (HK.out.keep hb);clear k0 k1 k2 k3 kf0 kf1 kf2 kf3;replace HE:=Lib.hid (EfsAt.kept HE.out hb);replace HN:=Lib.hid (RunsAt.kept HN.out hb);replace HV1:=Lib.hid (ParsAt.kept HV1.out hb);replace HV2:=Lib.hid (RunsAt.kept HV2.out hb);replace HB:=Lib.hid (bch' HB.out hb);clear hb;obtain ⟨k0,k1,k2,k3,kf0,kf1,kf2,kf3⟩:=HK.out.c4))
      go_upto_region 10 with (first | (with_reducible refine ((HC1.out _).mono ?_);rintro e w' ⟨rfl,hb⟩;replace HK:=Lib.hid (HK.out.keep hb);clear k0 k1 k2 k3 kf0 kf1 kf2 kf3;replace HE:=Lib.hid (EfsAt.kept HE.out hb);replace HN:=Lib.hid (RunsAt.kept HN.out hb);replace HV1:=Lib.hid (ParsAt.kept HV1.out hb);replace HV2:=Lib.hid (RunsAt.kept HV2.out hb);replace HB:=Lib.hid (bch' HB.out hb);clear hb;obtain ⟨k0,k1,k2,k3,kf0,kf1,kf2,kf3⟩:=HK.out.c4) | (with_reducible refine ((HC2.out _).mono ?_);rintro e w' ⟨rfl,hb⟩;replace HK:=Lib.hid (HK.out.keep hb);clear k0 k1 k2 k3 kf0 kf1 kf2 kf3;replace HE:=Lib.hid (EfsAt.kept HE.out hb);replace HN:=Lib.hid (RunsAt.kept HN.out hb);replace HV1:=Lib.hid (ParsAt.kept HV1.out hb);replace HV2:=Lib.hid (RunsAt.kept HV2.out hb);replace HB:=Lib.hid (bch' HB.out hb);clear hb;obtain ⟨k0,k1,k2,k3,kf0,kf1,kf2,kf3⟩:=HK.out.c4) | (with_reducible refine ((HC3.out _).mono ?_);rintro e w' ⟨rfl,hb⟩;replace HK:=Lib.hid (HK.out.keep hb);clear k0 k1 k2 k3 kf0 kf1 kf2 kf3;replace HE:=Lib.hid (EfsAt.kept HE.out hb);replace HN:=Lib.hid (RunsAt.kept HN.out hb);replace HV1:=Lib.hid (ParsAt.kept HV1.out hb);replace HV2:=Lib.hid (RunsAt.kept HV2.out hb);replace HB:=Lib.hid (bch' HB.out hb);clear hb;obtain ⟨k0,k1,k2,k3,kf0,kf1,kf2,kf3⟩:=HK.out.c4) | (with_reducible refine ((HPL.out _).mono ?_);rintro e w' ⟨rfl,hb⟩;replace HK:=Lib.hid (HK.out.keep hb);clear k0 k1 k2 k3 kf0 kf1 kf2 kf3;replace HE:=Lib.hid (EfsAt.kept HE.out hb);replace HN:=Lib.hid (RunsAt.kept HN.out hb);replace HV1:=Lib.hid (ParsAt.kept HV1.out hb);replace HV2:=Lib.hid (RunsAt.kept HV2.out hb);replace HB:=Lib.hid (bch' HB.out hb);clear hb;obtain ⟨k0,k1,k2,k3,kf0,kf1,kf2,kf3⟩:=HK.out.c4))
      go_upto_region 12 with (first | (with_reducible refine ((HCN.out _ _ HV1.out).mono ?_);rintro e w' ⟨rfl,hb⟩;replace HK:=Lib.hid (HK.out.keep hb);clear k0 k1 k2 k3 kf0 kf1 kf2 kf3;replace HE:=Lib.hid (EfsAt.kept HE.out hb);replace HN:=Lib.hid (RunsAt.kept HN.out hb);replace HV1:=Lib.hid (ParsAt.kept HV1.out hb);replace HV2:=Lib.hid (RunsAt.kept HV2.out hb);replace HB:=Lib.hid (bch' HB.out hb);clear hb;obtain ⟨k0,k1,k2,k3,kf0,kf1,kf2,kf3⟩:=HK.out.c4))
      try clear HV1
      try clear HV2
      go_wp2_with fail
      go_loopw [18,118] (fun s j wr => ∃ k:Nat,s = .string ⟨(showR (sumQ L (R.take k) T C A)).toArray⟩ ∧ j = .int .i64 (k:Int) ∧ k ≤ R.length ∧ Hid (Below W2.heap.size W2 wr)) (fun _ j _ => R.length - (intOf j).toNat)
      case atStart => exact ⟨0,by rw [List.take_zero,sumQ_nil,showR_zero],rfl,by omega,HB⟩
      case round =>
        clear k0 k1 k2 k3 kf0 kf1 kf2 kf3
        clear HK HE HN
        obtain ⟨k,rfl,rfl,hk9,HB2⟩:=hrel
        clear HB
        have HB:=HB2;clear HB2
        have HK:=Lib.hid (HK1.out.keep HB.out);have HE:=Lib.hid (EfsAt.kept HE1.out HB.out);have HN:=Lib.hid (RunsAt.kept HN1.out HB.out)
        obtain ⟨k0,k1,k2,k3,kf0,kf1,kf2,kf3⟩:=HK.out.c4
        by_cases hlt0:k < R.length
        · have hlm:k < M.length:=by have:=HL.out;omega
          obtain ⟨bb,oo,rfl,hbb,hCC⟩:=HR1.out (fun e => by subst e;simp at hlm)
          obtain ⟨⟨x,q1,q2,q3⟩,hq⟩:∃ y,y = M[k]'hlm:=⟨_,rfl⟩
          have hcell:=hCC k hlm
          rw [← hq] at hcell
          have hq2:=((HH1.out _ (List.getElem_mem hlm)).1).len
          rw [← hq] at hq2
          dsimp only at hq2
          subst hq2
          have hxr:R[k]'hlt0 = x:=(fst_atF HM1.out hlm hlt0).trans (by rw [← hq])
          have HBb:=Lib.hid hbb;have HXR:=Lib.hid hxr
          have y0:wr.cell? ⟨bb,oo + k * 6,none⟩ = some (.int .i64 x.ef):=((bch' HB0.out HB.out).cell (p:=⟨bb,oo + k * 6 + 0,none⟩) hbb).trans (hcell 0 _ rfl)
          have y1:wr.cell? ⟨bb,oo + k * 6 + 1,none⟩ = some (.slice q1 x.cs.length q3):=((bch' HB0.out HB.out).cell (p:=⟨bb,oo + k * 6 + 1,none⟩) hbb).trans (hcell 1 _ rfl)
          have y2:wr.cell? ⟨bb,oo + k * 6 + 2,none⟩ = some (.int .i64 x.ce):=((bch' HB0.out HB.out).cell (p:=⟨bb,oo + k * 6 + 2,none⟩) hbb).trans (hcell 2 _ rfl)
          have y3:wr.cell? ⟨bb,oo + k * 6 + 3,none⟩ = some (.int .i64 x.cr):=((bch' HB0.out HB.out).cell (p:=⟨bb,oo + k * 6 + 3,none⟩) hbb).trans (hcell 3 _ rfl)
          have y4:wr.cell? ⟨bb,oo + k * 6 + 4,none⟩ = some (.int .i64 x.cd):=((bch' HB0.out HB.out).cell (p:=⟨bb,oo + k * 6 + 4,none⟩) hbb).trans (hcell 4 _ rfl)
          have y5:wr.cell? ⟨bb,oo + k * 6 + 5,none⟩ = some (.int .i64 x.cl):=((bch' HB0.out HB.out).cell (p:=⟨bb,oo + k * 6 + 5,none⟩) hbb).trans (hcell 5 _ rfl)
          have hbr:bb < wr.heap.size:=Nat.lt_of_lt_of_le hbb (bch' HB0.out HB.out).size
          have hlt:(k:Int) < (M.length:Int):=by omega
          have hk0:(0:Int) ≤ (k:Int):=by omega
          have hlo:k * 6 < 9223372036854775807:=by have:=HFEWR.out;omega
          have hun:IntKind.i64.wrap ((k:Int) + 1) = (k:Int) + 1:=IntWalk.i64_in _ (by have:=HFEWR.out;omega)
          clear hcell hCC hq hbb hxr
          have hfu:=HOW.out k hlt0
          rw [HXR.out] at hfu
          have hof2:=fun W (e:Env W) (h:EfsAt W (.slice pv nv cv) L) (h2:RunsAt W (.slice (some ⟨bb,oo,none⟩) M.length cr) R) => own_eof L R (.slice pv nv cv) (.slice (some ⟨bb,oo,none⟩) M.length cr) x.ef T C A W h h2 (by omega) (by omega) e
          rw [HOE.out x.ef,hfu.2.2.2] at hof2
          have hck:=fun W => r2_check (showR (toldQ L x T C A)) W (len_fits hfu.1)
          rw [check_fits hfu.1] at hck
          have hpk:=fun W => r2_plus (sumQ L (R.take k) T C A) (toldQ L x T C A) W (HSF.out k hk9) (hfu.1.mono (by omega))
          have HS:Hid (sumQ L (R.take (k + 1)) T C A = sumQ L (R.take k) T C A + toldQ L x T C A):=Lib.hid (by rw [sumQ_take hlt0,HXR.out])
          clear hfu
          have HOF2:=Lib.hid hof2;have HCK:=Lib.hid hck;have HPK:=Lib.hid hpk
          clear hof2 hck hpk
          go_upto_region 16 with fail
          clear y0 y1 y2 y3 y4 y5 hbr
          have hb:=(Below.refl wr.heap.size wr).alloc (Nat.le_refl _) (.cells #[.int .i64 x.ef,.slice q1 x.cs.length q3,.int .i64 x.ce,.int .i64 x.cr,.int .i64 x.cd,.int .i64 x.cl] 68)
          have HX:=Lib.hid (Blk.new wr 68 #[.int .i64 x.ef,.slice q1 x.cs.length q3,.int .i64 x.ce,.int .i64 x.cr,.int .i64 x.cd,.int .i64 x.cl])
          obtain ⟨n8,hn8⟩:∃ n,n = wr.heap.size:=⟨_,rfl⟩
          obtain ⟨Wa,hWWa⟩:∃ X,X = wr.alloc (.cells #[.int .i64 x.ef,.slice q1 x.cs.length q3,.int .i64 x.ce,.int .i64 x.cr,.int .i64 x.cd,.int .i64 x.cl] 68):=⟨_,rfl⟩
          rw [← hn8] at HX ⊢
          rw [← hWWa] at hb HX ⊢
          replace HK:=Lib.hid (HK.out.keep hb);clear k0 k1 k2 k3 kf0 kf1 kf2 kf3;replace HE:=Lib.hid (EfsAt.kept HE.out hb);replace HN:=Lib.hid (RunsAt.kept HN.out hb);replace HB:=Lib.hid (bch' HB.out hb);clear hb;obtain ⟨k0,k1,k2,k3,kf0,kf1,kf2,kf3⟩:=HK.out.c4
          clear hWWa hn8
          obtain ⟨x0,x1,x2,x3,x4,x5,xf0,xf1,xf2,xf3,xf4,xf5⟩:=HX.out.c6
          go_upto_region 17 with (first | (with_reducible refine ((HOF2.out _ (ENV.out.below HB.out) HE.out HN.out).mono ?_);rintro e w' ⟨rfl,hb⟩;replace HK:=Lib.hid (HK.out.keep hb);clear k0 k1 k2 k3 kf0 kf1 kf2 kf3;replace HX:=Lib.hid (HX.out.keep hb);clear x0 x1 x2 x3 x4 x5 xf0 xf1 xf2 xf3 xf4 xf5;replace HE:=Lib.hid (EfsAt.kept HE.out hb);replace HN:=Lib.hid (RunsAt.kept HN.out hb);replace HB:=Lib.hid (bch' HB.out hb);clear hb;obtain ⟨k0,k1,k2,k3,kf0,kf1,kf2,kf3⟩:=HK.out.c4;obtain ⟨x0,x1,x2,x3,x4,x5,xf0,xf1,xf2,xf3,xf4,xf5⟩:=HX.out.c6))
          go_upto_region 19 with (first | (with_reducible refine ((HCK.out _).mono ?_);rintro e w' ⟨rfl,hb⟩;replace HK:=Lib.hid (HK.out.keep hb);clear k0 k1 k2 k3 kf0 kf1 kf2 kf3;replace HX:=Lib.hid (HX.out.keep hb);clear x0 x1 x2 x3 x4 x5 xf0 xf1 xf2 xf3 xf4 xf5;replace HE:=Lib.hid (EfsAt.kept HE.out hb);replace HN:=Lib.hid (RunsAt.kept HN.out hb);replace HB:=Lib.hid (bch' HB.out hb);clear hb;obtain ⟨k0,k1,k2,k3,kf0,kf1,kf2,kf3⟩:=HK.out.c4;obtain ⟨x0,x1,x2,x3,x4,x5,xf0,xf1,xf2,xf3,xf4,xf5⟩:=HX.out.c6))
          go_wp2_with (first | (with_reducible refine ((HPK.out _).mono ?_);rintro e w' ⟨rfl,hb⟩;replace HK:=Lib.hid (HK.out.keep hb);clear k0 k1 k2 k3 kf0 kf1 kf2 kf3;replace HX:=Lib.hid (HX.out.keep hb);clear x0 x1 x2 x3 x4 x5 xf0 xf1 xf2 xf3 xf4 xf5;replace HE:=Lib.hid (EfsAt.kept HE.out hb);replace HN:=Lib.hid (RunsAt.kept HN.out hb);replace HB:=Lib.hid (bch' HB.out hb);clear hb;obtain ⟨k0,k1,k2,k3,kf0,kf1,kf2,kf3⟩:=HK.out.c4;obtain ⟨x0,x1,x2,x3,x4,x5,xf0,xf1,xf2,xf3,xf4,xf5⟩:=HX.out.c6))
          go_roundw
          case rel => exact ⟨k + 1,by rw [HS.out],by first | rfl | simp,by omega,HB⟩
          case measure => first | (simp [intOf];done) | (simp [intOf];omega)
        · have hlm:¬ (k:Int) < (M.length:Int):=by have:=HL.out;omega
          obtain rfl:k = R.length:=by omega
          rw [HEND.out]
          go_wp2_with (first | (with_reducible refine ((HAW.out _ (ENV.out.below HB.out)).mono ?_);rintro e w' ⟨rfl,hb⟩;replace HK:=Lib.hid (HK.out.keep hb);clear k0 k1 k2 k3 kf0 kf1 kf2 kf3;replace HE:=Lib.hid (EfsAt.kept HE.out hb);replace HN:=Lib.hid (RunsAt.kept HN.out hb);replace HB:=Lib.hid (bch' HB.out hb);clear hb;obtain ⟨k0,k1,k2,k3,kf0,kf1,kf2,kf3⟩:=HK.out.c4))
          go_ret
          exact ⟨rfl,bch' HB0.out HB.out⟩
  · have hff:rightB nv L R T C A = false:=by simpa using hfb
    rw [hff] at hri
    clear hfb hff
    have HAW:=Lib.hid haw;have HRI:=Lib.hid hri
    clear haw hri
    have hal:=(Below.refl w.heap.size w).alloc (Nat.le_refl _) (.cells #[.int .i64 T,.int .i64 N,.int .i64 C,.int .i64 A] 47)
    have HE1:=Lib.hid (EfsAt.kept hl hal);have HN1:=Lib.hid (RunsAt.kept hr hal)
    have HB0:=Lib.hid hal
    have HK1:=Lib.hid (Blk.new w 47 #[.int .i64 T,.int .i64 N,.int .i64 C,.int .i64 A])
    clear hal hl hr
    go_enter Tryz.func5,Tryz.ntmps5
    go_upto_region 1 with fail
    obtain ⟨W2,hW2⟩:∃ X,X = w.alloc (.cells #[.int .i64 T,.int .i64 N,.int .i64 C,.int .i64 A] 47):=⟨_,rfl⟩
    rw [← hW2] at HE1 HN1 HB0 HK1 ⊢
    have ENV:=Lib.hid (env.below HB0.out)
    clear hW2
    have HB:=Lib.hid (Below.refl W2.heap.size W2)
    have HK:=Lib.hid HK1.out;have HE:=Lib.hid HE1.out;have HN:=Lib.hid HN1.out
    obtain ⟨k0,k1,k2,k3,kf0,kf1,kf2,kf3⟩:=HK.out.c4
    clear env n0 n1
    go_wp2_with (first | (with_reducible refine ((HRI.out _ HE.out HN.out).mono ?_);rintro e w' ⟨rfl,hb⟩;replace HK:=Lib.hid (HK.out.keep hb);clear k0 k1 k2 k3 kf0 kf1 kf2 kf3;replace HE:=Lib.hid (EfsAt.kept HE.out hb);replace HN:=Lib.hid (RunsAt.kept HN.out hb);replace HB:=Lib.hid (bch' HB.out hb);clear hb;obtain ⟨k0,k1,k2,k3,kf0,kf1,kf2,kf3⟩:=HK.out.c4) | (with_reducible refine ((HAW.out _ (ENV.out.below HB.out)).mono ?_);rintro e w' ⟨rfl,hb⟩;replace HK:=Lib.hid (HK.out.keep hb);clear k0 k1 k2 k3 kf0 kf1 kf2 kf3;replace HE:=Lib.hid (EfsAt.kept HE.out hb);replace HN:=Lib.hid (RunsAt.kept HN.out hb);replace HB:=Lib.hid (bch' HB.out hb);clear hb;obtain ⟨k0,k1,k2,k3,kf0,kf1,kf2,kf3⟩:=HK.out.c4))
    go_ret
    exact ⟨rfl,bch' HB0.out HB.out⟩
end Go.Proofs.YtbeojahilbglcaaGreatDoor

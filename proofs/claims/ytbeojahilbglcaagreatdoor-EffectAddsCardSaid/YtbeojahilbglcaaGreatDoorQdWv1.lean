/- A part of the proof of EffectAdds: contracts of functions, and plain facts. -/
import Derived.Test.YtbeojahilbglcaaGreatDoorQdMf
import Derived.Test.YtbeojahilbglcaaGreatDoorQdWa
import Derived.Test.YtbeojahilbglcaaGreatDoorQdWv2
import Derived.Test.YtbeojahilbglcaaGreatDoorQdTl
import Derived.Outline
set_option maxRecDepth 100000
set_option maxHeartbeats 2000000
set_option linter.unusedVariables false
set_option linter.unusedSimpArgs false
namespace Lum
open Go Go.RowKit Go.Shelf
open Go.Lib (decDigits itoa)
def upF (n k:Nat):List (Fin n):=(List.finRange n).take k
theorem upF_succ (n k:Nat) (h:k < n):upF n (k + 1) = upF n k ++ [⟨k,h⟩]:=by
  unfold upF
  rw [List.take_succ_eq_append_getElem (by simpa using h)]
  congr 1
  simp
theorem upF_length (n k:Nat) (h:k ≤ n):(upF n k).length = k:=by simp [upF];omega
theorem upF_zero (n:Nat):upF n 0 = []:=by simp [upF]
theorem upF_snoc {n:Nat} {pre:List (Fin n)} {x:Fin n} (h:pre ++ [x] = upF n (pre.length + 1)) (hl:pre.length < n):pre = upF n pre.length ∧ x.1 = pre.length:=by
  rw [upF_succ n _ hl] at h
  obtain ⟨h1,h2⟩:=List.append_inj' h rfl
  refine ⟨h1,?_⟩
  have:x = ⟨pre.length,hl⟩:=by simpa using h2
  rw [this]
def ptV (l:List (Int × Int)) (i:Nat):Value:=.agg #[.int .i64 (pX l i),.int .i64 (pY l i)]
end Lum
namespace Go.Proofs.YtbeojahilbglcaaGreatDoor
open Go.RowKit Go.Shelf Lum
attribute [local go_sem] Oper.semAt_some
theorem pairs1_in (F : Fence) (n : Nat) (hf : F.fn 197) (hro : F.round = none) (hn : 1 ≤ n) (l Bs n₀ b off cap : Nat) (ps : List (Int × Int)) (hlen : ps.length ≤ 1000000000) (hb : b < n₀) (J Jx : List (Fin (ps.length - 1)) → World → Prop)
    (hY:∀ pre x W,J pre W → pre.length < ps.length - 1 → YieldAt F (n - 1) Tryz.prog l #[ptV ps x.1,ptV ps (x.1 + 1)] W fun e W' =>
      (e = .returned (.bool true) ∧ J (pre ++ [x]) W' ∧ KeepB n₀ Bs W W') ∨ (e = .returned (.bool false) ∧ Jx (pre ++ [x]) W'))
    (W:World) (hJ:AbidesFrom W.heap.size J) (hBs:Boxed W Bs 69 (.slice (some ⟨b,off,none⟩) ps.length cap))
    (hc:∀ j,j < ps.length → W.cell? ⟨b,off + j * 2,none⟩ = some (.int .i64 (pX ps j)) ∧ W.cell? ⟨b,off + j * 2 + 1,none⟩ = some (.int .i64 (pY ps j))) (h0:J [] W) :
    CallsIn F n Tryz.prog 197 #[.func (.yield l) #[] #[], .pointer (some ⟨Bs, 0, none⟩)] W fun e W' => (∃ v, e = .returned v) ∧
      ((∃ ys,ys = upF (ps.length - 1) (ps.length - 1) ∧ J ys W') ∨ (∃ pre,(∃ k,k ≤ ps.length - 1 ∧ pre = upF (ps.length - 1) k) ∧ Jx pre W')):=by
  refine callsIn_of_wp Tryz.func197 rfl hf ?_ hro
  simp only [Tryz.ntmps197,List.size_toArray,List.length_cons,List.length_nil,Nat.reduceAdd,Nat.reduceSub,Array.replicate_succ,Array.replicate_zero,List.push_toArray,List.append_toArray,List.nil_append,List.cons_append]
  have hBc:=hBs.cell
  gi_wp2
  gi_loopw [3] (fun i wr => ∃ k r : Nat, Hid (k + r = ps.length - 1) ∧ i = .int .i64 ((k : Int) + 1) ∧ J (upF (ps.length - 1) k) wr ∧ KeepB n₀ Bs W wr)
    (fun i _ => ps.length - (intOf i).toNat)
  case atStart => exact ⟨0,ps.length - 1,Lib.hid (by omega),rfl,by rw [upF_zero];exact h0,KeepB.refl _ _ _⟩
  case round =>
    obtain ⟨k,r,hk,rfl,hJs,hnx⟩:=hrel
    have hbx:wr.cell? ⟨Bs,0,none⟩ = some (.slice (some ⟨b,off,none⟩) ps.length cap):=Boxed.cell (hnx.2.trans hBs)
    cases r with
    | zero =>
      have hlt:¬ ((k:Int) + 1 < (ps.length:Int)):=by have:=hk.out;omega
      gi_wp2
      go_end0
      have hkl:k = ps.length - 1:=hk.out
      subst hkl
      exact ⟨⟨_,rfl⟩,.inl hJs⟩
    | succ m =>
      have hm:k < ps.length - 1:=by have:=hk.out;omega
      have hlt:(k:Int) + 1 < (ps.length:Int):=by omega
      have hw1:IntKind.i64.wrap ((k:Int) + 1 - 1) = k:=by rw [IntWalk.i64_in _ (by omega)];omega
      obtain ⟨c1,c2⟩:=hc k (by omega)
      obtain ⟨c3,c4⟩:=hc (k + 1) (by omega)
      have d1:=(hnx.1.cell (p:=⟨b,off + k * 2,none⟩) hb).trans c1
      have d2:=(hnx.1.cell (p:=⟨b,off + k * 2 + 1,none⟩) hb).trans c2
      have d3:=(hnx.1.cell (p:=⟨b,off + (k + 1) * 2,none⟩) hb).trans c3
      have d4:=(hnx.1.cell (p:=⟨b,off + (k + 1) * 2 + 1,none⟩) hb).trans c4
      have hsn:=Lib.hid (upF_succ (ps.length - 1) k hm)
      have hJd:J (upF (ps.length - 1) k) wr.drew:=hJ _ _ _ none hJs ⟨rfl,rfl,rfl,Nat.le_refl _,fun _ _ _ => rfl⟩ (fun r e => by cases e)
      have hkd:KeepB n₀ Bs wr wr.drew:=⟨(Below.refl _ wr).drew,rfl⟩
      obtain ⟨fn,tmps,assign,body,hy,hR⟩:=hY _ ⟨k,hm⟩ wr.drew hJd (by rw [upF_length _ _ (by omega)];exact hm)
      unfold ptV at hy
      dsimp only at hy
      have hR2:=hR.mono (R':=fun e W' => ∃ q:Bool,e = .returned (.bool q) ∧ ((q = true ∧ J (upF (ps.length - 1) k ++ [⟨k,hm⟩]) W' ∧ KeepB n₀ Bs wr W') ∨ (q = false ∧ Jx (upF (ps.length - 1) k ++ [⟨k,hm⟩]) W'))) (by
        rintro e W' (⟨rfl,h1,h2⟩ | ⟨rfl,h1⟩)
        · exact ⟨true,rfl,.inl ⟨rfl,h1,hkd.t h2⟩⟩
        · exact ⟨false,rfl,.inr ⟨rfl,h1⟩⟩)
      clear hR
      have hmx:Tryz.prog.follows .mixedOrders = true:=by kernel_rfl
      have hi1:k < ps.length:=by omega
      have hw3:IntKind.i64.wrap (k:Int) = k:=IntWalk.i64_in _ (by omega)
      have hp0:(0:Int) ≤ (k:Int) + 1:=by omega
      have hpt:((k:Int) + 1).toNat = k + 1:=by omega
      clear hc c1 c2 c3 c4 hY hJ hJd hBs h0
      have hi2:k + 1 < ps.length:=by omega
      gi_wp2
      refine wpIn_region_still_call 10 hmx (by kernel_rfl) (by kernel_rfl) ?_
      simp only [List.take_succ_cons,List.take_zero,List.drop_succ_cons,List.drop_zero]
      repeat still_step
      try refine wpStill_nil ?_
      change wpListIn _ _ _ _ _ _ _ wr.drew
      gi_wp2_with (refine hR2.mono ?_;rintro e W3 ⟨q,rfl,hq⟩)
      · rcases hq with ⟨rfl,h1,h2⟩ | ⟨rfl,h1⟩
        · exfalso;simp_all
        · refine bodyPost_ret (results_none rfl _ _ _) rfl ?_
          exact ⟨⟨_,rfl⟩,.inr ⟨_,⟨k + 1,by omega,hsn.out.symm⟩,h1⟩⟩
      · rcases hq with ⟨rfl,h1,h2⟩ | ⟨rfl,h1⟩
        · exact ⟨⟨k + 1,m,Lib.hid (by have:=hk.out;omega),by simp,by rw [hsn.out];exact h1,hnx.t h2⟩,by simp [intOf];omega⟩
        · exfalso;simp_all
theorem pairs_in (F : Fence) (n : Nat) (hf : F.fn 165) (hro : F.round = none) (a : Option Addr) (len cap : Nat) (w : World) :
    CallsIn F n Tryz.prog 165 #[.slice a len cap] w fun e w' => e = .returned (.func (.func 197) #[] #[.pointer (some ⟨w.heap.size,0,none⟩)]) ∧ w' = w.alloc (.cells #[.slice a len cap] 69):=by
  refine callsIn_of_wp Tryz.func165 rfl hf ?_ hro
  simp only [Tryz.ntmps165,List.size_toArray,List.length_cons,List.length_nil,Nat.reduceAdd,Nat.reduceSub,Array.replicate_succ,Array.replicate_zero,List.push_toArray,List.append_toArray,List.nil_append,List.cons_append]
  gi_wp2
  go_ret
  exact ⟨rfl,rfl⟩
theorem pairs_stops (F : Fence) (n : Nat) (hf : F.fn 197) (hro : F.round = none) (hn : 1 ≤ n) (Bs n₀ : Nat) (sv : Value) (ps : List (Int × Int)) (hlen : ps.length ≤ 1000000000) (hne : ps ≠ []) (w : World) (hn₀ : n₀ ≤ w.heap.size)
    (hc:Boxed w Bs 69 sv) (W0:World) (hI:PtsAt W0 sv ps) (hW0:W0.heap.size = n₀) (hb0:Below n₀ W0 w) :
    SeqStopsK F n Tryz.prog 197 #[.pointer (some ⟨Bs, 0, none⟩)] (fun x : Fin (ps.length - 1) => #[ptV ps x.1, ptV ps (x.1 + 1)]) (KeepB n₀ Bs) (fun ys => ys = upF (ps.length - 1) (ps.length - 1))
      (fun pre => ∃ k,k ≤ ps.length - 1 ∧ pre = upF (ps.length - 1) k) (ps.length - 1) w:=fun l J Jx W hW hJ _ hY h0 => by
  have hc':Boxed W Bs 69 sv:=(hW.block Bs hc.lt).trans hc
  have hbw:=hb0.trans (hW.mono hn₀)
  subst hW0
  obtain ⟨p,cap,rfl,h⟩:=hI
  obtain ⟨b,off,rfl,hb,hcs⟩:=h hne
  exact pairs1_in F n hf hro hn l Bs _ b off cap ps hlen hb J Jx hY W hJ hc' (fun j hj => ⟨(hbw.cell (p:=⟨b,off + j * 2,none⟩) hb).trans (hcs j hj).1,(hbw.cell (p:=⟨b,off + j * 2 + 1,none⟩) hb).trans (hcs j hj).2⟩) h0
end Go.Proofs.YtbeojahilbglcaaGreatDoor

/-
  
-/
import Derived.Test.YtbeojahilbglcaaGreatDoorQdZq
import Derived.Test.YtbeojahilbglcaaGreatDoorQdLr
import Derived.Test.YtbeojahilbglcaaGreatDoorQdZr
import Derived.Test.YtbeojahilbglcaaGreatDoorQdZo
import Derived.Deep.RegionHeld3
set_option linter.unusedVariables false
set_option linter.unusedSimpArgs false
namespace Go.Proofs.YtbeojahilbglcaaGreatDoor
open Go.RowKit Go.Shelf Lum
open Go.Lib (decDigits itoa)
attribute [local go_sem] bs_get bs_extract_end bs_extract_from bs_extract bs_append
end Go.Proofs.YtbeojahilbglcaaGreatDoor
set_option maxRecDepth 100000
set_option maxHeartbeats 4000000
namespace Lum
open Go Go.RowKit Go.Shelf
open Go.Lib (decDigits itoa)
theorem putP_len (l:List (Int × Int)) (p:Int × Int):(putP l p).length ≤ l.length + 1:=by
  induction l with
  | nil => simp [putP]
  | cons x r ih => rw [putP];split;(· simpa using ih);split <;> simp
theorem putsP_len (l:List (Int × Int)):(putsP l).length ≤ l.length:=by
  unfold putsP
  suffices h:∀ (l a:List (Int × Int)),(l.foldl putP a).length ≤ a.length + l.length by simpa using h l []
  intro l
  induction l with
  | nil => intro a;simp
  | cons x r ih => intro a;have h1:=ih (putP a x);have h2:=putP_len a x;rw [List.foldl_cons,List.length_cons];omega
theorem RowX.nil {β:Type} {enc:β → List Value} {k:Nat} {W:World}:RowX enc k W none ([]:List β):=fun h => absurd rfl h
def ParP (l:List (Int × Int)) (n:Int) (w:World) (e:Ending) (w':World):Prop:=∃ v',e = .returned (.tuple #[v',.int .i64 n]) ∧ ParsAt w' v' l ∧ Below w.heap.size w w'
theorem ParP.nil {n:Int} {w w':World} {e:Ending} (he:e = .returned (.tuple #[.slice none 0 0,.int .i64 n])) (h:Below w.heap.size w w'):ParP [] n w e w':=⟨_,he,⟨none,0,rfl,RowX.nil⟩,h⟩
def parE (L:List Efx) (R:List Rnx):List (Int × Int):=if boE L R = 0 then parL L R else []
end Lum
namespace Go.Proofs.YtbeojahilbglcaaGreatDoor
open Go.RowKit Go.Shelf Lum
open Go.Lib (decDigits itoa)
attribute [local go_sem] bs_get bs_extract_end bs_extract_from bs_extract bs_append
theorem own_eparams (L : List Efx) (R : List Rnx) (v u : Value) (w : World) (hl : EfsAt w v L) (hu : RunsAt w u R) :
    Calls Tryz.prog 21 #[v,u] w (ParP (parE L R) (boE L R) w):=by
  by_cases hz:boE L R = 0
  · obtain ⟨h1,h2⟩:efsE L = 0 ∧ rnsE R = 0:=by by_cases h1:efsE L = 0;exact ⟨h1,by rw [boE_rn h1] at hz;exact hz⟩;rw [boE_ef h1] at hz;exact absurd hz h1
    rw [show parE L R = parL L R from if_pos hz,hz]
    obtain ⟨M,pp,cc,rfl,hM,hMR,hMW⟩:=hl
    obtain ⟨N,pr,cr,rfl,hN,hNR,hNC⟩:=hu
    subst hM hN
    exact own_eparams0 M N pp pr cc cr w hMR hMW hNR hNC (ordOk (show ordE efE (·.nu) _ = 0 from h1)) (ordOk (show ordE rnE (·.ef) _ = 0 from h2))
  · obtain ⟨pv,nv,cv,rfl⟩:∃ p n c,v = .slice p n c:=by obtain ⟨M,p,c,h,-⟩:=hl;exact ⟨_,_,_,h⟩
    have hbo:=fun W (h1:EfsAt W (.slice pv nv cv) L) (h2:RunsAt W u R) => own_eboth L R (.slice pv nv cv) u W h1 h2
    rw [show parE L R = [] from if_neg hz]
    have hal:=(Below.refl w.heap.size w).alloc (Nat.le_refl _) (.cells #[.slice pv nv cv] 43)
    have HE:=Lib.hid (EfsAt.kept hl hal);have HN:=Lib.hid (RunsAt.kept hu hal);have HB:=Lib.hid hal;clear hal hl hu
    have HL:=Lib.hid (Blk.new w 43 #[.slice pv nv cv])
    obtain ⟨a0,af0⟩:=HL.out.c1
    have hne:((boE L R:Int) != 0) = true:=by simpa using hz
    clear hz
    generalize boE L R = m at *
    have HBO:=Lib.hid hbo;clear hbo
    refine (callsIn_wide (n:=5)).1 ?_
    refine callsIn_of_wp_marks Tryz.func21 rfl trivial ?_ rfl
    simp only [Tryz.ntmps21,List.size_toArray,List.length_cons,List.length_nil,Nat.reduceAdd,Nat.reduceSub,Array.replicate_succ,Array.replicate_zero,List.push_toArray,List.append_toArray,List.nil_append,List.cons_append]
    refine wpIn_wide.2 ?_
    go_wp2_with (first | (with_reducible refine ((HBO.out _ HE.out HN.out).mono ?_);rintro e w' ⟨rfl,hb⟩;replace HL:=Lib.hid (HL.out.keep hb);clear a0 af0;replace HE:=Lib.hid (EfsAt.kept HE.out hb);replace HN:=Lib.hid (RunsAt.kept HN.out hb);replace HB:=Lib.hid (bch' HB.out hb);clear hb;obtain ⟨a0,af0⟩:=HL.out.c1))
    refine leaves_marks [] _ List.nodup_nil (fun D hD => by cases hD) ⟨.tuple #[.slice none 0 0,.int .i64 m],by simp [results,Tryz.f21,go_sem],ParP.nil rfl HB.out⟩
end Go.Proofs.YtbeojahilbglcaaGreatDoor

/- A part of the proof of EffectAdds: contracts of functions, and plain facts. -/
import Derived.Test.YtbeojahilbglcaaGreatDoorQdEv
import Derived.Carry
import Derived.WideKeyArgs
import Derived.Test.YtbeojahilbglcaaGreatDoorQdWa
import Derived.Deep.SlicePairs
import Derived.Test.YtbeojahilbglcaaGreatDoorQdYb
import Derived.Deep.Slices
import Derived.Laws.IdiomArrays
set_option maxRecDepth 100000
set_option linter.unusedVariables false
set_option linter.unusedSimpArgs false
namespace Go.Proofs.YtbeojahilbglcaaGreatDoor
open Go.ChangeShapes Go.WideShapes Go.ChangeAt Go.RowKit Go.Joins Lum
theorem trodAll_stays {H : Type} {enc : TypeId × Value → H} {P : Program} (hl : laidOutB P = true) {W W' : World} {sp' : Nat → Bool} :
    ∀ {ts : List TypeId} {vs : List Value} {ds : List (DataW H)} {ps : List MemPlace}, (∀ t ∈ ts, P.readableRec t = true ∧ t < P.types.size) → DataW.TrodAll enc P W 0 (fun _ => true) true ts vs ds ps →
      (∀ p ∈ ps,W.sameAt W' p) → (∀ p ∈ ps,sp' p.block = true) → DataW.TrodAll enc P W' 0 sp' true ts vs ds ps
  | [],_,_,_,_,h,_,_ => by
    obtain ⟨rfl,rfl,rfl⟩:=trodAll_nil h
    exact trodAll_mk0
  | t :: ts,_,_,_,hT,h,hs,hp => by
    obtain ⟨v,vs',d,ds',p,q,rfl,rfl,rfl,h1,h2⟩:=trodAll_cons h
    exact trodAll_cons_mk (Go.WideElems.Trod_stays hl (hT t (List.mem_cons_self)).1 (hT t (List.mem_cons_self)).2 h1 (fun x hx => hs x (List.mem_append_left _ hx)) (fun x hx => hp x (List.mem_append_left _ hx)))
      (trodAll_stays hl (fun t' h' => hT t' (List.mem_cons_of_mem _ h')) h2 (fun x hx => hs x (List.mem_append_right _ hx)) (fun x hx => hp x (List.mem_append_right _ hx)))
end Go.Proofs.YtbeojahilbglcaaGreatDoor
namespace Go.Proofs.YtbeojahilbglcaaGreatDoor
open Go.RowKit Go.Shelf Lum Go.ChangeShapes Go.WideShapes Go.ChangeAt Go.Joins
attribute [local go_sem] bs_get bs_extract_end bs_extract_from bs_extract bs_append
section
variable {H:Type} {enc:TypeId × Value → H} {W:World} {r:Reach} {b0 base:Nat} {spare:Nat → Bool} {held:Bool} {v:Value} {d:DataW H} {p:List MemPlace}
end
end Go.Proofs.YtbeojahilbglcaaGreatDoor
namespace Go.Proofs.YtbeojahilbglcaaGreatDoor
open Go.RowKit Go.Shelf Lum Go.ChangeShapes Go.WideShapes Go.ChangeAt Go.Joins
theorem open_els {α : Type} {P : Program} {H : Type} {enc : TypeId × Value → H} {W : World} {base : Nat} {spare : Nat → Bool} {held : Bool} {t e : TypeId} (ht : P.underlying t = some (.slice e)) (k : Nat) (hk : P.cellsOf e = k) (hk0 : 0 < k) (dd : α) (R : List Value → α → Prop)
    (hin:∀ n cs x,DataW.trod enc P W base spare held n e cs = some x → ∃ a,R cs a) {fuel:Nat} {cs:List Value} {x:DataW H × List MemPlace} (h:DataW.trod enc P W base spare held fuel t cs = some x) :
    ∃ (l:List α) (p:Option Addr) (c:Nat),cs = [.slice p l.length c] ∧ l.length ≤ c ∧ c ≤ maxLen ∧ (l ≠ [] → ∃ b o,p = some ⟨b,o,none⟩ ∧ b < W.heap.size ∧ ∀ i,i < l.length → ∃ cs',R cs' (l[i]?.getD dd) ∧ ∀ j v,cs'[j]? = some v → W.cell? ⟨b,o + i * k + j,none⟩ = some v):=by
  rcases Go.Deep.open_slice ht h with ⟨rfl,-⟩ | ⟨a,len,cap,m,n,D,Pl,rfl,hb,hl,hm,hmm,-,hx⟩
  · exact ⟨[],none,0,rfl,Nat.le_refl _,by simp,fun h => absurd rfl h⟩
  · have hlm:len ≤ m:=by rw [hmm];split <;> omega
    rw [hk] at hx
    have key:∀ i,∃ q:α,i < m → ∃ cs',R cs' q ∧ 0 < cs'.length ∧ ∀ j v,cs'[j]? = some v → W.cell? ((a.add (i * k)).add j) = some v:=by
      intro i
      by_cases hi:i < m
      · obtain ⟨cs',h1,h2⟩:=hx i hi
        obtain ⟨q,hq⟩:=hin _ _ _ h2
        obtain ⟨-,hcl,hat⟩:=World.cells?_some h1
        refine ⟨q,fun _ => ⟨cs',hq,by omega,fun j v hj => ?_⟩⟩
        have hjl:=(List.getElem?_eq_some_iff.1 hj).1
        rw [hat j (by omega),hj]
      · exact ⟨dd,fun h => absurd h hi⟩
    obtain ⟨q,hq⟩:=Classical.axiomOfChoice key
    have hlen:((List.range len).map q).length = len:=by simp
    refine ⟨(List.range len).map q,some a,cap,by rw [hlen],by rw [hlen];exact hl,hm,fun hne => ?_⟩
    have h0:0 < len:=by
      rcases Nat.eq_zero_or_pos len with h | h
      · subst h;exact absurd rfl hne
      · exact h
    obtain ⟨b,off,spot⟩:=a
    have hspot:spot = none:=by
      obtain ⟨cs',-,h2,h3⟩:=hq 0 (by omega)
      have:=h3 0 _ (List.getElem?_eq_getElem h2)
      rw [Nat.zero_mul] at this
      simpa [Addr.add] using World.cell?_spot this
    subst hspot
    refine ⟨b,off,rfl,?_,fun i hi => ?_⟩
    · obtain ⟨cs',-,h2,h3⟩:=hq 0 (by omega)
      have:=h3 0 _ (List.getElem?_eq_getElem h2)
      rw [add_plain,add_plain] at this
      exact World.block_lt_of_cell? W _ this
    · rw [hlen] at hi
      obtain ⟨cs',h1,-,h3⟩:=hq i (by omega)
      refine ⟨cs',?_,fun j v hj => ?_⟩
      · simpa [hi] using h1
      · have:=h3 j v hj
        rw [add_plain,add_plain] at this
        exact this
section
variable {H:Type} {enc:TypeId × Value → H} {W:World} {base:Nat} {spare:Nat → Bool} {held:Bool}
theorem point_in {fuel : Nat} {cs : List Value} {x : DataW H × List MemPlace} (h : DataW.trod enc Tryz.prog W base spare held fuel 124 cs = some x) :
    ∃ q:Int × Int,cs = [.int .i64 q.1,.int .i64 q.2]:=by
  obtain ⟨xs,n,-,-,hl,hxl,hf⟩:=DataW.trod_struct Tryz.underlying124 h
  have kc:cs.length = 2:=hl.trans (by kernel_rfl)
  match cs,kc with
  | [c0,c1],_ =>
    match xs,hxl with
    | [y0,y1],_ =>
      have k0:Tryz.prog.cellsOf 3 = 1:=by kernel_rfl
      have h0:DataW.trod enc Tryz.prog W base spare held n 3 [c0] = some y0:=by
        have h:DataW.trod enc Tryz.prog W base spare held n 3 (List.take (Tryz.prog.cellsOf 3) (List.drop 0 [c0,c1])) = [y0,y1][0]?:=hf 0 _ rfl
        rw [k0] at h
        exact h
      have k1:Tryz.prog.cellsOf 3 = 1:=by kernel_rfl
      have h1:DataW.trod enc Tryz.prog W base spare held n 3 [c1] = some y1:=by
        have h:DataW.trod enc Tryz.prog W base spare held n 3 (List.take (Tryz.prog.cellsOf 3) (List.drop 1 [c0,c1])) = [y0,y1][1]?:=hf 1 _ rfl
        rw [k1] at h
        exact h
      obtain ⟨a,e0,-,w0⟩:=DataW.trod_int Tryz.underlying3 h0
      obtain rfl:=(List.cons.inj e0).1
      obtain ⟨b,e1,-,w1⟩:=DataW.trod_int Tryz.underlying3 h1
      obtain rfl:=(List.cons.inj e1).1
      exact ⟨(a,b),rfl⟩
theorem points_in {fuel:Nat} {cs:List Value} {x:DataW H × List MemPlace} (h:DataW.trod enc Tryz.prog W base spare held fuel 69 cs = some x):∃ (s:Sl3) (l:List (Int × Int)),cs = [.slice s.1 s.2.1 s.2.2] ∧ PtsAt W (.slice s.1 s.2.1 s.2.2) l:=by
  obtain ⟨l,p,c,rfl,hl,-,hc⟩:=open_els Tryz.underlying69 2 (by kernel_rfl) (by omega) ((0,0):Int × Int) (fun cs q => cs = [.int .i64 q.1,.int .i64 q.2]) (fun _ _ _ h => point_in h) h
  refine ⟨(p,l.length,c),l,rfl,p,c,rfl,fun hn => ?_⟩
  obtain ⟨b,o,hp,hb,hc⟩:=hc hn
  refine ⟨b,o,hp,hb,fun i hi => ?_⟩
  obtain ⟨cs',rfl,h1⟩:=hc i hi
  exact ⟨h1 0 _ rfl,h1 1 _ rfl⟩
theorem one_in {fuel:Nat} {cs:List Value} {x:DataW H × List MemPlace} (h:DataW.trod enc Tryz.prog W base spare held fuel 3 cs = some x):∃ a:Int,cs = [.int .i64 a]:=by
  obtain ⟨a,e0,-,-⟩:=DataW.trod_int Tryz.underlying3 h
  exact ⟨a,e0⟩
theorem ints_in {fuel:Nat} {cs:List Value} {x:DataW H × List MemPlace} (h:DataW.trod enc Tryz.prog W base spare held fuel 25 cs = some x):∃ (s:Sl3) (l:List Int),cs = [.slice s.1 s.2.1 s.2.2] ∧ IntsAt W (.slice s.1 s.2.1 s.2.2) l ∧ l.length ≤ s.2.2:=by
  obtain ⟨l,p,c,rfl,hl,-,hc⟩:=open_els Tryz.underlying25 1 (by kernel_rfl) (by omega) (0:Int) (fun cs q => cs = [.int .i64 q]) (fun _ _ _ h => one_in h) h
  refine ⟨(p,l.length,c),l,rfl,⟨p,c,rfl,fun hn => ?_⟩,hl⟩
  obtain ⟨b,o,hp,hb,hc⟩:=hc hn
  refine ⟨b,o,hp,hb,fun i hi => ?_⟩
  obtain ⟨cs',rfl,h1⟩:=hc i hi
  simpa [inI] using h1 0 _ rfl
theorem clock_in {fuel : Nat} {cs : List Value} {x : DataW H × List MemPlace} (h : DataW.trod enc Tryz.prog W base spare held fuel 66 cs = some x) :
    ∃ (E R D L:Int),cs = [.int .i64 E,.int .i64 R,.int .i64 D,.int .i64 L]:=by
  obtain ⟨xs,n,-,-,hl,hxl,hf⟩:=DataW.trod_struct Tryz.underlying66 h
  have kc:cs.length = 4:=hl.trans (by kernel_rfl)
  match cs,kc with
  | [c0,c1,c2,c3],_ =>
    match xs,hxl with
    | [y0,y1,y2,y3],_ =>
      have k0:Tryz.prog.cellsOf 3 = 1:=by kernel_rfl
      have h0:DataW.trod enc Tryz.prog W base spare held n 3 [c0] = some y0:=by
        have h:DataW.trod enc Tryz.prog W base spare held n 3 (List.take (Tryz.prog.cellsOf 3) (List.drop 0 [c0,c1,c2,c3])) = [y0,y1,y2,y3][0]?:=hf 0 _ rfl
        rw [k0] at h
        exact h
      have k1:Tryz.prog.cellsOf 3 = 1:=by kernel_rfl
      have h1:DataW.trod enc Tryz.prog W base spare held n 3 [c1] = some y1:=by
        have h:DataW.trod enc Tryz.prog W base spare held n 3 (List.take (Tryz.prog.cellsOf 3) (List.drop 1 [c0,c1,c2,c3])) = [y0,y1,y2,y3][1]?:=hf 1 _ rfl
        rw [k1] at h
        exact h
      have k2:Tryz.prog.cellsOf 3 = 1:=by kernel_rfl
      have h2:DataW.trod enc Tryz.prog W base spare held n 3 [c2] = some y2:=by
        have h:DataW.trod enc Tryz.prog W base spare held n 3 (List.take (Tryz.prog.cellsOf 3) (List.drop 2 [c0,c1,c2,c3])) = [y0,y1,y2,y3][2]?:=hf 2 _ rfl
        rw [k2] at h
        exact h
      have k3:Tryz.prog.cellsOf 3 = 1:=by kernel_rfl
      have h3:DataW.trod enc Tryz.prog W base spare held n 3 [c3] = some y3:=by
        have h:DataW.trod enc Tryz.prog W base spare held n 3 (List.take (Tryz.prog.cellsOf 3) (List.drop 3 [c0,c1,c2,c3])) = [y0,y1,y2,y3][3]?:=hf 3 _ rfl
        rw [k3] at h
        exact h
      obtain ⟨a,e0,-,w0⟩:=DataW.trod_int Tryz.underlying3 h0
      obtain rfl:=(List.cons.inj e0).1
      obtain ⟨b,e1,-,w1⟩:=DataW.trod_int Tryz.underlying3 h1
      obtain rfl:=(List.cons.inj e1).1
      obtain ⟨c,e2,-,w2⟩:=DataW.trod_int Tryz.underlying3 h2
      obtain rfl:=(List.cons.inj e2).1
      obtain ⟨d,e3,-,w3⟩:=DataW.trod_int Tryz.underlying3 h3
      obtain rfl:=(List.cons.inj e3).1
      exact ⟨a,b,c,d,rfl⟩
theorem effect_in {fuel : Nat} {cs : List Value} {x : DataW H × List MemPlace} (h : DataW.trod enc Tryz.prog W base spare held fuel 71 cs = some x) :
    ∃ y:Efx × Sl3,cs = encE y ∧ PtsAt W (.slice y.2.1 y.2.2.1 y.2.2.2) y.1.wv:=by
  obtain ⟨xs,n,-,-,hl,hxl,hf⟩:=DataW.trod_struct Tryz.underlying71 h
  have kc:cs.length = 6:=hl.trans (by kernel_rfl)
  match cs,kc with
  | [c0,c1,c2,c3,c4,c5],_ =>
    match xs,hxl with
    | [y0,y1,y2,y3,y4,y5],_ =>
      have k0:Tryz.prog.cellsOf 3 = 1:=by kernel_rfl
      have h0:DataW.trod enc Tryz.prog W base spare held n 3 [c0] = some y0:=by
        have h:DataW.trod enc Tryz.prog W base spare held n 3 (List.take (Tryz.prog.cellsOf 3) (List.drop 0 [c0,c1,c2,c3,c4,c5])) = [y0,y1,y2,y3,y4,y5][0]?:=hf 0 _ rfl
        rw [k0] at h
        exact h
      have k1:Tryz.prog.cellsOf 3 = 1:=by kernel_rfl
      have h1:DataW.trod enc Tryz.prog W base spare held n 3 [c1] = some y1:=by
        have h:DataW.trod enc Tryz.prog W base spare held n 3 (List.take (Tryz.prog.cellsOf 3) (List.drop 1 [c0,c1,c2,c3,c4,c5])) = [y0,y1,y2,y3,y4,y5][1]?:=hf 1 _ rfl
        rw [k1] at h
        exact h
      have k2:Tryz.prog.cellsOf 69 = 1:=by kernel_rfl
      have h2:DataW.trod enc Tryz.prog W base spare held n 69 [c2] = some y2:=by
        have h:DataW.trod enc Tryz.prog W base spare held n 69 (List.take (Tryz.prog.cellsOf 69) (List.drop 2 [c0,c1,c2,c3,c4,c5])) = [y0,y1,y2,y3,y4,y5][2]?:=hf 2 _ rfl
        rw [k2] at h
        exact h
      have k3:Tryz.prog.cellsOf 3 = 1:=by kernel_rfl
      have h3:DataW.trod enc Tryz.prog W base spare held n 3 [c3] = some y3:=by
        have h:DataW.trod enc Tryz.prog W base spare held n 3 (List.take (Tryz.prog.cellsOf 3) (List.drop 3 [c0,c1,c2,c3,c4,c5])) = [y0,y1,y2,y3,y4,y5][3]?:=hf 3 _ rfl
        rw [k3] at h
        exact h
      have k4:Tryz.prog.cellsOf 3 = 1:=by kernel_rfl
      have h4:DataW.trod enc Tryz.prog W base spare held n 3 [c4] = some y4:=by
        have h:DataW.trod enc Tryz.prog W base spare held n 3 (List.take (Tryz.prog.cellsOf 3) (List.drop 4 [c0,c1,c2,c3,c4,c5])) = [y0,y1,y2,y3,y4,y5][4]?:=hf 4 _ rfl
        rw [k4] at h
        exact h
      have k5:Tryz.prog.cellsOf 3 = 1:=by kernel_rfl
      have h5:DataW.trod enc Tryz.prog W base spare held n 3 [c5] = some y5:=by
        have h:DataW.trod enc Tryz.prog W base spare held n 3 (List.take (Tryz.prog.cellsOf 3) (List.drop 5 [c0,c1,c2,c3,c4,c5])) = [y0,y1,y2,y3,y4,y5][5]?:=hf 5 _ rfl
        rw [k5] at h
        exact h
      obtain ⟨a,e0,-,w0⟩:=DataW.trod_int Tryz.underlying3 h0
      obtain rfl:=(List.cons.inj e0).1
      obtain ⟨b,e1,-,w1⟩:=DataW.trod_int Tryz.underlying3 h1
      obtain rfl:=(List.cons.inj e1).1
      obtain ⟨s,l,e2,hl2⟩:=points_in h2
      obtain rfl:=(List.cons.inj e2).1
      obtain ⟨c,e3,-,w3⟩:=DataW.trod_int Tryz.underlying3 h3
      obtain rfl:=(List.cons.inj e3).1
      obtain ⟨d,e4,-,w4⟩:=DataW.trod_int Tryz.underlying3 h4
      obtain rfl:=(List.cons.inj e4).1
      obtain ⟨f,e5,-,w5⟩:=DataW.trod_int Tryz.underlying3 h5
      obtain rfl:=(List.cons.inj e5).1
      exact ⟨(⟨a,b,l,c,d,f⟩,s),rfl,hl2⟩
theorem runL_in {fuel : Nat} {cs : List Value} {x : DataW H × List MemPlace} (h : DataW.trod enc Tryz.prog W base spare held fuel 68 cs = some x) :
    ∃ y:Rnx × Sl3,cs = encN y ∧ IntsAt W (.slice y.2.1 y.2.2.1 y.2.2.2) y.1.cs ∧ y.1.cs.length ≤ y.2.2.2:=by
  obtain ⟨xs,n,-,-,hl,hxl,hf⟩:=DataW.trod_struct Tryz.underlying68 h
  have kc:cs.length = 6:=hl.trans (by kernel_rfl)
  match cs,kc with
  | [c0,c1,c2,c3,c4,c5],_ =>
    match xs,hxl with
    | [y0,y1,y2],_ =>
      have k0:Tryz.prog.cellsOf 3 = 1:=by kernel_rfl
      have h0:DataW.trod enc Tryz.prog W base spare held n 3 [c0] = some y0:=by
        have h:DataW.trod enc Tryz.prog W base spare held n 3 (List.take (Tryz.prog.cellsOf 3) (List.drop 0 [c0,c1,c2,c3,c4,c5])) = [y0,y1,y2][0]?:=hf 0 _ rfl
        rw [k0] at h
        exact h
      have k1:Tryz.prog.cellsOf 25 = 1:=by kernel_rfl
      have h1:DataW.trod enc Tryz.prog W base spare held n 25 [c1] = some y1:=by
        have h:DataW.trod enc Tryz.prog W base spare held n 25 (List.take (Tryz.prog.cellsOf 25) (List.drop 1 [c0,c1,c2,c3,c4,c5])) = [y0,y1,y2][1]?:=hf 1 _ rfl
        rw [k1] at h
        exact h
      have k2:Tryz.prog.cellsOf 66 = 4:=by kernel_rfl
      have h2:DataW.trod enc Tryz.prog W base spare held n 66 [c2,c3,c4,c5] = some y2:=by
        have h:DataW.trod enc Tryz.prog W base spare held n 66 (List.take (Tryz.prog.cellsOf 66) (List.drop 2 [c0,c1,c2,c3,c4,c5])) = [y0,y1,y2][2]?:=hf 2 _ rfl
        rw [k2] at h
        exact h
      obtain ⟨a,e0,-,w0⟩:=DataW.trod_int Tryz.underlying3 h0
      obtain rfl:=(List.cons.inj e0).1
      obtain ⟨s,l,e2,hl2⟩:=ints_in h1
      obtain rfl:=(List.cons.inj e2).1
      obtain ⟨E,R,D,L,e3⟩:=clock_in h2
      simp only [List.cons.injEq,and_true] at e3
      obtain ⟨rfl,rfl,rfl,rfl⟩:=e3
      exact ⟨(⟨a,l,E,R,D,L⟩,s),rfl,hl2⟩
variable {r:Reach} {b0:Nat} {v:Value} {d:DataW H} {p:List MemPlace}
theorem open_effs (hv:Value.okWide Tryz.prog W r b0 43 v) (h:DataW.Trod enc Tryz.prog W base spare held 43 v d p):∃ l,EfsAt W v l ∧ l.length ≤ maxLen:=by
  obtain ⟨a0,len,cap,rfl⟩:=okWide_slice Tryz.underlying43 hv
  obtain ⟨fuel,hf⟩:=h
  obtain ⟨l,p,c,h1,hl,hm,hc⟩:=open_els Tryz.underlying43 6 (by kernel_rfl) (by omega) ((⟨0,0,[],0,0,0⟩,(none,0,0)):Efx × Sl3) (fun cs y => cs = encE y ∧ PtsAt W (.slice y.2.1 y.2.2.1 y.2.2.2) y.1.wv) (fun _ _ _ h => effect_in h) hf
  have h9:Value.slice a0 len cap = .slice p l.length c:=(List.cons.inj h1).1
  rw [h9]
  refine ⟨l.map (·.1),⟨l,p,c,rfl,rfl,fun hn => ?_,fun y hy => ?_⟩,by rw [List.length_map];omega⟩
  · obtain ⟨b,o,hp,hb,hc⟩:=hc hn
    refine ⟨b,o,hp,hb,fun i hi j u hu => ?_⟩
    obtain ⟨cs',⟨rfl,-⟩,h1⟩:=hc i hi
    rw [List.getElem?_eq_getElem hi] at h1
    exact h1 j u hu
  · obtain ⟨b,o,hp,hb,hc⟩:=hc (fun h => by subst h;cases hy)
    obtain ⟨i,hi,rfl⟩:=List.getElem_of_mem hy
    obtain ⟨cs',⟨-,h2⟩,-⟩:=hc i hi
    rw [List.getElem?_eq_getElem hi] at h2
    exact h2
theorem open_runs (hv:Value.okWide Tryz.prog W r b0 22 v) (h:DataW.Trod enc Tryz.prog W base spare held 22 v d p):∃ l,RunsAt W v l ∧ l.length ≤ maxLen:=by
  obtain ⟨a0,len,cap,rfl⟩:=okWide_slice Tryz.underlying22 hv
  obtain ⟨fuel,hf⟩:=h
  obtain ⟨l,p,c,h1,hl,hm,hc⟩:=open_els Tryz.underlying22 6 (by kernel_rfl) (by omega) ((⟨0,[],0,0,0,0⟩,(none,0,0)):Rnx × Sl3) (fun cs y => cs = encN y ∧ IntsAt W (.slice y.2.1 y.2.2.1 y.2.2.2) y.1.cs ∧ y.1.cs.length ≤ y.2.2.2) (fun _ _ _ h => runL_in h) hf
  have h9:Value.slice a0 len cap = .slice p l.length c:=(List.cons.inj h1).1
  rw [h9]
  refine ⟨l.map (·.1),⟨l,p,c,rfl,rfl,fun hn => ?_,fun y hy => ?_⟩,by rw [List.length_map];omega⟩
  · obtain ⟨b,o,hp,hb,hc⟩:=hc hn
    refine ⟨b,o,hp,hb,fun i hi j u hu => ?_⟩
    obtain ⟨cs',⟨rfl,-⟩,h1⟩:=hc i hi
    rw [List.getElem?_eq_getElem hi] at h1
    exact h1 j u hu
  · obtain ⟨b,o,hp,hb,hc⟩:=hc (fun h => by subst h;cases hy)
    obtain ⟨i,hi,rfl⟩:=List.getElem_of_mem hy
    obtain ⟨cs',⟨-,h2⟩,-⟩:=hc i hi
    rw [List.getElem?_eq_getElem hi] at h2
    exact h2
theorem param28_in {fuel : Nat} {cs : List Value} {x : DataW H × List MemPlace} (h : DataW.trod enc Tryz.prog W base spare held fuel 45 cs = some x) :
    ∃ (ch at_:Int),cs = [.int .i64 ch,.int .i64 at_] ∧ (-9223372036854775808 ≤ ch ∧ ch ≤ 9223372036854775807) ∧ (-9223372036854775808 ≤ at_ ∧ at_ ≤ 9223372036854775807):=by
  obtain ⟨xs,n,-,-,hl,hxl,hf⟩:=DataW.trod_struct Tryz.underlying45 h
  have kc:cs.length = 2:=hl.trans (by kernel_rfl)
  match cs,kc with
  | [c0,c1],_ =>
    match xs,hxl with
    | [y0,y1],_ =>
      have k0:Tryz.prog.cellsOf 3 = 1:=by kernel_rfl
      have h0:DataW.trod enc Tryz.prog W base spare held n 3 [c0] = some y0:=by
        have h:DataW.trod enc Tryz.prog W base spare held n 3 (List.take (Tryz.prog.cellsOf 3) (List.drop 0 [c0,c1])) = [y0,y1][0]?:=hf 0 _ rfl
        rw [k0] at h
        exact h
      have k1:Tryz.prog.cellsOf 3 = 1:=by kernel_rfl
      have h1:DataW.trod enc Tryz.prog W base spare held n 3 [c1] = some y1:=by
        have h:DataW.trod enc Tryz.prog W base spare held n 3 (List.take (Tryz.prog.cellsOf 3) (List.drop 1 [c0,c1])) = [y0,y1][1]?:=hf 1 _ rfl
        rw [k1] at h
        exact h
      obtain ⟨a,e0,-,w0⟩:=DataW.trod_int Tryz.underlying3 h0
      obtain rfl:=(List.cons.inj e0).1
      obtain ⟨b,e1,-,w1⟩:=DataW.trod_int Tryz.underlying3 h1
      obtain rfl:=(List.cons.inj e1).1
      exact ⟨a,b,rfl,wf_i64 w0,wf_i64 w1⟩
theorem moment_in {fuel : Nat} {cs : List Value} {x : DataW H × List MemPlace} (h : DataW.trod enc Tryz.prog W base spare held fuel 47 cs = some x) :
    ∃ (a b c d:Int),cs = [.int .i64 a,.int .i64 b,.int .i64 c,.int .i64 d] ∧ (-9223372036854775808 ≤ a ∧ a ≤ 9223372036854775807) ∧ (-9223372036854775808 ≤ b ∧ b ≤ 9223372036854775807) ∧ (-9223372036854775808 ≤ c ∧ c ≤ 9223372036854775807) ∧ (-9223372036854775808 ≤ d ∧ d ≤ 9223372036854775807):=by
  obtain ⟨xs,n,-,-,hl,hxl,hf⟩:=DataW.trod_struct Tryz.underlying47 h
  have kc:cs.length = 4:=hl.trans (by kernel_rfl)
  match cs,kc with
  | [c0,c1,c2,c3],_ =>
    match xs,hxl with
    | [y0,y1,y2],_ =>
      have k0:Tryz.prog.cellsOf 3 = 1:=by kernel_rfl
      have h0:DataW.trod enc Tryz.prog W base spare held n 3 [c0] = some y0:=by
        have h:DataW.trod enc Tryz.prog W base spare held n 3 (List.take (Tryz.prog.cellsOf 3) (List.drop 0 [c0,c1,c2,c3])) = [y0,y1,y2][0]?:=hf 0 _ rfl
        rw [k0] at h
        exact h
      have k1:Tryz.prog.cellsOf 3 = 1:=by kernel_rfl
      have h1:DataW.trod enc Tryz.prog W base spare held n 3 [c1] = some y1:=by
        have h:DataW.trod enc Tryz.prog W base spare held n 3 (List.take (Tryz.prog.cellsOf 3) (List.drop 1 [c0,c1,c2,c3])) = [y0,y1,y2][1]?:=hf 1 _ rfl
        rw [k1] at h
        exact h
      have k2:Tryz.prog.cellsOf 45 = 2:=by kernel_rfl
      have h2:DataW.trod enc Tryz.prog W base spare held n 45 [c2,c3] = some y2:=by
        have h:DataW.trod enc Tryz.prog W base spare held n 45 (List.take (Tryz.prog.cellsOf 45) (List.drop 2 [c0,c1,c2,c3])) = [y0,y1,y2][2]?:=hf 2 _ rfl
        rw [k2] at h
        exact h
      obtain ⟨a,e0,-,w0⟩:=DataW.trod_int Tryz.underlying3 h0
      obtain rfl:=(List.cons.inj e0).1
      obtain ⟨b,e1,-,w1⟩:=DataW.trod_int Tryz.underlying3 h1
      obtain rfl:=(List.cons.inj e1).1
      obtain ⟨c,d,e2,hc,hd⟩:=param28_in h2
      simp only [List.cons.injEq,and_true] at e2
      obtain ⟨rfl,rfl⟩:=e2
      exact ⟨a,b,c,d,rfl,wf_i64 w0,wf_i64 w1,hc,hd⟩
theorem open_moment (hv:Value.okWide Tryz.prog W r b0 47 v) (h:DataW.Trod enc Tryz.prog W base spare held 47 v d p):∃ (a b c d:Int),v = .agg #[.int .i64 a,.int .i64 b,.int .i64 c,.int .i64 d] ∧ (-9223372036854775808 ≤ a ∧ a ≤ 9223372036854775807) ∧ (-9223372036854775808 ≤ b ∧ b ≤ 9223372036854775807) ∧ (-9223372036854775808 ≤ c ∧ c ≤ 9223372036854775807) ∧ (-9223372036854775808 ≤ d ∧ d ≤ 9223372036854775807):=by
  obtain ⟨cs,rfl,hsz⟩:=okWide_struct Tryz.underlying47 hv
  obtain ⟨l⟩:=cs
  obtain ⟨fuel,hf⟩:=h
  obtain ⟨a,b,c,d,h1,h2⟩:=moment_in hf
  exact ⟨a,b,c,d,by simpa [Value.cells] using h1,h2⟩
end
end Go.Proofs.YtbeojahilbglcaaGreatDoor
namespace Go.Proofs.YtbeojahilbglcaaGreatDoor
open Go.RowKit Go.Shelf Lum Go.ChangeShapes Go.WideShapes Go.ChangeAt Go.Joins
section
variable {H:Type} {enc:TypeId × Value → H} {P:Program} {w:World} {base:Nat} {spare:Nat → Bool} {held:Bool}
end
section
variable {H:Type} {enc:TypeId × Value → H} {W:World} {base:Nat} {spare:Nat → Bool} {held:Bool} {r:Reach} {b0:Nat} {v:Value} {d:DataW H} {p:List MemPlace}
end
end Go.Proofs.YtbeojahilbglcaaGreatDoor

/-
  
-/
import Derived.Test.YtmjkenlifgmeeaaGreatDoorQzHl
import Derived.Test.YtmjkenlifgmeeaaGreatDoorQzEv
import Derived.Carry
import Derived.WideKeyArgs
import Derived.Deep.Slices
import Derived.Test.YtmjkenlifgmeeaaGreatDoorQzJg
import Derived.Test.YtmjkenlifgmeeaaGreatDoorQzJj
import Derived.BigRegion
import Derived.Test.YtmjkenlifgmeeaaGreatDoorQzHf
import Derived.Test.YtmjkenlifgmeeaaGreatDoorQzHh
set_option linter.unusedVariables false
set_option linter.unusedSimpArgs false
set_option maxRecDepth 100000
namespace Go.Proofs.YtmjkenlifgmeeaaGreatDoor
open Go.RowKit Go.Shelf Lum Go.ChangeShapes Go.WideShapes Go.ChangeAt Go.Joins
theorem trodAll_stays {H : Type} {enc : TypeId × Value → H} {P : Program} (hl : laidOutB P = true) {W W' : World} {sp' : Nat → Bool} :
    ∀ {ts : List TypeId} {vs : List Value} {ds : List (DataW H)} {ps : List MemPlace}, (∀ t ∈ ts, P.readableRec t = true ∧ t < P.types.size) → DataW.TrodAll enc P W 0 (fun _ => true) true ts vs ds ps →
      (∀ p ∈ ps,W.sameAt W' p) → (∀ p ∈ ps,sp' p.block = true) → DataW.TrodAll enc P W' 0 sp' true ts vs ds ps
  | [],_,_,_,_,h,_,_ => by
    obtain ⟨rfl,rfl,rfl⟩:=trodAll_nil h
    exact trodAll_mk0
  | t :: ts,_,_,_,hT,h,hs,hp => by
    obtain ⟨v,vs',d,ds',p,q,rfl,rfl,rfl,h1,h2⟩:=trodAll_cons h
    exact trodAll_cons_mk (Go.WideElems.Trod_stays hl (hT t (List.mem_cons_self)).1 (hT t (List.mem_cons_self)).2 h1 (fun x hx => hs x (List.mem_append_left _ hx)) (fun x hx => hp x (List.mem_append_left _ hx)))
      (trodAll_stays hl (fun t' h' => hT t' (List.mem_cons_of_mem _ h')) h2 (fun x hx => hs x (List.mem_append_right _ hx)) (fun x hx => hp x (List.mem_append_right _ hx)))
theorem open_els {α : Type} {P : Program} {H : Type} {enc : TypeId × Value → H} {W : World} {base : Nat} {spare : Nat → Bool} {held : Bool} {t e : TypeId} (ht : P.underlying t = some (.slice e)) (k : Nat) (hk : P.cellsOf e = k) (hk0 : 0 < k) (dd : α) (R : List Value → α → Prop)
    (hin:∀ n cs x,DataW.trod enc P W base spare held n e cs = some x → ∃ a,R cs a) {fuel:Nat} {cs:List Value} {x:DataW H × List MemPlace} (h:DataW.trod enc P W base spare held fuel t cs = some x) :
    ∃ (l:List α) (p:Option Addr) (c:Nat),cs = [.slice p l.length c] ∧ l.length ≤ c ∧ c ≤ maxLen ∧ (l ≠ [] → ∃ b o,p = some ⟨b,o,none⟩ ∧ b < W.heap.size ∧ ∀ i,i < l.length → ∃ cs',R cs' (l[i]?.getD dd) ∧ ∀ j v,cs'[j]? = some v → W.cell? ⟨b,o + i * k + j,none⟩ = some v):=by
  rcases Go.Deep.open_slice ht h with ⟨rfl,-⟩ | ⟨a,len,cap,m,n,D,Pl,rfl,hb,hl,hm,hmm,-,hx⟩
  · exact ⟨[],none,0,rfl,Nat.le_refl _,by simp,fun h => absurd rfl h⟩
  · have hlm:len ≤ m:=by rw [hmm];split <;> omega
    rw [hk] at hx
    have key:∀ i,∃ q:α,i < m → ∃ cs',R cs' q ∧ 0 < cs'.length ∧ ∀ j v,cs'[j]? = some v → W.cell? ((a.add (i * k)).add j) = some v:=by
      intro i
      by_cases hi:i < m
      · obtain ⟨cs',h1,h2⟩:=hx i hi
        obtain ⟨q,hq⟩:=hin _ _ _ h2
        obtain ⟨-,hcl,hat⟩:=World.cells?_some h1
        refine ⟨q,fun _ => ⟨cs',hq,by omega,fun j v hj => ?_⟩⟩
        have hjl:=(List.getElem?_eq_some_iff.1 hj).1
        rw [hat j (by omega),hj]
      · exact ⟨dd,fun h => absurd h hi⟩
    obtain ⟨q,hq⟩:=Classical.axiomOfChoice key
    have hlen:((List.range len).map q).length = len:=by simp
    refine ⟨(List.range len).map q,some a,cap,by rw [hlen],by rw [hlen];exact hl,hm,fun hne => ?_⟩
    have h0:0 < len:=by
      rcases Nat.eq_zero_or_pos len with h | h
      · subst h;exact absurd rfl hne
      · exact h
    obtain ⟨b,off,spot⟩:=a
    have hspot:spot = none:=by
      obtain ⟨cs',-,h2,h3⟩:=hq 0 (by omega)
      have:=h3 0 _ (List.getElem?_eq_getElem h2)
      rw [Nat.zero_mul] at this
      simpa [Addr.add] using World.cell?_spot this
    subst hspot
    refine ⟨b,off,rfl,?_,fun i hi => ?_⟩
    · obtain ⟨cs',-,h2,h3⟩:=hq 0 (by omega)
      have:=h3 0 _ (List.getElem?_eq_getElem h2)
      rw [add_plain,add_plain] at this
      exact World.block_lt_of_cell? W _ this
    · rw [hlen] at hi
      obtain ⟨cs',h1,-,h3⟩:=hq i (by omega)
      refine ⟨cs',?_,fun j v hj => ?_⟩
      · simpa [hi] using h1
      · have:=h3 j v hj
        rw [add_plain,add_plain] at this
        exact this
section
variable {H:Type} {enc:TypeId × Value → H} {W:World} {base:Nat} {spare:Nat → Bool} {held:Bool}
theorem param29_in {fuel : Nat} {cs : List Value} {x : DataW H × List MemPlace} (h : DataW.trod enc Tryz.prog W base spare held fuel 34 cs = some x) :
    ∃ (ch at_:Int),cs = [.int .i64 ch,.int .i64 at_] ∧ (-9223372036854775808 ≤ ch ∧ ch ≤ 9223372036854775807) ∧ (-9223372036854775808 ≤ at_ ∧ at_ ≤ 9223372036854775807):=by
  obtain ⟨xs,n,-,-,hl,hxl,hf⟩:=DataW.trod_struct Tryz.underlying34 h
  have kc:cs.length = 2:=hl.trans (by kernel_rfl)
  match cs,kc with
  | [c0,c1],_ =>
    match xs,hxl with
    | [y0,y1],_ =>
      have k0:Tryz.prog.cellsOf 3 = 1:=by kernel_rfl
      have h0:DataW.trod enc Tryz.prog W base spare held n 3 [c0] = some y0:=by
        have h:DataW.trod enc Tryz.prog W base spare held n 3 (List.take (Tryz.prog.cellsOf 3) (List.drop 0 [c0,c1])) = [y0,y1][0]?:=hf 0 _ rfl
        rw [k0] at h
        exact h
      have k1:Tryz.prog.cellsOf 3 = 1:=by kernel_rfl
      have h1:DataW.trod enc Tryz.prog W base spare held n 3 [c1] = some y1:=by
        have h:DataW.trod enc Tryz.prog W base spare held n 3 (List.take (Tryz.prog.cellsOf 3) (List.drop 1 [c0,c1])) = [y0,y1][1]?:=hf 1 _ rfl
        rw [k1] at h
        exact h
      obtain ⟨a,e0,-,w0⟩:=DataW.trod_int Tryz.underlying3 h0
      obtain rfl:=(List.cons.inj e0).1
      obtain ⟨b,e1,-,w1⟩:=DataW.trod_int Tryz.underlying3 h1
      obtain rfl:=(List.cons.inj e1).1
      exact ⟨a,b,rfl,wf_i64 w0,wf_i64 w1⟩
theorem value29_in {fuel : Nat} {cs : List Value} {x : DataW H × List MemPlace} (h : DataW.trod enc Tryz.prog W base spare held fuel 36 cs = some x) :
    ∃ (ch at_:Int),cs = [.int .i64 ch,.int .i64 at_] ∧ (-9223372036854775808 ≤ ch ∧ ch ≤ 9223372036854775807) ∧ (-9223372036854775808 ≤ at_ ∧ at_ ≤ 9223372036854775807):=by
  obtain ⟨xs,n,-,-,hl,hxl,hf⟩:=DataW.trod_struct Tryz.underlying36 h
  have kc:cs.length = 2:=hl.trans (by kernel_rfl)
  match cs,kc with
  | [c0,c1],_ =>
    match xs,hxl with
    | [y0,y1],_ =>
      have k0:Tryz.prog.cellsOf 3 = 1:=by kernel_rfl
      have h0:DataW.trod enc Tryz.prog W base spare held n 3 [c0] = some y0:=by
        have h:DataW.trod enc Tryz.prog W base spare held n 3 (List.take (Tryz.prog.cellsOf 3) (List.drop 0 [c0,c1])) = [y0,y1][0]?:=hf 0 _ rfl
        rw [k0] at h
        exact h
      have k1:Tryz.prog.cellsOf 3 = 1:=by kernel_rfl
      have h1:DataW.trod enc Tryz.prog W base spare held n 3 [c1] = some y1:=by
        have h:DataW.trod enc Tryz.prog W base spare held n 3 (List.take (Tryz.prog.cellsOf 3) (List.drop 1 [c0,c1])) = [y0,y1][1]?:=hf 1 _ rfl
        rw [k1] at h
        exact h
      obtain ⟨a,e0,-,w0⟩:=DataW.trod_int Tryz.underlying3 h0
      obtain rfl:=(List.cons.inj e0).1
      obtain ⟨b,e1,-,w1⟩:=DataW.trod_int Tryz.underlying3 h1
      obtain rfl:=(List.cons.inj e1).1
      exact ⟨a,b,rfl,wf_i64 w0,wf_i64 w1⟩
theorem entry_in {fuel : Nat} {cs : List Value} {x : DataW H × List MemPlace} (h : DataW.trod enc Tryz.prog W base spare held fuel 38 cs = some x) :
    ∃ y:Ent,cs = encEn y:=by
  obtain ⟨xs,n,-,-,hl,hxl,hf⟩:=DataW.trod_struct Tryz.underlying38 h
  have kc:cs.length = 4:=hl.trans (by kernel_rfl)
  match cs,kc with
  | [c0,c1,c2,c3],_ =>
    match xs,hxl with
    | [y0,y1],_ =>
      have k0:Tryz.prog.cellsOf 34 = 2:=by kernel_rfl
      have h0:DataW.trod enc Tryz.prog W base spare held n 34 [c0,c1] = some y0:=by
        have h:DataW.trod enc Tryz.prog W base spare held n 34 (List.take (Tryz.prog.cellsOf 34) (List.drop 0 [c0,c1,c2,c3])) = [y0,y1][0]?:=hf 0 _ rfl
        rw [k0] at h
        exact h
      have k1:Tryz.prog.cellsOf 36 = 2:=by kernel_rfl
      have h1:DataW.trod enc Tryz.prog W base spare held n 36 [c2,c3] = some y1:=by
        have h:DataW.trod enc Tryz.prog W base spare held n 36 (List.take (Tryz.prog.cellsOf 36) (List.drop 2 [c0,c1,c2,c3])) = [y0,y1][1]?:=hf 1 _ rfl
        rw [k1] at h
        exact h
      obtain ⟨a,b,e0,-,-⟩:=param29_in h0
      simp only [List.cons.injEq,and_true] at e0
      obtain ⟨rfl,rfl⟩:=e0
      obtain ⟨pa,lv,e1,-,-⟩:=value29_in h1
      simp only [List.cons.injEq,and_true] at e1
      obtain ⟨rfl,rfl⟩:=e1
      exact ⟨⟨a,b,pa,lv⟩,rfl⟩
theorem entries_in {fuel:Nat} {cs:List Value} {x:DataW H × List MemPlace} (h:DataW.trod enc Tryz.prog W base spare held fuel 25 cs = some x):∃ (p:Option Addr) (c:Nat) (l:List Ent),cs = [.slice p l.length c] ∧ EntsAt W (.slice p l.length c) l ∧ l.length ≤ maxLen:=by
  obtain ⟨l,p,c,rfl,hl,hm,hc⟩:=open_els Tryz.underlying25 4 (by kernel_rfl) (by omega) (⟨0,0,0,0⟩:Ent) (fun cs y => cs = encEn y) (fun _ _ _ h => entry_in h) h
  refine ⟨p,c,l,rfl,⟨p,c,rfl,fun hn => ?_⟩,by omega⟩
  obtain ⟨b,o,hp,hb,hc⟩:=hc hn
  refine ⟨b,o,hp,hb,fun i hi j u hu => ?_⟩
  obtain ⟨cs',rfl,h1⟩:=hc i hi
  rw [List.getElem?_eq_getElem hi] at h1
  exact h1 j u hu
variable {r:Reach} {b0:Nat} {v:Value} {d:DataW H} {p:List MemPlace}
end
end Go.Proofs.YtmjkenlifgmeeaaGreatDoor
set_option maxRecDepth 100000
namespace Lum
open Go Go.RowKit Go.Shelf
open Go.Lib (decDigits itoa)
structure PHd where
  af:Int
  ti:Int
  cl:Bool
  es:List Ent
structure PHdOk (x : PHd) : Prop where
  a0:0 ≤ x.af
  a1:x.af ≤ 65535
  t0:0 ≤ x.ti
  t1:x.ti ≤ 65535
def PhC (W:World) (b o:Nat) (l:List PHd):Prop:=∀ i (hi:i < l.length),W.cell? ⟨b,o + i * 4,none⟩ = some (.int .u16 (l[i]'hi).af) ∧ W.cell? ⟨b,o + i * 4 + 1,none⟩ = some (.int .u16 (l[i]'hi).ti) ∧ W.cell? ⟨b,o + i * 4 + 2,none⟩ = some (.bool (l[i]'hi).cl) ∧ ∃ p c,W.cell? ⟨b,o + i * 4 + 3,none⟩ = some (.slice p (l[i]'hi).es.length c) ∧ RowX encEn 4 W p (l[i]'hi).es ∧ (p = none → c = 0)
def PhsAt (W:World) (v:Value) (l:List PHd):Prop:=(∀ x ∈ l,PHdOk x) ∧ ∃ p c,v = .slice p l.length c ∧ (l ≠ [] → ∃ b o,p = some ⟨b,o,none⟩ ∧ b < W.heap.size ∧ PhC W b o l)
end Lum
namespace Go.Proofs.YtmjkenlifgmeeaaGreatDoor
open Go.RowKit Go.Shelf Lum Go.ChangeShapes Go.WideShapes Go.ChangeAt Go.Joins
section
variable {H:Type} {enc:TypeId × Value → H} {W:World} {base:Nat} {spare:Nat → Bool} {held:Bool}
theorem slice_capz {t e:TypeId} (ht:Tryz.prog.underlying t = some (.slice e)) {fuel:Nat} {cs:List Value} {x:DataW H × List MemPlace} (h:DataW.trod enc Tryz.prog W base spare held fuel t cs = some x) {p:Option Addr} {n c:Nat} (hc:cs = [.slice p n c]):p = none → c = 0:=by
  intro hp
  rcases Go.Deep.open_slice ht h with ⟨rfl,-⟩ | ⟨a,len,cap,m,n',D,Pl,rfl,-⟩
  · have h1:=(List.cons.inj hc).1
    injection h1 with h1 h2 h3
    exact h3.symm
  · have h1:=(List.cons.inj hc).1
    injection h1 with h1
    rw [hp] at h1
    cases h1
theorem play_in {fuel : Nat} {cs : List Value} {x : DataW H × List MemPlace} (h : DataW.trod enc Tryz.prog W base spare held fuel 28 cs = some x) :
    ∃ (x:PHd) (p:Option Addr) (c:Nat),cs = [.int .u16 x.af,.int .u16 x.ti,.bool x.cl,.slice p x.es.length c] ∧ RowX encEn 4 W p x.es ∧ PHdOk x ∧ (p = none → c = 0):=by
  obtain ⟨xs,n,-,-,hl,hxl,hf⟩:=DataW.trod_struct Tryz.underlying28 h
  have kc:cs.length = 4:=hl.trans (by kernel_rfl)
  match cs,kc with
  | [c0,c1,c2,c3],_ =>
    match xs,hxl with
    | [y0,y1,y2,y3],_ =>
      have k0:Tryz.prog.cellsOf 26 = 1:=by kernel_rfl
      have h0:DataW.trod enc Tryz.prog W base spare held n 26 [c0] = some y0:=by
        have h:DataW.trod enc Tryz.prog W base spare held n 26 (List.take (Tryz.prog.cellsOf 26) (List.drop 0 [c0,c1,c2,c3])) = [y0,y1,y2,y3][0]?:=hf 0 _ rfl
        rw [k0] at h
        exact h
      have k1:Tryz.prog.cellsOf 26 = 1:=by kernel_rfl
      have h1:DataW.trod enc Tryz.prog W base spare held n 26 [c1] = some y1:=by
        have h:DataW.trod enc Tryz.prog W base spare held n 26 (List.take (Tryz.prog.cellsOf 26) (List.drop 1 [c0,c1,c2,c3])) = [y0,y1,y2,y3][1]?:=hf 1 _ rfl
        rw [k1] at h
        exact h
      have k2:Tryz.prog.cellsOf 4 = 1:=by kernel_rfl
      have h2:DataW.trod enc Tryz.prog W base spare held n 4 [c2] = some y2:=by
        have h:DataW.trod enc Tryz.prog W base spare held n 4 (List.take (Tryz.prog.cellsOf 4) (List.drop 2 [c0,c1,c2,c3])) = [y0,y1,y2,y3][2]?:=hf 2 _ rfl
        rw [k2] at h
        exact h
      have k3:Tryz.prog.cellsOf 25 = 1:=by kernel_rfl
      have h3:DataW.trod enc Tryz.prog W base spare held n 25 [c3] = some y3:=by
        have h:DataW.trod enc Tryz.prog W base spare held n 25 (List.take (Tryz.prog.cellsOf 25) (List.drop 3 [c0,c1,c2,c3])) = [y0,y1,y2,y3][3]?:=hf 3 _ rfl
        rw [k3] at h
        exact h
      obtain ⟨a,e0,-,w0⟩:=DataW.trod_int Tryz.underlying26 h0
      obtain rfl:=(List.cons.inj e0).1
      obtain ⟨b,e1,-,w1⟩:=DataW.trod_int Tryz.underlying26 h1
      obtain rfl:=(List.cons.inj e1).1
      obtain ⟨g,e2,-⟩:=DataW.trod_bool Tryz.underlying4 h2
      obtain rfl:=(List.cons.inj e2).1
      obtain ⟨p1,c1,es,e3,h5,-⟩:=entries_in h3
      obtain rfl:=(List.cons.inj e3).1
      have hcz:=slice_capz Tryz.underlying25 h3 rfl
      obtain ⟨p9,c9,e9,hR⟩:=h5
      injection e9 with e1 e2 e3
      subst e1
      have q0:=wf_u16 w0
      have q1:=wf_u16 w1
      exact ⟨⟨a,b,g,es⟩,_,_,rfl,hR,⟨q0.1,by have:=q0.2;omega,q1.1,by have:=q1.2;omega⟩,hcz⟩
theorem plays_in {fuel:Nat} {cs:List Value} {x:DataW H × List MemPlace} (h:DataW.trod enc Tryz.prog W base spare held fuel 22 cs = some x):∃ (v:Value) (l:List PHd),cs = [v] ∧ PhsAt W v l ∧ l.length ≤ maxLen:=by
  obtain ⟨l,p,c,rfl,hl,hm,hc⟩:=open_els Tryz.underlying22 4 (by kernel_rfl) (by omega) (⟨0,0,false,[]⟩:PHd) (fun cs y => ∃ p c,cs = [.int .u16 y.af,.int .u16 y.ti,.bool y.cl,.slice p y.es.length c] ∧ RowX encEn 4 W p y.es ∧ PHdOk y ∧ (p = none → c = 0)) (fun _ _ _ h => play_in h) h
  refine ⟨_,l,rfl,⟨fun x hx => ?_,p,c,rfl,fun hn => ?_⟩,by omega⟩
  · obtain ⟨i,hi,rfl⟩:=List.getElem_of_mem hx
    obtain ⟨b,o,hp,hb,hc⟩:=hc (fun e => by rw [e] at hi;exact absurd hi (Nat.not_lt_zero _))
    obtain ⟨cs',hq,h1⟩:=hc i hi
    rw [List.getElem?_eq_getElem hi,Option.getD_some] at hq
    obtain ⟨p',c',rfl,hR,hK,hZ⟩:=hq
    exact hK
  · obtain ⟨b,o,hp,hb,hc⟩:=hc hn
    refine ⟨b,o,hp,hb,fun i hi => ?_⟩
    obtain ⟨cs',hq,h1⟩:=hc i hi
    rw [List.getElem?_eq_getElem hi,Option.getD_some] at hq
    obtain ⟨p',c',rfl,hR,hK,hZ⟩:=hq
    exact ⟨h1 0 _ rfl,h1 1 _ rfl,h1 2 _ rfl,p',c',h1 3 _ rfl,hR,hZ⟩
variable {r:Reach} {b0:Nat} {v:Value} {d:DataW H} {p:List MemPlace}
theorem open_plays (hv:Value.okWide Tryz.prog W r b0 22 v) (h:DataW.Trod enc Tryz.prog W base spare held 22 v d p):∃ l:List PHd,PhsAt W v l ∧ l.length ≤ maxLen:=by
  obtain ⟨a0,len,cap,rfl⟩:=okWide_slice Tryz.underlying22 hv
  obtain ⟨fuel,hf⟩:=h
  obtain ⟨v,l,h1,h2,h3⟩:=plays_in hf
  obtain rfl:=(List.cons.inj h1).1
  exact ⟨l,h2,h3⟩
end
end Go.Proofs.YtmjkenlifgmeeaaGreatDoor
set_option maxRecDepth 100000
set_option maxHeartbeats 8000000
namespace Lum
open Go Go.RowKit Go.Shelf
open Go.Lib (decDigits itoa)
theorem OwnR.low {β:Type} {enc:β → List Value} {k base base':Nat} {e:TypeId} {W:World} {p:Option Addr} {c:Nat} {l:List β} (h:OwnR enc k base e W p c l) (hb:base' ≤ base):OwnR enc k base' e W p c l :=
  ⟨h.1,h.2.imp id fun ⟨b,cap,cur,h1,h2,h3,h4⟩ => ⟨b,cap,cur,h1,Nat.le_trans hb h2,h3,h4⟩⟩
def SetQ (T:TypeId) (o:List Hnd) (n:Int) (w:World) (e:Ending) (w':World):Prop:=∃ p c,e = .returned (.tuple #[.slice p o.length c,.int .i64 n]) ∧ OwnR encHd 7 w.heap.size T w' p c o ∧ Below w.heap.size w w'
theorem SetQ.nil {T:TypeId} {n:Int} {w w':World} {e:Ending} (he:e = .returned (.tuple #[.slice none 0 0,.int .i64 n])) (h:Below w.heap.size w w'):SetQ T [] n w e w':=⟨none,0,he,OwnR.nil _ _ _,h⟩
end Lum
namespace Go.Proofs.YtmjkenlifgmeeaaGreatDoor
open Go.RowKit Go.Shelf Lum
open Go.Lib (decDigits itoa)
attribute [local go_sem] bs_get bs_extract_end bs_extract_from bs_extract bs_append
theorem own_psetO (l : List Hnd) (t : Int) (es : List Ent) (ti : Int) (now : List Amt) (v u z : Value) (w : World) (hv : HndsAt w v l) (hu : EntsAt w u es) (hz_ : AmtsAt w z now) (hx : l.length ≤ 256 → ∀ x ∈ l, x.fr.length ≤ 1000) (hna : now.length ≤ 1000000) (hlen : ∀ y ∈ now, y.le.length ≤ 1000) (h0 : setE l t es ti now = 0) (env : Env w) :
    Calls Tryz.prog 12 #[v,.int .i64 t,u,.int .i64 ti,z] w (SetQ 77 (setO l t es ti now) (setE l t es ti now) w):=by
  have hz:askE l t es ti now = 0:=by by_cases g:askE l t es ti now = 0;exact g;rw [setE_ask g] at h0;exact absurd h0 g
  have HH5:Hid (¬ 256 < (setL l t es ti now).length):=Lib.hid (fun g => by rw [setE_many hz g] at h0;cases h0)
  clear h0
  have has:=fun W (e:Env W) (h1:HndsAt W v l) (h2:EntsAt W u es) (h3:AmtsAt W z now) => own_pasked l t es ti now v u z W h1 h2 h3 hx hna hlen e
  have ENV:=Lib.hid env;clear env
  have HV:=Lib.hid hv;have HU:=Lib.hid hu;have HZ:=Lib.hid hz_
  have HB:=Lib.hid (Below.refl w.heap.size w)
  obtain ⟨h1,h2,h3,h4⟩:=askE_zero hz
  have hok:=ordP_ok (show ordP 256 hndE Hnd.ky l = 0 from h1)
  have hoe:=ordP_ok (show ordP 4096 entE Ent.ky es = 0 from h2)
  obtain ⟨hle,hft⟩:=fitE_zero h4
  have HA0:=Lib.hid hz
  rw [hz] at has
  have HFEW:Hid (es.length ≤ 4096):=Lib.hid hoe.few
  have HFEL:Hid (l.length ≤ 256):=Lib.hid hok.few
  have HLE:=Lib.hid hle;have HFT:=Lib.hid hft;have HAC:=Lib.hid hok.asc;have HEA:=Lib.hid hoe.asc;have HLEN:=Lib.hid hlen
  clear hz h1 h2 h3 h4 hok hoe hle hft hlen hx hna
  have HAS:=Lib.hid has;clear has
  obtain ⟨p1,c1,rfl,hR1⟩:=hu
  obtain ⟨p2,c2,rfl,hR2⟩:=hz_
  have hv1:=Lib.hid hR1;have hv2:=Lib.hid hR2;clear hR1 hR2
  have HV0:=HV
  obtain ⟨i0,hi,hz0,hz1,hz2⟩:=info_parts info_hd
  go_enter Tryz.func12,Tryz.ntmps12
  go_wp2_with (first | (with_reducible refine ((HAS.out _ (ENV.out.below HB.out) HV.out HU.out HZ.out).mono ?_);rintro e w' ⟨rfl,hb⟩;replace HV:=Lib.hid (HndsAt.kept HV.out hb);replace HU:=Lib.hid (EntsAt.kept HU.out hb);replace HZ:=Lib.hid (AmtsAt.kept HZ.out hb);replace HB:=Lib.hid (bch' HB.out hb);clear hb))
  clear HV HU HZ
  have HV:=HV0;clear HV0
  go_loopw [13,33] (fun s j wr => ∃ (k n:Nat) (pp:Option Addr) (cc:Nat),s = .slice pp n cc ∧ j = .int .i64 (k:Int) ∧ k ≤ es.length ∧ Hid (n = ((frsL l t ti es now).take k).length) ∧ Hid (Below w.heap.size w wr) ∧ Hid (OwnR encHd 7 w.heap.size 77 wr pp cc ((frsL l t ti es now).take k))) (fun _ j _ => es.length - (intOf j).toNat)
  case atStart => exact ⟨0,0,none,0,rfl,rfl,Nat.zero_le _,Lib.hid (by simp),HB,Lib.hid (by rw [List.take_zero];exact OwnR.nil _ _ _)⟩
  case round =>
    obtain ⟨k,n,pp,cc,rfl,rfl,hk9,HN,HB2,HO⟩:=hrel
    clear HB
    have HB:=HB2;clear HB2
    by_cases hke:k < es.length
    · have hka:k < now.length:=by have:=HLE.out;omega
      have hlt:(k:Int) < (es.length:Int):=by omega
      have hlt2:(k:Int) < (now.length:Int):=by omega
      have hk0:(0:Int) ≤ (k:Int):=by omega
      have hlo:k * 4 < 9223372036854775807:=by have:=HFEW.out;omega
      have hlo2:k * 3 < 9223372036854775807:=by have:=HFEW.out;omega
      have hun:IntKind.i64.wrap ((k:Int) + 1) = (k:Int) + 1:=IntWalk.i64_in _ (by have:=HFEW.out;omega)
      obtain ⟨b1,o1,rfl,hb1,hC1⟩:=hv1.out (fun h => by subst h;exact absurd hke (Nat.not_lt_zero _))
      obtain ⟨b2,o2,rfl,hb2,hC2⟩:=hv2.out (fun h => by subst h;exact absurd hka (Nat.not_lt_zero _))
      obtain ⟨e,hE⟩:∃ e,e = es[k]'hke:=⟨_,rfl⟩
      obtain ⟨a,hA⟩:∃ a,a = now[k]'hka:=⟨_,rfl⟩
      have hc1:=hC1 k hke
      have hc2:=hC2 k hka
      rw [← hE] at hc1
      rw [← hA] at hc2
      have hlev:levE a.le = 0:=by rw [hA];exact (HFT.out k hke hka).2
      have hlen:=HLEN.out a (by rw [hA];exact List.getElem_mem hka)
      have HT:Hid (((frsL l t ti es now).take (k + 1)) = ((frsL l t ti es now).take k) ++ [frsH l t ti e a]):=Lib.hid (by rw [frsL_take hke hka,hE,hA])
      obtain ⟨i,hit,hbl⟩:=belP_ex HAC.out (e.ch,e.at_)
      have hfin:=belP_fin hbl
      have hpl:=fun W (h:HndsAt W v l) => own_pplace_at l v e.ch e.at_ W h HAC.out (by have:=HFEL.out;omega) hbl
      have e0:wr.cell? ⟨b1,o1 + k * 4,none⟩ = some (.int .i64 (e.ch)):=(HB.out.cell (p:=⟨b1,o1 + k * 4 + 0,none⟩) hb1).trans (hc1 0 _ rfl)
      have e1:wr.cell? ⟨b1,o1 + k * 4 + 1,none⟩ = some (.int .i64 (e.at_)):=(HB.out.cell (p:=⟨b1,o1 + k * 4 + 1,none⟩) hb1).trans (hc1 1 _ rfl)
      have e2:wr.cell? ⟨b1,o1 + k * 4 + 2,none⟩ = some (.int .i64 (e.pa)):=(HB.out.cell (p:=⟨b1,o1 + k * 4 + 2,none⟩) hb1).trans (hc1 2 _ rfl)
      have e3:wr.cell? ⟨b1,o1 + k * 4 + 3,none⟩ = some (.int .i64 (e.lv)):=(HB.out.cell (p:=⟨b1,o1 + k * 4 + 3,none⟩) hb1).trans (hc1 3 _ rfl)
      have hr1:b1 < wr.heap.size:=Nat.lt_of_lt_of_le hb1 HB.out.size
      have HC2:=Lib.hid hc2;have HB2_:=Lib.hid hb2
      clear hc1 hc2 hb1 hb2 hC1 hC2 hE hA hbl
      go_upto_region 8 with fail
      clear e0 e1 e2 e3 hr1
      have hb:=(Below.refl wr.heap.size wr).alloc (Nat.le_refl _) (.cells #[.int .i64 (e.ch),.int .i64 (e.at_),.int .i64 (e.pa),.int .i64 (e.lv)] 38)
      have HX:=Lib.hid (Blk.new wr 38 #[.int .i64 (e.ch),.int .i64 (e.at_),.int .i64 (e.pa),.int .i64 (e.lv)])
      obtain ⟨n8,hn8⟩:∃ n,n = wr.heap.size:=⟨_,rfl⟩
      obtain ⟨Wa,hWWa⟩:∃ X,X = wr.alloc (.cells #[.int .i64 (e.ch),.int .i64 (e.at_),.int .i64 (e.pa),.int .i64 (e.lv)] 38):=⟨_,rfl⟩
      rw [← hn8] at HX ⊢
      rw [← hWWa] at hb HX ⊢
      replace HO:=Lib.hid (OwnR.keep HO.out hb);replace HB:=Lib.hid (bch' HB.out hb);clear hb
      clear hWWa hn8
      obtain ⟨x0,x1,x2,x3,xf0,xf1,xf2,xf3⟩:=HX.out.c4
      have a0:Wa.cell? ⟨b2,o2 + k * 3,none⟩ = some (.int .i64 (a.ch)):=(HB.out.cell (p:=⟨b2,o2 + k * 3 + 0,none⟩) HB2_.out).trans (HC2.out 0 _ rfl)
      have a1:Wa.cell? ⟨b2,o2 + k * 3 + 1,none⟩ = some (.int .i64 (a.at_)):=(HB.out.cell (p:=⟨b2,o2 + k * 3 + 1,none⟩) HB2_.out).trans (HC2.out 1 _ rfl)
      have a2:Wa.cell? ⟨b2,o2 + k * 3 + 2,none⟩ = some (.string ⟨a.le.toArray⟩):=(HB.out.cell (p:=⟨b2,o2 + k * 3 + 2,none⟩) HB2_.out).trans (HC2.out 2 _ rfl)
      have hr2:b2 < Wa.heap.size:=Nat.lt_of_lt_of_le HB2_.out HB.out.size
      have hx8:n8 < Wa.heap.size:=HX.out.lt
      go_region
      clear hx8
      have hbg:=((Below.refl Wa.heap.size Wa).alloc (Nat.le_refl _) (.cells #[.int .i64 (e.ch),.int .i64 (e.at_),.string ⟨a.le.toArray⟩,.int .i64 (e.pa),.int .i64 (e.lv),.int .i64 t,.int .i64 ti] 77)).drew
      have HP:=Lib.hid (Blk.new Wa 77 #[.int .i64 (e.ch),.int .i64 (e.at_),.string ⟨a.le.toArray⟩,.int .i64 (e.pa),.int .i64 (e.lv),.int .i64 t,.int .i64 ti]).drew
      obtain ⟨g,hg⟩:∃ g,g = Wa.heap.size:=⟨_,rfl⟩
      obtain ⟨W5,hW5⟩:∃ X,X = (Wa.alloc (.cells #[.int .i64 (e.ch),.int .i64 (e.at_),.string ⟨a.le.toArray⟩,.int .i64 (e.pa),.int .i64 (e.lv),.int .i64 t,.int .i64 ti] 77)).drew:=⟨_,rfl⟩
      rw [← hW5] at hbg HP ⊢
      rw [← hg] at HP ⊢
      have HG:Hid (n8 ≠ g):=Lib.hid (by have:=HX.out.lt;omega)
      have HGW:Hid (w.heap.size ≤ g):=Lib.hid (by have:=HB.out.size;omega)
      have HBo:=HB
      have HOG:Hid (∀ ad,pp = some ad → ad.block ≠ g):=Lib.hid (fun ad h => by have:=(HO.out.lt ad h).2;omega)
      have hb:=hbg
      replace HX:=Lib.hid (HX.out.keep hb);clear x0 x1 x2 x3 xf0 xf1 xf2 xf3;replace HO:=Lib.hid (OwnR.keep HO.out hb);replace HB:=Lib.hid (bch' HB.out hb);clear hb;obtain ⟨x0,x1,x2,x3,xf0,xf1,xf2,xf3⟩:=HX.out.c4
      clear hbg hg hW5 a0 a1 a2 hr2
      obtain ⟨p0,p1,p2,p3,p4,p5,p6,pf0,pf1,pf2,pf3,pf4,pf5,pf6⟩:=HP.out.c7
      cases hit with
      | true =>
        have HF:Hid (frsH l t ti e a = ⟨e.ch,e.at_,a.le,e.pa,e.lv,t,ti⟩):=Lib.hid (by unfold frsH;rw [if_pos (show finB l e.ky = true from hfin)])
        clear hfin
        have HPL:=Lib.hid hpl;clear hpl
        go_upto_region 15 with (first | (with_reducible refine ((HPL.out _ (HndsAt.kept HV.out HB.out)).mono ?_);rintro e2 w' ⟨rfl,hb⟩;replace HX:=Lib.hid (HX.out.keep hb);clear x0 x1 x2 x3 xf0 xf1 xf2 xf3;replace HP:=Lib.hid (HP.out.keep hb);clear p0 p1 p2 p3 p4 p5 p6 pf0 pf1 pf2 pf3 pf4 pf5 pf6;replace HO:=Lib.hid (OwnR.keep HO.out hb);replace HB:=Lib.hid (bch' HB.out hb);clear hb;obtain ⟨x0,x1,x2,x3,xf0,xf1,xf2,xf3⟩:=HX.out.c4;obtain ⟨p0,p1,p2,p3,p4,p5,p6,pf0,pf1,pf2,pf3,pf4,pf5,pf6⟩:=HP.out.c7))
        go_wp2_with (first | (at_builtin;refine wpList_appR3 rfl (.tmp 70) (.tmp 72) 24 rfl w.heap.size 77 i0 (.agg #[.int .i64 0,.int .i64 0,.string ⟨#[]⟩,.int .i64 0,.int .i64 0,.int .i64 0,.int .i64 0]) 64 Tryz.underlying24 hi hz0 hz1 hz2 rfl (by decide) (by decide) pp cc n ((frsL l t ti es now).take k) (HN.out) _ (⟨e.ch,e.at_,a.le,e.pa,e.lv,t,ti⟩) w'.heap.size (encHd_len _) (fun j u hu => cellN _ 77 hu) (encHd_one _) rfl (HO.out.keep ((Below.refl _ w').alloc (Nat.le_refl _) _)) rfl (by have:=HFEW.out;rw [List.length_take,frsL_len HLE.out];omega) (by have:=HB.out.size;rw [World.size_alloc];omega) ?_;intro p1 c1 w4 hO3 hb3 _;have HO3:=Lib.hid hO3;have HB3:=Lib.hid (HB.out.trans (((Below.refl _ w').alloc (by have:=HB.out.size;omega) _).trans hb3));clear hO3 hb3))
        go_roundw
        case rel => exact ⟨k + 1,n + 1,p1,c1,by first | rfl | simp,by first | rfl | simp,by omega,Lib.hid (by rw [HT.out,List.length_append,← HN.out];rfl),HB3,Lib.hid (by rw [HT.out,HF.out];exact HO3.out)⟩
        case measure => first | (simp [intOf];done) | (simp [intOf];omega)
      | false =>
        have HF:Hid (frsH l t ti e a = ⟨e.ch,e.at_,itoa (near (valR a.le)),e.pa,e.lv,t,ti⟩):=Lib.hid (by unfold frsH;rw [if_neg (show ¬ finB l e.ky = true from by rw [show finB l e.ky = false from hfin];decide)])
        clear hfin
        have hrn:∀ W,Env W → Calls Tryz.prog 35 #[.string ⟨a.le.toArray⟩] W fun e w' => e = .returned (.tuple #[.string ⟨(itoa (near (valR a.le))).toArray⟩,.int .i64 0]) ∧ Below W.heap.size W w':=fun W en => by
          have h:=own_round a.le W (by omega) en
          have hc:ratCheck a.le = 0:=by by_cases g:ratCheck a.le = 0;exact g;rw [levE_bad g] at hlev;exact absurd hlev g
          unfold roundT at h
          rw [if_neg (by simpa using hc)] at h
          exact h
        generalize itoa (near (valR a.le)) = T at *
        have HPL:=Lib.hid hpl;clear hpl
        have HRN:=Lib.hid hrn;clear hrn
        go_upto_region 15 with (first | (with_reducible refine ((HPL.out _ (HndsAt.kept HV.out HB.out)).mono ?_);rintro e2 w' ⟨rfl,hb⟩;replace HX:=Lib.hid (HX.out.keep hb);clear x0 x1 x2 x3 xf0 xf1 xf2 xf3;replace HP:=Lib.hid (HP.out.keep hb);clear p0 p1 p2 p3 p4 p5 p6 pf0 pf1 pf2 pf3 pf4 pf5 pf6;replace HO:=Lib.hid (OwnR.keep HO.out hb);replace HB:=Lib.hid (bch' HB.out hb);clear hb;obtain ⟨x0,x1,x2,x3,xf0,xf1,xf2,xf3⟩:=HX.out.c4;obtain ⟨p0,p1,p2,p3,p4,p5,p6,pf0,pf1,pf2,pf3,pf4,pf5,pf6⟩:=HP.out.c7) | (with_reducible refine ((HRN.out _ (ENV.out.below HB.out)).mono ?_);rintro e2 w' ⟨rfl,hb⟩;replace HX:=Lib.hid (HX.out.keep hb);clear x0 x1 x2 x3 xf0 xf1 xf2 xf3;replace HP:=Lib.hid (HP.out.keep hb);clear p0 p1 p2 p3 p4 p5 p6 pf0 pf1 pf2 pf3 pf4 pf5 pf6;replace HO:=Lib.hid (OwnR.keep HO.out hb);replace HB:=Lib.hid (bch' HB.out hb);clear hb;obtain ⟨x0,x1,x2,x3,xf0,xf1,xf2,xf3⟩:=HX.out.c4;obtain ⟨p0,p1,p2,p3,p4,p5,p6,pf0,pf1,pf2,pf3,pf4,pf5,pf6⟩:=HP.out.c7))
        have HBs:Hid (Below w.heap.size w (w'.setCell ⟨g,2,none⟩ (.string ⟨T.toArray⟩))):=Lib.hid (HB.out.setCell (p:=⟨g,2,none⟩) HGW.out _)
        have HPs:Hid (Blk (w'.setCell ⟨g,2,none⟩ (.string ⟨T.toArray⟩)) g 77 #[.int .i64 (e.ch),.int .i64 (e.at_),.string ⟨T.toArray⟩,.int .i64 (e.pa),.int .i64 (e.lv),.int .i64 t,.int .i64 ti]):=Lib.hid (by simpa using HP.out.set_ 2 (.string ⟨T.toArray⟩))
        have HOs:Hid (OwnR encHd 7 w.heap.size 77 (w'.setCell ⟨g,2,none⟩ (.string ⟨T.toArray⟩)) pp cc ((frsL l t ti es now).take k)):=Lib.hid (ownR_far HO.out HOG.out _ _)
        clear p0 p1 p2 p3 p4 p5 p6 pf0 pf1 pf2 pf3 pf4 pf5 pf6
        clear x0 x1 x2 x3 xf0 xf1 xf2 xf3
        clear HP HB HO HX
        have HB:=HBs;have HP:=HPs;have HO:=HOs;clear HBs HPs HOs
        generalize w'.setCell ⟨g,2,none⟩ (.string ⟨T.toArray⟩) = W7 at *
        obtain ⟨p0,p1,p2,p3,p4,p5,p6,pf0,pf1,pf2,pf3,pf4,pf5,pf6⟩:=HP.out.c7
        go_wp2_with (first | (at_builtin;refine wpList_appR3 rfl (.tmp 70) (.tmp 72) 24 rfl w.heap.size 77 i0 (.agg #[.int .i64 0,.int .i64 0,.string ⟨#[]⟩,.int .i64 0,.int .i64 0,.int .i64 0,.int .i64 0]) 64 Tryz.underlying24 hi hz0 hz1 hz2 rfl (by decide) (by decide) pp cc n ((frsL l t ti es now).take k) (HN.out) _ (⟨e.ch,e.at_,T,e.pa,e.lv,t,ti⟩) W7.heap.size (encHd_len _) (fun j u hu => cellN _ 77 hu) (encHd_one _) rfl (HO.out.keep ((Below.refl _ W7).alloc (Nat.le_refl _) _)) rfl (by have:=HFEW.out;rw [List.length_take,frsL_len HLE.out];omega) (by have:=HB.out.size;rw [World.size_alloc];omega) ?_;intro p1 c1 w4 hO3 hb3 _;have HO3:=Lib.hid hO3;have HB3:=Lib.hid (HB.out.trans (((Below.refl _ W7).alloc (by have:=HB.out.size;omega) _).trans hb3));clear hO3 hb3))
        go_roundw
        case rel => exact ⟨k + 1,n + 1,p1,c1,by first | rfl | simp,by first | rfl | simp,by omega,Lib.hid (by rw [HT.out,List.length_append,← HN.out];rfl),HB3,Lib.hid (by rw [HT.out,HF.out];exact HO3.out)⟩
        case measure => first | (simp [intOf];done) | (simp [intOf];omega)
    · have hlt:¬ (k:Int) < (es.length:Int):=by omega
      obtain rfl:k = es.length:=by omega
      have HTA:Hid (((frsL l t ti es now).take es.length) = (frsL l t ti es now)):=Lib.hid (List.take_of_length_le (by rw [frsL_len HLE.out];exact Nat.le_refl _))
      rw [HTA.out] at HN HO
      have HV9:=Lib.hid (HndsAt.kept HV.out HB.out)
      have hmg:∀ W p c,HndsAt W v l → OwnR encHd 7 w.heap.size 77 W p c (frsL l t ti es now) → Calls Tryz.prog 36 #[v,.slice p (frsL l t ti es now).length c,.func (.func 34) #[] #[]] W (fun e w' => ∃ pp cc,e = .returned (.slice pp (setL l t es ti now).length cc) ∧ OwnR encHd 7 W.heap.size 77 w' pp cc (setL l t es ti now) ∧ Below W.heap.size W w'):=fun W p c h1 h2 => own_pmerged l (frsL l t ti es now) v p c W h1 (h2.row encHd_len) (ownR_capz h2) HAC.out (frsL_asc HEA.out) (by have:=HFEL.out;omega) (by rw [frsL_len HLE.out];have:=HFEW.out;omega)
      have HMG:=Lib.hid hmg;clear hmg
      have hn9:=HN.out
      subst hn9
      have h5:=HH5.out
      have hlt9:¬ (256:Int) < ((setL l t es ti now).length:Int):=by omega
      have HEO:Hid (setO l t es ti now = (setL l t es ti now)):=Lib.hid (by unfold setO;rw [setE_ok HA0.out h5];rfl)
      have HE1:=Lib.hid (setE_ok HA0.out h5)
      clear h5 HH5
      generalize (setL l t es ti now) = L at *
      go_wp2_with (first | (with_reducible refine ((HMG.out _ _ _ HV9.out HO.out).mono ?_);rintro e2 w' ⟨pq,cq,rfl,ho,hb⟩;have HO9:=Lib.hid (OwnR.low ho HB.out.size);clear ho;replace HB:=Lib.hid (bch' HB.out hb);clear hb))
      go_ret2
      rw [HEO.out,HE1.out]
      exact ⟨_,_,rfl,HO9.out,HB.out⟩
theorem own_pclearO (l : List Hnd) (ps : List (Int × Int)) (v u : Value) (w : World) (hv : HndsAt w v l) (hu : PmsAt w u ps) (hx : l.length ≤ 256 → ∀ x ∈ l, x.fr.length ≤ 1000) (hp : ps.length ≤ 1000000) (env : Env w) :
    Calls Tryz.prog 11 #[v,u] w (SetQ 77 (clrO l ps) (clrE l ps) w):=by
  obtain ⟨p2,c2,rfl,hR2⟩:=hu
  have hu:PmsAt w (.slice p2 ps.length c2) ps:=⟨p2,c2,rfl,hR2⟩
  have hu0:=hu
  have hck:=fun W (e:Env W) (h:HndsAt W v l) => own_pcheck l v W h hx e
  change ∀ W,Env W → HndsAt W v l → Calls _ _ _ _ (fun e w' => e = .returned (.int .i64 (hnsE l)) ∧ _) at hck
  have ENV:=Lib.hid env
  have hal:=(Below.refl w.heap.size w).alloc (Nat.le_refl _) (.cells #[.slice p2 ps.length c2] 31)
  have HV:=Lib.hid (HndsAt.kept hv hal);have HU:=Lib.hid (PmsAt.kept hu hal);have HB:=Lib.hid hal;clear hal hv hu
  have HT:=Lib.hid (Blk.new w 31 #[.slice p2 ps.length c2])
  obtain ⟨t0,tf0⟩:=HT.out.c1
  by_cases h1:hnsE l = 0
  · by_cases h2:256 < ps.length
    · clear hu0
      have hlt9:(256:Int) < (ps.length:Int):=by omega
      have HE0:Hid (¬ clrE l ps = 0):=Lib.hid (by rw [clrE_many h1 h2];decide)
      rw [clrO_bad HE0.out,clrE_many h1 h2]
      rw [h1] at hck
      clear HE0 h1 h2 hx hR2
      have HCK:=Lib.hid hck;clear hck
      go_enter Tryz.func11,Tryz.ntmps11
      go_wp2_with (first | (with_reducible refine ((HCK.out _ (ENV.out.below HB.out) HV.out).mono ?_);rintro e w' ⟨rfl,hb⟩;replace HT:=Lib.hid (HT.out.keep hb);clear t0 tf0;replace HV:=Lib.hid (HndsAt.kept HV.out hb);replace HU:=Lib.hid (PmsAt.kept HU.out hb);replace HB:=Lib.hid (bch' HB.out hb);clear hb;obtain ⟨t0,tf0⟩:=HT.out.c1))
      go_ret2
      exact SetQ.nil rfl HB.out
    · have hlt9:¬ (256:Int) < (ps.length:Int):=by omega
      have HCE:Hid (clrE l ps = pmsE ps):=Lib.hid (clrE_p h1 h2)
      have hok:=ordP_ok (show ordP 256 hndE Hnd.ky l = 0 from h1)
      have HLF:Hid (l.length ≤ 256):=Lib.hid hok.few
      have HPF:Hid (ps.length ≤ 256):=Lib.hid (by omega)
      rw [h1] at hck
      have hv2:=Lib.hid hR2
      have HU0:=Lib.hid hu0
      clear h1 h2 hok hx hR2 hp hu0
      have HCK:=Lib.hid hck;clear hck
      go_enter Tryz.func11,Tryz.ntmps11
      go_wp2_with (first | (with_reducible refine ((HCK.out _ (ENV.out.below HB.out) HV.out).mono ?_);rintro e w' ⟨rfl,hb⟩;replace HT:=Lib.hid (HT.out.keep hb);clear t0 tf0;replace HV:=Lib.hid (HndsAt.kept HV.out hb);replace HU:=Lib.hid (PmsAt.kept HU.out hb);replace HB:=Lib.hid (bch' HB.out hb);clear hb;obtain ⟨t0,tf0⟩:=HT.out.c1))
      go_loopw [20] (fun s wr => ∃ k:Nat,s = .int .i64 (k:Int) ∧ k ≤ ps.length ∧ Hid (pmsE (ps.drop k) = pmsE ps) ∧ Hid (Below w.heap.size w wr) ∧ Hid (Blk wr w.heap.size 31 #[.slice p2 ps.length c2]) ∧ Hid (HndsAt wr v l)) (fun s _ => ps.length - (intOf s).toNat)
      case atStart => exact ⟨0,rfl,Nat.zero_le _,Lib.hid rfl,HB,HT,HV⟩
      case round =>
        obtain ⟨k,rfl,hk9,HS,HB2,HT2,HV2⟩:=hrel
        clear HB HT HV t0 tf0
        have HB:=HB2;clear HB2
        have HT:=HT2;have HV:=HV2;clear HT2 HV2
        obtain ⟨t0,tf0⟩:=HT.out.c1
        by_cases hkl:k < ps.length
        · have hlt:(k:Int) < (ps.length:Int):=by omega
          have hk0:(0:Int) ≤ (k:Int):=by omega
          have hlo:k * 2 < 9223372036854775807:=by have:=HPF.out;omega
          have hun:IntKind.i64.wrap ((k:Int) + 1) = (k:Int) + 1:=IntWalk.i64_in _ (by have:=HPF.out;omega)
          obtain ⟨b2,o2,rfl,hb2,hC⟩:=hv2.out (fun h => by subst h;exact absurd hkl (Nat.not_lt_zero _))
          obtain ⟨x,hx_⟩:∃ x,x = ps[k]'hkl:=⟨_,rfl⟩
          have hcell:=hC k hkl
          rw [← hx_] at hcell
          have hst:=pmsE_at hkl
          rw [← hx_,HS.out] at hst
          have y0:wr.cell? ⟨b2,o2 + k * 2,none⟩ = some (.int .i64 (x.1)):=(HB.out.cell (p:=⟨b2,o2 + k * 2 + 0,none⟩) hb2).trans (hcell 0 _ rfl)
          have y1:wr.cell? ⟨b2,o2 + k * 2 + 1,none⟩ = some (.int .i64 (x.2)):=(HB.out.cell (p:=⟨b2,o2 + k * 2 + 1,none⟩) hb2).trans (hcell 1 _ rfl)
          have hbr:b2 < wr.heap.size:=Nat.lt_of_lt_of_le hb2 HB.out.size
          clear hcell hx_ hb2 hC
          have hpe:∀ W:World,Calls Tryz.prog 28 #[.slice (some ⟨W.heap.size,0,none⟩) 1 1] (W.alloc (.cells #[.int .i64 x.1,.int .i64 x.2,.int .i64 0,.int .i64 0] 38)) fun e w' => e = .returned (.int .i64 (paE x.1 x.2)) ∧ Below W.heap.size W w':=fun W => by
            have h:=own_pents [⟨x.1,x.2,0,0⟩] (.slice (some ⟨W.heap.size,0,none⟩) 1 1) (W.alloc (.cells #[.int .i64 x.1,.int .i64 x.2,.int .i64 0,.int .i64 0] 38)) ⟨_,_,rfl,fun _ => ⟨_,_,rfl,by simp,fun i hi j u hu => by
              have hi0:i = 0:=by simpa using hi
              subst hi0
              rw [show (0 + 0 * 4 + j) = j from by omega];exact cellN (cs:=encEn ⟨x.1,x.2,0,0⟩) W 38 hu⟩⟩
            rw [entE_par x] at h
            exact h.mono fun e w' ⟨h1,h2⟩ => ⟨h1,((Below.refl _ _).alloc (Nat.le_refl _) _).trans (h2.mono (by simp))⟩
          go_upto_region 9 with fail
          clear y0 y1 hbr
          have hb:=(Below.refl wr.heap.size wr).alloc (Nat.le_refl _) (.cells #[.int .i64 (x.1),.int .i64 (x.2)] 34)
          have HXP:=Lib.hid (Blk.new wr 34 #[.int .i64 (x.1),.int .i64 (x.2)])
          obtain ⟨n8,hn8⟩:∃ n,n = wr.heap.size:=⟨_,rfl⟩
          obtain ⟨Wa,hWWa⟩:∃ X,X = wr.alloc (.cells #[.int .i64 (x.1),.int .i64 (x.2)] 34):=⟨_,rfl⟩
          rw [← hn8] at HXP ⊢
          rw [← hWWa] at hb HXP ⊢
          replace HT:=Lib.hid (HT.out.keep hb);clear t0 tf0;replace HV:=Lib.hid (HndsAt.kept HV.out hb);replace HB:=Lib.hid (bch' HB.out hb);clear hb;obtain ⟨t0,tf0⟩:=HT.out.c1
          clear hWWa hn8
          obtain ⟨q0,q1,qf0,qf1⟩:=HXP.out.c2
          by_cases hz:paE x.1 x.2 = 0
          · rw [if_neg (by simpa using hz)] at hst
            have HS2:Hid (pmsE (ps.drop (k + 1)) = pmsE ps):=Lib.hid hst.symm
            rw [hz] at hpe
            clear hst hz
            have HPE:=Lib.hid hpe;clear hpe
            go_wp2_with (first | (with_reducible refine ((HPE.out _).mono ?_);rintro e w' ⟨rfl,hb⟩;replace HT:=Lib.hid (HT.out.keep hb);clear t0 tf0;replace HXP:=Lib.hid (HXP.out.keep hb);clear q0 q1 qf0 qf1;replace HV:=Lib.hid (HndsAt.kept HV.out hb);replace HB:=Lib.hid (bch' HB.out hb);clear hb;obtain ⟨t0,tf0⟩:=HT.out.c1;obtain ⟨q0,q1,qf0,qf1⟩:=HXP.out.c2))
            go_roundw
            case rel => exact ⟨k + 1,by first | rfl | simp,by omega,HS2,HB,HT,HV⟩
            case measure => first | (simp [intOf];done) | (simp [intOf];omega)
          · rw [if_pos hz] at hst
            have HE0:Hid (¬ clrE l ps = 0):=Lib.hid (by rw [HCE.out,hst];exact hz)
            have HE1:Hid (clrE l ps = paE x.1 x.2):=Lib.hid (by rw [HCE.out,hst])
            have HEO:=Lib.hid (clrO_bad HE0.out)
            have hne:((paE x.1 x.2:Int) != 0) = true:=by simpa using hz
            clear hst hz HE0
            generalize paE x.1 x.2 = m at *
            have HPE:=Lib.hid hpe;clear hpe
            go_wp2_with (first | (with_reducible refine ((HPE.out _).mono ?_);rintro e w' ⟨rfl,hb⟩;replace HT:=Lib.hid (HT.out.keep hb);clear t0 tf0;replace HXP:=Lib.hid (HXP.out.keep hb);clear q0 q1 qf0 qf1;replace HV:=Lib.hid (HndsAt.kept HV.out hb);replace HB:=Lib.hid (bch' HB.out hb);clear hb;obtain ⟨t0,tf0⟩:=HT.out.c1;obtain ⟨q0,q1,qf0,qf1⟩:=HXP.out.c2))
            go_ret2
            rw [HEO.out,HE1.out]
            exact SetQ.nil rfl HB.out
        · have HBw:=HB
          have hlt:¬ (k:Int) < (ps.length:Int):=by omega
          obtain rfl:k = ps.length:=by omega
          have hp0:pmsE ps = 0:=by rw [← HS.out];exact pmsE_end
          have HE1:Hid (clrE l ps = 0):=Lib.hid (by rw [HCE.out,hp0])
          have HEO:=Lib.hid (clrO_ok HE1.out)
          clear hp0
          by_cases h0:ps.length = 0
          · have hps:ps = []:=List.length_eq_zero_iff.1 h0
            have heq:((ps.length:Int) == 0) = true:=by rw [beq_iff_eq];omega
            have HEN:Hid (clrL l ps = []):=Lib.hid (by rw [hps,clrL_none])
            clear hps
            go_wp2_with fail
            go_ret2
            rw [HEO.out,HE1.out,HEN.out]
            exact SetQ.nil rfl HB.out
          · have heq:((ps.length:Int) == 0) = false:=by rw [beq_eq_false_iff_ne];omega
            have HEN:Hid (clrL l ps = l.filter (fun x => !decide (x.ky ∈ ps))):=Lib.hid (clrL_some (by omega))
            obtain ⟨p,c,rfl,hR⟩:=HV.out
            have HBU:Hid (PmsAt wr (.slice p2 ps.length c2) ps):=Lib.hid (PmsAt.kept HU0.out HB.out)
            have hcl:=own_hclone wr l p c hR (by have:=HLF.out;omega)
            have HT0:=HT
            have hde:=fun (W:World) (pp:Option Addr) (cc:Nat) (h1:OwnR encHd 7 wr.heap.size 77 W pp cc l) (h2:Below wr.heap.size wr W) => hnd1_delete 31 (.pointer (some ⟨w.heap.size,0,none⟩)) l (fun x => decide (x.ky ∈ ps)) pp cc wr.heap.size W h1 h2.size (by have:=HLF.out;omega) (enters_of Tryz.func31 (by kernel_rfl) rfl) (fun x _ W2 hW => by
              have h3:=h2.trans hW
              exact cl_clear x ps p2 c2 _ W2 (PmsAt.kept HBU.out h3) (by have:=HPF.out;omega) (HT0.out.keep h3).lt (HT0.out.keep h3).c1.1)
            clear hR
            have HCL:=Lib.hid hcl;clear hcl
            have HDE:=Lib.hid hde;clear hde
            go_wp2_with (first | (with_reducible refine ((HCL.out).mono ?_);rintro e w3 ⟨pc,cc,rfl,ho,hb⟩;have HO:=Lib.hid ho;have HB3:=Lib.hid hb;clear ho;replace HT:=Lib.hid (HT.out.keep hb);clear t0 tf0;replace HB:=Lib.hid (bch' HB.out hb);clear hb;obtain ⟨t0,tf0⟩:=HT.out.c1) | (with_reducible refine ((HDE.out _ _ _ HO.out HB3.out).mono ?_);rintro e w4 ⟨pd,cd,rfl,ho,hb⟩;have HO4:=Lib.hid ho;have HB4:=Lib.hid (HB3.out.trans hb);clear ho hb))
            go_ret2
            rw [HEO.out,HE1.out,HEN.out]
            exact ⟨_,_,rfl,OwnR.low HO4.out HBw.out.size,bch' HBw.out HB4.out⟩
  · clear hu0
    have HE0:Hid (¬ clrE l ps = 0):=Lib.hid (by rw [clrE_h h1];exact h1)
    rw [clrO_bad HE0.out,clrE_h h1]
    have hne:((hnsE l:Int) != 0) = true:=by simpa using h1
    clear HE0 h1 hx hR2 hp
    generalize hnsE l = m at *
    have HCK:=Lib.hid hck;clear hck
    go_enter Tryz.func11,Tryz.ntmps11
    go_wp2_with (first | (with_reducible refine ((HCK.out _ (ENV.out.below HB.out) HV.out).mono ?_);rintro e w' ⟨rfl,hb⟩;replace HT:=Lib.hid (HT.out.keep hb);clear t0 tf0;replace HV:=Lib.hid (HndsAt.kept HV.out hb);replace HU:=Lib.hid (PmsAt.kept HU.out hb);replace HB:=Lib.hid (bch' HB.out hb);clear hb;obtain ⟨t0,tf0⟩:=HT.out.c1))
    go_ret2
    exact SetQ.nil rfl HB.out
end Go.Proofs.YtmjkenlifgmeeaaGreatDoor
namespace Lum
open Go Go.RowKit Go.Shelf
open Go.Lib (decDigits itoa)
def OffAt (W:World) (b o:Nat) (vs:List Value):Prop:=b < W.heap.size ∧ ∀ j u,vs[j]? = some u → W.cell? ⟨b,o + j,none⟩ = some u
theorem OffAt.keep {W W':World} {b o:Nat} {vs:List Value} (h:OffAt W b o vs) (hb:Below W.heap.size W W'):OffAt W' b o vs:=⟨Nat.lt_of_lt_of_le h.1 hb.size,fun j u hu => (hb.cell (p:=⟨b,o + j,none⟩) h.1).trans (h.2 j u hu)⟩
theorem HndsAt.one {W:World} {v:Value} {h:Hnd} (H:HndsAt W v [h]):∃ b o c,v = .slice (some ⟨b,o,none⟩) 1 c ∧ OffAt W b o (encHd h):=by
  obtain ⟨p,c,rfl,hR⟩:=H
  obtain ⟨b,o,rfl,hb,hC⟩:=hR (by simp)
  refine ⟨b,o,c,rfl,hb,fun j u hu => ?_⟩
  have:=hC 0 (by simp) j u hu
  rwa [Nat.zero_mul,Nat.add_zero] at this
theorem SetP.one {h:Hnd} {n:Int} {w w':World} {e:Ending} (H:SetP [h] n w e w'):∃ b o c,e = .returned (.tuple #[.slice (some ⟨b,o,none⟩) 1 c,.int .i64 n]) ∧ OffAt w' b o (encHd h) ∧ HndsAt w' (.slice (some ⟨b,o,none⟩) 1 c) [h] ∧ Below w.heap.size w w':=by
  obtain ⟨v,rfl,hv,hb⟩:=H
  obtain ⟨b,o,c,rfl,h2⟩:=hv.one
  exact ⟨b,o,c,rfl,h2,hv,hb⟩
theorem SetP.none {n:Int} {w w':World} {e:Ending} (H:SetP [] n w e w'):∃ p c,e = .returned (.tuple #[.slice p 0 c,.int .i64 n]) ∧ Below w.heap.size w w':=by
  obtain ⟨v,rfl,⟨p,c,rfl,-⟩,hb⟩:=H
  exact ⟨p,c,rfl,hb⟩
def exH1:Hnd:=⟨2,0,[52,49],0,100,1000,400⟩
def exH2:Hnd:=⟨2,0,[49,52,49,47,50],0,0,1200,100⟩
end Lum
namespace Go.Proofs.YtmjkenlifgmeeaaGreatDoor
open Go.RowKit Go.Shelf Lum
open Go.Lib (decDigits itoa)
attribute [local go_sem] bs_get bs_extract_end bs_extract_from bs_extract bs_append
end Go.Proofs.YtmjkenlifgmeeaaGreatDoor
namespace Lum
open Go Go.RowKit Go.Shelf
open Go.Lib (decDigits itoa)
end Lum
namespace Go.Proofs.YtmjkenlifgmeeaaGreatDoor
open Go.RowKit Go.Shelf Lum
open Go.Lib (decDigits itoa)
attribute [local go_sem] bs_get bs_extract_end bs_extract_from bs_extract bs_append
end Go.Proofs.YtmjkenlifgmeeaaGreatDoor
set_option maxRecDepth 100000
namespace Lum
open Go Go.RowKit Go.Shelf
open Go.Lib (decDigits itoa)
def fewEn (es:List Ent):Bool:=decide (es.length ≤ 200) || decide (4096 < es.length)
def fewX (es:List Ent) (now:List Amt):Bool:=fewEn es && (decide (now.length ≤ 300) && !(now.any (fun y => decide (60 < y.le.length))))
def ordV (t ti:Int) (p1:Option Addr) (n1 c1:Nat) (p2:Option Addr) (n2 c2:Nat):Value:=.agg #[.int .i64 t,.int .i64 ti,.slice p1 n1 c1,.slice p2 n2 c2]
def rgtB (l:List Hnd) (t ti:Int) (es:List Ent) (now:List Amt):Bool:=fewH l && (fewX es now && (decide (hnsE l = 0) && decide (setE l t es ti now = 0)))
end Lum
namespace Go.Proofs.YtmjkenlifgmeeaaGreatDoor
open Go.RowKit Go.Shelf Lum
open Go.Lib (decDigits itoa)
attribute [local go_sem] bs_get bs_extract_end bs_extract_from bs_extract bs_append
theorem r15_fewents (es : List Ent) (u : Value) (w : World) (hu : EntsAt w u es) :
    Calls Tryz.prog 5 #[u] w fun e w' => e = .returned (.bool (fewEn es)) ∧ w = w':=by
  obtain ⟨p,c,rfl,-⟩:=hu
  by_cases h1:es.length ≤ 200
  · have g1:(es.length:Int) ≤ 200:=by omega
    have HE:Hid (fewEn es = true):=Lib.hid (by unfold fewEn;rw [decide_eq_true h1];rfl)
    go_enter Tryz.func5,Tryz.ntmps5
    go_wp2_with fail
    go_ret
    exact ⟨by first | (rw [HE.out];done) | (rw [HE.out];rfl),rfl⟩
  · by_cases h2:4096 < es.length
    · have g1:¬ (es.length:Int) ≤ 200:=by omega
      have g2:(4096:Int) < (es.length:Int):=by omega
      have HE:Hid (fewEn es = true):=Lib.hid (by unfold fewEn;rw [decide_eq_false h1,decide_eq_true h2];rfl)
      go_enter Tryz.func5,Tryz.ntmps5
      go_wp2_with fail
      go_ret
      exact ⟨by first | (rw [HE.out];done) | (rw [HE.out];rfl),rfl⟩
    · have g1:¬ (es.length:Int) ≤ 200:=by omega
      have g2:¬ (4096:Int) < (es.length:Int):=by omega
      have HE:Hid (fewEn es = false):=Lib.hid (by unfold fewEn;rw [decide_eq_false h1,decide_eq_false h2];rfl)
      go_enter Tryz.func5,Tryz.ntmps5
      go_wp2_with fail
      go_ret
      exact ⟨by first | (rw [HE.out];done) | (rw [HE.out];rfl),rfl⟩
end Go.Proofs.YtmjkenlifgmeeaaGreatDoor

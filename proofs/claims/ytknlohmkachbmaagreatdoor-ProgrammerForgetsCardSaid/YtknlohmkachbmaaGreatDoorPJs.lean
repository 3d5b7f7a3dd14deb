import Derived.Test.YtknlohmkachbmaaGreatDoorPHo
import Derived.Test.YtknlohmkachbmaaGreatDoorPEv
import Derived.Carry
import Derived.WideKeyArgs
import Derived.Deep.Slices
set_option maxRecDepth 100000
set_option linter.unusedVariables false
set_option linter.unusedSimpArgs false
namespace Go.Proofs.YtknlohmkachbmaaGreatDoor
open Go.RowKit Go.Shelf Lum Go.ChangeShapes Go.WideShapes Go.ChangeAt Go.Joins
theorem trodAll_stays {H : Type} {enc : TypeId × Value → H} {P : Program} (hl : laidOutB P = true) {W W' : World} {sp' : Nat → Bool} :
    ∀ {ts : List TypeId} {vs : List Value} {ds : List (DataW H)} {ps : List MemPlace}, (∀ t ∈ ts, P.readableRec t = true ∧ t < P.types.size) → DataW.TrodAll enc P W 0 (fun _ => true) true ts vs ds ps →
      (∀ p ∈ ps,W.sameAt W' p) → (∀ p ∈ ps,sp' p.block = true) → DataW.TrodAll enc P W' 0 sp' true ts vs ds ps
  | [],_,_,_,_,h,_,_ => by
    obtain ⟨rfl,rfl,rfl⟩:=trodAll_nil h
    exact trodAll_mk0
  | t :: ts,_,_,_,hT,h,hs,hp => by
    obtain ⟨v,vs',d,ds',p,q,rfl,rfl,rfl,h1,h2⟩:=trodAll_cons h
    exact trodAll_cons_mk (Go.WideElems.Trod_stays hl (hT t (List.mem_cons_self)).1 (hT t (List.mem_cons_self)).2 h1 (fun x hx => hs x (List.mem_append_left _ hx)) (fun x hx => hp x (List.mem_append_left _ hx)))
      (trodAll_stays hl (fun t' h' => hT t' (List.mem_cons_of_mem _ h')) h2 (fun x hx => hs x (List.mem_append_right _ hx)) (fun x hx => hp x (List.mem_append_right _ hx)))
theorem open_els {α : Type} {P : Program} {H : Type} {enc : TypeId × Value → H} {W : World} {base : Nat} {spare : Nat → Bool} {held : Bool} {t e : TypeId} (ht : P.underlying t = some (.slice e)) (k : Nat) (hk : P.cellsOf e = k) (hk0 : 0 < k) (dd : α) (R : List Value → α → Prop)
    (hin:∀ n cs x,DataW.trod enc P W base spare held n e cs = some x → ∃ a,R cs a) {fuel:Nat} {cs:List Value} {x:DataW H × List MemPlace} (h:DataW.trod enc P W base spare held fuel t cs = some x) :
    ∃ (l:List α) (p:Option Addr) (c:Nat),cs = [.slice p l.length c] ∧ l.length ≤ c ∧ c ≤ maxLen ∧ (l ≠ [] → ∃ b o,p = some ⟨b,o,none⟩ ∧ b < W.heap.size ∧ ∀ i,i < l.length → ∃ cs',R cs' (l[i]?.getD dd) ∧ ∀ j v,cs'[j]? = some v → W.cell? ⟨b,o + i * k + j,none⟩ = some v):=by
  rcases Go.Deep.open_slice ht h with ⟨rfl,-⟩ | ⟨a,len,cap,m,n,D,Pl,rfl,hb,hl,hm,hmm,-,hx⟩
  · exact ⟨[],none,0,rfl,Nat.le_refl _,by simp,fun h => absurd rfl h⟩
  · have hlm:len ≤ m:=by rw [hmm];split <;> omega
    rw [hk] at hx
    have key:∀ i,∃ q:α,i < m → ∃ cs',R cs' q ∧ 0 < cs'.length ∧ ∀ j v,cs'[j]? = some v → W.cell? ((a.add (i * k)).add j) = some v:=by
      intro i
      by_cases hi:i < m
      · obtain ⟨cs',h1,h2⟩:=hx i hi
        obtain ⟨q,hq⟩:=hin _ _ _ h2
        obtain ⟨-,hcl,hat⟩:=World.cells?_some h1
        refine ⟨q,fun _ => ⟨cs',hq,by omega,fun j v hj => ?_⟩⟩
        have hjl:=(List.getElem?_eq_some_iff.1 hj).1
        rw [hat j (by omega),hj]
      · exact ⟨dd,fun h => absurd h hi⟩
    obtain ⟨q,hq⟩:=Classical.axiomOfChoice key
    have hlen:((List.range len).map q).length = len:=by simp
    refine ⟨(List.range len).map q,some a,cap,by rw [hlen],by rw [hlen];exact hl,hm,fun hne => ?_⟩
    have h0:0 < len:=by
      rcases Nat.eq_zero_or_pos len with h | h
      · subst h;exact absurd rfl hne
      · exact h
    obtain ⟨b,off,spot⟩:=a
    have hspot:spot = none:=by
      obtain ⟨cs',-,h2,h3⟩:=hq 0 (by omega)
      have:=h3 0 _ (List.getElem?_eq_getElem h2)
      rw [Nat.zero_mul] at this
      simpa [Addr.add] using World.cell?_spot this
    subst hspot
    refine ⟨b,off,rfl,?_,fun i hi => ?_⟩
    · obtain ⟨cs',-,h2,h3⟩:=hq 0 (by omega)
      have:=h3 0 _ (List.getElem?_eq_getElem h2)
      rw [add_plain,add_plain] at this
      exact World.block_lt_of_cell? W _ this
    · rw [hlen] at hi
      obtain ⟨cs',h1,-,h3⟩:=hq i (by omega)
      refine ⟨cs',?_,fun j v hj => ?_⟩
      · simpa [hi] using h1
      · have:=h3 j v hj
        rw [add_plain,add_plain] at this
        exact this
section
variable {H:Type} {enc:TypeId × Value → H} {W:World} {base:Nat} {spare:Nat → Bool} {held:Bool}
theorem param29_in {fuel : Nat} {cs : List Value} {x : DataW H × List MemPlace} (h : DataW.trod enc Tryz.prog W base spare held fuel 23 cs = some x) :
    ∃ (ch at_:Int),cs = [.int .i64 ch,.int .i64 at_] ∧ (-9223372036854775808 ≤ ch ∧ ch ≤ 9223372036854775807) ∧ (-9223372036854775808 ≤ at_ ∧ at_ ≤ 9223372036854775807):=by
  obtain ⟨xs,n,-,-,hl,hxl,hf⟩:=DataW.trod_struct Tryz.underlying23 h
  have kc:cs.length = 2:=hl.trans (by kernel_rfl)
  match cs,kc with
  | [c0,c1],_ =>
    match xs,hxl with
    | [y0,y1],_ =>
      have k0:Tryz.prog.cellsOf 3 = 1:=by kernel_rfl
      have h0:DataW.trod enc Tryz.prog W base spare held n 3 [c0] = some y0:=by
        have h:DataW.trod enc Tryz.prog W base spare held n 3 (List.take (Tryz.prog.cellsOf 3) (List.drop 0 [c0,c1])) = [y0,y1][0]?:=hf 0 _ rfl
        rw [k0] at h
        exact h
      have k1:Tryz.prog.cellsOf 3 = 1:=by kernel_rfl
      have h1:DataW.trod enc Tryz.prog W base spare held n 3 [c1] = some y1:=by
        have h:DataW.trod enc Tryz.prog W base spare held n 3 (List.take (Tryz.prog.cellsOf 3) (List.drop 1 [c0,c1])) = [y0,y1][1]?:=hf 1 _ rfl
        rw [k1] at h
        exact h
      obtain ⟨a,e0,-,w0⟩:=DataW.trod_int Tryz.underlying3 h0
      obtain rfl:=(List.cons.inj e0).1
      obtain ⟨b,e1,-,w1⟩:=DataW.trod_int Tryz.underlying3 h1
      obtain rfl:=(List.cons.inj e1).1
      exact ⟨a,b,rfl,wf_i64 w0,wf_i64 w1⟩
theorem value29_in {fuel : Nat} {cs : List Value} {x : DataW H × List MemPlace} (h : DataW.trod enc Tryz.prog W base spare held fuel 26 cs = some x) :
    ∃ (ch at_:Int),cs = [.int .i64 ch,.int .i64 at_] ∧ (-9223372036854775808 ≤ ch ∧ ch ≤ 9223372036854775807) ∧ (-9223372036854775808 ≤ at_ ∧ at_ ≤ 9223372036854775807):=by
  obtain ⟨xs,n,-,-,hl,hxl,hf⟩:=DataW.trod_struct Tryz.underlying26 h
  have kc:cs.length = 2:=hl.trans (by kernel_rfl)
  match cs,kc with
  | [c0,c1],_ =>
    match xs,hxl with
    | [y0,y1],_ =>
      have k0:Tryz.prog.cellsOf 3 = 1:=by kernel_rfl
      have h0:DataW.trod enc Tryz.prog W base spare held n 3 [c0] = some y0:=by
        have h:DataW.trod enc Tryz.prog W base spare held n 3 (List.take (Tryz.prog.cellsOf 3) (List.drop 0 [c0,c1])) = [y0,y1][0]?:=hf 0 _ rfl
        rw [k0] at h
        exact h
      have k1:Tryz.prog.cellsOf 3 = 1:=by kernel_rfl
      have h1:DataW.trod enc Tryz.prog W base spare held n 3 [c1] = some y1:=by
        have h:DataW.trod enc Tryz.prog W base spare held n 3 (List.take (Tryz.prog.cellsOf 3) (List.drop 1 [c0,c1])) = [y0,y1][1]?:=hf 1 _ rfl
        rw [k1] at h
        exact h
      obtain ⟨a,e0,-,w0⟩:=DataW.trod_int Tryz.underlying3 h0
      obtain rfl:=(List.cons.inj e0).1
      obtain ⟨b,e1,-,w1⟩:=DataW.trod_int Tryz.underlying3 h1
      obtain rfl:=(List.cons.inj e1).1
      exact ⟨a,b,rfl,wf_i64 w0,wf_i64 w1⟩
theorem hand_in {fuel : Nat} {cs : List Value} {x : DataW H × List MemPlace} (h : DataW.trod enc Tryz.prog W base spare held fuel 28 cs = some x) :
    ∃ y:Hnd,cs = encHd y:=by
  obtain ⟨xs,n,-,-,hl,hxl,hf⟩:=DataW.trod_struct Tryz.underlying28 h
  have kc:cs.length = 7:=hl.trans (by kernel_rfl)
  match cs,kc with
  | [c0,c1,c2,c3,c4,c5,c6],_ =>
    match xs,hxl with
    | [y0,y1,y2,y3,y4],_ =>
      have k0:Tryz.prog.cellsOf 23 = 2:=by kernel_rfl
      have h0:DataW.trod enc Tryz.prog W base spare held n 23 [c0,c1] = some y0:=by
        have h:DataW.trod enc Tryz.prog W base spare held n 23 (List.take (Tryz.prog.cellsOf 23) (List.drop 0 [c0,c1,c2,c3,c4,c5,c6])) = [y0,y1,y2,y3,y4][0]?:=hf 0 _ rfl
        rw [k0] at h
        exact h
      have k1:Tryz.prog.cellsOf 24 = 1:=by kernel_rfl
      have h1:DataW.trod enc Tryz.prog W base spare held n 24 [c2] = some y1:=by
        have h:DataW.trod enc Tryz.prog W base spare held n 24 (List.take (Tryz.prog.cellsOf 24) (List.drop 2 [c0,c1,c2,c3,c4,c5,c6])) = [y0,y1,y2,y3,y4][1]?:=hf 1 _ rfl
        rw [k1] at h
        exact h
      have k2:Tryz.prog.cellsOf 26 = 2:=by kernel_rfl
      have h2:DataW.trod enc Tryz.prog W base spare held n 26 [c3,c4] = some y2:=by
        have h:DataW.trod enc Tryz.prog W base spare held n 26 (List.take (Tryz.prog.cellsOf 26) (List.drop 3 [c0,c1,c2,c3,c4,c5,c6])) = [y0,y1,y2,y3,y4][2]?:=hf 2 _ rfl
        rw [k2] at h
        exact h
      have k3:Tryz.prog.cellsOf 3 = 1:=by kernel_rfl
      have h3:DataW.trod enc Tryz.prog W base spare held n 3 [c5] = some y3:=by
        have h:DataW.trod enc Tryz.prog W base spare held n 3 (List.take (Tryz.prog.cellsOf 3) (List.drop 5 [c0,c1,c2,c3,c4,c5,c6])) = [y0,y1,y2,y3,y4][3]?:=hf 3 _ rfl
        rw [k3] at h
        exact h
      have k4:Tryz.prog.cellsOf 3 = 1:=by kernel_rfl
      have h4:DataW.trod enc Tryz.prog W base spare held n 3 [c6] = some y4:=by
        have h:DataW.trod enc Tryz.prog W base spare held n 3 (List.take (Tryz.prog.cellsOf 3) (List.drop 6 [c0,c1,c2,c3,c4,c5,c6])) = [y0,y1,y2,y3,y4][4]?:=hf 4 _ rfl
        rw [k4] at h
        exact h
      obtain ⟨a,b,e0,-,-⟩:=param29_in h0
      simp only [List.cons.injEq,and_true] at e0
      obtain ⟨rfl,rfl⟩:=e0
      obtain ⟨s1,e1,-,w1⟩:=DataW.trod_string Tryz.underlying24 h1
      obtain rfl:=(List.cons.inj e1).1
      obtain ⟨fr,es1⟩:=str_of s1
      subst es1
      obtain ⟨pa,lv,e2,-,-⟩:=value29_in h2
      simp only [List.cons.injEq,and_true] at e2
      obtain ⟨rfl,rfl⟩:=e2
      obtain ⟨st,e3,-,w3⟩:=DataW.trod_int Tryz.underlying3 h3
      obtain rfl:=(List.cons.inj e3).1
      obtain ⟨ti,e4,-,w4⟩:=DataW.trod_int Tryz.underlying3 h4
      obtain rfl:=(List.cons.inj e4).1
      exact ⟨⟨a,b,fr,pa,lv,st,ti⟩,rfl⟩
theorem entry_in {fuel : Nat} {cs : List Value} {x : DataW H × List MemPlace} (h : DataW.trod enc Tryz.prog W base spare held fuel 55 cs = some x) :
    ∃ y:Ent,cs = encEn y:=by
  obtain ⟨xs,n,-,-,hl,hxl,hf⟩:=DataW.trod_struct Tryz.underlying55 h
  have kc:cs.length = 4:=hl.trans (by kernel_rfl)
  match cs,kc with
  | [c0,c1,c2,c3],_ =>
    match xs,hxl with
    | [y0,y1],_ =>
      have k0:Tryz.prog.cellsOf 23 = 2:=by kernel_rfl
      have h0:DataW.trod enc Tryz.prog W base spare held n 23 [c0,c1] = some y0:=by
        have h:DataW.trod enc Tryz.prog W base spare held n 23 (List.take (Tryz.prog.cellsOf 23) (List.drop 0 [c0,c1,c2,c3])) = [y0,y1][0]?:=hf 0 _ rfl
        rw [k0] at h
        exact h
      have k1:Tryz.prog.cellsOf 26 = 2:=by kernel_rfl
      have h1:DataW.trod enc Tryz.prog W base spare held n 26 [c2,c3] = some y1:=by
        have h:DataW.trod enc Tryz.prog W base spare held n 26 (List.take (Tryz.prog.cellsOf 26) (List.drop 2 [c0,c1,c2,c3])) = [y0,y1][1]?:=hf 1 _ rfl
        rw [k1] at h
        exact h
      obtain ⟨a,b,e0,-,-⟩:=param29_in h0
      simp only [List.cons.injEq,and_true] at e0
      obtain ⟨rfl,rfl⟩:=e0
      obtain ⟨pa,lv,e1,-,-⟩:=value29_in h1
      simp only [List.cons.injEq,and_true] at e1
      obtain ⟨rfl,rfl⟩:=e1
      exact ⟨⟨a,b,pa,lv⟩,rfl⟩
theorem amount_in {fuel : Nat} {cs : List Value} {x : DataW H × List MemPlace} (h : DataW.trod enc Tryz.prog W base spare held fuel 63 cs = some x) :
    ∃ y:Amt,cs = encAm y:=by
  obtain ⟨xs,n,-,-,hl,hxl,hf⟩:=DataW.trod_struct Tryz.underlying63 h
  have kc:cs.length = 3:=hl.trans (by kernel_rfl)
  match cs,kc with
  | [c0,c1,c2],_ =>
    match xs,hxl with
    | [y0,y1],_ =>
      have k0:Tryz.prog.cellsOf 23 = 2:=by kernel_rfl
      have h0:DataW.trod enc Tryz.prog W base spare held n 23 [c0,c1] = some y0:=by
        have h:DataW.trod enc Tryz.prog W base spare held n 23 (List.take (Tryz.prog.cellsOf 23) (List.drop 0 [c0,c1,c2])) = [y0,y1][0]?:=hf 0 _ rfl
        rw [k0] at h
        exact h
      have k1:Tryz.prog.cellsOf 24 = 1:=by kernel_rfl
      have h1:DataW.trod enc Tryz.prog W base spare held n 24 [c2] = some y1:=by
        have h:DataW.trod enc Tryz.prog W base spare held n 24 (List.take (Tryz.prog.cellsOf 24) (List.drop 2 [c0,c1,c2])) = [y0,y1][1]?:=hf 1 _ rfl
        rw [k1] at h
        exact h
      obtain ⟨a,b,e0,-,-⟩:=param29_in h0
      simp only [List.cons.injEq,and_true] at e0
      obtain ⟨rfl,rfl⟩:=e0
      obtain ⟨s1,e1,-,w1⟩:=DataW.trod_string Tryz.underlying24 h1
      obtain rfl:=(List.cons.inj e1).1
      obtain ⟨le,es1⟩:=str_of s1
      subst es1
      exact ⟨⟨a,b,le⟩,rfl⟩
theorem hands_in {fuel:Nat} {cs:List Value} {x:DataW H × List MemPlace} (h:DataW.trod enc Tryz.prog W base spare held fuel 30 cs = some x):∃ (p:Option Addr) (c:Nat) (l:List Hnd),cs = [.slice p l.length c] ∧ HndsAt W (.slice p l.length c) l ∧ l.length ≤ maxLen:=by
  obtain ⟨l,p,c,rfl,hl,hm,hc⟩:=open_els Tryz.underlying30 7 (by kernel_rfl) (by omega) (⟨0,0,[],0,0,0,0⟩:Hnd) (fun cs y => cs = encHd y) (fun _ _ _ h => hand_in h) h
  refine ⟨p,c,l,rfl,⟨p,c,rfl,fun hn => ?_⟩,by omega⟩
  obtain ⟨b,o,hp,hb,hc⟩:=hc hn
  refine ⟨b,o,hp,hb,fun i hi j u hu => ?_⟩
  obtain ⟨cs',rfl,h1⟩:=hc i hi
  rw [List.getElem?_eq_getElem hi] at h1
  exact h1 j u hu
theorem entries_in {fuel:Nat} {cs:List Value} {x:DataW H × List MemPlace} (h:DataW.trod enc Tryz.prog W base spare held fuel 45 cs = some x):∃ (p:Option Addr) (c:Nat) (l:List Ent),cs = [.slice p l.length c] ∧ EntsAt W (.slice p l.length c) l ∧ l.length ≤ maxLen:=by
  obtain ⟨l,p,c,rfl,hl,hm,hc⟩:=open_els Tryz.underlying45 4 (by kernel_rfl) (by omega) (⟨0,0,0,0⟩:Ent) (fun cs y => cs = encEn y) (fun _ _ _ h => entry_in h) h
  refine ⟨p,c,l,rfl,⟨p,c,rfl,fun hn => ?_⟩,by omega⟩
  obtain ⟨b,o,hp,hb,hc⟩:=hc hn
  refine ⟨b,o,hp,hb,fun i hi j u hu => ?_⟩
  obtain ⟨cs',rfl,h1⟩:=hc i hi
  rw [List.getElem?_eq_getElem hi] at h1
  exact h1 j u hu
theorem amounts_in {fuel:Nat} {cs:List Value} {x:DataW H × List MemPlace} (h:DataW.trod enc Tryz.prog W base spare held fuel 46 cs = some x):∃ (p:Option Addr) (c:Nat) (l:List Amt),cs = [.slice p l.length c] ∧ AmtsAt W (.slice p l.length c) l ∧ l.length ≤ maxLen:=by
  obtain ⟨l,p,c,rfl,hl,hm,hc⟩:=open_els Tryz.underlying46 3 (by kernel_rfl) (by omega) (⟨0,0,[]⟩:Amt) (fun cs y => cs = encAm y) (fun _ _ _ h => amount_in h) h
  refine ⟨p,c,l,rfl,⟨p,c,rfl,fun hn => ?_⟩,by omega⟩
  obtain ⟨b,o,hp,hb,hc⟩:=hc hn
  refine ⟨b,o,hp,hb,fun i hi j u hu => ?_⟩
  obtain ⟨cs',rfl,h1⟩:=hc i hi
  rw [List.getElem?_eq_getElem hi] at h1
  exact h1 j u hu
theorem parm_in {fuel:Nat} {cs:List Value} {x:DataW H × List MemPlace} (h:DataW.trod enc Tryz.prog W base spare held fuel 23 cs = some x):∃ y:Int × Int,cs = encPm y:=by
  obtain ⟨a,b,e,-,-⟩:=param29_in h
  exact ⟨(a,b),e⟩
theorem params_in {fuel:Nat} {cs:List Value} {x:DataW H × List MemPlace} (h:DataW.trod enc Tryz.prog W base spare held fuel 38 cs = some x):∃ (p:Option Addr) (c:Nat) (l:List (Int × Int)),cs = [.slice p l.length c] ∧ PmsAt W (.slice p l.length c) l ∧ l.length ≤ maxLen:=by
  obtain ⟨l,p,c,rfl,hl,hm,hc⟩:=open_els Tryz.underlying38 2 (by kernel_rfl) (by omega) ((0,0):(Int × Int)) (fun cs y => cs = encPm y) (fun _ _ _ h => parm_in h) h
  refine ⟨p,c,l,rfl,⟨p,c,rfl,fun hn => ?_⟩,by omega⟩
  obtain ⟨b,o,hp,hb,hc⟩:=hc hn
  refine ⟨b,o,hp,hb,fun i hi j u hu => ?_⟩
  obtain ⟨cs',rfl,h1⟩:=hc i hi
  rw [List.getElem?_eq_getElem hi] at h1
  exact h1 j u hu
theorem order_in {fuel : Nat} {cs : List Value} {x : DataW H × List MemPlace} (h : DataW.trod enc Tryz.prog W base spare held fuel 48 cs = some x) :
    ∃ (t ti:Int) (p1 p2:Option Addr) (c1 c2:Nat) (es:List Ent) (now:List Amt),cs = [.int .i64 t,.int .i64 ti,.slice p1 es.length c1,.slice p2 now.length c2] ∧ EntsAt W (.slice p1 es.length c1) es ∧ AmtsAt W (.slice p2 now.length c2) now:=by
  obtain ⟨xs,n,-,-,hl,hxl,hf⟩:=DataW.trod_struct Tryz.underlying48 h
  have kc:cs.length = 4:=hl.trans (by kernel_rfl)
  match cs,kc with
  | [c0,c1,c2,c3],_ =>
    match xs,hxl with
    | [y0,y1,y2,y3],_ =>
      have k0:Tryz.prog.cellsOf 3 = 1:=by kernel_rfl
      have h0:DataW.trod enc Tryz.prog W base spare held n 3 [c0] = some y0:=by
        have h:DataW.trod enc Tryz.prog W base spare held n 3 (List.take (Tryz.prog.cellsOf 3) (List.drop 0 [c0,c1,c2,c3])) = [y0,y1,y2,y3][0]?:=hf 0 _ rfl
        rw [k0] at h
        exact h
      have k1:Tryz.prog.cellsOf 3 = 1:=by kernel_rfl
      have h1:DataW.trod enc Tryz.prog W base spare held n 3 [c1] = some y1:=by
        have h:DataW.trod enc Tryz.prog W base spare held n 3 (List.take (Tryz.prog.cellsOf 3) (List.drop 1 [c0,c1,c2,c3])) = [y0,y1,y2,y3][1]?:=hf 1 _ rfl
        rw [k1] at h
        exact h
      have k2:Tryz.prog.cellsOf 45 = 1:=by kernel_rfl
      have h2:DataW.trod enc Tryz.prog W base spare held n 45 [c2] = some y2:=by
        have h:DataW.trod enc Tryz.prog W base spare held n 45 (List.take (Tryz.prog.cellsOf 45) (List.drop 2 [c0,c1,c2,c3])) = [y0,y1,y2,y3][2]?:=hf 2 _ rfl
        rw [k2] at h
        exact h
      have k3:Tryz.prog.cellsOf 46 = 1:=by kernel_rfl
      have h3:DataW.trod enc Tryz.prog W base spare held n 46 [c3] = some y3:=by
        have h:DataW.trod enc Tryz.prog W base spare held n 46 (List.take (Tryz.prog.cellsOf 46) (List.drop 3 [c0,c1,c2,c3])) = [y0,y1,y2,y3][3]?:=hf 3 _ rfl
        rw [k3] at h
        exact h
      obtain ⟨a,e0,-,w0⟩:=DataW.trod_int Tryz.underlying3 h0
      obtain rfl:=(List.cons.inj e0).1
      obtain ⟨b,e1,-,w1⟩:=DataW.trod_int Tryz.underlying3 h1
      obtain rfl:=(List.cons.inj e1).1
      obtain ⟨p1,c1,es,e2,h5,-⟩:=entries_in h2
      obtain rfl:=(List.cons.inj e2).1
      obtain ⟨p2,c2,now,e3,h6,-⟩:=amounts_in h3
      obtain rfl:=(List.cons.inj e3).1
      exact ⟨a,b,p1,p2,c1,c2,es,now,rfl,h5,h6⟩
variable {r:Reach} {b0:Nat} {v:Value} {d:DataW H} {p:List MemPlace}
theorem open_hands (hv:Value.okWide Tryz.prog W r b0 30 v) (h:DataW.Trod enc Tryz.prog W base spare held 30 v d p):∃ l:List Hnd,HndsAt W v l ∧ l.length ≤ maxLen:=by
  obtain ⟨a0,len,cap,rfl⟩:=okWide_slice Tryz.underlying30 hv
  obtain ⟨fuel,hf⟩:=h
  obtain ⟨p,c,l,h1,h2,h3⟩:=hands_in hf
  have h9:Value.slice a0 len cap = .slice p l.length c:=(List.cons.inj h1).1
  rw [h9]
  exact ⟨l,h2,h3⟩
theorem open_params (hv:Value.okWide Tryz.prog W r b0 38 v) (h:DataW.Trod enc Tryz.prog W base spare held 38 v d p):∃ l:List (Int × Int),PmsAt W v l ∧ l.length ≤ maxLen:=by
  obtain ⟨a0,len,cap,rfl⟩:=okWide_slice Tryz.underlying38 hv
  obtain ⟨fuel,hf⟩:=h
  obtain ⟨p,c,l,h1,h2,h3⟩:=params_in hf
  have h9:Value.slice a0 len cap = .slice p l.length c:=(List.cons.inj h1).1
  rw [h9]
  exact ⟨l,h2,h3⟩
theorem open_hand (hv:Value.okWide Tryz.prog W r b0 28 v) (h:DataW.Trod enc Tryz.prog W base spare held 28 v d p):∃ y:Hnd,v = .agg (encHd y).toArray:=by
  obtain ⟨cs,rfl,hsz⟩:=okWide_struct Tryz.underlying28 hv
  obtain ⟨l⟩:=cs
  obtain ⟨fuel,hf⟩:=h
  obtain ⟨y,h1⟩:=hand_in hf
  exact ⟨y,by simpa [Value.cells] using h1⟩
theorem open_param29 (hv:Value.okWide Tryz.prog W r b0 23 v) (h:DataW.Trod enc Tryz.prog W base spare held 23 v d p):∃ (a b:Int),v = .agg #[.int .i64 a,.int .i64 b]:=by
  obtain ⟨cs,rfl,hsz⟩:=okWide_struct Tryz.underlying23 hv
  obtain ⟨l⟩:=cs
  obtain ⟨fuel,hf⟩:=h
  obtain ⟨a,b,h1,-⟩:=param29_in hf
  exact ⟨a,b,by simpa [Value.cells] using h1⟩
theorem open_order (hv:Value.okWide Tryz.prog W r b0 48 v) (h:DataW.Trod enc Tryz.prog W base spare held 48 v d p):∃ (t ti:Int) (p1 p2:Option Addr) (c1 c2:Nat) (es:List Ent) (now:List Amt),v = .agg #[.int .i64 t,.int .i64 ti,.slice p1 es.length c1,.slice p2 now.length c2] ∧ EntsAt W (.slice p1 es.length c1) es ∧ AmtsAt W (.slice p2 now.length c2) now:=by
  obtain ⟨cs,rfl,hsz⟩:=okWide_struct Tryz.underlying48 hv
  obtain ⟨l⟩:=cs
  obtain ⟨fuel,hf⟩:=h
  obtain ⟨t,ti,p1,p2,c1,c2,es,now,h1,h2,h3⟩:=order_in hf
  exact ⟨t,ti,p1,p2,c1,c2,es,now,by simpa [Value.cells] using h1,h2,h3⟩
end
end Go.Proofs.YtknlohmkachbmaaGreatDoor

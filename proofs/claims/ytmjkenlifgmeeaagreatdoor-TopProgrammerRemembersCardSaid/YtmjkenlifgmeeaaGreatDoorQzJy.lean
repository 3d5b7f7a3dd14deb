import Derived.Test.YtmjkenlifgmeeaaGreatDoorQzJx
import Derived.Test.YtmjkenlifgmeeaaGreatDoorQzJv
import Derived.Test.YtmjkenlifgmeeaaGreatDoorQzJn
import Derived.Deep.RegionHeld3
set_option maxRecDepth 100000
set_option maxHeartbeats 16000000
set_option linter.unusedVariables false
set_option linter.unusedSimpArgs false
namespace Lum
open Go Go.RowKit Go.Shelf
open Go.Lib (decDigits itoa)
theorem keepT_app {β:Type} {enc:β → List Value} {k base:Nat} {e:TypeId} {W w':World} {p:Option Addr} {c:Nat} {l:List β} {X:Nat → Prop} (hown:OwnR enc k base e W p c l) (hk:∀ g:Nat,g < W.heap.size → (∀ a,p = some a → g ≠ a.block) → w'.heap[g]? = W.heap[g]? ∧ X g):KeepT e base W w':=by
  intro β2 enc2 k2 e2 q d m hne hq
  refine ⟨hq.1,hq.2.imp id fun ⟨b,cap2,cur,q1,q2,q3,q4⟩ => ⟨b,cap2,cur,q1,q2,?_,q4⟩⟩
  rw [(hk b (Array.getElem?_eq_some_iff.1 q3).1 (fun a ha => ?_)).1]
  · exact q3
  · injection q1 with q1
    exact ownR_blk_ne hown hq hne a _ ha q1
theorem ownR_ne_blk {β:Type} {enc:β → List Value} {k base:Nat} {e:TypeId} {W:World} {p:Option Addr} {c:Nat} {l:List β} {n:Nat} {T:TypeId} {cs:Array Value} (h:OwnR enc k base e W p c l) (g:Blk W n T cs) (hne:T ≠ e):∀ a,p = some a → n ≠ a.block:=by
  intro a ha
  rcases h.2 with ⟨h1,-⟩ | ⟨b,cap,cur,h1,-,h3,-⟩
  · injection h1 with h1;rw [h1] at ha;cases ha
  · injection h1 with h1
    rw [h1] at ha
    injection ha with ha
    subst ha
    intro e4
    have e4:n = b:=e4
    subst e4
    have h5:=h3.symm.trans g
    injection h5 with h5
    injection h5 with h5 h6 h7
    exact hne h6.symm
theorem kysE_len (es:List Ent):(kysE es).length = es.length:=List.length_map _
theorem kysE_take {es:List Ent} {j:Nat} (h:j < es.length):(kysE es).take (j + 1) = (kysE es).take j ++ [((es[j]'h).ch,(es[j]'h).at_)]:=by
  unfold kysE
  rw [← List.map_take,← List.map_take,List.take_succ_eq_append_getElem h,List.map_append];rfl
theorem nowH_take {es:List Ent} {j:Nat} (h:j < es.length):(nowH es).take (j + 1) = (nowH es).take j ++ [⟨(es[j]'h).ch,(es[j]'h).at_,halfT⟩]:=by
  unfold nowH
  rw [← List.map_take,← List.map_take,List.take_succ_eq_append_getElem h,List.map_append];rfl
theorem hndsOf {base:Nat} {e:TypeId} {W:World} {p:Option Addr} {c:Nat} {l:List Hnd} (h:OwnR encHd 7 base e W p c l):HndsAt W (.slice p l.length c) l:=⟨p,c,rfl,h.row encHd_len⟩
theorem amsOf {base:Nat} {e:TypeId} {W:World} {p:Option Addr} {c:Nat} {l:List Amt} (h:OwnR encAm 3 base e W p c l):AmtsAt W (.slice p l.length c) l:=⟨p,c,rfl,h.row encAm_len⟩
theorem entsOf {base n:Nat} {e:TypeId} {W:World} {p:Option Addr} {c:Nat} {l:List Ent} (h:OwnR encEn 4 base e W p c l) (hn:l.length = n):EntsAt W (.slice p n c) l:=⟨p,c,by rw [hn],h.row encEn_len⟩
theorem wpList_appRow {β : Type} {enc : β → List Value} {k : Nat} {P : Program} {ops : Array Oper} {rest : List Oper} {o : Oper} {a : Act} {Q : Exit → Act → World → Prop} (hgd : o.guard = none) (s x : Operand) (t : TypeId)
    (ho:o.op = .call { callee:=.builtin .append,args:=#[s,x],argTypes:=#[t,t] })
    (base:Nat) (e:TypeId) (i:TypeInfo) (z:Value) (bytes:Nat) (ht:P.underlying t = some (.slice e)) (hi:P.info? e = some i) (hz:i.zero = some z)
    (hsize:i.size = k) (hby:i.bytes = bytes) (hzs:z.cells.size = k) (hbs:bytes ≤ 64) (hk0:0 < k)
    (p:Option Addr) (c n:Nat) (l:List β) (hnl:n = l.length) (W:World) (ys:List β) (q:Option Addr) (c2:Nat) (hk:∀ x,(enc x).length = k) (h1:∀ y ∈ ys,∀ u ∈ enc y,u.oneCell' = true)
    (hR:RowX enc k W q ys) (hq:q = none → c2 = 0)
    (hs:a.eval s = .slice p n c) (hown:OwnR enc k base e W p c l)
    (hx:a.eval x = .slice q ys.length c2)
    (hn:l.length + ys.length < 1000000000) (hbase:base ≤ W.heap.size)
    (h:∀ p' c' w',OwnR enc k base e w' p' c' (l ++ ys) → Below base W w' → wpList P ops Q rest (a.put o.dst (.slice p' (n + ys.length) c')) w') :
    wpList P ops Q (o :: rest) a W:=by
  by_cases h0:ys = []
  · subst h0
    exact wpList_appE0 hgd s x t ho base e i z bytes ht hi hz hsize hby hzs hbs hk0 p c n l hnl W q c2 hs hown hx hq (by simp at hn;exact hn) hbase (fun p' c' w' ho hb => h p' c' w' (by rw [List.append_nil];exact ho) hb)
  · obtain ⟨b,off,rfl,hb,hC⟩:=hR h0
    exact wpList_appL hgd s x t ho base e i z bytes ht hi hz hsize hby hzs hbs hk0 p c n l hnl W ys b off c2 hk (flat_cell hk ys (fun j => W.cell? ⟨b,off + j,none⟩) (fun i hi j v hv => by have:=hC i hi j v hv;rwa [Nat.add_assoc] at this)) h1 hs hown hx hn hbase h
end Lum
namespace Go.Proofs.YtmjkenlifgmeeaaGreatDoor
open Go.RowKit Go.Shelf Lum
open Go.Lib (decDigits itoa)
attribute [local go_sem] bs_get bs_extract_end bs_extract_from bs_extract bs_append
def InnR (x:PHd) (n9:Nat) (Wb:World) (s9 s50:Value) (wi:World):Prop:=∃ (j n5 n7:Nat) (p5 p7:Option Addr) (c5 c7:Nat),s9 = .slice p7 n7 c7 ∧ s50 = .int .i64 (j:Int) ∧ j ≤ x.es.length ∧ Hid (n5 = ((kysE x.es).take j).length) ∧ Hid (n7 = ((nowH x.es).take j).length) ∧ Hid (Below n9 Wb wi) ∧ Hid (Blk wi n9 31 #[.slice p5 n5 c5]) ∧ Hid (OwnR encPm 2 (n9 + 1) 34 wi p5 c5 ((kysE x.es).take j)) ∧ Hid (OwnR encAm 3 (n9 + 1) 41 wi p7 c7 ((nowH x.es).take j))
def OutR (l:List PHd) (w:World) (s3 s4 s5 s21:Value) (wr:World):Prop:=∃ (k nH nK:Nat) (H:List Hnd) (K:List Ent) (t:Int) (pH pK:Option Addr) (cH cK:Nat),s3 = .slice pH nH cH ∧ s4 = .slice pK nK cK ∧ s5 = .int .i64 t ∧ s21 = .int .i64 (k:Int) ∧ k ≤ l.length ∧ Hid (nH = H.length) ∧ Hid (nK = K.length) ∧ Hid (RemR H K k t) ∧ Hid (Below w.heap.size w wr) ∧ Hid (OwnR encHd 7 w.heap.size 77 wr pH cH H) ∧ Hid (OwnR encEn 4 w.heap.size 38 wr pK cK K)
theorem info_pmY:(Tryz.prog.info? 34).map (fun i => (i.zero,i.size,i.bytes)) = some (some (.agg #[.int .i64 0,.int .i64 0]),2,16):=by kernel_rfl
theorem info_amY:(Tryz.prog.info? 41).map (fun i => (i.zero,i.size,i.bytes)) = some (some (.agg #[.int .i64 0,.int .i64 0,.string ⟨#[]⟩]),3,32):=by kernel_rfl
theorem pmsOf {base:Nat} {e:TypeId} {W:World} {p:Option Addr} {c:Nat} {l:List (Int × Int)} (h:OwnR encPm 2 base e W p c l):PmsAt W (.slice p l.length c) l:=⟨p,c,rfl,h.row encPm_len⟩
theorem law_premembers (l : List PHd) (v : Value) (w : World) (hv : PhsAt w v l) (hpl : ∀ W, Env W → Calls Tryz.prog 4 #[] W fun e w' => e = .returned (.bool true) ∧ Below W.heap.size W w') (env : Env w) :
    Calls Tryz.prog 3 #[v] w fun e w' => e = .returned (.bool true) ∧ Below w.heap.size w w':=by
  obtain ⟨hok,p,c,rfl,hRP⟩:=hv
  have HOK:=Lib.hid hok;have HRP:=Lib.hid hRP;have HPL:=Lib.hid hpl;have ENV:=Lib.hid env
  clear hok hRP hpl env
  have HB:=Lib.hid (Below.refl w.heap.size w)
  by_cases h10:10 < l.length
  · have hlt:(10:Int) < (l.length:Int):=by omega
    clear h10
    go_enter Tryz.func3,Tryz.ntmps3
    go_wp2_with (first | (with_reducible refine ((HPL.out _ (ENV.out.below HB.out)).mono ?_);rintro e w' ⟨rfl,hb⟩;replace HB:=Lib.hid (bch' HB.out hb);clear hb))
    go_ret
    exact ⟨rfl,HB.out⟩
  · obtain ⟨iP,hiP,hP0,hP1,hP2⟩:=info_parts info_pmY
    obtain ⟨iA,hiA,hA0,hA1,hA2⟩:=info_parts info_amY
    have hlt0:¬ (10:Int) < (l.length:Int):=by omega
    have HL10:Hid (l.length ≤ 10):=Lib.hid (by omega)
    clear h10
    go_enter Tryz.func3,Tryz.ntmps3
    go_wp2_with fail
    go_loopw [3,4,5,21] (fun s3 s4 s5 s21 wr => OutR l w s3 s4 s5 s21 wr) (fun _ _ _ s _ => l.length - (intOf s).toNat)
    case atStart => exact ⟨0,0,0,[],[],0,none,none,0,0,rfl,rfl,rfl,rfl,Nat.zero_le _,Lib.hid rfl,Lib.hid rfl,Lib.hid RemR.start,HB,Lib.hid (OwnR.nil _ _ _),Lib.hid (OwnR.nil _ _ _)⟩
    case round =>
      obtain ⟨k,nH,nK,H,K,t,pH,pK,cH,cK,rfl,rfl,rfl,rfl,hk9,HNH,HNK,HR,HB2,HO,HQ⟩:=hrel
      clear HB
      have HB:=HB2;clear HB2
      by_cases hkl:k < l.length
      · have hlt:(k:Int) < (l.length:Int):=by omega
        have hk0:(0:Int) ≤ (k:Int):=by omega
        have hlo:k * 4 < 9223372036854775807:=by have:=HL10.out;omega
        have hun:IntKind.i64.wrap ((k:Int) + 1) = (k:Int) + 1:=IntWalk.i64_in _ (by have:=HL10.out;omega)
        obtain ⟨b1,o1,rfl,hb1,hC1⟩:=HRP.out (fun h => by subst h;exact absurd hkl (Nat.not_lt_zero _))
        obtain ⟨x,hx⟩:∃ x,x = l[k]'hkl:=⟨_,rfl⟩
        obtain ⟨g0,g1,g2,pe,ce,g3,hRe,hze⟩:=hC1 k hkl
        have HZE:=Lib.hid hze;clear hze
        rw [← hx] at g0 g1 g2 g3 hRe
        have HXO:Hid (PHdOk x):=Lib.hid (by rw [hx];exact HOK.out _ (List.getElem_mem hkl))
        have y0:wr.cell? ⟨b1,o1 + k * 4,none⟩ = some (.int .u16 x.af):=(HB.out.cell (p:=⟨b1,o1 + k * 4 + 0,none⟩) hb1).trans g0
        have y1:wr.cell? ⟨b1,o1 + k * 4 + 1,none⟩ = some (.int .u16 x.ti):=(HB.out.cell (p:=⟨b1,o1 + k * 4 + 1,none⟩) hb1).trans g1
        have y2:wr.cell? ⟨b1,o1 + k * 4 + 2,none⟩ = some (.bool (x.cl)):=(HB.out.cell (p:=⟨b1,o1 + k * 4 + 2,none⟩) hb1).trans g2
        have y3:wr.cell? ⟨b1,o1 + k * 4 + 3,none⟩ = some (.slice pe x.es.length ce):=(HB.out.cell (p:=⟨b1,o1 + k * 4 + 3,none⟩) hb1).trans g3
        have hbr:b1 < wr.heap.size:=Nat.lt_of_lt_of_le hb1 HB.out.size
        have HE:=Lib.hid (EntsAt.kept (show EntsAt w (.slice pe x.es.length ce) x.es from ⟨pe,ce,rfl,hRe⟩) HB.out)
        clear g0 g1 g2 g3 hRe hb1 hC1 hx
        go_upto_region 9 with fail
        clear y0 y1 y2 y3 hbr
        have hb:=(Below.refl wr.heap.size wr).alloc (Nat.le_refl _) (.cells #[.int .u16 x.af,.int .u16 x.ti,.bool (x.cl),.slice pe x.es.length ce] 28)
        have HX:=Lib.hid (Blk.new wr 28 #[.int .u16 x.af,.int .u16 x.ti,.bool (x.cl),.slice pe x.es.length ce])
        obtain ⟨n8,hn8⟩:∃ n,n = wr.heap.size:=⟨_,rfl⟩
        obtain ⟨Wa,hWWa⟩:∃ X,X = wr.alloc (.cells #[.int .u16 x.af,.int .u16 x.ti,.bool (x.cl),.slice pe x.es.length ce] 28):=⟨_,rfl⟩
        rw [← hn8] at HX ⊢
        rw [← hWWa] at hb HX ⊢
        replace HO:=Lib.hid (OwnR.keep HO.out hb);replace HQ:=Lib.hid (OwnR.keep HQ.out hb);replace HE:=Lib.hid (EntsAt.kept HE.out hb);replace HB:=Lib.hid (bch' HB.out hb);clear hb
        clear hWWa hn8
        obtain ⟨x0,x1,x2,x3,xf0,xf1,xf2,xf3⟩:=HX.out.c4
        have hfw:=fun W (h:EntsAt W (.slice pe x.es.length ce) x.es) => r15_fewents x.es (.slice pe x.es.length ce) W h
        have hen:=fun W (h:EntsAt W (.slice pe x.es.length ce) x.es) => r15_entries x.es (.slice pe x.es.length ce) W h
        change ∀ W,EntsAt W _ x.es → Calls _ _ _ _ (fun e w' => e = .returned (.int .i64 (entsE x.es)) ∧ _) at hen
        by_cases h1:fewEn x.es = true
        · by_cases h2:12 < x.es.length
          · have hlt9:(12:Int) < (x.es.length:Int):=by omega
            rw [h1] at hfw
            clear h1 h2
            have HFW:=Lib.hid hfw;clear hfw
            have HEN:=Lib.hid hen;clear hen
            go_wp2_with (first | (with_reducible refine ((HFW.out _ HE.out).mono ?_);rintro e w' ⟨rfl,rfl⟩) | (with_reducible refine ((HEN.out _ HE.out).mono ?_);rintro e w' ⟨rfl,hb⟩;replace HX:=Lib.hid (HX.out.keep hb);clear x0 x1 x2 x3 xf0 xf1 xf2 xf3;replace HO:=Lib.hid (OwnR.keep HO.out hb);replace HQ:=Lib.hid (OwnR.keep HQ.out hb);replace HE:=Lib.hid (EntsAt.kept HE.out hb);replace HB:=Lib.hid (bch' HB.out hb);clear hb;obtain ⟨x0,x1,x2,x3,xf0,xf1,xf2,xf3⟩:=HX.out.c4) | (with_reducible refine ((HPL.out _ (ENV.out.below HB.out)).mono ?_);rintro e w' ⟨rfl,hb⟩;replace HX:=Lib.hid (HX.out.keep hb);clear x0 x1 x2 x3 xf0 xf1 xf2 xf3;replace HO:=Lib.hid (OwnR.keep HO.out hb);replace HQ:=Lib.hid (OwnR.keep HQ.out hb);replace HE:=Lib.hid (EntsAt.kept HE.out hb);replace HB:=Lib.hid (bch' HB.out hb);clear hb;obtain ⟨x0,x1,x2,x3,xf0,xf1,xf2,xf3⟩:=HX.out.c4))
            go_ret
            exact ⟨rfl,HB.out⟩
          · by_cases h3:entsE x.es = 0
            · have HT:=Lib.hid (show x.es.length ≤ 12 from by omega)
              have HZ:=Lib.hid h3
              rw [h3] at hen
              rw [h1] at hfw
              have hlt9:¬ (12:Int) < (x.es.length:Int):=by omega
              clear h1 h2 h3
              have HFW:=Lib.hid hfw;clear hfw
              have HEN:=Lib.hid hen;clear hen
              go_upto_region 11 with (first | (with_reducible refine ((HFW.out _ HE.out).mono ?_);rintro e w' ⟨rfl,rfl⟩) | (with_reducible refine ((HEN.out _ HE.out).mono ?_);rintro e w' ⟨rfl,hb⟩;replace HX:=Lib.hid (HX.out.keep hb);clear x0 x1 x2 x3 xf0 xf1 xf2 xf3;replace HO:=Lib.hid (OwnR.keep HO.out hb);replace HQ:=Lib.hid (OwnR.keep HQ.out hb);replace HE:=Lib.hid (EntsAt.kept HE.out hb);replace HB:=Lib.hid (bch' HB.out hb);clear hb;obtain ⟨x0,x1,x2,x3,xf0,xf1,xf2,xf3⟩:=HX.out.c4))
              obtain ⟨la0,la1⟩:=HR.out.later HXO.out.a0 HXO.out.a1
              have hq1:=HXO.out.a0;have hq2:=HXO.out.a1;have hq3:=HXO.out.t0;have hq4:=HXO.out.t1;have hq5:=HL10.out
              have hw2:IntKind.i64.wrap x.af = x.af:=IntWalk.i64_in _ (by omega)
              have hw1:IntKind.i64.wrap (t + x.af) = t + x.af:=IntWalk.i64_in _ (by omega)
              have HLA:=Lib.hid la0;have HLB:=Lib.hid la1
              clear la0 la1 hq1 hq2 hq3 hq4 hq5
              go_upto_region 13 with fail
              skip
              have hb:=(Below.refl w'.heap.size w').alloc (Nat.le_refl _) (.cells #[.slice none 0 0] 31)
              have HP:=Lib.hid (Blk.new w' 31 #[.slice none 0 0])
              obtain ⟨Wb,hWb⟩:∃ X,X = w':=⟨_,rfl⟩
              subst hWb
              obtain ⟨n9,hn9⟩:∃ n,n = Wb.heap.size:=⟨_,rfl⟩
              obtain ⟨W0,hW0⟩:∃ X,X = Wb.alloc (.cells #[.slice none 0 0] 31):=⟨_,rfl⟩
              rw [← hW0] at hb HP ⊢
              rw [← hn9] at hb HP ⊢
              have HBI:=Lib.hid hb
              have HN9:=Lib.hid hn9
              clear hb hW0 hn9
              obtain ⟨z0,zf0⟩:=HP.out.c1
              obtain ⟨x0,x1,x2,x3,xf0,xf1,xf2,xf3⟩:=(HX.out.keep (HN9.out ▸ HBI.out)).c4
              go_wp2_with fail
              go_loopw [9,50] (fun s9 s50 wi => InnR x n9 Wb s9 s50 wi) (fun _ s _ => x.es.length - (intOf s).toNat)
              case atStart => exact ⟨0,0,0,none,none,0,0,rfl,rfl,Nat.zero_le _,Lib.hid rfl,Lib.hid rfl,HBI,HP,Lib.hid (OwnR.nil _ _ _),Lib.hid (OwnR.nil _ _ _)⟩
              case round =>
                obtain ⟨j,n5,n7,p5,p7,c5,c7,rfl,rfl,hj9,HN5,HN7,HBI2,HP2,HO5,HO7⟩:=hrel
                clear HBI HP z0 zf0 x0 x1 x2 x3 xf0 xf1 xf2 xf3
                have HBI:=HBI2;have HP:=HP2;clear HBI2 HP2
                obtain ⟨z0,zf0⟩:=HP.out.c1
                by_cases hjl:j < x.es.length
                · have hlj:(j:Int) < (x.es.length:Int):=by omega
                  have hj0:(0:Int) ≤ (j:Int):=by omega
                  have hloj:j * 4 < 9223372036854775807:=by have:=HT.out;omega
                  have hunj:IntKind.i64.wrap ((j:Int) + 1) = (j:Int) + 1:=IntWalk.i64_in _ (by have:=HT.out;omega)
                  obtain ⟨pe2,ce2,e9,hRe⟩:=HE.out
                  injection e9 with e1 e2 e3
                  subst e1
                  obtain ⟨b2,o2,hpe,hb2,hC2⟩:=hRe (fun h => by rw [h] at hjl;exact absurd hjl (Nat.not_lt_zero _))
                  subst hpe
                  obtain ⟨y,hy⟩:∃ y,y = x.es[j]'hjl:=⟨_,rfl⟩
                  have hcc:=hC2 j hjl
                  rw [← hy] at hcc
                  have HT5:Hid (((kysE x.es).take (j + 1)) = (((kysE x.es).take j) ++ [(y.ch,y.at_)])):=Lib.hid (by rw [kysE_take hjl,hy])
                  have HT7:Hid (((nowH x.es).take (j + 1)) = ((nowH x.es).take j) ++ [⟨y.ch,y.at_,halfT⟩]):=Lib.hid (by rw [nowH_take hjl,hy])
                  have y0:wr.cell? ⟨b2,o2 + j * 4,none⟩ = some (.int .i64 (y.ch)):=(HBI.out.cell (p:=⟨b2,o2 + j * 4 + 0,none⟩) (by rw [HN9.out];exact hb2)).trans (hcc 0 _ rfl)
                  have y1:wr.cell? ⟨b2,o2 + j * 4 + 1,none⟩ = some (.int .i64 (y.at_)):=(HBI.out.cell (p:=⟨b2,o2 + j * 4 + 1,none⟩) (by rw [HN9.out];exact hb2)).trans (hcc 1 _ rfl)
                  have y2:wr.cell? ⟨b2,o2 + j * 4 + 2,none⟩ = some (.int .i64 (y.pa)):=(HBI.out.cell (p:=⟨b2,o2 + j * 4 + 2,none⟩) (by rw [HN9.out];exact hb2)).trans (hcc 2 _ rfl)
                  have y3:wr.cell? ⟨b2,o2 + j * 4 + 3,none⟩ = some (.int .i64 (y.lv)):=(HBI.out.cell (p:=⟨b2,o2 + j * 4 + 3,none⟩) (by rw [HN9.out];exact hb2)).trans (hcc 3 _ rfl)
                  have hbr:b2 < wr.heap.size:=Nat.lt_of_lt_of_le hb2 (by have:=HBI.out.size;exact this)
                  clear hRe hcc hC2 hb2 hy
                  go_upto_region 17 with fail
                  clear y0 y1 y2 y3 hbr
                  have HNE:Hid (n9 < wr.heap.size):=Lib.hid HP.out.lt
                  have hb:=(Below.refl wr.heap.size wr).alloc (Nat.le_refl _) (.cells #[.int .i64 (y.ch),.int .i64 (y.at_),.int .i64 (y.pa),.int .i64 (y.lv)] 38)
                  have HY:=Lib.hid (Blk.new wr 38 #[.int .i64 (y.ch),.int .i64 (y.at_),.int .i64 (y.pa),.int .i64 (y.lv)])
                  obtain ⟨n10,hn10⟩:∃ n,n = wr.heap.size:=⟨_,rfl⟩
                  obtain ⟨Wy,hWWy⟩:∃ X,X = wr.alloc (.cells #[.int .i64 (y.ch),.int .i64 (y.at_),.int .i64 (y.pa),.int .i64 (y.lv)] 38):=⟨_,rfl⟩
                  rw [← hn10] at HY ⊢
                  rw [← hWWy] at hb HY ⊢
                  have HNE2:Hid (n10 ≠ n9):=Lib.hid (by have:=HNE.out;omega)
                  replace HBI:=Lib.hid (HBI.out.trans (hb.mono (Nat.le_of_lt HNE.out)))
                  replace HP:=Lib.hid (HP.out.keep hb)
                  replace HO5:=Lib.hid (HO5.out.keep hb);replace HO7:=Lib.hid (HO7.out.keep hb)
                  clear hb HNE hWWy hn10
                  clear z0 zf0
                  obtain ⟨z0,zf0⟩:=HP.out.c1
                  obtain ⟨k0,k1,k2,k3,kf0,kf1,kf2,kf3⟩:=HY.out.c4
                  go_upto_region 18 with (first | (at_builtin;refine wpList_appR3 rfl (.tmp 54) (.tmp 57) 31 rfl (n9 + 1) 34 iP (.agg #[.int .i64 0,.int .i64 0]) 16 Tryz.underlying31 hiP hP0 hP1 hP2 rfl (by decide) (by decide) p5 c5 n5 ((kysE x.es).take j) HN5.out _ (y.ch,y.at_) Wy.heap.size (encPm_len _) (fun j u hu => cellN _ 34 hu) (encPm_one _) rfl (HO5.out.keep ((Below.refl _ Wy).alloc (Nat.le_refl _) _)) rfl (by rw [List.length_take];have:=HT.out;omega) (by have:=HP.out.lt;rw [World.size_alloc];omega) ?_;intro p1 c1 w4 hO3 hb3 hk3;have hA:=(Below.refl Wy.heap.size Wy).alloc (Nat.le_refl _) (.cells #[.int .i64 y.ch,.int .i64 y.at_] 34);have hOo:=KeepT.use (keepT_app (HO5.out.keep hA) hk3) (by decide) (HO7.out.keep hA);have hYb:Blk w4 n10 38 #[.int .i64 (y.ch),.int .i64 (y.at_),.int .i64 (y.pa),.int .i64 (y.lv)]:=(hk3 n10 (HY.out.keep hA).lt (ownR_ne_blk (HO5.out.keep hA) (HY.out.keep hA) (by decide))).1.trans (HY.out.keep hA);have hPb:=(HP.out.keep hA).below hb3 (Nat.lt_succ_self _);have hBb:=(HBI.out.trans (hA.mono (Nat.le_of_lt HP.out.lt))).trans (hb3.mono (Nat.le_succ _));clear z0 zf0;clear HO7 HP HBI;have HO7:=Lib.hid hOo;have HP:=Lib.hid hPb;have HBI:=Lib.hid hBb;clear k0 k1 k2 k3 kf0 kf1 kf2 kf3;clear HY;have HY:=Lib.hid hYb;clear hYb;obtain ⟨k0,k1,k2,k3,kf0,kf1,kf2,kf3⟩:=HY.out.c4;clear hOo hPb hBb hA hk3;obtain ⟨z0,zf0⟩:=HP.out.c1;clear HO5;have HO5:=Lib.hid hO3;clear hO3 hb3))
                  have HBs:Hid (Below n9 Wb (w4.setCell ⟨n9,0,none⟩ (.slice p1 (n5 + 1) c1))):=Lib.hid (HBI.out.setCell (p:=⟨n9,0,none⟩) (Nat.le_refl _) _)
                  have HPs:Hid (Blk (w4.setCell ⟨n9,0,none⟩ (.slice p1 (n5 + 1) c1)) n9 31 #[.slice p1 (n5 + 1) c1]):=Lib.hid (by simpa using HP.out.set_ 0 (.slice p1 (n5 + 1) c1))
                  have H5s:Hid (OwnR encPm 2 (n9 + 1) 34 (w4.setCell ⟨n9,0,none⟩ (.slice p1 (n5 + 1) c1)) p1 c1 (((kysE x.es).take j) ++ [(y.ch,y.at_)])):=Lib.hid (ownR_far HO5.out (fun ad h => by have:=(HO5.out.lt ad h).1;omega) _ _)
                  have H7s:Hid (OwnR encAm 3 (n9 + 1) 41 (w4.setCell ⟨n9,0,none⟩ (.slice p1 (n5 + 1) c1)) p7 c7 ((nowH x.es).take j)):=Lib.hid (ownR_far HO7.out (fun ad h => by have:=(HO7.out.lt ad h).1;omega) _ _)
                  have HYs:Hid (Blk (w4.setCell ⟨n9,0,none⟩ (.slice p1 (n5 + 1) c1)) n10 38 #[.int .i64 (y.ch),.int .i64 (y.at_),.int .i64 (y.pa),.int .i64 (y.lv)]):=Lib.hid (HY.out.far (p:=⟨n9,0,none⟩) HNE2.out _)
                  clear z0 zf0
                  clear k0 k1 k2 k3 kf0 kf1 kf2 kf3
                  clear HP HBI HO5 HO7 HY
                  have HP:=HPs;have HBI:=HBs;have HO5:=H5s;have HO7:=H7s;have HY:=HYs;clear HPs HBs H5s H7s HYs
                  generalize w4.setCell ⟨n9,0,none⟩ (.slice p1 (n5 + 1) c1) = W7 at *
                  obtain ⟨z0,zf0⟩:=HP.out.c1
                  obtain ⟨k0,k1,k2,k3,kf0,kf1,kf2,kf3⟩:=HY.out.c4
                  go_wp2_with (first | (at_builtin;refine wpList_appR3 rfl (.tmp 59) (.tmp 63) 32 rfl (n9 + 1) 41 iA (.agg #[.int .i64 0,.int .i64 0,.string ⟨#[]⟩]) 32 Tryz.underlying32 hiA hA0 hA1 hA2 rfl (by decide) (by decide) p7 c7 n7 ((nowH x.es).take j) HN7.out _ ⟨y.ch,y.at_,halfT⟩ W7.heap.size (encAm_len _) (fun j u hu => cellN _ 41 hu) (encAm_one _) rfl (HO7.out.keep ((Below.refl _ W7).alloc (Nat.le_refl _) _)) rfl (by rw [List.length_take];have:=HT.out;omega) (by have:=HP.out.lt;rw [World.size_alloc];omega) ?_;intro p2 c2 w5 hO4 hb4 hk4;have hA:=(Below.refl W7.heap.size W7).alloc (Nat.le_refl _) (.cells #[.int .i64 y.ch,.int .i64 y.at_,.string ⟨#[49,47,50]⟩] 41);have hOo:=KeepT.use (keepT_app (HO7.out.keep hA) hk4) (by decide) (HO5.out.keep hA);have hPb:=(HP.out.keep hA).below hb4 (Nat.lt_succ_self _);have hBb:=(HBI.out.trans (hA.mono (Nat.le_of_lt HP.out.lt))).trans (hb4.mono (Nat.le_succ _));clear z0 zf0;clear HO5 HP HBI;have HO5:=Lib.hid hOo;have HP:=Lib.hid hPb;have HBI:=Lib.hid hBb;clear hOo hPb hBb hA hk4;obtain ⟨z0,zf0⟩:=HP.out.c1;clear HO7;have HO7:=Lib.hid hO4;clear hO4 hb4))
                  go_roundw
                  case rel => exact ⟨_,_,_,⟨j + 1,n5 + 1,n7 + 1,p1,p2,c1,c2,by first | rfl | simp,by first | rfl | simp,by omega,Lib.hid (by rw [HT5.out,List.length_append,← HN5.out];rfl),Lib.hid (by rw [HT7.out,List.length_append,← HN7.out];rfl),HBI,HP,Lib.hid (by rw [HT5.out];exact HO5.out),Lib.hid (by rw [HT7.out];exact HO7.out)⟩,rfl,rfl,rfl⟩
                  case measure => first | (simp [intOf];done) | (simp [intOf];omega)
                · have hlj:¬ (j:Int) < (x.es.length:Int):=by omega
                  obtain rfl:j = x.es.length:=by omega
                  have HT5:Hid (((kysE x.es).take x.es.length) = (kysE x.es)):=Lib.hid (List.take_of_length_le (by rw [kysE_len];exact Nat.le_refl _))
                  have HT7:Hid (((nowH x.es).take x.es.length) = (nowH x.es)):=Lib.hid (List.take_of_length_le (by rw [nowH_len];exact Nat.le_refl _))
                  rw [HT5.out] at HN5 HO5
                  rw [HT7.out] at HN7 HO7
                  obtain rfl:=HN5.out
                  obtain rfl:=HN7.out
                  clear HT5 HT7 HN5 HN7
                  obtain rfl:=HNH.out
                  obtain rfl:=HNK.out
                  clear HNH HNK
                  have hbk:Below Wb.heap.size Wb wr:=HN9.out ▸ HBI.out
                  replace HX:=Lib.hid (HX.out.keep hbk);replace HO:=Lib.hid (OwnR.keep HO.out hbk);replace HQ:=Lib.hid (OwnR.keep HQ.out hbk);replace HE:=Lib.hid (EntsAt.kept HE.out hbk)
                  replace HB:=Lib.hid (bch' HB.out hbk)
                  clear hbk HBI HN9
                  clear z0 zf0
                  have HLK:Hid (K.length ≤ 108):=Lib.hid (by have:=HR.out.lenK;have:=HL10.out;omega)
                  have hcl:=own_eclone wr K pK cK (HQ.out.row encEn_len) (by have:=HLK.out;omega)
                  have HCL:=Lib.hid hcl;clear hcl
                  obtain ⟨iE,hiE,hE0,hE1,hE2⟩:=info_parts info_enU
                  have hrn:=HR.out.next (t':=t + x.af) (ti:=x.ti) (cl:=x.cl) HZ.out HT.out (by have:=HL10.out;omega) HLA.out HLB.out HXO.out.t0 HXO.out.t1
                  obtain ⟨CL,hCL⟩:∃ c,c = x.cl:=⟨_,rfl⟩
                  rw [← hCL] at hrn HX
                  clear hCL
                  cases CL with
                  | true =>
                    have HRN:Hid (RemR (clrL H (kysE x.es)) (restK K x.es true) (k + 1) (t + x.af)):=Lib.hid hrn
                    clear hrn
                    have hde:∀ (W:World) (pp:Option Addr) (cc:Nat),OwnR encEn 4 wr.heap.size 38 W pp cc K → Below wr.heap.size wr W → Calls Tryz.prog 7 #[.slice pp K.length cc,.func (.func 9) #[] #[(.pointer (some ⟨n9,0,none⟩)),(.pointer (some ⟨n8,0,none⟩))]] W (fun e w' => ∃ pp' cc',e = .returned (.slice pp' (restK K x.es true).length cc') ∧ OwnR encEn 4 wr.heap.size 38 w' pp' cc' (restK K x.es true) ∧ Below wr.heap.size W w'):=fun W pp cc h1 h2 => ent2_delete 9 (.pointer (some ⟨n9,0,none⟩)) (.pointer (some ⟨n8,0,none⟩)) K (dropB x.es true) pp cc wr.heap.size W h1 h2.size (by have:=HLK.out;omega) (enters_of Tryz.func9 (by kernel_rfl) rfl) (fun y _ W2 hW => by
                      have h3:=h2.trans hW
                      have h4:=cl_t1 y (kysE x.es) true p5 c5 n9 n8 W2 (pmsOf (HO5.out.keep h3)) (by rw [kysE_len];have:=HT.out;omega) (HP.out.keep h3).lt (HX.out.keep h3).lt (HP.out.keep h3).c1.1 (HX.out.keep h3).c4.2.2.1
                      rw [kysE_len] at h4
                      exact h4)
                    have hcr:=fun W (e:Env W) (h1:HndsAt W (.slice pH H.length cH) H) (h2:PmsAt W (.slice p5 (kysE x.es).length c5) (kysE x.es)) => own_pclearO H (kysE x.es) (.slice pH H.length cH) (.slice p5 (kysE x.es).length c5) W h1 h2 (fun _ y hy => Nat.le_trans (HR.out.short y hy) (by decide)) (by rw [kysE_len];have:=HT.out;omega) e
                    rw [clrO_ok (HR.out.clrE HZ.out HT.out),HR.out.clrE HZ.out HT.out] at hcr
                    have hrk:=fun W p c (h:HndsAt W (.slice p (clrL H (kysE x.es)).length c) (clrL H (kysE x.es))) => r29_check (clrL H (kysE x.es)) (.slice p (clrL H (kysE x.es)).length c) W h (fun _ y hy => Nat.le_trans (HRN.out.short y hy) (by decide))
                    change ∀ W p c,HndsAt W _ _ → Calls _ _ _ _ (fun e w' => e = .returned (.int .i64 (hnsE (clrL H (kysE x.es)))) ∧ _) at hrk
                    rw [HRN.out.hn] at hrk
                    have HDE:=Lib.hid hde;clear hde
                    have HCR:=Lib.hid hcr;clear hcr
                    have HRK:=Lib.hid hrk;clear hrk
                    go_wp2_with (first | (with_reducible refine ((HCL.out).mono ?_);rintro e w3 ⟨pc,cc,rfl,ho,hb⟩;have HQ3:=Lib.hid ho;have HS:=Lib.hid hb;clear ho hb) | (with_reducible refine ((HDE.out _ _ _ HQ3.out HS.out).mono ?_);rintro e w4 ⟨pd,cd,rfl,ho,hb⟩;clear HQ3;have HQ4:=Lib.hid ho;replace HS:=Lib.hid (HS.out.trans hb);clear ho hb;obtain ⟨x0,x1,x2,x3,xf0,xf1,xf2,xf3⟩:=(HX.out.keep HS.out).c4;obtain ⟨z0,zf0⟩:=(HP.out.keep HS.out).c1) | ((with_reducible refine ((HCR.out _ (ENV.out.below (bch' HB.out HS.out)) (hndsOf (HO.out.keep HS.out)) (pmsOf (HO5.out.keep HS.out))).mono ?_));rintro e w5 ⟨pn,cn,rfl,ho,hb⟩;have HON:=Lib.hid (OwnR.low ho (bch' HB.out HS.out).size);replace HQ4:=Lib.hid (HQ4.out.keep hb);replace HS:=Lib.hid (bch' HS.out hb);clear ho hb) | (with_reducible refine ((HRK.out _ _ _ (hndsOf HON.out)).mono ?_);rintro e w7 ⟨rfl,hb⟩;replace HON:=Lib.hid (HON.out.keep hb);replace HQ4:=Lib.hid (HQ4.out.keep hb);replace HS:=Lib.hid (bch' HS.out hb);clear hb))
                    go_roundw
                    case rel => exact ⟨k + 1,_,_,(clrL H (kysE x.es)),(restK K x.es true),t + x.af,pn,pd,cn,cd,by first | rfl | simp,by first | rfl | simp,by first | rfl | simp,by first | rfl | simp,by omega,Lib.hid rfl,Lib.hid rfl,HRN,Lib.hid (bch' HB.out HS.out),HON,Lib.hid (OwnR.low HQ4.out (Nat.le_trans HB.out.size (Nat.le_refl _)))⟩
                    case measure => first | (simp [intOf];done) | (simp [intOf];omega)
                  | false =>
                    have HRN:Hid (RemR (setL H (t + x.af) x.es x.ti (nowH x.es)) ((restK K x.es false) ++ x.es) (k + 1) (t + x.af)):=Lib.hid hrn
                    clear hrn
                    have HLR:Hid ((restK K x.es false).length ≤ 120):=Lib.hid (by have:=restK_len K x.es false;have:=HLK.out;omega)
                    have HS0:=HR.out.setE (t':=t + x.af) (ti:=x.ti) HZ.out HT.out (by have:=HL10.out;omega) HLA.out HLB.out HXO.out.t0 HXO.out.t1
                    have hso:setO H (t + x.af) x.es x.ti (nowH x.es) = (setL H (t + x.af) x.es x.ti (nowH x.es)):=by unfold setO;rw [HS0];rfl
                    have hde:∀ (W:World) (pp:Option Addr) (cc:Nat),OwnR encEn 4 wr.heap.size 38 W pp cc K → Below wr.heap.size wr W → Calls Tryz.prog 7 #[.slice pp K.length cc,.func (.func 9) #[] #[(.pointer (some ⟨n9,0,none⟩)),(.pointer (some ⟨n8,0,none⟩))]] W (fun e w' => ∃ pp' cc',e = .returned (.slice pp' (restK K x.es false).length cc') ∧ OwnR encEn 4 wr.heap.size 38 w' pp' cc' (restK K x.es false) ∧ Below wr.heap.size W w'):=fun W pp cc h1 h2 => ent2_delete 9 (.pointer (some ⟨n9,0,none⟩)) (.pointer (some ⟨n8,0,none⟩)) K (dropB x.es false) pp cc wr.heap.size W h1 h2.size (by have:=HLK.out;omega) (enters_of Tryz.func9 (by kernel_rfl) rfl) (fun y _ W2 hW => by
                      have h3:=h2.trans hW
                      have h4:=cl_t1 y (kysE x.es) false p5 c5 n9 n8 W2 (pmsOf (HO5.out.keep h3)) (by rw [kysE_len];have:=HT.out;omega) (HP.out.keep h3).lt (HX.out.keep h3).lt (HP.out.keep h3).c1.1 (HX.out.keep h3).c4.2.2.1
                      rw [kysE_len] at h4
                      exact h4)
                    have hse:=fun W (e:Env W) (h1:HndsAt W (.slice pH H.length cH) H) (h2:EntsAt W (.slice pe x.es.length ce) x.es) (h3:AmtsAt W (.slice p7 (nowH x.es).length c7) (nowH x.es)) => own_psetO H (t + x.af) x.es x.ti (nowH x.es) (.slice pH H.length cH) (.slice pe x.es.length ce) (.slice p7 (nowH x.es).length c7) W h1 h2 h3 (fun _ y hy => Nat.le_trans (HR.out.short y hy) (by decide)) (by rw [nowH_len];have:=HT.out;omega) (fun y hy => Nat.le_trans (nowH_short y hy) (by decide)) HS0 e
                    rw [hso,HS0] at hse
                    clear hso HS0
                    have hrk:=fun W p c (h:HndsAt W (.slice p (setL H (t + x.af) x.es x.ti (nowH x.es)).length c) (setL H (t + x.af) x.es x.ti (nowH x.es))) => r29_check (setL H (t + x.af) x.es x.ti (nowH x.es)) (.slice p (setL H (t + x.af) x.es x.ti (nowH x.es)).length c) W h (fun _ y hy => Nat.le_trans (HRN.out.short y hy) (by decide))
                    change ∀ W p c,HndsAt W _ _ → Calls _ _ _ _ (fun e w' => e = .returned (.int .i64 (hnsE (setL H (t + x.af) x.es x.ti (nowH x.es)))) ∧ _) at hrk
                    rw [HRN.out.hn] at hrk
                    have hrow:∀ W:World,Below wr.heap.size wr W → RowX encEn 4 W pe x.es:=fun W hb => by
                      obtain ⟨p9,c9,e9,hR9⟩:=EntsAt.kept HE.out hb
                      injection e9 with e1 e2 e3
                      subst e1
                      exact hR9
                    have hwt:IntKind.i64.wrap x.ti = x.ti:=IntWalk.i64_in _ (by have:=HXO.out.t0;have:=HXO.out.t1;omega)
                    have HDE:=Lib.hid hde;clear hde
                    have HSE:=Lib.hid hse;clear hse
                    have HRK:=Lib.hid hrk;clear hrk
                    have HROW:=Lib.hid hrow;clear hrow
                    go_upto_region 24 with (first | (with_reducible refine ((HCL.out).mono ?_);rintro e w3 ⟨pc,cc,rfl,ho,hb⟩;have HQ3:=Lib.hid ho;have HS:=Lib.hid hb;clear ho hb) | (with_reducible refine ((HDE.out _ _ _ HQ3.out HS.out).mono ?_);rintro e w4 ⟨pd,cd,rfl,ho,hb⟩;clear HQ3;have HQ4:=Lib.hid ho;replace HS:=Lib.hid (HS.out.trans hb);clear ho hb;obtain ⟨x0,x1,x2,x3,xf0,xf1,xf2,xf3⟩:=(HX.out.keep HS.out).c4))
                    go_upto_region 25 with (first | (at_builtin;refine wpList_appRow rfl (.tmp 78) (.tmp 80) 25 rfl wr.heap.size 38 iE (.agg #[.int .i64 0,.int .i64 0,.int .i64 0,.int .i64 0]) 32 Tryz.underlying25 hiE hE0 hE1 hE2 rfl (by decide) (by decide) pd cd _ (restK K x.es false) rfl w4 x.es pe ce encEn_len (fun y _ => encEn_one y) (HROW.out _ HS.out) HZE.out rfl HQ4.out rfl (by have:=HLR.out;have:=HT.out;omega) HS.out.size ?_;intro p6 c6 w5 ho hb;clear HQ4;have HQ4:=Lib.hid ho;replace HS:=Lib.hid (HS.out.trans hb);clear ho hb;clear x0 x1 x2 x3 xf0 xf1 xf2 xf3;obtain ⟨x0,x1,x2,x3,xf0,xf1,xf2,xf3⟩:=(HX.out.keep HS.out).c4))
                    go_wp2_with (first | ((with_reducible refine ((HSE.out _ (ENV.out.below (bch' HB.out HS.out)) (hndsOf (HO.out.keep HS.out)) (EntsAt.kept HE.out HS.out) (amsOf (HO7.out.keep HS.out))).mono ?_));rintro e w6 ⟨pn,cn,rfl,ho,hb⟩;have HON:=Lib.hid (OwnR.low ho (bch' HB.out HS.out).size);replace HQ4:=Lib.hid (HQ4.out.keep hb);replace HS:=Lib.hid (bch' HS.out hb);clear ho hb) | (with_reducible refine ((HRK.out _ _ _ (hndsOf HON.out)).mono ?_);rintro e w7 ⟨rfl,hb⟩;replace HON:=Lib.hid (HON.out.keep hb);replace HQ4:=Lib.hid (HQ4.out.keep hb);replace HS:=Lib.hid (bch' HS.out hb);clear hb))
                    go_roundw
                    case rel => exact ⟨k + 1,_,_,(setL H (t + x.af) x.es x.ti (nowH x.es)),((restK K x.es false) ++ x.es),t + x.af,pn,p6,cn,c6,by first | rfl | simp,by first | rfl | simp,by first | rfl | simp,by first | rfl | simp,by omega,Lib.hid rfl,Lib.hid (List.length_append).symm,HRN,Lib.hid (bch' HB.out HS.out),HON,Lib.hid (OwnR.low HQ4.out (Nat.le_trans HB.out.size (Nat.le_refl _)))⟩
                    case measure => first | (simp [intOf];done) | (simp [intOf];omega)
            · have hne:((entsE x.es:Int) != 0) = true:=by simpa using h3
              have hlt9:¬ (12:Int) < (x.es.length:Int):=by omega
              rw [h1] at hfw
              clear h1 h2 h3
              generalize entsE x.es = m at *
              have HFW:=Lib.hid hfw;clear hfw
              have HEN:=Lib.hid hen;clear hen
              go_wp2_with (first | (with_reducible refine ((HFW.out _ HE.out).mono ?_);rintro e w' ⟨rfl,rfl⟩) | (with_reducible refine ((HEN.out _ HE.out).mono ?_);rintro e w' ⟨rfl,hb⟩;replace HX:=Lib.hid (HX.out.keep hb);clear x0 x1 x2 x3 xf0 xf1 xf2 xf3;replace HO:=Lib.hid (OwnR.keep HO.out hb);replace HQ:=Lib.hid (OwnR.keep HQ.out hb);replace HE:=Lib.hid (EntsAt.kept HE.out hb);replace HB:=Lib.hid (bch' HB.out hb);clear hb;obtain ⟨x0,x1,x2,x3,xf0,xf1,xf2,xf3⟩:=HX.out.c4) | (with_reducible refine ((HPL.out _ (ENV.out.below HB.out)).mono ?_);rintro e w' ⟨rfl,hb⟩;replace HX:=Lib.hid (HX.out.keep hb);clear x0 x1 x2 x3 xf0 xf1 xf2 xf3;replace HO:=Lib.hid (OwnR.keep HO.out hb);replace HQ:=Lib.hid (OwnR.keep HQ.out hb);replace HE:=Lib.hid (EntsAt.kept HE.out hb);replace HB:=Lib.hid (bch' HB.out hb);clear hb;obtain ⟨x0,x1,x2,x3,xf0,xf1,xf2,xf3⟩:=HX.out.c4))
              go_ret
              exact ⟨rfl,HB.out⟩
        · have h1:fewEn x.es = false:=by simpa using h1
          rw [h1] at hfw
          clear h1
          have HFW:=Lib.hid hfw;clear hfw
          have HEN:=Lib.hid hen;clear hen
          go_wp2_with (first | (with_reducible refine ((HFW.out _ HE.out).mono ?_);rintro e w' ⟨rfl,rfl⟩) | (with_reducible refine ((HEN.out _ HE.out).mono ?_);rintro e w' ⟨rfl,hb⟩;replace HX:=Lib.hid (HX.out.keep hb);clear x0 x1 x2 x3 xf0 xf1 xf2 xf3;replace HO:=Lib.hid (OwnR.keep HO.out hb);replace HQ:=Lib.hid (OwnR.keep HQ.out hb);replace HE:=Lib.hid (EntsAt.kept HE.out hb);replace HB:=Lib.hid (bch' HB.out hb);clear hb;obtain ⟨x0,x1,x2,x3,xf0,xf1,xf2,xf3⟩:=HX.out.c4) | (with_reducible refine ((HPL.out _ (ENV.out.below HB.out)).mono ?_);rintro e w' ⟨rfl,hb⟩;replace HX:=Lib.hid (HX.out.keep hb);clear x0 x1 x2 x3 xf0 xf1 xf2 xf3;replace HO:=Lib.hid (OwnR.keep HO.out hb);replace HQ:=Lib.hid (OwnR.keep HQ.out hb);replace HE:=Lib.hid (EntsAt.kept HE.out hb);replace HB:=Lib.hid (bch' HB.out hb);clear hb;obtain ⟨x0,x1,x2,x3,xf0,xf1,xf2,xf3⟩:=HX.out.c4))
          go_ret
          exact ⟨rfl,HB.out⟩
      · have hlt:¬ (k:Int) < (l.length:Int):=by omega
        obtain rfl:=HNH.out
        obtain rfl:=HNK.out
        clear HNH HNK
        have hso:=own_esortT K wr pK cK w.heap.size HQ.out (by have:=HR.out.lenK;have:=HL10.out;omega) HB.out.size
        have hpe:=fun W (e:Env W) (h:HndsAt W (.slice pH H.length cH) H) => own_pentries H (.slice pH H.length cH) W h (fun _ y hy => Nat.le_trans (HR.out.short y hy) (by decide)) e
        rw [show entsL H = H.map entO from if_pos HR.out.hn,HR.out.hn] at hpe
        have hsm:=fun W u v (h1:EntsAt W u (H.map entO)) (h2:EntsAt W v (H.map entO)) => r15_sameents (H.map entO) (H.map entO) u v W h1 h2 (by rw [List.length_map];have:=HR.out.lenH;have:=HL10.out;omega)
        rw [decide_eq_true (show H.map entO = H.map entO from rfl)] at hsm
        have HSO:=Lib.hid hso;clear hso
        have HPE:=Lib.hid hpe;clear hpe
        have HSM:=Lib.hid hsm;clear hsm
        go_wp2_with (first | (with_reducible refine (HSO.out.mono ?_);rintro e w3 ⟨rfl,s,hp,hs,ho,hb,hk⟩;obtain rfl:=HR.out.sorted hp hs;have HKL:=Lib.hid hp.length_eq;replace HO:=Lib.hid (KeepT.use hk (by decide) HO.out);replace HB:=Lib.hid (HB.out.trans hb);clear HQ;have HQ:=Lib.hid ho;clear hp hs ho hb hk) | ((with_reducible refine ((HPE.out _ (ENV.out.below HB.out) (hndsOf HO.out)).mono ?_));rintro e w4 ⟨v9,rfl,hv9,hb⟩;obtain ⟨p9,c9,rfl,hR9⟩:=hv9;have HV9:=Lib.hid (show EntsAt w4 (.slice p9 H.length c9) (H.map entO) from ⟨p9,c9,by rw [List.length_map],hR9⟩);clear hR9;replace HQ:=Lib.hid (HQ.out.keep hb);replace HB:=Lib.hid (bch' HB.out hb);clear hb) | (with_reducible refine ((HSM.out _ _ _ HV9.out (entsOf HQ.out HKL.out)).mono ?_);rintro e w5 ⟨rfl,hb⟩;replace HB:=Lib.hid (bch' HB.out hb);clear hb) | (with_reducible refine ((HPL.out _ (ENV.out.below HB.out)).mono ?_);rintro e w' ⟨rfl,hb⟩;replace HB:=Lib.hid (bch' HB.out hb);clear hb))
        go_ret
        exact ⟨rfl,HB.out⟩
end Go.Proofs.YtmjkenlifgmeeaaGreatDoor

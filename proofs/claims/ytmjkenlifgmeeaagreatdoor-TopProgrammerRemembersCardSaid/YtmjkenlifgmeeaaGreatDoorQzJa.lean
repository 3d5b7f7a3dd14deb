import Derived.Test.YtmjkenlifgmeeaaGreatDoorQzHl
import Derived.Deep.AppendLies
import Derived.Deep.RegionHeld3
import Derived.Laws.AppendOwnNone
import Derived.Laws.StructEq
set_option maxRecDepth 100000
set_option maxHeartbeats 4000000
set_option linter.unusedVariables false
set_option linter.unusedSimpArgs false
namespace Lum
open Go Go.RowKit Go.Shelf
open Go.Lib (decDigits itoa)
theorem wpList_appE0 {β : Type} {enc : β → List Value} {k : Nat} {P : Program} {ops : Array Oper} {rest : List Oper} {o : Oper} {a : Act} {Q : Exit → Act → World → Prop} (hgd : o.guard = none) (s x : Operand) (t : TypeId)
    (ho:o.op = .call { callee:=.builtin .append,args:=#[s,x],argTypes:=#[t,t] })
    (base:Nat) (e:TypeId) (i:TypeInfo) (z:Value) (bytes:Nat) (ht:P.underlying t = some (.slice e)) (hi:P.info? e = some i) (hz:i.zero = some z)
    (hsize:i.size = k) (hby:i.bytes = bytes) (hzs:z.cells.size = k) (hbs:bytes ≤ 64) (hk0:0 < k)
    (p:Option Addr) (c n:Nat) (l:List β) (hnl:n = l.length) (W:World) (q:Option Addr) (c2:Nat)
    (hs:a.eval s = .slice p n c) (hown:OwnR enc k base e W p c l)
    (hx:a.eval x = .slice q 0 c2) (hq:q = none → c2 = 0)
    (hn:l.length < 1000000000) (hbase:base ≤ W.heap.size)
    (h:∀ p' c' w',OwnR enc k base e w' p' c' l → Below base W w' → wpList P ops Q rest (a.put o.dst (.slice p' n c')) w') :
    wpList P ops Q (o :: rest) a W:=by
  subst hnl
  cases q with
  | none =>
    obtain rfl:=hq rfl
    exact wpList_append_own_none hgd s x t ho base e i k ht hi _ _ _ hs hown hx (h _ _ _ hown (Below.refl _ _))
  | some ad =>
    refine wpList_append_own _ hgd s x t ho base e i z k bytes ht hi hz hsize hby hzs hk0 _ _ _ hs hown ad 0 c2 [] hx (by simp) (fun j u hu => by simp at hu) (fun u hu => by simp at hu) (by unfold maxLen;omega) ?_ hbase ?_
    · have:(l.length + 0) * bytes ≤ 1000000001 * 64:=Nat.mul_le_mul (by omega) hbs
      omega
    · intro v' w' hown' hgrow _
      rw [Nat.add_zero,List.append_nil] at hown'
      have hv:∃ p' c',v' = .slice p' l.length c':=by
        rcases hown'.2 with ⟨rfl,h2⟩ | ⟨g,cap,cur,rfl,_⟩
        · exact ⟨none,0,by rw [h2]⟩
        · exact ⟨_,_,rfl⟩
      obtain ⟨p',c',rfl⟩:=hv
      refine h p' c' w' hown' ?_
      refine (Below.refl base W).grown hgrow hbase ?_
      intro k hk
      cases p with
      | none => simp [Value.ownBlock] at hk
      | some ad => simp [Value.ownBlock] at hk;subst hk;exact (hown.lt ad rfl).1
theorem list_ne_at {α:Type} {a b:List α} {k:Nat} (h1:k < a.length) (h2:k < b.length) (h:¬ a[k]'h1 = b[k]'h2):¬ a = b:=fun e => by subst e;exact h rfl
theorem list_eq_at {α:Type} {a b:List α} (hl:a.length = b.length) (h:∀ j (h1:j < a.length) (h2:j < b.length),j < a.length → a[j]'h1 = b[j]'h2):a = b:=List.ext_getElem hl fun j h1 h2 => h j h1 h2 h1
end Lum
namespace Go.Proofs.YtmjkenlifgmeeaaGreatDoor
open Go.RowKit Go.Shelf Lum
open Go.Lib (decDigits itoa)
attribute [local go_sem] bs_get bs_extract_end bs_extract_from bs_extract bs_append
theorem en_neq_f (W:World) (x y:Ent) (h:x = y):(binOp .neq 38 (.agg #[.int .i64 (x.ch),.int .i64 (x.at_),.int .i64 (x.pa),.int .i64 (x.lv)]) (.agg #[.int .i64 (y.ch),.int .i64 (y.at_),.int .i64 (y.pa),.int .i64 (y.lv)])).run Tryz.prog W = .ok (.bool false) W:=by
  have h1:Tryz.prog.underlying 38 = some (.struct (Tryz.prog.fieldsOf 38)):=by kernel_rfl
  have h2:Tryz.prog.stoodInHeld 38 = false:=by kernel_rfl
  have hm1:Tryz.prog.stoodInHeld 34 = false:=by kernel_rfl
  have hm2:Tryz.prog.stoodInHeld 36 = false:=by kernel_rfl
  rw [run_neq_struct,run_equalIn_agg W 9999 _ _ _ h1 h2]
  have hf:=TypeDesc.struct.inj (Option.some.inj (h1.symm.trans Tryz.underlying38))
  rw [hf]
  subst h
  simp [Op.eqFields,go_sem,hm1,hm2,Tryz.underlying3,Tryz.underlying34,Tryz.underlying36]
theorem en_neq_t (W:World) (x y:Ent) (h:¬ x = y):(binOp .neq 38 (.agg #[.int .i64 (x.ch),.int .i64 (x.at_),.int .i64 (x.pa),.int .i64 (x.lv)]) (.agg #[.int .i64 (y.ch),.int .i64 (y.at_),.int .i64 (y.pa),.int .i64 (y.lv)])).run Tryz.prog W = .ok (.bool true) W:=by
  have h1:Tryz.prog.underlying 38 = some (.struct (Tryz.prog.fieldsOf 38)):=by kernel_rfl
  have h2:Tryz.prog.stoodInHeld 38 = false:=by kernel_rfl
  have hm1:Tryz.prog.stoodInHeld 34 = false:=by kernel_rfl
  have hm2:Tryz.prog.stoodInHeld 36 = false:=by kernel_rfl
  rw [run_neq_struct,run_equalIn_agg W 9999 _ _ _ h1 h2]
  have hf:=TypeDesc.struct.inj (Option.some.inj (h1.symm.trans Tryz.underlying38))
  rw [hf]
  obtain ⟨x0,x1,x2,x3⟩:=x;obtain ⟨y0,y1,y2,y3⟩:=y
  simp only [Ent.mk.injEq,not_and] at h
  dsimp only
  by_cases e0:x0 = y0
  · subst e0
    by_cases e1:x1 = y1
    · subst e1
      by_cases e2:x2 = y2
      · subst e2
        by_cases e3:x3 = y3
        · subst e3
          simp at h
        · simp [Op.eqFields,go_sem,hm1,hm2,e3,Tryz.underlying3,Tryz.underlying34,Tryz.underlying36]
      · simp [Op.eqFields,go_sem,hm1,hm2,e2,Tryz.underlying3,Tryz.underlying34,Tryz.underlying36]
    · simp [Op.eqFields,go_sem,hm1,hm2,e1,Tryz.underlying3,Tryz.underlying34,Tryz.underlying36]
  · simp [Op.eqFields,go_sem,hm1,hm2,e0,Tryz.underlying3,Tryz.underlying34,Tryz.underlying36]
theorem r15_sameents (a b : List Ent) (u v : Value) (w : World) (hu : EntsAt w u a) (hv : EntsAt w v b) (hn : a.length ≤ 1000000) :
    Calls Tryz.prog 18 #[u,v] w fun e w' => e = .returned (.bool (decide (a = b))) ∧ Below w.heap.size w w':=by
  obtain ⟨p1,c1,rfl,hR1⟩:=hu
  obtain ⟨p2,c2,rfl,hR2⟩:=hv
  have hv1:=Lib.hid hR1;have hv2:=Lib.hid hR2;have HFEW:=Lib.hid hn;clear hR1 hR2 hn
  have HB:=Lib.hid (Below.refl w.heap.size w)
  by_cases hl:a.length = b.length
  · have hll:((a.length:Int) != (b.length:Int)) = false:=by rw [bne_eq_false_iff_eq];omega
    have HLE:=Lib.hid hl
    clear hl
    go_enter Tryz.func18,Tryz.ntmps18
    go_wp2_with fail
    go_loopw [5] (fun s wr => ∃ k:Nat,s = .int .i64 (k:Int) ∧ k ≤ a.length ∧ Hid (∀ j (h1:j < a.length) (h2:j < b.length),j < k → a[j]'h1 = b[j]'h2) ∧ Hid (Below w.heap.size w wr)) (fun s _ => a.length - (intOf s).toNat)
    case atStart => exact ⟨0,rfl,by omega,Lib.hid (fun j _ _ h => absurd h (Nat.not_lt_zero _)),HB⟩
    case round =>
      obtain ⟨k,rfl,hk9,HF,HB2⟩:=hrel
      clear HB
      have HB:=HB2;clear HB2
      by_cases hkl:k < a.length
      · have hkb:k < b.length:=by have:=HLE.out;omega
        have hlt:(k:Int) < (a.length:Int):=by omega
        have hlt2:(k:Int) < (b.length:Int):=by omega
        have hk0:(0:Int) ≤ (k:Int):=by omega
        have hlo:k * 4 < 9223372036854775807:=by have:=HFEW.out;omega
        have hun:IntKind.i64.wrap ((k:Int) + 1) = (k:Int) + 1:=IntWalk.i64_in _ (by have:=HFEW.out;omega)
        obtain ⟨b1,o1,rfl,hb1,hC1⟩:=hv1.out (fun h => by subst h;exact absurd hkl (Nat.not_lt_zero _))
        obtain ⟨b2,o2,rfl,hb2,hC2⟩:=hv2.out (fun h => by subst h;exact absurd hkb (Nat.not_lt_zero _))
        obtain ⟨x,hx⟩:∃ x,x = a[k]'hkl:=⟨_,rfl⟩
        obtain ⟨y,hy⟩:∃ y,y = b[k]'hkb:=⟨_,rfl⟩
        have hc1:=hC1 k hkl
        have hc2:=hC2 k hkb
        rw [← hx] at hc1
        rw [← hy] at hc2
        have HCX:=Lib.hid hc1;have HCY:=Lib.hid hc2;have HB1:=Lib.hid hb1;have HB2_:=Lib.hid hb2;have HX:=Lib.hid hx;have HY:=Lib.hid hy
        clear hc1 hc2 hb1 hb2 hC1 hC2 hx hy
        go_upto_region 6 with fail
        by_cases hq:x = y
        · have hneqr:=fun W => en_neq_f W x y hq
          have HF2:Hid (∀ j (h1:j < a.length) (h2:j < b.length),j < k + 1 → a[j]'h1 = b[j]'h2):=Lib.hid (fun j h1 h2 h => by by_cases e:j = k;(subst e;rw [← HX.out,← HY.out];exact hq);exact HF.out j h1 h2 (by omega))
          clear hq
          have r0:=fun p:BelowOf _ => ((bch' HB.out p.h).cell (p:=⟨b1,o1 + k * 4,none⟩) HB1.out).trans (HCX.out 0 _ rfl)
          have r1:=fun p:BelowOf _ => ((bch' HB.out p.h).cell (p:=⟨b1,o1 + k * 4 + 1,none⟩) HB1.out).trans (HCX.out 1 _ rfl)
          have r2:=fun p:BelowOf _ => ((bch' HB.out p.h).cell (p:=⟨b1,o1 + k * 4 + 2,none⟩) HB1.out).trans (HCX.out 2 _ rfl)
          have r3:=fun p:BelowOf _ => ((bch' HB.out p.h).cell (p:=⟨b1,o1 + k * 4 + 3,none⟩) HB1.out).trans (HCX.out 3 _ rfl)
          have e0:=fun p:BelowOf _ => ((bch' HB.out p.h).cell (p:=⟨b2,o2 + k * 4,none⟩) HB2_.out).trans (HCY.out 0 _ rfl)
          have e1:=fun p:BelowOf _ => ((bch' HB.out p.h).cell (p:=⟨b2,o2 + k * 4 + 1,none⟩) HB2_.out).trans (HCY.out 1 _ rfl)
          have e2:=fun p:BelowOf _ => ((bch' HB.out p.h).cell (p:=⟨b2,o2 + k * 4 + 2,none⟩) HB2_.out).trans (HCY.out 2 _ rfl)
          have e3:=fun p:BelowOf _ => ((bch' HB.out p.h).cell (p:=⟨b2,o2 + k * 4 + 3,none⟩) HB2_.out).trans (HCY.out 3 _ rfl)
          have z1:=fun p:BelowOf _ => Nat.lt_of_lt_of_le HB1.out (bch' HB.out p.h).size
          have z2:=fun p:BelowOf _ => Nat.lt_of_lt_of_le HB2_.out (bch' HB.out p.h).size
          refine wp_region_WQ (by kernel_rfl) (by kernel_rfl) ?_
          repeat (refine WQ.step (fun K hK => ?_);go_simp;first | (refine hK.out _ ?_;clear hK K) | (apply Exists.intro;refine ⟨fun _ => ?_,hK.out _ ?_⟩;(first | rfl);clear hK K))
          refine WQ.nil ?_
          intro _ hw'
          obtain ⟨⟨wq,hbq⟩,hw2⟩:=hw'
          subst hw2
          replace HB:=Lib.hid (bch' HB.out hbq)
          clear r0 r1 r2 r3 e0 e1 e2 e3 z1 z2
          clear hneqr
          go_wp2_with fail
          go_roundw
          case rel => exact ⟨k + 1,by first | rfl | simp,by omega,HF2,HB⟩
          case measure => first | (simp [intOf];done) | (simp [intOf];omega)
        · have hneqr:=fun W => en_neq_t W x y hq
          have HE:Hid (decide (a = b) = false):=Lib.hid (decide_eq_false (list_ne_at hkl hkb (by rw [← HX.out,← HY.out];exact hq)))
          clear hq
          have r0:=fun p:BelowOf _ => ((bch' HB.out p.h).cell (p:=⟨b1,o1 + k * 4,none⟩) HB1.out).trans (HCX.out 0 _ rfl)
          have r1:=fun p:BelowOf _ => ((bch' HB.out p.h).cell (p:=⟨b1,o1 + k * 4 + 1,none⟩) HB1.out).trans (HCX.out 1 _ rfl)
          have r2:=fun p:BelowOf _ => ((bch' HB.out p.h).cell (p:=⟨b1,o1 + k * 4 + 2,none⟩) HB1.out).trans (HCX.out 2 _ rfl)
          have r3:=fun p:BelowOf _ => ((bch' HB.out p.h).cell (p:=⟨b1,o1 + k * 4 + 3,none⟩) HB1.out).trans (HCX.out 3 _ rfl)
          have e0:=fun p:BelowOf _ => ((bch' HB.out p.h).cell (p:=⟨b2,o2 + k * 4,none⟩) HB2_.out).trans (HCY.out 0 _ rfl)
          have e1:=fun p:BelowOf _ => ((bch' HB.out p.h).cell (p:=⟨b2,o2 + k * 4 + 1,none⟩) HB2_.out).trans (HCY.out 1 _ rfl)
          have e2:=fun p:BelowOf _ => ((bch' HB.out p.h).cell (p:=⟨b2,o2 + k * 4 + 2,none⟩) HB2_.out).trans (HCY.out 2 _ rfl)
          have e3:=fun p:BelowOf _ => ((bch' HB.out p.h).cell (p:=⟨b2,o2 + k * 4 + 3,none⟩) HB2_.out).trans (HCY.out 3 _ rfl)
          have z1:=fun p:BelowOf _ => Nat.lt_of_lt_of_le HB1.out (bch' HB.out p.h).size
          have z2:=fun p:BelowOf _ => Nat.lt_of_lt_of_le HB2_.out (bch' HB.out p.h).size
          refine wp_region_WQ (by kernel_rfl) (by kernel_rfl) ?_
          repeat (refine WQ.step (fun K hK => ?_);go_simp;first | (refine hK.out _ ?_;clear hK K) | (apply Exists.intro;refine ⟨fun _ => ?_,hK.out _ ?_⟩;(first | rfl);clear hK K))
          refine WQ.nil ?_
          intro _ hw'
          obtain ⟨⟨wq,hbq⟩,hw2⟩:=hw'
          subst hw2
          replace HB:=Lib.hid (bch' HB.out hbq)
          clear r0 r1 r2 r3 e0 e1 e2 e3 z1 z2
          clear hneqr
          go_wp2_with fail
          go_ret
          exact ⟨by first | (rw [HE.out];done) | (rw [HE.out];rfl),HB.out⟩
      · have hlt:¬ (k:Int) < (a.length:Int):=by omega
        obtain rfl:k = a.length:=by omega
        have HE:Hid (decide (a = b) = true):=Lib.hid (decide_eq_true (list_eq_at HLE.out HF.out))
        go_wp2_with fail
        go_ret
        exact ⟨by first | (rw [HE.out];done) | (rw [HE.out];rfl),HB.out⟩
  · have hll:((a.length:Int) != (b.length:Int)) = true:=by rw [bne_iff_ne];omega
    have HE:Hid (decide (a = b) = false):=Lib.hid (decide_eq_false (fun e => hl (by rw [e])))
    go_enter Tryz.func18,Tryz.ntmps18
    go_wp2_with fail
    go_ret
    exact ⟨by first | (rw [HE.out];done) | (rw [HE.out];rfl),HB.out⟩
end Go.Proofs.YtmjkenlifgmeeaaGreatDoor

import Derived.Test.YtknlohmkachbmaaGreatDoorPJg
import Derived.Test.YtknlohmkachbmaaGreatDoorPJe
set_option linter.unusedVariables false
set_option linter.unusedSimpArgs false
namespace Lum
open Go Go.RowKit Go.Shelf
open Go.Lib (decDigits itoa)
theorem near_rng {q:Rat} (h0:0 ≤ q) (h1:q ≤ ((65535:Int):Rat)):0 ≤ near q ∧ near q ≤ 65535:=by
  have e:near q = (q + half).floor:=flr_floor _
  have h2:=Rat.floor_le (q + half)
  have h3:=Rat.lt_floor_add_one (q + half)
  have hh:half + half = 1:=by decide +kernel
  have hp:(0:Rat) < half:=by decide +kernel
  rw [← e] at h2 h3
  generalize near q = n at *
  constructor
  · by_cases g:0 ≤ n
    · exact g
    · have g2:((n + 1:Int):Rat) ≤ ((0:Int):Rat):=Rat.intCast_le_intCast.2 (by omega)
      rw [Rat.intCast_add] at h3 g2
      have e0:((0:Int):Rat) = 0:=rfl
      rw [e0] at g2
      exact absurd h3 (by grind)
  · by_cases g:n ≤ 65535
    · exact g
    · have g2:((65535 + 1:Int):Rat) ≤ ((n:Int):Rat):=Rat.intCast_le_intCast.2 (by omega)
      rw [Rat.intCast_add] at g2
      have e1:((1:Int):Rat) = 1:=rfl
      rw [e1] at g2
      exact absurd h2 (by grind)
theorem fits_small {n:Int} (h0:0 ≤ n) (h1:n ≤ 65535):Fits 19 (n:Rat):=fits_i64 n (by omega) (by omega)
theorem levE_int {n:Int} (h0:0 ≤ n) (h1:n ≤ 65535):levE (itoa n) = 0:=by
  rw [← showR_int]
  refine levE_in (ratCheck_showR _ (fits_fit2 (fits_small h0 h1) (by omega))) ?_
  rintro (h | h)
  · rw [show (0:Rat) = ((0:Int):Rat) from rfl,Rat.intCast_lt_intCast] at h;omega
  · rw [Rat.intCast_lt_intCast] at h;omega
theorem itoa_short {n:Int} (h0:0 ≤ n) (h1:n ≤ 65535):(itoa n).length ≤ 40:=by
  rw [← showR_int];have:=showR_len _ 19 (fits_small h0 h1);omega
theorem near_lev {x:Txt} (h:levE x = 0):levE (itoa (near (valR x))) = 0 ∧ (itoa (near (valR x))).length ≤ 40:=by
  obtain ⟨q,rfl,h0,h1⟩:=levE_zero h
  rw [valR_showR]
  obtain ⟨h2,h3⟩:=near_rng h0 h1
  exact ⟨levE_int h2 h3,itoa_short h2 h3⟩
theorem frsH_ok {l:List Hnd} {t ti:Int} {e:Ent} {a:Amt} (he:entE e = 0) (ha:levE a.le = 0) (ht:timB t ti):hndE (frsH l t ti e a) = 0:=by
  have h1:entE ⟨(frsH l t ti e a).ch,(frsH l t ti e a).at_,(frsH l t ti e a).pa,(frsH l t ti e a).lv⟩ = 0:=he
  rw [hndE_gl h1]
  refine glE_in ?_ ⟨by omega,ht⟩
  unfold frsH
  by_cases c:finB l e.ky = true
  · show levE (if finB l e.ky = true then a.le else itoa (near (valR a.le))) = 0
    rw [if_pos c];exact ha
  · show levE (if finB l e.ky = true then a.le else itoa (near (valR a.le))) = 0
    rw [if_neg c];exact (near_lev ha).1
theorem frsH_short {l:List Hnd} {t ti:Int} {e:Ent} {a:Amt} (ha:levE a.le = 0) (hs:a.le.length ≤ 60):(frsH l t ti e a).fr.length ≤ 60:=by
  unfold frsH
  by_cases c:finB l e.ky = true
  · show (if finB l e.ky = true then a.le else itoa (near (valR a.le))).length ≤ 60
    rw [if_pos c];exact hs
  · show (if finB l e.ky = true then a.le else itoa (near (valR a.le))).length ≤ 60
    rw [if_neg c];have:=(near_lev ha).2;omega
theorem frsL_mem {l:List Hnd} {t ti:Int} {es:List Ent} {now:List Amt} {x:Hnd} (h:x ∈ frsL l t ti es now):∃ k,∃ h1:k < es.length,∃ h2:k < now.length,x = frsH l t ti (es[k]'h1) (now[k]'h2):=by
  obtain ⟨k,hk,rfl⟩:=List.getElem_of_mem h
  have hl:(frsL l t ti es now).length = min es.length now.length:=by unfold frsL;rw [List.length_zipWith]
  exact ⟨k,by omega,by omega,frsL_at _ _⟩
section
variable {α:Type} {key:α → Int × Int}
theorem asc_uniq {l:List α} (h:AscK key l) {x y:α} (hx:x ∈ l) (hy:y ∈ l) (e:key x = key y):x = y:=by
  obtain ⟨i,hi,rfl⟩:=List.getElem_of_mem hx
  obtain ⟨j,hj,rfl⟩:=List.getElem_of_mem hy
  rcases Nat.lt_trichotomy i j with g | g | g
  · have:=h.lt hj g;rw [e,ltP_irr] at this;cases this
  · subst g;rfl
  · have:=h.lt hi g;rw [e,ltP_irr] at this;cases this
theorem belP_mem {l:List α} (h:AscK key l) {x:α} (hx:x ∈ l):∃ i,∃ hi:i < l.length,BelP key l (key x) i true ∧ l[i]'hi = x:=by
  obtain ⟨i,hit,hb⟩:=belP_ex h (key x)
  cases hit with
  | false => obtain ⟨j,hj,rfl⟩:=List.getElem_of_mem hx;exact absurd rfl (hb.miss j hj)
  | true =>
    obtain ⟨h1,h2⟩:=hb.yes rfl
    exact ⟨i,h1,hb,asc_uniq h (List.getElem_mem h1) hx h2⟩
theorem putK_len {l:List α} {h:α} (hl:AscK key l):(putK key l h).length = l.length + (if l.any (fun y => decide (key h = key y)) = true then 0 else 1):=by
  obtain ⟨i,hit,hb⟩:=belP_ex hl (key h)
  rw [putK_at hb,belP_any hb]
  have:=hb.le
  unfold insL
  cases hit with
  | true =>
    obtain ⟨h1,-⟩:=hb.yes rfl
    simp;omega
  | false => simp;omega
theorem any_putK {l:List α} {h:α} {p:Int × Int} (hl:AscK key l):(putK key l h).any (fun y => decide (p = key y)) = (decide (p = key h) || l.any (fun y => decide (p = key y))):=by
  rw [Bool.eq_iff_iff,List.any_eq_true,Bool.or_eq_true,List.any_eq_true,decide_eq_true_iff]
  constructor
  · rintro ⟨x,hx,h2⟩
    have h2:=of_decide_eq_true h2
    rcases (putK_mem hl).1 hx with rfl | ⟨h3,-⟩
    · exact Or.inl h2
    · exact Or.inr ⟨x,h3,decide_eq_true h2⟩
  · rintro (h2 | ⟨x,hx,h2⟩)
    · exact ⟨h,(putK_mem hl).2 (Or.inl rfl),decide_eq_true h2⟩
    · have h2:=of_decide_eq_true h2
      by_cases c:key x = key h
      · exact ⟨h,(putK_mem hl).2 (Or.inl rfl),decide_eq_true (h2.trans c)⟩
      · exact ⟨x,(putK_mem hl).2 (Or.inr ⟨hx,c⟩),decide_eq_true h2⟩
theorem putsK_len:∀ {f l:List α},AscK key l → AscK key f → (putsK key l f).length = l.length + (f.filter (fun x => !l.any (fun y => decide (key x = key y)))).length:=by
  intro f
  induction f with
  | nil => intro l _ _;rfl
  | cons x r ih =>
    intro l hl hf
    obtain ⟨h1,h2⟩:=List.pairwise_cons.1 hf
    show (putsK key (putK key l x) r).length = _
    rw [ih (putK_asc hl) h2,putK_len hl]
    have e:r.filter (fun z => !(putK key l x).any (fun y => decide (key z = key y))) = r.filter (fun z => !l.any (fun y => decide (key z = key y))):=by
      refine List.filter_congr fun z hz => ?_
      rw [any_putK hl,decide_eq_false (fun e => ltP_neq (h1 z hz) e.symm),Bool.false_or]
    rw [e,List.filter_cons]
    cases l.any (fun y => decide (key x = key y)) <;> simp <;> omega
end
theorem finB_any (l:List Hnd) (p:Int × Int):finB l p = l.any (fun y => decide (p = y.ky)):=by
  unfold finB
  rw [ixOf_has]
  congr 1
  funext y
  by_cases h:y.ky = p
  · subst h;simp
  · rw [beq_eq_false_iff_ne.2 h,decide_eq_false (fun e => h e.symm)]
structure SetR (l : List Hnd) (t ti : Int) (es : List Ent) (now : List Amt) : Prop where
  hl:OrdP 256 hndE Hnd.ky l
  he:OrdP 4096 entE Ent.ky es
  tim:timB t ti
  len:now.length = es.length
  fit:∀ k (h1:k < es.length) (h2:k < now.length),(now[k]'h2).ky = (es[k]'h1).ky ∧ levE (now[k]'h2).le = 0
  few:(setL l t es ti now).length ≤ 256
theorem setR_of {l:List Hnd} {t ti:Int} {es:List Ent} {now:List Amt} (h:setE l t es ti now = 0):SetR l t ti es now:=by
  by_cases h1:askE l t es ti now = 0
  · obtain ⟨g1,g2,g3,g4⟩:=askE_zero h1
    obtain ⟨g5,g6⟩:=fitE_zero g4
    refine ⟨ordP_ok g1,ordP_ok g2,g3,g5,g6,?_⟩
    by_cases h2:256 < (setL l t es ti now).length
    · rw [setE_many h1 h2] at h;cases h
    · omega
  · rw [setE_ask h1] at h;exact absurd h h1
section
variable {l:List Hnd} {t ti:Int} {es:List Ent} {now:List Amt}
theorem SetR.asc (h:SetR l t ti es now):AscK Hnd.ky (setL l t es ti now):=putsK_asc h.hl.asc
theorem SetR.mem (h:SetR l t ti es now) (x:Hnd):x ∈ setL l t es ti now ↔ x ∈ frsL l t ti es now ∨ (x ∈ l ∧ ∀ y ∈ frsL l t ti es now,x.ky ≠ y.ky):=putsK_mem h.hl.asc (frsL_asc h.he.asc) x
theorem SetR.frs_ok (h:SetR l t ti es now) {x:Hnd} (hx:x ∈ frsL l t ti es now):hndE x = 0:=by
  obtain ⟨k,h1,h2,rfl⟩:=frsL_mem hx
  exact frsH_ok (h.he.ok _ (List.getElem_mem h1)) (h.fit k h1 h2).2 h.tim
theorem SetR.all (h:SetR l t ti es now):OrdP 256 hndE Hnd.ky (setL l t es ti now):=⟨h.few,fun x hx => by
  rcases (h.mem x).1 hx with h1 | ⟨h1,-⟩
  · exact h.frs_ok h1
  · exact h.hl.ok x h1,h.asc⟩
theorem SetR.right (h:SetR l t ti es now):hnsE (setL l t es ti now) = 0:=ordP_of h.all
theorem SetR.short (h:SetR l t ti es now) (hl:∀ x ∈ l,x.fr.length ≤ 60) (ha:∀ y ∈ now,y.le.length ≤ 60):∀ x ∈ setL l t es ti now,x.fr.length ≤ 60:=fun x hx => by
  rcases (h.mem x).1 hx with h1 | ⟨h1,-⟩
  · obtain ⟨k,h2,h3,rfl⟩:=frsL_mem h1
    exact frsH_short (h.fit k h2 h3).2 (ha _ (List.getElem_mem h3))
  · exact hl x h1
theorem SetR.find (h:SetR l t ti es now) {k:Nat} (h1:k < es.length) (h2:k < now.length):∃ i,∃ hi:i < (setL l t es ti now).length,BelP Hnd.ky (setL l t es ti now) (es[k]'h1).ky i true ∧ (setL l t es ti now)[i]'hi = frsH l t ti (es[k]'h1) (now[k]'h2):=by
  have hm:frsH l t ti (es[k]'h1) (now[k]'h2) ∈ setL l t es ti now:=(h.mem _).2 (Or.inl (by rw [← frsL_at (l:=l) (t:=t) (ti:=ti) h1 h2];exact List.getElem_mem _))
  exact belP_mem h.asc hm
theorem SetR.keeps (h:SetR l t ti es now) {x:Hnd} (hx:x ∈ l) (hn:es.any (fun y => decide (y.ky = x.ky)) = false):x ∈ setL l t es ti now:=(h.mem x).2 (Or.inr ⟨hx,fun y hy e => by
  obtain ⟨k,h1,h2,rfl⟩:=frsL_mem hy
  have:=List.any_eq_false.1 hn _ (List.getElem_mem h1)
  exact this (decide_eq_true e.symm)⟩)
theorem SetR.size (h:SetR l t ti es now):(setL l t es ti now).length ≤ l.length + es.length:=by
  have:=putsK_len h.hl.asc (frsL_asc (l:=l) (t:=t) (ti:=ti) (now:=now) h.he.asc)
  unfold setL
  have h2:=List.length_filter_le (fun x => !l.any (fun y => decide (Hnd.ky x = Hnd.ky y))) (frsL l t ti es now)
  rw [frsL_len h.len] at h2
  omega
end
end Lum

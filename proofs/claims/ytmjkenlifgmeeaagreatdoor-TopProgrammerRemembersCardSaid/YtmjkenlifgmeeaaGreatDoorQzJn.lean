/-
  
-/
import Derived.Test.YtmjkenlifgmeeaaGreatDoorQzJg
import Derived.Test.YtmjkenlifgmeeaaGreatDoorQzJc
import Derived.Test.YtmjkenlifgmeeaaGreatDoorQzJj
import Derived.Deep.AppendLies
import Derived.Test.YtmjkenlifgmeeaaGreatDoorQzHl
set_option linter.unusedVariables false
set_option linter.unusedSimpArgs false
namespace Lum
open Go Go.RowKit Go.Shelf
open Go.Lib (decDigits itoa)
theorem near_rng {q:Rat} (h0:0 ≤ q) (h1:q ≤ ((65535:Int):Rat)):0 ≤ near q ∧ near q ≤ 65535:=by
  have e:near q = (q + half).floor:=flr_floor _
  have h2:=Rat.floor_le (q + half)
  have h3:=Rat.lt_floor_add_one (q + half)
  have hh:half + half = 1:=by decide +kernel
  have hp:(0:Rat) < half:=by decide +kernel
  rw [← e] at h2 h3
  generalize near q = n at *
  constructor
  · by_cases g:0 ≤ n
    · exact g
    · have g2:((n + 1:Int):Rat) ≤ ((0:Int):Rat):=Rat.intCast_le_intCast.2 (by omega)
      rw [Rat.intCast_add] at h3 g2
      have e0:((0:Int):Rat) = 0:=rfl
      rw [e0] at g2
      exact absurd h3 (by grind)
  · by_cases g:n ≤ 65535
    · exact g
    · have g2:((65535 + 1:Int):Rat) ≤ ((n:Int):Rat):=Rat.intCast_le_intCast.2 (by omega)
      rw [Rat.intCast_add] at g2
      have e1:((1:Int):Rat) = 1:=rfl
      rw [e1] at g2
      exact absurd h2 (by grind)
theorem fits_small {n:Int} (h0:0 ≤ n) (h1:n ≤ 65535):Fits 19 (n:Rat):=fits_i64 n (by omega) (by omega)
theorem levE_int {n:Int} (h0:0 ≤ n) (h1:n ≤ 65535):levE (itoa n) = 0:=by
  rw [← showR_int]
  refine levE_in (ratCheck_showR _ (fits_fit2 (fits_small h0 h1) (by omega))) ?_
  rintro (h | h)
  · rw [show (0:Rat) = ((0:Int):Rat) from rfl,Rat.intCast_lt_intCast] at h;omega
  · rw [Rat.intCast_lt_intCast] at h;omega
theorem itoa_short {n:Int} (h0:0 ≤ n) (h1:n ≤ 65535):(itoa n).length ≤ 40:=by
  rw [← showR_int];have:=showR_len _ 19 (fits_small h0 h1);omega
theorem near_lev {x:Txt} (h:levE x = 0):levE (itoa (near (valR x))) = 0 ∧ (itoa (near (valR x))).length ≤ 40:=by
  obtain ⟨q,rfl,h0,h1⟩:=levE_zero h
  rw [valR_showR]
  obtain ⟨h2,h3⟩:=near_rng h0 h1
  exact ⟨levE_int h2 h3,itoa_short h2 h3⟩
theorem frsH_ok {l:List Hnd} {t ti:Int} {e:Ent} {a:Amt} (he:entE e = 0) (ha:levE a.le = 0) (ht:timB t ti):hndE (frsH l t ti e a) = 0:=by
  have h1:entE ⟨(frsH l t ti e a).ch,(frsH l t ti e a).at_,(frsH l t ti e a).pa,(frsH l t ti e a).lv⟩ = 0:=he
  rw [hndE_gl h1]
  refine glE_in ?_ ⟨by omega,ht⟩
  unfold frsH
  by_cases c:finB l e.ky = true
  · show levE (if finB l e.ky = true then a.le else itoa (near (valR a.le))) = 0
    rw [if_pos c];exact ha
  · show levE (if finB l e.ky = true then a.le else itoa (near (valR a.le))) = 0
    rw [if_neg c];exact (near_lev ha).1
theorem frsH_short {l:List Hnd} {t ti:Int} {e:Ent} {a:Amt} (ha:levE a.le = 0) (hs:a.le.length ≤ 60):(frsH l t ti e a).fr.length ≤ 60:=by
  unfold frsH
  by_cases c:finB l e.ky = true
  · show (if finB l e.ky = true then a.le else itoa (near (valR a.le))).length ≤ 60
    rw [if_pos c];exact hs
  · show (if finB l e.ky = true then a.le else itoa (near (valR a.le))).length ≤ 60
    rw [if_neg c];have:=(near_lev ha).2;omega
theorem frsL_mem {l:List Hnd} {t ti:Int} {es:List Ent} {now:List Amt} {x:Hnd} (h:x ∈ frsL l t ti es now):∃ k,∃ h1:k < es.length,∃ h2:k < now.length,x = frsH l t ti (es[k]'h1) (now[k]'h2):=by
  obtain ⟨k,hk,rfl⟩:=List.getElem_of_mem h
  have hl:(frsL l t ti es now).length = min es.length now.length:=by unfold frsL;rw [List.length_zipWith]
  exact ⟨k,by omega,by omega,frsL_at _ _⟩
section
variable {α:Type} {key:α → Int × Int}
theorem putK_len {l:List α} {h:α} (hl:AscK key l):(putK key l h).length = l.length + (if l.any (fun y => decide (key h = key y)) = true then 0 else 1):=by
  obtain ⟨i,hit,hb⟩:=belP_ex hl (key h)
  rw [putK_at hb,belP_any hb]
  have:=hb.le
  unfold insL
  cases hit with
  | true =>
    obtain ⟨h1,-⟩:=hb.yes rfl
    simp;omega
  | false => simp;omega
theorem any_putK {l:List α} {h:α} {p:Int × Int} (hl:AscK key l):(putK key l h).any (fun y => decide (p = key y)) = (decide (p = key h) || l.any (fun y => decide (p = key y))):=by
  rw [Bool.eq_iff_iff,List.any_eq_true,Bool.or_eq_true,List.any_eq_true,decide_eq_true_iff]
  constructor
  · rintro ⟨x,hx,h2⟩
    have h2:=of_decide_eq_true h2
    rcases (putK_mem hl).1 hx with rfl | ⟨h3,-⟩
    · exact Or.inl h2
    · exact Or.inr ⟨x,h3,decide_eq_true h2⟩
  · rintro (h2 | ⟨x,hx,h2⟩)
    · exact ⟨h,(putK_mem hl).2 (Or.inl rfl),decide_eq_true h2⟩
    · have h2:=of_decide_eq_true h2
      by_cases c:key x = key h
      · exact ⟨h,(putK_mem hl).2 (Or.inl rfl),decide_eq_true (h2.trans c)⟩
      · exact ⟨x,(putK_mem hl).2 (Or.inr ⟨hx,c⟩),decide_eq_true h2⟩
theorem putsK_len:∀ {f l:List α},AscK key l → AscK key f → (putsK key l f).length = l.length + (f.filter (fun x => !l.any (fun y => decide (key x = key y)))).length:=by
  intro f
  induction f with
  | nil => intro l _ _;rfl
  | cons x r ih =>
    intro l hl hf
    obtain ⟨h1,h2⟩:=List.pairwise_cons.1 hf
    show (putsK key (putK key l x) r).length = _
    rw [ih (putK_asc hl) h2,putK_len hl]
    have e:r.filter (fun z => !(putK key l x).any (fun y => decide (key z = key y))) = r.filter (fun z => !l.any (fun y => decide (key z = key y))):=by
      refine List.filter_congr fun z hz => ?_
      rw [any_putK hl,decide_eq_false (fun e => ltP_neq (h1 z hz) e.symm),Bool.false_or]
    rw [e,List.filter_cons]
    cases l.any (fun y => decide (key x = key y)) <;> simp <;> omega
end
theorem finB_any (l:List Hnd) (p:Int × Int):finB l p = l.any (fun y => decide (p = y.ky)):=by
  unfold finB
  rw [ixOf_has]
  congr 1
  funext y
  by_cases h:y.ky = p
  · subst h;simp
  · rw [beq_eq_false_iff_ne.2 h,decide_eq_false (fun e => h e.symm)]
structure SetR (l : List Hnd) (t ti : Int) (es : List Ent) (now : List Amt) : Prop where
  hl:OrdP 256 hndE Hnd.ky l
  he:OrdP 4096 entE Ent.ky es
  tim:timB t ti
  len:now.length = es.length
  fit:∀ k (h1:k < es.length) (h2:k < now.length),(now[k]'h2).ky = (es[k]'h1).ky ∧ levE (now[k]'h2).le = 0
  few:(setL l t es ti now).length ≤ 256
theorem setR_of {l:List Hnd} {t ti:Int} {es:List Ent} {now:List Amt} (h:setE l t es ti now = 0):SetR l t ti es now:=by
  by_cases h1:askE l t es ti now = 0
  · obtain ⟨g1,g2,g3,g4⟩:=askE_zero h1
    obtain ⟨g5,g6⟩:=fitE_zero g4
    refine ⟨ordP_ok g1,ordP_ok g2,g3,g5,g6,?_⟩
    by_cases h2:256 < (setL l t es ti now).length
    · rw [setE_many h1 h2] at h;cases h
    · omega
  · rw [setE_ask h1] at h;exact absurd h h1
section
variable {l:List Hnd} {t ti:Int} {es:List Ent} {now:List Amt}
theorem SetR.asc (h:SetR l t ti es now):AscK Hnd.ky (setL l t es ti now):=putsK_asc h.hl.asc
theorem SetR.mem (h:SetR l t ti es now) (x:Hnd):x ∈ setL l t es ti now ↔ x ∈ frsL l t ti es now ∨ (x ∈ l ∧ ∀ y ∈ frsL l t ti es now,x.ky ≠ y.ky):=putsK_mem h.hl.asc (frsL_asc h.he.asc) x
theorem SetR.frs_ok (h:SetR l t ti es now) {x:Hnd} (hx:x ∈ frsL l t ti es now):hndE x = 0:=by
  obtain ⟨k,h1,h2,rfl⟩:=frsL_mem hx
  exact frsH_ok (h.he.ok _ (List.getElem_mem h1)) (h.fit k h1 h2).2 h.tim
theorem SetR.all (h:SetR l t ti es now):OrdP 256 hndE Hnd.ky (setL l t es ti now):=⟨h.few,fun x hx => by
  rcases (h.mem x).1 hx with h1 | ⟨h1,-⟩
  · exact h.frs_ok h1
  · exact h.hl.ok x h1,h.asc⟩
theorem SetR.right (h:SetR l t ti es now):hnsE (setL l t es ti now) = 0:=ordP_of h.all
theorem SetR.short (h:SetR l t ti es now) (hl:∀ x ∈ l,x.fr.length ≤ 60) (ha:∀ y ∈ now,y.le.length ≤ 60):∀ x ∈ setL l t es ti now,x.fr.length ≤ 60:=fun x hx => by
  rcases (h.mem x).1 hx with h1 | ⟨h1,-⟩
  · obtain ⟨k,h2,h3,rfl⟩:=frsL_mem h1
    exact frsH_short (h.fit k h2 h3).2 (ha _ (List.getElem_mem h3))
  · exact hl x h1
theorem SetR.keeps (h:SetR l t ti es now) {x:Hnd} (hx:x ∈ l) (hn:es.any (fun y => decide (y.ky = x.ky)) = false):x ∈ setL l t es ti now:=(h.mem x).2 (Or.inr ⟨hx,fun y hy e => by
  obtain ⟨k,h1,h2,rfl⟩:=frsL_mem hy
  have:=List.any_eq_false.1 hn _ (List.getElem_mem h1)
  exact this (decide_eq_true e.symm)⟩)
theorem SetR.size (h:SetR l t ti es now):(setL l t es ti now).length ≤ l.length + es.length:=by
  have:=putsK_len h.hl.asc (frsL_asc (l:=l) (t:=t) (ti:=ti) (now:=now) h.he.asc)
  unfold setL
  have h2:=List.length_filter_le (fun x => !l.any (fun y => decide (Hnd.ky x = Hnd.ky y))) (frsL l t ti es now)
  rw [frsL_len h.len] at h2
  omega
end
end Lum
namespace Lum
open Go Go.RowKit Go.Shelf
open Go.Lib (decDigits itoa)
def newZ (l:List Hnd) (es:List Ent) (now:List Amt):List (Ent × Amt):=(es.zip now).filter (fun z => !finB l z.1.ky)
def newK (l:List Hnd) (es:List Ent) (now:List Amt) (k:Nat):List (Ent × Amt):=((es.zip now).take k).filter (fun z => !finB l z.1.ky)
structure ZipOk (Z : List (Ent × Amt)) : Prop where
  asc:AscK Ent.ky (Z.map (·.1))
  ok:∀ z ∈ Z,entE z.1 = 0
  fit:∀ z ∈ Z,z.2.ky = z.1.ky ∧ levE z.2.le = 0
theorem fitE_zip {Z:List (Ent × Amt)} (h:∀ z ∈ Z,z.2.ky = z.1.ky ∧ levE z.2.le = 0):fitE (Z.map (·.1)) (Z.map (·.2)) = 0:=by
  unfold fitE
  rw [if_pos (by rw [List.length_map,List.length_map])]
  induction Z with
  | nil => rfl
  | cons z r ih =>
    have h1:=h z List.mem_cons_self
    rw [List.map_cons,List.map_cons,fitL,if_pos h1.1,if_pos h1.2]
    exact ih fun x hx => h x (List.mem_cons_of_mem _ hx)
theorem zip_fst {es:List Ent} {now:List Amt} (h:now.length = es.length):(es.zip now).map (·.1) = es:=by
  apply List.ext_getElem
  · rw [List.length_map,List.length_zip];omega
  · intro i h1 h2;rw [List.getElem_map,List.getElem_zip]
theorem frsL_zip (l:List Hnd) (t ti:Int) (Z:List (Ent × Amt)):frsL l t ti (Z.map (·.1)) (Z.map (·.2)) = Z.map (fun z => frsH l t ti z.1 z.2):=by
  unfold frsL
  induction Z with
  | nil => rfl
  | cons z r ih => rw [List.map_cons,List.map_cons,List.zipWith_cons_cons,ih,List.map_cons]
section
variable {l:List Hnd} {t ti:Int} {es:List Ent} {now:List Amt}
theorem newZ_sub:(newZ l es now).Sublist (es.zip now):=List.filter_sublist
theorem SetR.newOk (h:SetR l t ti es now):ZipOk (newZ l es now):=by
  have hz:∀ z ∈ es.zip now,entE z.1 = 0 ∧ z.2.ky = z.1.ky ∧ levE z.2.le = 0:=fun z hz => by
    obtain ⟨k,hk,rfl⟩:=List.getElem_of_mem hz
    rw [List.length_zip] at hk
    rw [List.getElem_zip]
    exact ⟨h.he.ok _ (List.getElem_mem _),h.fit k (by omega) (by omega)⟩
  refine ⟨?_,fun z hm => (hz z (newZ_sub.subset hm)).1,fun z hm => (hz z (newZ_sub.subset hm)).2⟩
  have h1:((newZ l es now).map (·.1)).Sublist es:=by
    have:=(newZ_sub (l:=l) (es:=es) (now:=now)).map (·.1)
    rwa [zip_fst h.len] at this
  exact List.Pairwise.sublist h1 h.he.asc
theorem SetR.newFresh (h:SetR l t ti es now) {z:Ent × Amt} (hz:z ∈ newZ l es now):finB l z.1.ky = false:=by
  have:=(List.mem_filter.1 hz).2
  simpa using this
theorem SetR.newSize (h:SetR l t ti es now):l.length + (newZ l es now).length ≤ (setL l t es ti now).length:=by
  have h1:=putsK_len h.hl.asc (frsL_asc (l:=l) (t:=t) (ti:=ti) (now:=now) h.he.asc)
  have h2:((frsL l t ti es now).filter (fun x => !l.any (fun y => decide (Hnd.ky x = Hnd.ky y)))).length = (newZ l es now).length:=by
    have e:frsL l t ti es now = (es.zip now).map (fun z => frsH l t ti z.1 z.2):=by
      unfold frsL;rw [← List.map_uncurry_zip_eq_zipWith];rfl
    rw [e,List.filter_map,List.length_map]
    unfold newZ
    congr 1
    refine List.filter_congr fun z _ => ?_
    show (!l.any (fun y => decide (z.1.ky = y.ky))) = !finB l z.1.ky
    rw [finB_any]
  unfold setL
  omega
theorem SetR.new (h:SetR l t ti es now):setE l t ((newZ l es now).map (·.1)) ti ((newZ l es now).map (·.2)) = 0:=by
  have hz:=h.newOk
  have hs:(newZ l es now).length ≤ es.length:=by
    have:=(newZ_sub (l:=l) (es:=es) (now:=now)).length_le
    rw [List.length_zip] at this;omega
  have h1:hnsE l = 0:=ordP_of h.hl
  have h2:entsE ((newZ l es now).map (·.1)) = 0:=ordP_of ⟨by rw [List.length_map];have:=h.he.few;omega,fun x hx => by
    obtain ⟨z,hm,rfl⟩:=List.mem_map.1 hx;exact hz.ok z hm,hz.asc⟩
  have h4:=fitE_zip hz.fit
  have h5:askE l t ((newZ l es now).map (·.1)) ti ((newZ l es now).map (·.2)) = 0:=by rw [askE_f h1 h2 h.tim];exact h4
  refine setE_ok h5 ?_
  have h6:=putsK_len h.hl.asc (frsL_asc (l:=l) (t:=t) (ti:=ti) (now:=(newZ l es now).map (·.2)) hz.asc)
  have h7:=List.length_filter_le (fun x => !l.any (fun y => decide (Hnd.ky x = Hnd.ky y))) (frsL l t ti ((newZ l es now).map (·.1)) ((newZ l es now).map (·.2)))
  rw [frsL_zip,List.length_map] at h7
  have h8:=h.newSize
  have h9:=h.few
  unfold setL
  rw [frsL_zip] at h6 ⊢
  omega
theorem SetR.back (h:SetR l t ti es now):(setL l t ((newZ l es now).map (·.1)) ti ((newZ l es now).map (·.2))).length = l.length + (newZ l es now).length ∧ clrL (setL l t ((newZ l es now).map (·.1)) ti ((newZ l es now).map (·.2))) ((newZ l es now).map (·.1.ky)) = (if 0 < (newZ l es now).length then l else []):=by
  have hz:=h.newOk
  have hf:∀ z ∈ newZ l es now,l.any (fun y => decide (z.1.ky = y.ky)) = false:=fun z hm => by rw [← finB_any];exact h.newFresh hm
  have hS:=setR_of h.new
  generalize newZ l es now = Z at *
  have h6:=putsK_len h.hl.asc (frsL_asc (l:=l) (t:=t) (ti:=ti) (now:=Z.map (·.2)) hz.asc)
  have e1:(frsL l t ti (Z.map (·.1)) (Z.map (·.2))).filter (fun x => !l.any (fun y => decide (Hnd.ky x = Hnd.ky y))) = frsL l t ti (Z.map (·.1)) (Z.map (·.2)):=List.filter_eq_self.2 fun x hx => by
    rw [frsL_zip] at hx
    obtain ⟨z,hm,rfl⟩:=List.mem_map.1 hx
    show (!l.any (fun y => decide (z.1.ky = y.ky))) = true
    rw [hf z hm];rfl
  rw [e1] at h6
  refine ⟨?_,?_⟩
  · unfold setL;rw [h6,frsL_zip,List.length_map]
  · by_cases h0:0 < Z.length
    · rw [if_pos h0,clrL_some (by rw [List.length_map];exact h0)]
      refine ascK_unique (List.Pairwise.filter _ hS.asc) h.hl.asc fun x => ?_
      rw [List.mem_filter,hS.mem,frsL_zip]
      constructor
      · rintro ⟨h1 | ⟨h1,-⟩,h2⟩
        · obtain ⟨z,hm,rfl⟩:=List.mem_map.1 h1
          have h3:(frsH l t ti z.1 z.2).ky ∈ Z.map (·.1.ky):=List.mem_map.2 ⟨z,hm,rfl⟩
          rw [decide_eq_true h3] at h2;cases h2
        · exact h1
      · intro hx
        have hn:¬ x.ky ∈ Z.map (·.1.ky):=fun g => by
          obtain ⟨z,hm,e⟩:=List.mem_map.1 g
          have:=List.any_eq_false.1 (hf z hm) x hx
          exact this (decide_eq_true e)
        refine ⟨Or.inr ⟨hx,fun y hy e => ?_⟩,by rw [decide_eq_false hn];rfl⟩
        obtain ⟨z,hm,rfl⟩:=List.mem_map.1 hy
        exact hn (List.mem_map.2 ⟨z,hm,e.symm⟩)
    · rw [if_neg h0]
      have:Z = []:=List.length_eq_zero_iff.1 (by omega)
      subst this
      exact clrL_none _
end
def KeepT (e:TypeId) (base:Nat) (X w':World):Prop:=∀ {β:Type} (enc:β → List Value) (k:Nat) (e2:TypeId) (q:Option Addr) (c:Nat) (l:List β),e2 ≠ e → OwnR enc k base e2 X q c l → OwnR enc k base e2 w' q c l
theorem KeepT.use {e:TypeId} {base:Nat} {X w':World} (h:KeepT e base X w') {β:Type} {enc:β → List Value} {k:Nat} {e2:TypeId} {q:Option Addr} {c:Nat} {l:List β} (hne:e2 ≠ e) (ho:OwnR enc k base e2 X q c l):OwnR enc k base e2 w' q c l:=h enc k e2 q c l hne ho
def KeepN (p:Option Addr) (X w':World):Prop:=∀ (n:Nat) (T:TypeId) (cs:Array Value),(∀ a,p = some a → a.block ≠ n) → Blk X n T cs → Blk w' n T cs
theorem OwnR.al {β:Type} {enc:β → List Value} {k base:Nat} {e:TypeId} {W:World} {p:Option Addr} {c:Nat} {l:List β} (o:Obj) (h:OwnR enc k base e W p c l):OwnR enc k base e (W.alloc o) p c l:=h.keep ((Below.refl _ W).alloc (Nat.le_refl _) o)
theorem ownR_blk_ne {β γ:Type} {enc:β → List Value} {enc2:γ → List Value} {k k2 base base2:Nat} {e e2:TypeId} {W:World} {p q:Option Addr} {c d:Nat} {l:List β} {m:List γ} (h:OwnR enc k base e W p c l) (g:OwnR enc2 k2 base2 e2 W q d m) (hne:e2 ≠ e):∀ a b,p = some a → q = some b → b.block ≠ a.block:=by
  intro a b ha hb
  rcases h.2 with ⟨h1,-⟩ | ⟨n,cap,cur,h1,-,h3,-⟩
  · injection h1 with h1;rw [h1] at ha;cases ha
  · rcases g.2 with ⟨g1,-⟩ | ⟨n2,cap2,cur2,g1,-,g3,-⟩
    · injection g1 with g1;rw [g1] at hb;cases hb
    · injection h1 with h1
      injection g1 with g1
      rw [h1] at ha;rw [g1] at hb
      injection ha with ha
      injection hb with hb
      subst ha hb
      intro e3
      have e4:n2 = n:=e3
      subst e4
      have:=h3.symm.trans g3
      injection this with this
      injection this with h5 h6 h7
      exact hne h6.symm
def BlkN (N:Nat) (W:World) (n:Nat) (T:TypeId) (cs:Array Value):Prop:=N ≤ n ∧ Blk W n T cs
theorem encPm_one:∀ x,∀ v ∈ encPm x,v.oneCell' = true:=fun x v hv => by
  simp only [encPm,List.mem_cons,List.not_mem_nil,or_false] at hv;rcases hv with rfl | rfl <;> rfl
theorem encAm_one:∀ x,∀ v ∈ encAm x,v.oneCell' = true:=fun x v hv => by
  simp only [encAm,List.mem_cons,List.not_mem_nil,or_false] at hv;rcases hv with rfl | rfl | rfl <;> rfl
end Lum
namespace Lum
open Go Go.RowKit Go.Shelf
open Go.Lib (decDigits itoa)
def halfT:Txt:=[49,47,50]
theorem levE_half:levE halfT = 0:=by decide +kernel
def nowH (es:List Ent):List Amt:=es.map (fun e => ⟨e.ch,e.at_,halfT⟩)
def kysE (es:List Ent):List (Int × Int):=es.map Ent.ky
theorem nowH_len (es:List Ent):(nowH es).length = es.length:=List.length_map _
theorem nowH_short {es:List Ent}:∀ y ∈ nowH es,y.le.length ≤ 60:=fun y hy => by
  obtain ⟨e,-,rfl⟩:=List.mem_map.1 hy
  exact (by decide:halfT.length ≤ 60)
theorem fitE_half (es:List Ent):fitE es (nowH es) = 0:=by
  unfold fitE
  rw [if_pos (nowH_len es)]
  unfold nowH
  induction es with
  | nil => rfl
  | cons e r ih => rw [List.map_cons,fitL,if_pos (show (⟨e.ch,e.at_,halfT⟩:Amt).ky = e.ky from rfl),if_pos (show levE (⟨e.ch,e.at_,halfT⟩:Amt).le = 0 from levE_half)];exact ih
structure RemR (H : List Hnd) (K : List Ent) (n : Nat) (t : Int) : Prop where
  hn:hnsE H = 0
  short:∀ x ∈ H,x.fr.length ≤ 60
  mem:∀ e,e ∈ K ↔ e ∈ H.map entO
  dist:K.Pairwise (fun a b => a.ky ≠ b.ky)
  lenH:H.length ≤ 12 * n
  lenK:K.length ≤ 12 * n
  t0:0 ≤ t
  t1:t ≤ 65535 * (n:Int)
theorem RemR.start:RemR [] [] 0 0:=⟨rfl,(fun _ h => by cases h),(fun e => Iff.rfl),List.Pairwise.nil,Nat.le_refl _,Nat.le_refl _,Int.le_refl _,by decide⟩
theorem RemR.later {H:List Hnd} {K:List Ent} {n:Nat} {t a:Int} (h:RemR H K n t) (h0:0 ≤ a) (h1:a ≤ 65535):0 ≤ t + a ∧ t + a ≤ 65535 * ((n + 1:Nat):Int):=by
  have h2:=h.t0;have h3:=h.t1
  omega
def dropB (es:List Ent) (cl:Bool) (y:Ent):Bool:=decide (y.ky ∈ kysE es) || (cl && decide (es.length = 0))
def restK (K es:List Ent) (cl:Bool):List Ent:=K.filter (fun y => !dropB es cl y)
def nextK (K es:List Ent) (cl:Bool):List Ent:=if cl = true then restK K es cl else restK K es cl ++ es
def nextH (H:List Hnd) (t ti:Int) (es:List Ent) (cl:Bool):List Hnd:=if cl = true then clrL H (kysE es) else setL H t es ti (nowH es)
theorem restK_len (K es:List Ent) (cl:Bool):(restK K es cl).length ≤ K.length:=List.length_filter_le _ _
theorem pmsE_kys {es:List Ent} (h:entsE es = 0):pmsE (kysE es) = 0:=by
  have ho:=(ordP_ok h).ok
  clear h
  unfold kysE
  induction es with
  | nil => rfl
  | cons e r ih =>
    have h1:=ho e List.mem_cons_self
    have h2:paE e.ky.1 e.ky.2 = 0:=by
      by_cases g:paE e.ch e.at_ = 0
      · exact g
      · rw [entE_pa g] at h1;exact absurd h1 g
    rw [List.map_cons,pmsE,if_neg (by simpa using h2)]
    exact ih fun x hx => ho x (List.mem_cons_of_mem _ hx)
theorem RemR.clrE {H:List Hnd} {K es:List Ent} {n:Nat} {t:Int} (h:RemR H K n t) (he:entsE es = 0) (hl:es.length ≤ 12):clrE H (kysE es) = 0:=by
  rw [clrE_p h.hn (by unfold kysE;rw [List.length_map];omega)]
  exact pmsE_kys he
theorem frsL_ents (l:List Hnd) (t ti:Int) (es:List Ent):(frsL l t ti es (nowH es)).map entO = es:=by
  unfold frsL nowH
  induction es with
  | nil => rfl
  | cons e r ih => rw [List.map_cons,List.zipWith_cons_cons,List.map_cons,ih];rfl
theorem RemR.setE {H:List Hnd} {K es:List Ent} {n:Nat} {t t' ti:Int} (h:RemR H K n t) (he:entsE es = 0) (hl:es.length ≤ 12) (hn:n < 10) (h0:0 ≤ t') (h1:t' ≤ 65535 * ((n + 1:Nat):Int)) (i0:0 ≤ ti) (i1:ti ≤ 65535):setE H t' es ti (nowH es) = 0:=by
  have ht:timB t' ti:=⟨⟨h0,by omega⟩,⟨i0,by omega⟩⟩
  refine setE_ok (by rw [askE_f h.hn he ht];exact fitE_half es) ?_
  have h6:=putsK_len (ordP_ok h.hn).asc (frsL_asc (l:=H) (t:=t') (ti:=ti) (now:=nowH es) (ordP_ok he).asc)
  have h7:=List.length_filter_le (fun x => !H.any (fun y => decide (Hnd.ky x = Hnd.ky y))) (frsL H t' ti es (nowH es))
  rw [frsL_len (nowH_len es)] at h7
  have h8:=h.lenH
  unfold setL
  omega
theorem RemR.next {H:List Hnd} {K es:List Ent} {n:Nat} {t t' ti:Int} {cl:Bool} (h:RemR H K n t) (he:entsE es = 0) (hl:es.length ≤ 12) (hn:n < 10) (h0:0 ≤ t') (h1:t' ≤ 65535 * ((n + 1:Nat):Int)) (i0:0 ≤ ti) (i1:ti ≤ 65535):RemR (nextH H t' ti es cl) (nextK K es cl) (n + 1) t':=by
  have hd:(restK K es cl).Pairwise (fun a b => a.ky ≠ b.ky):=List.Pairwise.filter _ h.dist
  have hr:=restK_len K es cl
  have hH:=h.lenH;have hK:=h.lenK
  have ho:=ordP_ok h.hn
  cases cl with
  | true =>
    have e1:nextK K es true = restK K es true:=rfl
    have e2:nextH H t' ti es true = H.filter (clrK (kysE es)):=rfl
    rw [e1,e2]
    have hf:=List.length_filter_le (clrK (kysE es)) H
    refine ⟨ordP_of ⟨by have:=ho.few;omega,fun x hx => ho.ok x (List.mem_filter.1 hx).1,List.Pairwise.filter _ ho.asc⟩,fun x hx => h.short x (List.mem_filter.1 hx).1,fun e => ?_,hd,by omega,by omega,h0,h1⟩
    have hk:∀ x:Hnd,clrK (kysE es) x = !dropB es true (entO x):=fun x => by
      unfold clrK dropB
      show (decide (0 < (kysE es).length) && !decide (x.ky ∈ kysE es)) = !(decide (x.ky ∈ kysE es) || (true && decide (es.length = 0)))
      have e5:(kysE es).length = es.length:=List.length_map _
      rw [e5]
      by_cases g:es.length = 0
      · rw [decide_eq_false (show ¬ 0 < es.length by omega),decide_eq_true g];simp
      · rw [decide_eq_true (show 0 < es.length by omega),decide_eq_false g];simp
    rw [restK,List.mem_filter,h.mem,List.mem_map,List.mem_map]
    constructor
    · rintro ⟨⟨x,hx,rfl⟩,h2⟩
      exact ⟨x,List.mem_filter.2 ⟨hx,by rw [hk];exact h2⟩,rfl⟩
    · rintro ⟨x,hx,rfl⟩
      obtain ⟨h3,h4⟩:=List.mem_filter.1 hx
      exact ⟨⟨x,h3,rfl⟩,by rw [← hk];exact h4⟩
  | false =>
    have e1:nextK K es false = restK K es false ++ es:=rfl
    have e2:nextH H t' ti es false = setL H t' es ti (nowH es):=rfl
    rw [e1,e2]
    have hS:=setR_of (h.setE he hl hn h0 h1 i0 i1)
    have hz:=hS.size
    have hdr:∀ y:Ent,dropB es false y = decide (y.ky ∈ kysE es):=fun y => by unfold dropB;simp
    refine ⟨hS.right,hS.short h.short nowH_short,fun e => ?_,List.pairwise_append.2 ⟨hd,(ordP_ok he).asc.imp fun {a b} g => ltP_neq g,fun a ha b hb e => ?_⟩,by omega,by rw [List.length_append];omega,h0,h1⟩
    · rw [List.mem_append,restK,List.mem_filter,h.mem,List.mem_map,List.mem_map]
      constructor
      · rintro (⟨⟨x,hx,rfl⟩,h2⟩ | h2)
        · refine ⟨x,(hS.mem x).2 (Or.inr ⟨hx,fun y hy g => ?_⟩),rfl⟩
          have h3:entO y ∈ es:=by have:entO y ∈ (frsL H t' ti es (nowH es)).map entO:=List.mem_map.2 ⟨y,hy,rfl⟩;rwa [frsL_ents] at this
          have h4:(entO x).ky ∈ kysE es:=List.mem_map.2 ⟨entO y,h3,g.symm⟩
          rw [hdr,decide_eq_true h4] at h2;cases h2
        · rw [← frsL_ents H t' ti es] at h2
          obtain ⟨x,hx,rfl⟩:=List.mem_map.1 h2
          exact ⟨x,(hS.mem x).2 (Or.inl hx),rfl⟩
      · rintro ⟨x,hx,rfl⟩
        rcases (hS.mem x).1 hx with h2 | ⟨h2,h3⟩
        · exact Or.inr (by have:entO x ∈ (frsL H t' ti es (nowH es)).map entO:=List.mem_map.2 ⟨x,h2,rfl⟩;rwa [frsL_ents] at this)
        · refine Or.inl ⟨⟨x,h2,rfl⟩,?_⟩
          rw [hdr,decide_eq_false]
          · rfl
          · intro g
            obtain ⟨e,he9,g2⟩:=List.mem_map.1 g
            rw [← frsL_ents H t' ti es] at he9
            obtain ⟨y,hy,rfl⟩:=List.mem_map.1 he9
            exact h3 y hy g2.symm
    · have h2:=(List.mem_filter.1 ha).2
      have h3:a.ky ∈ kysE es:=List.mem_map.2 ⟨b,hb,e.symm⟩
      rw [hdr,decide_eq_true h3] at h2;cases h2
theorem RemR.sorted {H:List Hnd} {K s:List Ent} {n:Nat} {t:Int} (h:RemR H K n t) (hp:List.Perm s K) (hs:∀ i j (hj:j < s.length) (h:i < j),ltP (s[j]'hj).ky (s[i]'(by omega)).ky = false):s = H.map entO:=by
  have hd:s.Pairwise (fun a b => a.ky ≠ b.ky):=(List.Perm.pairwise_iff (fun {a b} (g:a.ky ≠ b.ky) => fun e => g e.symm) hp).2 h.dist
  refine ascK_unique (key:=Ent.ky) (List.pairwise_iff_getElem.2 fun i j hi hj hij => ?_) ?_ fun x => by rw [hp.mem_iff];exact h.mem x
  · have h1:=hs i j hj hij
    have h2:=List.pairwise_iff_getElem.1 hd i j hi hj hij
    rw [ltP_false] at h1
    rw [ltP_iff]
    have h3:¬ ((s[i]'hi).ky.1 = (s[j]'hj).ky.1 ∧ (s[i]'hi).ky.2 = (s[j]'hj).ky.2):=fun g => h2 (Prod.ext g.1 g.2)
    omega
  · exact List.pairwise_map.2 ((ordP_ok h.hn).asc.imp fun {a b} g => g)
end Lum

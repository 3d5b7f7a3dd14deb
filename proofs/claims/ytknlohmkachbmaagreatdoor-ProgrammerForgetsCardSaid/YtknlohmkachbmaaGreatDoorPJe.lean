/-
  
-/
import Derived.Test.YtknlohmkachbmaaGreatDoorPJc
import Derived.Test.YtknlohmkachbmaaGreatDoorPHo
import Derived.BigRegion
set_option linter.unusedVariables false
set_option linter.unusedSimpArgs false
set_option maxRecDepth 100000
set_option maxHeartbeats 8000000
namespace Lum
open Go Go.RowKit Go.Shelf
open Go.Lib (decDigits itoa)
section
variable {α:Type} {key:α → Int × Int}
def putStep (key:α → Int × Int) (h:α) (s:List α × Bool) (x:α):List α × Bool :=
  if key x = key h then (if !s.2 && !ltP (key x) (key h) then (s.1 ++ [h],true) else s) else ((if !s.2 && !ltP (key x) (key h) then (s.1 ++ [h],true) else s).1 ++ [x],(if !s.2 && !ltP (key x) (key h) then (s.1 ++ [h],true) else s).2)
def putF (key:α → Int × Int) (h:α) (l:List α):List α × Bool:=l.foldl (putStep key h) ([],false)
def putR (key:α → Int × Int) (h:α) (l:List α):List α:=if (putF key h l).2 = true then (putF key h l).1 else (putF key h l).1 ++ [h]
theorem putStep_done_ne {h x:α} {O:List α} (e:¬ key x = key h):putStep key h (O,true) x = (O ++ [x],true):=by unfold putStep;rw [if_neg e];rfl
theorem putStep_done_eq {h x:α} {O:List α} (e:key x = key h):putStep key h (O,true) x = (O,true):=by unfold putStep;rw [if_pos e];rfl
theorem putStep_lt {h x:α} {O:List α} (c:ltP (key x) (key h) = true):putStep key h (O,false) x = (O ++ [x],false):=by
  unfold putStep
  rw [if_neg (ltP_neq c),c];rfl
theorem putStep_ne {h x:α} {O:List α} (c:ltP (key x) (key h) = false) (e:¬ key x = key h):putStep key h (O,false) x = (O ++ [h] ++ [x],true):=by
  unfold putStep
  rw [if_neg e,c];rfl
theorem putStep_eq {h x:α} {O:List α} (e:key x = key h):putStep key h (O,false) x = (O ++ [h],true):=by
  unfold putStep
  rw [if_pos e,e,ltP_irr];rfl
theorem putF_take {h:α} {l:List α} {k:Nat} (hk:k < l.length):putF key h (l.take (k + 1)) = putStep key h (putF key h (l.take k)) (l[k]'hk):=by
  unfold putF;rw [List.take_succ_eq_append_getElem hk,List.foldl_append];rfl
theorem putF_len (h:α) (l:List α):(putF key h l).1.length ≤ l.length + (if (putF key h l).2 = true then 1 else 0):=by
  have g:∀ (l:List α) (s:List α × Bool),(l.foldl (putStep key h) s).1.length + (if s.2 = true then 1 else 0) ≤ s.1.length + l.length + (if (l.foldl (putStep key h) s).2 = true then 1 else 0):=by
    intro l
    induction l with
    | nil => intro s;rw [List.foldl_nil,List.length_nil];omega
    | cons x r ih =>
      intro s
      rw [List.foldl_cons,List.length_cons]
      have h1:=ih (putStep key h s x)
      have h2:(putStep key h s x).1.length + (if s.2 = true then 1 else 0) ≤ s.1.length + 1 + (if (putStep key h s x).2 = true then 1 else 0):=by
        obtain ⟨O,d⟩:=s
        cases d with
        | true =>
          by_cases e:key x = key h
          · rw [putStep_done_eq e];simp
          · rw [putStep_done_ne e];simp
        | false =>
          by_cases c:ltP (key x) (key h) = true
          · rw [putStep_lt c];simp
          · by_cases e:key x = key h
            · rw [putStep_eq e];simp
            · rw [putStep_ne (by simpa using c) e];simp
      omega
  have:=g l ([],false)
  unfold putF
  simpa using this
theorem putF_len1 (h:α) (l:List α):(putF key h l).1.length ≤ l.length + 1:=by
  have h1:=putF_len (key:=key) h l
  by_cases c:(putF key h l).2 = true
  · rw [if_pos c] at h1;exact h1
  · rw [if_neg c] at h1;omega
theorem putF_done:∀ {l:List α} {h:α} {O:List α},(∀ x ∈ l,ltP (key h) (key x) = true) → l.foldl (putStep key h) (O,true) = (O ++ l,true):=by
  intro l
  induction l with
  | nil => intro h O _;rw [List.append_nil];rfl
  | cons x r ih =>
    intro h O hl
    have h1:=hl x List.mem_cons_self
    rw [List.foldl_cons,putStep_done_ne (fun e => by rw [e,ltP_irr] at h1;cases h1),ih fun y hy => hl y (List.mem_cons_of_mem _ hy),List.append_assoc];rfl
theorem putR_go:∀ {l:List α} {h:α} {O:List α},AscK key l → (if (l.foldl (putStep key h) (O,false)).2 = true then (l.foldl (putStep key h) (O,false)).1 else (l.foldl (putStep key h) (O,false)).1 ++ [h]) = O ++ putK key l h:=by
  intro l
  induction l with
  | nil => intro h O _;rfl
  | cons x r ih =>
    intro h O hl
    obtain ⟨h1,h2⟩:=List.pairwise_cons.1 hl
    rw [List.foldl_cons,putK]
    by_cases c:ltP (key x) (key h) = true
    · rw [putStep_lt c,if_pos c,ih h2,List.append_assoc];rfl
    · rw [if_neg c]
      by_cases e:key x = key h
      · rw [putStep_eq e,if_pos e,putF_done (fun y hy => by rw [← e];exact h1 y hy)]
        rw [if_pos rfl,List.append_assoc];rfl
      · have c2:ltP (key x) (key h) = false:=by simpa using c
        have hlt:=ltP_ne c2 e
        rw [putStep_ne c2 e,if_neg e,putF_done (fun y hy => ltP_trans hlt (h1 y hy))]
        rw [if_pos rfl,List.append_assoc,List.append_assoc];rfl
theorem putR_putK {l:List α} {h:α} (hl:AscK key l):putR key h l = putK key l h:=by
  have:=putR_go (h:=h) (O:=[]) hl
  rw [List.nil_append] at this
  exact this
theorem putR_len (h:α) (l:List α):(putR key h l).length ≤ l.length + 1:=by
  have h1:=putF_len (key:=key) h l
  unfold putR
  by_cases c:(putF key h l).2 = true
  · rw [if_pos c] at h1 ⊢;omega
  · rw [if_neg c] at h1 ⊢;rw [List.length_append];simp;omega
def putsR (key:α → Int × Int) (l f:List α):List α:=f.foldl (fun o h => putR key h o) l
theorem putsR_putsK:∀ {f l:List α},AscK key l → putsR key l f = putsK key l f:=by
  intro f
  induction f with
  | nil => intro l _;rfl
  | cons x r ih =>
    intro l h
    show putsR key (putR key x l) r = putsK key (putK key l x) r
    rw [putR_putK h,ih (putK_asc h)]
theorem putsR_len:∀ (f l:List α),(putsR key l f).length ≤ l.length + f.length:=by
  intro f
  induction f with
  | nil => intro l;exact Nat.le_refl _
  | cons x r ih =>
    intro l
    have h1:=ih (putR key x l)
    have h2:=putR_len (key:=key) x l
    show (putsR key (putR key x l) r).length ≤ _
    rw [List.length_cons];omega
theorem putsR_snoc (l f:List α) (x:α):putsR key l (f ++ [x]) = putR key x (putsR key l f):=by unfold putsR;rw [List.foldl_append];rfl
end
def frsH (l:List Hnd) (t ti:Int) (e:Ent) (a:Amt):Hnd:=⟨e.ch,e.at_,if finB l e.ky = true then a.le else itoa (near (valR a.le)),e.pa,e.lv,t,ti⟩
def frsL (l:List Hnd) (t ti:Int) (es:List Ent) (now:List Amt):List Hnd:=List.zipWith (frsH l t ti) es now
theorem frsL_len {l:List Hnd} {t ti:Int} {es:List Ent} {now:List Amt} (h:now.length = es.length):(frsL l t ti es now).length = es.length:=by unfold frsL;rw [List.length_zipWith];omega
theorem frsL_at {l:List Hnd} {t ti:Int} {es:List Ent} {now:List Amt} {k:Nat} (h1:k < es.length) (h2:k < now.length):(frsL l t ti es now)[k]'(by unfold frsL;rw [List.length_zipWith];omega) = frsH l t ti (es[k]'h1) (now[k]'h2):=by unfold frsL;rw [List.getElem_zipWith]
theorem frsL_take {l:List Hnd} {t ti:Int} {es:List Ent} {now:List Amt} {k:Nat} (h1:k < es.length) (h2:k < now.length):(frsL l t ti es now).take (k + 1) = (frsL l t ti es now).take k ++ [frsH l t ti (es[k]'h1) (now[k]'h2)]:=by
  rw [List.take_succ_eq_append_getElem (by unfold frsL;rw [List.length_zipWith];omega),frsL_at h1 h2]
theorem frsL_asc {l:List Hnd} {t ti:Int}:∀ {es:List Ent} {now:List Amt},AscK Ent.ky es → AscK Hnd.ky (frsL l t ti es now):=by
  intro es now h
  refine List.pairwise_iff_getElem.2 fun i j hi hj hij => ?_
  have hl:(frsL l t ti es now).length = min es.length now.length:=by unfold frsL;rw [List.length_zipWith]
  have h1:=h.lt (i:=i) (j:=j) (by omega) hij
  rw [frsL_at (by omega) (by omega),frsL_at (by omega) (by omega)]
  exact h1
def entsE (es:List Ent):Int:=ordP 4096 entE Ent.ky es
def askE (l:List Hnd) (t:Int) (es:List Ent) (ti:Int) (now:List Amt):Int:=if hnsE l ≠ 0 then hnsE l else if entsE es ≠ 0 then entsE es else if ¬ timB t ti then 2 else fitE es now
def setL (l:List Hnd) (t:Int) (es:List Ent) (ti:Int) (now:List Amt):List Hnd:=putsK Hnd.ky l (frsL l t ti es now)
def setE (l:List Hnd) (t:Int) (es:List Ent) (ti:Int) (now:List Amt):Int:=if askE l t es ti now ≠ 0 then askE l t es ti now else if 256 < (setL l t es ti now).length then 5 else 0
def setO (l:List Hnd) (t:Int) (es:List Ent) (ti:Int) (now:List Amt):List Hnd:=if setE l t es ti now = 0 then setL l t es ti now else []
theorem askE_h {l:List Hnd} {t:Int} {es:List Ent} {ti:Int} {now:List Amt} (h:¬ hnsE l = 0):askE l t es ti now = hnsE l:=by unfold askE;rw [if_pos h]
theorem askE_e {l:List Hnd} {t:Int} {es:List Ent} {ti:Int} {now:List Amt} (h:hnsE l = 0) (h2:¬ entsE es = 0):askE l t es ti now = entsE es:=by unfold askE;rw [if_neg (by simpa using h),if_pos h2]
theorem askE_t {l:List Hnd} {t:Int} {es:List Ent} {ti:Int} {now:List Amt} (h:hnsE l = 0) (h2:entsE es = 0) (h3:¬ timB t ti):askE l t es ti now = 2:=by unfold askE;rw [if_neg (by simpa using h),if_neg (by simpa using h2),if_pos h3]
theorem askE_f {l:List Hnd} {t:Int} {es:List Ent} {ti:Int} {now:List Amt} (h:hnsE l = 0) (h2:entsE es = 0) (h3:timB t ti):askE l t es ti now = fitE es now:=by unfold askE;rw [if_neg (by simpa using h),if_neg (by simpa using h2),if_neg (fun g => g h3)]
theorem askE_zero {l:List Hnd} {t:Int} {es:List Ent} {ti:Int} {now:List Amt} (h:askE l t es ti now = 0):hnsE l = 0 ∧ entsE es = 0 ∧ timB t ti ∧ fitE es now = 0:=by
  by_cases h1:hnsE l = 0
  · by_cases h2:entsE es = 0
    · by_cases h3:timB t ti
      · rw [askE_f h1 h2 h3] at h;exact ⟨h1,h2,h3,h⟩
      · rw [askE_t h1 h2 h3] at h;cases h
    · rw [askE_e h1 h2] at h;exact absurd h h2
  · rw [askE_h h1] at h;exact absurd h h1
theorem setE_ask {l:List Hnd} {t:Int} {es:List Ent} {ti:Int} {now:List Amt} (h:¬ askE l t es ti now = 0):setE l t es ti now = askE l t es ti now:=by unfold setE;rw [if_pos h]
theorem setE_many {l:List Hnd} {t:Int} {es:List Ent} {ti:Int} {now:List Amt} (h:askE l t es ti now = 0) (h2:256 < (setL l t es ti now).length):setE l t es ti now = 5:=by unfold setE;rw [if_neg (by simpa using h),if_pos h2]
theorem setE_ok {l:List Hnd} {t:Int} {es:List Ent} {ti:Int} {now:List Amt} (h:askE l t es ti now = 0) (h2:¬ 256 < (setL l t es ti now).length):setE l t es ti now = 0:=by unfold setE;rw [if_neg (by simpa using h),if_neg h2]
def SetP (o:List Hnd) (n:Int) (w:World) (e:Ending) (w':World):Prop:=∃ v',e = .returned (.tuple #[v',.int .i64 n]) ∧ HndsAt w' v' o ∧ Below w.heap.size w w'
theorem SetP.nil {n:Int} {w w':World} {e:Ending} (he:e = .returned (.tuple #[.slice none 0 0,.int .i64 n])) (h:Below w.heap.size w w'):SetP [] n w e w':=⟨_,he,⟨none,0,rfl,fun h => absurd rfl h⟩,h⟩
theorem fitL_zero:∀ {es:List Ent} {now:List Amt},fitL es now = 0 → now.length = es.length → ∀ k (h1:k < es.length) (h2:k < now.length),(now[k]'h2).ky = (es[k]'h1).ky ∧ levE (now[k]'h2).le = 0:=by
  intro es
  induction es with
  | nil => intro now _ _ k h1;exact absurd h1 (Nat.not_lt_zero _)
  | cons e r ih =>
    intro now h hl k h1 h2
    cases now with
    | nil => exact absurd h2 (Nat.not_lt_zero _)
    | cons a s =>
      unfold fitL at h
      by_cases c:a.ky = e.ky
      · rw [if_pos c] at h
        by_cases d:levE a.le = 0
        · rw [if_pos d] at h
          cases k with
          | zero => exact ⟨c,d⟩
          | succ k => exact ih h (by simpa using hl) k (by simpa using h1) (by simpa using h2)
        · rw [if_neg d] at h;exact absurd h d
      · rw [if_neg c] at h;cases h
theorem fitE_zero {es:List Ent} {now:List Amt} (h:fitE es now = 0):now.length = es.length ∧ ∀ k (h1:k < es.length) (h2:k < now.length),(now[k]'h2).ky = (es[k]'h1).ky ∧ levE (now[k]'h2).le = 0:=by
  unfold fitE at h
  by_cases hl:now.length = es.length
  · rw [if_pos hl] at h;exact ⟨hl,fitL_zero h hl⟩
  · rw [if_neg hl] at h;cases h
end Lum
namespace Go.Proofs.YtknlohmkachbmaaGreatDoor
open Go.RowKit Go.Shelf Lum
open Go.Lib (decDigits itoa)
attribute [local go_sem] bs_get bs_extract_end bs_extract_from bs_extract bs_append
theorem r29_put (h : Hnd) (l : List Hnd) (v : Value) (w : World) (hv : HndsAt w v l) (hn : l.length ≤ 1000000) :
    Calls Tryz.prog 128 #[v,.agg #[.int .i64 (h.ch),.int .i64 (h.at_),.string ⟨h.fr.toArray⟩,.int .i64 (h.pa),.int .i64 (h.lv),.int .i64 (h.st),.int .i64 (h.ti)]] w fun e w' => ∃ pp cc,e = .returned (.slice pp (putR Hnd.ky h l).length cc) ∧ OwnR encHd 7 w.heap.size 28 w' pp cc (putR Hnd.ky h l) ∧ Below w.heap.size w w':=by
  have hal:=(Below.refl w.heap.size w).alloc (Nat.le_refl _) (.cells #[.int .i64 (h.ch),.int .i64 (h.at_),.string ⟨h.fr.toArray⟩,.int .i64 (h.pa),.int .i64 (h.lv),.int .i64 (h.st),.int .i64 (h.ti)] 28)
  have HB0:=Lib.hid hal;clear hal
  have HK1:=Lib.hid (Blk.new w 28 #[.int .i64 (h.ch),.int .i64 (h.at_),.string ⟨h.fr.toArray⟩,.int .i64 (h.pa),.int .i64 (h.lv),.int .i64 (h.st),.int .i64 (h.ti)])
  have HK:=HK1
  obtain ⟨k0,k1,k2,k3,k4,k5,k6,kf0,kf1,kf2,kf3,kf4,kf5,kf6⟩:=HK.out.c7
  obtain ⟨p,c,rfl,hR⟩:=hv
  have hv2:=Lib.hid hR;have HFEW:=Lib.hid hn;clear hR hn
  obtain ⟨i0,hi,hz0,hz1,hz2⟩:=info_parts info_hd
  go_enter Tryz.func128,Tryz.ntmps128
  go_upto_region 1 with fail
  generalize w.alloc (.cells #[.int .i64 (h.ch),.int .i64 (h.at_),.string ⟨h.fr.toArray⟩,.int .i64 (h.pa),.int .i64 (h.lv),.int .i64 (h.st),.int .i64 (h.ti)] 28) = w3 at *
  have HB:=Lib.hid (Below.refl w3.heap.size w3)
  go_wp2_with fail
  go_loopw [5,6,7] (fun s db j wr => ∃ (k n:Nat) (pp:Option Addr) (cc:Nat) (O:List Hnd) (d:Bool),s = .slice pp n cc ∧ db = .bool d ∧ j = .int .i64 (k:Int) ∧ k ≤ l.length ∧ Hid (putF Hnd.ky h (l.take k) = (O,d)) ∧ Hid (n = O.length) ∧ Hid (O.length ≤ k + 1) ∧ Hid (Below w3.heap.size w3 wr) ∧ Hid (OwnR encHd 7 w3.heap.size 28 wr pp cc O)) (fun _ _ j _ => l.length - (intOf j).toNat)
  case atStart => exact ⟨0,0,none,0,[],false,rfl,rfl,rfl,Nat.zero_le _,Lib.hid rfl,Lib.hid rfl,Lib.hid (Nat.zero_le _),HB,Lib.hid (OwnR.nil _ _ _)⟩
  case round =>
    obtain ⟨k,n,pp,cc,O,d,rfl,rfl,rfl,hk9,HS,HN,HLO,HB2,HO⟩:=hrel
    clear HB
    have HB:=HB2;clear HB2
    clear k0 k1 k2 k3 k4 k5 k6 kf0 kf1 kf2 kf3 kf4 kf5 kf6
    clear HK
    have HK:=Lib.hid (HK1.out.keep HB.out)
    have HBW:Hid (Below w.heap.size w wr):=Lib.hid (bch' HB0.out HB.out)
    obtain ⟨k0,k1,k2,k3,k4,k5,k6,kf0,kf1,kf2,kf3,kf4,kf5,kf6⟩:=HK.out.c7
    by_cases hkl:k < l.length
    · have hlt:(k:Int) < (l.length:Int):=by omega
      have hk0:(0:Int) ≤ (k:Int):=by omega
      have hlo:k * 7 < 9223372036854775807:=by have:=HFEW.out;omega
      have hun:IntKind.i64.wrap ((k:Int) + 1) = (k:Int) + 1:=IntWalk.i64_in _ (by have:=HFEW.out;omega)
      obtain ⟨b,o,rfl,hb,hC⟩:=hv2.out (fun h => by subst h;exact absurd hkl (Nat.not_lt_zero _))
      obtain ⟨x,hx⟩:∃ x,x = l[k]'hkl:=⟨_,rfl⟩
      have hcell:=hC k hkl
      rw [← hx] at hcell
      have HCE:=Lib.hid hcell;have HX:=Lib.hid hx;clear hcell hx hC
      have y0:wr.cell? ⟨b,o + k * 7,none⟩ = some (.int .i64 (x.ch)):=(HBW.out.cell (p:=⟨b,o + k * 7 + 0,none⟩) hb).trans (HCE.out 0 _ rfl)
      have y1:wr.cell? ⟨b,o + k * 7 + 1,none⟩ = some (.int .i64 (x.at_)):=(HBW.out.cell (p:=⟨b,o + k * 7 + 1,none⟩) hb).trans (HCE.out 1 _ rfl)
      have y2:wr.cell? ⟨b,o + k * 7 + 2,none⟩ = some (.string ⟨x.fr.toArray⟩):=(HBW.out.cell (p:=⟨b,o + k * 7 + 2,none⟩) hb).trans (HCE.out 2 _ rfl)
      have y3:wr.cell? ⟨b,o + k * 7 + 3,none⟩ = some (.int .i64 (x.pa)):=(HBW.out.cell (p:=⟨b,o + k * 7 + 3,none⟩) hb).trans (HCE.out 3 _ rfl)
      have y4:wr.cell? ⟨b,o + k * 7 + 4,none⟩ = some (.int .i64 (x.lv)):=(HBW.out.cell (p:=⟨b,o + k * 7 + 4,none⟩) hb).trans (HCE.out 4 _ rfl)
      have y5:wr.cell? ⟨b,o + k * 7 + 5,none⟩ = some (.int .i64 (x.st)):=(HBW.out.cell (p:=⟨b,o + k * 7 + 5,none⟩) hb).trans (HCE.out 5 _ rfl)
      have y6:wr.cell? ⟨b,o + k * 7 + 6,none⟩ = some (.int .i64 (x.ti)):=(HBW.out.cell (p:=⟨b,o + k * 7 + 6,none⟩) hb).trans (HCE.out 6 _ rfl)
      have hbr:b < wr.heap.size:=by have:=HBW.out.size;omega
      cases d with
      | true =>
        by_cases heq_:x.ky = h.ky
        · have hneqr:=fun W => neq_par W x.ch x.at_ h.ch h.at_
          have hbb:((x.ch == h.ch) && (x.at_ == h.at_)) = true:=by have e:=heq_;rw [Hnd.ky,Hnd.ky,Prod.mk.injEq] at e;simp [e.1,e.2]
          rw [hbb] at hneqr
          (try simp only [Bool.not_true,Bool.not_false] at hneqr)
          have HNE:=Lib.hid hneqr
          clear hneqr hbb
          have HT:Hid (putF Hnd.ky h (l.take (k + 1)) = (O,true)):=Lib.hid (by rw [putF_take hkl,HS.out,← HX.out];exact putStep_done_eq heq_)
          clear heq_
          go_upto_region 6 with fail
          refine wp_region_WQ (by kernel_rfl) (by kernel_rfl) ?_
          repeat (refine WQ.step (fun K hK => ?_);go_simp;first | (refine hK.out _ ?_;clear hK K) | (apply Exists.intro;refine ⟨fun _ => ?_,hK.out _ ?_⟩;(first | rfl);clear hK K))
          refine WQ.nil ?_
          intro Wq hw'
          obtain ⟨⟨wq,hbq⟩,hw2⟩:=hw'
          subst hw2
          replace HO:=Lib.hid (HO.out.keep hbq)
          replace HB:=Lib.hid (bch' HB.out hbq)
          clear k0 k1 k2 k3 k4 k5 k6 kf0 kf1 kf2 kf3 kf4 kf5 kf6
          clear HK HBW
          clear y0 y1 y2 y3 y4 y5 y6 hbr
          have HK:=Lib.hid (HK1.out.keep HB.out)
          have HBW:Hid (Below w.heap.size w Wq):=Lib.hid (bch' HB0.out HB.out)
          obtain ⟨k0,k1,k2,k3,k4,k5,k6,kf0,kf1,kf2,kf3,kf4,kf5,kf6⟩:=HK.out.c7
          have y0:Wq.cell? ⟨b,o + k * 7,none⟩ = some (.int .i64 (x.ch)):=(HBW.out.cell (p:=⟨b,o + k * 7 + 0,none⟩) hb).trans (HCE.out 0 _ rfl)
          have y1:Wq.cell? ⟨b,o + k * 7 + 1,none⟩ = some (.int .i64 (x.at_)):=(HBW.out.cell (p:=⟨b,o + k * 7 + 1,none⟩) hb).trans (HCE.out 1 _ rfl)
          have y2:Wq.cell? ⟨b,o + k * 7 + 2,none⟩ = some (.string ⟨x.fr.toArray⟩):=(HBW.out.cell (p:=⟨b,o + k * 7 + 2,none⟩) hb).trans (HCE.out 2 _ rfl)
          have y3:Wq.cell? ⟨b,o + k * 7 + 3,none⟩ = some (.int .i64 (x.pa)):=(HBW.out.cell (p:=⟨b,o + k * 7 + 3,none⟩) hb).trans (HCE.out 3 _ rfl)
          have y4:Wq.cell? ⟨b,o + k * 7 + 4,none⟩ = some (.int .i64 (x.lv)):=(HBW.out.cell (p:=⟨b,o + k * 7 + 4,none⟩) hb).trans (HCE.out 4 _ rfl)
          have y5:Wq.cell? ⟨b,o + k * 7 + 5,none⟩ = some (.int .i64 (x.st)):=(HBW.out.cell (p:=⟨b,o + k * 7 + 5,none⟩) hb).trans (HCE.out 5 _ rfl)
          have y6:Wq.cell? ⟨b,o + k * 7 + 6,none⟩ = some (.int .i64 (x.ti)):=(HBW.out.cell (p:=⟨b,o + k * 7 + 6,none⟩) hb).trans (HCE.out 6 _ rfl)
          have hbr:b < Wq.heap.size:=by have:=HBW.out.size;omega
          go_upto_region 9 with fail
          have hneqr:=HNE.out
          have f0:=fun p:BelowOf _ => (HK.out.keep p.h).c7.1
          have f1:=fun p:BelowOf _ => (HK.out.keep p.h).c7.2.1
          have g0:=fun p:BelowOf _ => BelowOf.cell hbr y0 p
          have g1:=fun p:BelowOf _ => BelowOf.cell hbr y1 p
          have e0:=fun p:BelowOf _ => Nat.lt_of_lt_of_le hbr p.h.size
          refine wp_region_WQ (by kernel_rfl) (by kernel_rfl) ?_
          repeat (refine WQ.step (fun K hK => ?_);go_simp;first | (refine hK.out _ ?_;clear hK K) | (apply Exists.intro;refine ⟨fun _ => ?_,hK.out _ ?_⟩;(first | rfl);clear hK K))
          refine WQ.nil ?_
          intro Wr hw'
          obtain ⟨⟨wr,hbr⟩,hw2⟩:=hw'
          subst hw2
          replace HO:=Lib.hid (HO.out.keep hbr)
          replace HB:=Lib.hid (bch' HB.out hbr)
          clear f0 f1 g0 g1 e0
          clear hneqr
          clear k0 k1 k2 k3 k4 k5 k6 kf0 kf1 kf2 kf3 kf4 kf5 kf6
          clear HK HBW
          clear y0 y1 y2 y3 y4 y5 y6 hbr
          have HK:=Lib.hid (HK1.out.keep HB.out)
          have HBW:Hid (Below w.heap.size w Wr):=Lib.hid (bch' HB0.out HB.out)
          obtain ⟨k0,k1,k2,k3,k4,k5,k6,kf0,kf1,kf2,kf3,kf4,kf5,kf6⟩:=HK.out.c7
          have y0:Wr.cell? ⟨b,o + k * 7,none⟩ = some (.int .i64 (x.ch)):=(HBW.out.cell (p:=⟨b,o + k * 7 + 0,none⟩) hb).trans (HCE.out 0 _ rfl)
          have y1:Wr.cell? ⟨b,o + k * 7 + 1,none⟩ = some (.int .i64 (x.at_)):=(HBW.out.cell (p:=⟨b,o + k * 7 + 1,none⟩) hb).trans (HCE.out 1 _ rfl)
          have y2:Wr.cell? ⟨b,o + k * 7 + 2,none⟩ = some (.string ⟨x.fr.toArray⟩):=(HBW.out.cell (p:=⟨b,o + k * 7 + 2,none⟩) hb).trans (HCE.out 2 _ rfl)
          have y3:Wr.cell? ⟨b,o + k * 7 + 3,none⟩ = some (.int .i64 (x.pa)):=(HBW.out.cell (p:=⟨b,o + k * 7 + 3,none⟩) hb).trans (HCE.out 3 _ rfl)
          have y4:Wr.cell? ⟨b,o + k * 7 + 4,none⟩ = some (.int .i64 (x.lv)):=(HBW.out.cell (p:=⟨b,o + k * 7 + 4,none⟩) hb).trans (HCE.out 4 _ rfl)
          have y5:Wr.cell? ⟨b,o + k * 7 + 5,none⟩ = some (.int .i64 (x.st)):=(HBW.out.cell (p:=⟨b,o + k * 7 + 5,none⟩) hb).trans (HCE.out 5 _ rfl)
          have y6:Wr.cell? ⟨b,o + k * 7 + 6,none⟩ = some (.int .i64 (x.ti)):=(HBW.out.cell (p:=⟨b,o + k * 7 + 6,none⟩) hb).trans (HCE.out 6 _ rfl)
          have hbr:b < Wr.heap.size:=by have:=HBW.out.size;omega
          go_wp2_with fail
          go_roundw
          case rel => exact ⟨k + 1,n,pp,cc,O,true,by first | rfl | simp,by first | rfl | simp,by first | rfl | simp,by omega,HT,Lib.hid (by have h9:=HN.out;(try simp only [List.length_append,List.length_cons,List.length_nil] at h9 ⊢);omega),Lib.hid (by have h9:=putF_len1 (key:=Hnd.ky) h (l.take (k + 1));rw [HT.out,List.length_take] at h9;have h8:O.length ≤ min (k + 1) l.length + 1:=h9;omega),HB,HO⟩
          case measure => first | (simp [intOf];done) | (simp [intOf];omega)
        · have hneqr:=fun W => neq_par W x.ch x.at_ h.ch h.at_
          have hbb:((x.ch == h.ch) && (x.at_ == h.at_)) = false:=by rw [Bool.eq_false_iff];intro e;rw [Bool.and_eq_true,beq_iff_eq,beq_iff_eq] at e;exact heq_ (Prod.ext e.1 e.2)
          rw [hbb] at hneqr
          (try simp only [Bool.not_true,Bool.not_false] at hneqr)
          have HNE:=Lib.hid hneqr
          clear hneqr hbb
          have HT:Hid (putF Hnd.ky h (l.take (k + 1)) = ((O ++ [x]),true)):=Lib.hid (by rw [putF_take hkl,HS.out,← HX.out];exact putStep_done_ne heq_)
          clear heq_
          go_upto_region 6 with fail
          refine wp_region_WQ (by kernel_rfl) (by kernel_rfl) ?_
          repeat (refine WQ.step (fun K hK => ?_);go_simp;first | (refine hK.out _ ?_;clear hK K) | (apply Exists.intro;refine ⟨fun _ => ?_,hK.out _ ?_⟩;(first | rfl);clear hK K))
          refine WQ.nil ?_
          intro Wq hw'
          obtain ⟨⟨wq,hbq⟩,hw2⟩:=hw'
          subst hw2
          replace HO:=Lib.hid (HO.out.keep hbq)
          replace HB:=Lib.hid (bch' HB.out hbq)
          clear k0 k1 k2 k3 k4 k5 k6 kf0 kf1 kf2 kf3 kf4 kf5 kf6
          clear HK HBW
          clear y0 y1 y2 y3 y4 y5 y6 hbr
          have HK:=Lib.hid (HK1.out.keep HB.out)
          have HBW:Hid (Below w.heap.size w Wq):=Lib.hid (bch' HB0.out HB.out)
          obtain ⟨k0,k1,k2,k3,k4,k5,k6,kf0,kf1,kf2,kf3,kf4,kf5,kf6⟩:=HK.out.c7
          have y0:Wq.cell? ⟨b,o + k * 7,none⟩ = some (.int .i64 (x.ch)):=(HBW.out.cell (p:=⟨b,o + k * 7 + 0,none⟩) hb).trans (HCE.out 0 _ rfl)
          have y1:Wq.cell? ⟨b,o + k * 7 + 1,none⟩ = some (.int .i64 (x.at_)):=(HBW.out.cell (p:=⟨b,o + k * 7 + 1,none⟩) hb).trans (HCE.out 1 _ rfl)
          have y2:Wq.cell? ⟨b,o + k * 7 + 2,none⟩ = some (.string ⟨x.fr.toArray⟩):=(HBW.out.cell (p:=⟨b,o + k * 7 + 2,none⟩) hb).trans (HCE.out 2 _ rfl)
          have y3:Wq.cell? ⟨b,o + k * 7 + 3,none⟩ = some (.int .i64 (x.pa)):=(HBW.out.cell (p:=⟨b,o + k * 7 + 3,none⟩) hb).trans (HCE.out 3 _ rfl)
          have y4:Wq.cell? ⟨b,o + k * 7 + 4,none⟩ = some (.int .i64 (x.lv)):=(HBW.out.cell (p:=⟨b,o + k * 7 + 4,none⟩) hb).trans (HCE.out 4 _ rfl)
          have y5:Wq.cell? ⟨b,o + k * 7 + 5,none⟩ = some (.int .i64 (x.st)):=(HBW.out.cell (p:=⟨b,o + k * 7 + 5,none⟩) hb).trans (HCE.out 5 _ rfl)
          have y6:Wq.cell? ⟨b,o + k * 7 + 6,none⟩ = some (.int .i64 (x.ti)):=(HBW.out.cell (p:=⟨b,o + k * 7 + 6,none⟩) hb).trans (HCE.out 6 _ rfl)
          have hbr:b < Wq.heap.size:=by have:=HBW.out.size;omega
          go_upto_region 9 with fail
          have hneqr:=HNE.out
          have f0:=fun p:BelowOf _ => (HK.out.keep p.h).c7.1
          have f1:=fun p:BelowOf _ => (HK.out.keep p.h).c7.2.1
          have g0:=fun p:BelowOf _ => BelowOf.cell hbr y0 p
          have g1:=fun p:BelowOf _ => BelowOf.cell hbr y1 p
          have e0:=fun p:BelowOf _ => Nat.lt_of_lt_of_le hbr p.h.size
          refine wp_region_WQ (by kernel_rfl) (by kernel_rfl) ?_
          repeat (refine WQ.step (fun K hK => ?_);go_simp;first | (refine hK.out _ ?_;clear hK K) | (apply Exists.intro;refine ⟨fun _ => ?_,hK.out _ ?_⟩;(first | rfl);clear hK K))
          refine WQ.nil ?_
          intro Wr hw'
          obtain ⟨⟨wr,hbr⟩,hw2⟩:=hw'
          subst hw2
          replace HO:=Lib.hid (HO.out.keep hbr)
          replace HB:=Lib.hid (bch' HB.out hbr)
          clear f0 f1 g0 g1 e0
          clear hneqr
          clear k0 k1 k2 k3 k4 k5 k6 kf0 kf1 kf2 kf3 kf4 kf5 kf6
          clear HK HBW
          clear y0 y1 y2 y3 y4 y5 y6 hbr
          have HK:=Lib.hid (HK1.out.keep HB.out)
          have HBW:Hid (Below w.heap.size w Wr):=Lib.hid (bch' HB0.out HB.out)
          obtain ⟨k0,k1,k2,k3,k4,k5,k6,kf0,kf1,kf2,kf3,kf4,kf5,kf6⟩:=HK.out.c7
          have y0:Wr.cell? ⟨b,o + k * 7,none⟩ = some (.int .i64 (x.ch)):=(HBW.out.cell (p:=⟨b,o + k * 7 + 0,none⟩) hb).trans (HCE.out 0 _ rfl)
          have y1:Wr.cell? ⟨b,o + k * 7 + 1,none⟩ = some (.int .i64 (x.at_)):=(HBW.out.cell (p:=⟨b,o + k * 7 + 1,none⟩) hb).trans (HCE.out 1 _ rfl)
          have y2:Wr.cell? ⟨b,o + k * 7 + 2,none⟩ = some (.string ⟨x.fr.toArray⟩):=(HBW.out.cell (p:=⟨b,o + k * 7 + 2,none⟩) hb).trans (HCE.out 2 _ rfl)
          have y3:Wr.cell? ⟨b,o + k * 7 + 3,none⟩ = some (.int .i64 (x.pa)):=(HBW.out.cell (p:=⟨b,o + k * 7 + 3,none⟩) hb).trans (HCE.out 3 _ rfl)
          have y4:Wr.cell? ⟨b,o + k * 7 + 4,none⟩ = some (.int .i64 (x.lv)):=(HBW.out.cell (p:=⟨b,o + k * 7 + 4,none⟩) hb).trans (HCE.out 4 _ rfl)
          have y5:Wr.cell? ⟨b,o + k * 7 + 5,none⟩ = some (.int .i64 (x.st)):=(HBW.out.cell (p:=⟨b,o + k * 7 + 5,none⟩) hb).trans (HCE.out 5 _ rfl)
          have y6:Wr.cell? ⟨b,o + k * 7 + 6,none⟩ = some (.int .i64 (x.ti)):=(HBW.out.cell (p:=⟨b,o + k * 7 + 6,none⟩) hb).trans (HCE.out 6 _ rfl)
          have hbr:b < Wr.heap.size:=by have:=HBW.out.size;omega
          go_wp2_with (first | (at_builtin;refine wpList_appR3 rfl (.tmp 39) (.tmp 44) 30 rfl w3.heap.size 28 i0 (.agg #[.int .i64 0,.int .i64 0,.string ⟨#[]⟩,.int .i64 0,.int .i64 0,.int .i64 0,.int .i64 0]) 64 Tryz.underlying30 hi hz0 hz1 hz2 rfl (by decide) (by decide) pp cc n (O) (HN.out) _ (x) Wr.heap.size (encHd_len _) (fun j u hu => cellN _ 28 hu) (encHd_one _) rfl (HO.out.keep ((Below.refl _ Wr).alloc (Nat.le_refl _) _)) rfl (by have:=HLO.out;have:=HFEW.out;omega) (by have:=HB.out.size;rw [World.size_alloc];omega) ?_;intro p2 c2 w5 hO3 hb3 _;have HO4:=Lib.hid hO3;have HB4:=Lib.hid (HB.out.trans (((Below.refl _ Wr).alloc (by have:=HB.out.size;omega) _).trans hb3));clear hO3 hb3))
          have HO:=HO4;clear HO4
          clear HB
          have HB:=HB4;clear HB4
          go_roundw
          case rel => exact ⟨k + 1,n + 1,p2,c2,(O ++ [x]),true,by first | rfl | simp,by first | rfl | simp,by first | rfl | simp,by omega,HT,Lib.hid (by have h9:=HN.out;(try simp only [List.length_append,List.length_cons,List.length_nil] at h9 ⊢);omega),Lib.hid (by have h9:=putF_len1 (key:=Hnd.ky) h (l.take (k + 1));rw [HT.out,List.length_take] at h9;have h8:(O ++ [x]).length ≤ min (k + 1) l.length + 1:=h9;omega),HB,HO⟩
          case measure => first | (simp [intOf];done) | (simp [intOf];omega)
      | false =>
        cases hlt_:ltP x.ky h.ky with
        | true =>
          have heq_:¬ x.ky = h.ky:=ltP_neq hlt_
          have hbf:=fun W => r15_before x.ch x.at_ h.ch h.at_ W
          rw [show ltP (x.ch,x.at_) (h.ch,h.at_) = true from hlt_] at hbf
          have HBF:=Lib.hid hbf;clear hbf
          have hneqr:=fun W => neq_par W x.ch x.at_ h.ch h.at_
          have hbb:((x.ch == h.ch) && (x.at_ == h.at_)) = false:=by rw [Bool.eq_false_iff];intro e;rw [Bool.and_eq_true,beq_iff_eq,beq_iff_eq] at e;exact heq_ (Prod.ext e.1 e.2)
          rw [hbb] at hneqr
          (try simp only [Bool.not_true,Bool.not_false] at hneqr)
          have HNE:=Lib.hid hneqr
          clear hneqr hbb
          have HT:Hid (putF Hnd.ky h (l.take (k + 1)) = ((O ++ [x]),false)):=Lib.hid (by rw [putF_take hkl,HS.out,← HX.out];exact putStep_lt hlt_)
          clear heq_ hlt_
          go_upto_region 6 with fail
          have f0:=fun p:BelowOf _ => (HK.out.keep p.h).c7.1
          have f1:=fun p:BelowOf _ => (HK.out.keep p.h).c7.2.1
          have g0:=fun p:BelowOf _ => BelowOf.cell hbr y0 p
          have g1:=fun p:BelowOf _ => BelowOf.cell hbr y1 p
          have e0:=fun p:BelowOf _ => Nat.lt_of_lt_of_le hbr p.h.size
          refine wp_region_WQ (by kernel_rfl) (by kernel_rfl) ?_
          repeat (refine WQ.step (fun K hK => ?_);go_simp;first | (refine hK.out _ ?_;clear hK K) | (apply Exists.intro;refine ⟨fun _ => ?_,hK.out _ ?_⟩;(first | rfl | (go_at_call 50;exact calls_below_of _ (HBF.out _)));clear hK K))
          refine WQ.nil ?_
          intro Wq hw'
          obtain ⟨⟨wq,hbq⟩,hw2⟩:=hw'
          subst hw2
          replace HO:=Lib.hid (HO.out.keep hbq)
          replace HB:=Lib.hid (bch' HB.out hbq)
          clear f0 f1 g0 g1 e0
          clear k0 k1 k2 k3 k4 k5 k6 kf0 kf1 kf2 kf3 kf4 kf5 kf6
          clear HK HBW
          clear y0 y1 y2 y3 y4 y5 y6 hbr
          have HK:=Lib.hid (HK1.out.keep HB.out)
          have HBW:Hid (Below w.heap.size w Wq):=Lib.hid (bch' HB0.out HB.out)
          obtain ⟨k0,k1,k2,k3,k4,k5,k6,kf0,kf1,kf2,kf3,kf4,kf5,kf6⟩:=HK.out.c7
          have y0:Wq.cell? ⟨b,o + k * 7,none⟩ = some (.int .i64 (x.ch)):=(HBW.out.cell (p:=⟨b,o + k * 7 + 0,none⟩) hb).trans (HCE.out 0 _ rfl)
          have y1:Wq.cell? ⟨b,o + k * 7 + 1,none⟩ = some (.int .i64 (x.at_)):=(HBW.out.cell (p:=⟨b,o + k * 7 + 1,none⟩) hb).trans (HCE.out 1 _ rfl)
          have y2:Wq.cell? ⟨b,o + k * 7 + 2,none⟩ = some (.string ⟨x.fr.toArray⟩):=(HBW.out.cell (p:=⟨b,o + k * 7 + 2,none⟩) hb).trans (HCE.out 2 _ rfl)
          have y3:Wq.cell? ⟨b,o + k * 7 + 3,none⟩ = some (.int .i64 (x.pa)):=(HBW.out.cell (p:=⟨b,o + k * 7 + 3,none⟩) hb).trans (HCE.out 3 _ rfl)
          have y4:Wq.cell? ⟨b,o + k * 7 + 4,none⟩ = some (.int .i64 (x.lv)):=(HBW.out.cell (p:=⟨b,o + k * 7 + 4,none⟩) hb).trans (HCE.out 4 _ rfl)
          have y5:Wq.cell? ⟨b,o + k * 7 + 5,none⟩ = some (.int .i64 (x.st)):=(HBW.out.cell (p:=⟨b,o + k * 7 + 5,none⟩) hb).trans (HCE.out 5 _ rfl)
          have y6:Wq.cell? ⟨b,o + k * 7 + 6,none⟩ = some (.int .i64 (x.ti)):=(HBW.out.cell (p:=⟨b,o + k * 7 + 6,none⟩) hb).trans (HCE.out 6 _ rfl)
          have hbr:b < Wq.heap.size:=by have:=HBW.out.size;omega
          go_upto_region 9 with fail
          have hneqr:=HNE.out
          have f0:=fun p:BelowOf _ => (HK.out.keep p.h).c7.1
          have f1:=fun p:BelowOf _ => (HK.out.keep p.h).c7.2.1
          have g0:=fun p:BelowOf _ => BelowOf.cell hbr y0 p
          have g1:=fun p:BelowOf _ => BelowOf.cell hbr y1 p
          have e0:=fun p:BelowOf _ => Nat.lt_of_lt_of_le hbr p.h.size
          refine wp_region_WQ (by kernel_rfl) (by kernel_rfl) ?_
          repeat (refine WQ.step (fun K hK => ?_);go_simp;first | (refine hK.out _ ?_;clear hK K) | (apply Exists.intro;refine ⟨fun _ => ?_,hK.out _ ?_⟩;(first | rfl);clear hK K))
          refine WQ.nil ?_
          intro Wr hw'
          obtain ⟨⟨wr,hbr⟩,hw2⟩:=hw'
          subst hw2
          replace HO:=Lib.hid (HO.out.keep hbr)
          replace HB:=Lib.hid (bch' HB.out hbr)
          clear f0 f1 g0 g1 e0
          clear hneqr
          clear k0 k1 k2 k3 k4 k5 k6 kf0 kf1 kf2 kf3 kf4 kf5 kf6
          clear HK HBW
          clear y0 y1 y2 y3 y4 y5 y6 hbr
          have HK:=Lib.hid (HK1.out.keep HB.out)
          have HBW:Hid (Below w.heap.size w Wr):=Lib.hid (bch' HB0.out HB.out)
          obtain ⟨k0,k1,k2,k3,k4,k5,k6,kf0,kf1,kf2,kf3,kf4,kf5,kf6⟩:=HK.out.c7
          have y0:Wr.cell? ⟨b,o + k * 7,none⟩ = some (.int .i64 (x.ch)):=(HBW.out.cell (p:=⟨b,o + k * 7 + 0,none⟩) hb).trans (HCE.out 0 _ rfl)
          have y1:Wr.cell? ⟨b,o + k * 7 + 1,none⟩ = some (.int .i64 (x.at_)):=(HBW.out.cell (p:=⟨b,o + k * 7 + 1,none⟩) hb).trans (HCE.out 1 _ rfl)
          have y2:Wr.cell? ⟨b,o + k * 7 + 2,none⟩ = some (.string ⟨x.fr.toArray⟩):=(HBW.out.cell (p:=⟨b,o + k * 7 + 2,none⟩) hb).trans (HCE.out 2 _ rfl)
          have y3:Wr.cell? ⟨b,o + k * 7 + 3,none⟩ = some (.int .i64 (x.pa)):=(HBW.out.cell (p:=⟨b,o + k * 7 + 3,none⟩) hb).trans (HCE.out 3 _ rfl)
          have y4:Wr.cell? ⟨b,o + k * 7 + 4,none⟩ = some (.int .i64 (x.lv)):=(HBW.out.cell (p:=⟨b,o + k * 7 + 4,none⟩) hb).trans (HCE.out 4 _ rfl)
          have y5:Wr.cell? ⟨b,o + k * 7 + 5,none⟩ = some (.int .i64 (x.st)):=(HBW.out.cell (p:=⟨b,o + k * 7 + 5,none⟩) hb).trans (HCE.out 5 _ rfl)
          have y6:Wr.cell? ⟨b,o + k * 7 + 6,none⟩ = some (.int .i64 (x.ti)):=(HBW.out.cell (p:=⟨b,o + k * 7 + 6,none⟩) hb).trans (HCE.out 6 _ rfl)
          have hbr:b < Wr.heap.size:=by have:=HBW.out.size;omega
          go_wp2_with (first | (at_builtin;refine wpList_appR3 rfl (.tmp 39) (.tmp 44) 30 rfl w3.heap.size 28 i0 (.agg #[.int .i64 0,.int .i64 0,.string ⟨#[]⟩,.int .i64 0,.int .i64 0,.int .i64 0,.int .i64 0]) 64 Tryz.underlying30 hi hz0 hz1 hz2 rfl (by decide) (by decide) pp cc n (O) (HN.out) _ (x) Wr.heap.size (encHd_len _) (fun j u hu => cellN _ 28 hu) (encHd_one _) rfl (HO.out.keep ((Below.refl _ Wr).alloc (Nat.le_refl _) _)) rfl (by have:=HLO.out;have:=HFEW.out;omega) (by have:=HB.out.size;rw [World.size_alloc];omega) ?_;intro p2 c2 w5 hO3 hb3 _;have HO4:=Lib.hid hO3;have HB4:=Lib.hid (HB.out.trans (((Below.refl _ Wr).alloc (by have:=HB.out.size;omega) _).trans hb3));clear hO3 hb3))
          have HO:=HO4;clear HO4
          clear HB
          have HB:=HB4;clear HB4
          go_roundw
          case rel => exact ⟨k + 1,n + 1,p2,c2,(O ++ [x]),false,by first | rfl | simp,by first | rfl | simp,by first | rfl | simp,by omega,HT,Lib.hid (by have h9:=HN.out;(try simp only [List.length_append,List.length_cons,List.length_nil] at h9 ⊢);omega),Lib.hid (by have h9:=putF_len1 (key:=Hnd.ky) h (l.take (k + 1));rw [HT.out,List.length_take] at h9;have h8:(O ++ [x]).length ≤ min (k + 1) l.length + 1:=h9;omega),HB,HO⟩
          case measure => first | (simp [intOf];done) | (simp [intOf];omega)
        | false =>
          by_cases heq_:x.ky = h.ky
          · have hbf:=fun W => r15_before x.ch x.at_ h.ch h.at_ W
            rw [show ltP (x.ch,x.at_) (h.ch,h.at_) = false from hlt_] at hbf
            have HBF:=Lib.hid hbf;clear hbf
            have hneqr:=fun W => neq_par W x.ch x.at_ h.ch h.at_
            have hbb:((x.ch == h.ch) && (x.at_ == h.at_)) = true:=by have e:=heq_;rw [Hnd.ky,Hnd.ky,Prod.mk.injEq] at e;simp [e.1,e.2]
            rw [hbb] at hneqr
            (try simp only [Bool.not_true,Bool.not_false] at hneqr)
            have HNE:=Lib.hid hneqr
            clear hneqr hbb
            have HT:Hid (putF Hnd.ky h (l.take (k + 1)) = ((O ++ [h]),true)):=Lib.hid (by rw [putF_take hkl,HS.out,← HX.out];exact putStep_eq heq_)
            clear heq_ hlt_
            go_upto_region 6 with fail
            have f0:=fun p:BelowOf _ => (HK.out.keep p.h).c7.1
            have f1:=fun p:BelowOf _ => (HK.out.keep p.h).c7.2.1
            have g0:=fun p:BelowOf _ => BelowOf.cell hbr y0 p
            have g1:=fun p:BelowOf _ => BelowOf.cell hbr y1 p
            have e0:=fun p:BelowOf _ => Nat.lt_of_lt_of_le hbr p.h.size
            refine wp_region_WQ (by kernel_rfl) (by kernel_rfl) ?_
            repeat (refine WQ.step (fun K hK => ?_);go_simp;first | (refine hK.out _ ?_;clear hK K) | (apply Exists.intro;refine ⟨fun _ => ?_,hK.out _ ?_⟩;(first | rfl | (go_at_call 50;exact calls_below_of _ (HBF.out _)));clear hK K))
            refine WQ.nil ?_
            intro Wq hw'
            obtain ⟨⟨wq,hbq⟩,hw2⟩:=hw'
            subst hw2
            replace HO:=Lib.hid (HO.out.keep hbq)
            replace HB:=Lib.hid (bch' HB.out hbq)
            clear f0 f1 g0 g1 e0
            clear k0 k1 k2 k3 k4 k5 k6 kf0 kf1 kf2 kf3 kf4 kf5 kf6
            clear HK HBW
            clear y0 y1 y2 y3 y4 y5 y6 hbr
            have HK:=Lib.hid (HK1.out.keep HB.out)
            have HBW:Hid (Below w.heap.size w Wq):=Lib.hid (bch' HB0.out HB.out)
            obtain ⟨k0,k1,k2,k3,k4,k5,k6,kf0,kf1,kf2,kf3,kf4,kf5,kf6⟩:=HK.out.c7
            have y0:Wq.cell? ⟨b,o + k * 7,none⟩ = some (.int .i64 (x.ch)):=(HBW.out.cell (p:=⟨b,o + k * 7 + 0,none⟩) hb).trans (HCE.out 0 _ rfl)
            have y1:Wq.cell? ⟨b,o + k * 7 + 1,none⟩ = some (.int .i64 (x.at_)):=(HBW.out.cell (p:=⟨b,o + k * 7 + 1,none⟩) hb).trans (HCE.out 1 _ rfl)
            have y2:Wq.cell? ⟨b,o + k * 7 + 2,none⟩ = some (.string ⟨x.fr.toArray⟩):=(HBW.out.cell (p:=⟨b,o + k * 7 + 2,none⟩) hb).trans (HCE.out 2 _ rfl)
            have y3:Wq.cell? ⟨b,o + k * 7 + 3,none⟩ = some (.int .i64 (x.pa)):=(HBW.out.cell (p:=⟨b,o + k * 7 + 3,none⟩) hb).trans (HCE.out 3 _ rfl)
            have y4:Wq.cell? ⟨b,o + k * 7 + 4,none⟩ = some (.int .i64 (x.lv)):=(HBW.out.cell (p:=⟨b,o + k * 7 + 4,none⟩) hb).trans (HCE.out 4 _ rfl)
            have y5:Wq.cell? ⟨b,o + k * 7 + 5,none⟩ = some (.int .i64 (x.st)):=(HBW.out.cell (p:=⟨b,o + k * 7 + 5,none⟩) hb).trans (HCE.out 5 _ rfl)
            have y6:Wq.cell? ⟨b,o + k * 7 + 6,none⟩ = some (.int .i64 (x.ti)):=(HBW.out.cell (p:=⟨b,o + k * 7 + 6,none⟩) hb).trans (HCE.out 6 _ rfl)
            have hbr:b < Wq.heap.size:=by have:=HBW.out.size;omega
            go_upto_region 9 with (first | (at_builtin;refine wpList_appR3 rfl (.tmp 27) (.tmp 29) 30 rfl w3.heap.size 28 i0 (.agg #[.int .i64 0,.int .i64 0,.string ⟨#[]⟩,.int .i64 0,.int .i64 0,.int .i64 0,.int .i64 0]) 64 Tryz.underlying30 hi hz0 hz1 hz2 rfl (by decide) (by decide) pp cc n (O) (HN.out) _ (h) Wq.heap.size (encHd_len _) (fun j u hu => cellN _ 28 hu) (encHd_one _) rfl (HO.out.keep ((Below.refl _ Wq).alloc (Nat.le_refl _) _)) rfl (by have:=HLO.out;have:=HFEW.out;omega) (by have:=HB.out.size;rw [World.size_alloc];omega) ?_;intro p1 c1 w4 hO3 hb3 _;have HO3:=Lib.hid hO3;have HB3:=Lib.hid (HB.out.trans (((Below.refl _ Wq).alloc (by have:=HB.out.size;omega) _).trans hb3));clear hO3 hb3))
            clear k0 k1 k2 k3 k4 k5 k6 kf0 kf1 kf2 kf3 kf4 kf5 kf6
            clear HK HBW
            clear y0 y1 y2 y3 y4 y5 y6 hbr
            have HO:=HO3;clear HO3
            clear HB
            have HB:=HB3;clear HB3
            have HN1:Hid (n + 1 = (O ++ [h]).length):=Lib.hid (by rw [List.length_append,← HN.out];rfl)
            have HK:=Lib.hid (HK1.out.keep HB.out)
            have HBW:Hid (Below w.heap.size w w4):=Lib.hid (bch' HB0.out HB.out)
            obtain ⟨k0,k1,k2,k3,k4,k5,k6,kf0,kf1,kf2,kf3,kf4,kf5,kf6⟩:=HK.out.c7
            have y0:w4.cell? ⟨b,o + k * 7,none⟩ = some (.int .i64 (x.ch)):=(HBW.out.cell (p:=⟨b,o + k * 7 + 0,none⟩) hb).trans (HCE.out 0 _ rfl)
            have y1:w4.cell? ⟨b,o + k * 7 + 1,none⟩ = some (.int .i64 (x.at_)):=(HBW.out.cell (p:=⟨b,o + k * 7 + 1,none⟩) hb).trans (HCE.out 1 _ rfl)
            have y2:w4.cell? ⟨b,o + k * 7 + 2,none⟩ = some (.string ⟨x.fr.toArray⟩):=(HBW.out.cell (p:=⟨b,o + k * 7 + 2,none⟩) hb).trans (HCE.out 2 _ rfl)
            have y3:w4.cell? ⟨b,o + k * 7 + 3,none⟩ = some (.int .i64 (x.pa)):=(HBW.out.cell (p:=⟨b,o + k * 7 + 3,none⟩) hb).trans (HCE.out 3 _ rfl)
            have y4:w4.cell? ⟨b,o + k * 7 + 4,none⟩ = some (.int .i64 (x.lv)):=(HBW.out.cell (p:=⟨b,o + k * 7 + 4,none⟩) hb).trans (HCE.out 4 _ rfl)
            have y5:w4.cell? ⟨b,o + k * 7 + 5,none⟩ = some (.int .i64 (x.st)):=(HBW.out.cell (p:=⟨b,o + k * 7 + 5,none⟩) hb).trans (HCE.out 5 _ rfl)
            have y6:w4.cell? ⟨b,o + k * 7 + 6,none⟩ = some (.int .i64 (x.ti)):=(HBW.out.cell (p:=⟨b,o + k * 7 + 6,none⟩) hb).trans (HCE.out 6 _ rfl)
            have hbr:b < w4.heap.size:=by have:=HBW.out.size;omega
            have hneqr:=HNE.out
            have f0:=fun p:BelowOf _ => (HK.out.keep p.h).c7.1
            have f1:=fun p:BelowOf _ => (HK.out.keep p.h).c7.2.1
            have g0:=fun p:BelowOf _ => BelowOf.cell hbr y0 p
            have g1:=fun p:BelowOf _ => BelowOf.cell hbr y1 p
            have e0:=fun p:BelowOf _ => Nat.lt_of_lt_of_le hbr p.h.size
            refine wp_region_WQ (by kernel_rfl) (by kernel_rfl) ?_
            repeat (refine WQ.step (fun K hK => ?_);go_simp;first | (refine hK.out _ ?_;clear hK K) | (apply Exists.intro;refine ⟨fun _ => ?_,hK.out _ ?_⟩;(first | rfl);clear hK K))
            refine WQ.nil ?_
            intro Wr hw'
            obtain ⟨⟨wr,hbr⟩,hw2⟩:=hw'
            subst hw2
            replace HO:=Lib.hid (HO.out.keep hbr)
            replace HB:=Lib.hid (bch' HB.out hbr)
            clear f0 f1 g0 g1 e0
            clear hneqr
            clear k0 k1 k2 k3 k4 k5 k6 kf0 kf1 kf2 kf3 kf4 kf5 kf6
            clear HK HBW
            clear y0 y1 y2 y3 y4 y5 y6 hbr
            have HK:=Lib.hid (HK1.out.keep HB.out)
            have HBW:Hid (Below w.heap.size w Wr):=Lib.hid (bch' HB0.out HB.out)
            obtain ⟨k0,k1,k2,k3,k4,k5,k6,kf0,kf1,kf2,kf3,kf4,kf5,kf6⟩:=HK.out.c7
            have y0:Wr.cell? ⟨b,o + k * 7,none⟩ = some (.int .i64 (x.ch)):=(HBW.out.cell (p:=⟨b,o + k * 7 + 0,none⟩) hb).trans (HCE.out 0 _ rfl)
            have y1:Wr.cell? ⟨b,o + k * 7 + 1,none⟩ = some (.int .i64 (x.at_)):=(HBW.out.cell (p:=⟨b,o + k * 7 + 1,none⟩) hb).trans (HCE.out 1 _ rfl)
            have y2:Wr.cell? ⟨b,o + k * 7 + 2,none⟩ = some (.string ⟨x.fr.toArray⟩):=(HBW.out.cell (p:=⟨b,o + k * 7 + 2,none⟩) hb).trans (HCE.out 2 _ rfl)
            have y3:Wr.cell? ⟨b,o + k * 7 + 3,none⟩ = some (.int .i64 (x.pa)):=(HBW.out.cell (p:=⟨b,o + k * 7 + 3,none⟩) hb).trans (HCE.out 3 _ rfl)
            have y4:Wr.cell? ⟨b,o + k * 7 + 4,none⟩ = some (.int .i64 (x.lv)):=(HBW.out.cell (p:=⟨b,o + k * 7 + 4,none⟩) hb).trans (HCE.out 4 _ rfl)
            have y5:Wr.cell? ⟨b,o + k * 7 + 5,none⟩ = some (.int .i64 (x.st)):=(HBW.out.cell (p:=⟨b,o + k * 7 + 5,none⟩) hb).trans (HCE.out 5 _ rfl)
            have y6:Wr.cell? ⟨b,o + k * 7 + 6,none⟩ = some (.int .i64 (x.ti)):=(HBW.out.cell (p:=⟨b,o + k * 7 + 6,none⟩) hb).trans (HCE.out 6 _ rfl)
            have hbr:b < Wr.heap.size:=by have:=HBW.out.size;omega
            go_wp2_with fail
            go_roundw
            case rel => exact ⟨k + 1,n + 1,p1,c1,(O ++ [h]),true,by first | rfl | simp,by first | rfl | simp,by first | rfl | simp,by omega,HT,Lib.hid (by have h9:=HN1.out;(try simp only [List.length_append,List.length_cons,List.length_nil] at h9 ⊢);omega),Lib.hid (by have h9:=putF_len1 (key:=Hnd.ky) h (l.take (k + 1));rw [HT.out,List.length_take] at h9;have h8:(O ++ [h]).length ≤ min (k + 1) l.length + 1:=h9;omega),HB,HO⟩
            case measure => first | (simp [intOf];done) | (simp [intOf];omega)
          · have hbf:=fun W => r15_before x.ch x.at_ h.ch h.at_ W
            rw [show ltP (x.ch,x.at_) (h.ch,h.at_) = false from hlt_] at hbf
            have HBF:=Lib.hid hbf;clear hbf
            have hneqr:=fun W => neq_par W x.ch x.at_ h.ch h.at_
            have hbb:((x.ch == h.ch) && (x.at_ == h.at_)) = false:=by rw [Bool.eq_false_iff];intro e;rw [Bool.and_eq_true,beq_iff_eq,beq_iff_eq] at e;exact heq_ (Prod.ext e.1 e.2)
            rw [hbb] at hneqr
            (try simp only [Bool.not_true,Bool.not_false] at hneqr)
            have HNE:=Lib.hid hneqr
            clear hneqr hbb
            have HT:Hid (putF Hnd.ky h (l.take (k + 1)) = ((O ++ [h] ++ [x]),true)):=Lib.hid (by rw [putF_take hkl,HS.out,← HX.out];exact putStep_ne hlt_ heq_)
            clear heq_ hlt_
            go_upto_region 6 with fail
            have f0:=fun p:BelowOf _ => (HK.out.keep p.h).c7.1
            have f1:=fun p:BelowOf _ => (HK.out.keep p.h).c7.2.1
            have g0:=fun p:BelowOf _ => BelowOf.cell hbr y0 p
            have g1:=fun p:BelowOf _ => BelowOf.cell hbr y1 p
            have e0:=fun p:BelowOf _ => Nat.lt_of_lt_of_le hbr p.h.size
            refine wp_region_WQ (by kernel_rfl) (by kernel_rfl) ?_
            repeat (refine WQ.step (fun K hK => ?_);go_simp;first | (refine hK.out _ ?_;clear hK K) | (apply Exists.intro;refine ⟨fun _ => ?_,hK.out _ ?_⟩;(first | rfl | (go_at_call 50;exact calls_below_of _ (HBF.out _)));clear hK K))
            refine WQ.nil ?_
            intro Wq hw'
            obtain ⟨⟨wq,hbq⟩,hw2⟩:=hw'
            subst hw2
            replace HO:=Lib.hid (HO.out.keep hbq)
            replace HB:=Lib.hid (bch' HB.out hbq)
            clear f0 f1 g0 g1 e0
            clear k0 k1 k2 k3 k4 k5 k6 kf0 kf1 kf2 kf3 kf4 kf5 kf6
            clear HK HBW
            clear y0 y1 y2 y3 y4 y5 y6 hbr
            have HK:=Lib.hid (HK1.out.keep HB.out)
            have HBW:Hid (Below w.heap.size w Wq):=Lib.hid (bch' HB0.out HB.out)
            obtain ⟨k0,k1,k2,k3,k4,k5,k6,kf0,kf1,kf2,kf3,kf4,kf5,kf6⟩:=HK.out.c7
            have y0:Wq.cell? ⟨b,o + k * 7,none⟩ = some (.int .i64 (x.ch)):=(HBW.out.cell (p:=⟨b,o + k * 7 + 0,none⟩) hb).trans (HCE.out 0 _ rfl)
            have y1:Wq.cell? ⟨b,o + k * 7 + 1,none⟩ = some (.int .i64 (x.at_)):=(HBW.out.cell (p:=⟨b,o + k * 7 + 1,none⟩) hb).trans (HCE.out 1 _ rfl)
            have y2:Wq.cell? ⟨b,o + k * 7 + 2,none⟩ = some (.string ⟨x.fr.toArray⟩):=(HBW.out.cell (p:=⟨b,o + k * 7 + 2,none⟩) hb).trans (HCE.out 2 _ rfl)
            have y3:Wq.cell? ⟨b,o + k * 7 + 3,none⟩ = some (.int .i64 (x.pa)):=(HBW.out.cell (p:=⟨b,o + k * 7 + 3,none⟩) hb).trans (HCE.out 3 _ rfl)
            have y4:Wq.cell? ⟨b,o + k * 7 + 4,none⟩ = some (.int .i64 (x.lv)):=(HBW.out.cell (p:=⟨b,o + k * 7 + 4,none⟩) hb).trans (HCE.out 4 _ rfl)
            have y5:Wq.cell? ⟨b,o + k * 7 + 5,none⟩ = some (.int .i64 (x.st)):=(HBW.out.cell (p:=⟨b,o + k * 7 + 5,none⟩) hb).trans (HCE.out 5 _ rfl)
            have y6:Wq.cell? ⟨b,o + k * 7 + 6,none⟩ = some (.int .i64 (x.ti)):=(HBW.out.cell (p:=⟨b,o + k * 7 + 6,none⟩) hb).trans (HCE.out 6 _ rfl)
            have hbr:b < Wq.heap.size:=by have:=HBW.out.size;omega
            go_upto_region 9 with (first | (at_builtin;refine wpList_appR3 rfl (.tmp 27) (.tmp 29) 30 rfl w3.heap.size 28 i0 (.agg #[.int .i64 0,.int .i64 0,.string ⟨#[]⟩,.int .i64 0,.int .i64 0,.int .i64 0,.int .i64 0]) 64 Tryz.underlying30 hi hz0 hz1 hz2 rfl (by decide) (by decide) pp cc n (O) (HN.out) _ (h) Wq.heap.size (encHd_len _) (fun j u hu => cellN _ 28 hu) (encHd_one _) rfl (HO.out.keep ((Below.refl _ Wq).alloc (Nat.le_refl _) _)) rfl (by have:=HLO.out;have:=HFEW.out;omega) (by have:=HB.out.size;rw [World.size_alloc];omega) ?_;intro p1 c1 w4 hO3 hb3 _;have HO3:=Lib.hid hO3;have HB3:=Lib.hid (HB.out.trans (((Below.refl _ Wq).alloc (by have:=HB.out.size;omega) _).trans hb3));clear hO3 hb3))
            clear k0 k1 k2 k3 k4 k5 k6 kf0 kf1 kf2 kf3 kf4 kf5 kf6
            clear HK HBW
            clear y0 y1 y2 y3 y4 y5 y6 hbr
            have HO:=HO3;clear HO3
            clear HB
            have HB:=HB3;clear HB3
            have HN1:Hid (n + 1 = (O ++ [h]).length):=Lib.hid (by rw [List.length_append,← HN.out];rfl)
            have HK:=Lib.hid (HK1.out.keep HB.out)
            have HBW:Hid (Below w.heap.size w w4):=Lib.hid (bch' HB0.out HB.out)
            obtain ⟨k0,k1,k2,k3,k4,k5,k6,kf0,kf1,kf2,kf3,kf4,kf5,kf6⟩:=HK.out.c7
            have y0:w4.cell? ⟨b,o + k * 7,none⟩ = some (.int .i64 (x.ch)):=(HBW.out.cell (p:=⟨b,o + k * 7 + 0,none⟩) hb).trans (HCE.out 0 _ rfl)
            have y1:w4.cell? ⟨b,o + k * 7 + 1,none⟩ = some (.int .i64 (x.at_)):=(HBW.out.cell (p:=⟨b,o + k * 7 + 1,none⟩) hb).trans (HCE.out 1 _ rfl)
            have y2:w4.cell? ⟨b,o + k * 7 + 2,none⟩ = some (.string ⟨x.fr.toArray⟩):=(HBW.out.cell (p:=⟨b,o + k * 7 + 2,none⟩) hb).trans (HCE.out 2 _ rfl)
            have y3:w4.cell? ⟨b,o + k * 7 + 3,none⟩ = some (.int .i64 (x.pa)):=(HBW.out.cell (p:=⟨b,o + k * 7 + 3,none⟩) hb).trans (HCE.out 3 _ rfl)
            have y4:w4.cell? ⟨b,o + k * 7 + 4,none⟩ = some (.int .i64 (x.lv)):=(HBW.out.cell (p:=⟨b,o + k * 7 + 4,none⟩) hb).trans (HCE.out 4 _ rfl)
            have y5:w4.cell? ⟨b,o + k * 7 + 5,none⟩ = some (.int .i64 (x.st)):=(HBW.out.cell (p:=⟨b,o + k * 7 + 5,none⟩) hb).trans (HCE.out 5 _ rfl)
            have y6:w4.cell? ⟨b,o + k * 7 + 6,none⟩ = some (.int .i64 (x.ti)):=(HBW.out.cell (p:=⟨b,o + k * 7 + 6,none⟩) hb).trans (HCE.out 6 _ rfl)
            have hbr:b < w4.heap.size:=by have:=HBW.out.size;omega
            have hneqr:=HNE.out
            have f0:=fun p:BelowOf _ => (HK.out.keep p.h).c7.1
            have f1:=fun p:BelowOf _ => (HK.out.keep p.h).c7.2.1
            have g0:=fun p:BelowOf _ => BelowOf.cell hbr y0 p
            have g1:=fun p:BelowOf _ => BelowOf.cell hbr y1 p
            have e0:=fun p:BelowOf _ => Nat.lt_of_lt_of_le hbr p.h.size
            refine wp_region_WQ (by kernel_rfl) (by kernel_rfl) ?_
            repeat (refine WQ.step (fun K hK => ?_);go_simp;first | (refine hK.out _ ?_;clear hK K) | (apply Exists.intro;refine ⟨fun _ => ?_,hK.out _ ?_⟩;(first | rfl);clear hK K))
            refine WQ.nil ?_
            intro Wr hw'
            obtain ⟨⟨wr,hbr⟩,hw2⟩:=hw'
            subst hw2
            replace HO:=Lib.hid (HO.out.keep hbr)
            replace HB:=Lib.hid (bch' HB.out hbr)
            clear f0 f1 g0 g1 e0
            clear hneqr
            clear k0 k1 k2 k3 k4 k5 k6 kf0 kf1 kf2 kf3 kf4 kf5 kf6
            clear HK HBW
            clear y0 y1 y2 y3 y4 y5 y6 hbr
            have HK:=Lib.hid (HK1.out.keep HB.out)
            have HBW:Hid (Below w.heap.size w Wr):=Lib.hid (bch' HB0.out HB.out)
            obtain ⟨k0,k1,k2,k3,k4,k5,k6,kf0,kf1,kf2,kf3,kf4,kf5,kf6⟩:=HK.out.c7
            have y0:Wr.cell? ⟨b,o + k * 7,none⟩ = some (.int .i64 (x.ch)):=(HBW.out.cell (p:=⟨b,o + k * 7 + 0,none⟩) hb).trans (HCE.out 0 _ rfl)
            have y1:Wr.cell? ⟨b,o + k * 7 + 1,none⟩ = some (.int .i64 (x.at_)):=(HBW.out.cell (p:=⟨b,o + k * 7 + 1,none⟩) hb).trans (HCE.out 1 _ rfl)
            have y2:Wr.cell? ⟨b,o + k * 7 + 2,none⟩ = some (.string ⟨x.fr.toArray⟩):=(HBW.out.cell (p:=⟨b,o + k * 7 + 2,none⟩) hb).trans (HCE.out 2 _ rfl)
            have y3:Wr.cell? ⟨b,o + k * 7 + 3,none⟩ = some (.int .i64 (x.pa)):=(HBW.out.cell (p:=⟨b,o + k * 7 + 3,none⟩) hb).trans (HCE.out 3 _ rfl)
            have y4:Wr.cell? ⟨b,o + k * 7 + 4,none⟩ = some (.int .i64 (x.lv)):=(HBW.out.cell (p:=⟨b,o + k * 7 + 4,none⟩) hb).trans (HCE.out 4 _ rfl)
            have y5:Wr.cell? ⟨b,o + k * 7 + 5,none⟩ = some (.int .i64 (x.st)):=(HBW.out.cell (p:=⟨b,o + k * 7 + 5,none⟩) hb).trans (HCE.out 5 _ rfl)
            have y6:Wr.cell? ⟨b,o + k * 7 + 6,none⟩ = some (.int .i64 (x.ti)):=(HBW.out.cell (p:=⟨b,o + k * 7 + 6,none⟩) hb).trans (HCE.out 6 _ rfl)
            have hbr:b < Wr.heap.size:=by have:=HBW.out.size;omega
            go_wp2_with (first | (at_builtin;refine wpList_appR3 rfl (.tmp 39) (.tmp 44) 30 rfl w3.heap.size 28 i0 (.agg #[.int .i64 0,.int .i64 0,.string ⟨#[]⟩,.int .i64 0,.int .i64 0,.int .i64 0,.int .i64 0]) 64 Tryz.underlying30 hi hz0 hz1 hz2 rfl (by decide) (by decide) p1 c1 (n + 1) (O ++ [h]) (HN1.out) _ (x) Wr.heap.size (encHd_len _) (fun j u hu => cellN _ 28 hu) (encHd_one _) rfl (HO.out.keep ((Below.refl _ Wr).alloc (Nat.le_refl _) _)) rfl (by have:=HLO.out;have:=HFEW.out;rw [List.length_append];simp;omega) (by have:=HB.out.size;rw [World.size_alloc];omega) ?_;intro p2 c2 w5 hO3 hb3 _;have HO4:=Lib.hid hO3;have HB4:=Lib.hid (HB.out.trans (((Below.refl _ Wr).alloc (by have:=HB.out.size;omega) _).trans hb3));clear hO3 hb3))
            have HO:=HO4;clear HO4
            clear HB
            have HB:=HB4;clear HB4
            go_roundw
            case rel => exact ⟨k + 1,(n + 1) + 1,p2,c2,(O ++ [h] ++ [x]),true,by first | rfl | simp,by first | rfl | simp,by first | rfl | simp,by omega,HT,Lib.hid (by have h9:=HN1.out;(try simp only [List.length_append,List.length_cons,List.length_nil] at h9 ⊢);omega),Lib.hid (by have h9:=putF_len1 (key:=Hnd.ky) h (l.take (k + 1));rw [HT.out,List.length_take] at h9;have h8:(O ++ [h] ++ [x]).length ≤ min (k + 1) l.length + 1:=h9;omega),HB,HO⟩
            case measure => first | (simp [intOf];done) | (simp [intOf];omega)
    · cases d with
      | true =>
        have hlt:¬ (k:Int) < (l.length:Int):=by omega
        obtain rfl:k = l.length:=by omega
        have hf:=HS.out
        rw [List.take_length] at hf
        have HE:Hid (O = putR Hnd.ky h l):=Lib.hid (by unfold putR;rw [hf];rfl)
        clear hf HS
        go_wp2_with fail
        go_ret
        have hn:=HN.out
        rw [HE.out] at hn HO
        subst hn
        exact ⟨_,_,rfl,HO.out.lower (by have:=HB0.out.size;omega),bch' HB0.out HB.out⟩
      | false =>
        have hlt:¬ (k:Int) < (l.length:Int):=by omega
        obtain rfl:k = l.length:=by omega
        have hf:=HS.out
        rw [List.take_length] at hf
        have HE:Hid (O ++ [h] = putR Hnd.ky h l):=Lib.hid (by unfold putR;rw [hf];rfl)
        clear hf HS
        go_wp2_with (first | (at_builtin;refine wpList_appR3 rfl (.tmp 48) (.tmp 50) 30 rfl w3.heap.size 28 i0 (.agg #[.int .i64 0,.int .i64 0,.string ⟨#[]⟩,.int .i64 0,.int .i64 0,.int .i64 0,.int .i64 0]) 64 Tryz.underlying30 hi hz0 hz1 hz2 rfl (by decide) (by decide) pp cc n (O) (HN.out) _ (h) wr.heap.size (encHd_len _) (fun j u hu => cellN _ 28 hu) (encHd_one _) rfl (HO.out.keep ((Below.refl _ wr).alloc (Nat.le_refl _) _)) rfl (by have:=HLO.out;have:=HFEW.out;omega) (by have:=HB.out.size;rw [World.size_alloc];omega) ?_;intro p1 c1 w4 hO3 hb3 _;have HO3:=Lib.hid hO3;have HB3:=Lib.hid (HB.out.trans (((Below.refl _ wr).alloc (by have:=HB.out.size;omega) _).trans hb3));clear hO3 hb3))
        go_ret
        have hn:n + 1 = (putR Hnd.ky h l).length:=by rw [← HE.out,List.length_append,← HN.out];rfl
        rw [HE.out] at HO3
        rw [hn]
        exact ⟨_,_,rfl,HO3.out.lower (by have:=HB0.out.size;omega),bch' HB0.out HB3.out⟩
end Go.Proofs.YtknlohmkachbmaaGreatDoor
set_option maxRecDepth 100000
set_option maxHeartbeats 8000000
namespace Go.Proofs.YtknlohmkachbmaaGreatDoor
open Go.RowKit Go.Shelf Lum
open Go.Lib (decDigits itoa)
attribute [local go_sem] bs_get bs_extract_end bs_extract_from bs_extract bs_append
theorem r29_given (l : List Hnd) (t : Int) (es : List Ent) (ti : Int) (now : List Amt) (v u z : Value) (w : World) (hv : HndsAt w v l) (hu : EntsAt w u es) (hz : AmtsAt w z now) (hfit : fitE es now = 0) (hn : es.length ≤ 100000) (hnl : l.length ≤ 100000) (hlen : ∀ y ∈ now, y.le.length ≤ 1000) :
    Calls Tryz.prog 71 #[v,.int .i64 t,u,.int .i64 ti,z] w fun e w' => ∃ v',e = .returned v' ∧ HndsAt w' v' (putsR Hnd.ky l (frsL l t ti es now)) ∧ Below w.heap.size w w':=by
  obtain ⟨p1,c1,rfl,hR1⟩:=hu
  obtain ⟨p2,c2,rfl,hR2⟩:=hz
  obtain ⟨hle,hft⟩:=fitE_zero hfit
  have hv1:=Lib.hid hR1;have hv2:=Lib.hid hR2;have HV:=Lib.hid hv;have HFEW:=Lib.hid hn;have HFEL:=Lib.hid hnl;have HLEN:=Lib.hid hlen;have HLE:=Lib.hid hle;have HFT:=Lib.hid hft;clear hR1 hR2 hv hn hnl hlen hle hft hfit
  have HB:=Lib.hid (Below.refl w.heap.size w)
  go_enter Tryz.func71,Tryz.ntmps71
  go_wp2_with fail
  go_loopw [11,12] (fun s j wr => ∃ k:Nat,j = .int .i64 (k:Int) ∧ k ≤ es.length ∧ Hid (HndsAt wr s (putsR Hnd.ky l ((frsL l t ti es now).take k))) ∧ Hid (Below w.heap.size w wr)) (fun _ j _ => es.length - (intOf j).toNat)
  case atStart => exact ⟨0,rfl,Nat.zero_le _,Lib.hid (by rw [List.take_zero];exact HV.out),HB⟩
  case round =>
    obtain ⟨k,rfl,hk9,HO,HB2⟩:=hrel
    clear HB
    have HB:=HB2;clear HB2
    by_cases hke:k < es.length
    · have hka:k < now.length:=by have:=HLE.out;omega
      have hlt:(k:Int) < (es.length:Int):=by omega
      have hlt2:(k:Int) < (now.length:Int):=by omega
      have hk0:(0:Int) ≤ (k:Int):=by omega
      have hlo:k * 4 < 9223372036854775807:=by have:=HFEW.out;omega
      have hlo2:k * 3 < 9223372036854775807:=by have:=HFEW.out;omega
      have hun:IntKind.i64.wrap ((k:Int) + 1) = (k:Int) + 1:=IntWalk.i64_in _ (by have:=HFEW.out;omega)
      obtain ⟨b1,o1,rfl,hb1,hC1⟩:=hv1.out (fun h => by subst h;exact absurd hke (Nat.not_lt_zero _))
      obtain ⟨b2,o2,rfl,hb2,hC2⟩:=hv2.out (fun h => by subst h;exact absurd hka (Nat.not_lt_zero _))
      obtain ⟨e,hE⟩:∃ e,e = es[k]'hke:=⟨_,rfl⟩
      obtain ⟨a,hA⟩:∃ a,a = now[k]'hka:=⟨_,rfl⟩
      have hc1:=hC1 k hke
      have hc2:=hC2 k hka
      rw [← hE] at hc1
      rw [← hA] at hc2
      have hlev:levE a.le = 0:=by rw [hA];exact (HFT.out k hke hka).2
      have hlen:=HLEN.out a (by rw [hA];exact List.getElem_mem hka)
      have HT:Hid ((putsR Hnd.ky l ((frsL l t ti es now).take (k + 1))) = putR Hnd.ky (frsH l t ti e a) (putsR Hnd.ky l ((frsL l t ti es now).take k))):=Lib.hid (by rw [frsL_take hke hka,putsR_snoc,hE,hA])
      have e0:wr.cell? ⟨b1,o1 + k * 4,none⟩ = some (.int .i64 (e.ch)):=(HB.out.cell (p:=⟨b1,o1 + k * 4 + 0,none⟩) hb1).trans (hc1 0 _ rfl)
      have e1:wr.cell? ⟨b1,o1 + k * 4 + 1,none⟩ = some (.int .i64 (e.at_)):=(HB.out.cell (p:=⟨b1,o1 + k * 4 + 1,none⟩) hb1).trans (hc1 1 _ rfl)
      have e2:wr.cell? ⟨b1,o1 + k * 4 + 2,none⟩ = some (.int .i64 (e.pa)):=(HB.out.cell (p:=⟨b1,o1 + k * 4 + 2,none⟩) hb1).trans (hc1 2 _ rfl)
      have e3:wr.cell? ⟨b1,o1 + k * 4 + 3,none⟩ = some (.int .i64 (e.lv)):=(HB.out.cell (p:=⟨b1,o1 + k * 4 + 3,none⟩) hb1).trans (hc1 3 _ rfl)
      have a0:wr.cell? ⟨b2,o2 + k * 3,none⟩ = some (.int .i64 (a.ch)):=(HB.out.cell (p:=⟨b2,o2 + k * 3 + 0,none⟩) hb2).trans (hc2 0 _ rfl)
      have a1:wr.cell? ⟨b2,o2 + k * 3 + 1,none⟩ = some (.int .i64 (a.at_)):=(HB.out.cell (p:=⟨b2,o2 + k * 3 + 1,none⟩) hb2).trans (hc2 1 _ rfl)
      have a2:wr.cell? ⟨b2,o2 + k * 3 + 2,none⟩ = some (.string ⟨a.le.toArray⟩):=(HB.out.cell (p:=⟨b2,o2 + k * 3 + 2,none⟩) hb2).trans (hc2 2 _ rfl)
      have hr1:b1 < wr.heap.size:=Nat.lt_of_lt_of_le hb1 HB.out.size
      have hr2:b2 < wr.heap.size:=Nat.lt_of_lt_of_le hb2 HB.out.size
      have HC2:=Lib.hid hc2;have HB2_:=Lib.hid hr2
      have HA2:=Lib.hid a2
      have hpl:=fun W (h:HndsAt W v l) => r29_place l v e.ch e.at_ W h (by have:=HFEL.out;omega)
      have hput:=fun (h:Hnd) (W:World) (h2:HndsAt W u11 (putsR Hnd.ky l ((frsL l t ti es now).take k))) => r29_put h (putsR Hnd.ky l ((frsL l t ti es now).take k)) u11 W h2 (by have h3:=putsR_len (key:=Hnd.ky) ((frsL l t ti es now).take k) l;rw [List.length_take] at h3;have:=HFEW.out;have:=HFEL.out;omega)
      have HBo:=HB
      have HV0:=Lib.hid (HndsAt.kept HV.out HB.out)
      have HO0:=HO
      clear hc1 hc2 hb1 hb2 hC1 hC2 hE hA
      go_upto_region 5 with fail
      go_region
      clear HB HO
      have hbg:=((Below.refl wr.heap.size wr).alloc (Nat.le_refl _) (.cells #[.int .i64 (e.ch),.int .i64 (e.at_),.string ⟨(a.le).toArray⟩,.int .i64 (e.pa),.int .i64 (e.lv),.int .i64 t,.int .i64 ti] 28)).drew
      have HP:=Lib.hid (Blk.new wr 28 #[.int .i64 (e.ch),.int .i64 (e.at_),.string ⟨(a.le).toArray⟩,.int .i64 (e.pa),.int .i64 (e.lv),.int .i64 t,.int .i64 ti]).drew
      obtain ⟨g,hg⟩:∃ g,g = wr.heap.size:=⟨_,rfl⟩
      obtain ⟨W5,hW5⟩:∃ X,X = (wr.alloc (.cells #[.int .i64 (e.ch),.int .i64 (e.at_),.string ⟨(a.le).toArray⟩,.int .i64 (e.pa),.int .i64 (e.lv),.int .i64 t,.int .i64 ti] 28)).drew:=⟨_,rfl⟩
      rw [← hW5] at hbg HP ⊢
      rw [← hg] at HP ⊢
      have HB:=Lib.hid hbg
      have HG:=Lib.hid hg
      clear hbg hg hW5 e0 e1 e2 e3 a0 a1 a2 hr1 hr2
      obtain ⟨p0,p1,p2,p3,p4,p5,p6,pf0,pf1,pf2,pf3,pf4,pf5,pf6⟩:=HP.out.c7
      by_cases hq:0 ≤ ixOf (fun x:Hnd => x.ky == (e.ch,e.at_)) l
      · have hlt9:¬ ixOf (fun x:Hnd => x.ky == (e.ch,e.at_)) l < 0:=by omega
        have HF:Hid (frsH l t ti e a = ⟨e.ch,e.at_,a.le,e.pa,e.lv,t,ti⟩):=Lib.hid (by unfold frsH;rw [if_pos (show finB l e.ky = true from decide_eq_true hq)])
        have HNN:Hid True:=Lib.hid trivial
        clear hq
        generalize ixOf (fun x:Hnd => x.ky == (e.ch,e.at_)) l = m at *
        have hput:=hput (⟨e.ch,e.at_,a.le,e.pa,e.lv,t,ti⟩:Hnd)
        dsimp only at hput
        have HPL:=Lib.hid hpl;clear hpl
        have HPUT:=Lib.hid hput;clear hput
        go_wp2_with (first | (with_reducible refine ((HPL.out _ (HndsAt.kept HV0.out HB.out)).mono ?_);rintro e2 w' ⟨rfl,hb⟩;replace HP:=Lib.hid (HP.out.keep hb);clear p0 p1 p2 p3 p4 p5 p6 pf0 pf1 pf2 pf3 pf4 pf5 pf6;replace HB:=Lib.hid (bch' HB.out hb);clear hb;obtain ⟨p0,p1,p2,p3,p4,p5,p6,pf0,pf1,pf2,pf3,pf4,pf5,pf6⟩:=HP.out.c7) | (with_reducible refine ((HPUT.out _ (HndsAt.kept HO0.out HB.out)).mono ?_);rintro e2 w9 ⟨pp,cc,rfl,ho9,hb⟩;have HO:=Lib.hid ho9;clear ho9;replace HP:=Lib.hid (HP.out.keep hb);clear p0 p1 p2 p3 p4 p5 p6 pf0 pf1 pf2 pf3 pf4 pf5 pf6;replace HB:=Lib.hid (bch' HB.out hb);clear hb;obtain ⟨p0,p1,p2,p3,p4,p5,p6,pf0,pf1,pf2,pf3,pf4,pf5,pf6⟩:=HP.out.c7))
        go_roundw
        case rel => exact ⟨k + 1,by first | rfl | simp,by omega,Lib.hid (by rw [HT.out,HF.out];exact ⟨_,_,rfl,HO.out.row encHd_len⟩),Lib.hid (bch' HBo.out HB.out)⟩
        case measure => first | (simp [intOf];done) | (simp [intOf];omega)
      · have hlt9:ixOf (fun x:Hnd => x.ky == (e.ch,e.at_)) l < 0:=by omega
        have HF:Hid (frsH l t ti e a = ⟨e.ch,e.at_,itoa (near (valR a.le)),e.pa,e.lv,t,ti⟩):=Lib.hid (by unfold frsH;rw [if_neg (show ¬ finB l e.ky = true from fun h => hq (of_decide_eq_true h))])
        clear hq
        generalize ixOf (fun x:Hnd => x.ky == (e.ch,e.at_)) l = m at *
        have hnr:∀ W,Calls Tryz.prog 127 #[.string ⟨a.le.toArray⟩] W fun e w' => e = .returned (.string ⟨(itoa (near (valR a.le))).toArray⟩) ∧ Below W.heap.size W w':=fun W => by obtain ⟨q,e1,-⟩:=levE_zero hlev;rw [e1] at hlen ⊢;rw [valR_showR];exact r2_near q W ((fits_of_len hlen).mono (by omega))
        generalize itoa (near (valR a.le)) = T at *
        have hput:=hput (⟨e.ch,e.at_,T,e.pa,e.lv,t,ti⟩:Hnd)
        dsimp only at hput
        have HPL:=Lib.hid hpl;clear hpl
        have HNR:=Lib.hid hnr;clear hnr
        have HPUT:=Lib.hid hput;clear hput
        go_upto_region 7 with (first | (with_reducible refine ((HPL.out _ (HndsAt.kept HV0.out HB.out)).mono ?_);rintro e2 w' ⟨rfl,hb⟩;replace HP:=Lib.hid (HP.out.keep hb);clear p0 p1 p2 p3 p4 p5 p6 pf0 pf1 pf2 pf3 pf4 pf5 pf6;replace HB:=Lib.hid (bch' HB.out hb);clear hb;obtain ⟨p0,p1,p2,p3,p4,p5,p6,pf0,pf1,pf2,pf3,pf4,pf5,pf6⟩:=HP.out.c7))
        have a2:w'.cell? ⟨b2,o2 + k * 3 + 2,none⟩ = some (.string ⟨a.le.toArray⟩):=(HB.out.cell (p:=⟨b2,o2 + k * 3 + 2,none⟩) HB2_.out).trans HA2.out
        have hr2:b2 < w'.heap.size:=Nat.lt_of_lt_of_le HB2_.out HB.out.size
        go_upto_region 8 with (first | (with_reducible refine ((HNR.out _).mono ?_);rintro e2 w' ⟨rfl,hb⟩;replace HP:=Lib.hid (HP.out.keep hb);clear p0 p1 p2 p3 p4 p5 p6 pf0 pf1 pf2 pf3 pf4 pf5 pf6;replace HB:=Lib.hid (bch' HB.out hb);clear hb;obtain ⟨p0,p1,p2,p3,p4,p5,p6,pf0,pf1,pf2,pf3,pf4,pf5,pf6⟩:=HP.out.c7))
        have HBs:Hid (Below wr.heap.size wr (w'.setCell ⟨g,2,none⟩ (.string ⟨T.toArray⟩))):=Lib.hid (HB.out.setCell (p:=⟨g,2,none⟩) (by show wr.heap.size ≤ g;rw [HG.out];exact Nat.le_refl _) _)
        have HPs:Hid (Blk (w'.setCell ⟨g,2,none⟩ (.string ⟨T.toArray⟩)) g 28 #[.int .i64 (e.ch),.int .i64 (e.at_),.string ⟨(T).toArray⟩,.int .i64 (e.pa),.int .i64 (e.lv),.int .i64 t,.int .i64 ti]):=Lib.hid (by simpa using HP.out.set_ 2 (.string ⟨T.toArray⟩))
        clear p0 p1 p2 p3 p4 p5 p6 pf0 pf1 pf2 pf3 pf4 pf5 pf6
        clear HP HB
        have HB:=HBs;have HP:=HPs;clear HBs HPs
        generalize w'.setCell ⟨g,2,none⟩ (.string ⟨T.toArray⟩) = W7 at *
        obtain ⟨p0,p1,p2,p3,p4,p5,p6,pf0,pf1,pf2,pf3,pf4,pf5,pf6⟩:=HP.out.c7
        go_wp2_with (first | (with_reducible refine ((HPUT.out _ (HndsAt.kept HO0.out HB.out)).mono ?_);rintro e2 w9 ⟨pp,cc,rfl,ho9,hb⟩;have HO:=Lib.hid ho9;clear ho9;replace HP:=Lib.hid (HP.out.keep hb);clear p0 p1 p2 p3 p4 p5 p6 pf0 pf1 pf2 pf3 pf4 pf5 pf6;replace HB:=Lib.hid (bch' HB.out hb);clear hb;obtain ⟨p0,p1,p2,p3,p4,p5,p6,pf0,pf1,pf2,pf3,pf4,pf5,pf6⟩:=HP.out.c7))
        go_roundw
        case rel => exact ⟨k + 1,by first | rfl | simp,by omega,Lib.hid (by rw [HT.out,HF.out];exact ⟨_,_,rfl,HO.out.row encHd_len⟩),Lib.hid (bch' HBo.out HB.out)⟩
        case measure => first | (simp [intOf];done) | (simp [intOf];omega)
    · have hlt:¬ (k:Int) < (es.length:Int):=by omega
      obtain rfl:k = es.length:=by omega
      have HE:Hid ((putsR Hnd.ky l ((frsL l t ti es now).take es.length)) = putsR Hnd.ky l (frsL l t ti es now)):=Lib.hid (by rw [List.take_of_length_le (by rw [frsL_len HLE.out];exact Nat.le_refl _)])
      go_wp2_with fail
      go_ret
      exact ⟨_,rfl,by rw [← HE.out];exact HO.out,HB.out⟩
theorem r29_set (l : List Hnd) (t : Int) (es : List Ent) (ti : Int) (now : List Amt) (v u z : Value) (w : World) (hv : HndsAt w v l) (hu : EntsAt w u es) (hz : AmtsAt w z now) (hx : l.length ≤ 256 → ∀ x ∈ l, x.fr.length ≤ 1000) (hna : now.length ≤ 1000000) (hlen : ∀ y ∈ now, y.le.length ≤ 1000) :
    Calls Tryz.prog 21 #[v,.int .i64 t,u,.int .i64 ti,z] w (SetP (setO l t es ti now) (setE l t es ti now) w):=by
  have hck:=fun W (h:HndsAt W v l) => r29_check l v W h hx
  change ∀ W,HndsAt W v l → Calls _ _ _ _ (fun e w' => e = .returned (.int .i64 (hnsE l)) ∧ _) at hck
  have hen:=fun W (h:EntsAt W u es) => r15_entries es u W h
  change ∀ W,EntsAt W u es → Calls _ _ _ _ (fun e w' => e = .returned (.int .i64 (entsE es)) ∧ _) at hen
  have ht1:=fun W => r3_time t W
  have ht2:=fun W => r3_time ti W
  have hft:=fun W (h1:EntsAt W u es) (h2:AmtsAt W z now) => r29_fits es now u z W h1 h2 hna hlen
  have HV:=Lib.hid hv;have HU:=Lib.hid hu;have HZ:=Lib.hid hz;clear hv hu hz
  have HB:=Lib.hid (Below.refl w.heap.size w)
  by_cases h1:hnsE l = 0
  · by_cases h2:entsE es = 0
    · by_cases h3:timB t ti
      · by_cases h4:fitE es now = 0
        · have HA0:askE l t es ti now = 0:=by rw [askE_f h1 h2 h3];exact h4
          rw [h1] at hck
          rw [h2] at hen
          have h3b:=h3
          unfold timB at h3b
          rw [decide_eq_true h3b.1] at ht1
          rw [decide_eq_true h3b.2] at ht2
          have hok:=ordP_ok (show ordP 256 hndE Hnd.ky l = 0 from h1)
          have hoe:=ordP_ok (show ordP 4096 entE Ent.ky es = 0 from h2)
          have hgv:∀ W,HndsAt W v l → EntsAt W u es → AmtsAt W z now → Calls Tryz.prog 71 #[v,.int .i64 t,u,.int .i64 ti,z] W (fun e w' => ∃ v',e = .returned v' ∧ HndsAt w' v' (setL l t es ti now) ∧ Below W.heap.size W w'):=fun W h1 h2 h3 => by
            have h:=r29_given l t es ti now v u z W h1 h2 h3 h4 (by have:=hoe.few;omega) (by have:=hok.few;omega) hlen
            rw [putsR_putsK hok.asc] at h
            exact h
          rw [h4] at hft
          clear h1 h2 h3 h4 h3b hok hoe hx hna hlen
          by_cases h5:256 < (setL l t es ti now).length
          · have hlt9:(256:Int) < ((setL l t es ti now).length:Int):=by omega
            rw [show setO l t es ti now = [] from by unfold setO;rw [setE_many HA0 h5];rfl,setE_many HA0 h5]
            clear h5 HA0
            generalize setL l t es ti now = L at *
            have HCK:=Lib.hid hck;clear hck
            have HEN:=Lib.hid hen;clear hen
            have HT1:=Lib.hid ht1;clear ht1
            have HT2:=Lib.hid ht2;clear ht2
            have HFT:=Lib.hid hft;clear hft
            have HGV:=Lib.hid hgv;clear hgv
            go_enter Tryz.func21,Tryz.ntmps21
            go_wp2_with (first | (with_reducible refine ((HCK.out _ HV.out).mono ?_);rintro e w' ⟨rfl,hb⟩;replace HV:=Lib.hid (HndsAt.kept HV.out hb);replace HU:=Lib.hid (EntsAt.kept HU.out hb);replace HZ:=Lib.hid (AmtsAt.kept HZ.out hb);replace HB:=Lib.hid (bch' HB.out hb);clear hb) | (with_reducible refine ((HEN.out _ HU.out).mono ?_);rintro e w' ⟨rfl,hb⟩;replace HV:=Lib.hid (HndsAt.kept HV.out hb);replace HU:=Lib.hid (EntsAt.kept HU.out hb);replace HZ:=Lib.hid (AmtsAt.kept HZ.out hb);replace HB:=Lib.hid (bch' HB.out hb);clear hb) | (with_reducible refine ((HT1.out _).mono ?_);rintro e w' ⟨rfl,rfl⟩) | (with_reducible refine ((HT2.out _).mono ?_);rintro e w' ⟨rfl,rfl⟩) | (with_reducible refine ((HFT.out _ HU.out HZ.out).mono ?_);rintro e w' ⟨rfl,hb⟩;replace HV:=Lib.hid (HndsAt.kept HV.out hb);replace HU:=Lib.hid (EntsAt.kept HU.out hb);replace HZ:=Lib.hid (AmtsAt.kept HZ.out hb);replace HB:=Lib.hid (bch' HB.out hb);clear hb) | ((with_reducible refine ((HGV.out _ HV.out HU.out HZ.out).mono ?_));rintro e w9 ⟨v9,rfl,ho9,hb⟩;obtain ⟨p9,c9,rfl,hR9⟩:=ho9;have HR9:=Lib.hid hR9;clear hR9;replace HV:=Lib.hid (HndsAt.kept HV.out hb);replace HU:=Lib.hid (EntsAt.kept HU.out hb);replace HZ:=Lib.hid (AmtsAt.kept HZ.out hb);replace HB:=Lib.hid (bch' HB.out hb);clear hb))
            go_ret2
            exact SetP.nil rfl HB.out
          · have hlt9:¬ (256:Int) < ((setL l t es ti now).length:Int):=by omega
            rw [show setO l t es ti now = setL l t es ti now from by unfold setO;rw [setE_ok HA0 h5];rfl,setE_ok HA0 h5]
            clear h5 HA0
            generalize setL l t es ti now = L at *
            have HCK:=Lib.hid hck;clear hck
            have HEN:=Lib.hid hen;clear hen
            have HT1:=Lib.hid ht1;clear ht1
            have HT2:=Lib.hid ht2;clear ht2
            have HFT:=Lib.hid hft;clear hft
            have HGV:=Lib.hid hgv;clear hgv
            go_enter Tryz.func21,Tryz.ntmps21
            go_wp2_with (first | (with_reducible refine ((HCK.out _ HV.out).mono ?_);rintro e w' ⟨rfl,hb⟩;replace HV:=Lib.hid (HndsAt.kept HV.out hb);replace HU:=Lib.hid (EntsAt.kept HU.out hb);replace HZ:=Lib.hid (AmtsAt.kept HZ.out hb);replace HB:=Lib.hid (bch' HB.out hb);clear hb) | (with_reducible refine ((HEN.out _ HU.out).mono ?_);rintro e w' ⟨rfl,hb⟩;replace HV:=Lib.hid (HndsAt.kept HV.out hb);replace HU:=Lib.hid (EntsAt.kept HU.out hb);replace HZ:=Lib.hid (AmtsAt.kept HZ.out hb);replace HB:=Lib.hid (bch' HB.out hb);clear hb) | (with_reducible refine ((HT1.out _).mono ?_);rintro e w' ⟨rfl,rfl⟩) | (with_reducible refine ((HT2.out _).mono ?_);rintro e w' ⟨rfl,rfl⟩) | (with_reducible refine ((HFT.out _ HU.out HZ.out).mono ?_);rintro e w' ⟨rfl,hb⟩;replace HV:=Lib.hid (HndsAt.kept HV.out hb);replace HU:=Lib.hid (EntsAt.kept HU.out hb);replace HZ:=Lib.hid (AmtsAt.kept HZ.out hb);replace HB:=Lib.hid (bch' HB.out hb);clear hb) | ((with_reducible refine ((HGV.out _ HV.out HU.out HZ.out).mono ?_));rintro e w9 ⟨v9,rfl,ho9,hb⟩;obtain ⟨p9,c9,rfl,hR9⟩:=ho9;have HR9:=Lib.hid hR9;clear hR9;replace HV:=Lib.hid (HndsAt.kept HV.out hb);replace HU:=Lib.hid (EntsAt.kept HU.out hb);replace HZ:=Lib.hid (AmtsAt.kept HZ.out hb);replace HB:=Lib.hid (bch' HB.out hb);clear hb))
            go_ret2
            exact ⟨_,rfl,⟨_,_,rfl,HR9.out⟩,HB.out⟩
        · have HE0:Hid (¬ askE l t es ti now = 0):=Lib.hid (by rw [askE_f h1 h2 h3];exact h4)
          rw [show setO l t es ti now = [] from by unfold setO;rw [if_neg (by rw [setE_ask HE0.out];exact HE0.out)],setE_ask HE0.out,askE_f h1 h2 h3]
          clear HE0
          rw [h1] at hck
          rw [h2] at hen
          unfold timB at h3
          rw [decide_eq_true h3.1] at ht1
          rw [decide_eq_true h3.2] at ht2
          clear h1 h2 h3
          have hne:((fitE es now:Int) != 0) = true:=by simpa using h4
          generalize fitE es now = m at *
          clear h4
          have HCK:=Lib.hid hck;clear hck
          have HEN:=Lib.hid hen;clear hen
          have HT1:=Lib.hid ht1;clear ht1
          have HT2:=Lib.hid ht2;clear ht2
          have HFT:=Lib.hid hft;clear hft
          go_enter Tryz.func21,Tryz.ntmps21
          go_wp2_with (first | (with_reducible refine ((HCK.out _ HV.out).mono ?_);rintro e w' ⟨rfl,hb⟩;replace HV:=Lib.hid (HndsAt.kept HV.out hb);replace HU:=Lib.hid (EntsAt.kept HU.out hb);replace HZ:=Lib.hid (AmtsAt.kept HZ.out hb);replace HB:=Lib.hid (bch' HB.out hb);clear hb) | (with_reducible refine ((HEN.out _ HU.out).mono ?_);rintro e w' ⟨rfl,hb⟩;replace HV:=Lib.hid (HndsAt.kept HV.out hb);replace HU:=Lib.hid (EntsAt.kept HU.out hb);replace HZ:=Lib.hid (AmtsAt.kept HZ.out hb);replace HB:=Lib.hid (bch' HB.out hb);clear hb) | (with_reducible refine ((HT1.out _).mono ?_);rintro e w' ⟨rfl,rfl⟩) | (with_reducible refine ((HT2.out _).mono ?_);rintro e w' ⟨rfl,rfl⟩) | (with_reducible refine ((HFT.out _ HU.out HZ.out).mono ?_);rintro e w' ⟨rfl,hb⟩;replace HV:=Lib.hid (HndsAt.kept HV.out hb);replace HU:=Lib.hid (EntsAt.kept HU.out hb);replace HZ:=Lib.hid (AmtsAt.kept HZ.out hb);replace HB:=Lib.hid (bch' HB.out hb);clear hb))
          go_ret2
          exact SetP.nil rfl HB.out
      · have HE0:Hid (¬ askE l t es ti now = 0):=Lib.hid (by rw [askE_t h1 h2 h3];decide)
        rw [show setO l t es ti now = [] from by unfold setO;rw [if_neg (by rw [setE_ask HE0.out];exact HE0.out)],setE_ask HE0.out,askE_t h1 h2 h3]
        clear HE0
        rw [h1] at hck
        rw [h2] at hen
        clear h1 h2 hft
        by_cases g1:0 ≤ t ∧ t ≤ 10000000
        · have g2:¬ (0 ≤ ti ∧ ti ≤ 10000000):=fun g => h3 ⟨g1,g⟩
          rw [decide_eq_true g1] at ht1
          rw [decide_eq_false g2] at ht2
          clear g1 g2 h3
          have HCK:=Lib.hid hck;clear hck
          have HEN:=Lib.hid hen;clear hen
          have HT1:=Lib.hid ht1;clear ht1
          have HT2:=Lib.hid ht2;clear ht2
          go_enter Tryz.func21,Tryz.ntmps21
          go_wp2_with (first | (with_reducible refine ((HCK.out _ HV.out).mono ?_);rintro e w' ⟨rfl,hb⟩;replace HV:=Lib.hid (HndsAt.kept HV.out hb);replace HU:=Lib.hid (EntsAt.kept HU.out hb);replace HZ:=Lib.hid (AmtsAt.kept HZ.out hb);replace HB:=Lib.hid (bch' HB.out hb);clear hb) | (with_reducible refine ((HEN.out _ HU.out).mono ?_);rintro e w' ⟨rfl,hb⟩;replace HV:=Lib.hid (HndsAt.kept HV.out hb);replace HU:=Lib.hid (EntsAt.kept HU.out hb);replace HZ:=Lib.hid (AmtsAt.kept HZ.out hb);replace HB:=Lib.hid (bch' HB.out hb);clear hb) | (with_reducible refine ((HT1.out _).mono ?_);rintro e w' ⟨rfl,rfl⟩) | (with_reducible refine ((HT2.out _).mono ?_);rintro e w' ⟨rfl,rfl⟩))
          go_ret2
          exact SetP.nil rfl HB.out
        · rw [decide_eq_false g1] at ht1
          clear g1 h3
          have HCK:=Lib.hid hck;clear hck
          have HEN:=Lib.hid hen;clear hen
          have HT1:=Lib.hid ht1;clear ht1
          have HT2:=Lib.hid ht2;clear ht2
          go_enter Tryz.func21,Tryz.ntmps21
          go_wp2_with (first | (with_reducible refine ((HCK.out _ HV.out).mono ?_);rintro e w' ⟨rfl,hb⟩;replace HV:=Lib.hid (HndsAt.kept HV.out hb);replace HU:=Lib.hid (EntsAt.kept HU.out hb);replace HZ:=Lib.hid (AmtsAt.kept HZ.out hb);replace HB:=Lib.hid (bch' HB.out hb);clear hb) | (with_reducible refine ((HEN.out _ HU.out).mono ?_);rintro e w' ⟨rfl,hb⟩;replace HV:=Lib.hid (HndsAt.kept HV.out hb);replace HU:=Lib.hid (EntsAt.kept HU.out hb);replace HZ:=Lib.hid (AmtsAt.kept HZ.out hb);replace HB:=Lib.hid (bch' HB.out hb);clear hb) | (with_reducible refine ((HT1.out _).mono ?_);rintro e w' ⟨rfl,rfl⟩) | (with_reducible refine ((HT2.out _).mono ?_);rintro e w' ⟨rfl,rfl⟩))
          go_ret2
          exact SetP.nil rfl HB.out
    · have HE0:Hid (¬ askE l t es ti now = 0):=Lib.hid (by rw [askE_e h1 h2];exact h2)
      rw [show setO l t es ti now = [] from by unfold setO;rw [if_neg (by rw [setE_ask HE0.out];exact HE0.out)],setE_ask HE0.out,askE_e h1 h2]
      clear HE0
      rw [h1] at hck
      clear h1 hft ht1 ht2
      have hne:((entsE es:Int) != 0) = true:=by simpa using h2
      generalize entsE es = m at *
      clear h2
      have HCK:=Lib.hid hck;clear hck
      have HEN:=Lib.hid hen;clear hen
      go_enter Tryz.func21,Tryz.ntmps21
      go_wp2_with (first | (with_reducible refine ((HCK.out _ HV.out).mono ?_);rintro e w' ⟨rfl,hb⟩;replace HV:=Lib.hid (HndsAt.kept HV.out hb);replace HU:=Lib.hid (EntsAt.kept HU.out hb);replace HZ:=Lib.hid (AmtsAt.kept HZ.out hb);replace HB:=Lib.hid (bch' HB.out hb);clear hb) | (with_reducible refine ((HEN.out _ HU.out).mono ?_);rintro e w' ⟨rfl,hb⟩;replace HV:=Lib.hid (HndsAt.kept HV.out hb);replace HU:=Lib.hid (EntsAt.kept HU.out hb);replace HZ:=Lib.hid (AmtsAt.kept HZ.out hb);replace HB:=Lib.hid (bch' HB.out hb);clear hb))
      go_ret2
      exact SetP.nil rfl HB.out
  · have HE0:Hid (¬ askE l t es ti now = 0):=Lib.hid (by rw [askE_h h1];exact h1)
    rw [show setO l t es ti now = [] from by unfold setO;rw [if_neg (by rw [setE_ask HE0.out];exact HE0.out)],setE_ask HE0.out,askE_h h1]
    clear HE0
    clear hft ht1 ht2 hen
    have hne:((hnsE l:Int) != 0) = true:=by simpa using h1
    generalize hnsE l = m at *
    clear h1
    have HCK:=Lib.hid hck;clear hck
    go_enter Tryz.func21,Tryz.ntmps21
    go_wp2_with (first | (with_reducible refine ((HCK.out _ HV.out).mono ?_);rintro e w' ⟨rfl,hb⟩;replace HV:=Lib.hid (HndsAt.kept HV.out hb);replace HU:=Lib.hid (EntsAt.kept HU.out hb);replace HZ:=Lib.hid (AmtsAt.kept HZ.out hb);replace HB:=Lib.hid (bch' HB.out hb);clear hb))
    go_ret2
    exact SetP.nil rfl HB.out
end Go.Proofs.YtknlohmkachbmaaGreatDoor

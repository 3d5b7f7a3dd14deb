/-
  
-/
import Derived.Test.YtmjkenlifgmeeaaGreatDoorQzGl
import Derived.Test.YtmjkenlifgmeeaaGreatDoorQzYa
set_option linter.unusedVariables false
set_option linter.unusedSimpArgs false
namespace Lum
open Go Go.RowKit Go.Shelf
open Go.Lib (decDigits itoa)
structure Gn where
  ch:Int
  at_:Int
  lev:Int
  deriving DecidableEq
def gnv (l:List Gn) (i:Nat):Gn:=l[i]?.getD ⟨0,0,0⟩
def SlAt {α:Type} (C:World → Nat → Nat → List α → Prop) (W:World) (v:Value) (l:List α):Prop:=∃ p c,v = .slice p l.length c ∧ l.length ≤ c ∧ (l ≠ [] → ∃ b o,p = Option.some ⟨b,o,none⟩ ∧ b < W.heap.size ∧ C W b o l)
def KeepsC {α:Type} (C:World → Nat → Nat → List α → Prop):Prop:=∀ (W W':World) (b o:Nat) (l:List α) (B:Nat),C W b o l → Below B W W' → b < B → (∀ g,g < W.heap.size → g < B) → C W' b o l
theorem SlAt.below {α:Type} {C:World → Nat → Nat → List α → Prop} (hC:KeepsC C) {W W':World} {v:Value} {l:List α} (h:SlAt C W v l) (hb:Below W.heap.size W W'):SlAt C W' v l:=by
  obtain ⟨p,c,e,hl,h⟩:=h
  refine ⟨p,c,e,hl,fun hn => ?_⟩
  obtain ⟨b,o,e2,hlt,hc⟩:=h hn
  exact ⟨b,o,e2,Nat.lt_of_lt_of_le hlt hb.size,hC W W' b o l _ hc hb hlt (fun _ h => h)⟩
def GnsC (W:World) (b o:Nat) (l:List Gn):Prop:=∀ i,i < l.length → W.cell? ⟨b,o + i * 3,none⟩ = some (.int .i64 (gnv l i).ch) ∧ W.cell? ⟨b,o + i * 3 + 1,none⟩ = some (.int .i64 (gnv l i).at_) ∧ W.cell? ⟨b,o + i * 3 + 2,none⟩ = some (.int .i64 (gnv l i).lev)
theorem GnsC.below {W W':World} {b o B:Nat} {l:List Gn} (h:GnsC W b o l) (hb:Below B W W') (hl:b < B):GnsC W' b o l :=
  fun i hi => ⟨(hb.cell (p:=⟨b,o + i * 3,none⟩) hl).trans (h i hi).1,(hb.cell (p:=⟨b,o + i * 3 + 1,none⟩) hl).trans (h i hi).2.1,(hb.cell (p:=⟨b,o + i * 3 + 2,none⟩) hl).trans (h i hi).2.2⟩
theorem gnsC_keeps:KeepsC GnsC:=fun _ _ _ _ _ _ h hb hl _ => h.below hb hl
abbrev GnsAt:=SlAt GnsC
theorem GnsAt.kept {W W':World} {v:Value} {l:List Gn} (h:GnsAt W v l) (hb:Below W.heap.size W W'):GnsAt W' v l:=SlAt.below gnsC_keeps h hb
def parE (ch at_:Int):Int:=if ch < 1 ∨ 999 < ch ∨ at_ < 0 ∨ 15 ≤ at_ then 2 else 0
theorem parE_out {ch at_:Int} (h:ch < 1 ∨ 999 < ch ∨ at_ < 0 ∨ 15 ≤ at_):parE ch at_ = 2:=by unfold parE;rw [if_pos h]
theorem parE_in {ch at_:Int} (h:¬ (ch < 1 ∨ 999 < ch ∨ at_ < 0 ∨ 15 ≤ at_)):parE ch at_ = 0:=by unfold parE;rw [if_neg h]
theorem parE_zero {ch at_:Int} (h:parE ch at_ = 0):(1 ≤ ch ∧ ch ≤ 999) ∧ 0 ≤ at_ ∧ at_ < 15:=by
  by_cases h1:ch < 1 ∨ 999 < ch ∨ at_ < 0 ∨ 15 ≤ at_
  · rw [parE_out h1] at h;cases h
  · omega
def cmpP (c a d b:Int):Int:=if c ≠ d then c - d else a - b
def befP (c a d b:Int):Prop:=c < d ∨ (c = d ∧ a < b)
instance (c a d b:Int):Decidable (befP c a d b):=by unfold befP;exact inferInstance
theorem cmpP_neg {c a d b:Int}:¬ 0 ≤ cmpP c a d b ↔ befP c a d b:=by
  unfold cmpP befP
  by_cases h:c = d
  · rw [if_neg (by simpa using h)];omega
  · rw [if_pos h];omega
theorem cmpP_zero {c a d b:Int}:cmpP c a d b = 0 ↔ c = d ∧ a = b:=by
  unfold cmpP
  by_cases h:c = d
  · rw [if_neg (by simpa using h)];omega
  · rw [if_pos h];omega
def gaE (inh : Bool) (l : List Gn) : Nat → Nat → Int
  | 0,_ => 0
  | n + 1, i => if parE (gnv l i).ch (gnv l i).at_ ≠ 0 then parE (gnv l i).ch (gnv l i).at_ else if (gnv l i).lev < 0 ∨ 65535 < (gnv l i).lev then 2 else if inh = true ∧ (gnv l i).at_ ≠ 0 then 11
    else if 0 < i ∧ ¬ befP (gnv l (i - 1)).ch (gnv l (i - 1)).at_ (gnv l i).ch (gnv l i).at_ then 9 else gaE inh l n (i + 1)
theorem gaE_par {inh:Bool} {l:List Gn} {n i:Nat} (h:¬ parE (gnv l i).ch (gnv l i).at_ = 0):gaE inh l (n + 1) i = parE (gnv l i).ch (gnv l i).at_:=by rw [gaE,if_pos h]
theorem gaE_lev {inh:Bool} {l:List Gn} {n i:Nat} (h:parE (gnv l i).ch (gnv l i).at_ = 0) (h2:(gnv l i).lev < 0 ∨ 65535 < (gnv l i).lev):gaE inh l (n + 1) i = 2:=by rw [gaE,if_neg (by simpa using h),if_pos h2]
theorem gaE_use {inh:Bool} {l:List Gn} {n i:Nat} (h:parE (gnv l i).ch (gnv l i).at_ = 0) (h2:¬ ((gnv l i).lev < 0 ∨ 65535 < (gnv l i).lev)) (h3:inh = true ∧ (gnv l i).at_ ≠ 0):gaE inh l (n + 1) i = 11:=by rw [gaE,if_neg (by simpa using h),if_neg h2,if_pos h3]
theorem gaE_ord {inh:Bool} {l:List Gn} {n i:Nat} (h:parE (gnv l i).ch (gnv l i).at_ = 0) (h2:¬ ((gnv l i).lev < 0 ∨ 65535 < (gnv l i).lev)) (h3:¬ (inh = true ∧ (gnv l i).at_ ≠ 0)) (h4:0 < i ∧ ¬ befP (gnv l (i - 1)).ch (gnv l (i - 1)).at_ (gnv l i).ch (gnv l i).at_):gaE inh l (n + 1) i = 9:=by rw [gaE,if_neg (by simpa using h),if_neg h2,if_neg h3,if_pos h4]
theorem gaE_go {inh:Bool} {l:List Gn} {n i:Nat} (h:parE (gnv l i).ch (gnv l i).at_ = 0) (h2:¬ ((gnv l i).lev < 0 ∨ 65535 < (gnv l i).lev)) (h3:¬ (inh = true ∧ (gnv l i).at_ ≠ 0)) (h4:¬ (0 < i ∧ ¬ befP (gnv l (i - 1)).ch (gnv l (i - 1)).at_ (gnv l i).ch (gnv l i).at_)):gaE inh l (n + 1) i = gaE inh l n (i + 1):=by rw [gaE,if_neg (by simpa using h),if_neg h2,if_neg h3,if_neg h4]
def subE (nu pr:Int) (inh:Bool) (gs:List Gn):Int:=if nu < 1 ∨ 1048576 < nu ∨ pr < 0 ∨ 9 < pr then 2 else if 128 < gs.length then 5 else gaE inh gs gs.length 0
theorem subE_num {nu pr:Int} {inh:Bool} {gs:List Gn} (h:nu < 1 ∨ 1048576 < nu ∨ pr < 0 ∨ 9 < pr):subE nu pr inh gs = 2:=by unfold subE;rw [if_pos h]
theorem subE_many {nu pr:Int} {inh:Bool} {gs:List Gn} (h:¬ (nu < 1 ∨ 1048576 < nu ∨ pr < 0 ∨ 9 < pr)) (h2:128 < gs.length):subE nu pr inh gs = 5:=by unfold subE;rw [if_neg h,if_pos h2]
theorem subE_gs {nu pr:Int} {inh:Bool} {gs:List Gn} (h:¬ (nu < 1 ∨ 1048576 < nu ∨ pr < 0 ∨ 9 < pr)) (h2:¬ 128 < gs.length):subE nu pr inh gs = gaE inh gs gs.length 0:=by unfold subE;rw [if_neg h,if_neg h2]
structure Sb where
  nu:Int
  pr:Int
  inh:Bool
  gs:List Gn
  deriving DecidableEq
def sbv (l:List Sb) (i:Nat):Sb:=l[i]?.getD ⟨0,0,false,[]⟩
def SbsC (W : World) (b o : Nat) (l : List Sb) : Prop := ∀ i, i < l.length → W.cell? ⟨b, o + i * 4, none⟩ = some (.int .i64 (sbv l i).nu) ∧ W.cell? ⟨b, o + i * 4 + 1, none⟩ = some (.int .i64 (sbv l i).pr) ∧ W.cell? ⟨b, o + i * 4 + 2, none⟩ = some (.bool (sbv l i).inh) ∧
  ∃ gv,W.cell? ⟨b,o + i * 4 + 3,none⟩ = some gv ∧ GnsAt W gv (sbv l i).gs
theorem SbsC.below {W W':World} {b o:Nat} {l:List Sb} (h:SbsC W b o l) (hb:Below W.heap.size W W') (hl:b < W.heap.size):SbsC W' b o l:=fun i hi => by
  obtain ⟨h1,h2,h3,gv,h4,h5⟩:=h i hi
  exact ⟨(hb.cell (p:=⟨b,o + i * 4,none⟩) hl).trans h1,(hb.cell (p:=⟨b,o + i * 4 + 1,none⟩) hl).trans h2,(hb.cell (p:=⟨b,o + i * 4 + 2,none⟩) hl).trans h3,gv,(hb.cell (p:=⟨b,o + i * 4 + 3,none⟩) hl).trans h4,h5.kept hb⟩
def SbsAt (W:World) (v:Value) (l:List Sb):Prop:=∃ p c,v = .slice p l.length c ∧ l.length ≤ c ∧ (l ≠ [] → ∃ b o,p = Option.some ⟨b,o,none⟩ ∧ b < W.heap.size ∧ SbsC W b o l)
theorem SbsAt.kept {W W':World} {v:Value} {l:List Sb} (h:SbsAt W v l) (hb:Below W.heap.size W W'):SbsAt W' v l:=by
  obtain ⟨p,c,e,hl,h⟩:=h
  refine ⟨p,c,e,hl,fun hn => ?_⟩
  obtain ⟨b,o,e2,hlt,hc⟩:=h hn
  exact ⟨b,o,e2,Nat.lt_of_lt_of_le hlt hb.size,hc.below hb hlt⟩
structure Fdr where
  su:Int
  fr:Txt
  tz:Int
  st:Int
  ti:Int
  stp:Int
  deriving DecidableEq
def fdv (l:List Fdr) (i:Nat):Fdr:=l[i]?.getD ⟨0,[],0,0,0,0⟩
def FdsC (W : World) (b o : Nat) (l : List Fdr) : Prop := ∀ i, i < l.length → W.cell? ⟨b, o + i * 6, none⟩ = some (.int .i64 (fdv l i).su) ∧ W.cell? ⟨b, o + i * 6 + 1, none⟩ = some (.string ⟨(fdv l i).fr.toArray⟩) ∧ W.cell? ⟨b, o + i * 6 + 2, none⟩ = some (.int .i64 (fdv l i).tz) ∧
  W.cell? ⟨b,o + i * 6 + 3,none⟩ = some (.int .i64 (fdv l i).st) ∧ W.cell? ⟨b,o + i * 6 + 4,none⟩ = some (.int .i64 (fdv l i).ti) ∧ W.cell? ⟨b,o + i * 6 + 5,none⟩ = some (.int .i64 (fdv l i).stp)
theorem FdsC.below {W W':World} {b o B:Nat} {l:List Fdr} (h:FdsC W b o l) (hb:Below B W W') (hl:b < B):FdsC W' b o l:=fun i hi => by
  obtain ⟨h1,h2,h3,h4,h5,h6⟩:=h i hi
  exact ⟨(hb.cell (p:=⟨b,o + i * 6,none⟩) hl).trans h1,(hb.cell (p:=⟨b,o + i * 6 + 1,none⟩) hl).trans h2,(hb.cell (p:=⟨b,o + i * 6 + 2,none⟩) hl).trans h3,(hb.cell (p:=⟨b,o + i * 6 + 3,none⟩) hl).trans h4,(hb.cell (p:=⟨b,o + i * 6 + 4,none⟩) hl).trans h5,(hb.cell (p:=⟨b,o + i * 6 + 5,none⟩) hl).trans h6⟩
theorem fdsC_keeps:KeepsC FdsC:=fun _ _ _ _ _ _ h hb hl _ => h.below hb hl
abbrev FdsAt:=SlAt FdsC
theorem FdsAt.kept {W W':World} {v:Value} {l:List Fdr} (h:FdsAt W v l) (hb:Below W.heap.size W W'):FdsAt W' v l:=SlAt.below fdsC_keeps h hb
def lastS (l:List Sb) (i:Nat):Int:=if i = 0 then 0 else (sbv l (i - 1)).nu
def lastF (l:List Fdr) (i:Nat):Int:=if i = 0 then 0 else (fdv l (i - 1)).su
def sbE (s:Sb):Int:=subE s.nu s.pr s.inh s.gs
def fgE (f:Fdr):Int:=glE f.fr f.tz f.st f.ti
def tuE (l : List Sb) : Nat → Nat → Int
  | 0,_ => 0
  | n + 1,i => if sbE (sbv l i) ≠ 0 then sbE (sbv l i) else if (sbv l i).nu ≤ lastS l i then 9 else tuE l n (i + 1)
def tabE (l:List Sb):Int:=if 16 < l.length then 5 else tuE l l.length 0
def fuE (l : List Fdr) : Nat → Nat → Int
  | 0,_ => 0
  | n + 1,i => if (fdv l i).su < 1 ∨ 1048576 < (fdv l i).su then 2 else if fgE (fdv l i) ≠ 0 then fgE (fdv l i) else if (fdv l i).stp < 0 ∨ 10000000 < (fdv l i).stp then 2 else if (fdv l i).su ≤ lastF l i then 9 else fuE l n (i + 1)
theorem fuE_su {l:List Fdr} {n i:Nat} (h:(fdv l i).su < 1 ∨ 1048576 < (fdv l i).su):fuE l (n + 1) i = 2:=by rw [fuE,if_pos h]
theorem fuE_gl {l:List Fdr} {n i:Nat} (h:¬ ((fdv l i).su < 1 ∨ 1048576 < (fdv l i).su)) (h2:¬ fgE (fdv l i) = 0):fuE l (n + 1) i = fgE (fdv l i):=by rw [fuE,if_neg h,if_pos h2]
theorem fuE_stp {l:List Fdr} {n i:Nat} (h:¬ ((fdv l i).su < 1 ∨ 1048576 < (fdv l i).su)) (h2:fgE (fdv l i) = 0) (h3:(fdv l i).stp < 0 ∨ 10000000 < (fdv l i).stp):fuE l (n + 1) i = 2:=by rw [fuE,if_neg h,if_neg (by simpa using h2),if_pos h3]
theorem fuE_ord {l:List Fdr} {n i:Nat} (h:¬ ((fdv l i).su < 1 ∨ 1048576 < (fdv l i).su)) (h2:fgE (fdv l i) = 0) (h3:¬ ((fdv l i).stp < 0 ∨ 10000000 < (fdv l i).stp)) (h4:(fdv l i).su ≤ lastF l i):fuE l (n + 1) i = 9:=by rw [fuE,if_neg h,if_neg (by simpa using h2),if_neg h3,if_pos h4]
theorem fuE_go {l:List Fdr} {n i:Nat} (h:¬ ((fdv l i).su < 1 ∨ 1048576 < (fdv l i).su)) (h2:fgE (fdv l i) = 0) (h3:¬ ((fdv l i).stp < 0 ∨ 10000000 < (fdv l i).stp)) (h4:¬ (fdv l i).su ≤ lastF l i):fuE l (n + 1) i = fuE l n (i + 1):=by rw [fuE,if_neg h,if_neg (by simpa using h2),if_neg h3,if_neg h4]
def facE (l:List Fdr):Int:=if 16 < l.length then 5 else fuE l l.length 0
theorem facE_many {l:List Fdr} (h:16 < l.length):facE l = 5:=by unfold facE;rw [if_pos h]
theorem facE_few {l:List Fdr} (h:¬ 16 < l.length):facE l = fuE l l.length 0:=by unfold facE;rw [if_neg h]
end Lum
namespace Lum
open Go Go.RowKit Go.Shelf
open Go.Lib (decDigits itoa)
theorem gnv_at {l:List Gn} {i:Nat} (h:i < l.length):l[i]'h = gnv l i:=by unfold gnv;rw [List.getElem?_eq_getElem h];rfl
theorem fdv_at {l:List Fdr} {i:Nat} (h:i < l.length):l[i]'h = fdv l i:=by unfold fdv;rw [List.getElem?_eq_getElem h];rfl
theorem gaE_zero {inh : Bool} {l : List Gn} : ∀ (n i : Nat), i + n = l.length → gaE inh l n i = 0 → ∀ j, i ≤ j → j < l.length →
    parE (gnv l j).ch (gnv l j).at_ = 0 ∧ (0 ≤ (gnv l j).lev ∧ (gnv l j).lev ≤ 65535) ∧ (0 < j → befP (gnv l (j - 1)).ch (gnv l (j - 1)).at_ (gnv l j).ch (gnv l j).at_):=by
  intro n
  induction n with
  | zero => intro i h _ j h1 h2;omega
  | succ n ih =>
    intro i h h0 j h1 h2
    by_cases c1:parE (gnv l i).ch (gnv l i).at_ = 0
    · by_cases c2:(gnv l i).lev < 0 ∨ 65535 < (gnv l i).lev
      · rw [gaE_lev c1 c2] at h0;omega
      by_cases c3:inh = true ∧ (gnv l i).at_ ≠ 0
      · rw [gaE_use c1 c2 c3] at h0;omega
      by_cases c4:0 < i ∧ ¬ befP (gnv l (i - 1)).ch (gnv l (i - 1)).at_ (gnv l i).ch (gnv l i).at_
      · rw [gaE_ord c1 c2 c3 c4] at h0;omega
      rw [gaE_go c1 c2 c3 c4] at h0
      by_cases e:j = i
      · subst e;exact ⟨c1,by omega,fun h => Decidable.not_not.1 fun g => c4 ⟨h,g⟩⟩
      · exact ih (i + 1) (by omega) h0 j (by omega) h2
    · rw [gaE_par c1] at h0;exact absurd h0 c1
structure SubOk (s : Sb) : Prop where
  nu0:1 ≤ s.nu
  nu1:s.nu ≤ 1048576
  pr:0 ≤ s.pr ∧ s.pr ≤ 9
  few:s.gs.length ≤ 128
  par:∀ j,j < s.gs.length → parE (gnv s.gs j).ch (gnv s.gs j).at_ = 0
  lev:∀ j,j < s.gs.length → 0 ≤ (gnv s.gs j).lev ∧ (gnv s.gs j).lev ≤ 65535
  bef:∀ j,j < s.gs.length → ∀ i,i < j → befP (gnv s.gs i).ch (gnv s.gs i).at_ (gnv s.gs j).ch (gnv s.gs j).at_
theorem befP_trans {c a d b e f:Int} (h1:befP c a d b) (h2:befP d b e f):befP c a e f:=by unfold befP at *;omega
theorem bef_all {l:List Gn} (h:∀ j,j < l.length → 0 < j → befP (gnv l (j - 1)).ch (gnv l (j - 1)).at_ (gnv l j).ch (gnv l j).at_):∀ j,j < l.length → ∀ i,i < j → befP (gnv l i).ch (gnv l i).at_ (gnv l j).ch (gnv l j).at_:=by
  intro j
  induction j with
  | zero => intro _ i hi;omega
  | succ j ih =>
    intro hj i hi
    have h1:=h (j + 1) hj (by omega)
    rw [Nat.add_sub_cancel] at h1
    by_cases e:i = j
    · subst e;exact h1
    · exact befP_trans (ih (by omega) i (by omega)) h1
theorem subOk {s:Sb} (h:sbE s = 0):SubOk s:=by
  unfold sbE at h
  by_cases h1:s.nu < 1 ∨ 1048576 < s.nu ∨ s.pr < 0 ∨ 9 < s.pr
  · rw [subE_num h1] at h;omega
  by_cases h2:128 < s.gs.length
  · rw [subE_many h1 h2] at h;omega
  rw [subE_gs h1 h2] at h
  have hz:=gaE_zero _ 0 (by omega) h
  exact ⟨by omega,by omega,by omega,by omega,fun j hj => (hz j (by omega) hj).1,fun j hj => (hz j (by omega) hj).2.1,bef_all fun j hj => (hz j (by omega) hj).2.2⟩
theorem num_all {c:Nat → Int} {n:Nat} (h:∀ j,j + 1 < n → c j < c (j + 1)):∀ j,j < n → ∀ i,i < j → c i < c j:=by
  intro j
  induction j with
  | zero => intro _ i hi;omega
  | succ j ih =>
    intro hj i hi
    have h1:=h j hj
    by_cases e:i = j
    · subst e;exact h1
    · have:=ih (by omega) i (by omega);omega
structure TabOk (l : List Sb) : Prop where
  few:l.length ≤ 16
  ok:∀ j,j < l.length → sbE (sbv l j) = 0
  ord:∀ j,j < l.length → ∀ i,i < j → (sbv l i).nu < (sbv l j).nu
theorem fuE_zero {l:List Fdr}:∀ (n i:Nat),i + n = l.length → fuE l n i = 0 → ∀ j,i ≤ j → j < l.length → (1 ≤ (fdv l j).su ∧ (fdv l j).su ≤ 1048576) ∧ fgE (fdv l j) = 0 ∧ (0 ≤ (fdv l j).stp ∧ (fdv l j).stp ≤ 10000000) ∧ lastF l j < (fdv l j).su:=by
  intro n
  induction n with
  | zero => intro i h _ j h1 h2;omega
  | succ n ih =>
    intro i h h0 j h1 h2
    by_cases c0:(fdv l i).su < 1 ∨ 1048576 < (fdv l i).su
    · rw [fuE_su c0] at h0;omega
    by_cases c1:fgE (fdv l i) = 0
    · by_cases c2:(fdv l i).stp < 0 ∨ 10000000 < (fdv l i).stp
      · rw [fuE_stp c0 c1 c2] at h0;omega
      by_cases c3:(fdv l i).su ≤ lastF l i
      · rw [fuE_ord c0 c1 c2 c3] at h0;omega
      rw [fuE_go c0 c1 c2 c3] at h0
      by_cases e:j = i
      · subst e;exact ⟨by omega,c1,by omega,by omega⟩
      · exact ih (i + 1) (by omega) h0 j (by omega) h2
    · rw [fuE_gl c0 c1] at h0;exact absurd h0 c1
structure FacOk (l : List Fdr) : Prop where
  few:l.length ≤ 16
  su:∀ j,j < l.length → 1 ≤ (fdv l j).su ∧ (fdv l j).su ≤ 1048576
  gl:∀ j,j < l.length → fgE (fdv l j) = 0
  stp:∀ j,j < l.length → 0 ≤ (fdv l j).stp ∧ (fdv l j).stp ≤ 10000000
  ord:∀ j,j < l.length → ∀ i,i < j → (fdv l i).su < (fdv l j).su
theorem facOk {l:List Fdr} (h:facE l = 0):FacOk l:=by
  by_cases h1:16 < l.length
  · rw [facE_many h1] at h;omega
  rw [facE_few h1] at h
  have hz:=fuE_zero _ 0 (by omega) h
  exact ⟨by omega,fun j hj => (hz j (by omega) hj).1,fun j hj => (hz j (by omega) hj).2.1,fun j hj => (hz j (by omega) hj).2.2.1,num_all fun j hj => (hz (j + 1) (by omega) hj).2.2.2⟩
-- found
def fadD (nu:Int) (inh:Bool):Fdr:=if inh then ⟨nu,[54,53,53,51,53],65535,0,0,0⟩ else ⟨nu,[48],0,0,0,0⟩
def fadG (nu:Int) (inh:Bool) (l:List Fdr):Fdr:=match l.find? (fun f => f.su == nu) with | some f => f | none => fadD nu inh
theorem fadG_at {nu:Int} {inh:Bool} {l:List Fdr} {i:Nat} (h:i < l.length) (hp:(fdv l i).su = nu) (hb:∀ j,j < i → (fdv l j).su ≠ nu):fadG nu inh l = fdv l i:=by
  unfold fadG
  rw [find_at h (by rw [fdv_at h];simpa using hp) (fun j hj => by rw [fdv_at (by omega)];simpa using hb j hj),fdv_at h]
theorem fadG_no {nu:Int} {inh:Bool} {l:List Fdr} (hb:∀ j,j < l.length → (fdv l j).su ≠ nu):fadG nu inh l = fadD nu inh:=by
  unfold fadG
  rw [find_no (fun j hj => by rw [fdv_at hj];simpa using hb j hj)]
def gnG (gs:List Gn) (ch at_:Int):Option Int:=(gs.find? (fun g => g.ch == ch && g.at_ == at_)).map (·.lev)
theorem gnG_at {gs:List Gn} {ch at_:Int} {i:Nat} (h:i < gs.length) (hp:(gnv gs i).ch = ch ∧ (gnv gs i).at_ = at_) (hb:∀ j,j < i → ¬ ((gnv gs j).ch = ch ∧ (gnv gs j).at_ = at_)):gnG gs ch at_ = some (gnv gs i).lev:=by
  unfold gnG
  rw [find_at h (by rw [gnv_at h];simpa using hp) (fun j hj => by rw [gnv_at (by omega)];simpa using hb j hj),gnv_at h];rfl
theorem gnG_no {gs:List Gn} {ch at_:Int} (hb:∀ j,j < gs.length → ¬ ((gnv gs j).ch = ch ∧ (gnv gs j).at_ = at_)):gnG gs ch at_ = none:=by
  unfold gnG
  rw [find_no (fun j hj => by rw [gnv_at hj];simpa using hb j hj)];rfl
theorem fac_hit {l:List Fdr} {nu:Int} {inh:Bool} {i:Nat} (h:FacOk l) (hh:Halved (fun k => (fdv l k).su - nu) l.length i):fadG nu inh l = (if i < l.length ∧ (fdv l i).su - nu = 0 then fdv l i else fadD nu inh):=by
  have hu:=num_hit (c:=fun k => (fdv l k).su) h.ord hh
  by_cases c:i < l.length ∧ (fdv l i).su - nu = 0
  · rw [if_pos c]
    exact fadG_at c.1 (by omega) (fun j hj e => by have:=hu j (by omega) e;omega)
  · rw [if_neg c]
    exact fadG_no (fun j hj e => by have h4:=hu j hj e;subst h4;exact c ⟨hj,by omega⟩)
theorem gns_hit {gs : List Gn} {ch at_ : Int} {i : Nat} (hs : ∀ j, j < gs.length → ∀ k, k < j → befP (gnv gs k).ch (gnv gs k).at_ (gnv gs j).ch (gnv gs j).at_) (hh : Halved (fun k => cmpP (gnv gs k).ch (gnv gs k).at_ ch at_) gs.length i) :
    gnG gs ch at_ = (if i < gs.length ∧ cmpP (gnv gs i).ch (gnv gs i).at_ ch at_ = 0 then some (gnv gs i).lev else none):=by
  obtain ⟨h1,h2,h3⟩:=hh
  dsimp only at h2 h3
  have hu:∀ j,j < gs.length → ((gnv gs j).ch = ch ∧ (gnv gs j).at_ = at_) → j = i:=by
    intro j hj ⟨e1,e2⟩
    rcases Nat.lt_trichotomy j i with g | g | g
    · have h4:=cmpP_neg.1 (Int.not_le.2 (h2 (by omega)))
      by_cases e:j = i - 1
      · subst e;rw [e1,e2] at h4;unfold befP at h4;omega
      · have h5:=befP_trans (hs (i - 1) (by omega) j (by omega)) h4
        rw [e1,e2] at h5;unfold befP at h5;omega
    · exact g
    · have h4:=hs j hj i g
      rw [e1,e2] at h4
      exact absurd (h3 (by omega)) (cmpP_neg.2 h4)
  by_cases c:i < gs.length ∧ cmpP (gnv gs i).ch (gnv gs i).at_ ch at_ = 0
  · rw [if_pos c]
    exact gnG_at c.1 (cmpP_zero.1 c.2) (fun j hj e => by have:=hu j (by omega) e;omega)
  · rw [if_neg c]
    exact gnG_no (fun j hj e => by have h4:=hu j hj e;subst h4;exact c ⟨hj,cmpP_zero.2 e⟩)
theorem fadD_fg (nu:Int) (inh:Bool):fgE (fadD nu inh) = 0:=by
  cases inh
  · show glE [48] 0 0 0 = 0;decide +kernel
  · show glE [54,53,53,51,53] 65535 0 0 = 0;decide +kernel
theorem fadD_len (nu:Int) (inh:Bool):(fadD nu inh).fr.length ≤ 60:=by
  cases inh
  · show List.length [48] ≤ 60;decide
  · show List.length [54,53,53,51,53] ≤ 60;decide
theorem fadG_or (nu:Int) (inh:Bool) (l:List Fdr):(∃ i,i < l.length ∧ fadG nu inh l = fdv l i) ∨ fadG nu inh l = fadD nu inh:=by
  unfold fadG
  cases h:l.find? (fun f => f.su == nu) with
  | none => exact .inr rfl
  | some f =>
    obtain ⟨j,hj,e⟩:=List.getElem_of_mem (List.mem_of_find?_eq_some h)
    exact .inl ⟨j,hj,by rw [← fdv_at hj,e]⟩
theorem fadG_fg {nu:Int} {inh:Bool} {l:List Fdr} (h:FacOk l):fgE (fadG nu inh l) = 0:=by
  rcases fadG_or nu inh l with ⟨i,hi,e⟩ | e
  · rw [e];exact h.gl i hi
  · rw [e];exact fadD_fg nu inh
theorem fadG_lenK {nu:Int} {inh:Bool} {l:List Fdr} (h:∀ i,i < l.length → (fdv l i).fr.length ≤ 1000):(fadG nu inh l).fr.length ≤ 1000:=by
  rcases fadG_or nu inh l with ⟨i,hi,e⟩ | e
  · rw [e];exact h i hi
  · rw [e];exact Nat.le_trans (fadD_len nu inh) (by decide)
theorem fadG_len {nu:Int} {inh:Bool} {l:List Fdr} (h:∀ i,i < l.length → (fdv l i).fr.length ≤ 60):(fadG nu inh l).fr.length ≤ 60:=by
  rcases fadG_or nu inh l with ⟨i,hi,e⟩ | e
  · rw [e];exact h i hi
  · rw [e];exact fadD_len nu inh
def fadL (f:Fdr) (t:Int):Rat:=glV (valR f.fr) f.tz f.st f.ti t
def lvlQ (nu:Int) (inh:Bool) (l:List Fdr) (t:Int):Rat:=fadL (fadG nu inh l) t
def losQ (g:Int) (q:Rat):Rat:=1 - ((((65535:Int):Rat) - q) * Rat.divInt g 65535) / ((65535:Int):Rat)
def sclQ (s:Sb) (l:List Fdr) (ch t:Int):Rat:=match gnG s.gs ch 0 with | some g => if s.inh then losQ g (lvlQ s.nu s.inh l t) else 1 | none => 1
theorem gnG_range {s:Sb} {ch at_ g:Int} (h:SubOk s) (hg:gnG s.gs ch at_ = some g):0 ≤ g ∧ g ≤ 65535:=by
  unfold gnG at hg
  rw [Option.map_eq_some_iff] at hg
  obtain ⟨x,hx,rfl⟩:=hg
  obtain ⟨j,hj,e⟩:=List.getElem_of_mem (List.mem_of_find?_eq_some hx)
  rw [← e,gnv_at hj];exact h.lev j hj
theorem glq {fr:Txt} {tz st ti:Int} (h:glE fr tz st ti = 0):∃ q,fr = showR q ∧ valR fr = q ∧ (0 ≤ q ∧ q ≤ ((65535:Int):Rat)) ∧ (0 ≤ tz ∧ tz ≤ 65535) ∧ ((0 ≤ st ∧ st ≤ 10000000) ∧ (0 ≤ ti ∧ ti ≤ 10000000)):=by
  obtain ⟨h1,h2,h3⟩:=glE_zero h
  obtain ⟨q,rfl,h4,h5⟩:=levE_zero h1
  exact ⟨q,rfl,valR_showR q,⟨h4,h5⟩,h2,h3⟩
theorem fadL_fits {f:Fdr} (t:Int) (h:fgE f = 0) (hl:f.fr.length ≤ 60):Fits 182 (fadL f t):=by
  unfold fgE at h
  obtain ⟨q,e1,e2,-,h2,h3,h4⟩:=glq h
  unfold fadL
  rw [e2]
  exact glV_fits t (fits_of_len (k:=60) (by rw [← e1];exact hl)) h2.1 h2.2 h3.1 h3.2 h4.2
theorem div65_fits {g:Int} (h0:0 ≤ g) (h1:g ≤ 65535):Fits 5 (Rat.divInt g 65535):=by
  have h5:(10:Nat) ^ 5 = 100000:=by decide
  exact divInt_fits g 65535 (by decide) 5 ((dl_le (by omega)).2 (by rw [h5];omega)) ((dl_le (by omega)).2 (by rw [h5];decide))
end Lum

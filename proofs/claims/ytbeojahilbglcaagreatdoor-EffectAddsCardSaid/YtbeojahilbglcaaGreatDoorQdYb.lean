/- A part of the proof of EffectAdds: contracts of functions, and plain facts. -/
import Derived.Test.YtbeojahilbglcaaGreatDoorQdWp
import Derived.Test.YtbeojahilbglcaaGreatDoorQdKe
import Derived.Test.YtbeojahilbglcaaGreatDoorQdYa
set_option linter.unusedVariables false
set_option linter.unusedSimpArgs false
namespace Lum
open Go Go.RowKit Go.Shelf
open Go.Lib (decDigits itoa)
def lowB : Option Int → Int → Bool
  | some k,z => decide (z ≤ k)
  | none,_ => false
def ordG {α : Type} (err key : α → Int) : List α → Option Int → Int
  | [],_ => 0
  | x :: r,p => if err x ≠ 0 then err x else if lowB p (key x) = true then 9 else ordG err key r (some (key x))
abbrev ordF {α:Type} (err key:α → Int) (p:Option Int) (l:List α):Int:=ordG err key l p
theorem ordF_cons {α:Type} (err key:α → Int) (p:Option Int) (x:α) (r:List α):ordF err key p (x :: r) = if err x ≠ 0 then err x else if lowB p (key x) = true then 9 else ordF err key (some (key x)) r:=rfl
def prevK {α:Type} (key:α → Int) (l:List α) (i:Nat):Option Int:=if i = 0 then none else (l[i - 1]?).map key
theorem prevK_zero {α:Type} (key:α → Int) (l:List α):prevK key l 0 = none:=rfl
theorem prevK_succ {α:Type} (key:α → Int) {l:List α} {i:Nat} (h:i < l.length):prevK key l (i + 1) = some (key (l[i]'h)):=by
  unfold prevK
  rw [if_neg (by omega),Nat.add_sub_cancel,List.getElem?_eq_getElem h];rfl
theorem ordF_err {α:Type} {err key:α → Int} {l:List α} {p:Option Int} {i:Nat} (h:i < l.length) (e:¬ err (l[i]'h) = 0):ordF err key p (l.drop i) = err (l[i]'h):=by
  rw [List.drop_eq_getElem_cons h,ordF_cons,if_pos e]
theorem ordF_low {α:Type} {err key:α → Int} {l:List α} {i:Nat} (h:i + 1 < l.length) (e:err (l[i + 1]'h) = 0) (k:key (l[i + 1]'h) ≤ key (l[i]'(Nat.lt_of_succ_lt h))):ordF err key (prevK key l (i + 1)) (l.drop (i + 1)) = 9:=by
  rw [List.drop_eq_getElem_cons h,ordF_cons,if_neg (by simpa using e),prevK_succ key (Nat.lt_of_succ_lt h)]
  exact if_pos (decide_eq_true k)
theorem ordF_first {α:Type} {err key:α → Int} {l:List α} (h:0 < l.length) (e:err (l[0]'h) = 0):ordF err key (prevK key l 0) (l.drop 0) = ordF err key (prevK key l 1) (l.drop 1):=by
  rw [List.drop_eq_getElem_cons h,ordF_cons,if_neg (by simpa using e),prevK_zero,prevK_succ key h]
  exact if_neg (by simp [lowB])
theorem ordF_next {α:Type} {err key:α → Int} {l:List α} {i:Nat} (h:i + 1 < l.length) (e:err (l[i + 1]'h) = 0) (k:¬ key (l[i + 1]'h) ≤ key (l[i]'(Nat.lt_of_succ_lt h))):ordF err key (prevK key l (i + 1)) (l.drop (i + 1)) = ordF err key (prevK key l (i + 1 + 1)) (l.drop (i + 1 + 1)):=by
  rw [List.drop_eq_getElem_cons h,ordF_cons,if_neg (by simpa using e),prevK_succ key (Nat.lt_of_succ_lt h),prevK_succ key h]
  exact if_neg (by simpa [lowB] using k)
theorem ordF_end {α:Type} {err key:α → Int} {l:List α} {p:Option Int}:ordF err key p (l.drop l.length) = 0:=by rw [List.drop_length];rfl
def ordE {α:Type} (err key:α → Int) (l:List α):Int:=if 16 < l.length then 5 else ordF err key none l
theorem ordE_many {α:Type} {err key:α → Int} {l:List α} (h:16 < l.length):ordE err key l = 5:=by unfold ordE;rw [if_pos h]
theorem ordE_few {α:Type} {err key:α → Int} {l:List α} (h:¬ 16 < l.length):ordE err key l = ordF err key (prevK key l 0) (l.drop 0):=by unfold ordE;rw [if_neg h];rfl
structure OrdOk {α : Type} (err key : α → Int) (l : List α) : Prop where
  few:l.length ≤ 16
  ok:∀ j (h:j < l.length),err (l[j]'h) = 0
  asc:List.Pairwise (fun a b => key a < key b) l
theorem ordF_ok {α:Type} {err key:α → Int}:∀ (l:List α) (p:Option Int),ordF err key p l = 0 → (∀ x ∈ l,err x = 0) ∧ List.Pairwise (fun a b => key a < key b) l ∧ (∀ k,p = some k → ∀ x ∈ l,k < key x):=by
  intro l
  induction l with
  | nil => intro p _;exact ⟨(fun x h => by cases h),List.Pairwise.nil,(fun k _ x h => by cases h)⟩
  | cons x r ih =>
    intro p h
    rw [ordF_cons] at h
    by_cases e:err x = 0
    · rw [if_neg (by simpa using e)] at h
      by_cases c:lowB p (key x) = true
      · rw [if_pos c] at h;cases h
      · rw [if_neg c] at h
        obtain ⟨h1,h2,h3⟩:=ih _ h
        have h4:=h3 (key x) rfl
        refine ⟨fun y hy => ?_,List.Pairwise.cons (fun y hy => h4 y hy) h2,fun k hk y hy => ?_⟩
        · rcases List.mem_cons.1 hy with rfl | hy
          · exact e
          · exact h1 y hy
        · subst hk
          have h5:k < key x:=by simpa [lowB] using c
          rcases List.mem_cons.1 hy with rfl | hy
          · exact h5
          · exact Int.lt_trans h5 (h4 y hy)
    · rw [if_pos e] at h;exact absurd h e
theorem ordOk {α:Type} {err key:α → Int} {l:List α} (h:ordE err key l = 0):OrdOk err key l:=by
  by_cases c:16 < l.length
  · rw [ordE_many c] at h;cases h
  · unfold ordE at h
    rw [if_neg c] at h
    obtain ⟨h1,h2,-⟩:=ordF_ok l none h
    exact ⟨by omega,fun j hj => h1 _ (List.getElem_mem hj),h2⟩
structure Efx where
  nu:Int
  at_:Int
  wv:List (Int × Int)
  pe:Int
  sp:Int
  sz:Int
structure Rnx where
  ef:Int
  cs:List Int
  ce:Int
  cr:Int
  cd:Int
  cl:Int
abbrev Sl3:=Option Addr × Nat × Nat
def encE (x:Efx × Sl3):List Value:=[.int .i64 x.1.nu,.int .i64 x.1.at_,.slice x.2.1 x.2.2.1 x.2.2.2,.int .i64 x.1.pe,.int .i64 x.1.sp,.int .i64 x.1.sz]
def encN (x:Rnx × Sl3):List Value:=[.int .i64 x.1.ef,.slice x.2.1 x.2.2.1 x.2.2.2,.int .i64 x.1.ce,.int .i64 x.1.cr,.int .i64 x.1.cd,.int .i64 x.1.cl]
theorem encN_len (x:Rnx × Sl3):(encN x).length = 6:=rfl
theorem encN_one (x:Rnx × Sl3):∀ u ∈ encN x,u.oneCell' = true:=by
  intro u hu
  simp only [encN,List.mem_cons,List.not_mem_nil,or_false] at hu
  rcases hu with rfl | rfl | rfl | rfl | rfl | rfl <;> rfl
def HasW (W:World) (L:List (Efx × Sl3)):Prop:=∀ x ∈ L,PtsAt W (.slice x.2.1 x.2.2.1 x.2.2.2) x.1.wv
def HasC (W:World) (L:List (Rnx × Sl3)):Prop:=∀ x ∈ L,IntsAt W (.slice x.2.1 x.2.2.1 x.2.2.2) x.1.cs ∧ x.1.cs.length ≤ x.2.2.2
theorem HasC.kept {W W':World} {L:List (Rnx × Sl3)} (h:HasC W L) (hb:Below W.heap.size W W'):HasC W' L:=fun x hx => ⟨IntsAt.below (h x hx).1 hb,(h x hx).2⟩
def efE (x:Efx):Int:=if x.nu < 1 ∨ 1048576 < x.nu ∨ x.at_ < 0 ∨ 15 ≤ x.at_ then 2 else if wvE x.wv ≠ 0 then wvE x.wv else if x.pe < 1 ∨ 10000000 < x.pe ∨ x.sp < 0 ∨ 1000 < x.sp ∨ x.sz < 0 ∨ 65535 < x.sz then 2 else 0
theorem efE_num {x:Efx} (h:x.nu < 1 ∨ 1048576 < x.nu ∨ x.at_ < 0 ∨ 15 ≤ x.at_):efE x = 2:=by unfold efE;rw [if_pos h]
theorem efE_wv {x:Efx} (h:¬ (x.nu < 1 ∨ 1048576 < x.nu ∨ x.at_ < 0 ∨ 15 ≤ x.at_)) (h2:¬ wvE x.wv = 0):efE x = wvE x.wv:=by unfold efE;rw [if_neg h,if_pos h2]
theorem efE_pe {x:Efx} (h:¬ (x.nu < 1 ∨ 1048576 < x.nu ∨ x.at_ < 0 ∨ 15 ≤ x.at_)) (h2:wvE x.wv = 0) (h3:x.pe < 1 ∨ 10000000 < x.pe ∨ x.sp < 0 ∨ 1000 < x.sp ∨ x.sz < 0 ∨ 65535 < x.sz):efE x = 2:=by unfold efE;rw [if_neg h,if_neg (by simpa using h2),if_pos h3]
theorem efE_ok {x:Efx} (h:¬ (x.nu < 1 ∨ 1048576 < x.nu ∨ x.at_ < 0 ∨ 15 ≤ x.at_)) (h2:wvE x.wv = 0) (h3:¬ (x.pe < 1 ∨ 10000000 < x.pe ∨ x.sp < 0 ∨ 1000 < x.sp ∨ x.sz < 0 ∨ 65535 < x.sz)):efE x = 0:=by unfold efE;rw [if_neg h,if_neg (by simpa using h2),if_neg h3]
structure EfOk (x : Efx) : Prop where
  nu:1 ≤ x.nu ∧ x.nu ≤ 1048576
  at_:0 ≤ x.at_ ∧ x.at_ < 15
  wv:wvE x.wv = 0
  pe:1 ≤ x.pe ∧ x.pe ≤ 10000000
  sp:0 ≤ x.sp ∧ x.sp ≤ 1000
  sz:0 ≤ x.sz ∧ x.sz ≤ 65535
theorem efOk {x:Efx} (h:efE x = 0):EfOk x:=by
  by_cases h1:x.nu < 1 ∨ 1048576 < x.nu ∨ x.at_ < 0 ∨ 15 ≤ x.at_
  · rw [efE_num h1] at h;cases h
  by_cases h2:wvE x.wv = 0
  · by_cases h3:x.pe < 1 ∨ 10000000 < x.pe ∨ x.sp < 0 ∨ 1000 < x.sp ∨ x.sz < 0 ∨ 65535 < x.sz
    · rw [efE_pe h1 h2 h3] at h;cases h
    · exact ⟨by omega,by omega,h2,by omega,by omega,by omega⟩
  · rw [efE_wv h1 h2] at h;exact absurd h h2
def chF (l : List Int) : Nat → Nat → Int
  | 0,_ => 0
  | n + 1,i => if inI l i < 1 ∨ 999 < inI l i then 2 else if (l.take i).contains (inI l i) = true then 7 else chF l n (i + 1)
theorem chF_out {l:List Int} {n i:Nat} (h:inI l i < 1 ∨ 999 < inI l i):chF l (n + 1) i = 2:=by rw [chF,if_pos h]
theorem chF_two {l:List Int} {n i:Nat} (h:¬ (inI l i < 1 ∨ 999 < inI l i)) (h2:(l.take i).contains (inI l i) = true):chF l (n + 1) i = 7:=by rw [chF,if_neg h,if_pos h2]
theorem chF_go {l:List Int} {n i:Nat} (h:¬ (inI l i < 1 ∨ 999 < inI l i)) (h2:(l.take i).contains (inI l i) = false):chF l (n + 1) i = chF l n (i + 1):=by rw [chF,if_neg h,if_neg (by rw [h2];decide)]
def chE (l:List Int):Int:=if l.length = 0 then 12 else if 256 < l.length then 5 else chF l l.length 0
theorem chE_no {l:List Int} (h:l.length = 0):chE l = 12:=by unfold chE;rw [if_pos h]
theorem chE_many {l:List Int} (h:256 < l.length):chE l = 5:=by unfold chE;rw [if_neg (by omega),if_pos h]
theorem chE_few {l:List Int} (h:¬ l.length = 0) (h2:¬ 256 < l.length):chE l = chF l l.length 0:=by unfold chE;rw [if_neg h,if_neg h2]
def rnE (x:Rnx):Int:=if x.ef < 1 ∨ 1048576 < x.ef then 2 else if chE x.cs ≠ 0 then chE x.cs else ckE x.ce x.cr x.cd x.cl
theorem rnE_ef {x:Rnx} (h:x.ef < 1 ∨ 1048576 < x.ef):rnE x = 2:=by unfold rnE;rw [if_pos h]
theorem rnE_ch {x:Rnx} (h:¬ (x.ef < 1 ∨ 1048576 < x.ef)) (h2:¬ chE x.cs = 0):rnE x = chE x.cs:=by unfold rnE;rw [if_neg h,if_pos h2]
theorem rnE_ck {x:Rnx} (h:¬ (x.ef < 1 ∨ 1048576 < x.ef)) (h2:chE x.cs = 0):rnE x = ckE x.ce x.cr x.cd x.cl:=by unfold rnE;rw [if_neg h,if_neg (by simpa using h2)]
theorem chF_zero {l:List Int}:∀ (n i:Nat),i + n = l.length → chF l n i = 0 → ∀ j,i ≤ j → j < l.length → (1 ≤ inI l j ∧ inI l j ≤ 999) ∧ (l.take j).contains (inI l j) = false:=by
  intro n
  induction n with
  | zero => intro i h _ j h1 h2;omega
  | succ n ih =>
    intro i h h0 j h1 h2
    by_cases c1:inI l i < 1 ∨ 999 < inI l i
    · rw [chF_out c1] at h0;cases h0
    · cases c2:(l.take i).contains (inI l i) with
      | true => rw [chF_two c1 c2] at h0;cases h0
      | false =>
        rw [chF_go c1 c2] at h0
        by_cases e:j = i
        · subst e;exact ⟨by omega,c2⟩
        · exact ih (i + 1) (by omega) h0 j (by omega) h2
structure ChOk (l : List Int) : Prop where
  pos:0 < l.length
  few:l.length ≤ 256
  rng:∀ j,j < l.length → 1 ≤ inI l j ∧ inI l j ≤ 999
  nd:∀ j,j < l.length → (l.take j).contains (inI l j) = false
theorem chOk {l:List Int} (h:chE l = 0):ChOk l:=by
  by_cases h1:l.length = 0
  · rw [chE_no h1] at h;cases h
  by_cases h2:256 < l.length
  · rw [chE_many h2] at h;cases h
  rw [chE_few h1 h2] at h
  have hz:=chF_zero _ 0 (by omega) h
  exact ⟨by omega,by omega,fun j hj => (hz j (by omega) hj).1,fun j hj => (hz j (by omega) hj).2⟩
structure RnOk (x : Rnx) : Prop where
  ef:1 ≤ x.ef ∧ x.ef ≤ 1048576
  ch:ChOk x.cs
  ck:ckB x.ce x.cr x.cd x.cl = true
theorem rnOk {x:Rnx} (h:rnE x = 0):RnOk x:=by
  by_cases h1:x.ef < 1 ∨ 1048576 < x.ef
  · rw [rnE_ef h1] at h;cases h
  by_cases h2:chE x.cs = 0
  · rw [rnE_ck h1 h2] at h
    refine ⟨by omega,chOk h2,?_⟩
    unfold ckE at h
    by_cases c:ckB x.ce x.cr x.cd x.cl = true
    · exact c
    · rw [if_neg c] at h;cases h
  · rw [rnE_ch h1 h2] at h;exact absurd h h2
-- the offset
def atQ (x:Efx) (i k el:Int):Rat:=Rat.divInt (10 * el) x.pe + Rat.divInt (x.sp * i) k
def offQ (x:Efx) (i k el:Int):Rat:=hgtW x.wv (atQ x i k el) * Rat.divInt x.sz 1000
def ofB (i k el:Int):Prop:=¬ (k < 1 ∨ 256 < k ∨ i < 0 ∨ k ≤ i ∨ el < 0 ∨ 8000000000 < el)
instance (i k el:Int):Decidable (ofB i k el):=by unfold ofB;exact inferInstance
theorem cast_ne {n:Int} (h:n ≠ 0):((n:Int):Rat) ≠ 0:=fun e => h (Rat.intCast_inj.1 (e.trans (show (0:Rat) = ((0:Int):Rat) from rfl)))
theorem fits_placeK {k:Nat} {x:Rat} (hx:Fits k x):Fits (k + 4) (place x):=by
  obtain ⟨p0,p1⟩:=place_range x
  have hden:(0:Int) < (x.den:Int):=by have:=x.den_pos;omega
  have hdr:((x.den:Int):Rat) ≠ 0:=cast_ne (by omega)
  have e1:x * ((x.den:Int):Rat) = ((x.num:Int):Rat):=by
    conv => lhs;arg 1;rw [← Rat.num_divInt_den x]
    rw [Rat.divInt_eq_div,Rat.div_mul_cancel hdr]
  have key:place x * ((x.den:Int):Rat) = ((x.num - 1000 * (x / 1000).floor * x.den:Int):Rat):=by
    unfold place
    rw [Rat.intCast_sub,Rat.intCast_mul,Rat.intCast_mul,← e1,show ((1000:Int):Rat) = 1000 from rfl]
    generalize ((x / 1000).floor:Rat) = f
    grind
  have e:place x = Rat.divInt (x.num - 1000 * (x / 1000).floor * x.den) x.den:=by
    rw [Rat.divInt_eq_div,← key,Rat.div_def,Rat.mul_assoc,Rat.mul_inv_cancel _ hdr,Rat.mul_one]
  have n0:0 ≤ x.num - 1000 * (x / 1000).floor * x.den:=by
    have h:=Rat.mul_nonneg p0 (castle (Int.le_of_lt hden))
    rw [key] at h
    exact Rat.intCast_le_intCast.1 h
  have n1:x.num - 1000 * (x / 1000).floor * x.den ≤ 1000 * (x.den:Int):=by
    have h:=Rat.mul_le_mul_of_nonneg_right (Rat.le_of_lt p1) (castle (Int.le_of_lt hden))
    rw [key,show (1000:Rat) = ((1000:Int):Rat) from rfl,← Rat.intCast_mul] at h
    exact Rat.intCast_le_intCast.1 h
  have d2:dl (1000 * (x.den:Int)) ≤ k + 4:=Nat.le_trans (dl_mul _ _) (by have h5:dl 1000 = 4:=(by decide +kernel);have:=hx.2;omega)
  rw [e]
  exact divInt_fits _ _ (by omega) _ (Nat.le_trans (dl_mono (by omega)) d2) (by have:=hx.2;omega)
theorem fits_smi {n:Int} (h0:-10000 < n) (h1:n < 10000):Fits 4 ((n:Int):Rat):=fits_int _ _ (by omega) ((dl_le (k:=4) (by omega)).2 (by omega))
theorem fits_hgtK {k:Nat} {l:List (Int × Int)} {x:Rat} (w:Wv l) (hx:Fits k x):Fits (k + 30) (hgtW l x):=by
  obtain ⟨b,c,d⟩:=kW_in w x
  rw [hgtW_seg]
  generalize kW l (place x) l.length 0 = j at *
  have s:=w.s j b
  have r0:=w.range (show j < l.length by omega)
  have r1:=w.range b
  have y0:=w.h j (by omega)
  have y1:=w.h (j + 1) b
  have hne:((pX l (j + 1) - pX l j:Int):Rat) ≠ 0:=cast_ne (by omega)
  unfold segW
  exact (fits_add2 (fits_smi (by omega) (by omega)) (fits_mul2 (fits_sub2 (fits_smi (by omega) (by omega)) (fits_smi (by omega) (by omega))) (fits_div2 (fits_sub2 (fits_placeK hx) (fits_smi (by omega) (by omega))) (fits_smi (by omega) (by omega)) hne))).mono (by omega)
theorem fits_div {a b:Int} {k:Nat} (hb:0 < b) (ha:-(10:Int) ^ k < a ∧ a < (10:Int) ^ k) (hb2:b < (10:Int) ^ k) (hk:1 ≤ k):Fits k (Rat.divInt a b) :=
  divInt_fits a b (by omega) k ((dl_le hk).2 (by have : (((10 : Nat) ^ k : Nat) : Int) = (10 : Int) ^ k := by simp
                                                 omega)) ((dl_le hk).2 (by have : (((10 : Nat) ^ k : Nat) : Int) = (10 : Int) ^ k := by simp
                                                                           omega))
end Lum
namespace Lum
open Go Go.RowKit Go.Shelf
open Go.Lib (decDigits itoa)
def keyAt {α:Type} (key:α → Int) (l:List α) (k:Nat):Int:=((l[k]?).map key).getD 0
theorem keyAt_at {α:Type} {key:α → Int} {l:List α} {i:Nat} (h:i < l.length):keyAt key l i = key (l[i]'h):=by unfold keyAt;rw [List.getElem?_eq_getElem h];rfl
theorem OrdOk.lt {α:Type} {err key:α → Int} {l:List α} (h:OrdOk err key l):∀ j,j < l.length → ∀ k,k < j → keyAt key l k < keyAt key l j:=fun j hj k hk => by
  rw [keyAt_at hj,keyAt_at (Nat.lt_trans hk hj)]
  exact List.pairwise_iff_getElem.1 h.asc k j _ hj hk
theorem wrapz {a n:Int} (ha:1 ≤ a ∧ a ≤ 1048576) (n0:-9223372036854775808 ≤ n) (n1:n ≤ 9223372036854775807) (h:IntKind.i64.wrap (a - n) = 0):a = n:=by
  rw [IntWalk.i64_left] at h
  unfold wrap64 at h
  omega
structure Plc {α : Type} (key : α → Int) (l : List α) (n : Int) (i : Nat) (hit : Bool) : Prop where
  le:i ≤ l.length
  yes:hit = true → i < l.length ∧ keyAt key l i = n
  no:hit = false → ∀ j,j < l.length → keyAt key l j ≠ n
  bel:(1 ≤ n ∧ n ≤ 1048576) → Belongs (keyAt key l) l.length n i hit
theorem plcOf {α : Type} {key : α → Int} {l : List α} {n : Int} (hb : ∀ j, j < l.length → 1 ≤ keyAt key l j ∧ keyAt key l j ≤ 1048576) (hs : ∀ j, j < l.length → ∀ k, k < j → keyAt key l k < keyAt key l j) (n0 : -9223372036854775808 ≤ n) (n1 : n ≤ 9223372036854775807) {i : Nat}
    (hv:Halved (fun k => IntKind.i64.wrap (keyAt key l k - n)) l.length i):Plc key l n i (decide (i < l.length ∧ IntKind.i64.wrap (keyAt key l i - n) = 0)):=by
  have hbel:∀ {hit:Bool},hit = decide (i < l.length ∧ IntKind.i64.wrap (keyAt key l i - n) = 0) → (1 ≤ n ∧ n ≤ 1048576) → Belongs (keyAt key l) l.length n i hit:=fun {hit} hh hn => by
    have hw:∀ k,k < l.length → IntKind.i64.wrap (keyAt key l k - n) = keyAt key l k - n:=fun k hk => by have:=hb k hk;exact IntWalk.i64_in _ (by omega)
    have h2:Halved (fun k => keyAt key l k - n) l.length i:=⟨hv.1,fun g => by have:=hv.2.1 g;(try dsimp only at this ⊢);rw [hw _ (by have:=hv.1;omega)] at this;exact this,fun g => by have:=hv.2.2 g;(try dsimp only at this ⊢);rw [hw _ g] at this;exact this⟩
    have hB:=halved_belongs hs h2
    have e2:decide (i < l.length ∧ keyAt key l i - n = 0) = decide (i < l.length ∧ IntKind.i64.wrap (keyAt key l i - n) = 0):=by
      by_cases g:i < l.length
      · rw [hw i g]
      · rw [decide_eq_false (fun h => g h.1),decide_eq_false (fun h => g h.1)]
    rw [e2,← hh] at hB
    exact hB
  refine ⟨hv.1,fun h => ?_,fun h j hj => ?_,hbel rfl⟩
  · obtain ⟨h1,h2⟩:=of_decide_eq_true h
    exact ⟨h1,wrapz (hb i h1) n0 n1 h2⟩
  · by_cases hn:1 ≤ n ∧ n ≤ 1048576
    · have hB:=hbel h.symm hn
      by_cases g:j < i
      · have:=hB.bef j g;omega
      · have:=hB.no rfl j (by omega) hj;omega
    · have:=hb j hj;omega
theorem Plc.find {α:Type} {key:α → Int} {l:List α} {n:Int} {i:Nat} (h:Plc key l n i true) (hb:∀ j,j < l.length → 1 ≤ keyAt key l j ∧ keyAt key l j ≤ 1048576):l.find? (fun x => key x == n) = some (l[i]'(h.yes rfl).1):=by
  obtain ⟨h1,h2⟩:=h.yes rfl
  have h3:=h.bel (by have:=hb i h1;omega)
  exact find_at h1 (by rw [← keyAt_at (key:=key) h1];simpa using h2) (fun j hj => by rw [← keyAt_at (key:=key) (by omega)];have:=h3.bef j hj;simp;omega)
theorem Plc.none {α:Type} {key:α → Int} {l:List α} {n:Int} {i:Nat} (h:Plc key l n i false):l.find? (fun x => key x == n) = Option.none :=
  find_no fun j hj => by rw [← keyAt_at (key:=key) hj];simpa using h.no rfl j hj
theorem belongs_key {α:Type} {err key:α → Int} {l:List α} (h:OrdOk err key l) (n:Int):∃ i hit,Belongs (keyAt key l) l.length n i hit:=by
  obtain ⟨i,h1,h2,h3⟩:=sorted_cut (keyAt key l) n l.length
  exact ⟨i,_,halved_belongs h.lt ⟨h1,fun g => by have:=h2 (i - 1) (by omega);(try dsimp only at this ⊢);omega,fun g => by have:=h3 g;(try dsimp only at this ⊢);omega⟩⟩
theorem Plc.hit_of {α:Type} {key:α → Int} {l:List α} {n:Int} {i j:Nat} {hit:Bool} (h:Plc key l n i hit) (hn:1 ≤ n ∧ n ≤ 1048576) {b:Bool} (hb:Belongs (keyAt key l) l.length n j b):i = j ∧ hit = b:=(h.bel hn).uniq hb
theorem Plc.miss_of {α:Type} {key:α → Int} {l:List α} {n:Int} {i:Nat} {hit:Bool} (h:Plc key l n i hit) (hn:∀ j,j < l.length → keyAt key l j ≠ n):hit = false:=by
  cases hit with
  | false => rfl
  | true => exact absurd (h.yes rfl).2 (hn i (h.yes rfl).1)
theorem Belongs.find {α:Type} {key:α → Int} {l:List α} {n:Int} {i:Nat} (h:Belongs (keyAt key l) l.length n i true):l.find? (fun x => key x == n) = some (l[i]'(h.yes rfl).1):=by
  obtain ⟨h1,h2⟩:=h.yes rfl
  exact find_at h1 (by rw [← keyAt_at (key:=key) h1];simpa using h2) (fun j hj => by rw [← keyAt_at (key:=key) (by omega)];have:=h.bef j hj;simp;omega)
theorem Belongs.miss {α:Type} {key:α → Int} {l:List α} {n:Int} {i:Nat} (h:Belongs (keyAt key l) l.length n i false):∀ j,j < l.length → keyAt key l j ≠ n:=fun j hj => by
  by_cases g:j < i
  · have:=h.bef j g;omega
  · have:=h.no rfl j (by omega) hj;omega
theorem find_miss {α:Type} {key:α → Int} {l:List α} {n:Int} (h:∀ j,j < l.length → keyAt key l j ≠ n):l.find? (fun x => key x == n) = Option.none:=find_no fun j hj => by rw [← keyAt_at (key:=key) hj];simpa using h j hj
theorem ordF_all {α:Type} {err key:α → Int}:∀ (l:List α) (p:Option Int),(∀ x ∈ l,err x = 0) → List.Pairwise (fun a b => key a < key b) l → (∀ k,p = some k → ∀ x ∈ l,k < key x) → ordF err key p l = 0:=by
  intro l
  induction l with
  | nil => intro p _ _ _;rfl
  | cons x r ih =>
    intro p h1 h2 h3
    rw [ordF_cons,if_neg (by simpa using h1 x List.mem_cons_self)]
    have h4:¬ lowB p (key x) = true:=by
      cases p with
      | none => simp [lowB]
      | some k => have:=h3 k rfl x List.mem_cons_self;simp only [lowB,decide_eq_true_eq];omega
    rw [if_neg h4]
    cases h2 with
    | cons h5 h6 => exact ih _ (fun y hy => h1 y (List.mem_cons_of_mem _ hy)) h6 (fun k hk y hy => by injection hk with hk;subst hk;exact h5 y hy)
theorem ordE_of {α:Type} {err key:α → Int} {l:List α} (h:OrdOk err key l):ordE err key l = 0:=by
  rw [ordE_few (by have:=h.few;omega)]
  exact ordF_all l Option.none (fun x hx => by obtain ⟨j,hj,rfl⟩:=List.getElem_of_mem hx;exact h.ok j hj) h.asc (fun k hk => by cases hk)
theorem ordF_map {α β:Type} (f:α → β) (err key:β → Int):∀ (l:List α) (p:Option Int),ordF err key p (l.map f) = ordF (fun x => err (f x)) (fun x => key (f x)) p l:=by
  intro l
  induction l with
  | nil => intro p;rfl
  | cons x r ih => intro p;rw [List.map_cons,ordF_cons,ordF_cons,ih]
theorem ordE_map {α β:Type} (f:α → β) (err key:β → Int) (l:List α):ordE err key (l.map f) = ordE (fun x => err (f x)) (fun x => key (f x)) l:=by
  unfold ordE;rw [List.length_map,ordF_map]
theorem keyAt_map {α β:Type} (f:α → β) (key:β → Int) (l:List α) (i:Nat):keyAt key (l.map f) i = keyAt (fun x => key (f x)) l i:=by
  unfold keyAt;rw [List.getElem?_map,Option.map_map];rfl
theorem mem_take_at {α:Type} {l:List α} {i:Nat} {a:α} (h:a ∈ l.take i):∃ j,∃ hj:j < l.length,j < i ∧ l[j]'hj = a:=by
  obtain ⟨j,hj,e⟩:=List.getElem_of_mem h
  rw [List.length_take] at hj
  exact ⟨j,by omega,by omega,by rw [List.getElem_take] at e;exact e⟩
theorem mem_drop_at {α:Type} {l:List α} {i:Nat} {a:α} (h:a ∈ l.drop i):∃ j,∃ hj:j < l.length,i ≤ j ∧ l[j]'hj = a:=by
  obtain ⟨j,hj,e⟩:=List.getElem_of_mem h
  rw [List.length_drop] at hj
  exact ⟨i + j,by omega,by omega,by rw [List.getElem_drop] at e;exact e⟩
theorem insL_map {α β:Type} (f:α → β) (l:List α) (i:Nat) (hit:Bool) (x:α):(insL l i hit x).map f = insL (l.map f) i hit (f x):=by
  unfold insL;rw [List.map_append,List.map_cons,List.map_take,List.map_drop]
def EfsAt (W:World) (v:Value) (l:List Efx):Prop:=∃ (L:List (Efx × Sl3)) (p:Option Addr) (c:Nat),v = .slice p L.length c ∧ L.map (·.1) = l ∧ RowX encE 6 W p L ∧ HasW W L
def RunsAt (W:World) (v:Value) (l:List Rnx):Prop:=∃ (L:List (Rnx × Sl3)) (p:Option Addr) (c:Nat),v = .slice p L.length c ∧ L.map (·.1) = l ∧ RowX encN 6 W p L ∧ HasC W L
theorem HasW.kept {W W':World} {L:List (Efx × Sl3)} (h:HasW W L) (hb:Below W.heap.size W W'):HasW W' L:=fun x hx => PtsAt.below (h x hx) hb
theorem EfsAt.kept {W W':World} {v:Value} {l:List Efx} (h:EfsAt W v l) (hb:Below W.heap.size W W'):EfsAt W' v l:=by
  obtain ⟨L,p,c,h1,h2,h3,h4⟩:=h
  exact ⟨L,p,c,h1,h2,h3.kept hb,h4.kept hb⟩
theorem RunsAt.kept {W W':World} {v:Value} {l:List Rnx} (h:RunsAt W v l) (hb:Below W.heap.size W W'):RunsAt W' v l:=by
  obtain ⟨L,p,c,h1,h2,h3,h4⟩:=h
  exact ⟨L,p,c,h1,h2,h3.kept hb,h4.kept hb⟩
abbrev efsE (l:List Efx):Int:=ordE efE (·.nu) l
abbrev rnsE (l:List Rnx):Int:=ordE rnE (·.ef) l
theorem efs_key {l:List Efx} (h:OrdOk efE (·.nu) l):∀ j,j < l.length → 1 ≤ keyAt (·.nu) l j ∧ keyAt (·.nu) l j ≤ 1048576:=fun j hj => by rw [keyAt_at hj];exact (efOk (h.ok j hj)).nu
theorem rns_key {l:List Rnx} (h:OrdOk rnE (·.ef) l):∀ j,j < l.length → 1 ≤ keyAt (·.ef) l j ∧ keyAt (·.ef) l j ≤ 1048576:=fun j hj => by rw [keyAt_at hj];exact (rnOk (h.ok j hj)).ef
def memI (cs:List Int) (ch:Int):Int:=ixOf (fun c => c == ch) cs
def toldQ (L:List Efx) (x:Rnx) (t ch a:Int):Rat :=
  match L.find? (fun y => y.nu == x.ef) with
  | some y => if memI x.cs ch < 0 ∨ ¬ y.at_ = a then 0 else offQ y (memI x.cs ch) x.cs.length (shZ x.ce x.cr x.cd x.cl t)
  | Option.none => 0
theorem toldQ_none {L:List Efx} {x:Rnx} {t ch a:Int} (h:L.find? (fun y => y.nu == x.ef) = Option.none):toldQ L x t ch a = 0:=by unfold toldQ;rw [h]
theorem toldQ_some {L:List Efx} {x:Rnx} {t ch a:Int} {y:Efx} (h:L.find? (fun y => y.nu == x.ef) = some y):toldQ L x t ch a = if memI x.cs ch < 0 ∨ ¬ y.at_ = a then 0 else offQ y (memI x.cs ch) x.cs.length (shZ x.ce x.cr x.cd x.cl t):=by unfold toldQ;rw [h]
theorem memI_range (cs:List Int) (ch:Int):memI cs ch = -1 ∨ 0 ≤ memI cs ch ∧ memI cs ch < cs.length:=by
  rcases first_ix (fun c => c == ch) cs with h | ⟨i,hi,h1,h2⟩
  · left;exact ixOf_no h
  · right;unfold memI;rw [ixOf_at hi h1 (fun j hj => h2 j hj)];omega
def atF (t : Int) : List Rnx → Int
  | [] => 0
  | x :: r => if ¬ moE x.ce x.cr x.cd x.cl t = 0 then moE x.ce x.cr x.cd x.cl t else atF t r
def sumQ (L:List Efx) (R:List Rnx) (t ch a:Int):Rat:=R.foldl (fun s x => s + toldQ L x t ch a) 0
theorem sumQ_nil (L:List Efx) (t ch a:Int):sumQ L [] t ch a = 0:=rfl
theorem sumQ_take {L:List Efx} {R:List Rnx} {t ch a:Int} {i:Nat} (h:i < R.length):sumQ L (R.take (i + 1)) t ch a = sumQ L (R.take i) t ch a + toldQ L (R[i]'h) t ch a:=by
  unfold sumQ
  rw [List.take_add_one,List.getElem?_eq_getElem h,Option.toList_some,List.foldl_append];rfl
theorem atF_drop_err {t:Int} {R:List Rnx} {i:Nat} (h:i < R.length) (e:¬ moE (R[i]'h).ce (R[i]'h).cr (R[i]'h).cd (R[i]'h).cl t = 0):atF t (R.drop i) = moE (R[i]'h).ce (R[i]'h).cr (R[i]'h).cd (R[i]'h).cl t:=by
  rw [List.drop_eq_getElem_cons h,atF,if_pos e]
theorem atF_drop_ok {t:Int} {R:List Rnx} {i:Nat} (h:i < R.length) (e:moE (R[i]'h).ce (R[i]'h).cr (R[i]'h).cd (R[i]'h).cl t = 0):atF t (R.drop i) = atF t (R.drop (i + 1)):=by
  rw [List.drop_eq_getElem_cons h,atF,if_neg (by simpa using e)]
theorem atF_end {t:Int} {R:List Rnx}:atF t (R.drop R.length) = 0:=by rw [List.drop_length];rfl
theorem atF_zero {t : Int} : ∀ {R : List Rnx}, (∀ x ∈ R, moE x.ce x.cr x.cd x.cl t = 0) → atF t R = 0
  | [],_ => rfl
  | x :: r,h => by rw [atF,if_neg (by simpa using h x List.mem_cons_self)];exact atF_zero fun y hy => h y (List.mem_cons_of_mem _ hy)
def paE (ch a:Int):Int:=if ch < 1 ∨ 999 < ch ∨ a < 0 ∨ 15 ≤ a then 2 else 0
theorem paE_out {ch a:Int} (h:ch < 1 ∨ 999 < ch ∨ a < 0 ∨ 15 ≤ a):paE ch a = 2:=by unfold paE;rw [if_pos h]
theorem paE_in {ch a:Int} (h:¬ (ch < 1 ∨ 999 < ch ∨ a < 0 ∨ 15 ≤ a)):paE ch a = 0:=by unfold paE;rw [if_neg h]
def boE (L:List Efx) (R:List Rnx):Int:=if efsE L ≠ 0 then efsE L else rnsE R
def pbE (L:List Efx) (R:List Rnx) (ch a:Int):Int:=if boE L R ≠ 0 then boE L R else paE ch a
theorem boE_ef {L:List Efx} {R:List Rnx} (h:¬ efsE L = 0):boE L R = efsE L:=by unfold boE;rw [if_pos h]
theorem boE_rn {L:List Efx} {R:List Rnx} (h:efsE L = 0):boE L R = rnsE R:=by unfold boE;rw [if_neg (by simpa using h)]
theorem pbE_bo {L:List Efx} {R:List Rnx} {ch a:Int} (h:¬ boE L R = 0):pbE L R ch a = boE L R:=by unfold pbE;rw [if_pos h]
theorem pbE_pa {L:List Efx} {R:List Rnx} {ch a:Int} (h:boE L R = 0):pbE L R ch a = paE ch a:=by unfold pbE;rw [if_neg (by simpa using h)]
theorem pbE_zero {L:List Efx} {R:List Rnx} {ch a:Int} (h:pbE L R ch a = 0):efsE L = 0 ∧ rnsE R = 0 ∧ paE ch a = 0:=by
  by_cases h1:boE L R = 0
  · rw [pbE_pa h1] at h
    by_cases h2:efsE L = 0
    · rw [boE_rn h2] at h1;exact ⟨h2,h1,h⟩
    · rw [boE_ef h2] at h1;exact absurd h1 h2
  · rw [pbE_bo h1] at h;exact absurd h h1
-- digits
def ofC (i k el:Int):Prop:=(1 ≤ k ∧ k ≤ 256) ∧ (0 ≤ i ∧ i < k) ∧ (0 ≤ el ∧ el ≤ 20000000000)
theorem atQ_fits2 {x:Efx} (h:EfOk x) {i k el:Int} (hb:ofC i k el):Fits 24 (atQ x i k el):=by
  unfold ofC at hb
  have hp:=h.pe
  have hs:=h.sp
  have hi:0 ≤ x.sp * i:=Int.mul_nonneg hs.1 (by omega)
  have hi2:x.sp * i ≤ 1000 * 256:=Int.mul_le_mul hs.2 (by omega) (by omega) (by omega)
  unfold atQ
  exact (fits_add2 (k:=12) (l:=7) (fits_div (by omega) ⟨by omega,by omega⟩ (by omega) (by omega)) (fits_div (by omega) ⟨by omega,by omega⟩ (by omega) (by omega))).mono (by omega)
theorem offQ_fits2 {x:Efx} (h:EfOk x) {i k el:Int} (hb:ofC i k el):Fits 60 (offQ x i k el):=by
  have:=h.sz
  unfold offQ
  exact (fits_mul2 (fits_hgtK (wvE_zero h.wv) (atQ_fits2 h hb)) (fits_div (k:=5) (by omega) ⟨by omega,by omega⟩ (by omega) (by omega))).mono (by omega)
theorem sh_range {E R D L t:Int} (h:moE E R D L t = 0):0 ≤ shZ E R D L t ∧ shZ E R D L t ≤ 20000000000:=by
  obtain ⟨h1,h2,h3⟩:=moE_zero h
  obtain ⟨k1,k2,k3,k4⟩:=(ckB_iff E R D L).1 h1
  unfold shZ
  have a0:0 ≤ t - L:=by omega
  have a1:t - L ≤ 10000000:=by omega
  have b1:R * (t - L) ≤ 400 * 10000000:=Int.mul_le_mul k3.2 a1 a0 (by omega)
  have b0:0 ≤ R * (t - L):=Int.mul_nonneg (by omega) a0
  have c1:D * R * (t - L) ≤ 4000000000:=by
    rw [Int.mul_assoc]
    rcases (show D = -1 ∨ D = 0 ∨ D = 1 by omega) with rfl | rfl | rfl <;> omega
  omega
theorem ofC_of {x:Rnx} {t ch:Int} (hx:RnOk x) (h:moE x.ce x.cr x.cd x.cl t = 0) (hm:¬ memI x.cs ch < 0):ofC (memI x.cs ch) x.cs.length (shZ x.ce x.cr x.cd x.cl t):=by
  have h1:=sh_range h
  have h2:=(memI_range x.cs ch).resolve_left (by omega)
  have h3:=hx.ch
  have h4:=h3.pos
  have h5:=h3.few
  exact ⟨by omega,by omega,by omega⟩
theorem toldQ_fits {L:List Efx} {x:Rnx} {t ch a:Int} (hL:OrdOk efE (·.nu) L) (hx:RnOk x) (h:moE x.ce x.cr x.cd x.cl t = 0):Fits 60 (toldQ L x t ch a):=by
  have f0:Fits 60 (0:Rat):=fits_0.mono (by omega)
  unfold toldQ
  split
  · rename_i y hy
    have hy2:EfOk y:=by
      obtain ⟨j,hj,e⟩:=List.getElem_of_mem (List.mem_of_find?_eq_some hy)
      rw [← e];exact efOk (hL.ok j hj)
    split
    · exact f0
    · rename_i hm
      exact offQ_fits2 hy2 (ofC_of hx h (fun e => hm (Or.inl e)))
  · exact f0
theorem sumQ_fits {L:List Efx} {R:List Rnx} {t ch a:Int} (hL:OrdOk efE (·.nu) L) (hx:∀ x ∈ R,RnOk x) (h:∀ x ∈ R,moE x.ce x.cr x.cd x.cl t = 0):∀ i,i ≤ R.length → Fits (1 + i * 61) (sumQ L (R.take i) t ch a):=by
  intro i
  induction i with
  | zero => intro _;rw [List.take_zero];exact fits_0
  | succ i ih =>
    intro hi
    rw [sumQ_take (by omega)]
    exact (fits_add2 (ih (by omega)) (toldQ_fits hL (hx _ (List.getElem_mem _)) (h _ (List.getElem_mem _)))).mono (by omega)
end Lum

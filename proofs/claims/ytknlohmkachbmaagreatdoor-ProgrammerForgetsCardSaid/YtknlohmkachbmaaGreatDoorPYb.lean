import Derived.Test.YtknlohmkachbmaaGreatDoorPWp
import Derived.Test.YtknlohmkachbmaaGreatDoorPKe
import Derived.Test.YtknlohmkachbmaaGreatDoorPYa
set_option linter.unusedVariables false
set_option linter.unusedSimpArgs false
namespace Lum
open Go Go.RowKit Go.Shelf
open Go.Lib (decDigits itoa)
def lowB : Option Int → Int → Bool
  | some k,z => decide (z ≤ k)
  | none,_ => false
def ordG {α : Type} (err key : α → Int) : List α → Option Int → Int
  | [],_ => 0
  | x :: r,p => if err x ≠ 0 then err x else if lowB p (key x) = true then 9 else ordG err key r (some (key x))
abbrev ordF {α:Type} (err key:α → Int) (p:Option Int) (l:List α):Int:=ordG err key l p
def prevK {α:Type} (key:α → Int) (l:List α) (i:Nat):Option Int:=if i = 0 then none else (l[i - 1]?).map key
def ordE {α:Type} (err key:α → Int) (l:List α):Int:=if 16 < l.length then 5 else ordF err key none l
structure OrdOk {α : Type} (err key : α → Int) (l : List α) : Prop where
  few:l.length ≤ 16
  ok:∀ j (h:j < l.length),err (l[j]'h) = 0
  asc:List.Pairwise (fun a b => key a < key b) l
structure Efx where
  nu:Int
  at_:Int
  wv:List (Int × Int)
  pe:Int
  sp:Int
  sz:Int
structure Rnx where
  ef:Int
  cs:List Int
  ce:Int
  cr:Int
  cd:Int
  cl:Int
abbrev Sl3:=Option Addr × Nat × Nat
def encE (x:Efx × Sl3):List Value:=[.int .i64 x.1.nu,.int .i64 x.1.at_,.slice x.2.1 x.2.2.1 x.2.2.2,.int .i64 x.1.pe,.int .i64 x.1.sp,.int .i64 x.1.sz]
def encN (x:Rnx × Sl3):List Value:=[.int .i64 x.1.ef,.slice x.2.1 x.2.2.1 x.2.2.2,.int .i64 x.1.ce,.int .i64 x.1.cr,.int .i64 x.1.cd,.int .i64 x.1.cl]
def HasW (W:World) (L:List (Efx × Sl3)):Prop:=∀ x ∈ L,PtsAt W (.slice x.2.1 x.2.2.1 x.2.2.2) x.1.wv
def HasC (W:World) (L:List (Rnx × Sl3)):Prop:=∀ x ∈ L,IntsAt W (.slice x.2.1 x.2.2.1 x.2.2.2) x.1.cs ∧ x.1.cs.length ≤ x.2.2.2
theorem HasC.kept {W W':World} {L:List (Rnx × Sl3)} (h:HasC W L) (hb:Below W.heap.size W W'):HasC W' L:=fun x hx => ⟨IntsAt.below (h x hx).1 hb,(h x hx).2⟩
def efE (x:Efx):Int:=if x.nu < 1 ∨ 1048576 < x.nu ∨ x.at_ < 0 ∨ 15 ≤ x.at_ then 2 else if wvE x.wv ≠ 0 then wvE x.wv else if x.pe < 1 ∨ 10000000 < x.pe ∨ x.sp < 0 ∨ 1000 < x.sp ∨ x.sz < 0 ∨ 65535 < x.sz then 2 else 0
structure EfOk (x : Efx) : Prop where
  nu:1 ≤ x.nu ∧ x.nu ≤ 1048576
  at_:0 ≤ x.at_ ∧ x.at_ < 15
  wv:wvE x.wv = 0
  pe:1 ≤ x.pe ∧ x.pe ≤ 10000000
  sp:0 ≤ x.sp ∧ x.sp ≤ 1000
  sz:0 ≤ x.sz ∧ x.sz ≤ 65535
def chF (l : List Int) : Nat → Nat → Int
  | 0,_ => 0
  | n + 1,i => if inI l i < 1 ∨ 999 < inI l i then 2 else if (l.take i).contains (inI l i) = true then 7 else chF l n (i + 1)
def chE (l:List Int):Int:=if l.length = 0 then 12 else if 256 < l.length then 5 else chF l l.length 0
def rnE (x:Rnx):Int:=if x.ef < 1 ∨ 1048576 < x.ef then 2 else if chE x.cs ≠ 0 then chE x.cs else ckE x.ce x.cr x.cd x.cl
structure ChOk (l : List Int) : Prop where
  pos:0 < l.length
  few:l.length ≤ 256
  rng:∀ j,j < l.length → 1 ≤ inI l j ∧ inI l j ≤ 999
  nd:∀ j,j < l.length → (l.take j).contains (inI l j) = false
structure RnOk (x : Rnx) : Prop where
  ef:1 ≤ x.ef ∧ x.ef ≤ 1048576
  ch:ChOk x.cs
  ck:ckB x.ce x.cr x.cd x.cl = true
def atQ (x:Efx) (i k el:Int):Rat:=Rat.divInt (10 * el) x.pe + Rat.divInt (x.sp * i) k
def offQ (x:Efx) (i k el:Int):Rat:=hgtW x.wv (atQ x i k el) * Rat.divInt x.sz 1000
def ofB (i k el:Int):Prop:=¬ (k < 1 ∨ 256 < k ∨ i < 0 ∨ k ≤ i ∨ el < 0 ∨ 8000000000 < el)
instance (i k el:Int):Decidable (ofB i k el):=by unfold ofB;exact inferInstance
end Lum
namespace Lum
open Go Go.RowKit Go.Shelf
open Go.Lib (decDigits itoa)
def keyAt {α:Type} (key:α → Int) (l:List α) (k:Nat):Int:=((l[k]?).map key).getD 0
theorem keyAt_at {α:Type} {key:α → Int} {l:List α} {i:Nat} (h:i < l.length):keyAt key l i = key (l[i]'h):=by unfold keyAt;rw [List.getElem?_eq_getElem h];rfl
theorem OrdOk.lt {α:Type} {err key:α → Int} {l:List α} (h:OrdOk err key l):∀ j,j < l.length → ∀ k,k < j → keyAt key l k < keyAt key l j:=fun j hj k hk => by
  rw [keyAt_at hj,keyAt_at (Nat.lt_trans hk hj)]
  exact List.pairwise_iff_getElem.1 h.asc k j _ hj hk
structure Plc {α : Type} (key : α → Int) (l : List α) (n : Int) (i : Nat) (hit : Bool) : Prop where
  le:i ≤ l.length
  yes:hit = true → i < l.length ∧ keyAt key l i = n
  no:hit = false → ∀ j,j < l.length → keyAt key l j ≠ n
  bel:(1 ≤ n ∧ n ≤ 1048576) → Belongs (keyAt key l) l.length n i hit
theorem Plc.find {α:Type} {key:α → Int} {l:List α} {n:Int} {i:Nat} (h:Plc key l n i true) (hb:∀ j,j < l.length → 1 ≤ keyAt key l j ∧ keyAt key l j ≤ 1048576):l.find? (fun x => key x == n) = some (l[i]'(h.yes rfl).1):=by
  obtain ⟨h1,h2⟩:=h.yes rfl
  have h3:=h.bel (by have:=hb i h1;omega)
  exact find_at h1 (by rw [← keyAt_at (key:=key) h1];simpa using h2) (fun j hj => by rw [← keyAt_at (key:=key) (by omega)];have:=h3.bef j hj;simp;omega)
theorem Plc.none {α:Type} {key:α → Int} {l:List α} {n:Int} {i:Nat} (h:Plc key l n i false):l.find? (fun x => key x == n) = Option.none :=
  find_no fun j hj => by rw [← keyAt_at (key:=key) hj];simpa using h.no rfl j hj
theorem Plc.ix {α:Type} {key:α → Int} {l:List α} {n:Int} {i:Nat} (h:Plc key l n i true) (hb:∀ j,j < l.length → 1 ≤ keyAt key l j ∧ keyAt key l j ≤ 1048576):ixOf (fun x => key x == n) l = (i:Int):=by
  obtain ⟨h1,h2⟩:=h.yes rfl
  have h3:=h.bel (by have:=hb i h1;omega)
  exact ixOf_at h1 (by rw [← keyAt_at (key:=key) h1];simpa using h2) (fun j hj => by rw [← keyAt_at (key:=key) (by omega)];have:=h3.bef j hj;simp;omega)
theorem Belongs.find {α:Type} {key:α → Int} {l:List α} {n:Int} {i:Nat} (h:Belongs (keyAt key l) l.length n i true):l.find? (fun x => key x == n) = some (l[i]'(h.yes rfl).1):=by
  obtain ⟨h1,h2⟩:=h.yes rfl
  exact find_at h1 (by rw [← keyAt_at (key:=key) h1];simpa using h2) (fun j hj => by rw [← keyAt_at (key:=key) (by omega)];have:=h.bef j hj;simp;omega)
theorem Belongs.ix {α:Type} {key:α → Int} {l:List α} {n:Int} {i:Nat} (h:Belongs (keyAt key l) l.length n i true):ixOf (fun x => key x == n) l = (i:Int):=by
  obtain ⟨h1,h2⟩:=h.yes rfl
  exact ixOf_at h1 (by rw [← keyAt_at (key:=key) h1];simpa using h2) (fun j hj => by rw [← keyAt_at (key:=key) (by omega)];have:=h.bef j hj;simp;omega)
theorem Belongs.miss {α:Type} {key:α → Int} {l:List α} {n:Int} {i:Nat} (h:Belongs (keyAt key l) l.length n i false):∀ j,j < l.length → keyAt key l j ≠ n:=fun j hj => by
  by_cases g:j < i
  · have:=h.bef j g;omega
  · have:=h.no rfl j (by omega) hj;omega
theorem mem_take_at {α:Type} {l:List α} {i:Nat} {a:α} (h:a ∈ l.take i):∃ j,∃ hj:j < l.length,j < i ∧ l[j]'hj = a:=by
  obtain ⟨j,hj,e⟩:=List.getElem_of_mem h
  rw [List.length_take] at hj
  exact ⟨j,by omega,by omega,by rw [List.getElem_take] at e;exact e⟩
def EfsAt (W:World) (v:Value) (l:List Efx):Prop:=∃ (L:List (Efx × Sl3)) (p:Option Addr) (c:Nat),v = .slice p L.length c ∧ L.map (·.1) = l ∧ RowX encE 6 W p L ∧ HasW W L
def RunsAt (W:World) (v:Value) (l:List Rnx):Prop:=∃ (L:List (Rnx × Sl3)) (p:Option Addr) (c:Nat),v = .slice p L.length c ∧ L.map (·.1) = l ∧ RowX encN 6 W p L ∧ HasC W L
theorem HasW.kept {W W':World} {L:List (Efx × Sl3)} (h:HasW W L) (hb:Below W.heap.size W W'):HasW W' L:=fun x hx => PtsAt.below (h x hx) hb
theorem EfsAt.kept {W W':World} {v:Value} {l:List Efx} (h:EfsAt W v l) (hb:Below W.heap.size W W'):EfsAt W' v l:=by
  obtain ⟨L,p,c,h1,h2,h3,h4⟩:=h
  exact ⟨L,p,c,h1,h2,h3.kept hb,h4.kept hb⟩
theorem RunsAt.kept {W W':World} {v:Value} {l:List Rnx} (h:RunsAt W v l) (hb:Below W.heap.size W W'):RunsAt W' v l:=by
  obtain ⟨L,p,c,h1,h2,h3,h4⟩:=h
  exact ⟨L,p,c,h1,h2,h3.kept hb,h4.kept hb⟩
abbrev efsE (l:List Efx):Int:=ordE efE (·.nu) l
abbrev rnsE (l:List Rnx):Int:=ordE rnE (·.ef) l
def memI (cs:List Int) (ch:Int):Int:=ixOf (fun c => c == ch) cs
def toldQ (L:List Efx) (x:Rnx) (t ch a:Int):Rat :=
  match L.find? (fun y => y.nu == x.ef) with
  | some y => if memI x.cs ch < 0 ∨ ¬ y.at_ = a then 0 else offQ y (memI x.cs ch) x.cs.length (shZ x.ce x.cr x.cd x.cl t)
  | Option.none => 0
def atF (t : Int) : List Rnx → Int
  | [] => 0
  | x :: r => if ¬ moE x.ce x.cr x.cd x.cl t = 0 then moE x.ce x.cr x.cd x.cl t else atF t r
def sumQ (L:List Efx) (R:List Rnx) (t ch a:Int):Rat:=R.foldl (fun s x => s + toldQ L x t ch a) 0
def paE (ch a:Int):Int:=if ch < 1 ∨ 999 < ch ∨ a < 0 ∨ 15 ≤ a then 2 else 0
theorem paE_out {ch a:Int} (h:ch < 1 ∨ 999 < ch ∨ a < 0 ∨ 15 ≤ a):paE ch a = 2:=by unfold paE;rw [if_pos h]
theorem paE_in {ch a:Int} (h:¬ (ch < 1 ∨ 999 < ch ∨ a < 0 ∨ 15 ≤ a)):paE ch a = 0:=by unfold paE;rw [if_neg h]
theorem paE_zero {ch a:Int} (h:paE ch a = 0):(1 ≤ ch ∧ ch ≤ 999) ∧ 0 ≤ a ∧ a < 15:=by
  by_cases h1:ch < 1 ∨ 999 < ch ∨ a < 0 ∨ 15 ≤ a
  · rw [paE_out h1] at h;cases h
  · omega
def boE (L:List Efx) (R:List Rnx):Int:=if efsE L ≠ 0 then efsE L else rnsE R
def pbE (L:List Efx) (R:List Rnx) (ch a:Int):Int:=if boE L R ≠ 0 then boE L R else paE ch a
def ofC (i k el:Int):Prop:=(1 ≤ k ∧ k ≤ 256) ∧ (0 ≤ i ∧ i < k) ∧ (0 ≤ el ∧ el ≤ 20000000000)
end Lum

/-
  
-/
import Derived.Test.YtbeojahilbglcaaGreatDoorQdYb
import Derived.Test.YtbeojahilbglcaaGreatDoorQdShelfZ
import Derived.Shelf.SlSortCmp.NoneTotal
import Derived.Shelf.SlicesQ.Contains
import Derived.Shelf.SlicesQ.Equal
import Derived.Lib.OwnBridge
import Derived.Laws.StructEq
import Derived.Test.YtbeojahilbglcaaGreatDoorQdYd
set_option linter.unusedVariables false
set_option linter.unusedSimpArgs false
namespace Lum
open Go Go.RowKit Go.Shelf
open Go.Lib (decDigits itoa)
def ltP (p q:Int × Int):Bool:=decide (p.1 < q.1 ∨ p.1 = q.1 ∧ p.2 < q.2)
theorem ltP_iff {p q:Int × Int}:ltP p q = true ↔ p.1 < q.1 ∨ p.1 = q.1 ∧ p.2 < q.2:=by unfold ltP;rw [decide_eq_true_eq]
theorem ltP_false {p q:Int × Int}:ltP p q = false ↔ q.1 < p.1 ∨ p.1 = q.1 ∧ q.2 ≤ p.2:=by unfold ltP;rw [decide_eq_false_iff_not];omega
theorem ltP_trans {p q r:Int × Int} (h:ltP p q = true) (g:ltP q r = true):ltP p r = true:=by rw [ltP_iff] at *;omega
theorem ltP_irr (p:Int × Int):ltP p p = false:=by rw [ltP_false];omega
theorem ltP_ne {p q:Int × Int} (h:ltP p q = false) (g:p ≠ q):ltP q p = true:=by
  rw [ltP_false] at h;rw [ltP_iff]
  have:¬ (p.1 = q.1 ∧ p.2 = q.2):=fun e => g (Prod.ext e.1 e.2)
  omega
def AscP (l:List (Int × Int)):Prop:=List.Pairwise (fun a b => ltP a b = true) l
def putP : List (Int × Int) → Int × Int → List (Int × Int)
  | [],p => [p]
  | x :: r,p => if ltP x p = true then x :: putP r p else if x = p then x :: r else p :: x :: r
theorem putP_mem {p x:Int × Int}:∀ {l:List (Int × Int)},x ∈ putP l p ↔ x = p ∨ x ∈ l:=by
  intro l
  induction l with
  | nil => simp [putP]
  | cons y r ih =>
    rw [putP]
    split
    · rw [List.mem_cons,ih,List.mem_cons]
      constructor
      · rintro (h | h | h)
        · exact Or.inr (Or.inl h)
        · exact Or.inl h
        · exact Or.inr (Or.inr h)
      · rintro (h | h | h)
        · exact Or.inr (Or.inl h)
        · exact Or.inl h
        · exact Or.inr (Or.inr h)
    · split
      · rename_i h;subst h;simp
      · simp
theorem putP_asc {p:Int × Int}:∀ {l:List (Int × Int)},AscP l → AscP (putP l p):=by
  intro l
  induction l with
  | nil => intro _;exact List.pairwise_singleton _ _
  | cons y r ih =>
    intro h
    obtain ⟨h1,h2⟩:=List.pairwise_cons.1 h
    rw [putP]
    split
    · rename_i h3
      refine List.pairwise_cons.2 ⟨fun x hx => ?_,ih h2⟩
      rcases putP_mem.1 hx with rfl | hx
      · exact h3
      · exact h1 x hx
    · rename_i h3
      split
      · exact h
      · rename_i h4
        have h5:ltP p y = true:=ltP_ne (by simpa using h3) h4
        refine List.pairwise_cons.2 ⟨fun x hx => ?_,h⟩
        rcases List.mem_cons.1 hx with rfl | hx
        · exact h5
        · exact ltP_trans h5 (h1 x hx)
def putsP (l:List (Int × Int)):List (Int × Int):=l.foldl putP []
theorem putsP_mem {x:Int × Int} (l:List (Int × Int)):x ∈ putsP l ↔ x ∈ l:=by
  unfold putsP
  suffices h:∀ (l a:List (Int × Int)),x ∈ l.foldl putP a ↔ x ∈ a ∨ x ∈ l by rw [h];simp
  intro l
  induction l with
  | nil => intro a;simp
  | cons y r ih =>
    intro a
    rw [List.foldl_cons,ih,putP_mem,List.mem_cons]
    constructor
    · rintro ((h | h) | h)
      · exact Or.inr (Or.inl h)
      · exact Or.inl h
      · exact Or.inr (Or.inr h)
    · rintro (h | h | h)
      · exact Or.inl (Or.inr h)
      · exact Or.inl (Or.inl h)
      · exact Or.inr h
theorem putsP_asc (l:List (Int × Int)):AscP (putsP l):=by
  unfold putsP
  suffices h:∀ (l a:List (Int × Int)),AscP a → AscP (l.foldl putP a) from h l [] List.Pairwise.nil
  intro l
  induction l with
  | nil => intro a h;exact h
  | cons y r ih => intro a h;exact ih _ (putP_asc h)
theorem asc_unique:∀ {a b:List (Int × Int)},AscP a → AscP b → (∀ x,x ∈ a ↔ x ∈ b) → a = b:=by
  intro a
  induction a with
  | nil =>
    intro b _ _ h
    cases b with
    | nil => rfl
    | cons y s => exact absurd ((h y).2 (by simp)) (by simp)
  | cons x r ih =>
    intro b ha hb h
    cases b with
    | nil => exact absurd ((h x).1 (by simp)) (by simp)
    | cons y s =>
      obtain ⟨a1,a2⟩:=List.pairwise_cons.1 ha
      obtain ⟨b1,b2⟩:=List.pairwise_cons.1 hb
      have e:x = y:=by
        rcases List.mem_cons.1 ((h x).1 (by simp)) with e | e
        · exact e
        · rcases List.mem_cons.1 ((h y).2 (by simp)) with e2 | e2
          · exact e2.symm
          · have:=ltP_trans (a1 y e2) (b1 x e)
            rw [ltP_irr] at this;cases this
      subst e
      congr 1
      refine ih a2 b2 fun z => ⟨fun hz => ?_,fun hz => ?_⟩
      · rcases List.mem_cons.1 ((h z).1 (List.mem_cons_of_mem _ hz)) with e | e
        · subst e;have:=a1 z hz;rw [ltP_irr] at this;cases this
        · exact e
      · rcases List.mem_cons.1 ((h z).2 (List.mem_cons_of_mem _ hz)) with e | e
        · subst e;have:=b1 z hz;rw [ltP_irr] at this;cases this
        · exact e
def ddK {α : Type} [DecidableEq α] (l : List α) : Nat → List α
  | 0 => []
  | j + 1 => if j ≠ 0 ∧ l[j]? = l[j - 1]? then ddK l j else ddK l j ++ (l[j]?).toList
theorem ddK_first {α:Type} [DecidableEq α] {l:List α} (h:0 < l.length):ddK l 1 = [l[0]'h]:=by
  rw [ddK,if_neg (by simp),ddK,List.getElem?_eq_getElem h];rfl
theorem ddK_same {α:Type} [DecidableEq α] {l:List α} {j:Nat} (h:j + 1 < l.length) (e:l[j + 1]'h = l[j]'(by omega)):ddK l (j + 1 + 1) = ddK l (j + 1):=by
  rw [ddK,if_pos ⟨by omega,by rw [List.getElem?_eq_getElem h,show j + 1 - 1 = j from rfl,List.getElem?_eq_getElem (by omega),e]⟩]
theorem ddK_other {α:Type} [DecidableEq α] {l:List α} {j:Nat} (h:j + 1 < l.length) (e:¬ l[j + 1]'h = l[j]'(by omega)):ddK l (j + 1 + 1) = ddK l (j + 1) ++ [l[j + 1]'h]:=by
  rw [ddK,if_neg (fun g => by rw [List.getElem?_eq_getElem h,show j + 1 - 1 = j from rfl,List.getElem?_eq_getElem (by omega)] at g;exact e (Option.some.inj g.2)),List.getElem?_eq_getElem h];rfl
theorem ddK_all {α:Type} [DecidableEq α] {l:List α}:∀ {j:Nat},j ≤ l.length → (∀ i (h:i + 1 < l.length),i + 1 < j → ¬ l[i + 1]'h = l[i]'(by omega)) → ddK l j = l.take j:=by
  intro j
  induction j with
  | zero => intro _ _;simp [ddK]
  | succ j ih =>
    intro hj h
    have hi:=ih (by omega) (fun i h1 h2 => h i h1 (by omega))
    cases j with
    | zero => rw [ddK_first (by omega),List.take_one,List.head?_eq_getElem?,List.getElem?_eq_getElem (by omega)];rfl
    | succ j => rw [ddK_other (by omega) (h j (by omega) (by omega)),hi];exact (List.take_succ_eq_append_getElem (show j + 1 < l.length by omega)).symm
theorem ddK_mem {α:Type} [DecidableEq α] {l:List α}:∀ {j:Nat},j ≤ l.length → ∀ x,x ∈ ddK l j ↔ x ∈ l.take j:=by
  intro j
  induction j with
  | zero => intro _ x;simp [ddK]
  | succ j ih =>
    intro hj x
    cases j with
    | zero => rw [ddK_first (by omega),List.take_one,List.head?_eq_getElem?,List.getElem?_eq_getElem (by omega)];simp
    | succ j =>
      rw [List.take_succ_eq_append_getElem (show j + 1 < l.length by omega),List.mem_append,List.mem_singleton,← ih (by omega) x]
      by_cases e:l[j + 1]'(by omega) = l[j]'(by omega)
      · rw [ddK_same (by omega) e]
        refine ⟨Or.inl,fun h => h.elim id fun h => ?_⟩
        rw [h,e,ih (by omega)]
        exact List.mem_take_iff_getElem.2 ⟨j,by omega,rfl⟩
      · rw [ddK_other (by omega) e,List.mem_append,List.mem_singleton]
theorem ddK_asc {l:List (Int × Int)} (hs:∀ i j (hj:j < l.length) (h:i < j),ltP (l[j]'hj) (l[i]'(by omega)) = false):∀ {j:Nat},j ≤ l.length → AscP (ddK l j):=by
  intro j
  induction j with
  | zero => intro _;exact List.Pairwise.nil
  | succ j ih =>
    intro hj
    cases j with
    | zero => rw [ddK_first (by omega)];exact List.pairwise_singleton _ _
    | succ j =>
      by_cases e:l[j + 1]'(by omega) = l[j]'(by omega)
      · rw [ddK_same (by omega) e];exact ih (by omega)
      · rw [ddK_other (by omega) e]
        refine List.pairwise_append.2 ⟨ih (by omega),List.pairwise_singleton _ _,fun x hx y hy => ?_⟩
        obtain rfl:=List.mem_singleton.1 hy
        have h1:=(ddK_mem (show j + 1 ≤ l.length by omega) x).1 hx
        obtain ⟨i,hi,rfl⟩:=List.mem_take_iff_getElem.1 h1
        have h2:ltP (l[j]'(by omega)) (l[j + 1]'(by omega)) = true:=ltP_ne (hs j (j + 1) (by omega) (by omega)) e
        by_cases e2:i = j
        · subst e2;exact h2
        · have h3:=hs i j (by omega) (by omega)
          rw [ltP_false] at h3
          rw [ltP_iff] at h2 ⊢
          omega
def movedE (L:List Efx) (x:Rnx):List (Int × Int):=match L.find? (fun y => y.nu == x.ef) with
  | some y => x.cs.map fun c => (c,y.at_)
  | Option.none => []
theorem movedE_some {L:List Efx} {x:Rnx} {y:Efx} (h:L.find? (fun y => y.nu == x.ef) = some y):movedE L x = x.cs.map fun c => (c,y.at_):=by unfold movedE;rw [h]
theorem movedE_none {L:List Efx} {x:Rnx} (h:L.find? (fun y => y.nu == x.ef) = Option.none):movedE L x = []:=by unfold movedE;rw [h]
def movedL (L:List Efx) (R:List Rnx):List (Int × Int):=R.flatMap (movedE L)
theorem movedL_take {L:List Efx} {R:List Rnx} {k:Nat} (h:k < R.length):movedL L (R.take (k + 1)) = movedL L (R.take k) ++ movedE L (R[k]'h):=by
  unfold movedL;rw [List.take_succ_eq_append_getElem h,List.flatMap_append];simp
def parL (L:List Efx) (R:List Rnx):List (Int × Int):=putsP (movedL L R)
theorem compact_puts {l s:List (Int × Int)} (hp:List.Perm s l) (hs:∀ i j (hj:j < s.length) (h:i < j),ltP (s[j]'hj) (s[i]'(by omega)) = false):ddK s s.length = putsP l :=
  asc_unique (ddK_asc hs (Nat.le_refl _)) (putsP_asc l) fun x => by rw [ddK_mem (Nat.le_refl _),List.take_length,putsP_mem];exact hp.mem_iff
theorem memI_mem {cs:List Int} {ch:Int} (h:¬ memI cs ch < 0):ch ∈ cs:=by
  unfold memI at h
  rcases first_ix (fun c => c == ch) cs with h1 | ⟨i,hi,h1,-⟩
  · rw [ixOf_no h1] at h;omega
  · rw [beq_iff_eq] at h1;rw [← h1];exact List.getElem_mem hi
theorem toldQ_unmoved {L:List Efx} {x:Rnx} {t ch a:Int} (h:(ch,a) ∉ movedE L x):toldQ L x t ch a = 0:=by
  cases hf:L.find? (fun y => y.nu == x.ef) with
  | none => exact toldQ_none hf
  | some y =>
    rw [toldQ_some hf]
    rw [movedE_some hf] at h
    by_cases c:memI x.cs ch < 0 ∨ ¬ y.at_ = a
    · rw [if_pos c]
    · exfalso
      apply h
      have h1:¬ memI x.cs ch < 0:=fun e => c (Or.inl e)
      have h2:y.at_ = a:=Decidable.not_not.1 fun e => c (Or.inr e)
      exact List.mem_map.2 ⟨ch,memI_mem h1,by rw [h2]⟩
theorem sumQ_cons (L:List Efx) (x:Rnx) (R:List Rnx) (t ch a:Int):sumQ L (x :: R) t ch a = toldQ L x t ch a + sumQ L R t ch a:=by
  suffices h:∀ (R:List Rnx) (s:Rat),R.foldl (fun s x => s + toldQ L x t ch a) s = s + sumQ L R t ch a by
    unfold sumQ;rw [List.foldl_cons,h,Rat.zero_add];rfl
  intro R
  induction R with
  | nil => intro s;show s = s + 0;rw [Rat.add_zero]
  | cons y r ih =>
    intro s
    have e:sumQ L (y :: r) t ch a = toldQ L y t ch a + sumQ L r t ch a:=by
      show List.foldl _ (0 + toldQ L y t ch a) r = _
      rw [ih,Rat.zero_add]
    rw [List.foldl_cons,ih,e,Rat.add_assoc]
theorem sumQ_unmoved {L:List Efx} {t ch a:Int}:∀ {R:List Rnx},(ch,a) ∉ movedL L R → sumQ L R t ch a = 0:=by
  intro R
  induction R with
  | nil => intro _;rfl
  | cons x r ih =>
    intro h
    unfold movedL at h
    rw [List.flatMap_cons,List.mem_append] at h
    rw [sumQ_cons,toldQ_unmoved (fun e => h (Or.inl e)),ih (fun e => h (Or.inr e)),Rat.add_zero]
def ownQ (L:List Efx) (R:List Rnx) (n t ch a:Int):Rat:=match R.find? (fun x => x.ef == n) with
  | some x => toldQ L x t ch a
  | Option.none => 0
theorem sumQ_less {L:List Efx} {n t ch a:Int}:∀ {R:List Rnx},List.Pairwise (fun a b:Rnx => a.ef < b.ef) R → sumQ L (R.filter (fun x => x.ef != n)) t ch a + ownQ L R n t ch a = sumQ L R t ch a:=by
  intro R
  induction R with
  | nil => intro _;show (0:Rat) + 0 = 0;rw [Rat.add_zero]
  | cons x r ih =>
    intro h
    obtain ⟨h1,h2⟩:=List.pairwise_cons.1 h
    by_cases e:x.ef = n
    · have hf:(x :: r).find? (fun x => x.ef == n) = some x:=List.find?_cons_of_pos (by simp [e])
      have hr:r.filter (fun x => x.ef != n) = r:=List.filter_eq_self.2 fun y hy => by rw [bne_iff_ne];have:=h1 y hy;omega
      unfold ownQ
      rw [List.filter_cons,if_neg (by simp [e]),hr,hf,sumQ_cons,Rat.add_comm]
    · have hf:(x :: r).find? (fun x => x.ef == n) = r.find? (fun x => x.ef == n):=List.find?_cons_of_neg (by simpa using e)
      rw [List.filter_cons,if_pos (by simpa using e),sumQ_cons,sumQ_cons,Rat.add_assoc]
      unfold ownQ
      rw [hf]
      unfold ownQ at ih
      rw [ih h2]
theorem find_self {R:List Rnx} (h:List.Pairwise (fun a b:Rnx => a.ef < b.ef) R) {i:Nat} (hi:i < R.length):R.find? (fun x => x.ef == (R[i]'hi).ef) = some (R[i]'hi):=by
  induction R generalizing i with
  | nil => simp at hi
  | cons x r ih =>
    obtain ⟨h1,h2⟩:=List.pairwise_cons.1 h
    cases i with
    | zero => exact List.find?_cons_of_pos (by simp)
    | succ i =>
      have hlt:i < r.length:=by simpa using hi
      have:=h1 _ (List.getElem_mem hlt)
      rw [List.getElem_cons_succ,List.find?_cons_of_neg (by simp;omega)]
      exact ih h2 hlt
end Lum
set_option maxRecDepth 100000
set_option maxHeartbeats 1000000
namespace Lum
open Go Go.RowKit Go.Shelf
open Go.Lib (decDigits itoa)
def encQ (x:Int × Int):List Value:=[.int .i64 x.1,.int .i64 x.2]
theorem encQ_len:∀ x,(encQ x).length = 2:=fun _ => rfl
theorem encQ_one:∀ x,∀ v ∈ encQ x,v.oneCell' = true:=fun x v hv => by simp [encQ] at hv;rcases hv with rfl | rfl <;> rfl
abbrev PB:=Fin 1000 × Fin 15
def embB (p:PB):Int × Int:=((p.1.val:Int),(p.2.val:Int))
def encB (p:PB):List Value:=[.int .i64 (p.1.val:Int),.int .i64 (p.2.val:Int)]
theorem encB_len:∀ x,(encB x).length = 2:=fun _ => rfl
theorem encB_one:∀ x,∀ v ∈ encB x,v.oneCell' = true:=fun x v hv => by simp [encB] at hv;rcases hv with rfl | rfl <;> rfl
def cfB (x y:PB):Int:=if (x.1.val:Int) = y.1.val then (x.2.val:Int) - y.2.val else (x.1.val:Int) - y.1.val
theorem cfB_lt (x y:PB):Go.Proofs.ltOf cfB x y = ltP (embB x) (embB y):=by
  unfold Go.Proofs.ltOf cfB ltP embB
  refine decide_eq_decide.2 ?_
  dsimp only
  split <;> omega
theorem cfB_swo : Go.Sort.SWO (Go.Proofs.ltOf cfB) where
  irrefl x:=by rw [cfB_lt];exact ltP_irr _
  trans x y z h g:=by rw [cfB_lt] at *;exact ltP_trans h g
  ntrans x y z h g:=by rw [cfB_lt] at *;rw [ltP_false] at *;omega
def BndP (l:List (Int × Int)):Prop:=∀ q ∈ l,(1 ≤ q.1 ∧ q.1 ≤ 999) ∧ 0 ≤ q.2 ∧ q.2 < 15
theorem bnd_emb:∀ {l:List (Int × Int)},BndP l → ∃ d:List PB,d.map embB = l:=by
  intro l
  induction l with
  | nil => intro _;exact ⟨[],rfl⟩
  | cons q r ih =>
    intro h
    obtain ⟨d,hd⟩:=ih fun x hx => h x (List.mem_cons_of_mem _ hx)
    have hq:=h q List.mem_cons_self
    refine ⟨(⟨q.1.toNat,by omega⟩,⟨q.2.toNat,by omega⟩) :: d,?_⟩
    rw [List.map_cons,hd]
    congr 1
    refine Prod.ext ?_ ?_
    · show ((q.1.toNat:Nat):Int) = q.1;omega
    · show ((q.2.toNat:Nat):Int) = q.2;omega
theorem holdsB {base:Nat} {e:TypeId} {W:World} {g c:Nat} {d:List PB} (h:OwnR encQ 2 base e W (some ⟨g,0,none⟩) c (d.map embB)) (hn:d.map embB ≠ []):Go.Sort.HoldsK encB 2 W g 0 d.toArray:=by
  intro j hj
  have hj2:j < d.length * 2:=by simpa using hj
  refine ⟨?_,h.frozenAt hn _⟩
  rw [Go.Sort.get_flatK encB 2 d.toArray j (by simpa using hj2)]
  have hi:j / 2 < d.length:=by omega
  have hx:(d.map embB)[j / 2]? = some (embB (d[j / 2]'hi)):=by rw [List.getElem?_map,List.getElem?_eq_getElem hi];rfl
  have ha:d.toArray[j / 2]! = d[j / 2]'hi:=by rw [getElem!_pos d.toArray (j / 2) (by simpa using hi)];simp
  rw [ha]
  have hc:=h.cellsAt encQ_len hx
  rcases (show j % 2 = 0 ∨ j % 2 = 1 by omega) with hm | hm
  · rw [hm,show 0 + j = j / 2 * 2 + 0 by omega];exact hc 0 _ rfl
  · rw [hm,show 0 + j = j / 2 * 2 + 1 by omega];exact hc 1 _ rfl
theorem flatB_list (d:List PB):(Go.Sort.flatK encB 2 d.toArray).toList = d.flatMap encB:=by
  have hl:(d.flatMap encB).length = d.length * 2:=flat_len encB_len d
  apply List.ext_getElem?
  intro j
  by_cases hj:j < d.length * 2
  · have h1:(d.flatMap encB)[j]? = some ((d.flatMap encB)[j]'(by rw [hl];exact hj)):=List.getElem?_eq_getElem _
    rw [h1]
    refine flat_cell encB_len d (fun t => (Go.Sort.flatK encB 2 d.toArray).toList[t]?) (fun i hi t v hv => ?_) j _ h1
    have ht:t < 2:=by have:=(List.getElem?_eq_some_iff.1 hv).1;rwa [encB_len] at this
    have hlt:i * 2 + t < (Go.Sort.flatK encB 2 d.toArray).size:=by simp;omega
    have hlt2:i * 2 + t < d.toArray.size * 2:=by simp;omega
    show (Go.Sort.flatK encB 2 d.toArray).toList[i * 2 + t]? = some v
    rw [Array.getElem?_toList,Array.getElem?_eq_getElem hlt,← getElem!_pos (Go.Sort.flatK encB 2 d.toArray) _ hlt,Go.Sort.get_flatK _ _ _ _ hlt2,show (i * 2 + t) / 2 = i by omega,show (i * 2 + t) % 2 = t by omega]
    have ha:d.toArray[i]! = d[i]'hi:=by rw [getElem!_pos d.toArray i (by simpa using hi)];simp
    rw [ha,getElem!_pos (encB (d[i]'hi)) t (by rw [encB_len];exact ht)]
    rw [List.getElem?_eq_getElem (by rw [encB_len];exact ht)] at hv
    exact hv
  · rw [List.getElem?_eq_none (by simp;omega),List.getElem?_eq_none (by omega)]
theorem heap_sortK {w : World} {g n : Nat} {os : Array Obj} {cur : Array Value} {e : TypeId} {fr : Nat × Nat} (F : Array Value) (hb : w.heap[g]? = some (.cells cur e fr)) :
    (Go.Sort.grow (Go.Sort.putRow id (Go.Sort.ahead w n) g 0 F) os).heap[g]? = some (.cells (Go.Sort.putCells id 0 F cur) e fr):=by
  have hg:g < w.heap.size:=(Array.getElem?_eq_some_iff.1 hb).1
  rw [Go.Sort.heap_grow_old _ _ (by simpa using hg)]
  simp [Go.Sort.putRow,Go.Sort.mapBlock,Go.Sort.ahead,Array.getElem?_modify,hb,Go.Sort.onCells]
theorem grown_sortK {w:World} {g n:Nat} {os:Array Obj} (F:Array Value):w.grownBy (Go.Sort.grow (Go.Sort.putRow id (Go.Sort.ahead w n) g 0 F) os) (some g):=by
  refine ⟨rfl,rfl,rfl,by simp,fun k hk hne => ?_⟩
  rw [Go.Sort.heap_grow_old _ _ (by simpa using hk)]
  have:g ≠ k:=fun e => hne (by rw [e])
  simp [Go.Sort.putRow,Go.Sort.mapBlock,Go.Sort.ahead,Array.getElem?_modify,this]
theorem take_putId (cur F:Array Value) (h:F.size ≤ cur.size):(Go.Sort.putCells id 0 F cur).toList.take F.size = F.toList:=by
  apply List.ext_getElem?
  intro j
  by_cases hj:j < F.size
  · rw [List.getElem?_take_of_lt hj,Array.getElem?_toList]
    simp [Go.Sort.putCells,hj,show j < cur.size by omega]
  · rw [List.getElem?_take_eq_none (by omega),List.getElem?_eq_none (by simp;omega)]
theorem ownR_sortK {base:Nat} {e:TypeId} {W:World} {g c n:Nat} {os:Array Obj} {d s:List PB} (h:OwnR encQ 2 base e W (some ⟨g,0,none⟩) c (d.map embB)) (hn:d.map embB ≠ []) (hl:s.length = d.length) (hbase:base ≤ W.heap.size):OwnR encQ 2 base e (Go.Proofs.sortWorldK encB 2 W g 0 n s.toArray os) (some ⟨g,0,none⟩) c (s.map embB) ∧ Below base W (Go.Proofs.sortWorldK encB 2 W g 0 n s.toArray os):=by
  obtain ⟨g',cur,hp,hg,hb,hc1,hc2,hc3,hc4⟩:=h.to_blk hn
  injection hp with hp
  injection hp with hp
  subst hp
  rw [List.length_map] at hc1 hc4
  refine ⟨OwnR.of_blk encQ_len (heap_sortK (Go.Sort.flatK encB 2 s.toArray) hb) hg (by rw [List.length_map];omega) hc2 (by simp [Go.Sort.putCells,hc3]) ?_,?_⟩
  · have h1:=take_putId cur (Go.Sort.flatK encB 2 s.toArray) (by simp;omega)
    rw [flatB_list] at h1
    have h2:(s.map embB).length * 2 = (Go.Sort.flatK encB 2 s.toArray).size:=by simp
    rw [h2,h1,List.flatMap_map];rfl
  · exact (Below.refl base W).grown (grown_sortK _) hbase fun k hk => by injection hk with hk;subst hk;exact hg
def SameB (p:Option Addr) (w W:World):Prop:=∀ k,k < w.heap.size → (∀ a,p = some a → a.block ≠ k) → W.heap[k]? = w.heap[k]?
theorem SameB.refl (p:Option Addr) (w:World):SameB p w w:=fun _ _ _ => rfl
theorem SameB.below {p:Option Addr} {w A B:World} (h:SameB p w A) (hs:w.heap.size ≤ A.heap.size) (hb:Below A.heap.size A B):SameB p w B:=fun k hk hp => (hb.block k (by omega)).trans (h k hk hp)
theorem SameB.setCell {g:Nat} {w A:World} (h:SameB (some ⟨g,0,none⟩) w A) (i:Nat) (v:Value):SameB (some ⟨g,0,none⟩) w (A.setCell ⟨g,i,none⟩ v):=fun k hk hp => (Below.heap_setCell A ⟨g,i,none⟩ v k (fun e => hp _ rfl e.symm)).trans (h k hk hp)
theorem sameB_sortK {W:World} {g n:Nat} {os:Array Obj} {s:List PB}:SameB (some ⟨g,0,none⟩) W (Go.Proofs.sortWorldK encB 2 W g 0 n s.toArray os):=fun k hk hp => (grown_sortK _).block k hk (fun e => hp _ rfl (by injection e with e;exact e.symm))
def ParsAt (W:World) (v:Value) (l:List (Int × Int)):Prop:=∃ p c,v = .slice p l.length c ∧ RowX encQ 2 W p l
theorem ParsAt.kept {W W':World} {v:Value} {l:List (Int × Int)} (h:ParsAt W v l) (hb:Below W.heap.size W W'):ParsAt W' v l:=by
  obtain ⟨p,c,e,h⟩:=h
  exact ⟨p,c,e,h.kept hb⟩
theorem OwnR.pars {base:Nat} {e:TypeId} {W:World} {p:Option Addr} {c:Nat} {l:List (Int × Int)} (h:OwnR encQ 2 base e W p c l):ParsAt W (.slice p l.length c) l:=⟨p,c,rfl,h.row encQ_len⟩
theorem RowX.elemsQ {W:World} {b o:Nat} {l:List (Int × Int)} (h:∀ i (hi:i < l.length) j v,(encQ (l[i]'hi))[j]? = some v → W.cell? ⟨b,o + i * 2 + j,none⟩ = some v):∀ j,j < l.length → ∀ i v,(encQ l[j]!)[i]? = some v → W.cell? ⟨b,o + j * 2 + i,none⟩ = some v:=by
  intro j hj i v hv
  rw [getElem!_pos l j hj] at hv
  exact h j hj i v hv
end Lum
namespace Go.Proofs.YtbeojahilbglcaaGreatDoor
open Go.RowKit Go.Shelf Lum Go.Lib
attribute [local go_sem] bs_get bs_extract_end bs_extract_from bs_extract bs_append
theorem cmp_pa (x y:PB) (W:World):Calls Tryz.prog 59 #[.agg #[.int .i64 (x.1.val:Int),.int .i64 (x.2.val:Int)],.agg #[.int .i64 (y.1.val:Int),.int .i64 (y.2.val:Int)]] W fun e w' => e = .returned (.int .i64 (cfB x y)) ∧ ∃ q os',w' = Go.Sort.grow (W.drewN q) os':=by
  obtain ⟨⟨a,ha⟩,⟨b,hb⟩⟩:=x
  obtain ⟨⟨c,hc⟩,⟨d,hd⟩⟩:=y
  by_cases h:(a:Int) = (c:Int)
  · have e:cfB (⟨a,ha⟩,⟨b,hb⟩) (⟨c,hc⟩,⟨d,hd⟩) = (b:Int) - d:=if_pos h
    rw [e]
    dsimp only
    have hne:((a:Int) != (c:Int)) = false:=by rw [bne_eq_false_iff_eq];exact h
    have hw:IntKind.i64.wrap ((b:Int) - (d:Int)) = (b:Int) - d:=IntWalk.i64_in _ (by omega)
    clear e h
    generalize (a:Int) = a' at *
    generalize (c:Int) = c' at *
    generalize (b:Int) = b' at *
    generalize (d:Int) = d' at *
    go_enter Tryz.func59,Tryz.ntmps59
    go_wp2
    go_ret
    exact ⟨rfl,0,_,by rw [Go.Sort.alloc_eq_grow,Go.Sort.alloc_eq_grow,Go.Sort.grow_grow];rfl⟩
  · have e:cfB (⟨a,ha⟩,⟨b,hb⟩) (⟨c,hc⟩,⟨d,hd⟩) = (a:Int) - c:=if_neg h
    rw [e]
    dsimp only
    have hne:((a:Int) != (c:Int)) = true:=by rw [bne_iff_ne];exact h
    have hw:IntKind.i64.wrap ((a:Int) - (c:Int)) = (a:Int) - c:=IntWalk.i64_in _ (by omega)
    clear e h
    generalize (a:Int) = a' at *
    generalize (c:Int) = c' at *
    generalize (b:Int) = b' at *
    generalize (d:Int) = d' at *
    go_enter Tryz.func59,Tryz.ntmps59
    go_wp2
    go_ret
    exact ⟨rfl,0,_,by rw [Go.Sort.alloc_eq_grow,Go.Sort.alloc_eq_grow,Go.Sort.grow_grow];rfl⟩
theorem own_psort (l : List (Int × Int)) (w : World) (p : Option Addr) (c base : Nat) (hO : OwnR encQ 2 base 45 w p c l) (hb : BndP l) (hn : l.length ≤ 1000000) (hbase : base ≤ w.heap.size) :
    Calls Tryz.prog 58 #[.slice p l.length c,.func (.func 59) #[] #[]] w fun e w' => e = .returned (.tuple #[]) ∧ ∃ s,List.Perm s l ∧ (∀ i j (hj:j < s.length) (h:i < j),ltP (s[j]'hj) (s[i]'(by omega)) = false) ∧ OwnR encQ 2 base 45 w' p c s ∧ Below base w w' ∧ SameB p w w':=by
  obtain ⟨d,rfl⟩:=bnd_emb hb
  by_cases h0:d.map embB = []
  · rw [h0] at hO ⊢
    refine (AnyF.slices_SortFunc_none Tryz.sortPa p c (.func (.func 59) #[] #[]) w).mono fun e w' ⟨he,hw⟩ => ⟨he,[],List.Perm.refl _,fun i j hj => absurd hj (Nat.not_lt_zero _),?_,?_,?_⟩
    · subst hw;exact hO
    · subst hw;exact Below.refl _ _
    · subst hw;exact SameB.refl _ _
  · obtain ⟨g,cur,rfl,hg,-⟩:=hO.to_blk h0
    have hlt:=(hO.lt _ rfl).2
    have eg:∀ args w,(callFunc 59 args).run Tryz.prog w = .ok (.enter 59 args) w:=enters_of Tryz.func59 (by kernel_rfl) rfl
    have hs:d.toArray.size = (d.map embB).length:=by simp
    have hl:d.length ≤ 1000000:=by rwa [List.length_map] at hn
    have h:=AnyQ.slices_SortFunc Tryz.sortPa 2 Tryz.isAgg45 Tryz.sizeOf45 encB encB_len encB_one cfB cfB_swo 59 #[] g 0 c d.toArray w eg (fun m os dk _ x y => cmp_pa x y _) (holdsB hO h0) hlt (by simp;omega)
    rw [hs] at h
    refine h.mono fun e w' ⟨he,d',n,os,hp,hsd,hw⟩ => ⟨he,d'.toList.map embB,?_,fun i j hj hij => ?_,?_,?_,?_⟩
    · refine List.Perm.map _ ?_
      have h1:=hp.2.2
      rw [← hs,Array.extract_size] at h1
      have h2:d'.size = d.toArray.size:=hp.1
      rw [← h2,Array.extract_size] at h1
      simpa using h1
    · have h2:d'.size = d.toArray.size:=hp.1
      have hj2:j < d'.size:=by simpa using hj
      have:=hsd i j (Nat.zero_le _) hij (by rw [← hs,← h2];exact hj2)
      rw [cfB_lt,getElem!_pos d' j hj2,getElem!_pos d' i (by omega)] at this
      simpa using this
    · have h3:=(ownR_sortK (n:=n) (os:=os) (s:=d'.toList) hO h0 (by have:d'.size = d.toArray.size:=hp.1;simpa using this) hbase).1
      rw [Array.toArray_toList] at h3
      rw [hw];exact h3
    · have h3:=(ownR_sortK (n:=n) (os:=os) (s:=d'.toList) hO h0 (by have:d'.size = d.toArray.size:=hp.1;simpa using this) hbase).2
      rw [Array.toArray_toList] at h3
      rw [hw];exact h3
    · have h3:=sameB_sortK (W:=w) (g:=g) (n:=n) (os:=os) (s:=d'.toList)
      rw [Array.toArray_toList] at h3
      rw [hw];exact h3
theorem eqPa:EqlAt Tryz.prog 45 (fun x => .agg (encQ x).toArray) (fun x y:Int × Int => x.1 == y.1 && x.2 == y.2):=by
  refine ⟨fun x y w => ?_,GuardAt.agg _ (by kernel_rfl)⟩
  have u3:=Tryz.underlying3
  have a3:=Tryz.isAgg3
  have z3:=Tryz.sizeOf3
  have hS:Tryz.prog.underlying 45 = some (.struct (Tryz.prog.fieldsOf 45)):=by kernel_rfl
  have hp:Tryz.prog.stoodInHeld 45 = false:=by kernel_rfl
  simp only [encQ]
  rw [run_eql_struct,show (10000:Nat) = 9999 + 1 from rfl,run_equalIn_agg w 9999 45 _ _ hS hp]
  simp only [Program.fieldsOf,Tryz.underlying45]
  go_simp
  by_cases h1:x.fst = y.fst <;> by_cases h2:x.snd = y.snd <;> simp [h1,h2]
theorem neq_pa (W:World) (a b c d:Int):(binOp .neq 45 (.agg #[.int .i64 a,.int .i64 b]) (.agg #[.int .i64 c,.int .i64 d])).run Tryz.prog W = .ok (.bool (!((a == c) && (b == d)))) W:=by
  have h1:Tryz.prog.underlying 45 = some (.struct (Tryz.prog.fieldsOf 45)):=by kernel_rfl
  have h2:Tryz.prog.stoodInHeld 45 = false:=by kernel_rfl
  rw [run_neq_struct,run_equalIn_agg W 9999 _ _ _ h1 h2]
  have hf:=TypeDesc.struct.inj (Option.some.inj (h1.symm.trans Tryz.underlying45))
  rw [hf]
  simp [Op.eqFields,go_sem,Tryz.underlying3]
  by_cases e1:a = c
  · by_cases e2:b = d
    · simp [e1,e2]
    · simp [e1,e2]
  · simp [e1]
theorem pa_contains (l : List (Int × Int)) (v : Value) (x y : Int) (w : World) (hv : ParsAt w v l) (hn : l.length ≤ 1000000) :
    Calls Tryz.prog 27 #[v,.agg #[.int .i64 x,.int .i64 y]] w fun e w' => e = .returned (.bool (decide ((x,y) ∈ l))) ∧ Below w.heap.size w w':=by
  obtain ⟨p,c,rfl,hv2⟩:=hv
  by_cases h0:l = []
  · subst h0
    clear hv2 hn
    have hix:∀ W,Calls Tryz.prog 75 #[.slice p 0 c,.agg #[.int .i64 x,.int .i64 y]] W fun e w' => e = .returned (.int .i64 (-1)) ∧ Below W.heap.size W w':=by
      intro W
      have HB:=Lib.hid ((Below.refl W.heap.size W).alloc (Nat.le_refl _) (.cells #[.int .i64 x,.int .i64 y] 45))
      go_enter Tryz.func75,Tryz.ntmps75
      go_wp2
      refine wp_loop_rounds 1 ?_
      rw [rounds_succ]
      go_wp2
      go_ret
      exact ⟨rfl,HB.out⟩
    have HIX:=Lib.hid hix;clear hix
    rw [show decide ((x,y) ∈ ([]:List (Int × Int))) = false from rfl]
    dsimp only [List.length_nil]
    have HB:=Lib.hid ((Below.refl w.heap.size w).alloc (Nat.le_refl _) (.cells #[.int .i64 x,.int .i64 y] 45))
    have HK:=Lib.hid (Blk.new w 45 #[.int .i64 x,.int .i64 y])
    obtain ⟨k0,k1,kf0,kf1⟩:=HK.out.c2
    go_enter Tryz.func27,Tryz.ntmps27
    go_wp2_with (first | (with_reducible refine ((HIX.out _).mono ?_);rintro e w' ⟨rfl,hb⟩;replace HB:=Lib.hid (bch' HB.out hb);clear hb))
    go_ret
    exact ⟨rfl,HB.out⟩
  · obtain ⟨b,o,rfl,hb,k⟩:=hv2 h0
    refine (AnyQ.slices_Contains Tryz.containsPa 2 Tryz.isAgg45 Tryz.sizeOf45 encQ encQ_len _ eqPa b o l.length c l (x,y) w (Nat.le_refl _) (by omega) (RowX.elemsQ k)).mono fun e w' ⟨he,hb⟩ => ⟨?_,hb⟩
    rw [he,List.take_length]
    congr 2
    rw [Bool.eq_iff_iff,List.any_eq_true,decide_eq_true_iff]
    constructor
    · rintro ⟨q,hq,h⟩
      simp only [Bool.and_eq_true,beq_iff_eq] at h
      obtain ⟨q1,q2⟩:=q
      obtain ⟨rfl,rfl⟩:=h
      exact hq
    · intro h
      exact ⟨(x,y),h,by simp⟩
end Go.Proofs.YtbeojahilbglcaaGreatDoor
set_option maxRecDepth 100000
set_option maxHeartbeats 4000000
namespace Lum
open Go Go.RowKit Go.Shelf
open Go.Lib (decDigits itoa)
theorem clearK2 {P : Program} (w : World) (t elem : TypeId) (z : Value) (k g o n c : Nat) (cur : Array Value) (hu : P.underlying t = some (.slice elem)) (hz : ∀ w, (zeroValue elem).run P w = .ok z w) (hzs : z.cells.size = k) (h1 : ∀ v ∈ z.cells, v.oneCell' = true)
    (hg:Blk w g elem cur) (hn:0 < n) (hfit:o + n * k ≤ cur.size) :
    ∃ (w':World) (cs:List Value),(∀ ty,(Builtin.clear_ #[t] ty #[.slice (some ⟨g,o,none⟩) n c]).run P w = .ok (.tuple #[]) w') ∧ cs.length = n * k ∧ Blk w' g elem (rowC cur o cs) ∧ (∀ B,B ≤ g → Below B w w') ∧ (∀ k,k ≠ g → w'.heap[k]? = w.heap[k]?):=by
  have hl:(Builtin.zeroCells z.cells n).toList.length = n * k:=by rw [Array.length_toList,size_zeroCells,hzs]
  have ho:∀ v ∈ (Builtin.zeroCells z.cells n).toList,v.oneCell' = true:=by
    intro v hv
    rw [Array.mem_toList_iff] at hv
    unfold Builtin.zeroCells at hv
    rw [Array.mem_map] at hv
    obtain ⟨i,hi,rfl⟩:=hv
    rw [Array.mem_range] at hi
    have hk:0 < z.cells.size:=by
      rcases Nat.eq_zero_or_pos z.cells.size with h | h
      · rw [h] at hi;simp at hi
      · exact h
    have hm:i % z.cells.size < z.cells.size:=Nat.mod_lt _ hk
    apply h1
    rw [getElem!_pos z.cells (i % z.cells.size) hm]
    exact Array.getElem_mem _
  have hst:=run_storeCells_at P g o elem (Builtin.zeroCells z.cells n).toList 0 cur w hg (by rw [hl];simpa using hfit) ho
  refine ⟨_,(Builtin.zeroCells z.cells n).toList,fun ty => ?_,hl,setRow_heap w g cur _ elem _ hg,fun B hB => below_setRow (Below.refl B w) hB _,fun k hk => setRow_other _ _ _ _ hk⟩
  obtain ⟨m,rfl⟩:∃ m,n = m + 1:=⟨n - 1,by omega⟩
  simp only [Nat.add_zero] at hst
  simp [Builtin.clear_,run_underlying hu,hz,hst,rowC]
theorem ddK_same2 {α:Type} [DecidableEq α] {l:List α} {m:Nat} (h:m < l.length) (h0:1 ≤ m) (e:l[m]'h = l[m - 1]'(by omega)):ddK l (m + 1) = ddK l m:=by
  obtain ⟨j,rfl⟩:∃ j,m = j + 1:=⟨m - 1,by omega⟩
  exact ddK_same h e
theorem ddK_other2 {α:Type} [DecidableEq α] {l:List α} {m:Nat} (h:m < l.length) (h0:1 ≤ m) (e:¬ l[m]'h = l[m - 1]'(by omega)):ddK l (m + 1) = ddK l m ++ [l[m]'h]:=by
  obtain ⟨j,rfl⟩:∃ j,m = j + 1:=⟨m - 1,by omega⟩
  exact ddK_other h e
end Lum
namespace Go.Proofs.YtbeojahilbglcaaGreatDoor
open Go.RowKit Go.Shelf Lum
open Go.Lib (decDigits itoa)
attribute [local go_sem] bs_get bs_extract_end bs_extract_from bs_extract bs_append
theorem info_pa:(Tryz.prog.info? 45).map (fun i => (i.zero,i.size,i.bytes)) = some (some (.agg #[.int .i64 0,.int .i64 0]),2,16):=by kernel_rfl
theorem eq_pa (W:World) (x y:Int × Int):(binOp .eql 45 (.agg #[.int .i64 x.1,.int .i64 x.2]) (.agg #[.int .i64 y.1,.int .i64 y.2])).run Tryz.prog W = .ok (.bool ((x.1 == y.1) && (x.2 == y.2))) W:=eqPa.1 x y W
theorem nq_pa (W:World) (x y:Int × Int):(binOp .neq 45 (.agg #[.int .i64 x.1,.int .i64 x.2]) (.agg #[.int .i64 y.1,.int .i64 y.2])).run Tryz.prog W = .ok (.bool (!((x.1 == y.1) && (x.2 == y.2)))) W:=neq_pa W x.1 x.2 y.1 y.2
theorem own_pcompact (l : List (Int × Int)) (w : World) (p : Option Addr) (cc base : Nat) (hO : OwnR encQ 2 base 45 w p cc l) (hn : l.length ≤ 1000000) (hbase : base ≤ w.heap.size) :
    Calls Tryz.prog 60 #[.slice p l.length cc] w fun e w' => ∃ p' c',e = .returned (.slice p' (ddK l l.length).length c') ∧ OwnR encQ 2 base 45 w' p' c' (ddK l l.length) ∧ Below base w w' ∧ SameB p w w':=by
  have HO:=Lib.hid hO;clear hO
  have HB:=Lib.hid (Below.refl base w)
  have HG:Hid (SameB p w w):=Lib.hid (SameB.refl _ _)
  by_cases h2:l.length < 2
  · have hlt:(l.length:Int) < 2:=by omega
    have HE:Hid (ddK l l.length = l):=Lib.hid (by rw [ddK_all (Nat.le_refl _) (fun i h hi => by omega),List.take_length])
    go_enter Tryz.func60,Tryz.ntmps60
    go_wp2_with fail
    go_ret
    rw [HE.out]
    exact ⟨_,_,rfl,HO.out,HB.out,HG.out⟩
  · have hlt2:¬ (l.length:Int) < 2:=by omega
    obtain ⟨g,rfl,hgb⟩:=ownR_some HO.out (fun e => by subst e;simp at h2)
    have HGB:=Lib.hid hgb;clear hgb
    go_enter Tryz.func60,Tryz.ntmps60
    go_wp2_with fail
    go_loopw [3] (fun s3 wr => ∃ k r:Nat,s3 = .int .i64 (k:Int) ∧ Hid (1 ≤ k) ∧ Hid (k + r = l.length) ∧ Hid (∀ i (h:i + 1 < l.length),i + 1 < k → ¬ l[i + 1]'h = l[i]'(by omega)) ∧ Hid (Below base w wr) ∧ Hid (SameB (some ⟨g,0,none⟩) w wr) ∧ Hid (OwnR encQ 2 base 45 wr (some ⟨g,0,none⟩) cc l)) (fun s3 _ => l.length - (intOf s3).toNat)
    case atStart => exact ⟨1,l.length - 1,rfl,Lib.hid (by omega),Lib.hid (by omega),Lib.hid (fun i h hi => by omega),HB,HG,HO⟩
    case round =>
      clear HB HO HG
      obtain ⟨k,r,rfl,h1,hr,HN,HB,HG,HO⟩:=hrel
      cases r with
      | zero =>
        obtain rfl:k = l.length:=by have:=hr.out;omega
        have hlt:¬ (l.length:Int) < (l.length:Int):=by omega
        have HE:Hid (ddK l l.length = l):=Lib.hid (by rw [ddK_all (Nat.le_refl _) HN.out,List.take_length])
        go_wp2_with fail
        go_ret
        rw [HE.out]
        exact ⟨_,_,rfl,HO.out,HB.out,HG.out⟩
      | succ r =>
        have hml:k < l.length:=by have:=hr.out;omega
        have hk1:=h1.out
        have hlt:(k:Int) < (l.length:Int):=by omega
        have hk0:(0:Int) ≤ (k:Int):=by omega
        have hkl:(k:Int) ≤ (l.length:Int):=by omega
        have hun:IntKind.i64.wrap ((k:Int) + 1) = (k:Int) + 1:=IntWalk.i64_in _ (by omega)
        have hus:IntKind.i64.wrap ((k:Int) - 1) = ((k - 1:Nat):Int):=by rw [IntWalk.i64_in _ (by omega)];omega
        have hs0:(0:Int) ≤ ((k - 1:Nat):Int):=by omega
        have hs1:((k - 1:Nat):Int) < (l.length:Int):=by omega
        obtain ⟨x,hx⟩:∃ x,x = l[k]'hml:=⟨_,rfl⟩
        obtain ⟨y,hy⟩:∃ y,y = l[k - 1]'(by omega):=⟨_,rfl⟩
        have hxc:=HO.out.cellsAt encQ_len (i:=k) (x:=x) (by rw [List.getElem?_eq_getElem hml,hx])
        have x0:wr.cell? ⟨g,k * 2,none⟩ = some (.int .i64 (x.1)):=hxc 0 _ rfl
        have x1:wr.cell? ⟨g,k * 2 + 1,none⟩ = some (.int .i64 (x.2)):=hxc 1 _ rfl
        have hyc:=HO.out.cellsAt encQ_len (i:=k - 1) (x:=y) (by rw [List.getElem?_eq_getElem (by omega),hy])
        have y0:wr.cell? ⟨g,(k - 1) * 2,none⟩ = some (.int .i64 (y.1)):=hyc 0 _ rfl
        have y1:wr.cell? ⟨g,(k - 1) * 2 + 1,none⟩ = some (.int .i64 (y.2)):=hyc 1 _ rfl
        have hgl:g < wr.heap.size:=(HO.out.lt _ rfl).2
        have hlo:k * 2 < 9223372036854775807:=by omega
        clear hxc hyc
        by_cases heq:x = y
        · have HD1:Hid (ddK l (k + 1) = l.take k):=Lib.hid ((ddK_same2 hml hk1 (by rw [← hx,← hy];exact heq)).trans (ddK_all (by omega) HN.out))
          clear hx hy
          subst heq
          have hbe:((x.1 == x.1) && (x.2 == x.2)) = true:=by simp
          have heqr:=fun W => eq_pa W x x
          have hneqr:=fun W => nq_pa W x x
          rw [hbe] at heqr hneqr
          (try dsimp only [Bool.not_true] at hneqr)
          go_upto_region 6 with fail
          have fx0:=fun p:BelowOf _ => BelowOf.cell hgl x0 p
          have fx1:=fun p:BelowOf _ => BelowOf.cell hgl x1 p
          have fy0:=fun p:BelowOf _ => BelowOf.cell hgl y0 p
          have fy1:=fun p:BelowOf _ => BelowOf.cell hgl y1 p
          have fz:=fun p:BelowOf _ => Nat.lt_of_lt_of_le hgl p.h.size
          refine wp_region_WQ (by kernel_rfl) (by kernel_rfl) ?_
          repeat (refine WQ.step (fun K hK => ?_);go_simp;first | (refine hK.out _ ?_;clear hK K) | (apply Exists.intro;refine ⟨fun _ => ?_,hK.out _ ?_⟩;(first | rfl);clear hK K))
          refine WQ.nil ?_
          intro _ hw'
          obtain ⟨⟨wq,hbq⟩,hw2⟩:=hw'
          subst hw2
          replace HO:=Lib.hid (HO.out.keep hbq)
          replace HG:=Lib.hid (HG.out.below HB.out.size hbq)
          replace HB:=Lib.hid (HB.out.trans (hbq.mono (Nat.le_trans hbase HB.out.size)))
          clear fx0 fx1 fy0 fy1 fz
          clear x0 x1 y0 y1 hgl
          have hck:¬ cc = k:=by have:=HO.out.cap;omega
          go_wp2_with fail
          go_loopw [3,5] (fun s3 s5 wr => ∃ k2 r2:Nat,s3 = .int .i64 ((ddK l (k + k2)).length:Int) ∧ s5 = .int .i64 (k2:Int) ∧ Hid (1 ≤ k2) ∧ Hid (k + k2 + r2 = l.length) ∧ Hid ((ddK l (k + k2)).length < k + k2) ∧ Hid (Below base w wr) ∧ Hid (SameB (some ⟨g,0,none⟩) w wr) ∧ Hid (OwnR encQ 2 base 45 wr (some ⟨g,0,none⟩) cc (ddK l (k + k2) ++ l.drop (ddK l (k + k2)).length))) (fun _ s5 _ => l.length - k - (intOf s5).toNat)
          case atStart => exact ⟨1,l.length - k - 1,by rw [HD1.out,List.length_take,Nat.min_eq_left (by omega)],by first | rfl | simp,Lib.hid (by omega),Lib.hid (by omega),Lib.hid (by rw [HD1.out,List.length_take];omega),HB,HG,Lib.hid (by rw [HD1.out,List.length_take,Nat.min_eq_left (by omega),List.take_append_drop];exact HO.out)⟩
          case round =>
            clear HB HO HG
            obtain ⟨k2,r2,rfl,rfl,h1,hr,HLT,HB,HG,HO⟩:=hrel
            cases r2 with
            | zero =>
              obtain rfl:k2 = l.length - k:=by have:=hr.out;omega
              have hkk:k + (l.length - k) = l.length:=by omega
              rw [hkk] at HLT HO ⊢
              obtain ⟨K,hK⟩:∃ K,K = ddK l l.length:=⟨_,rfl⟩
              have HE:=Lib.hid hK
              rw [← hK] at HLT HO ⊢
              clear hK
              have hml:K.length < l.length:=HLT.out
              have hlt:¬ ((l.length - k:Nat):Int) < ((l.length - k:Nat):Int):=by omega
              obtain ⟨g2,cur,hp,hg2,hbk,hc1,hc2,hc3,hc4⟩:=HO.out.to_blk (fun e => by have h:=congrArg List.length e;rw [kept_len (by omega)] at h;have h2:l.length = 0:=h;omega)
              obtain rfl:g = g2:=by have:=Option.some.inj hp;injection this
              rw [kept_len (by omega)] at hc1
              have hKR:(l.drop K.length).length = l.length - K.length:=List.length_drop
              obtain ⟨w4,cs,hclr,hcl,hbk2,hbl2,hsm2⟩:=clearK2 (P:=Tryz.prog) wr 55 45 (.agg #[.int .i64 0,.int .i64 0]) 2 g (K.length * 2) (l.length - K.length) (cc - K.length) cur Tryz.underlying55 (fun _ => by kernel_rfl) rfl (by decide) hbk (by omega) (by rw [hc3,← Nat.add_mul];exact Nat.mul_le_mul_right _ (by omega))
              have HFI:Hid (OwnR encQ 2 base 45 w4 (some ⟨g,0,none⟩) cc K):=Lib.hid (OwnR.cut (R:=l.drop K.length) encQ_len hg2 (by rw [kept_len (by omega)];exact hc1) hc2 hc3 (by have h:=hc4;rw [kept_len (by omega)] at h ⊢;exact h) (by rw [hKR];exact hcl) hbk2)
              have HCL:=Lib.hid hclr;have HB4:Hid (Below base w w4):=Lib.hid (HB.out.trans (hbl2 base hg2));have HG4:Hid (SameB (some ⟨g,0,none⟩) w w4):=Lib.hid (fun k hk hp => (hsm2 k (fun e => hp _ rfl e.symm)).trans (HG.out k hk hp))
              have hcap:¬ cc = K.length:=by omega
              have hcz:¬ cc = 0:=by omega
              have hcc1:(K.length:Int) ≤ (cc:Int):=by omega
              have hm0:(0:Int) ≤ (K.length:Int):=by omega
              have hmll:(K.length:Int) ≤ (l.length:Int):=by omega
              have hcb:(cc:Int) ≤ 9223372036854775807:=by unfold maxLen at hc2;omega
              have hlc:(l.length:Int) ≤ (cc:Int):=by omega
              clear hclr hcl hbk2 hbl2 hsm2 hbk hc1 hc2 hc3 hc4 hKR hp hg2 hkk
              go_wp2_with (first | (with_reducible refine wpList_clear_run _ rfl (.tmp 56) 55 rfl _ rfl (HCL.out _) ?_))
              go_ret
              rw [← HE.out]
              exact ⟨_,_,rfl,HFI.out,HB4.out,HG4.out⟩
            | succ r2 =>
              have hml:k + k2 < l.length:=by have:=hr.out;omega
              obtain ⟨K,hK⟩:∃ K,K = ddK l (k + k2):=⟨_,rfl⟩
              have HK:=Lib.hid hK
              rw [← hK] at HLT HO ⊢
              clear hK
              have hkl:=HLT.out
              have hk1:=h1.out
              have hlt:(k2:Int) < ((l.length - k:Nat):Int):=by omega
              have hk0:(0:Int) ≤ (k2:Int):=by omega
              have hun:IntKind.i64.wrap ((k2:Int) + 1) = (k2:Int) + 1:=IntWalk.i64_in _ (by omega)
              have hus:IntKind.i64.wrap ((k2:Int) - 1) = ((k2 - 1:Nat):Int):=by rw [IntWalk.i64_in _ (by omega)];omega
              have hs0:(0:Int) ≤ ((k2 - 1:Nat):Int):=by omega
              have hs1:((k2 - 1:Nat):Int) < ((l.length - k:Nat):Int):=by omega
              obtain ⟨x,hx⟩:∃ x,x = l[k + k2]'hml:=⟨_,rfl⟩
              obtain ⟨y,hy⟩:∃ y,y = l[k + k2 - 1]'(by omega):=⟨_,rfl⟩
              have hxc:=HO.out.cellsAt encQ_len (i:=k + k2) (x:=x) (by rw [kept_get (by omega),List.getElem?_eq_getElem hml,hx])
              have hyc:=HO.out.cellsAt encQ_len (i:=k + k2 - 1) (x:=y) (by rw [kept_get (by omega),List.getElem?_eq_getElem (by omega),hy])
              have hxi:k * 2 + k2 * 2 = (k + k2) * 2:=by omega
              have hyi:k * 2 + (k2 - 1) * 2 = (k + k2 - 1) * 2:=by omega
              have x0:wr.cell? ⟨g,k * 2 + k2 * 2,none⟩ = some (.int .i64 (x.1)):=by rw [hxi];exact hxc 0 _ rfl
              have x1:wr.cell? ⟨g,k * 2 + k2 * 2 + 1,none⟩ = some (.int .i64 (x.2)):=by rw [hxi];exact hxc 1 _ rfl
              have y0:wr.cell? ⟨g,k * 2 + (k2 - 1) * 2,none⟩ = some (.int .i64 (y.1)):=by rw [hyi];exact hyc 0 _ rfl
              have y1:wr.cell? ⟨g,k * 2 + (k2 - 1) * 2 + 1,none⟩ = some (.int .i64 (y.2)):=by rw [hyi];exact hyc 1 _ rfl
              have hgl:g < wr.heap.size:=(HO.out.lt _ rfl).2
              have hlo:k * 2 + k2 * 2 < 9223372036854775807:=by omega
              clear hxc hyc hxi hyi
              by_cases heq:x = y
              · have HS:Hid (ddK l (k + k2 + 1) = K):=Lib.hid (by rw [HK.out];exact ddK_same2 hml (by omega) (by rw [← hx,← hy];exact heq))
                clear hx hy
                subst heq
                have hbe:((x.1 == x.1) && (x.2 == x.2)) = true:=by simp
                have heqr:=fun W => eq_pa W x x
                have hneqr:=fun W => nq_pa W x x
                rw [hbe] at heqr hneqr
                (try dsimp only [Bool.not_true] at hneqr)
                go_upto_region 11 with fail
                have fx0:=fun p:BelowOf _ => BelowOf.cell hgl x0 p
                have fx1:=fun p:BelowOf _ => BelowOf.cell hgl x1 p
                have fy0:=fun p:BelowOf _ => BelowOf.cell hgl y0 p
                have fy1:=fun p:BelowOf _ => BelowOf.cell hgl y1 p
                have fz:=fun p:BelowOf _ => Nat.lt_of_lt_of_le hgl p.h.size
                refine wp_region_WQ (by kernel_rfl) (by kernel_rfl) ?_
                repeat (refine WQ.step (fun K hK => ?_);go_simp;first | (refine hK.out _ ?_;clear hK K) | (apply Exists.intro;refine ⟨fun _ => ?_,hK.out _ ?_⟩;(first | rfl);clear hK K))
                refine WQ.nil ?_
                intro W11 hw'
                obtain ⟨⟨w11,hb11⟩,hw2⟩:=hw'
                subst hw2
                replace HO:=Lib.hid (HO.out.keep hb11)
                replace HG:=Lib.hid (HG.out.below HB.out.size hb11)
                replace HB:=Lib.hid (HB.out.trans (hb11.mono (Nat.le_trans hbase HB.out.size)))
                clear fx0 fx1 fy0 fy1 fz
                clear x0 x1 y0 y1 hgl
                go_wp2_with fail
                go_roundw
                case rel => exact ⟨k2 + 1,r2,by rw [← Nat.add_assoc,HS.out],by first | rfl | simp,Lib.hid (by omega),Lib.hid (by have:=hr.out;omega),Lib.hid (by rw [← Nat.add_assoc,HS.out];omega),HB,HG,Lib.hid (by rw [← Nat.add_assoc,HS.out];exact HO.out)⟩
                case measure => first | (simp [intOf];done) | (simp [intOf];omega)
              · have HS:Hid (ddK l (k + k2 + 1) = K ++ [x]):=Lib.hid (by rw [HK.out,hx];exact ddK_other2 hml (by omega) (fun e => heq (by rw [hx,hy];exact e)))
                have hbe:((x.1 == y.1) && (x.2 == y.2)) = false:=by rw [Bool.eq_false_iff];intro h;rw [Bool.and_eq_true,beq_iff_eq,beq_iff_eq] at h;exact heq (Prod.ext h.1 h.2)
                have heqr:=fun W => eq_pa W x y
                have hneqr:=fun W => nq_pa W x y
                rw [hbe] at heqr hneqr
                (try dsimp only [Bool.not_false] at hneqr)
                clear hbe
                clear hx hy heq
                go_upto_region 11 with fail
                have fx0:=fun p:BelowOf _ => BelowOf.cell hgl x0 p
                have fx1:=fun p:BelowOf _ => BelowOf.cell hgl x1 p
                have fy0:=fun p:BelowOf _ => BelowOf.cell hgl y0 p
                have fy1:=fun p:BelowOf _ => BelowOf.cell hgl y1 p
                have fz:=fun p:BelowOf _ => Nat.lt_of_lt_of_le hgl p.h.size
                refine wp_region_WQ (by kernel_rfl) (by kernel_rfl) ?_
                repeat (refine WQ.step (fun K hK => ?_);go_simp;first | (refine hK.out _ ?_;clear hK K) | (apply Exists.intro;refine ⟨fun _ => ?_,hK.out _ ?_⟩;(first | rfl);clear hK K))
                refine WQ.nil ?_
                intro W11 hw'
                obtain ⟨⟨w11,hb11⟩,hw2⟩:=hw'
                subst hw2
                replace HO:=Lib.hid (HO.out.keep hb11)
                replace HG:=Lib.hid (HG.out.below HB.out.size hb11)
                replace HB:=Lib.hid (HB.out.trans (hb11.mono (Nat.le_trans hbase HB.out.size)))
                clear fx0 fx1 fy0 fy1 fz
                clear y0 y1
                have hx0:=(hb11.cell (p:=⟨g,k * 2 + k2 * 2,none⟩) hgl).trans x0
                have hx1:=(hb11.cell (p:=⟨g,k * 2 + k2 * 2 + 1,none⟩) hgl).trans x1
                clear x0 x1 hgl
                have hgl:g < W11.heap.size:=(HO.out.lt _ rfl).2
                obtain ⟨z,hz⟩:∃ z,(K ++ l.drop K.length)[K.length]? = some z:=⟨_,List.getElem?_eq_getElem (by rw [kept_len (by omega)];omega)⟩
                have hzc:=HO.out.cellsAt encQ_len (i:=K.length) (x:=z) hz
                have z0:W11.cell? ⟨g,K.length * 2,none⟩ = some (.int .i64 (z.1)):=hzc 0 _ rfl
                have z1:W11.cell? ⟨g,K.length * 2 + 1,none⟩ = some (.int .i64 (z.2)):=hzc 1 _ rfl
                have hfr:=HO.out.frozenAt (fun e => by have h:=congrArg List.length e;rw [kept_len (by omega)] at h;have h2:l.length = 0:=h;omega)
                have zf0:=hfr (K.length * 2)
                have zf1:=hfr (K.length * 2 + 1)
                have hm0:(0:Int) ≤ (K.length:Int):=by omega
                have hmll:(K.length:Int) < (l.length:Int):=by omega
                have hun2:IntKind.i64.wrap ((K.length:Int) + 1) = (K.length:Int) + 1:=IntWalk.i64_in _ (by omega)
                clear hzc hfr hz
                have HO2:Hid (OwnR encQ 2 base 45 ((W11.setCell ⟨g,K.length * 2,none⟩ (.int .i64 (x.1))).setCell ⟨g,K.length * 2 + 1,none⟩ (.int .i64 (x.2))) (some ⟨g,0,none⟩) cc ((K ++ [x]) ++ l.drop (K ++ [x]).length)):=Lib.hid (by have h:=HO.out.setk encQ_len (i:=K.length) (by rw [kept_len (by omega)];omega) x;rw [kept_set K l x (by omega)] at h;rw [List.length_append];exact h)
                have HB2:Hid (Below base w ((W11.setCell ⟨g,K.length * 2,none⟩ (.int .i64 (x.1))).setCell ⟨g,K.length * 2 + 1,none⟩ (.int .i64 (x.2)))):=Lib.hid ((HB.out.setCell HGB.out _).setCell HGB.out _)
                have HG2:Hid (SameB (some ⟨g,0,none⟩) w ((W11.setCell ⟨g,K.length * 2,none⟩ (.int .i64 (x.1))).setCell ⟨g,K.length * 2 + 1,none⟩ (.int .i64 (x.2)))):=Lib.hid ((HG.out.setCell _ _).setCell _ _)
                go_upto_region 13 with fail
                clear HO HB HG z0 z1 zf0 zf1 hgl hx0 hx1
                generalize (W11.setCell ⟨g,K.length * 2,none⟩ (.int .i64 (x.1))).setCell ⟨g,K.length * 2 + 1,none⟩ (.int .i64 (x.2)) = w5 at *
                go_wp2_with fail
                go_roundw
                case rel => exact ⟨k2 + 1,r2,by rw [← Nat.add_assoc,HS.out,List.length_append];simp,by first | rfl | simp,Lib.hid (by omega),Lib.hid (by have:=hr.out;omega),Lib.hid (by rw [← Nat.add_assoc,HS.out,List.length_append];simp;omega),HB2,HG2,Lib.hid (by rw [← Nat.add_assoc,HS.out];exact HO2.out)⟩
                case measure => first | (simp [intOf];done) | (simp [intOf];omega)
        · have HN2:Hid (∀ i (h:i + 1 < l.length),i + 1 < k + 1 → ¬ l[i + 1]'h = l[i]'(by omega)):=Lib.hid (fun i h hi => by by_cases e:i + 1 = k;(intro e2;apply heq;rw [hx,hy];subst e;exact e2);exact HN.out i h (by omega))
          have hbe:((x.1 == y.1) && (x.2 == y.2)) = false:=by rw [Bool.eq_false_iff];intro h;rw [Bool.and_eq_true,beq_iff_eq,beq_iff_eq] at h;exact heq (Prod.ext h.1 h.2)
          have heqr:=fun W => eq_pa W x y
          have hneqr:=fun W => nq_pa W x y
          rw [hbe] at heqr hneqr
          (try dsimp only [Bool.not_false] at hneqr)
          clear hbe
          clear hx hy heq
          go_upto_region 6 with fail
          have fx0:=fun p:BelowOf _ => BelowOf.cell hgl x0 p
          have fx1:=fun p:BelowOf _ => BelowOf.cell hgl x1 p
          have fy0:=fun p:BelowOf _ => BelowOf.cell hgl y0 p
          have fy1:=fun p:BelowOf _ => BelowOf.cell hgl y1 p
          have fz:=fun p:BelowOf _ => Nat.lt_of_lt_of_le hgl p.h.size
          refine wp_region_WQ (by kernel_rfl) (by kernel_rfl) ?_
          repeat (refine WQ.step (fun K hK => ?_);go_simp;first | (refine hK.out _ ?_;clear hK K) | (apply Exists.intro;refine ⟨fun _ => ?_,hK.out _ ?_⟩;(first | rfl);clear hK K))
          refine WQ.nil ?_
          intro _ hw'
          obtain ⟨⟨wq,hbq⟩,hw2⟩:=hw'
          subst hw2
          replace HO:=Lib.hid (HO.out.keep hbq)
          replace HG:=Lib.hid (HG.out.below HB.out.size hbq)
          replace HB:=Lib.hid (HB.out.trans (hbq.mono (Nat.le_trans hbase HB.out.size)))
          clear fx0 fx1 fy0 fy1 fz
          clear x0 x1 y0 y1 hgl
          go_wp2_with fail
          go_roundw
          case rel => exact ⟨k + 1,r,by first | rfl | simp,Lib.hid (by omega),Lib.hid (by have:=hr.out;omega),HN2,HB,HG,HO⟩
          case measure => first | (simp [intOf];done) | (simp [intOf];omega)
end Go.Proofs.YtbeojahilbglcaaGreatDoor

/-
  Masters: the factor of a channel is the product of what each of its sources does alone (plain). Law 30: right, within; the law MasterBounds. The law MasterSources.
-/
import Derived.Test.YtkjelfmgnkkijaaGreatDoorQmMu
import Derived.Test.YtkjelfmgnkkijaaGreatDoorQmMz
import Derived.Test.YtkjelfmgnkkijaaGreatDoorQmFo
set_option linter.unusedVariables false
set_option linter.unusedSimpArgs false
namespace Lum
open Go Go.RowKit Go.Shelf
open Go.Lib (decDigits itoa)
/-- The factor of a channel of masters without the sources xs. -/
def wiQ (xs : List (Int × Int)) (fr : Txt) (tz st ti : Int) (bl : Bool) (su : List Sb) (fd : List Fdr) (ch t : Int) : Rat :=
  facQ (mainQ (aFr xs fr) (aTo xs tz) (aZe xs st) (aZe xs ti) (aBl xs bl) t) (aSu xs su) fd ch t (aSu xs su).length
/-- A source is one of the masters without others. -/
theorem src_nexts {bl : Bool} {su : List Sb} {ch : Int} {x : Int × Int} {xs : List (Int × Int)} (hm : x ∈ srcL bl su ch) (hnt : x ∉ xs) : woE x.1 x.2 (aSu xs su) = 0 := by
  rcases src_mem hm with rfl | ⟨-, rfl⟩ | ⟨h7, hn⟩
  · exact woE_zero (.inl rfl) rfl
  · exact woE_zero (.inr rfl) rfl
  · obtain ⟨x1, x2⟩ := x
    dsimp only at h7 hn ⊢
    subst h7
    refine woE_has ?_
    obtain ⟨s, hs, ha, rfl⟩ := act_mem.1 hn
    unfold hasI
    rw [List.any_eq_true]
    refine ⟨s, ?_, by rw [actP_inh ha]; simp⟩
    unfold aSu
    rw [List.mem_filter, List.all_eq_true]
    refine ⟨hs, fun y hy => ?_⟩
    by_cases e : y.1 = 7
    · have h9 : s.nu ≠ y.2 := by
        intro e2
        refine hnt ?_
        have h8 : y = (7, s.nu) := by
          obtain ⟨a, b⟩ := y
          dsimp only at e e2
          rw [e, e2]
        rw [← h8]; exact hy
      unfold freeP
      simp [h9]
    · simp [e]
theorem full_main (t : Int) : mainQ [54, 53, 53, 51, 53] 65535 0 0 false t = 1 := by
  unfold mainQ glV
  have hv : valR [54, 53, 53, 51, 53] = ((65535 : Int) : Rat) := by rw [← k65, valR_showR]
  have hd : ((65535 : Int) : Rat) / ((65535 : Int) : Rat) = 1 := by decide +kernel
  simp only [if_true, Bool.false_eq_true, if_false, hv, ite_self, Int.zero_add]
  by_cases c : t < 0
  · rw [if_pos c]; exact hd
  · rw [if_neg c, if_pos (by omega)]; exact hd
theorem scl_act {l : List Sb} {fd : List Fdr} (ch t : Int) : ∀ a : Rat, l.foldl (fun a s => a * sclQ s fd ch t) a = (l.filter (actP ch)).foldl (fun a s => a * sclQ s fd ch t) a := by
  induction l with
  | nil => intro a; rfl
  | cons s r ih =>
    intro a
    rw [List.foldl_cons, List.filter_cons]
    cases h : actP ch s
    · have h1 : sclQ s fd ch t = 1 := by
        have := h
        unfold actP at this
        cases hi : s.inh
        · exact sclQ_add hi
        · rw [hi, Bool.true_and] at this
          exact sclQ_no (by simpa using this)
      rw [h1, Rat.mul_one]
      simp only [Bool.false_eq_true, if_false]
      exact ih a
    · simp only [if_true]
      rw [List.foldl_cons]
      exact ih _
theorem fold_mul {α : Type} (f : α → Rat) : ∀ (l : List α) (a : Rat), l.foldl (fun a s => a * f s) a = a * l.foldl (fun a s => a * f s) 1 := by
  intro l
  induction l with
  | nil => intro a; exact (Rat.mul_one a).symm
  | cons s r ih =>
    intro a
    rw [List.foldl_cons, List.foldl_cons, ih (a * f s), ih (1 * f s), Rat.one_mul, Rat.mul_assoc]
/-- Whether a submaster stays without the sources xs. -/
def stayB (xs : List (Int × Int)) (s : Sb) : Bool := xs.all fun x => x.1 != 7 || x.2 != s.nu
theorem act_stay (xs : List (Int × Int)) (su : List Sb) (ch : Int) : (aSu xs su).filter (actP ch) = (actL su ch).filter (stayB xs) := by
  unfold aSu actL
  rw [List.filter_filter, List.filter_filter]
  refine List.filter_congr fun s _ => ?_
  cases h : actP ch s
  · simp
  · unfold stayB
    rw [Bool.true_and, Bool.and_true]
    congr 1
    funext x
    unfold freeP
    rw [actP_inh h]
    simp [bne_comm]
theorem wiQ_is (xs : List (Int × Int)) (fr : Txt) (tz st ti : Int) (bl : Bool) (su : List Sb) (fd : List Fdr) (ch t : Int) :
    wiQ xs fr tz st ti bl su fd ch t = mainQ (aFr xs fr) (aTo xs tz) (aZe xs st) (aZe xs ti) (aBl xs bl) t * ((actL su ch).filter (stayB xs)).foldl (fun a s => a * sclQ s fd ch t) 1 := by
  unfold wiQ
  rw [facQ_all, scl_act, act_stay, fold_mul]
/-- All sources but one. -/
def othL (S : List (Int × Int)) (x : Int × Int) : List (Int × Int) := S.filter fun y => !(y == x)
theorem mem_oth {S : List (Int × Int)} {x y : Int × Int} : y ∈ othL S x ↔ y ∈ S ∧ y ≠ x := by
  unfold othL; rw [List.mem_filter]; simp
theorem src_five (bl : Bool) (su : List Sb) (ch : Int) : ((5 : Int), (0 : Int)) ∈ srcL bl su ch := by unfold srcL; exact List.mem_cons_self
theorem src_six (su : List Sb) (ch : Int) : ((6 : Int), (0 : Int)) ∈ srcL true su ch := by unfold srcL; simp
theorem src_seven {bl : Bool} {su : List Sb} {ch n : Int} (h : n ∈ actN su ch) : ((7 : Int), n) ∈ srcL bl su ch := by
  unfold srcL; rw [List.mem_cons, List.mem_append, List.mem_map]; exact .inr (.inr ⟨n, h, rfl⟩)
theorem act_num {su : List Sb} {ch : Int} {s : Sb} (h : s ∈ actL su ch) : s.nu ∈ actN su ch := List.mem_map.2 ⟨s, h, rfl⟩
theorem one_main (fr : Txt) (tz st ti : Int) (bl : Bool) (su : List Sb) (fd : List Fdr) (ch t : Int) :
    wiQ (othL (srcL bl su ch) (5, 0)) fr tz st ti bl su fd ch t = mainQ fr tz st ti false t := by
  have h5 : (othL (srcL bl su ch) (5, 0)).any (·.1 == 5) = false := by
    rw [List.any_eq_false]
    intro y hy h
    obtain ⟨h1, h2⟩ := mem_oth.1 hy
    rcases src_mem h1 with rfl | ⟨-, rfl⟩ | ⟨h7, -⟩
    · exact h2 rfl
    · simp at h
    · rw [h7] at h; simp at h
  have hb : aBl (othL (srcL bl su ch) (5, 0)) bl = false := by
    unfold aBl
    cases bl
    · rfl
    · have : (othL (srcL true su ch) (5, 0)).any (·.1 == 6) = true := by
        rw [List.any_eq_true]
        exact ⟨(6, 0), mem_oth.2 ⟨src_six su ch, by simp⟩, rfl⟩
      rw [this]; rfl
  have hs : (actL su ch).filter (stayB (othL (srcL bl su ch) (5, 0))) = [] := by
    rw [List.filter_eq_nil_iff]
    intro s hs h
    unfold stayB at h
    rw [List.all_eq_true] at h
    have := h (7, s.nu) (mem_oth.2 ⟨src_seven (act_num hs), by simp⟩)
    simp at this
  rw [wiQ_is, hb, hs, List.foldl_nil, Rat.mul_one]
  unfold aFr aTo aZe
  rw [h5]
  rfl
theorem one_black (fr : Txt) (tz st ti : Int) (su : List Sb) (fd : List Fdr) (ch t : Int) :
    wiQ (othL (srcL true su ch) (6, 0)) fr tz st ti true su fd ch t = 0 := by
  have hb : aBl (othL (srcL true su ch) (6, 0)) true = true := by
    unfold aBl
    have : (othL (srcL true su ch) (6, 0)).any (·.1 == 6) = false := by
      rw [List.any_eq_false]
      intro y hy h
      obtain ⟨h1, h2⟩ := mem_oth.1 hy
      rcases src_mem h1 with rfl | ⟨-, rfl⟩ | ⟨h7, -⟩
      · simp at h
      · exact h2 rfl
      · rw [h7] at h; simp at h
    rw [this]; rfl
  rw [wiQ_is, hb]
  exact Rat.zero_mul _
theorem one_sub (fr : Txt) (tz st ti : Int) (bl : Bool) (su : List Sb) (fd : List Fdr) (ch t n : Int) :
    wiQ (othL (srcL bl su ch) (7, n)) fr tz st ti bl su fd ch t = ((actL su ch).filter (fun s => s.nu == n)).foldl (fun a s => a * sclQ s fd ch t) 1 := by
  have h5 : (othL (srcL bl su ch) (7, n)).any (·.1 == 5) = true := by
    rw [List.any_eq_true]
    exact ⟨(5, 0), mem_oth.2 ⟨src_five bl su ch, by simp⟩, rfl⟩
  have hb : aBl (othL (srcL bl su ch) (7, n)) bl = false := by
    unfold aBl
    cases bl
    · rfl
    · have : (othL (srcL true su ch) (7, n)).any (·.1 == 6) = true := by
        rw [List.any_eq_true]
        exact ⟨(6, 0), mem_oth.2 ⟨src_six su ch, by simp⟩, rfl⟩
      rw [this]; rfl
  have hs : (actL su ch).filter (stayB (othL (srcL bl su ch) (7, n))) = (actL su ch).filter (fun s => s.nu == n) := by
    refine List.filter_congr fun s hs => ?_
    rw [Bool.eq_iff_iff]
    unfold stayB
    rw [List.all_eq_true]
    constructor
    · intro h
      by_cases e : s.nu = n
      · simpa using e
      · have := h (7, s.nu) (mem_oth.2 ⟨src_seven (act_num hs), by simp [e]⟩)
        simp at this
    · intro h y hy
      have e : s.nu = n := by simpa using h
      obtain ⟨h1, h2⟩ := mem_oth.1 hy
      by_cases e7 : y.1 = 7
      · have : y.2 ≠ s.nu := by
          intro e2
          refine h2 ?_
          obtain ⟨a, b⟩ := y
          dsimp only at e7 e2
          rw [e7, e2, e]
        simp [this]
      · simp [e7]
  rw [wiQ_is, hb, hs]
  unfold aFr aTo aZe
  rw [h5]
  simp only [if_true]
  rw [full_main, Rat.one_mul]
theorem filt_uniq {A : List Sb} (hn : (A.map (·.nu)).Nodup) {s : Sb} (hs : s ∈ A) : A.filter (fun x => x.nu == s.nu) = [s] := by
  induction A with
  | nil => cases hs
  | cons a r ih =>
    rw [List.map_cons, List.nodup_cons] at hn
    rw [List.filter_cons]
    rcases List.mem_cons.1 hs with rfl | h
    · have : r.filter (fun x => x.nu == s.nu) = [] := by
        rw [List.filter_eq_nil_iff]
        intro x hx e
        exact hn.1 (List.mem_map.2 ⟨x, hx, by simpa using e⟩)
      simp [this]
    · have hne : ¬ a.nu = s.nu := fun e => hn.1 (e ▸ List.mem_map.2 ⟨s, h, rfl⟩)
      have : (a.nu == s.nu) = false := by simpa using hne
      rw [this]
      simp only [Bool.false_eq_true, if_false]
      exact ih hn.2 h
theorem prod_split {A : List Sb} (f : Sb → Rat) (hn : (A.map (·.nu)).Nodup) : ∀ (B : List Sb) (a : Rat), (∀ s ∈ B, s ∈ A) →
    (B.map (·.nu)).foldl (fun p n => p * (A.filter (fun s => s.nu == n)).foldl (fun a s => a * f s) 1) a = B.foldl (fun p s => p * f s) a := by
  intro B
  induction B with
  | nil => intro a _; rfl
  | cons s r ih =>
    intro a h
    rw [List.map_cons, List.foldl_cons, List.foldl_cons, filt_uniq hn (h s List.mem_cons_self), List.foldl_cons, List.foldl_nil, Rat.one_mul]
    exact ih _ fun x hx => h x (List.mem_cons_of_mem _ hx)
/-- The product of what the first i sources do alone. -/
def prQ (S : List (Int × Int)) (fr : Txt) (tz st ti : Int) (bl : Bool) (su : List Sb) (fd : List Fdr) (ch t : Int) (i : Nat) : Rat :=
  (S.take i).foldl (fun p x => p * wiQ (othL S x) fr tz st ti bl su fd ch t) 1
theorem prQ_zero (S : List (Int × Int)) (fr : Txt) (tz st ti : Int) (bl : Bool) (su : List Sb) (fd : List Fdr) (ch t : Int) : prQ S fr tz st ti bl su fd ch t 0 = 1 := rfl
theorem prQ_succ {S : List (Int × Int)} (fr : Txt) (tz st ti : Int) (bl : Bool) (su : List Sb) (fd : List Fdr) (ch t : Int) {i : Nat} (h : i < S.length) :
    prQ S fr tz st ti bl su fd ch t (i + 1) = prQ S fr tz st ti bl su fd ch t i * wiQ (othL S (S[i]'h)) fr tz st ti bl su fd ch t := by
  unfold prQ
  rw [List.take_succ_eq_append_getElem h, List.foldl_append]; rfl
theorem fold_zero {α : Type} (f : α → Rat) : ∀ (l : List α), l.foldl (fun a s => a * f s) 0 = 0 := by
  intro l
  induction l with
  | nil => rfl
  | cons s r ih => rw [List.foldl_cons, Rat.zero_mul]; exact ih
theorem src_prod {fr : Txt} {tz st ti : Int} {bl : Bool} {su : List Sb} {fd : List Fdr} {ch t : Int} (h : TabOk su) :
    prQ (srcL bl su ch) fr tz st ti bl su fd ch t (srcL bl su ch).length = facQ (mainQ fr tz st ti bl t) su fd ch t su.length := by
  unfold prQ
  rw [List.take_length]
  have hE : srcL bl su ch = (5, 0) :: ((if bl then [(6, 0)] else []) ++ (actN su ch).map fun n => (7, n)) := rfl
  have key : ∀ S, S = srcL bl su ch → (srcL bl su ch).foldl (fun p x => p * wiQ (othL S x) fr tz st ti bl su fd ch t) 1 = facQ (mainQ fr tz st ti bl t) su fd ch t su.length := by
    intro S hS
    rw [hE, List.foldl_cons, List.foldl_append, Rat.one_mul]
    rw [show wiQ (othL S (5, 0)) fr tz st ti bl su fd ch t = mainQ fr tz st ti false t by rw [hS]; exact one_main ..]
    cases bl
    · simp only [Bool.false_eq_true, if_false, List.foldl_nil]
      rw [List.foldl_map]
      have e : ∀ n : Int, wiQ (othL S (7, n)) fr tz st ti false su fd ch t = ((actL su ch).filter (fun s => s.nu == n)).foldl (fun a s => a * sclQ s fd ch t) 1 := by
        intro n; rw [hS]; exact one_sub ..
      simp only [e]
      have := prod_split (A := actL su ch) (fun s => sclQ s fd ch t) (act_nodup h) (actL su ch) (mainQ fr tz st ti false t) (fun s hs => hs)
      rw [facQ_all, scl_act]
      exact this
    · simp only [if_true, List.foldl_cons, List.foldl_nil]
      rw [show wiQ (othL S (6, 0)) fr tz st ti true su fd ch t = 0 by rw [hS]; exact one_black .., Rat.mul_zero, fold_zero, facQ_all]
      rw [show mainQ fr tz st ti true t = 0 from rfl, fold_zero]
  exact key _ rfl
/-- What a source does alone has few digits, and lies between 0 and 1. -/
theorem wiQ_fits {fr : Txt} {tz st ti : Int} {bl : Bool} {su : List Sb} {fd : List Fdr} {ch : Int} (t : Int) (hm : glE fr tz st ti = 0) (hx : fr.length ≤ 60) (h : TabOk su) (hf : FacOk fd) (hl : ∀ i, i < fd.length → (fdv fd i).fr.length ≤ 60) {x : Int × Int} (hs : x ∈ srcL bl su ch) :
    Fits 200 (wiQ (othL (srcL bl su ch) x) fr tz st ti bl su fd ch t) := by
  rcases src_mem hs with rfl | ⟨rfl, rfl⟩ | ⟨h7, hn⟩
  · rw [one_main]; exact (mainQ_fits false t hm hx).mono (by omega)
  · rw [one_black]; exact fits_0.mono (by omega)
  · obtain ⟨x1, x2⟩ := x
    dsimp only at h7 hn
    subst h7
    obtain ⟨s, hs2, ha, rfl⟩ := act_mem.1 hn
    rw [one_sub, filt_uniq (A := actL su ch) (act_nodup h) (List.mem_filter.2 ⟨hs2, ha⟩), List.foldl_cons, List.foldl_nil, Rat.one_mul]
    obtain ⟨i, hi, rfl⟩ := mem_sbv hs2
    exact sclQ_fits t (subOk (h.ok i hi)) hf hl
theorem prQ_fits {fr : Txt} {tz st ti : Int} {bl : Bool} {su : List Sb} {fd : List Fdr} {ch : Int} (t : Int) (hm : glE fr tz st ti = 0) (hx : fr.length ≤ 60) (h : TabOk su) (hf : FacOk fd) (hl : ∀ i, i < fd.length → (fdv fd i).fr.length ≤ 60) :
    ∀ i, i ≤ (srcL bl su ch).length → Fits (1 + 200 * i) (prQ (srcL bl su ch) fr tz st ti bl su fd ch t i) := by
  intro i
  induction i with
  | zero => intro _; exact fits_1
  | succ i ih =>
    intro hi
    rw [prQ_succ fr tz st ti bl su fd ch t (show i < (srcL bl su ch).length by omega)]
    exact (fits_mul2 (ih (by omega)) (wiQ_fits t hm hx h hf hl (List.getElem_mem _))).mono (by omega)
end Lum
namespace Lum
open Go Go.RowKit Go.Shelf
end Lum
namespace Lum
open Go Go.RowKit Go.Shelf
open Go.Lib (decDigits itoa)
end Lum
namespace Go.Proofs.YtkjelfmgnkkijaaGreatDoor
open Go.RowKit Go.Shelf Lum
open Go.Lib (decDigits itoa)
attribute [local go_sem] bs_get bs_extract_end bs_extract_from bs_extract bs_append

end Go.Proofs.YtkjelfmgnkkijaaGreatDoor
namespace Lum
open Go Go.RowKit Go.Shelf
open Go.Lib (decDigits itoa)
theorem pt_at {l : List (Int × Int)} {k : Nat} (h : k < l.length) : l[k]'h = (pX l k, pY l k) := by unfold pX pY; rw [List.getElem?_eq_getElem h]; rfl
theorem pt_mem {l : List (Int × Int)} {k : Nat} (h : k < l.length) : (pX l k, pY l k) ∈ l := by rw [← pt_at h]; exact List.getElem_mem h
theorem pt_take {l : List (Int × Int)} {k : Nat} (h : k < l.length) : l.take k ++ [(pX l k, pY l k)] = l.take (k + 1) := by rw [List.take_succ_eq_append_getElem h, pt_at h]

theorem size_set7 (w : World) (n : Nat) (b0 b1 b2 b3 b4 b5 b6 : Value) : ((((((((w.setCell ⟨n, 0, none⟩ b0).setCell ⟨n, 1, none⟩ b1).setCell ⟨n, 2, none⟩ b2).setCell ⟨n, 3, none⟩ b3).setCell ⟨n, 4, none⟩ b4).setCell ⟨n, 5, none⟩ b5).setCell ⟨n, 6, none⟩ b6)).heap.size = w.heap.size := by simp only [World.size_setCell]
theorem near_set7 (w : World) {n g : Nat} (hg : g ≠ n) (b0 b1 b2 b3 b4 b5 b6 : Value) : ((((((((w.setCell ⟨n, 0, none⟩ b0).setCell ⟨n, 1, none⟩ b1).setCell ⟨n, 2, none⟩ b2).setCell ⟨n, 3, none⟩ b3).setCell ⟨n, 4, none⟩ b4).setCell ⟨n, 5, none⟩ b5).setCell ⟨n, 6, none⟩ b6)).heap[g]? = w.heap[g]? := by
  rw [Below.heap_setCell _ _ _ _ hg, Below.heap_setCell _ _ _ _ hg, Below.heap_setCell _ _ _ _ hg, Below.heap_setCell _ _ _ _ hg, Below.heap_setCell _ _ _ _ hg, Below.heap_setCell _ _ _ _ hg, Below.heap_setCell _ _ _ _ hg]
end Lum
namespace Go.Proofs.YtkjelfmgnkkijaaGreatDoor
open Go.RowKit Go.Shelf Lum
open Go.Lib (decDigits itoa)
attribute [local go_sem] bs_get bs_extract_end bs_extract_from bs_extract bs_append

end Go.Proofs.YtkjelfmgnkkijaaGreatDoor

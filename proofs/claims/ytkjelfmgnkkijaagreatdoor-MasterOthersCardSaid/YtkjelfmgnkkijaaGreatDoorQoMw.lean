/-
  Masters: the plain words. Masters: own slices of submasters; tables of which some are left out. Masters: the sources, and masters without some of them: the plain words.
-/
import Derived.Test.YtkjelfmgnkkijaaGreatDoorNf
import Derived.Test.YtkjelfmgnkkijaaGreatDoorSp
import Derived.Test.YtkjelfmgnkkijaaGreatDoorOo
set_option linter.unusedVariables false
set_option linter.unusedSimpArgs false
namespace Lum
open Go Go.RowKit Go.Shelf
open Go.Lib (decDigits itoa)
/-- The error of masters. -/
def maE (fr : Txt) (tz st ti : Int) (su : List Sb) (fd : List Fdr) : Int := if glE fr tz st ti ≠ 0 then glE fr tz st ti else if tabE su ≠ 0 then tabE su else facE fd
theorem maE_gl {fr : Txt} {tz st ti : Int} {su : List Sb} {fd : List Fdr} (h : ¬ glE fr tz st ti = 0) : maE fr tz st ti su fd = glE fr tz st ti := by unfold maE; rw [if_pos h]
theorem maE_tab {fr : Txt} {tz st ti : Int} {su : List Sb} {fd : List Fdr} (h : glE fr tz st ti = 0) (h2 : ¬ tabE su = 0) : maE fr tz st ti su fd = tabE su := by unfold maE; rw [if_neg (by simpa using h), if_pos h2]
theorem maE_fac {fr : Txt} {tz st ti : Int} {su : List Sb} {fd : List Fdr} (h : glE fr tz st ti = 0) (h2 : tabE su = 0) : maE fr tz st ti su fd = facE fd := by unfold maE; rw [if_neg (by simpa using h), if_neg (by simpa using h2)]
theorem maE_zero {fr : Txt} {tz st ti : Int} {su : List Sb} {fd : List Fdr} (h : maE fr tz st ti su fd = 0) : glE fr tz st ti = 0 ∧ tabE su = 0 ∧ facE fd = 0 := by
  by_cases h1 : glE fr tz st ti = 0
  · by_cases h2 : tabE su = 0
    · rw [maE_fac h1 h2] at h; exact ⟨h1, h2, h⟩
    · rw [maE_tab h1 h2] at h; exact absurd h h2
  · rw [maE_gl h1] at h; exact absurd h h1
/-- The grand master. -/
def mainQ (fr : Txt) (tz st ti : Int) (bl : Bool) (t : Int) : Rat := if bl then 0 else glV (valR fr) tz st ti t / ((65535 : Int) : Rat)
/-- The factor of a channel, by the first k submasters. -/
def facQ (a : Rat) (su : List Sb) (fd : List Fdr) (ch t : Int) (k : Nat) : Rat := (su.take k).foldl (fun a s => a * sclQ s fd ch t) a
theorem facQ_zero (a : Rat) (su : List Sb) (fd : List Fdr) (ch t : Int) : facQ a su fd ch t 0 = a := rfl
theorem facQ_succ (a : Rat) {su : List Sb} (fd : List Fdr) (ch t : Int) {k : Nat} (h : k < su.length) : facQ a su fd ch t (k + 1) = facQ a su fd ch t k * sclQ (sbv su k) fd ch t := by
  unfold facQ
  rw [List.take_succ_eq_append_getElem h, List.foldl_append, sbv_at h]; rfl
theorem mainQ_01 {fr : Txt} {tz st ti : Int} (bl : Bool) (t : Int) (h : glE fr tz st ti = 0) : 0 ≤ mainQ fr tz st ti bl t ∧ mainQ fr tz st ti bl t ≤ 1 := by
  obtain ⟨q, -, e2, hq, h2, -, h4⟩ := glq h
  unfold mainQ
  rw [e2]
  cases bl
  · obtain ⟨a, b⟩ := glV_range (st := st) t hq.1 hq.2 h2 h4.1
    exact over_01 a b
  · show (0 : Rat) ≤ 0 ∧ (0 : Rat) ≤ 1; decide +kernel
theorem mainQ_fits {fr : Txt} {tz st ti : Int} (bl : Bool) (t : Int) (h : glE fr tz st ti = 0) (hl : fr.length ≤ 60) : Fits 187 (mainQ fr tz st ti bl t) := by
  obtain ⟨q, e1, e2, hq, h2, h3, h4⟩ := glq h
  unfold mainQ
  rw [e2]
  cases bl
  · exact fits_div2 (glV_fits t (fits_of_len (k := 60) (by rw [← e1]; exact hl)) h2.1 h2.2 h3.1 h3.2 h4.2) f65 k65_ne
  · exact fits_0.mono (by omega)
/-- Right masters, small. -/
structure MaOk (fr : Txt) (tz st ti : Int) (su : List Sb) (fd : List Fdr) : Prop where
  gl : glE fr tz st ti = 0
  len : fr.length ≤ 60
  tab : TabOk su
  fac : FacOk fd
  lens : ∀ i, i < fd.length → (fdv fd i).fr.length ≤ 60
theorem facQ_fits {a : Rat} {su : List Sb} {fd : List Fdr} (ch t : Int) (ha : Fits 187 a) (hs : TabOk su) (hf : FacOk fd) (hl : ∀ i, i < fd.length → (fdv fd i).fr.length ≤ 60) : ∀ k, k ≤ su.length → Fits (187 + 200 * k) (facQ a su fd ch t k) := by
  intro k
  induction k with
  | zero => intro _; exact ha.mono (by omega)
  | succ k ih =>
    intro hk
    rw [facQ_succ a fd ch t (by omega)]
    exact (fits_mul2 (ih (by omega)) (sclQ_fits t (subOk (hs.ok k (by omega))) hf hl)).mono (by omega)
theorem facQ_01 {a : Rat} {su : List Sb} {fd : List Fdr} (ch t : Int) (h0 : 0 ≤ a) (h1 : a ≤ 1) (hs : ∀ j, j < su.length → SubOk (sbv su j)) (hf : FacOk fd) : ∀ k, k ≤ su.length → 0 ≤ facQ a su fd ch t k ∧ facQ a su fd ch t k ≤ 1 := by
  intro k
  induction k with
  | zero => intro _; exact ⟨h0, h1⟩
  | succ k ih =>
    intro hk
    rw [facQ_succ a fd ch t (by omega)]
    obtain ⟨b0, b1⟩ := ih (by omega)
    obtain ⟨c0, c1⟩ := sclQ_01 (s := sbv su k) ch t (hs k (by omega)) hf
    exact mul_01 b0 b1 c0 c1
/-- The submasters that act on a channel. -/
def actP (ch : Int) (s : Sb) : Bool := s.inh && (gnG s.gs ch 0).isSome
def actL (su : List Sb) (ch : Int) : List Sb := su.filter (actP ch)
def actN (su : List Sb) (ch : Int) : List Int := (actL su ch).map (·.nu)
theorem actL_succ {su : List Sb} (ch : Int) {k : Nat} (h : k < su.length) : actL (su.take (k + 1)) ch = actL (su.take k) ch ++ (if actP ch (sbv su k) then [sbv su k] else []) := by
  unfold actL
  rw [List.take_succ_eq_append_getElem h, List.filter_append, sbv_at h]
  congr 1
  simp [List.filter_cons]
theorem actN_succ {su : List Sb} (ch : Int) {k : Nat} (h : k < su.length) : actN (su.take (k + 1)) ch = actN (su.take k) ch ++ (if actP ch (sbv su k) then [(sbv su k).nu] else []) := by
  unfold actN
  rw [actL_succ ch h, List.map_append]
  split <;> rfl
/-- The error of masters and a channel. -/
def onE (fr : Txt) (tz st ti : Int) (su : List Sb) (fd : List Fdr) (ch : Int) : Int := if maE fr tz st ti su fd ≠ 0 then maE fr tz st ti su fd else if ch < 1 ∨ 999 < ch then 2 else 0
theorem onE_ma {fr : Txt} {tz st ti : Int} {su : List Sb} {fd : List Fdr} {ch : Int} (h : ¬ maE fr tz st ti su fd = 0) : onE fr tz st ti su fd ch = maE fr tz st ti su fd := by unfold onE; rw [if_pos h]
theorem onE_ch {fr : Txt} {tz st ti : Int} {su : List Sb} {fd : List Fdr} {ch : Int} (h : maE fr tz st ti su fd = 0) (h2 : ch < 1 ∨ 999 < ch) : onE fr tz st ti su fd ch = 2 := by unfold onE; rw [if_neg (by simpa using h), if_pos h2]
theorem onE_ok {fr : Txt} {tz st ti : Int} {su : List Sb} {fd : List Fdr} {ch : Int} (h : maE fr tz st ti su fd = 0) (h2 : ¬ (ch < 1 ∨ 999 < ch)) : onE fr tz st ti su fd ch = 0 := by unfold onE; rw [if_neg (by simpa using h), if_neg h2]
theorem onE_zero {fr : Txt} {tz st ti : Int} {su : List Sb} {fd : List Fdr} {ch : Int} (h : onE fr tz st ti su fd ch = 0) : maE fr tz st ti su fd = 0 ∧ 1 ≤ ch ∧ ch ≤ 999 := by
  by_cases h1 : maE fr tz st ti su fd = 0
  · by_cases h2 : ch < 1 ∨ 999 < ch
    · rw [onE_ch h1 h2] at h; omega
    · exact ⟨h1, by omega⟩
  · rw [onE_ma h1] at h; exact absurd h h1
end Lum
namespace Lum
open Go Go.RowKit Go.Shelf
open Go.Lib (decDigits itoa)
/-- A submaster's cells, with the slice of its gains. -/
def encS (x : Sb × Value) : List Value := [.int .i64 x.1.nu, .int .i64 x.1.pr, .bool x.1.inh, x.2]
theorem encS_len (x : Sb × Value) : (encS x).length = 4 := rfl
theorem GnsAt.one {W : World} {v : Value} {l : List Gn} (h : GnsAt W v l) : v.oneCell' = true := by obtain ⟨p, c, rfl, -⟩ := h; rfl
theorem encS_one {W : World} {x : Sb × Value} (h : GnsAt W x.2 x.1.gs) : ∀ u ∈ encS x, u.oneCell' = true := by
  intro u hu
  simp only [encS, List.mem_cons, List.not_mem_nil, or_false] at hu
  rcases hu with rfl | rfl | rfl | rfl
  · rfl
  · rfl
  · rfl
  · exact h.one
theorem OwnR.subs {base : Nat} {e : TypeId} {W : World} {p : Option Addr} {c : Nat} {l : List (Sb × Value)} (h : OwnR encS 4 base e W p c l) (hg : ∀ x ∈ l, GnsAt W x.2 x.1.gs) : SbsAt W (.slice p l.length c) (l.map (·.1)) := by
  refine ⟨p, c, by rw [List.length_map], by rw [List.length_map]; exact h.cap, fun hn => ?_⟩
  obtain ⟨b, hp, hb, hc⟩ := h.at_ encS_len (fun e => hn (by rw [e]; rfl))
  refine ⟨b, 0, hp, hb, fun i hi => ?_⟩
  have hi2 : i < l.length := by simpa using hi
  have hs : sbv (l.map (·.1)) i = (l[i]'hi2).1 := by rw [← sbv_at hi]; simp
  rw [hs]
  have hx := hc i hi2
  exact ⟨hx 0 _ rfl, hx 1 _ rfl, hx 2 _ rfl, (l[i]'hi2).2, hx 3 _ rfl, hg _ (List.getElem_mem hi2)⟩
theorem filt_succ (p : Sb → Bool) {su : List Sb} {k : Nat} (h : k < su.length) : (su.take (k + 1)).filter p = (su.take k).filter p ++ (if p (sbv su k) then [sbv su k] else []) := by
  rw [List.take_succ_eq_append_getElem h, List.filter_append, sbv_at h]
  congr 1
  simp [List.filter_cons]
/-- The table without an inhibitive submaster. -/
def freeP (n : Int) (s : Sb) : Bool := s.nu != n || !s.inh
def freeL (su : List Sb) (n : Int) : List Sb := su.filter (freeP n)
def dropP (n : Int) (s : Sb) : Bool := s.nu != n
def dropL (su : List Sb) (n : Int) : List Sb := su.filter (dropP n)
/-- Whether a table has an inhibitive submaster with a number. -/
def hasI (su : List Sb) (n : Int) : Bool := su.any (fun s => s.nu == n && s.inh)
theorem mem_sbv {su : List Sb} {s : Sb} (h : s ∈ su) : ∃ i, i < su.length ∧ s = sbv su i := by
  obtain ⟨i, hi, rfl⟩ := List.getElem_of_mem h
  exact ⟨i, hi, sbv_at hi⟩
theorem sbv_mem {su : List Sb} {i : Nat} (h : i < su.length) : sbv su i ∈ su := by rw [← sbv_at h]; exact List.getElem_mem h
theorem tab_uniq {su : List Sb} (h : TabOk su) {i j : Nat} (hi : i < su.length) (hj : j < su.length) (e : (sbv su i).nu = (sbv su j).nu) : i = j := by
  rcases Nat.lt_trichotomy i j with g | g | g
  · have := h.ord j hj i g; omega
  · exact g
  · have := h.ord i hi j g; omega
theorem free_no {su : List Sb} {n : Int} (h : hasI su n = false) : freeL su n = su := by
  unfold freeL
  rw [List.filter_eq_self]
  intro s hs
  unfold hasI at h
  rw [List.any_eq_false] at h
  have h2 : ¬ (s.nu == n && s.inh) = true := h s hs
  unfold freeP
  by_cases e : s.nu = n
  · cases hi : s.inh
    · simp
    · exact absurd (by rw [e, hi]; simp) h2
  · have : (s.nu != n) = true := by simpa using e
    rw [this]; rfl
theorem free_len {su : List Sb} {n : Int} (h : hasI su n = true) : (freeL su n).length < su.length := by
  unfold hasI at h
  rw [List.any_eq_true] at h
  obtain ⟨s, hs, h1⟩ := h
  refine Nat.lt_of_le_of_ne (List.length_filter_le _ _) fun e => ?_
  have h2 := List.length_filter_eq_length_iff.1 e s hs
  unfold freeP at h2
  simp only [Bool.and_eq_true, beq_iff_eq] at h1
  rw [h1.1, h1.2] at h2
  simp at h2
theorem free_drop {su : List Sb} {n : Int} (hk : TabOk su) (h : hasI su n = true) : freeL su n = dropL su n := by
  unfold hasI at h
  rw [List.any_eq_true] at h
  obtain ⟨s, hs, h1⟩ := h
  simp only [Bool.and_eq_true, beq_iff_eq] at h1
  obtain ⟨i, hi, rfl⟩ := mem_sbv hs
  unfold freeL dropL
  refine List.filter_congr fun x hx => ?_
  obtain ⟨j, hj, rfl⟩ := mem_sbv hx
  unfold freeP dropP
  by_cases e : (sbv su j).nu = n
  · have := tab_uniq hk hi hj (by rw [h1.1, e])
    subst this
    rw [e, h1.2]; simp
  · have : ((sbv su j).nu != n) = true := by simpa using e
    rw [this]; rfl
theorem has_place {su : List Sb} {n : Int} (hk : TabOk su) {i : Nat} (hi : i < su.length) (hn : (sbv su i).nu = n) : hasI su n = (sbv su i).inh := by
  unfold hasI
  cases h : (sbv su i).inh
  · rw [List.any_eq_false]
    intro s hs
    obtain ⟨j, hj, rfl⟩ := mem_sbv hs
    by_cases e : (sbv su j).nu = n
    · have := tab_uniq hk hi hj (by rw [hn, e])
      subst this
      rw [h]; simp
    · simp [e]
  · rw [List.any_eq_true]
    exact ⟨sbv su i, sbv_mem hi, by rw [hn, h]; simp⟩
theorem has_no {su : List Sb} {n : Int} (h : ∀ j, j < su.length → (sbv su j).nu ≠ n) : hasI su n = false := by
  unfold hasI
  rw [List.any_eq_false]
  intro s hs
  obtain ⟨j, hj, rfl⟩ := mem_sbv hs
  simp [h j hj]
-- tables of which some are left out
theorem tab_conv {l : List Sb} (h1 : l.length ≤ 16) (h2 : ∀ j, j < l.length → sbE (sbv l j) = 0) (h3 : ∀ j, j < l.length → ∀ i, i < j → (sbv l i).nu < (sbv l j).nu) : tabE l = 0 := by
  rw [tabE_few (by omega)]
  have key : ∀ (n i : Nat), i + n = l.length → tuE l n i = 0 := by
    intro n
    induction n with
    | zero => intro i _; rfl
    | succ n ih =>
      intro i hi
      rw [tuE_go (h2 i (by omega)) ?_]
      · exact ih (i + 1) (by omega)
      · cases i with
        | zero => rw [lastS_zero]; have := (subOk (h2 0 (by omega))).nu0; omega
        | succ k => rw [lastS_succ]; have := h3 (k + 1) (by omega) k (by omega); omega
  exact key _ 0 (by omega)
theorem tab_pair {l : List Sb} (h : TabOk l) : List.Pairwise (fun a b : Sb => a.nu < b.nu) l := by
  rw [List.pairwise_iff_getElem]
  intro i j hi hj hij
  rw [sbv_at hi, sbv_at hj]
  exact h.ord j hj i hij
theorem tab_filter {l : List Sb} (p : Sb → Bool) (h : TabOk l) : tabE (l.filter p) = 0 := by
  have hp := (tab_pair h).filter p
  rw [List.pairwise_iff_getElem] at hp
  refine tab_conv (Nat.le_trans (List.length_filter_le _ _) h.few) (fun j hj => ?_) (fun j hj i hi => ?_)
  · have hm := sbv_mem hj
    obtain ⟨k, hk, e⟩ := mem_sbv (List.mem_filter.1 hm).1
    rw [e]; exact h.ok k hk
  · have := hp i j (by omega) hj hi
    rwa [sbv_at, sbv_at] at this
theorem scl_all {l : List Sb} {fd : List Fdr} (ch t : Int) (hs : ∀ s ∈ l, SubOk s) (hf : FacOk fd) (p : Sb → Bool) : ∀ (a b : Rat), 0 ≤ a → a ≤ b → l.foldl (fun a s => a * sclQ s fd ch t) a ≤ (l.filter p).foldl (fun a s => a * sclQ s fd ch t) b := by
  induction l with
  | nil => intro a b _ h; exact h
  | cons s r ih =>
    intro a b h0 h
    obtain ⟨c0, c1⟩ := sclQ_01 (s := s) ch t (hs s List.mem_cons_self) hf
    rw [List.foldl_cons, List.filter_cons]
    split
    · rw [List.foldl_cons]
      exact ih (fun x hx => hs x (List.mem_cons_of_mem _ hx)) _ _ (Rat.mul_nonneg h0 c0) (mul_le_r h c0)
    · exact ih (fun x hx => hs x (List.mem_cons_of_mem _ hx)) _ _ (Rat.mul_nonneg h0 c0) (Rat.le_trans (mul_le_of h0 c1) h)
theorem facQ_all (a : Rat) (su : List Sb) (fd : List Fdr) (ch t : Int) : facQ a su fd ch t su.length = su.foldl (fun a s => a * sclQ s fd ch t) a := by unfold facQ; rw [List.take_length]
theorem scl_one {l : List Sb} {fd : List Fdr} (ch t : Int) (h : ∀ s ∈ l, actP ch s = false) : ∀ a : Rat, l.foldl (fun a s => a * sclQ s fd ch t) a = a := by
  induction l with
  | nil => intro a; rfl
  | cons s r ih =>
    intro a
    have h1 : sclQ s fd ch t = 1 := by
      have := h s List.mem_cons_self
      unfold actP at this
      cases hi : s.inh
      · exact sclQ_add hi
      · rw [hi, Bool.true_and] at this
        exact sclQ_no (by simpa using this)
    rw [List.foldl_cons, h1, Rat.mul_one]
    exact ih (fun x hx => h x (List.mem_cons_of_mem _ hx)) a
end Lum
namespace Lum
open Go Go.RowKit Go.Shelf
open Go.Lib (decDigits itoa)
/-- The sources of a channel: kinds and numbers. -/
def srcL (bl : Bool) (su : List Sb) (ch : Int) : List (Int × Int) := (5, 0) :: ((if bl then [(6, 0)] else []) ++ (actN su ch).map fun n => (7, n))
/-- Masters without the sources xs. -/
def aFr (xs : List (Int × Int)) (fr : Txt) : Txt := if xs.any (·.1 == 5) then [54, 53, 53, 51, 53] else fr
def aTo (xs : List (Int × Int)) (tz : Int) : Int := if xs.any (·.1 == 5) then 65535 else tz
def aZe (xs : List (Int × Int)) (st : Int) : Int := if xs.any (·.1 == 5) then 0 else st
def aBl (xs : List (Int × Int)) (bl : Bool) : Bool := bl && !xs.any (·.1 == 6)
def aSu (xs : List (Int × Int)) (su : List Sb) : List Sb := su.filter fun s => xs.all fun x => x.1 != 7 || freeP x.2 s
theorem aFr_snoc (xs : List (Int × Int)) (x : Int × Int) (fr : Txt) : aFr [x] (aFr xs fr) = aFr (xs ++ [x]) fr := by
  unfold aFr; rw [List.any_append]; cases xs.any (·.1 == 5) <;> cases [x].any (·.1 == 5) <;> rfl
theorem aTo_snoc (xs : List (Int × Int)) (x : Int × Int) (tz : Int) : aTo [x] (aTo xs tz) = aTo (xs ++ [x]) tz := by
  unfold aTo; rw [List.any_append]; cases xs.any (·.1 == 5) <;> cases [x].any (·.1 == 5) <;> rfl
theorem aZe_snoc (xs : List (Int × Int)) (x : Int × Int) (st : Int) : aZe [x] (aZe xs st) = aZe (xs ++ [x]) st := by
  unfold aZe; rw [List.any_append]; cases xs.any (·.1 == 5) <;> cases [x].any (·.1 == 5) <;> rfl
theorem aBl_snoc (xs : List (Int × Int)) (x : Int × Int) (bl : Bool) : aBl [x] (aBl xs bl) = aBl (xs ++ [x]) bl := by
  unfold aBl; rw [List.any_append]; cases bl <;> cases xs.any (·.1 == 6) <;> cases [x].any (·.1 == 6) <;> rfl
theorem aSu_snoc (xs : List (Int × Int)) (x : Int × Int) (su : List Sb) : aSu [x] (aSu xs su) = aSu (xs ++ [x]) su := by
  unfold aSu
  rw [List.filter_filter]
  refine List.filter_congr fun s _ => ?_
  rw [List.all_append]; exact Bool.and_comm _ _
theorem aFr_nil (fr : Txt) : aFr [] fr = fr := rfl
theorem aTo_nil (tz : Int) : aTo [] tz = tz := rfl
theorem aZe_nil (st : Int) : aZe [] st = st := rfl
theorem aBl_nil (bl : Bool) : aBl [] bl = bl := by cases bl <;> rfl
theorem aSu_nil (su : List Sb) : aSu [] su = su := by unfold aSu; rw [List.filter_eq_self]; intro s _; rfl
theorem aSu_seven (n : Int) (su : List Sb) : aSu [(7, n)] su = freeL su n := by unfold aSu freeL; refine List.filter_congr fun s _ => ?_; simp
theorem aSu_other {k n : Int} (h : k ≠ 7) (su : List Sb) : aSu [(k, n)] su = su := by unfold aSu; rw [List.filter_eq_self]; intro s _; simp [h]
theorem full_ok : glE [54, 53, 53, 51, 53] 65535 0 0 = 0 := by decide +kernel
theorem aGl (xs : List (Int × Int)) {fr : Txt} {tz st ti : Int} (h : glE fr tz st ti = 0) : glE (aFr xs fr) (aTo xs tz) (aZe xs st) (aZe xs ti) = 0 := by
  unfold aFr aTo aZe
  cases xs.any (·.1 == 5)
  · exact h
  · exact full_ok
theorem aFr_len (xs : List (Int × Int)) {fr : Txt} (h : fr.length ≤ 60) : (aFr xs fr).length ≤ 60 := by
  unfold aFr
  cases xs.any (·.1 == 5)
  · exact h
  · show List.length [54, 53, 53, 51, 53] ≤ 60; decide
theorem aMa (xs : List (Int × Int)) {fr : Txt} {tz st ti : Int} {su : List Sb} {fd : List Fdr} (h : maE fr tz st ti su fd = 0) : maE (aFr xs fr) (aTo xs tz) (aZe xs st) (aZe xs ti) (aSu xs su) fd = 0 := by
  obtain ⟨h1, h2, h3⟩ := maE_zero h
  have h4 : tabE (aSu xs su) = 0 := tab_filter _ (tabOk h2)
  rw [maE_fac (aGl xs h1) h4]; exact h3
/-- What Without says of a source of right masters. -/
def woE (k n : Int) (su : List Sb) : Int := if k = 5 ∨ k = 6 then (if n ≠ 0 then 2 else 0) else if k = 7 then (if hasI su n then 0 else 6) else 1
theorem woE_main {k n : Int} {su : List Sb} (h : k = 5 ∨ k = 6) (h2 : n ≠ 0) : woE k n su = 2 := by unfold woE; rw [if_pos h, if_pos h2]
theorem woE_zero {k n : Int} {su : List Sb} (h : k = 5 ∨ k = 6) (h2 : n = 0) : woE k n su = 0 := by unfold woE; rw [if_pos h, if_neg (by simpa using h2)]
theorem woE_has {n : Int} {su : List Sb} (h : hasI su n = true) : woE 7 n su = 0 := by unfold woE; rw [if_neg (by omega), if_pos rfl, if_pos h]
theorem woE_no {n : Int} {su : List Sb} (h : hasI su n = false) : woE 7 n su = 6 := by unfold woE; rw [if_neg (by omega), if_pos rfl, if_neg (by simpa using h)]
theorem woE_kind {k n : Int} {su : List Sb} (h : ¬ (k = 5 ∨ k = 6)) (h2 : ¬ k = 7) : woE k n su = 1 := by unfold woE; rw [if_neg h, if_neg h2]
theorem act_mem {su : List Sb} {ch n : Int} : n ∈ actN su ch ↔ ∃ s ∈ su, actP ch s = true ∧ s.nu = n := by
  unfold actN actL
  simp only [List.mem_map, List.mem_filter]
  exact ⟨fun ⟨s, ⟨h1, h2⟩, h3⟩ => ⟨s, h1, h2, h3⟩, fun ⟨s, h1, h2, h3⟩ => ⟨s, ⟨h1, h2⟩, h3⟩⟩
theorem actP_inh {ch : Int} {s : Sb} (h : actP ch s = true) : s.inh = true := by unfold actP at h; simp only [Bool.and_eq_true] at h; exact h.1
theorem src_mem {bl : Bool} {su : List Sb} {ch : Int} {x : Int × Int} (h : x ∈ srcL bl su ch) : x = (5, 0) ∨ (bl = true ∧ x = (6, 0)) ∨ (x.1 = 7 ∧ x.2 ∈ actN su ch) := by
  unfold srcL at h
  rw [List.mem_cons, List.mem_append, List.mem_map] at h
  rcases h with h | h | ⟨n, hn, rfl⟩
  · exact .inl h
  · cases bl
    · simp at h
    · exact .inr (.inl ⟨rfl, by simpa using h⟩)
  · exact .inr (.inr ⟨rfl, hn⟩)
theorem src_len {bl : Bool} {su : List Sb} {ch : Int} : 0 < (srcL bl su ch).length ∧ (srcL bl su ch).length ≤ su.length + 2 := by
  have h : (actN su ch).length ≤ su.length := by unfold actN actL; rw [List.length_map]; exact List.length_filter_le _ _
  unfold srcL
  rw [List.length_cons, List.length_append, List.length_map]
  cases bl <;> simp <;> omega
theorem act_nodup {su : List Sb} {ch : Int} (h : TabOk su) : (actN su ch).Nodup := by
  unfold actN actL
  have hp := (tab_pair h).filter (actP ch)
  rw [List.nodup_iff_pairwise_ne, List.pairwise_map]
  exact hp.imp fun h e => by rw [e] at h; omega
theorem src_nodup {bl : Bool} {su : List Sb} {ch : Int} (h : TabOk su) : (srcL bl su ch).Nodup := by
  have h7 : ((actN su ch).map fun n => ((7 : Int), n)).Nodup := by
    rw [List.nodup_iff_pairwise_ne, List.pairwise_map]
    exact (List.nodup_iff_pairwise_ne.1 (act_nodup h)).imp fun h e => h (Prod.mk.inj e).2
  unfold srcL
  rw [List.nodup_cons, List.nodup_append]
  refine ⟨?_, ?_, h7, ?_⟩
  · rw [List.mem_append, List.mem_map]
    rintro (h | ⟨n, -, h⟩)
    · cases bl <;> simp at h
    · simp at h
  · cases bl <;> simp
  · intro a ha b hb
    rw [List.mem_map] at hb
    obtain ⟨n, -, rfl⟩ := hb
    cases bl
    · simp at ha
    · simp at ha; rw [ha]; simp
/-- The i-th source is one of the masters without the sources before. -/
theorem src_next {bl : Bool} {su : List Sb} {ch : Int} (h : TabOk su) {i : Nat} (hi : i < (srcL bl su ch).length) : woE ((srcL bl su ch)[i]'hi).1 ((srcL bl su ch)[i]'hi).2 (aSu ((srcL bl su ch).take i) su) = 0 := by
  have hnd := src_nodup (bl := bl) (ch := ch) h
  generalize hx : (srcL bl su ch)[i]'hi = x
  have hm : x ∈ srcL bl su ch := by rw [← hx]; exact List.getElem_mem hi
  have hnt : x ∉ (srcL bl su ch).take i := by
    intro hc
    obtain ⟨j, hj, e⟩ := List.getElem_of_mem hc
    rw [List.getElem_take] at e
    rw [List.length_take] at hj
    have := (List.getElem_inj (h₀ := by omega) (h₁ := hi) hnd).1 (e.trans hx.symm)
    omega
  rcases src_mem hm with rfl | ⟨-, rfl⟩ | ⟨h7, hn⟩
  · exact woE_zero (.inl rfl) rfl
  · exact woE_zero (.inr rfl) rfl
  · obtain ⟨x1, x2⟩ := x
    dsimp only at h7 hn ⊢
    subst h7
    refine woE_has ?_
    obtain ⟨s, hs, ha, rfl⟩ := act_mem.1 hn
    unfold hasI
    rw [List.any_eq_true]
    refine ⟨s, ?_, by rw [actP_inh ha]; simp⟩
    unfold aSu
    rw [List.mem_filter, List.all_eq_true]
    refine ⟨hs, fun y hy => ?_⟩
    by_cases e : y.1 = 7
    · have h9 : s.nu ≠ y.2 := by
        intro e2
        refine hnt ?_
        have h8 : y = (7, s.nu) := by
          obtain ⟨a, b⟩ := y
          dsimp only at e e2
          rw [e, e2]
        rw [← h8]; exact hy
      unfold freeP
      simp [h9]
    · simp [e]
/-- Without all of them the factor is 1. -/
theorem src_end {bl : Bool} {su : List Sb} {fd : List Fdr} {ch : Int} (fr : Txt) (tz st ti t : Int) :
    facQ (mainQ (aFr (srcL bl su ch) fr) (aTo (srcL bl su ch) tz) (aZe (srcL bl su ch) st) (aZe (srcL bl su ch) ti) (aBl (srcL bl su ch) bl) t) (aSu (srcL bl su ch) su) fd ch t (aSu (srcL bl su ch) su).length = 1 := by
  have h5 : (srcL bl su ch).any (·.1 == 5) = true := by unfold srcL; simp
  have hb : aBl (srcL bl su ch) bl = false := by unfold aBl srcL; cases bl <;> simp
  rw [facQ_all, scl_one ch t (fun s hs => ?_), hb]
  · unfold aFr aTo aZe
    rw [h5]
    unfold mainQ glV
    have hv : valR [54, 53, 53, 51, 53] = ((65535 : Int) : Rat) := by rw [← k65, valR_showR]
    have hd : ((65535 : Int) : Rat) / ((65535 : Int) : Rat) = 1 := by decide +kernel
    simp only [if_true, Bool.false_eq_true, if_false, hv, ite_self, Int.zero_add]
    by_cases c : t < 0
    · rw [if_pos c]; exact hd
    · rw [if_neg c, if_pos (by omega)]; exact hd
  · unfold aSu at hs
    rw [List.mem_filter, List.all_eq_true] at hs
    cases ha : actP ch s
    · rfl
    · have h7 := hs.2 (7, s.nu) (by unfold srcL; rw [List.mem_cons, List.mem_append, List.mem_map]; exact .inr (.inr ⟨s.nu, act_mem.2 ⟨s, hs.1, ha, rfl⟩, rfl⟩))
      unfold freeP at h7
      rw [actP_inh ha] at h7
      simp at h7
/-- Without a source a factor is no less. -/
theorem src_less {fr : Txt} {tz st ti : Int} {bl : Bool} {su : List Sb} {fd : List Fdr} {ch t : Int} (h : maE fr tz st ti su fd = 0) (x : Int × Int) :
    facQ (mainQ fr tz st ti bl t) su fd ch t su.length ≤ facQ (mainQ (aFr [x] fr) (aTo [x] tz) (aZe [x] st) (aZe [x] ti) (aBl [x] bl) t) (aSu [x] su) fd ch t (aSu [x] su).length := by
  obtain ⟨h1, h2, h3⟩ := maE_zero h
  have hs : ∀ s ∈ su, SubOk s := fun s hs => by obtain ⟨i, hi, rfl⟩ := mem_sbv hs; exact subOk ((tabOk h2).ok i hi)
  obtain ⟨m0, m1⟩ := mainQ_01 bl t h1
  rw [facQ_all, facQ_all]
  refine scl_all ch t hs (facOk h3) _ _ _ m0 ?_
  by_cases c : x.1 = 5
  · have hb : aBl [x] bl = bl := by unfold aBl; simp [c]
    rw [hb]
    cases bl
    · refine Rat.le_trans m1 ?_
      unfold aFr aTo aZe mainQ glV
      have hv : valR [54, 53, 53, 51, 53] = ((65535 : Int) : Rat) := by rw [← k65, valR_showR]
      have hd : (1 : Rat) ≤ ((65535 : Int) : Rat) / ((65535 : Int) : Rat) := by decide +kernel
      have hc : [x].any (·.1 == 5) = true := by simp [c]
      simp only [hc, if_true, Bool.false_eq_true, if_false, hv, ite_self, Int.zero_add]
      by_cases c2 : t < 0
      · rw [if_pos c2]; exact hd
      · rw [if_neg c2, if_pos (by omega)]; exact hd
    · have : mainQ fr tz st ti true t = 0 := rfl
      rw [this]; exact Rat.le_refl
  · have hf : aFr [x] fr = fr := by unfold aFr; simp [c]
    have ht : aTo [x] tz = tz := by unfold aTo; simp [c]
    have hz : aZe [x] st = st := by unfold aZe; simp [c]
    have hz2 : aZe [x] ti = ti := by unfold aZe; simp [c]
    rw [hf, ht, hz, hz2]
    by_cases c6 : x.1 = 6
    · have hb : aBl [x] bl = false := by unfold aBl; simp [c6]
      rw [hb]
      cases bl
      · exact Rat.le_refl
      · exact (mainQ_01 false t h1).1
    · have hb : aBl [x] bl = bl := by unfold aBl; simp [c6]
      rw [hb]; exact Rat.le_refl
end Lum

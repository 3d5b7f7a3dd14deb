/-
  Masters: the plain words. Masters: own slices of submasters; tables of which some are left out. Masters: the sources, and masters without some of them: the plain words. Masters: Check, on, grand, Grand of the program. Masters: within, Apply, the closure of Factor. Masters: product and Factor of the program.
-/
import Derived.Test.YtkjelfmgnkkijaaGreatDoorQmNf
import Derived.Test.YtkjelfmgnkkijaaGreatDoorQmSw
import Derived.Test.YtkjelfmgnkkijaaGreatDoorQmOi
import Derived.Test.YtkjelfmgnkkijaaGreatDoorQmSx
import Derived.Test.YtkjelfmgnkkijaaGreatDoorQmSm
set_option linter.unusedVariables false
set_option linter.unusedSimpArgs false
namespace Lum
open Go Go.RowKit Go.Shelf
open Go.Lib (decDigits itoa)
/-- The error of masters. -/
def maE (fr : Txt) (tz st ti : Int) (su : List Sb) (fd : List Fdr) : Int := if glE fr tz st ti ≠ 0 then glE fr tz st ti else if tabE su ≠ 0 then tabE su else facE fd
theorem maE_gl {fr : Txt} {tz st ti : Int} {su : List Sb} {fd : List Fdr} (h : ¬ glE fr tz st ti = 0) : maE fr tz st ti su fd = glE fr tz st ti := by unfold maE; rw [if_pos h]
theorem maE_tab {fr : Txt} {tz st ti : Int} {su : List Sb} {fd : List Fdr} (h : glE fr tz st ti = 0) (h2 : ¬ tabE su = 0) : maE fr tz st ti su fd = tabE su := by unfold maE; rw [if_neg (by simpa using h), if_pos h2]
theorem maE_fac {fr : Txt} {tz st ti : Int} {su : List Sb} {fd : List Fdr} (h : glE fr tz st ti = 0) (h2 : tabE su = 0) : maE fr tz st ti su fd = facE fd := by unfold maE; rw [if_neg (by simpa using h), if_neg (by simpa using h2)]
theorem maE_zero {fr : Txt} {tz st ti : Int} {su : List Sb} {fd : List Fdr} (h : maE fr tz st ti su fd = 0) : glE fr tz st ti = 0 ∧ tabE su = 0 ∧ facE fd = 0 := by
  by_cases h1 : glE fr tz st ti = 0
  · by_cases h2 : tabE su = 0
    · rw [maE_fac h1 h2] at h; exact ⟨h1, h2, h⟩
    · rw [maE_tab h1 h2] at h; exact absurd h h2
  · rw [maE_gl h1] at h; exact absurd h h1
/-- The grand master. -/
def mainQ (fr : Txt) (tz st ti : Int) (bl : Bool) (t : Int) : Rat := if bl then 0 else glV (valR fr) tz st ti t / ((65535 : Int) : Rat)
/-- The factor of a channel, by the first k submasters. -/
def facQ (a : Rat) (su : List Sb) (fd : List Fdr) (ch t : Int) (k : Nat) : Rat := (su.take k).foldl (fun a s => a * sclQ s fd ch t) a
theorem facQ_succ (a : Rat) {su : List Sb} (fd : List Fdr) (ch t : Int) {k : Nat} (h : k < su.length) : facQ a su fd ch t (k + 1) = facQ a su fd ch t k * sclQ (sbv su k) fd ch t := by
  unfold facQ
  rw [List.take_succ_eq_append_getElem h, List.foldl_append, sbv_at h]; rfl
theorem mainQ_fits {fr : Txt} {tz st ti : Int} (bl : Bool) (t : Int) (h : glE fr tz st ti = 0) (hl : fr.length ≤ 60) : Fits 187 (mainQ fr tz st ti bl t) := by
  obtain ⟨q, e1, e2, hq, h2, h3, h4⟩ := glq h
  unfold mainQ
  rw [e2]
  cases bl
  · exact fits_div2 (glV_fits t (fits_of_len (k := 60) (by rw [← e1]; exact hl)) h2.1 h2.2 h3.1 h3.2 h4.2) f65 k65_ne
  · exact fits_0.mono (by omega)
/-- Right masters, small. -/
structure MaOk (fr : Txt) (tz st ti : Int) (su : List Sb) (fd : List Fdr) : Prop where
  gl : glE fr tz st ti = 0
  len : fr.length ≤ 60
  tab : TabOk su
  fac : FacOk fd
  lens : ∀ i, i < fd.length → (fdv fd i).fr.length ≤ 60
theorem facQ_fits {a : Rat} {su : List Sb} {fd : List Fdr} (ch t : Int) (ha : Fits 187 a) (hs : TabOk su) (hf : FacOk fd) (hl : ∀ i, i < fd.length → (fdv fd i).fr.length ≤ 60) : ∀ k, k ≤ su.length → Fits (187 + 200 * k) (facQ a su fd ch t k) := by
  intro k
  induction k with
  | zero => intro _; exact ha.mono (by omega)
  | succ k ih =>
    intro hk
    rw [facQ_succ a fd ch t (by omega)]
    exact (fits_mul2 (ih (by omega)) (sclQ_fits t (subOk (hs.ok k (by omega))) hf hl)).mono (by omega)
/-- The submasters that act on a channel. -/
def actP (ch : Int) (s : Sb) : Bool := s.inh && (gnG s.gs ch 0).isSome
def actL (su : List Sb) (ch : Int) : List Sb := su.filter (actP ch)
def actN (su : List Sb) (ch : Int) : List Int := (actL su ch).map (·.nu)
theorem actL_succ {su : List Sb} (ch : Int) {k : Nat} (h : k < su.length) : actL (su.take (k + 1)) ch = actL (su.take k) ch ++ (if actP ch (sbv su k) then [sbv su k] else []) := by
  unfold actL
  rw [List.take_succ_eq_append_getElem h, List.filter_append, sbv_at h]
  congr 1
  simp [List.filter_cons]
/-- The error of masters and a channel. -/
def onE (fr : Txt) (tz st ti : Int) (su : List Sb) (fd : List Fdr) (ch : Int) : Int := if maE fr tz st ti su fd ≠ 0 then maE fr tz st ti su fd else if ch < 1 ∨ 999 < ch then 2 else 0
theorem onE_ma {fr : Txt} {tz st ti : Int} {su : List Sb} {fd : List Fdr} {ch : Int} (h : ¬ maE fr tz st ti su fd = 0) : onE fr tz st ti su fd ch = maE fr tz st ti su fd := by unfold onE; rw [if_pos h]
theorem onE_ch {fr : Txt} {tz st ti : Int} {su : List Sb} {fd : List Fdr} {ch : Int} (h : maE fr tz st ti su fd = 0) (h2 : ch < 1 ∨ 999 < ch) : onE fr tz st ti su fd ch = 2 := by unfold onE; rw [if_neg (by simpa using h), if_pos h2]
theorem onE_ok {fr : Txt} {tz st ti : Int} {su : List Sb} {fd : List Fdr} {ch : Int} (h : maE fr tz st ti su fd = 0) (h2 : ¬ (ch < 1 ∨ 999 < ch)) : onE fr tz st ti su fd ch = 0 := by unfold onE; rw [if_neg (by simpa using h), if_neg h2]
theorem onE_zero {fr : Txt} {tz st ti : Int} {su : List Sb} {fd : List Fdr} {ch : Int} (h : onE fr tz st ti su fd ch = 0) : maE fr tz st ti su fd = 0 ∧ 1 ≤ ch ∧ ch ≤ 999 := by
  by_cases h1 : maE fr tz st ti su fd = 0
  · by_cases h2 : ch < 1 ∨ 999 < ch
    · rw [onE_ch h1 h2] at h; omega
    · exact ⟨h1, by omega⟩
  · rw [onE_ma h1] at h; exact absurd h h1
end Lum
namespace Lum
open Go Go.RowKit Go.Shelf
open Go.Lib (decDigits itoa)
/-- A submaster's cells, with the slice of its gains. -/
def encS (x : Sb × Value) : List Value := [.int .i64 x.1.nu, .int .i64 x.1.pr, .bool x.1.inh, x.2]
theorem encS_len (x : Sb × Value) : (encS x).length = 4 := rfl
theorem GnsAt.one {W : World} {v : Value} {l : List Gn} (h : GnsAt W v l) : v.oneCell' = true := by obtain ⟨p, c, rfl, -⟩ := h; rfl
theorem encS_one {W : World} {x : Sb × Value} (h : GnsAt W x.2 x.1.gs) : ∀ u ∈ encS x, u.oneCell' = true := by
  intro u hu
  simp only [encS, List.mem_cons, List.not_mem_nil, or_false] at hu
  rcases hu with rfl | rfl | rfl | rfl
  · rfl
  · rfl
  · rfl
  · exact h.one
theorem OwnR.subs {base : Nat} {e : TypeId} {W : World} {p : Option Addr} {c : Nat} {l : List (Sb × Value)} (h : OwnR encS 4 base e W p c l) (hg : ∀ x ∈ l, GnsAt W x.2 x.1.gs) : SbsAt W (.slice p l.length c) (l.map (·.1)) := by
  refine ⟨p, c, by rw [List.length_map], by rw [List.length_map]; exact h.cap, fun hn => ?_⟩
  obtain ⟨b, hp, hb, hc⟩ := h.at_ encS_len (fun e => hn (by rw [e]; rfl))
  refine ⟨b, 0, hp, hb, fun i hi => ?_⟩
  have hi2 : i < l.length := by simpa using hi
  have hs : sbv (l.map (·.1)) i = (l[i]'hi2).1 := by rw [← sbv_at hi]; simp
  rw [hs]
  have hx := hc i hi2
  exact ⟨hx 0 _ rfl, hx 1 _ rfl, hx 2 _ rfl, (l[i]'hi2).2, hx 3 _ rfl, hg _ (List.getElem_mem hi2)⟩
theorem filt_succ (p : Sb → Bool) {su : List Sb} {k : Nat} (h : k < su.length) : (su.take (k + 1)).filter p = (su.take k).filter p ++ (if p (sbv su k) then [sbv su k] else []) := by
  rw [List.take_succ_eq_append_getElem h, List.filter_append, sbv_at h]
  congr 1
  simp [List.filter_cons]
/-- The table without an inhibitive submaster. -/
def freeP (n : Int) (s : Sb) : Bool := s.nu != n || !s.inh
def freeL (su : List Sb) (n : Int) : List Sb := su.filter (freeP n)
def dropP (n : Int) (s : Sb) : Bool := s.nu != n
def dropL (su : List Sb) (n : Int) : List Sb := su.filter (dropP n)
/-- Whether a table has an inhibitive submaster with a number. -/
def hasI (su : List Sb) (n : Int) : Bool := su.any (fun s => s.nu == n && s.inh)
theorem mem_sbv {su : List Sb} {s : Sb} (h : s ∈ su) : ∃ i, i < su.length ∧ s = sbv su i := by
  obtain ⟨i, hi, rfl⟩ := List.getElem_of_mem h
  exact ⟨i, hi, sbv_at hi⟩
theorem sbv_mem {su : List Sb} {i : Nat} (h : i < su.length) : sbv su i ∈ su := by rw [← sbv_at h]; exact List.getElem_mem h
theorem free_len {su : List Sb} {n : Int} (h : hasI su n = true) : (freeL su n).length < su.length := by
  unfold hasI at h
  rw [List.any_eq_true] at h
  obtain ⟨s, hs, h1⟩ := h
  refine Nat.lt_of_le_of_ne (List.length_filter_le _ _) fun e => ?_
  have h2 := List.length_filter_eq_length_iff.1 e s hs
  unfold freeP at h2
  simp only [Bool.and_eq_true, beq_iff_eq] at h1
  rw [h1.1, h1.2] at h2
  simp at h2
theorem tab_conv {l : List Sb} (h1 : l.length ≤ 16) (h2 : ∀ j, j < l.length → sbE (sbv l j) = 0) (h3 : ∀ j, j < l.length → ∀ i, i < j → (sbv l i).nu < (sbv l j).nu) : tabE l = 0 := by
  rw [tabE_few (by omega)]
  have key : ∀ (n i : Nat), i + n = l.length → tuE l n i = 0 := by
    intro n
    induction n with
    | zero => intro i _; rfl
    | succ n ih =>
      intro i hi
      rw [tuE_go (h2 i (by omega)) ?_]
      · exact ih (i + 1) (by omega)
      · cases i with
        | zero => rw [lastS_zero]; have := (subOk (h2 0 (by omega))).nu0; omega
        | succ k => rw [lastS_succ]; have := h3 (k + 1) (by omega) k (by omega); omega
  exact key _ 0 (by omega)
theorem tab_pair {l : List Sb} (h : TabOk l) : List.Pairwise (fun a b : Sb => a.nu < b.nu) l := by
  rw [List.pairwise_iff_getElem]
  intro i j hi hj hij
  rw [sbv_at hi, sbv_at hj]
  exact h.ord j hj i hij
theorem tab_filter {l : List Sb} (p : Sb → Bool) (h : TabOk l) : tabE (l.filter p) = 0 := by
  have hp := (tab_pair h).filter p
  rw [List.pairwise_iff_getElem] at hp
  refine tab_conv (Nat.le_trans (List.length_filter_le _ _) h.few) (fun j hj => ?_) (fun j hj i hi => ?_)
  · have hm := sbv_mem hj
    obtain ⟨k, hk, e⟩ := mem_sbv (List.mem_filter.1 hm).1
    rw [e]; exact h.ok k hk
  · have := hp i j (by omega) hj hi
    rwa [sbv_at, sbv_at] at this
theorem facQ_all (a : Rat) (su : List Sb) (fd : List Fdr) (ch t : Int) : facQ a su fd ch t su.length = su.foldl (fun a s => a * sclQ s fd ch t) a := by unfold facQ; rw [List.take_length]
end Lum
namespace Lum
open Go Go.RowKit Go.Shelf
open Go.Lib (decDigits itoa)
/-- The sources of a channel: kinds and numbers. -/
def srcL (bl : Bool) (su : List Sb) (ch : Int) : List (Int × Int) := (5, 0) :: ((if bl then [(6, 0)] else []) ++ (actN su ch).map fun n => (7, n))
/-- Masters without the sources xs. -/
def aFr (xs : List (Int × Int)) (fr : Txt) : Txt := if xs.any (·.1 == 5) then [54, 53, 53, 51, 53] else fr
def aTo (xs : List (Int × Int)) (tz : Int) : Int := if xs.any (·.1 == 5) then 65535 else tz
def aZe (xs : List (Int × Int)) (st : Int) : Int := if xs.any (·.1 == 5) then 0 else st
def aBl (xs : List (Int × Int)) (bl : Bool) : Bool := bl && !xs.any (·.1 == 6)
def aSu (xs : List (Int × Int)) (su : List Sb) : List Sb := su.filter fun s => xs.all fun x => x.1 != 7 || freeP x.2 s
theorem aFr_snoc (xs : List (Int × Int)) (x : Int × Int) (fr : Txt) : aFr [x] (aFr xs fr) = aFr (xs ++ [x]) fr := by
  unfold aFr; rw [List.any_append]; cases xs.any (·.1 == 5) <;> cases [x].any (·.1 == 5) <;> rfl
theorem aTo_snoc (xs : List (Int × Int)) (x : Int × Int) (tz : Int) : aTo [x] (aTo xs tz) = aTo (xs ++ [x]) tz := by
  unfold aTo; rw [List.any_append]; cases xs.any (·.1 == 5) <;> cases [x].any (·.1 == 5) <;> rfl
theorem aZe_snoc (xs : List (Int × Int)) (x : Int × Int) (st : Int) : aZe [x] (aZe xs st) = aZe (xs ++ [x]) st := by
  unfold aZe; rw [List.any_append]; cases xs.any (·.1 == 5) <;> cases [x].any (·.1 == 5) <;> rfl
theorem aBl_snoc (xs : List (Int × Int)) (x : Int × Int) (bl : Bool) : aBl [x] (aBl xs bl) = aBl (xs ++ [x]) bl := by
  unfold aBl; rw [List.any_append]; cases bl <;> cases xs.any (·.1 == 6) <;> cases [x].any (·.1 == 6) <;> rfl
theorem aSu_snoc (xs : List (Int × Int)) (x : Int × Int) (su : List Sb) : aSu [x] (aSu xs su) = aSu (xs ++ [x]) su := by
  unfold aSu
  rw [List.filter_filter]
  refine List.filter_congr fun s _ => ?_
  rw [List.all_append]; exact Bool.and_comm _ _
theorem aBl_nil (bl : Bool) : aBl [] bl = bl := by cases bl <;> rfl
theorem aSu_nil (su : List Sb) : aSu [] su = su := by unfold aSu; rw [List.filter_eq_self]; intro s _; rfl
theorem aSu_seven (n : Int) (su : List Sb) : aSu [(7, n)] su = freeL su n := by unfold aSu freeL; refine List.filter_congr fun s _ => ?_; simp
theorem aSu_other {k n : Int} (h : k ≠ 7) (su : List Sb) : aSu [(k, n)] su = su := by unfold aSu; rw [List.filter_eq_self]; intro s _; simp [h]
theorem full_ok : glE [54, 53, 53, 51, 53] 65535 0 0 = 0 := by decide +kernel
theorem aGl (xs : List (Int × Int)) {fr : Txt} {tz st ti : Int} (h : glE fr tz st ti = 0) : glE (aFr xs fr) (aTo xs tz) (aZe xs st) (aZe xs ti) = 0 := by
  unfold aFr aTo aZe
  cases xs.any (·.1 == 5)
  · exact h
  · exact full_ok
theorem aFr_len (xs : List (Int × Int)) {fr : Txt} (h : fr.length ≤ 60) : (aFr xs fr).length ≤ 60 := by
  unfold aFr
  cases xs.any (·.1 == 5)
  · exact h
  · show List.length [54, 53, 53, 51, 53] ≤ 60; decide
theorem aMa (xs : List (Int × Int)) {fr : Txt} {tz st ti : Int} {su : List Sb} {fd : List Fdr} (h : maE fr tz st ti su fd = 0) : maE (aFr xs fr) (aTo xs tz) (aZe xs st) (aZe xs ti) (aSu xs su) fd = 0 := by
  obtain ⟨h1, h2, h3⟩ := maE_zero h
  have h4 : tabE (aSu xs su) = 0 := tab_filter _ (tabOk h2)
  rw [maE_fac (aGl xs h1) h4]; exact h3
/-- What Without says of a source of right masters. -/
def woE (k n : Int) (su : List Sb) : Int := if k = 5 ∨ k = 6 then (if n ≠ 0 then 2 else 0) else if k = 7 then (if hasI su n then 0 else 6) else 1
theorem woE_zero {k n : Int} {su : List Sb} (h : k = 5 ∨ k = 6) (h2 : n = 0) : woE k n su = 0 := by unfold woE; rw [if_pos h, if_neg (by simpa using h2)]
theorem woE_has {n : Int} {su : List Sb} (h : hasI su n = true) : woE 7 n su = 0 := by unfold woE; rw [if_neg (by omega), if_pos rfl, if_pos h]
theorem act_mem {su : List Sb} {ch n : Int} : n ∈ actN su ch ↔ ∃ s ∈ su, actP ch s = true ∧ s.nu = n := by
  unfold actN actL
  simp only [List.mem_map, List.mem_filter]
  exact ⟨fun ⟨s, ⟨h1, h2⟩, h3⟩ => ⟨s, h1, h2, h3⟩, fun ⟨s, h1, h2, h3⟩ => ⟨s, ⟨h1, h2⟩, h3⟩⟩
theorem actP_inh {ch : Int} {s : Sb} (h : actP ch s = true) : s.inh = true := by unfold actP at h; simp only [Bool.and_eq_true] at h; exact h.1
theorem src_mem {bl : Bool} {su : List Sb} {ch : Int} {x : Int × Int} (h : x ∈ srcL bl su ch) : x = (5, 0) ∨ (bl = true ∧ x = (6, 0)) ∨ (x.1 = 7 ∧ x.2 ∈ actN su ch) := by
  unfold srcL at h
  rw [List.mem_cons, List.mem_append, List.mem_map] at h
  rcases h with h | h | ⟨n, hn, rfl⟩
  · exact .inl h
  · cases bl
    · simp at h
    · exact .inr (.inl ⟨rfl, by simpa using h⟩)
  · exact .inr (.inr ⟨rfl, hn⟩)
theorem src_len {bl : Bool} {su : List Sb} {ch : Int} : 0 < (srcL bl su ch).length ∧ (srcL bl su ch).length ≤ su.length + 2 := by
  have h : (actN su ch).length ≤ su.length := by unfold actN actL; rw [List.length_map]; exact List.length_filter_le _ _
  unfold srcL
  rw [List.length_cons, List.length_append, List.length_map]
  cases bl <;> simp <;> omega
theorem act_nodup {su : List Sb} {ch : Int} (h : TabOk su) : (actN su ch).Nodup := by
  unfold actN actL
  have hp := (tab_pair h).filter (actP ch)
  rw [List.nodup_iff_pairwise_ne, List.pairwise_map]
  exact hp.imp fun h e => by rw [e] at h; omega
theorem src_nodup {bl : Bool} {su : List Sb} {ch : Int} (h : TabOk su) : (srcL bl su ch).Nodup := by
  have h7 : ((actN su ch).map fun n => ((7 : Int), n)).Nodup := by
    rw [List.nodup_iff_pairwise_ne, List.pairwise_map]
    exact (List.nodup_iff_pairwise_ne.1 (act_nodup h)).imp fun h e => h (Prod.mk.inj e).2
  unfold srcL
  rw [List.nodup_cons, List.nodup_append]
  refine ⟨?_, ?_, h7, ?_⟩
  · rw [List.mem_append, List.mem_map]
    rintro (h | ⟨n, -, h⟩)
    · cases bl <;> simp at h
    · simp at h
  · cases bl <;> simp
  · intro a ha b hb
    rw [List.mem_map] at hb
    obtain ⟨n, -, rfl⟩ := hb
    cases bl
    · simp at ha
    · simp at ha; rw [ha]; simp
end Lum
namespace Go.Proofs.YtkjelfmgnkkijaaGreatDoor
open Go.RowKit Go.Shelf Lum
open Go.Lib (decDigits itoa)
attribute [local go_sem] bs_get bs_extract_end bs_extract_from bs_extract bs_append

set_option maxRecDepth 100000 in
set_option maxHeartbeats 4000000 in
theorem own_mcheck (tz st ti : Int) (bl : Bool) (fr : Txt) (sv fv : Value) (su : List Sb) (fd : List Fdr) (w : World) (hs : SbsAt w sv su) (hf : FdsAt w fv fd) (hx : fr.length ≤ 1000) (hl : ∀ i, i < fd.length → (fdv fd i).fr.length ≤ 1000) (env : Env w) :
    Calls Tryz.prog 80 #[.agg #[.string ⟨(fr).toArray⟩, .int .i64 tz, .int .i64 st, .int .i64 ti, .bool (bl), sv, fv]] w fun e w' => e = .returned (.int .i64 (maE fr tz st ti su fd)) ∧ Below w.heap.size w w' := by
  have ENV := Lib.hid env; clear env
  have HK := Lib.hid (Blk.new w 28 #[.string ⟨(fr).toArray⟩, .int .i64 tz, .int .i64 st, .int .i64 ti, .bool (bl), sv, fv])
  have HB := Lib.hid ((Below.refl w.heap.size w).alloc (Nat.le_refl _) (.cells #[.string ⟨(fr).toArray⟩, .int .i64 tz, .int .i64 st, .int .i64 ti, .bool (bl), sv, fv] 28))
  obtain ⟨k0, k1, k2, k3, k4, k5, k6, kf0, kf1, kf2, kf3, kf4, kf5, kf6⟩ := HK.out.c7
  have hal := (Below.refl w.heap.size w).alloc (Nat.le_refl _) (.cells #[.string ⟨(fr).toArray⟩, .int .i64 tz, .int .i64 st, .int .i64 ti, .bool (bl), sv, fv] 28)
  have HS := Lib.hid (SbsAt.kept hs hal)
  have HF := Lib.hid (FdsAt.kept hf hal)
  clear hal
  have hc := fun W (e : Env W) => own_gcheck fr tz st ti W hx e
  have ht := fun W (h : SbsAt W sv su) => own_stable su sv W h
  have hd := fun W (h : FdsAt W fv fd) (e : Env W) => own_sfaders fd fv W h hl e
  clear hs hf
  by_cases hz : glE fr tz st ti = 0
  · rw [hz] at hc
    by_cases h2 : tabE su = 0
    · rw [maE_fac hz h2]
      rw [h2] at ht
      clear hz h2
      generalize facE fd = m at *
      have HC := Lib.hid hc; clear hc
      have HT := Lib.hid ht; clear ht
      have HD := Lib.hid hd; clear hd
      go_enter Tryz.func80, Tryz.ntmps80
      go_wp2_with (first | (with_reducible refine ((HC.out _ (ENV.out.below HB.out)).mono ?_); rintro e w' ⟨rfl, hb⟩; replace HK := Lib.hid (HK.out.keep hb); clear k0 k1 k2 k3 k4 k5 k6 kf0 kf1 kf2 kf3 kf4 kf5 kf6; replace HS := Lib.hid (SbsAt.kept HS.out hb); replace HF := Lib.hid (FdsAt.kept HF.out hb); replace HB := Lib.hid (bch' HB.out hb); clear hb; obtain ⟨k0, k1, k2, k3, k4, k5, k6, kf0, kf1, kf2, kf3, kf4, kf5, kf6⟩ := HK.out.c7) | (with_reducible refine ((HT.out _ HS.out).mono ?_); rintro e w' ⟨rfl, hb⟩; replace HK := Lib.hid (HK.out.keep hb); clear k0 k1 k2 k3 k4 k5 k6 kf0 kf1 kf2 kf3 kf4 kf5 kf6; replace HS := Lib.hid (SbsAt.kept HS.out hb); replace HF := Lib.hid (FdsAt.kept HF.out hb); replace HB := Lib.hid (bch' HB.out hb); clear hb; obtain ⟨k0, k1, k2, k3, k4, k5, k6, kf0, kf1, kf2, kf3, kf4, kf5, kf6⟩ := HK.out.c7) | (with_reducible refine ((HD.out _ HF.out (ENV.out.below HB.out)).mono ?_); rintro e w' ⟨rfl, hb⟩; replace HK := Lib.hid (HK.out.keep hb); clear k0 k1 k2 k3 k4 k5 k6 kf0 kf1 kf2 kf3 kf4 kf5 kf6; replace HS := Lib.hid (SbsAt.kept HS.out hb); replace HF := Lib.hid (FdsAt.kept HF.out hb); replace HB := Lib.hid (bch' HB.out hb); clear hb; obtain ⟨k0, k1, k2, k3, k4, k5, k6, kf0, kf1, kf2, kf3, kf4, kf5, kf6⟩ := HK.out.c7))
      go_ret
      exact ⟨rfl, HB.out⟩
    · rw [maE_tab hz h2]
      have hne : ((tabE su : Int) != 0) = true := by simpa using h2
      clear hz h2
      generalize tabE su = m at *
      have HC := Lib.hid hc; clear hc
      have HT := Lib.hid ht; clear ht
      have HD := Lib.hid hd; clear hd
      go_enter Tryz.func80, Tryz.ntmps80
      go_wp2_with (first | (with_reducible refine ((HC.out _ (ENV.out.below HB.out)).mono ?_); rintro e w' ⟨rfl, hb⟩; replace HK := Lib.hid (HK.out.keep hb); clear k0 k1 k2 k3 k4 k5 k6 kf0 kf1 kf2 kf3 kf4 kf5 kf6; replace HS := Lib.hid (SbsAt.kept HS.out hb); replace HF := Lib.hid (FdsAt.kept HF.out hb); replace HB := Lib.hid (bch' HB.out hb); clear hb; obtain ⟨k0, k1, k2, k3, k4, k5, k6, kf0, kf1, kf2, kf3, kf4, kf5, kf6⟩ := HK.out.c7) | (with_reducible refine ((HT.out _ HS.out).mono ?_); rintro e w' ⟨rfl, hb⟩; replace HK := Lib.hid (HK.out.keep hb); clear k0 k1 k2 k3 k4 k5 k6 kf0 kf1 kf2 kf3 kf4 kf5 kf6; replace HS := Lib.hid (SbsAt.kept HS.out hb); replace HF := Lib.hid (FdsAt.kept HF.out hb); replace HB := Lib.hid (bch' HB.out hb); clear hb; obtain ⟨k0, k1, k2, k3, k4, k5, k6, kf0, kf1, kf2, kf3, kf4, kf5, kf6⟩ := HK.out.c7) | (with_reducible refine ((HD.out _ HF.out (ENV.out.below HB.out)).mono ?_); rintro e w' ⟨rfl, hb⟩; replace HK := Lib.hid (HK.out.keep hb); clear k0 k1 k2 k3 k4 k5 k6 kf0 kf1 kf2 kf3 kf4 kf5 kf6; replace HS := Lib.hid (SbsAt.kept HS.out hb); replace HF := Lib.hid (FdsAt.kept HF.out hb); replace HB := Lib.hid (bch' HB.out hb); clear hb; obtain ⟨k0, k1, k2, k3, k4, k5, k6, kf0, kf1, kf2, kf3, kf4, kf5, kf6⟩ := HK.out.c7))
      go_ret
      exact ⟨rfl, HB.out⟩
  · rw [maE_gl hz]
    have hne : ((glE fr tz st ti : Int) != 0) = true := by simpa using hz
    clear hz
    generalize glE fr tz st ti = m at *
    have HC := Lib.hid hc; clear hc
    have HT := Lib.hid ht; clear ht
    have HD := Lib.hid hd; clear hd
    go_enter Tryz.func80, Tryz.ntmps80
    go_wp2_with (first | (with_reducible refine ((HC.out _ (ENV.out.below HB.out)).mono ?_); rintro e w' ⟨rfl, hb⟩; replace HK := Lib.hid (HK.out.keep hb); clear k0 k1 k2 k3 k4 k5 k6 kf0 kf1 kf2 kf3 kf4 kf5 kf6; replace HS := Lib.hid (SbsAt.kept HS.out hb); replace HF := Lib.hid (FdsAt.kept HF.out hb); replace HB := Lib.hid (bch' HB.out hb); clear hb; obtain ⟨k0, k1, k2, k3, k4, k5, k6, kf0, kf1, kf2, kf3, kf4, kf5, kf6⟩ := HK.out.c7) | (with_reducible refine ((HT.out _ HS.out).mono ?_); rintro e w' ⟨rfl, hb⟩; replace HK := Lib.hid (HK.out.keep hb); clear k0 k1 k2 k3 k4 k5 k6 kf0 kf1 kf2 kf3 kf4 kf5 kf6; replace HS := Lib.hid (SbsAt.kept HS.out hb); replace HF := Lib.hid (FdsAt.kept HF.out hb); replace HB := Lib.hid (bch' HB.out hb); clear hb; obtain ⟨k0, k1, k2, k3, k4, k5, k6, kf0, kf1, kf2, kf3, kf4, kf5, kf6⟩ := HK.out.c7) | (with_reducible refine ((HD.out _ HF.out (ENV.out.below HB.out)).mono ?_); rintro e w' ⟨rfl, hb⟩; replace HK := Lib.hid (HK.out.keep hb); clear k0 k1 k2 k3 k4 k5 k6 kf0 kf1 kf2 kf3 kf4 kf5 kf6; replace HS := Lib.hid (SbsAt.kept HS.out hb); replace HF := Lib.hid (FdsAt.kept HF.out hb); replace HB := Lib.hid (bch' HB.out hb); clear hb; obtain ⟨k0, k1, k2, k3, k4, k5, k6, kf0, kf1, kf2, kf3, kf4, kf5, kf6⟩ := HK.out.c7))
    go_ret
    exact ⟨rfl, HB.out⟩

set_option maxRecDepth 100000 in
set_option maxHeartbeats 4000000 in
theorem own_mon (tz st ti : Int) (bl : Bool) (fr : Txt) (sv fv : Value) (su : List Sb) (fd : List Fdr) (ch : Int) (w : World) (hs : SbsAt w sv su) (hf : FdsAt w fv fd) (hx : fr.length ≤ 1000) (hl : ∀ i, i < fd.length → (fdv fd i).fr.length ≤ 1000) (env : Env w) :
    Calls Tryz.prog 86 #[.agg #[.string ⟨(fr).toArray⟩, .int .i64 tz, .int .i64 st, .int .i64 ti, .bool (bl), sv, fv], .int .i64 ch] w fun e w' => e = .returned (.int .i64 (onE fr tz st ti su fd ch)) ∧ Below w.heap.size w w' := by
  have ENV := Lib.hid env; clear env
  have HK := Lib.hid (Blk.new w 28 #[.string ⟨(fr).toArray⟩, .int .i64 tz, .int .i64 st, .int .i64 ti, .bool (bl), sv, fv])
  have HB := Lib.hid ((Below.refl w.heap.size w).alloc (Nat.le_refl _) (.cells #[.string ⟨(fr).toArray⟩, .int .i64 tz, .int .i64 st, .int .i64 ti, .bool (bl), sv, fv] 28))
  obtain ⟨k0, k1, k2, k3, k4, k5, k6, kf0, kf1, kf2, kf3, kf4, kf5, kf6⟩ := HK.out.c7
  have hal := (Below.refl w.heap.size w).alloc (Nat.le_refl _) (.cells #[.string ⟨(fr).toArray⟩, .int .i64 tz, .int .i64 st, .int .i64 ti, .bool (bl), sv, fv] 28)
  have HS := Lib.hid (SbsAt.kept hs hal)
  have HF := Lib.hid (FdsAt.kept hf hal)
  clear hal
  have hc := fun W (h1 : SbsAt W sv su) (h2 : FdsAt W fv fd) (e : Env W) => own_mcheck tz st ti bl fr sv fv su fd W h1 h2 hx hl e
  clear hs hf
  by_cases hz : maE fr tz st ti su fd = 0
  · rw [hz] at hc
    by_cases o1 : ch < 1
    · rw [onE_ch hz (by omega)]
      clear hz
      have HC := Lib.hid hc; clear hc
      go_enter Tryz.func86, Tryz.ntmps86
      go_wp2_with (first | (with_reducible refine ((HC.out _ HS.out HF.out (ENV.out.below HB.out)).mono ?_); rintro e w' ⟨rfl, hb⟩; replace HK := Lib.hid (HK.out.keep hb); clear k0 k1 k2 k3 k4 k5 k6 kf0 kf1 kf2 kf3 kf4 kf5 kf6; replace HS := Lib.hid (SbsAt.kept HS.out hb); replace HF := Lib.hid (FdsAt.kept HF.out hb); replace HB := Lib.hid (bch' HB.out hb); clear hb; obtain ⟨k0, k1, k2, k3, k4, k5, k6, kf0, kf1, kf2, kf3, kf4, kf5, kf6⟩ := HK.out.c7))
      go_ret
      exact ⟨rfl, HB.out⟩
    by_cases o2 : 999 < ch
    · rw [onE_ch hz (by omega)]
      clear hz
      have HC := Lib.hid hc; clear hc
      go_enter Tryz.func86, Tryz.ntmps86
      go_wp2_with (first | (with_reducible refine ((HC.out _ HS.out HF.out (ENV.out.below HB.out)).mono ?_); rintro e w' ⟨rfl, hb⟩; replace HK := Lib.hid (HK.out.keep hb); clear k0 k1 k2 k3 k4 k5 k6 kf0 kf1 kf2 kf3 kf4 kf5 kf6; replace HS := Lib.hid (SbsAt.kept HS.out hb); replace HF := Lib.hid (FdsAt.kept HF.out hb); replace HB := Lib.hid (bch' HB.out hb); clear hb; obtain ⟨k0, k1, k2, k3, k4, k5, k6, kf0, kf1, kf2, kf3, kf4, kf5, kf6⟩ := HK.out.c7))
      go_ret
      exact ⟨rfl, HB.out⟩
    rw [onE_ok hz (by omega)]
    clear hz
    have HC := Lib.hid hc; clear hc
    go_enter Tryz.func86, Tryz.ntmps86
    go_wp2_with (first | (with_reducible refine ((HC.out _ HS.out HF.out (ENV.out.below HB.out)).mono ?_); rintro e w' ⟨rfl, hb⟩; replace HK := Lib.hid (HK.out.keep hb); clear k0 k1 k2 k3 k4 k5 k6 kf0 kf1 kf2 kf3 kf4 kf5 kf6; replace HS := Lib.hid (SbsAt.kept HS.out hb); replace HF := Lib.hid (FdsAt.kept HF.out hb); replace HB := Lib.hid (bch' HB.out hb); clear hb; obtain ⟨k0, k1, k2, k3, k4, k5, k6, kf0, kf1, kf2, kf3, kf4, kf5, kf6⟩ := HK.out.c7))
    go_ret
    exact ⟨rfl, HB.out⟩
  · rw [onE_ma hz]
    have hne : ((maE fr tz st ti su fd : Int) != 0) = true := by simpa using hz
    clear hz
    generalize maE fr tz st ti su fd = m at *
    have HC := Lib.hid hc; clear hc
    go_enter Tryz.func86, Tryz.ntmps86
    go_wp2_with (first | (with_reducible refine ((HC.out _ HS.out HF.out (ENV.out.below HB.out)).mono ?_); rintro e w' ⟨rfl, hb⟩; replace HK := Lib.hid (HK.out.keep hb); clear k0 k1 k2 k3 k4 k5 k6 kf0 kf1 kf2 kf3 kf4 kf5 kf6; replace HS := Lib.hid (SbsAt.kept HS.out hb); replace HF := Lib.hid (FdsAt.kept HF.out hb); replace HB := Lib.hid (bch' HB.out hb); clear hb; obtain ⟨k0, k1, k2, k3, k4, k5, k6, kf0, kf1, kf2, kf3, kf4, kf5, kf6⟩ := HK.out.c7))
    go_ret
    exact ⟨rfl, HB.out⟩

set_option maxRecDepth 100000 in
set_option maxHeartbeats 4000000 in
theorem own_mgrandH (tz st ti : Int) (bl : Bool) (fr : Txt) (sv fv : Value) (t : Int) (w : World) (hz : glE fr tz st ti = 0) (hx : fr.length ≤ 60) (env : Env w) :
    Calls Tryz.prog 88 #[.agg #[.string ⟨(fr).toArray⟩, .int .i64 tz, .int .i64 st, .int .i64 ti, .bool (bl), sv, fv], .int .i64 t] w fun e w' => e = .returned (.tuple #[.string ⟨(showR (mainQ fr tz st ti bl t)).toArray⟩, .int .i64 0]) ∧ Below w.heap.size w w' := by
  have ENV := Lib.hid env; clear env
  cases bl
  · have HK := Lib.hid (Blk.new w 145 #[.string ⟨(fr).toArray⟩, .int .i64 tz, .int .i64 st, .int .i64 ti, .bool false, sv, fv])
    have HB := Lib.hid ((Below.refl w.heap.size w).alloc (Nat.le_refl _) (.cells #[.string ⟨(fr).toArray⟩, .int .i64 tz, .int .i64 st, .int .i64 ti, .bool false, sv, fv] 145))
    obtain ⟨k0, k1, k2, k3, k4, k5, k6, kf0, kf1, kf2, kf3, kf4, kf5, kf6⟩ := HK.out.c7
    have hg := fun W (e : Env W) => own_gat fr tz st ti t W hz (by omega) e
    have hw := fun W (e : Env W) => own_whole 65535 W (by omega) (by omega) e
    rw [show itoa 65535 = [54, 53, 53, 51, 53] by decide +kernel] at hw
    obtain ⟨q, e1, e2, hq, h2, h3, h4⟩ := glq hz
    have fl : Fits 182 (glV (valR fr) tz st ti t) := by rw [e2]; exact glV_fits t (fits_of_len (k := 60) (by rw [← e1]; exact hx)) h2.1 h2.2 h3.1 h3.2 h4.2
    have hd := fun W (e : Env W) => own_rdiv (showR (glV (valR fr) tz st ti t)) (showR ((65535 : Int) : Rat)) W e (len_ok fl (by omega)) (len_ok f65 (by omega))
    rw [div_gen fl f65 (by omega) k65_ne, k65] at hd
    dsimp only at hd
    rw [show mainQ fr tz st ti false t = glV (valR fr) tz st ti t / ((65535 : Int) : Rat) from rfl]
    clear fl e1 e2 hq h2 h3 h4 q
    generalize showR (glV (valR fr) tz st ti t / ((65535 : Int) : Rat)) = t2 at *
    generalize showR (glV (valR fr) tz st ti t) = t1 at *
    have HG := Lib.hid hg; clear hg
    have HW := Lib.hid hw; clear hw
    have HD := Lib.hid hd; clear hd
    go_enter Tryz.func88, Tryz.ntmps88
    go_wp2_with (first | (with_reducible refine ((HG.out _ (ENV.out.below HB.out)).mono ?_); rintro e w' ⟨rfl, hb⟩; replace HK := Lib.hid (HK.out.keep hb); clear k0 k1 k2 k3 k4 k5 k6 kf0 kf1 kf2 kf3 kf4 kf5 kf6; replace HB := Lib.hid (bch' HB.out hb); clear hb; obtain ⟨k0, k1, k2, k3, k4, k5, k6, kf0, kf1, kf2, kf3, kf4, kf5, kf6⟩ := HK.out.c7) | (with_reducible refine ((HW.out _ (ENV.out.below HB.out)).mono ?_); rintro e w' ⟨rfl, hb⟩; replace HK := Lib.hid (HK.out.keep hb); clear k0 k1 k2 k3 k4 k5 k6 kf0 kf1 kf2 kf3 kf4 kf5 kf6; replace HB := Lib.hid (bch' HB.out hb); clear hb; obtain ⟨k0, k1, k2, k3, k4, k5, k6, kf0, kf1, kf2, kf3, kf4, kf5, kf6⟩ := HK.out.c7) | (with_reducible refine ((HD.out _ (ENV.out.below HB.out)).mono ?_); rintro e w' ⟨rfl, hb⟩; replace HK := Lib.hid (HK.out.keep hb); clear k0 k1 k2 k3 k4 k5 k6 kf0 kf1 kf2 kf3 kf4 kf5 kf6; replace HB := Lib.hid (bch' HB.out hb); clear hb; obtain ⟨k0, k1, k2, k3, k4, k5, k6, kf0, kf1, kf2, kf3, kf4, kf5, kf6⟩ := HK.out.c7))
    go_ret2
    exact ⟨rfl, HB.out⟩
  · have HK := Lib.hid (Blk.new w 145 #[.string ⟨(fr).toArray⟩, .int .i64 tz, .int .i64 st, .int .i64 ti, .bool true, sv, fv])
    have HB := Lib.hid ((Below.refl w.heap.size w).alloc (Nat.le_refl _) (.cells #[.string ⟨(fr).toArray⟩, .int .i64 tz, .int .i64 st, .int .i64 ti, .bool true, sv, fv] 145))
    obtain ⟨k0, k1, k2, k3, k4, k5, k6, kf0, kf1, kf2, kf3, kf4, kf5, kf6⟩ := HK.out.c7
    rw [show mainQ fr tz st ti true t = 0 from rfl, showR_zero]
    have hw := fun W (e : Env W) => own_whole 0 W (by omega) (by omega) e
    rw [show itoa 0 = [48] by decide +kernel] at hw
    have HW := Lib.hid hw; clear hw
    go_enter Tryz.func88, Tryz.ntmps88
    go_wp2_with (first | (with_reducible refine ((HW.out _ (ENV.out.below HB.out)).mono ?_); rintro e w' ⟨rfl, hb⟩; replace HK := Lib.hid (HK.out.keep hb); clear k0 k1 k2 k3 k4 k5 k6 kf0 kf1 kf2 kf3 kf4 kf5 kf6; replace HB := Lib.hid (bch' HB.out hb); clear hb; obtain ⟨k0, k1, k2, k3, k4, k5, k6, kf0, kf1, kf2, kf3, kf4, kf5, kf6⟩ := HK.out.c7))
    go_ret2
    exact ⟨rfl, HB.out⟩

end Go.Proofs.YtkjelfmgnkkijaaGreatDoor
namespace Lum
open Go Go.RowKit Go.Shelf
open Go.Lib (decDigits itoa)
/-- The error of a number from 0 to a limit. -/
def wiE (v : Txt) (lim : Int) : Int := if ratCheck v ≠ 0 then ratCheck v else if valR v < 0 ∨ ((lim : Int) : Rat) < valR v then 2 else 0
theorem wiE_bad {v : Txt} {lim : Int} (h : ¬ ratCheck v = 0) : wiE v lim = ratCheck v := by unfold wiE; rw [if_pos h]
theorem wiE_out {q : Rat} {lim : Int} (h : ratCheck (showR q) = 0) (h2 : q < 0 ∨ ((lim : Int) : Rat) < q) : wiE (showR q) lim = 2 := by unfold wiE; rw [if_neg (by simpa using h), valR_showR, if_pos h2]
theorem wiE_in {q : Rat} {lim : Int} (h : ratCheck (showR q) = 0) (h2 : ¬ (q < 0 ∨ ((lim : Int) : Rat) < q)) : wiE (showR q) lim = 0 := by unfold wiE; rw [if_neg (by simpa using h), valR_showR, if_neg h2]
theorem wiE_zero {v : Txt} {lim : Int} (h : wiE v lim = 0) : ∃ q, v = showR q ∧ valR v = q ∧ 0 ≤ q ∧ q ≤ ((lim : Int) : Rat) := by
  by_cases h1 : ratCheck v = 0
  · obtain ⟨q, rfl, -⟩ := ratCheck_zero v h1
    by_cases h2 : q < 0 ∨ ((lim : Int) : Rat) < q
    · rw [wiE_out h1 h2] at h; omega
    · exact ⟨q, rfl, valR_showR q, Rat.not_lt.1 fun g => h2 (.inl g), Rat.not_lt.1 fun g => h2 (.inr g)⟩
  · rw [wiE_bad h1] at h; exact absurd h h1
/-- A level behind the masters. -/
def apT (v fa : Txt) (at_ : Int) : Txt × Int := if wiE v 65535 ≠ 0 then ([], wiE v 65535) else if wiE fa 1 ≠ 0 then ([], wiE fa 1) else if at_ < 0 ∨ 15 ≤ at_ then ([], 2) else if at_ ≠ 0 then (v, 0) else (showR (valR v * valR fa), 0)
theorem apT_v {v fa : Txt} {at_ : Int} (h : ¬ wiE v 65535 = 0) : apT v fa at_ = ([], wiE v 65535) := by unfold apT; rw [if_pos h]
theorem apT_f {v fa : Txt} {at_ : Int} (h : wiE v 65535 = 0) (h2 : ¬ wiE fa 1 = 0) : apT v fa at_ = ([], wiE fa 1) := by unfold apT; rw [if_neg (by simpa using h), if_pos h2]
theorem apT_at {v fa : Txt} {at_ : Int} (h : wiE v 65535 = 0) (h2 : wiE fa 1 = 0) (h3 : at_ < 0 ∨ 15 ≤ at_) : apT v fa at_ = ([], 2) := by unfold apT; rw [if_neg (by simpa using h), if_neg (by simpa using h2), if_pos h3]
theorem apT_no {v fa : Txt} {at_ : Int} (h : wiE v 65535 = 0) (h2 : wiE fa 1 = 0) (h3 : ¬ (at_ < 0 ∨ 15 ≤ at_)) (h4 : ¬ at_ = 0) : apT v fa at_ = (v, 0) := by unfold apT; rw [if_neg (by simpa using h), if_neg (by simpa using h2), if_neg h3, if_pos h4]
theorem apT_ok {v fa : Txt} {at_ : Int} (h : wiE v 65535 = 0) (h2 : wiE fa 1 = 0) (h3 : ¬ (at_ < 0 ∨ 15 ≤ at_)) (h4 : at_ = 0) : apT v fa at_ = (showR (valR v * valR fa), 0) := by unfold apT; rw [if_neg (by simpa using h), if_neg (by simpa using h2), if_neg h3, if_neg (by simpa using h4)]
end Lum
namespace Go.Proofs.YtkjelfmgnkkijaaGreatDoor
open Go.RowKit Go.Shelf Lum
open Go.Lib (decDigits itoa)
attribute [local go_sem] bs_get bs_extract_end bs_extract_from bs_extract bs_append

set_option maxRecDepth 100000 in
set_option maxHeartbeats 4000000 in
theorem own_mwithin (lim : Int) (v : Txt) (k : Nat) (w : World) (hx : v.length ≤ 100000) (hk : ∀ q, v = showR q → Fits k q) (hk2 : k ≤ 4000) (h0 : 0 ≤ lim) (h1 : lim ≤ 65535) (env : Env w) :
    Calls Tryz.prog 135 #[.string ⟨(v).toArray⟩, .int .i64 lim] w fun e w' => e = .returned (.int .i64 (wiE v lim)) ∧ Below w.heap.size w w' := by
  have ENV := Lib.hid env; clear env
  have HB := Lib.hid (Below.refl w.heap.size w)
  have hw0 := fun W (e : Env W) => own_whole 0 W (by omega) (by omega) e
  have hw1 := fun W (e : Env W) => own_whole lim W (by omega) (by omega) e
  have hc := fun W (e : Env W) => own_rcheck v W hx e
  rw [show itoa 0 = [48] by decide +kernel] at hw0
  rw [← showR_int] at hw1
  by_cases hz : ratCheck v = 0
  · obtain ⟨q, rfl, -⟩ := ratCheck_zero v hz
    have fq := hk q rfl
    have fm := fits_i64 lim (by omega) (by omega)
    have c1 := fun W (e : Env W) => own_rcompare (showR 0) (showR q) W e (len_ok fits_0 (by omega)) (len_ok fq (by omega))
    have c2 := fun W (e : Env W) => own_rcompare (showR q) (showR ((lim : Int) : Rat)) W e (len_ok fq (by omega)) (len_ok fm (by omega))
    rw [cmp_gen fits_0 fq (by omega), showR_zero] at c1
    rw [cmp_gen fq fm (by omega)] at c2
    dsimp only at c1 c2
    obtain ⟨s1, hs1⟩ : ∃ s, s = sgn 0 q := ⟨_, rfl⟩
    obtain ⟨s2, hs2⟩ : ∃ s, s = sgn q ((lim : Int) : Rat) := ⟨_, rfl⟩
    rw [← hs1] at c1
    rw [← hs2] at c2
    have HS1 := Lib.hid hs1; have HS2 := Lib.hid hs2; clear hs1 hs2
    rw [hz] at hc
    by_cases g1 : q < 0
    · rw [wiE_out hz (.inl g1)]
      have k1 : 0 < s1 := by rw [HS1.out]; exact (sgn_gt _ _).2 g1
      clear g1
      have HC := Lib.hid hc; clear hc
      have HW0 := Lib.hid hw0; clear hw0
      have HW1 := Lib.hid hw1; clear hw1
      have HC1 := Lib.hid c1; clear c1
      have HC2 := Lib.hid c2; clear c2
      clear hz fq fm hk hx
      generalize showR q = tq at *
      generalize showR ((lim : Int) : Rat) = tl at *
      go_enter Tryz.func135, Tryz.ntmps135
      go_wp2_with (first | (with_reducible refine ((HC.out _ (ENV.out.below HB.out)).mono ?_); rintro e w' ⟨rfl, hb⟩; replace HB := Lib.hid (bch' HB.out hb); clear hb) | (with_reducible refine ((HW0.out _ (ENV.out.below HB.out)).mono ?_); rintro e w' ⟨rfl, hb⟩; replace HB := Lib.hid (bch' HB.out hb); clear hb) | (with_reducible refine ((HW1.out _ (ENV.out.below HB.out)).mono ?_); rintro e w' ⟨rfl, hb⟩; replace HB := Lib.hid (bch' HB.out hb); clear hb) | (with_reducible refine ((HC1.out _ (ENV.out.below HB.out)).mono ?_); rintro e w' ⟨rfl, hb⟩; replace HB := Lib.hid (bch' HB.out hb); clear hb) | (with_reducible refine ((HC2.out _ (ENV.out.below HB.out)).mono ?_); rintro e w' ⟨rfl, hb⟩; replace HB := Lib.hid (bch' HB.out hb); clear hb))
      go_ret
      exact ⟨rfl, HB.out⟩
    have k1 : ¬ 0 < s1 := by rw [HS1.out]; exact mt (sgn_gt _ _).1 g1
    by_cases g2 : ((lim : Int) : Rat) < q
    · rw [wiE_out hz (.inr g2)]
      have k2 : 0 < s2 := by rw [HS2.out]; exact (sgn_gt _ _).2 g2
      clear g1 g2
      have HC := Lib.hid hc; clear hc
      have HW0 := Lib.hid hw0; clear hw0
      have HW1 := Lib.hid hw1; clear hw1
      have HC1 := Lib.hid c1; clear c1
      have HC2 := Lib.hid c2; clear c2
      clear hz fq fm hk hx
      generalize showR q = tq at *
      generalize showR ((lim : Int) : Rat) = tl at *
      go_enter Tryz.func135, Tryz.ntmps135
      go_wp2_with (first | (with_reducible refine ((HC.out _ (ENV.out.below HB.out)).mono ?_); rintro e w' ⟨rfl, hb⟩; replace HB := Lib.hid (bch' HB.out hb); clear hb) | (with_reducible refine ((HW0.out _ (ENV.out.below HB.out)).mono ?_); rintro e w' ⟨rfl, hb⟩; replace HB := Lib.hid (bch' HB.out hb); clear hb) | (with_reducible refine ((HW1.out _ (ENV.out.below HB.out)).mono ?_); rintro e w' ⟨rfl, hb⟩; replace HB := Lib.hid (bch' HB.out hb); clear hb) | (with_reducible refine ((HC1.out _ (ENV.out.below HB.out)).mono ?_); rintro e w' ⟨rfl, hb⟩; replace HB := Lib.hid (bch' HB.out hb); clear hb) | (with_reducible refine ((HC2.out _ (ENV.out.below HB.out)).mono ?_); rintro e w' ⟨rfl, hb⟩; replace HB := Lib.hid (bch' HB.out hb); clear hb))
      go_ret
      exact ⟨rfl, HB.out⟩
    have k2 : ¬ 0 < s2 := by rw [HS2.out]; exact mt (sgn_gt _ _).1 g2
    rw [wiE_in hz (fun h => h.elim g1 g2)]
    clear g1 g2
    have HC := Lib.hid hc; clear hc
    have HW0 := Lib.hid hw0; clear hw0
    have HW1 := Lib.hid hw1; clear hw1
    have HC1 := Lib.hid c1; clear c1
    have HC2 := Lib.hid c2; clear c2
    clear hz fq fm hk hx
    generalize showR q = tq at *
    generalize showR ((lim : Int) : Rat) = tl at *
    go_enter Tryz.func135, Tryz.ntmps135
    go_wp2_with (first | (with_reducible refine ((HC.out _ (ENV.out.below HB.out)).mono ?_); rintro e w' ⟨rfl, hb⟩; replace HB := Lib.hid (bch' HB.out hb); clear hb) | (with_reducible refine ((HW0.out _ (ENV.out.below HB.out)).mono ?_); rintro e w' ⟨rfl, hb⟩; replace HB := Lib.hid (bch' HB.out hb); clear hb) | (with_reducible refine ((HW1.out _ (ENV.out.below HB.out)).mono ?_); rintro e w' ⟨rfl, hb⟩; replace HB := Lib.hid (bch' HB.out hb); clear hb) | (with_reducible refine ((HC1.out _ (ENV.out.below HB.out)).mono ?_); rintro e w' ⟨rfl, hb⟩; replace HB := Lib.hid (bch' HB.out hb); clear hb) | (with_reducible refine ((HC2.out _ (ENV.out.below HB.out)).mono ?_); rintro e w' ⟨rfl, hb⟩; replace HB := Lib.hid (bch' HB.out hb); clear hb))
    go_ret
    exact ⟨rfl, HB.out⟩
  · rw [wiE_bad hz]
    have hne : ((ratCheck v : Int) != 0) = true := by simpa using hz
    clear hz
    generalize ratCheck v = m at *
    have HC := Lib.hid hc; clear hc
    have HW0 := Lib.hid hw0; clear hw0
    have HW1 := Lib.hid hw1; clear hw1
    go_enter Tryz.func135, Tryz.ntmps135
    go_wp2_with (first | (with_reducible refine ((HC.out _ (ENV.out.below HB.out)).mono ?_); rintro e w' ⟨rfl, hb⟩; replace HB := Lib.hid (bch' HB.out hb); clear hb))
    go_ret
    exact ⟨rfl, HB.out⟩

set_option maxRecDepth 100000 in
set_option maxHeartbeats 4000000 in
theorem own_mapply (at_ : Int) (v fa : Txt) (k l : Nat) (w : World) (hx : v.length ≤ 100000) (hy : fa.length ≤ 100000) (hk : ∀ q, v = showR q → Fits k q) (hl : ∀ q, fa = showR q → Fits l q) (hkl : k + l ≤ 4000) (env : Env w) :
    Calls Tryz.prog 78 #[.string ⟨(v).toArray⟩, .string ⟨(fa).toArray⟩, .int .i64 at_] w fun e w' => e = .returned (.tuple #[.string ⟨((apT v fa at_).1).toArray⟩, .int .i64 ((apT v fa at_).2)]) ∧ Below w.heap.size w w' := by
  have ENV := Lib.hid env; clear env
  have HB := Lib.hid (Below.refl w.heap.size w)
  have ha := fun W (e : Env W) => own_mwithin 65535 v k W hx hk (by omega) (by omega) (by omega) e
  have hb2 := fun W (e : Env W) => own_mwithin 1 fa l W hy hl (by omega) (by omega) (by omega) e
  by_cases z1 : wiE v 65535 = 0
  · rw [z1] at ha
    by_cases z2 : wiE fa 1 = 0
    · rw [z2] at hb2
      by_cases o1 : at_ < 0
      · rw [apT_at z1 z2 (by omega)]
        clear z1 z2
        have HA := Lib.hid ha; clear ha
        have HB2 := Lib.hid hb2; clear hb2
        go_enter Tryz.func78, Tryz.ntmps78
        go_wp2_with (first | (with_reducible refine ((HA.out _ (ENV.out.below HB.out)).mono ?_); rintro e w' ⟨rfl, hb⟩; replace HB := Lib.hid (bch' HB.out hb); clear hb) | (with_reducible refine ((HB2.out _ (ENV.out.below HB.out)).mono ?_); rintro e w' ⟨rfl, hb⟩; replace HB := Lib.hid (bch' HB.out hb); clear hb) | (with_reducible refine ((HMU.out _ (ENV.out.below HB.out)).mono ?_); rintro e w' ⟨rfl, hb⟩; replace HB := Lib.hid (bch' HB.out hb); clear hb))
        go_ret2
        exact ⟨rfl, HB.out⟩
      by_cases o2 : 15 ≤ at_
      · rw [apT_at z1 z2 (by omega)]
        clear z1 z2
        have HA := Lib.hid ha; clear ha
        have HB2 := Lib.hid hb2; clear hb2
        go_enter Tryz.func78, Tryz.ntmps78
        go_wp2_with (first | (with_reducible refine ((HA.out _ (ENV.out.below HB.out)).mono ?_); rintro e w' ⟨rfl, hb⟩; replace HB := Lib.hid (bch' HB.out hb); clear hb) | (with_reducible refine ((HB2.out _ (ENV.out.below HB.out)).mono ?_); rintro e w' ⟨rfl, hb⟩; replace HB := Lib.hid (bch' HB.out hb); clear hb) | (with_reducible refine ((HMU.out _ (ENV.out.below HB.out)).mono ?_); rintro e w' ⟨rfl, hb⟩; replace HB := Lib.hid (bch' HB.out hb); clear hb))
        go_ret2
        exact ⟨rfl, HB.out⟩
      by_cases o3 : at_ = 0
      · rw [apT_ok z1 z2 (by omega) o3]
        obtain ⟨x, rfl, e1, -, -⟩ := wiE_zero z1
        obtain ⟨y, rfl, e2, -, -⟩ := wiE_zero z2
        rw [e1, e2]
        have hmu := fun W (e : Env W) => own_rmul (showR x) (showR y) W e hx hy
        rw [mul_gen (hk x rfl) (hl y rfl) (by omega)] at hmu
        dsimp only at hmu
        have o4 : ((at_ : Int) != 0) = false := by simpa using o3
        clear z1 z2 e1 e2 hk hl o3
        generalize showR (x * y) = t3 at *
        generalize showR x = t1 at *
        generalize showR y = t2 at *
        have HA := Lib.hid ha; clear ha
        have HB2 := Lib.hid hb2; clear hb2
        have HMU := Lib.hid hmu; clear hmu
        go_enter Tryz.func78, Tryz.ntmps78
        go_wp2_with (first | (with_reducible refine ((HA.out _ (ENV.out.below HB.out)).mono ?_); rintro e w' ⟨rfl, hb⟩; replace HB := Lib.hid (bch' HB.out hb); clear hb) | (with_reducible refine ((HB2.out _ (ENV.out.below HB.out)).mono ?_); rintro e w' ⟨rfl, hb⟩; replace HB := Lib.hid (bch' HB.out hb); clear hb) | (with_reducible refine ((HMU.out _ (ENV.out.below HB.out)).mono ?_); rintro e w' ⟨rfl, hb⟩; replace HB := Lib.hid (bch' HB.out hb); clear hb))
        go_ret2
        exact ⟨rfl, HB.out⟩
      · rw [apT_no z1 z2 (by omega) o3]
        have o4 : ((at_ : Int) != 0) = true := by simpa using o3
        clear z1 z2 o3
        have HA := Lib.hid ha; clear ha
        have HB2 := Lib.hid hb2; clear hb2
        go_enter Tryz.func78, Tryz.ntmps78
        go_wp2_with (first | (with_reducible refine ((HA.out _ (ENV.out.below HB.out)).mono ?_); rintro e w' ⟨rfl, hb⟩; replace HB := Lib.hid (bch' HB.out hb); clear hb) | (with_reducible refine ((HB2.out _ (ENV.out.below HB.out)).mono ?_); rintro e w' ⟨rfl, hb⟩; replace HB := Lib.hid (bch' HB.out hb); clear hb) | (with_reducible refine ((HMU.out _ (ENV.out.below HB.out)).mono ?_); rintro e w' ⟨rfl, hb⟩; replace HB := Lib.hid (bch' HB.out hb); clear hb))
        go_ret2
        exact ⟨rfl, HB.out⟩
    · rw [apT_f z1 z2]
      have hne : ((wiE fa 1 : Int) != 0) = true := by simpa using z2
      clear z1 z2
      generalize wiE fa 1 = m at *
      have HA := Lib.hid ha; clear ha
      have HB2 := Lib.hid hb2; clear hb2
      go_enter Tryz.func78, Tryz.ntmps78
      go_wp2_with (first | (with_reducible refine ((HA.out _ (ENV.out.below HB.out)).mono ?_); rintro e w' ⟨rfl, hb⟩; replace HB := Lib.hid (bch' HB.out hb); clear hb) | (with_reducible refine ((HB2.out _ (ENV.out.below HB.out)).mono ?_); rintro e w' ⟨rfl, hb⟩; replace HB := Lib.hid (bch' HB.out hb); clear hb) | (with_reducible refine ((HMU.out _ (ENV.out.below HB.out)).mono ?_); rintro e w' ⟨rfl, hb⟩; replace HB := Lib.hid (bch' HB.out hb); clear hb))
      go_ret2
      exact ⟨rfl, HB.out⟩
  · rw [apT_v z1]
    have hne : ((wiE v 65535 : Int) != 0) = true := by simpa using z1
    clear z1
    generalize wiE v 65535 = m at *
    have HA := Lib.hid ha; clear ha
    have HB2 := Lib.hid hb2; clear hb2
    go_enter Tryz.func78, Tryz.ntmps78
    go_wp2_with (first | (with_reducible refine ((HA.out _ (ENV.out.below HB.out)).mono ?_); rintro e w' ⟨rfl, hb⟩; replace HB := Lib.hid (bch' HB.out hb); clear hb) | (with_reducible refine ((HB2.out _ (ENV.out.below HB.out)).mono ?_); rintro e w' ⟨rfl, hb⟩; replace HB := Lib.hid (bch' HB.out hb); clear hb) | (with_reducible refine ((HMU.out _ (ENV.out.below HB.out)).mono ?_); rintro e w' ⟨rfl, hb⟩; replace HB := Lib.hid (bch' HB.out hb); clear hb))
    go_ret2
    exact ⟨rfl, HB.out⟩

set_option maxRecDepth 100000 in
set_option maxHeartbeats 4000000 in
theorem cl_mfactor (nu pr ch t : Int) (inh : Bool) (gs : List Gn) (fd : List Fdr) (gv fv : Value) (H C T_ : Nat) (w : World) (hv : GnsAt w gv gs) (hf : FdsAt w fv fd) (hs : sbE ⟨nu, pr, inh, gs⟩ = 0) (hd : facE fd = 0) (hl : ∀ i, i < fd.length → (fdv fd i).fr.length ≤ 60) (hch : parE ch 0 = 0) (hH : H < w.heap.size) (hC : C < w.heap.size) (hT : T_ < w.heap.size) (c1 : w.cell? ⟨H, 6, none⟩ = some fv) (c2 : w.cell? ⟨C, 0, none⟩ = some (.int .i64 ch)) (c3 : w.cell? ⟨T_, 0, none⟩ = some (.int .i64 t)) (env : Env w) :
    Calls Tryz.prog 90 #[.agg #[.int .i64 nu, .int .i64 pr, .bool (inh), gv], .pointer (some ⟨H, 0, none⟩), .pointer (some ⟨C, 0, none⟩), .pointer (some ⟨T_, 0, none⟩)] w fun e w' => e = .returned (.tuple #[.string ⟨(showR (sclQ ⟨nu, pr, inh, gs⟩ fd ch t)).toArray⟩, .int .i64 0]) ∧ Below w.heap.size w w' := by
  have ENV := Lib.hid env; clear env
  have hfa := fun W (h1 : GnsAt W gv gs) (h2 : FdsAt W fv fd) (e : Env W) => own_sfactor nu pr ch t inh gs fd gv fv W h1 h2 hs hd hl hch e
  have hal := (Below.refl w.heap.size w).alloc (Nat.le_refl _) (.cells #[.int .i64 nu, .int .i64 pr, .bool (inh), gv] 58)
  have HV := Lib.hid (GnsAt.kept hv hal)
  have HF := Lib.hid (FdsAt.kept hf hal)
  have q1 := (hal.cell (p := ⟨H, 6, none⟩) hH).trans c1
  have q2 := (hal.cell (p := ⟨C, 0, none⟩) hC).trans c2
  have q3 := (hal.cell (p := ⟨T_, 0, none⟩) hT).trans c3
  clear hal c1 c2 c3 hv hf hs hd hl hch
  have hH2 : H ≠ w.heap.size := by omega
  have hC2 : C ≠ w.heap.size := by omega
  have hT2 : T_ ≠ w.heap.size := by omega
  generalize showR (sclQ ⟨nu, pr, inh, gs⟩ fd ch t) = tr at *
  have HFA := Lib.hid hfa; clear hfa
  have HK := Lib.hid (Blk.new w 58 #[.int .i64 nu, .int .i64 pr, .bool (inh), gv])
  have HB := Lib.hid ((Below.refl w.heap.size w).alloc (Nat.le_refl _) (.cells #[.int .i64 nu, .int .i64 pr, .bool (inh), gv] 58))
  obtain ⟨k0, k1, k2, k3, kf0, kf1, kf2, kf3⟩ := HK.out.c4
  go_enter Tryz.func90, Tryz.ntmps90
  go_wp2_with fail
  refine ((HFA.out _ HV.out HF.out (ENV.out.below HB.out)).mono ?_)
  rintro e w2 ⟨rfl, hb⟩
  replace HB := Lib.hid (bch' HB.out hb); clear hb
  go_wp2_with fail
  go_ret2
  exact ⟨rfl, HB.out⟩
end Go.Proofs.YtkjelfmgnkkijaaGreatDoor
namespace Go.Proofs.YtkjelfmgnkkijaaGreatDoor
open Go.RowKit Go.Shelf Lum
open Go.Lib (decDigits itoa)
attribute [local go_sem] bs_get bs_extract_end bs_extract_from bs_extract bs_append

set_option maxRecDepth 100000 in
set_option maxHeartbeats 4000000 in
theorem own_mproduct (M : FuncId) (ca cb cc : Value) (a : Rat) (su : List Sb) (fd : List Fdr) (ch t : Int) (sv : Value) (w : World) (hv : SbsAt w sv su) (ha : Fits 187 a) (hs : TabOk su) (hf : FacOk fd) (hl : ∀ i, i < fd.length → (fdv fd i).fr.length ≤ 60) (hF : ∀ args w, (callFunc M args).run Tryz.prog w = .ok (.enter M args) w)
    (hcl : ∀ k, k < su.length → ∀ W gv, Below w.heap.size w W → GnsAt W gv (sbv su k).gs → Env W → Calls Tryz.prog M #[.agg #[.int .i64 (sbv su k).nu, .int .i64 (sbv su k).pr, .bool (sbv su k).inh, gv], ca, cb, cc] W fun e w' => e = .returned (.tuple #[.string ⟨(showR (sclQ (sbv su k) fd ch t)).toArray⟩, .int .i64 0]) ∧ Below W.heap.size W w') (env : Env w) :
    Calls Tryz.prog 89 #[.string ⟨(showR a).toArray⟩, sv, .func (.func M) #[] #[ca, cb, cc]] w fun e w' => e = .returned (.tuple #[.string ⟨(showR (facQ a su fd ch t su.length)).toArray⟩, .int .i64 0]) ∧ Below w.heap.size w w' := by
  have ENV := Lib.hid env; clear env
  obtain ⟨p, c, rfl, -, hv1⟩ := hv
  have hv2 := Lib.hid hv1; clear hv1
  have hcc := Lib.hid hcl; clear hcl
  have HB := Lib.hid (Below.refl w.heap.size w)
  go_enter Tryz.func89, Tryz.ntmps89
  go_wp2_with fail
  go_loopw [0, 14] (fun a0 i wr => ∃ k r : Nat, a0 = .string ⟨(showR (facQ a su fd ch t k)).toArray⟩ ∧ i = .int .i64 (k : Int) ∧ Hid (k + r = su.length) ∧ Hid (Below w.heap.size w wr)) (fun _ i _ => su.length - (intOf i).toNat)
  case atStart => exact ⟨0, su.length, rfl, rfl, Lib.hid (by omega), HB⟩
  case round =>
    obtain ⟨k, r, rfl, rfl, hkr, HB2⟩ := hrel
    clear HB
    have HB := HB2; clear HB2
    cases r with
    | zero =>
      have hlt : ¬ (k : Int) < (su.length : Int) := by have := hkr.out; omega
      obtain rfl : k = su.length := by have := hkr.out; omega
      go_wp2
      go_ret2
      exact ⟨rfl, HB.out⟩
    | succ r =>
      have h16 := hs.few
      have hkl : k < su.length := by have := hkr.out; omega
      have hlt : (k : Int) < (su.length : Int) := by omega
      obtain ⟨b, o, rfl, hb, hC⟩ := hv2.out (fun h => by subst h; simp at hkl)
      obtain ⟨x1, x2, x3, gv, x4, hgn⟩ := hC.below HB.out hb k hkl
      clear hC
      obtain ⟨pg, cg, rfl⟩ : ∃ pg cg, gv = .slice pg (sbv su k).gs.length cg := by obtain ⟨pg, cg, e, -⟩ := hgn; exact ⟨pg, cg, e⟩
      have hbr : b < wr.heap.size := by have := HB.out.size; omega
      have hun : IntKind.i64.wrap ((k : Int) + 1) = (k : Int) + 1 := IntWalk.i64_in _ (by omega)
      have hal := (Below.refl wr.heap.size wr).alloc (Nat.le_refl _) (.cells #[.int .i64 (sbv su k).nu, .int .i64 (sbv su k).pr, .bool (sbv su k).inh, (.slice pg (sbv su k).gs.length cg)] 58)
      have HGN := Lib.hid (hgn.kept hal)
      clear hgn
      have HG := Lib.hid (Blk.new wr 58 #[.int .i64 (sbv su k).nu, .int .i64 (sbv su k).pr, .bool (sbv su k).inh, (.slice pg (sbv su k).gs.length cg)])
      replace HB := Lib.hid (bch' HB.out hal)
      clear hal
      obtain ⟨g0, g1, g2, g3, gf0, gf1, gf2, gf3⟩ := HG.out.c4
      have hcq := fun W (h1 : Below w.heap.size w W) (h2 : GnsAt W (.slice pg (sbv su k).gs.length cg) (sbv su k).gs) (e : Env W) => hcc.out k hkl W (.slice pg (sbv su k).gs.length cg) h1 h2 e
      have f1 := facQ_fits ch t ha hs hf hl k (by omega)
      have f2 := sclQ_fits (s := sbv su k) (l := fd) (ch := ch) t (subOk (hs.ok k hkl)) hf hl
      have hmu := fun W (e : Env W) => own_rmul (showR (facQ a su fd ch t k)) (showR (sclQ (sbv su k) fd ch t)) W e (len_ok f1 (by omega)) (len_ok f2 (by omega))
      rw [mul_gen f1 f2 (by omega), ← facQ_succ a fd ch t hkl] at hmu
      dsimp only at hmu
      clear f1 f2
      generalize hq1 : showR (facQ a su fd ch t (k + 1)) = tk1 at hmu
      have HQ1 := Lib.hid hq1; clear hq1
      generalize showR (facQ a su fd ch t k) = tk at *
      generalize showR (sclQ (sbv su k) fd ch t) = ts at *
      have HCQ := Lib.hid hcq; clear hcq
      have HMU := Lib.hid hmu; clear hmu
      go_wp2_with (first | (with_reducible refine ((HCQ.out _ HB.out HGN.out (ENV.out.below HB.out)).mono ?_); rintro e w' ⟨rfl, hb⟩; replace HG := Lib.hid (HG.out.keep hb); clear g0 g1 g2 g3 gf0 gf1 gf2 gf3; replace HGN := Lib.hid (GnsAt.kept HGN.out hb); replace HB := Lib.hid (bch' HB.out hb); clear hb; obtain ⟨g0, g1, g2, g3, gf0, gf1, gf2, gf3⟩ := HG.out.c4) | (with_reducible refine ((HMU.out _ (ENV.out.below HB.out)).mono ?_); rintro e w' ⟨rfl, hb⟩; replace HG := Lib.hid (HG.out.keep hb); clear g0 g1 g2 g3 gf0 gf1 gf2 gf3; replace HB := Lib.hid (bch' HB.out hb); clear hb; obtain ⟨g0, g1, g2, g3, gf0, gf1, gf2, gf3⟩ := HG.out.c4))
      go_roundw
      case rel => exact ⟨k + 1, r, by rw [HQ1.out], by first | rfl | simp, Lib.hid (by have := hkr.out; omega), HB⟩
      case measure => first | (simp [intOf]; done) | (simp [intOf]; omega)

set_option maxRecDepth 100000 in
set_option maxHeartbeats 4000000 in
theorem own_mfactor_ok (tz st ti : Int) (bl : Bool) (fr : Txt) (sv fv : Value) (su : List Sb) (fd : List Fdr) (ch t : Int) (w : World) (hs : SbsAt w sv su) (hf : FdsAt w fv fd) (hx : fr.length ≤ 60) (hl : ∀ i, i < fd.length → (fdv fd i).fr.length ≤ 60) (hz : onE fr tz st ti su fd ch = 0) (env : Env w) :
    Calls Tryz.prog 26 #[.agg #[.string ⟨(fr).toArray⟩, .int .i64 tz, .int .i64 st, .int .i64 ti, .bool (bl), sv, fv], .int .i64 ch, .int .i64 t] w fun e w' => e = .returned (.tuple #[.string ⟨(showR (facQ (mainQ fr tz st ti bl t) su fd ch t su.length)).toArray⟩, .int .i64 0]) ∧ Below w.heap.size w w' := by
  obtain ⟨ps, zs, rfl⟩ : ∃ ps zs, sv = .slice ps su.length zs := by obtain ⟨a, b, e, -⟩ := hs; exact ⟨a, b, e⟩
  obtain ⟨pf, zf, rfl⟩ : ∃ pf zf, fv = .slice pf fd.length zf := by obtain ⟨a, b, e, -⟩ := hf; exact ⟨a, b, e⟩
  have ENV := Lib.hid env; clear env
  obtain ⟨hm, hc0, hc1⟩ := onE_zero hz
  obtain ⟨m1, m2, m3⟩ := maE_zero hm
  have tok := tabOk m2
  have fok := facOk m3
  have hpc : parE ch 0 = 0 := parE_in (by omega)
  have hon := fun W (h1 : SbsAt W (.slice ps su.length zs) su) (h2 : FdsAt W (.slice pf fd.length zf) fd) (e : Env W) => own_mon tz st ti bl fr (.slice ps su.length zs) (.slice pf fd.length zf) su fd ch W h1 h2 (by omega) (fun i hi => Nat.le_trans (hl i hi) (by omega)) e
  rw [hz] at hon
  have hgr := fun W (e : Env W) => own_mgrandH tz st ti bl fr (.slice ps su.length zs) (.slice pf fd.length zf) t W m1 hx e
  have hpr := fun (H C T_ : Nat) W (h1 : SbsAt W (.slice ps su.length zs) su) (h2 : FdsAt W (.slice pf fd.length zf) fd) (e : Env W) (g1 : H < W.heap.size) (g2 : C < W.heap.size) (g3 : T_ < W.heap.size) (d1 : W.cell? ⟨H, 6, none⟩ = some (.slice pf fd.length zf)) (d2 : W.cell? ⟨C, 0, none⟩ = some (.int .i64 ch)) (d3 : W.cell? ⟨T_, 0, none⟩ = some (.int .i64 t)) => own_mproduct 90 (.pointer (some ⟨H, 0, none⟩)) (.pointer (some ⟨C, 0, none⟩)) (.pointer (some ⟨T_, 0, none⟩)) (mainQ fr tz st ti bl t) su fd ch t (.slice ps su.length zs) W h1 (mainQ_fits bl t m1 hx) tok fok hl (enters_of Tryz.func90 (by kernel_rfl) rfl) (fun k hk W2 gv hb hg e2 => cl_mfactor (sbv su k).nu (sbv su k).pr ch t (sbv su k).inh (sbv su k).gs fd gv (.slice pf fd.length zf) H C T_ W2 hg (FdsAt.kept h2 hb) (tok.ok k hk) m3 hl hpc (Nat.lt_of_lt_of_le g1 hb.size) (Nat.lt_of_lt_of_le g2 hb.size) (Nat.lt_of_lt_of_le g3 hb.size) ((hb.cell (p := ⟨H, 6, none⟩) g1).trans d1) ((hb.cell (p := ⟨C, 0, none⟩) g2).trans d2) ((hb.cell (p := ⟨T_, 0, none⟩) g3).trans d3) e2) e
  have hal := (((Below.refl w.heap.size w).alloc (Nat.le_refl _) (.cells #[.string ⟨(fr).toArray⟩, .int .i64 tz, .int .i64 st, .int .i64 ti, .bool (bl), (.slice ps su.length zs), (.slice pf fd.length zf)] 28)).alloc (by simp) (.cells #[.int .i64 ch] 3)).alloc (by simp; omega) (.cells #[.int .i64 t] 3)
  have HS := Lib.hid (SbsAt.kept hs hal)
  have HF := Lib.hid (FdsAt.kept hf hal)
  have HB := Lib.hid hal; clear hal hs hf
  have HK := Lib.hid (((Blk.new w 28 #[.string ⟨(fr).toArray⟩, .int .i64 tz, .int .i64 st, .int .i64 ti, .bool (bl), (.slice ps su.length zs), (.slice pf fd.length zf)]).alloc (.cells #[.int .i64 ch] 3)).alloc (.cells #[.int .i64 t] 3))
  have hR := (Blk.new (w.alloc (.cells #[.string ⟨(fr).toArray⟩, .int .i64 tz, .int .i64 st, .int .i64 ti, .bool (bl), (.slice ps su.length zs), (.slice pf fd.length zf)] 28)) 3 #[.int .i64 ch]).alloc (.cells #[.int .i64 t] 3)
  rw [World.size_alloc] at hR
  have HC := Lib.hid hR; clear hR
  have hR := Blk.new ((w.alloc (.cells #[.string ⟨(fr).toArray⟩, .int .i64 tz, .int .i64 st, .int .i64 ti, .bool (bl), (.slice ps su.length zs), (.slice pf fd.length zf)] 28)).alloc (.cells #[.int .i64 ch] 3)) 3 #[.int .i64 t]
  rw [World.size_alloc, World.size_alloc] at hR
  have HT := Lib.hid hR; clear hR
  obtain ⟨k0, k1, k2, k3, k4, k5, k6, kf0, kf1, kf2, kf3, kf4, kf5, kf6⟩ := HK.out.c7
  obtain ⟨c0, cf0⟩ := HC.out.c1
  obtain ⟨t0, tf0⟩ := HT.out.c1
  clear hz hm hc0 hc1 m1 m2 m3 tok fok hpc hl hx
  generalize showR (facQ (mainQ fr tz st ti bl t) su fd ch t su.length) = tr at *
  generalize showR (mainQ fr tz st ti bl t) = tm at *
  have HPR := Lib.hid hpr; clear hpr
  have HON := Lib.hid hon; clear hon
  have HGR := Lib.hid hgr; clear hgr
  go_enter Tryz.func26, Tryz.ntmps26
  go_wp2_with fail
  refine ((HON.out _ HS.out HF.out (ENV.out.below HB.out)).mono ?_)
  rintro e w2 ⟨rfl, hb⟩
  have hal := (Below.refl w2.heap.size w2).alloc (Nat.le_refl _) (.cells #[.string ⟨(fr).toArray⟩, .int .i64 tz, .int .i64 st, .int .i64 ti, .bool (bl), (.slice ps su.length zs), (.slice pf fd.length zf)] 145)
  have HKa := Lib.hid ((HK.out.keep hb).keep hal); replace HK := Lib.hid (HK.out.keep hb); clear k0 k1 k2 k3 k4 k5 k6 kf0 kf1 kf2 kf3 kf4 kf5 kf6
  have HCa := Lib.hid ((HC.out.keep hb).keep hal); replace HC := Lib.hid (HC.out.keep hb); clear c0 cf0
  have HTa := Lib.hid ((HT.out.keep hb).keep hal); replace HT := Lib.hid (HT.out.keep hb); clear t0 tf0
  replace HS := Lib.hid (SbsAt.kept (SbsAt.kept HS.out hb) hal)
  replace HF := Lib.hid (FdsAt.kept (FdsAt.kept HF.out hb) hal)
  replace HB := Lib.hid (bch' (bch' HB.out hb) hal)
  clear hb hal HON
  have HH := Lib.hid (Blk.new w2 145 #[.string ⟨(fr).toArray⟩, .int .i64 tz, .int .i64 st, .int .i64 ti, .bool (bl), (.slice ps su.length zs), (.slice pf fd.length zf)])
  obtain ⟨k0, k1, k2, k3, k4, k5, k6, kf0, kf1, kf2, kf3, kf4, kf5, kf6⟩ := HK.out.c7
  obtain ⟨c0, cf0⟩ := HC.out.c1
  obtain ⟨t0, tf0⟩ := HT.out.c1
  obtain ⟨ka0, ka1, ka2, ka3, ka4, ka5, ka6, kaf0, kaf1, kaf2, kaf3, kaf4, kaf5, kaf6⟩ := HKa.out.c7
  obtain ⟨ca0, caf0⟩ := HCa.out.c1
  obtain ⟨ta0, taf0⟩ := HTa.out.c1
  obtain ⟨h0, h1, h2, h3, h4, h5, h6, hf0, hf1, hf2, hf3, hf4, hf5, hf6⟩ := HH.out.c7
  go_wp2_with (first | (with_reducible refine ((HGR.out _ (ENV.out.below HB.out)).mono ?_); rintro e w' ⟨rfl, hb⟩; replace HKa := Lib.hid (HKa.out.keep hb); clear ka0 ka1 ka2 ka3 ka4 ka5 ka6 kaf0 kaf1 kaf2 kaf3 kaf4 kaf5 kaf6; replace HCa := Lib.hid (HCa.out.keep hb); clear ca0 caf0; replace HTa := Lib.hid (HTa.out.keep hb); clear ta0 taf0; replace HH := Lib.hid (HH.out.keep hb); clear h0 h1 h2 h3 h4 h5 h6 hf0 hf1 hf2 hf3 hf4 hf5 hf6; replace HS := Lib.hid (SbsAt.kept HS.out hb); replace HF := Lib.hid (FdsAt.kept HF.out hb); replace HB := Lib.hid (bch' HB.out hb); clear hb; obtain ⟨ka0, ka1, ka2, ka3, ka4, ka5, ka6, kaf0, kaf1, kaf2, kaf3, kaf4, kaf5, kaf6⟩ := HKa.out.c7; obtain ⟨ca0, caf0⟩ := HCa.out.c1; obtain ⟨ta0, taf0⟩ := HTa.out.c1; obtain ⟨h0, h1, h2, h3, h4, h5, h6, hf0, hf1, hf2, hf3, hf4, hf5, hf6⟩ := HH.out.c7))
  refine ((HPR.out _ _ _ _ HS.out HF.out (ENV.out.below HB.out) HH.out.lt HCa.out.lt HTa.out.lt h6 ca0 ta0).mono ?_)
  rintro e w3 ⟨rfl, hb⟩
  replace HB := Lib.hid (bch' HB.out hb); clear hb
  go_wp2_with fail
  go_ret2
  exact ⟨rfl, HB.out⟩
end Go.Proofs.YtkjelfmgnkkijaaGreatDoor

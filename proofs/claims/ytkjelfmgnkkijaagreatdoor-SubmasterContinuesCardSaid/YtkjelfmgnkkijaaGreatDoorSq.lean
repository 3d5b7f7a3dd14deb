/-
  Submasters, plain: what a movement makes of faders; bounds.
-/
import Derived.Test.YtkjelfmgnkkijaaGreatDoorNf
import Derived.Test.YtkjelfmgnkkijaaGreatDoorOi
set_option linter.unusedVariables false
set_option linter.unusedSimpArgs false
namespace Lum
open Go Go.RowKit Go.Shelf
open Go.Lib (decDigits itoa)
/-- A fader that is moved. -/
def mvF (nu : Int) (inh : Bool) (l : List Fdr) (t to_ ti : Int) (mv : Bool) : Fdr := ⟨(fadG nu inh l).su, showR (lvlQ nu inh l t), to_, t, ti, if mv = false ∨ lvlQ nu inh l t = 0 then t else (fadG nu inh l).stp⟩
theorem mvF_new {nu : Int} {inh : Bool} {l : List Fdr} {t to_ ti : Int} : mvF nu inh l t to_ ti false = ⟨(fadG nu inh l).su, showR (lvlQ nu inh l t), to_, t, ti, t⟩ := by unfold mvF; rw [if_pos (.inl rfl)]
theorem mvF_zero {nu : Int} {inh : Bool} {l : List Fdr} {t to_ ti : Int} (h : lvlQ nu inh l t = 0) : mvF nu inh l t to_ ti true = ⟨(fadG nu inh l).su, showR (lvlQ nu inh l t), to_, t, ti, t⟩ := by unfold mvF; rw [if_pos (.inr h)]
theorem mvF_on {nu : Int} {inh : Bool} {l : List Fdr} {t to_ ti : Int} (h : ¬ lvlQ nu inh l t = 0) : mvF nu inh l t to_ ti true = ⟨(fadG nu inh l).su, showR (lvlQ nu inh l t), to_, t, ti, (fadG nu inh l).stp⟩ := by unfold mvF; rw [if_neg (fun g => g.elim (fun g => absurd g (by decide)) h)]
/-- Whether a movement is in range. -/
def mvIn (t to_ ti : Int) : Prop := ((0 ≤ t ∧ t ≤ 10000000) ∧ (0 ≤ ti ∧ ti ≤ 10000000)) ∧ (0 ≤ to_ ∧ to_ ≤ 65535)
instance (t to_ ti : Int) : Decidable (mvIn t to_ ti) := by unfold mvIn; exact inferInstance
theorem gns_self {s : Sb} (h : SubOk s) {i : Nat} (hi : i < s.gs.length) : gnG s.gs (gnv s.gs i).ch (gnv s.gs i).at_ = some (gnv s.gs i).lev :=
  gnG_at hi ⟨rfl, rfl⟩ fun j hj e => by
    have h1 := h.bef i hi j hj
    rw [e.1, e.2] at h1
    unfold befP at h1; omega
theorem losQ_full (g : Int) : losQ g ((65535 : Int) : Rat) = 1 := by
  unfold losQ
  rw [show ((65535 : Int) : Rat) - ((65535 : Int) : Rat) = 0 by grind, Rat.zero_mul, Rat.div_def, Rat.zero_mul]; grind
theorem sclQ_full {s : Sb} {l : List Fdr} {ch t : Int} (h : lvlQ s.nu s.inh l t = ((65535 : Int) : Rat)) : sclQ s l ch t = 1 := by
  unfold sclQ
  rw [h]
  split
  · split
    · exact losQ_full _
    · rfl
  · rfl
theorem k65_pos : (0 : Rat) < ((65535 : Int) : Rat) := by decide +kernel
/-- A gain's share lies between 0 and the gain. -/
theorem share_in {g : Int} {q : Rat} (h0 : 0 ≤ g) (h1 : g ≤ 65535) (q0 : 0 ≤ q) (q1 : q ≤ ((65535 : Int) : Rat)) : 0 ≤ q * Rat.divInt g 65535 ∧ q * Rat.divInt g 65535 ≤ ((g : Int) : Rat) := by
  obtain ⟨r0, r1⟩ := part_01 (a := g) (b := 65535) h0 h1 (by decide)
  refine ⟨Rat.mul_nonneg q0 r0, ?_⟩
  have e : ((g : Int) : Rat) = ((65535 : Int) : Rat) * Rat.divInt g 65535 := by
    rw [Rat.divInt_eq_div, Rat.mul_comm, Rat.div_mul_cancel k65_ne]
  rw [e]
  exact mul_le_r q1 r0
theorem share_full (g : Int) : ((65535 : Int) : Rat) * Rat.divInt g 65535 = ((g : Int) : Rat) := by
  rw [Rat.divInt_eq_div, Rat.mul_comm, Rat.div_mul_cancel k65_ne]
theorem losQ_mono {g : Int} {p q : Rat} (h0 : 0 ≤ g) (h1 : g ≤ 65535) (h : p ≤ q) : losQ g p ≤ losQ g q := by
  obtain ⟨r0, -⟩ := part_01 (a := g) (b := 65535) h0 h1 (by decide)
  unfold losQ
  have e := mul_le_r (show ((65535 : Int) : Rat) - q ≤ ((65535 : Int) : Rat) - p by grind) r0
  generalize (((65535 : Int) : Rat) - q) * Rat.divInt g 65535 = a at *
  generalize (((65535 : Int) : Rat) - p) * Rat.divInt g 65535 = b at *
  have e2 : a / ((65535 : Int) : Rat) ≤ b / ((65535 : Int) : Rat) := by
    refine Rat.not_lt.1 fun k => ?_
    rw [Rat.lt_div_iff k65_pos, Rat.div_mul_cancel k65_ne] at k
    exact absurd e (Rat.not_le.2 k)
  grind
theorem fadG_one (nu v : Int) (inh : Bool) : fadG nu inh [fdN nu v] = fdN nu v := fadG_at (i := 0) (by simp) rfl (fun j h => absurd h (Nat.not_lt_zero j))
theorem lvlQ_one (nu v : Int) (inh : Bool) : lvlQ nu inh [fdN nu v] 5 = ((v : Int) : Rat) := by
  unfold lvlQ
  rw [fadG_one]
  exact glV_behind (st := 0) (ti := 0) (t := 5) (by decide) (by decide)
theorem sclQ_mono {s : Sb} {a b : List Fdr} {ch t : Int} (hs : SubOk s) (h : lvlQ s.nu s.inh a t ≤ lvlQ s.nu s.inh b t) : sclQ s a ch t ≤ sclQ s b ch t := by
  unfold sclQ
  split
  · rename_i g hg
    split
    · exact losQ_mono (gnG_range hs hg).1 (gnG_range hs hg).2 h
    · exact Rat.le_refl
  · exact Rat.le_refl
theorem fuE_ok {l : List Fdr} (h : ∀ j, j < l.length → (1 ≤ (fdv l j).su ∧ (fdv l j).su ≤ 1048576) ∧ fgE (fdv l j) = 0 ∧ (0 ≤ (fdv l j).stp ∧ (fdv l j).stp ≤ 10000000) ∧ lastF l j < (fdv l j).su) : ∀ (n i : Nat), i + n = l.length → fuE l n i = 0 := by
  intro n
  induction n with
  | zero => intro i _; rfl
  | succ n ih =>
    intro i hi
    obtain ⟨h1, h2, h3, h4⟩ := h i (by omega)
    rw [fuE_go (by omega) h2 (by omega) (by omega)]
    exact ih (i + 1) (by omega)
theorem facE_ok {l : List Fdr} (h : FacOk l) : facE l = 0 := by
  rw [facE_few (by have := h.few; omega)]
  refine fuE_ok (fun j hj => ⟨h.su j hj, h.gl j hj, h.stp j hj, ?_⟩) _ 0 (by omega)
  cases j with
  | zero => rw [lastF_zero]; have := (h.su 0 hj).1; omega
  | succ j => rw [lastF_succ]; exact h.ord (j + 1) hj j (by omega)
/-- Where a number belongs in sorted numbers, and whether it is there. -/
structure Belongs (c : Nat → Int) (n : Nat) (nu : Int) (i : Nat) (hit : Bool) : Prop where
  le : i ≤ n
  bef : ∀ j, j < i → c j < nu
  yes : hit = true → i < n ∧ c i = nu
  no : hit = false → ∀ j, i ≤ j → j < n → nu < c j
  aft : ∀ j, i < j → j < n → nu < c j
theorem halved_belongs {c : Nat → Int} {n i : Nat} {nu : Int} (hs : ∀ j, j < n → ∀ k, k < j → c k < c j) (h : Halved (fun k => c k - nu) n i) : Belongs c n nu i (decide (i < n ∧ c i - nu = 0)) := by
  obtain ⟨h1, h2, h3⟩ := h
  dsimp only at h2 h3
  have hb : ∀ j, j < i → c j < nu := fun j hj => by
    have h4 := h2 (by omega)
    by_cases e : j = i - 1
    · subst e; omega
    · have := hs (i - 1) (by omega) j (by omega); omega
  refine ⟨h1, hb, fun e => ?_, fun e j hj hn => ?_, fun j hj hn => ?_⟩
  · have := of_decide_eq_true e; exact ⟨this.1, by omega⟩
  · have e2 := of_decide_eq_false e
    have h4 := h3 (by omega)
    have h5 : ¬ c i - nu = 0 := fun g => e2 ⟨by omega, g⟩
    by_cases e3 : j = i
    · subst e3; omega
    · have := hs j hn i (by omega); omega
  · have h4 := h3 (by omega)
    have := hs j hn i hj; omega
theorem Belongs.uniq {c : Nat → Int} {n i j : Nat} {nu : Int} {a b : Bool} (h : Belongs c n nu i a) (g : Belongs c n nu j b) : i = j ∧ a = b := by
  have e : i = j := by
    rcases Nat.lt_trichotomy i j with k | k | k
    · have h1 := g.bef i k
      have h2 := g.le
      cases a
      · have := h.no rfl i (Nat.le_refl _) (by omega); omega
      · have := (h.yes rfl).2; omega
    · exact k
    · have h1 := h.bef j k
      have h2 := h.le
      cases b
      · have := g.no rfl j (Nat.le_refl _) (by omega); omega
      · have := (g.yes rfl).2; omega
  subst e
  refine ⟨rfl, ?_⟩
  cases a <;> cases b <;> try rfl
  · have h1 := g.yes rfl
    have := h.no rfl i (Nat.le_refl _) h1.1; omega
  · have h1 := h.yes rfl
    have := g.no rfl i (Nat.le_refl _) h1.1; omega
/-- The elements of a list with one put in. -/
theorem get_ins {α : Type} {l : List α} {i : Nat} {hit : Bool} {x : α} (hi : i ≤ l.length) (j : Nat) : (insL l i hit x)[j]? = if j < i then l[j]? else if j = i then some x else l[(if hit then j else j - 1)]? := by
  unfold insL
  by_cases h1 : j < i
  · rw [if_pos h1, List.getElem?_append_left (by rw [List.length_take]; omega), List.getElem?_take, if_pos h1]
  · rw [if_neg h1, List.getElem?_append_right (by rw [List.length_take]; omega), List.length_take, show j - min i l.length = j - i by omega]
    by_cases h2 : j = i
    · subst h2; rw [if_pos rfl, Nat.sub_self, List.getElem?_cons_zero]
    · rw [if_neg h2, show j - i = (j - i - 1) + 1 by omega, List.getElem?_cons_succ, List.getElem?_drop]
      congr 1
      cases hit
      · simp only [Bool.false_eq_true, if_false]; omega
      · simp only [if_true]; omega
theorem ins_len {α : Type} {l : List α} {i : Nat} {hit : Bool} {x : α} (hi : i ≤ l.length) (hh : hit = true → i < l.length) : (insL l i hit x).length = l.length + (if hit then 0 else 1) := by
  cases hit
  · rw [insL_len_miss hi]; rfl
  · rw [insL_len_hit (hh rfl)]; rfl
theorem fdv_ins {l : List Fdr} {i : Nat} {hit : Bool} {x : Fdr} (hi : i ≤ l.length) (j : Nat) : fdv (insL l i hit x) j = if j < i then fdv l j else if j = i then x else fdv l (if hit then j else j - 1) := by
  unfold fdv
  rw [get_ins hi]
  split
  · rfl
  · split
    · rfl
    · rfl
theorem facOk_ins {l : List Fdr} {i : Nat} {hit : Bool} {x : Fdr} {nu : Int} (h : FacOk l) (hb : Belongs (fun k => (fdv l k).su) l.length nu i hit) (hx : x.su = nu) (h1 : 1 ≤ nu ∧ nu ≤ 1048576) (hg : fgE x = 0) (hs : 0 ≤ x.stp ∧ x.stp ≤ 10000000) (hn : l.length < 16 ∨ hit = true) : FacOk (insL l i hit x) := by
  have hl := ins_len (x := x) hb.le (fun e => (hb.yes e).1)
  have hf := h.few
  have hil := hb.le
  have key : ∀ j, j < (insL l i hit x).length → ¬ j < i → ¬ j = i → (if hit then j else j - 1) < l.length ∧ i ≤ (if hit then j else j - 1) ∧ (hit = true → i < (if hit then j else j - 1)) := fun j hj a b => by
    rw [hl] at hj
    clear hl hn hb
    cases hit
    · simp at hj ⊢; omega
    · simp at hj ⊢; omega
  have aft : ∀ j, j < (insL l i hit x).length → ¬ j < i → ¬ j = i → nu < (fdv l (if hit then j else j - 1)).su := fun j hj a b => by
    obtain ⟨k1, k2, k3⟩ := key j hj a b
    cases hit
    · exact hb.no rfl _ k2 k1
    · exact hb.aft _ (k3 rfl) k1
  refine ⟨?_, fun j hj => ?_, fun j hj => ?_, fun j hj => ?_, fun j hj k hk => ?_⟩
  · rw [hl]
    cases hit
    · have := hn.resolve_right (by simp); simp; omega
    · simp; omega
  · rw [fdv_ins hb.le]
    split
    · exact h.su j (by omega)
    · split
      · rw [hx]; exact h1
      · rename_i a b; exact h.su _ (key j hj a b).1
  · rw [fdv_ins hb.le]
    split
    · exact h.gl j (by omega)
    · split
      · exact hg
      · rename_i a b; exact h.gl _ (key j hj a b).1
  · rw [fdv_ins hb.le]
    split
    · exact h.stp j (by omega)
    · split
      · exact hs
      · rename_i a b; exact h.stp _ (key j hj a b).1
  · rw [fdv_ins hb.le, fdv_ins hb.le]
    by_cases a : j < i
    · rw [if_pos a, if_pos (by omega)]; exact h.ord j (by omega) k hk
    · rw [if_neg a]
      by_cases b : j = i
      · rw [if_pos b, if_pos (by omega), hx]
        exact hb.bef k (by omega)
      · rw [if_neg b]
        have hj2 := aft j hj a b
        by_cases c : k < i
        · rw [if_pos c]
          have := hb.bef k c
          omega
        · rw [if_neg c]
          by_cases d : k = i
          · rw [if_pos d, hx]; exact hj2
          · rw [if_neg d]
            obtain ⟨k1, k2, k3⟩ := key j hj a b
            refine h.ord _ k1 _ ?_
            cases hit
            · simp only [Bool.false_eq_true, if_false]; omega
            · simp only [if_true]; omega
theorem fadG_ins {l : List Fdr} {i : Nat} {hit inh : Bool} {x : Fdr} {nu : Int} (hb : Belongs (fun k => (fdv l k).su) l.length nu i hit) (hx : x.su = nu) : fadG nu inh (insL l i hit x) = x := by
  have hl := ins_len (x := x) hb.le (fun e => (hb.yes e).1)
  have h1 : i < (insL l i hit x).length := by
    rw [hl]
    have := hb.le
    cases hit
    · simp; omega
    · have := (hb.yes rfl).1; simp; omega
  have h2 : fdv (insL l i hit x) i = x := by rw [fdv_ins hb.le, if_neg (by omega), if_pos rfl]
  rw [fadG_at h1 (by rw [h2, hx]) (fun j hj => by rw [fdv_ins hb.le, if_pos hj]; have := hb.bef j hj; omega), h2]
theorem fadG_su (nu : Int) (inh : Bool) (l : List Fdr) : (fadG nu inh l).su = nu := by
  unfold fadG
  cases h : l.find? (fun f => f.su == nu) with
  | none => cases inh <;> rfl
  | some f => have := List.find?_some h; simpa using this
theorem lvlQ_range {nu : Int} {inh : Bool} {l : List Fdr} (h : FacOk l) (t : Int) : 0 ≤ lvlQ nu inh l t ∧ lvlQ nu inh l t ≤ ((65535 : Int) : Rat) := fadL_range t (fadG_fg h)
theorem mvF_su (nu : Int) (inh : Bool) (l : List Fdr) (t to_ ti : Int) (mv : Bool) : (mvF nu inh l t to_ ti mv).su = nu := fadG_su nu inh l
theorem mvF_fg {nu : Int} {inh : Bool} {l : List Fdr} {t to_ ti : Int} {mv : Bool} (h : FacOk l) (hm : mvIn t to_ ti) {k : Nat} (hk : Fits k (lvlQ nu inh l t)) (k1 : k ≤ 4096) : fgE (mvF nu inh l t to_ ti mv) = 0 := by
  obtain ⟨r0, r1⟩ := lvlQ_range (nu := nu) (inh := inh) h t
  refine glE_in (levE_in (check_gen hk k1) fun g => g.elim (fun g => absurd g (Rat.not_lt.2 r0)) (fun g => absurd g (Rat.not_lt.2 r1))) ⟨hm.2, hm.1.1, hm.1.2⟩
theorem mvF_stp {nu : Int} {inh : Bool} {l : List Fdr} {t to_ ti : Int} {mv : Bool} (h : FacOk l) (hm : mvIn t to_ ti) : 0 ≤ (mvF nu inh l t to_ ti mv).stp ∧ (mvF nu inh l t to_ ti mv).stp ≤ 10000000 := by
  show 0 ≤ (if mv = false ∨ lvlQ nu inh l t = 0 then t else (fadG nu inh l).stp) ∧ (if mv = false ∨ lvlQ nu inh l t = 0 then t else (fadG nu inh l).stp) ≤ 10000000
  split
  · exact hm.1.1
  · rcases fadG_or nu inh l with ⟨i, hi, e⟩ | e
    · rw [e]; exact h.stp i hi
    · rw [e]; cases inh <;> (show (0 : Int) ≤ 0 ∧ (0 : Int) ≤ 10000000; decide)
theorem mvF_level {nu : Int} {inh : Bool} {l : List Fdr} {t to_ ti : Int} {mv : Bool} {i : Nat} {hit : Bool} (hb : Belongs (fun k => (fdv l k).su) l.length nu i hit) (t2 : Int) : lvlQ nu inh (insL l i hit (mvF nu inh l t to_ ti mv)) t2 = glV (lvlQ nu inh l t) to_ t ti t2 := by
  unfold lvlQ
  rw [fadG_ins hb (mvF_su _ _ _ _ _ _ _)]
  show glV (valR (showR (lvlQ nu inh l t))) to_ t ti t2 = _
  rw [valR_showR]; rfl
theorem mvF_then {nu : Int} {inh : Bool} {l : List Fdr} {t to_ ti : Int} {mv : Bool} {i : Nat} {hit : Bool} (hb : Belongs (fun k => (fdv l k).su) l.length nu i hit) (h : 0 < ti) : lvlQ nu inh (insL l i hit (mvF nu inh l t to_ ti mv)) t = lvlQ nu inh l t := by
  rw [mvF_level hb]; exact glV_start (by omega)
theorem mvF_end {nu : Int} {inh : Bool} {l : List Fdr} {t to_ ti : Int} {mv : Bool} {i : Nat} {hit : Bool} (hb : Belongs (fun k => (fdv l k).su) l.length nu i hit) (h : 0 ≤ ti) : lvlQ nu inh (insL l i hit (mvF nu inh l t to_ ti mv)) (t + ti) = ((to_ : Int) : Rat) := by
  rw [mvF_level hb]; exact glV_behind (by omega) (by omega)
theorem facE_mv {nu : Int} {inh : Bool} {l : List Fdr} {t to_ ti : Int} {i : Nat} {hit : Bool} (h : FacOk l) (hb : Belongs (fun k => (fdv l k).su) l.length nu i hit) (h1 : 1 ≤ nu ∧ nu ≤ 1048576) (hm : mvIn t to_ ti) {k : Nat} (hk : Fits k (lvlQ nu inh l t)) (k1 : k ≤ 4096) (hn : l.length < 16 ∨ hit = true) : facE (insL l i hit (mvF nu inh l t to_ ti hit)) = 0 :=
  facE_ok (facOk_ins h hb (mvF_su _ _ _ _ _ _ _) h1 (mvF_fg h hm hk k1) (mvF_stp h hm) hn)
theorem len_ins {l : List Fdr} {i : Nat} {hit : Bool} {x : Fdr} (hi : i ≤ l.length) (h : ∀ j, j < l.length → (fdv l j).fr.length ≤ 1000) (hx : x.fr.length ≤ 1000) : ∀ j, j < (insL l i hit x).length → (fdv (insL l i hit x) j).fr.length ≤ 1000 := by
  intro j hj
  have all : ∀ j, (fdv l j).fr.length ≤ 1000 := fun j => by
    by_cases g : j < l.length
    · exact h j g
    · unfold fdv; rw [List.getElem?_eq_none (by omega)]; decide
  rw [fdv_ins hi]
  split
  · exact all j
  · split
    · exact hx
    · exact all _
theorem mvF_len {nu : Int} {inh : Bool} {l : List Fdr} {t to_ ti : Int} {mv : Bool} {k : Nat} (hk : Fits k (lvlQ nu inh l t)) (k1 : k ≤ 400) : (mvF nu inh l t to_ ti mv).fr.length ≤ 1000 := by
  show (showR (lvlQ nu inh l t)).length ≤ 1000
  have := showR_len _ _ hk; omega
/-- The others: without the number put in. -/
theorem filter_ins {l : List Fdr} {i : Nat} {hit : Bool} {x : Fdr} {nu : Int} (hb : Belongs (fun k => (fdv l k).su) l.length nu i hit) (hx : x.su = nu) : (insL l i hit x).filter (fun y => !(y.su == nu)) = l.filter (fun y => !(y.su == nu)) := by
  unfold insL
  conv => rhs; rw [← List.take_append_drop i l]
  rw [List.filter_append, List.filter_append, List.filter_cons_of_neg (by simp [hx])]
  congr 1
  cases hit
  · rfl
  · obtain ⟨h1, h2⟩ := hb.yes rfl
    rw [if_pos rfl, List.drop_eq_getElem_cons h1, List.filter_cons_of_neg]
    rw [fdv_at h1]; simpa using h2
theorem filter_count {l : List Fdr} {i : Nat} {hit : Bool} {nu : Int} (hb : Belongs (fun k => (fdv l k).su) l.length nu i hit) : (l.filter (fun y => !(y.su == nu))).length + (if hit then 1 else 0) = l.length := by
  have keep : ∀ (m : List Fdr), (∀ y ∈ m, ¬ y.su = nu) → m.filter (fun y => !(y.su == nu)) = m := fun m h => List.filter_eq_self.2 fun y hy => by simpa using h y hy
  have h1 : ∀ y ∈ l.take i, ¬ y.su = nu := fun y hy => by
    obtain ⟨j, hj, e⟩ := List.getElem_of_mem hy
    rw [List.length_take] at hj
    rw [List.getElem_take, fdv_at (by omega)] at e
    have := hb.bef j (by omega)
    rw [e] at this
    omega
  cases hit
  · rw [keep l]
    · rfl
    · intro y hy
      obtain ⟨j, hj, e⟩ := List.getElem_of_mem hy
      rw [fdv_at hj] at e
      by_cases g : j < i
      · have := hb.bef j g; rw [e] at this; omega
      · have := hb.no rfl j (by omega) hj; rw [e] at this; omega
  · obtain ⟨h2, h3⟩ := hb.yes rfl
    have e : l = l.take i ++ (fdv l i :: l.drop (i + 1)) := by
      rw [← fdv_at h2, ← List.drop_eq_getElem_cons h2, List.take_append_drop]
    have h4 : ∀ y ∈ l.drop (i + 1), ¬ y.su = nu := fun y hy => by
      obtain ⟨j, hj, e⟩ := List.getElem_of_mem hy
      rw [List.length_drop] at hj
      rw [List.getElem_drop, fdv_at (by omega)] at e
      have := hb.aft (i + 1 + j) (by omega) (by omega)
      rw [e] at this
      omega
    have e5 : (l.filter (fun y => !(y.su == nu))) = l.take i ++ l.drop (i + 1) := by
      conv => lhs; rw [e]
      rw [List.filter_append, List.filter_cons_of_neg (by simpa using h3), keep _ h1, keep _ h4]
    rw [e5, List.length_append, List.length_take, List.length_drop]
    simp only [if_true]; omega
theorem at_hit {l : List Fdr} {nu : Int} {i : Nat} (hb : Belongs (fun k => (fdv l k).su) l.length nu i true) : ixOf (fun x => x.su == nu) l = (i : Int) := by
  obtain ⟨h1, h2⟩ := hb.yes rfl
  exact ixOf_at h1 (by rw [fdv_at h1]; simpa using h2) (fun j hj => by rw [fdv_at (by omega)]; have := hb.bef j hj; simp; omega)
theorem at_miss {l : List Fdr} {nu : Int} {i : Nat} (hb : Belongs (fun k => (fdv l k).su) l.length nu i false) : ixOf (fun x => x.su == nu) l = -1 :=
  ixOf_no fun j hj => by
    rw [fdv_at hj]
    by_cases g : j < i
    · have := hb.bef j g; simp; omega
    · have := hb.no rfl j (by omega) hj; simp; omega
theorem fadG_hit {l : List Fdr} {nu : Int} {inh : Bool} {i : Nat} (hb : Belongs (fun k => (fdv l k).su) l.length nu i true) : fadG nu inh l = fdv l i := by
  obtain ⟨h1, h2⟩ := hb.yes rfl
  exact fadG_at h1 h2 (fun j hj => by have := hb.bef j hj; omega)
theorem sorted_cut (c : Nat → Int) (nu : Int) : ∀ n, ∃ i, i ≤ n ∧ (∀ j, j < i → c j < nu) ∧ (i < n → nu ≤ c i) := by
  intro n
  induction n with
  | zero => exact ⟨0, Nat.le_refl _, fun j h => absurd h (Nat.not_lt_zero _), fun h => absurd h (Nat.lt_irrefl _)⟩
  | succ n ih =>
    obtain ⟨i, h1, h2, h3⟩ := ih
    by_cases g : i < n
    · exact ⟨i, by omega, h2, fun _ => h3 g⟩
    · obtain rfl : i = n := by omega
      by_cases k : c i < nu
      · refine ⟨i + 1, by omega, fun j hj => ?_, fun h => absurd h (Nat.lt_irrefl _)⟩
        by_cases e : j = i
        · subst e; exact k
        · exact h2 j (by omega)
      · exact ⟨i, by omega, h2, fun _ => by omega⟩
theorem belongs_exists {l : List Fdr} (h : FacOk l) (nu : Int) : ∃ i hit, Belongs (fun k => (fdv l k).su) l.length nu i hit := by
  obtain ⟨i, h1, h2, h3⟩ := sorted_cut (fun k => (fdv l k).su) nu l.length
  exact ⟨i, _, halved_belongs h.ord ⟨h1, fun g => by have := h2 (i - 1) (by omega); dsimp only at this ⊢; omega, fun g => by have := h3 g; dsimp only at this ⊢; omega⟩⟩
end Lum

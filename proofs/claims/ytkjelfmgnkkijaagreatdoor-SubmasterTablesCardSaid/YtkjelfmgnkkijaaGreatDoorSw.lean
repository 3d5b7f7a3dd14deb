/-
  Submasters and faders: the words.
-/
import Derived.Test.YtkjelfmgnkkijaaGreatDoorGl
import Derived.Test.YtkjelfmgnkkijaaGreatDoorOo
set_option linter.unusedVariables false
set_option linter.unusedSimpArgs false
namespace Lum
open Go Go.RowKit Go.Shelf
open Go.Lib (decDigits itoa)
structure Gn where
  ch : Int
  at_ : Int
  lev : Int
  deriving DecidableEq
def gnv (l : List Gn) (i : Nat) : Gn := l[i]?.getD ⟨0, 0, 0⟩
/-- A slice of elements, of which C says how they lie. -/
def SlAt {α : Type} (C : World → Nat → Nat → List α → Prop) (W : World) (v : Value) (l : List α) : Prop := ∃ p c, v = .slice p l.length c ∧ l.length ≤ c ∧ (l ≠ [] → ∃ b o, p = Option.some ⟨b, o, none⟩ ∧ b < W.heap.size ∧ C W b o l)
/-- What lies so, lies so in every world in which all that was there lies unturned. -/
def KeepsC {α : Type} (C : World → Nat → Nat → List α → Prop) : Prop := ∀ (W W' : World) (b o : Nat) (l : List α) (B : Nat), C W b o l → Below B W W' → b < B → (∀ g, g < W.heap.size → g < B) → C W' b o l
theorem SlAt.below {α : Type} {C : World → Nat → Nat → List α → Prop} (hC : KeepsC C) {W W' : World} {v : Value} {l : List α} (h : SlAt C W v l) (hb : Below W.heap.size W W') : SlAt C W' v l := by
  obtain ⟨p, c, e, hl, h⟩ := h
  refine ⟨p, c, e, hl, fun hn => ?_⟩
  obtain ⟨b, o, e2, hlt, hc⟩ := h hn
  exact ⟨b, o, e2, Nat.lt_of_lt_of_le hlt hb.size, hC W W' b o l _ hc hb hlt (fun _ h => h)⟩
def GnsC (W : World) (b o : Nat) (l : List Gn) : Prop := ∀ i, i < l.length → W.cell? ⟨b, o + i * 3, none⟩ = some (.int .i64 (gnv l i).ch) ∧ W.cell? ⟨b, o + i * 3 + 1, none⟩ = some (.int .i64 (gnv l i).at_) ∧ W.cell? ⟨b, o + i * 3 + 2, none⟩ = some (.int .i64 (gnv l i).lev)
theorem GnsC.below {W W' : World} {b o B : Nat} {l : List Gn} (h : GnsC W b o l) (hb : Below B W W') (hl : b < B) : GnsC W' b o l :=
  fun i hi => ⟨(hb.cell (p := ⟨b, o + i * 3, none⟩) hl).trans (h i hi).1, (hb.cell (p := ⟨b, o + i * 3 + 1, none⟩) hl).trans (h i hi).2.1, (hb.cell (p := ⟨b, o + i * 3 + 2, none⟩) hl).trans (h i hi).2.2⟩
theorem gnsC_keeps : KeepsC GnsC := fun _ _ _ _ _ _ h hb hl _ => h.below hb hl
abbrev GnsAt := SlAt GnsC
theorem GnsAt.kept {W W' : World} {v : Value} {l : List Gn} (h : GnsAt W v l) (hb : Below W.heap.size W W') : GnsAt W' v l := SlAt.below gnsC_keeps h hb
/-- The error of a parameter. -/
def parE (ch at_ : Int) : Int := if ch < 1 ∨ 999 < ch ∨ at_ < 0 ∨ 15 ≤ at_ then 2 else 0
theorem parE_out {ch at_ : Int} (h : ch < 1 ∨ 999 < ch ∨ at_ < 0 ∨ 15 ≤ at_) : parE ch at_ = 2 := by unfold parE; rw [if_pos h]
theorem parE_in {ch at_ : Int} (h : ¬ (ch < 1 ∨ 999 < ch ∨ at_ < 0 ∨ 15 ≤ at_)) : parE ch at_ = 0 := by unfold parE; rw [if_neg h]
theorem parE_zero {ch at_ : Int} (h : parE ch at_ = 0) : (1 ≤ ch ∧ ch ≤ 999) ∧ 0 ≤ at_ ∧ at_ < 15 := by
  by_cases h1 : ch < 1 ∨ 999 < ch ∨ at_ < 0 ∨ 15 ≤ at_
  · rw [parE_out h1] at h; cases h
  · omega
/-- The order of parameters. -/
def cmpP (c a d b : Int) : Int := if c ≠ d then c - d else a - b
def befP (c a d b : Int) : Prop := c < d ∨ (c = d ∧ a < b)
instance (c a d b : Int) : Decidable (befP c a d b) := by unfold befP; exact inferInstance
theorem cmpP_neg {c a d b : Int} : ¬ 0 ≤ cmpP c a d b ↔ befP c a d b := by
  unfold cmpP befP
  by_cases h : c = d
  · rw [if_neg (by simpa using h)]; omega
  · rw [if_pos h]; omega
theorem cmpP_zero {c a d b : Int} : cmpP c a d b = 0 ↔ c = d ∧ a = b := by
  unfold cmpP
  by_cases h : c = d
  · rw [if_neg (by simpa using h)]; omega
  · rw [if_pos h]; omega
/-- The first error of the gains from place i on. -/
def gaE (inh : Bool) (l : List Gn) : Nat → Nat → Int
  | 0, _ => 0
  | n + 1, i => if parE (gnv l i).ch (gnv l i).at_ ≠ 0 then parE (gnv l i).ch (gnv l i).at_ else if (gnv l i).lev < 0 ∨ 65535 < (gnv l i).lev then 2 else if inh = true ∧ (gnv l i).at_ ≠ 0 then 11
    else if 0 < i ∧ ¬ befP (gnv l (i - 1)).ch (gnv l (i - 1)).at_ (gnv l i).ch (gnv l i).at_ then 9 else gaE inh l n (i + 1)
theorem gaE_par {inh : Bool} {l : List Gn} {n i : Nat} (h : ¬ parE (gnv l i).ch (gnv l i).at_ = 0) : gaE inh l (n + 1) i = parE (gnv l i).ch (gnv l i).at_ := by rw [gaE, if_pos h]
theorem gaE_lev {inh : Bool} {l : List Gn} {n i : Nat} (h : parE (gnv l i).ch (gnv l i).at_ = 0) (h2 : (gnv l i).lev < 0 ∨ 65535 < (gnv l i).lev) : gaE inh l (n + 1) i = 2 := by rw [gaE, if_neg (by simpa using h), if_pos h2]
theorem gaE_use {inh : Bool} {l : List Gn} {n i : Nat} (h : parE (gnv l i).ch (gnv l i).at_ = 0) (h2 : ¬ ((gnv l i).lev < 0 ∨ 65535 < (gnv l i).lev)) (h3 : inh = true ∧ (gnv l i).at_ ≠ 0) : gaE inh l (n + 1) i = 11 := by rw [gaE, if_neg (by simpa using h), if_neg h2, if_pos h3]
theorem gaE_ord {inh : Bool} {l : List Gn} {n i : Nat} (h : parE (gnv l i).ch (gnv l i).at_ = 0) (h2 : ¬ ((gnv l i).lev < 0 ∨ 65535 < (gnv l i).lev)) (h3 : ¬ (inh = true ∧ (gnv l i).at_ ≠ 0)) (h4 : 0 < i ∧ ¬ befP (gnv l (i - 1)).ch (gnv l (i - 1)).at_ (gnv l i).ch (gnv l i).at_) : gaE inh l (n + 1) i = 9 := by rw [gaE, if_neg (by simpa using h), if_neg h2, if_neg h3, if_pos h4]
theorem gaE_go {inh : Bool} {l : List Gn} {n i : Nat} (h : parE (gnv l i).ch (gnv l i).at_ = 0) (h2 : ¬ ((gnv l i).lev < 0 ∨ 65535 < (gnv l i).lev)) (h3 : ¬ (inh = true ∧ (gnv l i).at_ ≠ 0)) (h4 : ¬ (0 < i ∧ ¬ befP (gnv l (i - 1)).ch (gnv l (i - 1)).at_ (gnv l i).ch (gnv l i).at_)) : gaE inh l (n + 1) i = gaE inh l n (i + 1) := by rw [gaE, if_neg (by simpa using h), if_neg h2, if_neg h3, if_neg h4]
/-- The error of a submaster. -/
def subE (nu pr : Int) (inh : Bool) (gs : List Gn) : Int := if nu < 1 ∨ 1048576 < nu ∨ pr < 0 ∨ 9 < pr then 2 else if 128 < gs.length then 5 else gaE inh gs gs.length 0
theorem subE_num {nu pr : Int} {inh : Bool} {gs : List Gn} (h : nu < 1 ∨ 1048576 < nu ∨ pr < 0 ∨ 9 < pr) : subE nu pr inh gs = 2 := by unfold subE; rw [if_pos h]
theorem subE_many {nu pr : Int} {inh : Bool} {gs : List Gn} (h : ¬ (nu < 1 ∨ 1048576 < nu ∨ pr < 0 ∨ 9 < pr)) (h2 : 128 < gs.length) : subE nu pr inh gs = 5 := by unfold subE; rw [if_neg h, if_pos h2]
theorem subE_gs {nu pr : Int} {inh : Bool} {gs : List Gn} (h : ¬ (nu < 1 ∨ 1048576 < nu ∨ pr < 0 ∨ 9 < pr)) (h2 : ¬ 128 < gs.length) : subE nu pr inh gs = gaE inh gs gs.length 0 := by unfold subE; rw [if_neg h, if_neg h2]

structure Sb where
  nu : Int
  pr : Int
  inh : Bool
  gs : List Gn
  deriving DecidableEq
def sbv (l : List Sb) (i : Nat) : Sb := l[i]?.getD ⟨0, 0, false, []⟩
def SbsC (W : World) (b o : Nat) (l : List Sb) : Prop := ∀ i, i < l.length → W.cell? ⟨b, o + i * 4, none⟩ = some (.int .i64 (sbv l i).nu) ∧ W.cell? ⟨b, o + i * 4 + 1, none⟩ = some (.int .i64 (sbv l i).pr) ∧ W.cell? ⟨b, o + i * 4 + 2, none⟩ = some (.bool (sbv l i).inh) ∧
  ∃ gv, W.cell? ⟨b, o + i * 4 + 3, none⟩ = some gv ∧ GnsAt W gv (sbv l i).gs
theorem SbsC.below {W W' : World} {b o : Nat} {l : List Sb} (h : SbsC W b o l) (hb : Below W.heap.size W W') (hl : b < W.heap.size) : SbsC W' b o l := fun i hi => by
  obtain ⟨h1, h2, h3, gv, h4, h5⟩ := h i hi
  exact ⟨(hb.cell (p := ⟨b, o + i * 4, none⟩) hl).trans h1, (hb.cell (p := ⟨b, o + i * 4 + 1, none⟩) hl).trans h2, (hb.cell (p := ⟨b, o + i * 4 + 2, none⟩) hl).trans h3, gv, (hb.cell (p := ⟨b, o + i * 4 + 3, none⟩) hl).trans h4, h5.kept hb⟩
def SbsAt (W : World) (v : Value) (l : List Sb) : Prop := ∃ p c, v = .slice p l.length c ∧ l.length ≤ c ∧ (l ≠ [] → ∃ b o, p = Option.some ⟨b, o, none⟩ ∧ b < W.heap.size ∧ SbsC W b o l)
theorem SbsAt.kept {W W' : World} {v : Value} {l : List Sb} (h : SbsAt W v l) (hb : Below W.heap.size W W') : SbsAt W' v l := by
  obtain ⟨p, c, e, hl, h⟩ := h
  refine ⟨p, c, e, hl, fun hn => ?_⟩
  obtain ⟨b, o, e2, hlt, hc⟩ := h hn
  exact ⟨b, o, e2, Nat.lt_of_lt_of_le hlt hb.size, hc.below hb hlt⟩
structure Fdr where
  su : Int
  fr : Txt
  tz : Int
  st : Int
  ti : Int
  stp : Int
  deriving DecidableEq
def fdv (l : List Fdr) (i : Nat) : Fdr := l[i]?.getD ⟨0, [], 0, 0, 0, 0⟩
def FdsC (W : World) (b o : Nat) (l : List Fdr) : Prop := ∀ i, i < l.length → W.cell? ⟨b, o + i * 6, none⟩ = some (.int .i64 (fdv l i).su) ∧ W.cell? ⟨b, o + i * 6 + 1, none⟩ = some (.string ⟨(fdv l i).fr.toArray⟩) ∧ W.cell? ⟨b, o + i * 6 + 2, none⟩ = some (.int .i64 (fdv l i).tz) ∧
  W.cell? ⟨b, o + i * 6 + 3, none⟩ = some (.int .i64 (fdv l i).st) ∧ W.cell? ⟨b, o + i * 6 + 4, none⟩ = some (.int .i64 (fdv l i).ti) ∧ W.cell? ⟨b, o + i * 6 + 5, none⟩ = some (.int .i64 (fdv l i).stp)
theorem FdsC.below {W W' : World} {b o B : Nat} {l : List Fdr} (h : FdsC W b o l) (hb : Below B W W') (hl : b < B) : FdsC W' b o l := fun i hi => by
  obtain ⟨h1, h2, h3, h4, h5, h6⟩ := h i hi
  exact ⟨(hb.cell (p := ⟨b, o + i * 6, none⟩) hl).trans h1, (hb.cell (p := ⟨b, o + i * 6 + 1, none⟩) hl).trans h2, (hb.cell (p := ⟨b, o + i * 6 + 2, none⟩) hl).trans h3, (hb.cell (p := ⟨b, o + i * 6 + 3, none⟩) hl).trans h4, (hb.cell (p := ⟨b, o + i * 6 + 4, none⟩) hl).trans h5, (hb.cell (p := ⟨b, o + i * 6 + 5, none⟩) hl).trans h6⟩
theorem fdsC_keeps : KeepsC FdsC := fun _ _ _ _ _ _ h hb hl _ => h.below hb hl
abbrev FdsAt := SlAt FdsC
theorem FdsAt.kept {W W' : World} {v : Value} {l : List Fdr} (h : FdsAt W v l) (hb : Below W.heap.size W W') : FdsAt W' v l := SlAt.below fdsC_keeps h hb
/-- The number before place i. -/
def lastS (l : List Sb) (i : Nat) : Int := if i = 0 then 0 else (sbv l (i - 1)).nu
def lastF (l : List Fdr) (i : Nat) : Int := if i = 0 then 0 else (fdv l (i - 1)).su
theorem lastS_zero (l : List Sb) : lastS l 0 = 0 := rfl
theorem lastS_succ (l : List Sb) (i : Nat) : lastS l (i + 1) = (sbv l i).nu := rfl
theorem lastF_zero (l : List Fdr) : lastF l 0 = 0 := rfl
theorem lastF_succ (l : List Fdr) (i : Nat) : lastF l (i + 1) = (fdv l i).su := rfl
def sbE (s : Sb) : Int := subE s.nu s.pr s.inh s.gs
def fgE (f : Fdr) : Int := glE f.fr f.tz f.st f.ti
/-- The first error of a table from place i on. -/
def tuE (l : List Sb) : Nat → Nat → Int
  | 0, _ => 0
  | n + 1, i => if sbE (sbv l i) ≠ 0 then sbE (sbv l i) else if (sbv l i).nu ≤ lastS l i then 9 else tuE l n (i + 1)
theorem tuE_bad {l : List Sb} {n i : Nat} (h : ¬ sbE (sbv l i) = 0) : tuE l (n + 1) i = sbE (sbv l i) := by rw [tuE, if_pos h]
theorem tuE_ord {l : List Sb} {n i : Nat} (h : sbE (sbv l i) = 0) (h2 : (sbv l i).nu ≤ lastS l i) : tuE l (n + 1) i = 9 := by rw [tuE, if_neg (by simpa using h), if_pos h2]
theorem tuE_go {l : List Sb} {n i : Nat} (h : sbE (sbv l i) = 0) (h2 : ¬ (sbv l i).nu ≤ lastS l i) : tuE l (n + 1) i = tuE l n (i + 1) := by rw [tuE, if_neg (by simpa using h), if_neg h2]
def tabE (l : List Sb) : Int := if 16 < l.length then 5 else tuE l l.length 0
theorem tabE_many {l : List Sb} (h : 16 < l.length) : tabE l = 5 := by unfold tabE; rw [if_pos h]
theorem tabE_few {l : List Sb} (h : ¬ 16 < l.length) : tabE l = tuE l l.length 0 := by unfold tabE; rw [if_neg h]
def fuE (l : List Fdr) : Nat → Nat → Int
  | 0, _ => 0
  | n + 1, i => if (fdv l i).su < 1 ∨ 1048576 < (fdv l i).su then 2 else if fgE (fdv l i) ≠ 0 then fgE (fdv l i) else if (fdv l i).stp < 0 ∨ 10000000 < (fdv l i).stp then 2 else if (fdv l i).su ≤ lastF l i then 9 else fuE l n (i + 1)
theorem fuE_su {l : List Fdr} {n i : Nat} (h : (fdv l i).su < 1 ∨ 1048576 < (fdv l i).su) : fuE l (n + 1) i = 2 := by rw [fuE, if_pos h]
theorem fuE_gl {l : List Fdr} {n i : Nat} (h : ¬ ((fdv l i).su < 1 ∨ 1048576 < (fdv l i).su)) (h2 : ¬ fgE (fdv l i) = 0) : fuE l (n + 1) i = fgE (fdv l i) := by rw [fuE, if_neg h, if_pos h2]
theorem fuE_stp {l : List Fdr} {n i : Nat} (h : ¬ ((fdv l i).su < 1 ∨ 1048576 < (fdv l i).su)) (h2 : fgE (fdv l i) = 0) (h3 : (fdv l i).stp < 0 ∨ 10000000 < (fdv l i).stp) : fuE l (n + 1) i = 2 := by rw [fuE, if_neg h, if_neg (by simpa using h2), if_pos h3]
theorem fuE_ord {l : List Fdr} {n i : Nat} (h : ¬ ((fdv l i).su < 1 ∨ 1048576 < (fdv l i).su)) (h2 : fgE (fdv l i) = 0) (h3 : ¬ ((fdv l i).stp < 0 ∨ 10000000 < (fdv l i).stp)) (h4 : (fdv l i).su ≤ lastF l i) : fuE l (n + 1) i = 9 := by rw [fuE, if_neg h, if_neg (by simpa using h2), if_neg h3, if_pos h4]
theorem fuE_go {l : List Fdr} {n i : Nat} (h : ¬ ((fdv l i).su < 1 ∨ 1048576 < (fdv l i).su)) (h2 : fgE (fdv l i) = 0) (h3 : ¬ ((fdv l i).stp < 0 ∨ 10000000 < (fdv l i).stp)) (h4 : ¬ (fdv l i).su ≤ lastF l i) : fuE l (n + 1) i = fuE l n (i + 1) := by rw [fuE, if_neg h, if_neg (by simpa using h2), if_neg h3, if_neg h4]
def facE (l : List Fdr) : Int := if 16 < l.length then 5 else fuE l l.length 0
theorem facE_many {l : List Fdr} (h : 16 < l.length) : facE l = 5 := by unfold facE; rw [if_pos h]
theorem facE_few {l : List Fdr} (h : ¬ 16 < l.length) : facE l = fuE l l.length 0 := by unfold facE; rw [if_neg h]
end Lum

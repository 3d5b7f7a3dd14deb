/-
  Lists of cues: the reference: labels, moves, parts.
-/
import Derived.Test.YtikogofioggmlaaGreatDoorLc5
import Derived.Test.YtikogofioggmlaaGreatDoorYaC
import Derived.Deep.RegionHeld3
import Derived.Deep.Cut
import Derived.BigRegion
set_option linter.unusedVariables false
set_option linter.unusedSimpArgs false
namespace Lum
open Go Go.RowKit Go.Shelf
open Go.Lib (decDigits itoa)
/-- Some number, of which something is said if it is nought. -/
def NumP (C : Prop) (w : World) (e : Ending) (w' : World) : Prop := ∃ n : Int, e = .returned (.int .i64 n) ∧ (n = 0 → C) ∧ Below w.heap.size w w'
def NumS (C : Prop) (w : World) (e : Ending) (w' : World) : Prop := ∃ n : Int, e = .returned (.int .i64 n) ∧ (n = 0 → C) ∧ w = w'
def BoolP (C : Prop) (w : World) (e : Ending) (w' : World) : Prop := ∃ b : Bool, e = .returned (.bool b) ∧ (b = true → C) ∧ Below w.heap.size w w'
def MvP (l : List Mv) (k : Nat) : Prop := ∀ j (hj : j < l.length), j < k → paE (l[j]'hj).ch (l[j]'hj).at_ = 0 ∧ valE (l[j]'hj).pa (l[j]'hj).lv = 0 ∧ (1 ≤ (l[j]'hj).pt ∧ (l[j]'hj).pt ≤ 4) ∧ ∀ (h0 : 0 < j), ltP (l[j - 1]'(by omega)).ky (l[j]'hj).ky = true
theorem MvP.start (l : List Mv) : MvP l 0 := fun j _ h => absurd h (Nat.not_lt_zero _)
theorem MvP.next {l : List Mv} {k : Nat} (h : MvP l k) (hk : k < l.length) (h1 : paE (l[k]'hk).ch (l[k]'hk).at_ = 0) (h2 : valE (l[k]'hk).pa (l[k]'hk).lv = 0) (h3 : 1 ≤ (l[k]'hk).pt ∧ (l[k]'hk).pt ≤ 4) (h4 : ∀ (h0 : 0 < k), ltP (l[k - 1]'(by omega)).ky (l[k]'hk).ky = true) : MvP l (k + 1) := by
  intro j hj hjk
  by_cases e : j = k
  · subst e; exact ⟨h1, h2, h3, h4⟩
  · exact h j hj (by omega)
theorem ascK_of_next {α : Type} {key : α → Int × Int} : ∀ {l : List α}, (∀ i (h : i + 1 < l.length), ltP (key (l[i]'(Nat.lt_of_succ_lt h))) (key (l[i + 1]'h)) = true) → AscK key l
  | [], _ => List.Pairwise.nil
  | [a], _ => List.pairwise_singleton _ _
  | a :: b :: r, h => by
    have ih : AscK key (b :: r) := ascK_of_next fun i hi => h (i + 1) (by simpa using hi)
    refine List.Pairwise.cons (fun x hx => ?_) ih
    have h0 : ltP (key a) (key b) = true := h 0 (by simp)
    rcases List.mem_cons.1 hx with rfl | hx
    · exact h0
    · exact ltP_trans h0 ((List.pairwise_cons.1 ih).1 x hx)
theorem MvP.done {l : List Mv} (h : MvP l l.length) (hl : l.length ≤ 128) : MvsR l := by
  refine ⟨hl, fun m hm => ?_, fun m hm => ?_, fun m hm => ?_, ascK_of_next fun i hi => ?_⟩
  · obtain ⟨j, hj, rfl⟩ := List.getElem_of_mem hm; exact (h j hj hj).1
  · obtain ⟨j, hj, rfl⟩ := List.getElem_of_mem hm; exact (h j hj hj).2.1
  · obtain ⟨j, hj, rfl⟩ := List.getElem_of_mem hm; exact (h j hj hj).2.2.1
  · exact (h (i + 1) hi hi).2.2.2 (by omega)
def MvI (l : List Mv) (w : World) (s : Value) (wr : World) : Prop := ∃ k : Nat, s = .int .i64 (k : Int) ∧ k ≤ l.length ∧ Hid (MvP l k) ∧ Hid (Below w.heap.size w wr)
def TmP (l : List Tm) (k : Nat) : Prop := ∀ j (hj : j < l.length), j < k → TmR (l[j]'hj)
theorem TmP.start (l : List Tm) : TmP l 0 := fun j _ h => absurd h (Nat.not_lt_zero _)
theorem TmP.next {l : List Tm} {k : Nat} (h : TmP l k) (hk : k < l.length) (h1 : TmR (l[k]'hk)) : TmP l (k + 1) := by
  intro j hj hjk
  by_cases e : j = k
  · subst e; exact h1
  · exact h j hj (by omega)
theorem TmP.done {l : List Tm} (h : TmP l l.length) (h0 : 0 < l.length) (hl : l.length ≤ 4) : PtsR l := ⟨h0, hl, fun t ht => by obtain ⟨j, hj, rfl⟩ := List.getElem_of_mem ht; exact h j hj hj⟩
def TmI (l : List Tm) (w : World) (s : Value) (wr : World) : Prop := ∃ k : Nat, s = .int .i64 (k : Int) ∧ k ≤ l.length ∧ Hid (TmP l k) ∧ Hid (Below w.heap.size w wr)
instance (t : Int) : Decidable (timR t) := inferInstanceAs (Decidable (0 ≤ t ∧ t ≤ 10000000))
end Lum
namespace Go.Proofs.YtikogofioggmlaaGreatDoor
open Go.RowKit Go.Shelf Lum
open Go.Lib (decDigits itoa)
attribute [local go_sem] bs_get bs_extract_end bs_extract_from bs_extract bs_append

set_option maxRecDepth 100000 in
set_option maxHeartbeats 2000000 in
theorem r15_before (x y z u : Int) (w : World) :
    Calls Tryz.prog 47 #[.agg #[.int .i64 x, .int .i64 y], .agg #[.int .i64 z, .int .i64 u]] w fun e w' => e = .returned (.bool (ltP (x, y) (z, u))) ∧ Below w.heap.size w w' := by
  have hal := ((Below.refl w.heap.size w).alloc (Nat.le_refl _) (.cells #[.int .i64 x, .int .i64 y] 39)).alloc (by simp) (.cells #[.int .i64 z, .int .i64 u] 39)
  have HB := Lib.hid hal; clear hal
  have HX := Lib.hid ((Blk.new w 39 #[.int .i64 x, .int .i64 y]).alloc (.cells #[.int .i64 z, .int .i64 u] 39))
  have hA := Blk.new (w.alloc (.cells #[.int .i64 x, .int .i64 y] 39)) 39 #[.int .i64 z, .int .i64 u]
  rw [World.size_alloc] at hA
  have HZ := Lib.hid hA; clear hA
  go_enter Tryz.func47, Tryz.ntmps47
  go_upto_region 1 with fail
  obtain ⟨W2, hW2⟩ : ∃ X, X = (w.alloc (.cells #[.int .i64 x, .int .i64 y] 39)).alloc (.cells #[.int .i64 z, .int .i64 u] 39) := ⟨_, rfl⟩
  rw [← hW2] at HB HX HZ ⊢
  clear hW2
  obtain ⟨p0, p1, pf0, pf1⟩ := HX.out.c2
  obtain ⟨q0, q1, qf0, qf1⟩ := HZ.out.c2
  by_cases h1 : x < z
  · have HE : Hid (ltP (x, y) (z, u) = true) := Lib.hid (by rw [ltP_iff]; omega)
    try clear h2
    go_wp2_with fail
    go_ret
    exact ⟨by first | (rw [HE.out]; done) | (rw [HE.out]; rfl), HB.out⟩
  · by_cases h2 : x = z
    · have heq : ((x : Int) == z) = true := by rw [beq_iff_eq]; exact h2
      by_cases h3 : y < u
      · have HE : Hid (ltP (x, y) (z, u) = true) := Lib.hid (by rw [ltP_iff]; omega)
        try clear h2
        go_wp2_with fail
        go_ret
        exact ⟨by first | (rw [HE.out]; done) | (rw [HE.out]; rfl), HB.out⟩
      · have HE : Hid (ltP (x, y) (z, u) = false) := Lib.hid (by rw [ltP_false]; omega)
        try clear h2
        go_wp2_with fail
        go_ret
        exact ⟨by first | (rw [HE.out]; done) | (rw [HE.out]; rfl), HB.out⟩
    · have heq : ((x : Int) == z) = false := by rw [beq_eq_false_iff_ne]; exact h2
      have HE : Hid (ltP (x, y) (z, u) = false) := Lib.hid (by rw [ltP_false]; omega)
      try clear h2
      go_wp2_with fail
      go_ret
      exact ⟨by first | (rw [HE.out]; done) | (rw [HE.out]; rfl), HB.out⟩

set_option maxRecDepth 100000 in
set_option maxHeartbeats 4000000 in
theorem r16_label (l : Txt) (w : World) (hl : l.length ≤ 1000000) :
    Calls Tryz.prog 30 #[.string ⟨l.toArray⟩] w (NumS (LabR l) w) := by
  by_cases h24 : (24 : Int) < (l.length : Int)
  · go_enter Tryz.func30, Tryz.ntmps30
    go_wp2
    go_ret
    exact ⟨13, rfl, (fun h => absurd h (by decide)), rfl⟩
  · go_enter Tryz.func30, Tryz.ntmps30
    go_wp2
    go_loop [3] (fun i => ∃ k : Nat, k ≤ l.length ∧ i = .int .i64 k ∧ Hid (∀ c ∈ l.take k, 32 ≤ c.toNat ∧ c.toNat ≤ 126 ∧ c ≠ 34)) (fun i => l.length - (intOf i).toNat)
    case atStart => exact ⟨0, Nat.zero_le _, rfl, Lib.hid (by simp)⟩
    case round =>
      obtain ⟨k, hk, rfl, HA⟩ := hrel
      by_cases hlt : k < l.length
      · by_cases g1 : (l[k].toNat : Int) < 32
        · go_wp2
          all_goals go_ret
          all_goals exact ⟨3, rfl, (fun h => absurd h (by decide)), rfl⟩
        · by_cases g2 : (126 : Int) < (l[k].toNat : Int)
          · go_wp2
            all_goals go_ret
            all_goals exact ⟨3, rfl, (fun h => absurd h (by decide)), rfl⟩
          · by_cases g3 : (l[k].toNat : Int) = 34
            · have g4 : ((l[k].toNat : Int) == 34) = true := by simpa using g3
              go_wp2
              all_goals go_ret
              all_goals exact ⟨3, rfl, (fun h => absurd h (by decide)), rfl⟩
            · have g4 : ((l[k].toNat : Int) == 34) = false := by simpa using g3
              have HK : Hid (32 ≤ l[k].toNat ∧ l[k].toNat ≤ 126 ∧ l[k] ≠ 34) := Lib.hid ⟨by omega, by omega, fun e => g3 (by rw [e]; rfl)⟩
              clear g3
              go_wp2
              go_round
              case rel => exact ⟨k + 1, by omega, by go_num, Lib.hid (fun c hc => by rw [List.take_succ_eq_append_getElem hlt] at hc; rcases List.mem_append.1 hc with h | h; exact HA.out c h; (rw [List.mem_singleton] at h; subst h; exact HK.out))⟩
              case measure => simp [intOf]; omega
      · have HL : Hid (LabR l) := Lib.hid ⟨by omega, fun c hc => HA.out c (by rw [List.take_of_length_le (by omega)]; exact hc)⟩
        go_wp2
        go_ret
        exact ⟨0, rfl, fun _ => HL.out, rfl⟩

set_option maxRecDepth 100000 in
set_option maxHeartbeats 4000000 in
theorem r16_moves (l : List Mv) (p : Option Addr) (c : Nat) (w : World) (hR : RowX encMv 5 w p l) :
    Calls Tryz.prog 31 #[.slice p l.length c] w (NumP (MvsR l) w) := by
  have hv2 := Lib.hid hR; clear hR
  have HB := Lib.hid (Below.refl w.heap.size w)
  by_cases hm : 128 < l.length
  · have hm2 : (128 : Int) < (l.length : Int) := by omega
    go_enter Tryz.func31, Tryz.ntmps31
    go_wp2_with fail
    go_ret
    exact ⟨5, rfl, (fun h => absurd h (by decide)), HB.out⟩
  · have hm2 : ¬ (128 : Int) < (l.length : Int) := by omega
    go_enter Tryz.func31, Tryz.ntmps31
    go_wp2_with fail
    go_loopw [3] (fun s wr => MvI l w s wr) (fun s _ => l.length - (intOf s).toNat)
    case atStart => exact ⟨0, rfl, Nat.zero_le _, Lib.hid (MvP.start l), HB⟩
    case round =>
      obtain ⟨k, rfl, hk9, HP, HB2⟩ := hrel
      clear HB
      have HB := HB2; clear HB2
      by_cases hkl : k < l.length
      · have hlt : (k : Int) < (l.length : Int) := by omega
        have hk0 : (0 : Int) ≤ (k : Int) := by omega
        have hlo : k * 5 < 9223372036854775807 := by omega
        have hun : IntKind.i64.wrap ((k : Int) + 1) = (k : Int) + 1 := IntWalk.i64_in _ (by omega)
        obtain ⟨b, o, rfl, hb, hC⟩ := hv2.out (fun h => by subst h; exact absurd hkl (Nat.not_lt_zero _))
        obtain ⟨x, hx⟩ : ∃ x, x = l[k]'hkl := ⟨_, rfl⟩
        have hcell := hC k hkl
        rw [← hx] at hcell
        have HCX := Lib.hid hcell; have HBb := Lib.hid hb; have HX := Lib.hid hx
        clear hx
        have x0 : wr.cell? ⟨b, o + k * 5, none⟩ = some (.int .i64 (x.ch)) := (HB.out.cell (p := ⟨b, o + k * 5 + 0, none⟩) hb).trans (hcell 0 _ rfl)
        have x1 : wr.cell? ⟨b, o + k * 5 + 1, none⟩ = some (.int .i64 (x.at_)) := (HB.out.cell (p := ⟨b, o + k * 5 + 1, none⟩) hb).trans (hcell 1 _ rfl)
        have x2 : wr.cell? ⟨b, o + k * 5 + 2, none⟩ = some (.int .i64 (x.pa)) := (HB.out.cell (p := ⟨b, o + k * 5 + 2, none⟩) hb).trans (hcell 2 _ rfl)
        have x3 : wr.cell? ⟨b, o + k * 5 + 3, none⟩ = some (.int .i64 (x.lv)) := (HB.out.cell (p := ⟨b, o + k * 5 + 3, none⟩) hb).trans (hcell 3 _ rfl)
        have x4 : wr.cell? ⟨b, o + k * 5 + 4, none⟩ = some (.int .i64 (x.pt)) := (HB.out.cell (p := ⟨b, o + k * 5 + 4, none⟩) hb).trans (hcell 4 _ rfl)
        have xr : b < wr.heap.size := Nat.lt_of_lt_of_le hb HB.out.size
        clear hcell hb
        have hpa := fun W => r15_par x.ch x.at_ W
        have hva := fun W => r15_val x.pa x.lv W
        by_cases z1 : paE x.ch x.at_ = 0
        · by_cases z2 : valE x.pa x.lv = 0
          · by_cases z3 : x.pt < 1
            · rw [z1] at hpa
              rw [z2] at hva
              clear z1 z2 hC
              have HPA := Lib.hid hpa; clear hpa
              have HVA := Lib.hid hva; clear hva
              go_wp2_with (first | (with_reducible refine ((HPA.out _).mono ?_); rintro e w' ⟨rfl, hb⟩; replace HB := Lib.hid (bch' HB.out hb); clear hb; clear x0 x1 x2 x3 x4 xr; have x0 : w'.cell? ⟨b, o + k * 5, none⟩ = some (.int .i64 (x.ch)) := (HB.out.cell (p := ⟨b, o + k * 5 + 0, none⟩) HBb.out).trans (HCX.out 0 _ rfl); have x1 : w'.cell? ⟨b, o + k * 5 + 1, none⟩ = some (.int .i64 (x.at_)) := (HB.out.cell (p := ⟨b, o + k * 5 + 1, none⟩) HBb.out).trans (HCX.out 1 _ rfl); have x2 : w'.cell? ⟨b, o + k * 5 + 2, none⟩ = some (.int .i64 (x.pa)) := (HB.out.cell (p := ⟨b, o + k * 5 + 2, none⟩) HBb.out).trans (HCX.out 2 _ rfl); have x3 : w'.cell? ⟨b, o + k * 5 + 3, none⟩ = some (.int .i64 (x.lv)) := (HB.out.cell (p := ⟨b, o + k * 5 + 3, none⟩) HBb.out).trans (HCX.out 3 _ rfl); have x4 : w'.cell? ⟨b, o + k * 5 + 4, none⟩ = some (.int .i64 (x.pt)) := (HB.out.cell (p := ⟨b, o + k * 5 + 4, none⟩) HBb.out).trans (HCX.out 4 _ rfl); have xr : b < w'.heap.size := Nat.lt_of_lt_of_le HBb.out HB.out.size) | (with_reducible refine ((HVA.out _).mono ?_); rintro e w' ⟨rfl, hb⟩; replace HB := Lib.hid (bch' HB.out hb); clear hb; clear x0 x1 x2 x3 x4 xr; have x0 : w'.cell? ⟨b, o + k * 5, none⟩ = some (.int .i64 (x.ch)) := (HB.out.cell (p := ⟨b, o + k * 5 + 0, none⟩) HBb.out).trans (HCX.out 0 _ rfl); have x1 : w'.cell? ⟨b, o + k * 5 + 1, none⟩ = some (.int .i64 (x.at_)) := (HB.out.cell (p := ⟨b, o + k * 5 + 1, none⟩) HBb.out).trans (HCX.out 1 _ rfl); have x2 : w'.cell? ⟨b, o + k * 5 + 2, none⟩ = some (.int .i64 (x.pa)) := (HB.out.cell (p := ⟨b, o + k * 5 + 2, none⟩) HBb.out).trans (HCX.out 2 _ rfl); have x3 : w'.cell? ⟨b, o + k * 5 + 3, none⟩ = some (.int .i64 (x.lv)) := (HB.out.cell (p := ⟨b, o + k * 5 + 3, none⟩) HBb.out).trans (HCX.out 3 _ rfl); have x4 : w'.cell? ⟨b, o + k * 5 + 4, none⟩ = some (.int .i64 (x.pt)) := (HB.out.cell (p := ⟨b, o + k * 5 + 4, none⟩) HBb.out).trans (HCX.out 4 _ rfl); have xr : b < w'.heap.size := Nat.lt_of_lt_of_le HBb.out HB.out.size))
              go_ret
              exact ⟨2, rfl, (fun h => absurd h (by decide)), HB.out⟩
            · by_cases z4 : 4 < x.pt
              · rw [z1] at hpa
                rw [z2] at hva
                clear z1 z2 hC
                have HPA := Lib.hid hpa; clear hpa
                have HVA := Lib.hid hva; clear hva
                go_wp2_with (first | (with_reducible refine ((HPA.out _).mono ?_); rintro e w' ⟨rfl, hb⟩; replace HB := Lib.hid (bch' HB.out hb); clear hb; clear x0 x1 x2 x3 x4 xr; have x0 : w'.cell? ⟨b, o + k * 5, none⟩ = some (.int .i64 (x.ch)) := (HB.out.cell (p := ⟨b, o + k * 5 + 0, none⟩) HBb.out).trans (HCX.out 0 _ rfl); have x1 : w'.cell? ⟨b, o + k * 5 + 1, none⟩ = some (.int .i64 (x.at_)) := (HB.out.cell (p := ⟨b, o + k * 5 + 1, none⟩) HBb.out).trans (HCX.out 1 _ rfl); have x2 : w'.cell? ⟨b, o + k * 5 + 2, none⟩ = some (.int .i64 (x.pa)) := (HB.out.cell (p := ⟨b, o + k * 5 + 2, none⟩) HBb.out).trans (HCX.out 2 _ rfl); have x3 : w'.cell? ⟨b, o + k * 5 + 3, none⟩ = some (.int .i64 (x.lv)) := (HB.out.cell (p := ⟨b, o + k * 5 + 3, none⟩) HBb.out).trans (HCX.out 3 _ rfl); have x4 : w'.cell? ⟨b, o + k * 5 + 4, none⟩ = some (.int .i64 (x.pt)) := (HB.out.cell (p := ⟨b, o + k * 5 + 4, none⟩) HBb.out).trans (HCX.out 4 _ rfl); have xr : b < w'.heap.size := Nat.lt_of_lt_of_le HBb.out HB.out.size) | (with_reducible refine ((HVA.out _).mono ?_); rintro e w' ⟨rfl, hb⟩; replace HB := Lib.hid (bch' HB.out hb); clear hb; clear x0 x1 x2 x3 x4 xr; have x0 : w'.cell? ⟨b, o + k * 5, none⟩ = some (.int .i64 (x.ch)) := (HB.out.cell (p := ⟨b, o + k * 5 + 0, none⟩) HBb.out).trans (HCX.out 0 _ rfl); have x1 : w'.cell? ⟨b, o + k * 5 + 1, none⟩ = some (.int .i64 (x.at_)) := (HB.out.cell (p := ⟨b, o + k * 5 + 1, none⟩) HBb.out).trans (HCX.out 1 _ rfl); have x2 : w'.cell? ⟨b, o + k * 5 + 2, none⟩ = some (.int .i64 (x.pa)) := (HB.out.cell (p := ⟨b, o + k * 5 + 2, none⟩) HBb.out).trans (HCX.out 2 _ rfl); have x3 : w'.cell? ⟨b, o + k * 5 + 3, none⟩ = some (.int .i64 (x.lv)) := (HB.out.cell (p := ⟨b, o + k * 5 + 3, none⟩) HBb.out).trans (HCX.out 3 _ rfl); have x4 : w'.cell? ⟨b, o + k * 5 + 4, none⟩ = some (.int .i64 (x.pt)) := (HB.out.cell (p := ⟨b, o + k * 5 + 4, none⟩) HBb.out).trans (HCX.out 4 _ rfl); have xr : b < w'.heap.size := Nat.lt_of_lt_of_le HBb.out HB.out.size))
                go_ret
                exact ⟨2, rfl, (fun h => absurd h (by decide)), HB.out⟩
              · have HZ1 : Hid (paE (l[k]'hkl).ch (l[k]'hkl).at_ = 0) := Lib.hid (by rw [← HX.out]; exact z1)
                have HZ2 : Hid (valE (l[k]'hkl).pa (l[k]'hkl).lv = 0) := Lib.hid (by rw [← HX.out]; exact z2)
                have HZ3 : Hid (1 ≤ (l[k]'hkl).pt ∧ (l[k]'hkl).pt ≤ 4) := Lib.hid (by rw [← HX.out]; omega)
                rw [z1] at hpa
                rw [z2] at hva
                by_cases k0 : k = 0
                · have hgi : ¬ (0 : Int) < (k : Int) := by omega
                  have hd : decide (0 < k) = false := decide_eq_false (by omega)
                  have HK0 := Lib.hid k0
                  clear hC z1 z2 k0
                  have HPA := Lib.hid hpa; clear hpa
                  have HVA := Lib.hid hva; clear hva
                  go_upto_region 14 with (first | (with_reducible refine ((HPA.out _).mono ?_); rintro e w' ⟨rfl, hb⟩; replace HB := Lib.hid (bch' HB.out hb); clear hb; clear x0 x1 x2 x3 x4 xr; have x0 : w'.cell? ⟨b, o + k * 5, none⟩ = some (.int .i64 (x.ch)) := (HB.out.cell (p := ⟨b, o + k * 5 + 0, none⟩) HBb.out).trans (HCX.out 0 _ rfl); have x1 : w'.cell? ⟨b, o + k * 5 + 1, none⟩ = some (.int .i64 (x.at_)) := (HB.out.cell (p := ⟨b, o + k * 5 + 1, none⟩) HBb.out).trans (HCX.out 1 _ rfl); have x2 : w'.cell? ⟨b, o + k * 5 + 2, none⟩ = some (.int .i64 (x.pa)) := (HB.out.cell (p := ⟨b, o + k * 5 + 2, none⟩) HBb.out).trans (HCX.out 2 _ rfl); have x3 : w'.cell? ⟨b, o + k * 5 + 3, none⟩ = some (.int .i64 (x.lv)) := (HB.out.cell (p := ⟨b, o + k * 5 + 3, none⟩) HBb.out).trans (HCX.out 3 _ rfl); have x4 : w'.cell? ⟨b, o + k * 5 + 4, none⟩ = some (.int .i64 (x.pt)) := (HB.out.cell (p := ⟨b, o + k * 5 + 4, none⟩) HBb.out).trans (HCX.out 4 _ rfl); have xr : b < w'.heap.size := Nat.lt_of_lt_of_le HBb.out HB.out.size) | (with_reducible refine ((HVA.out _).mono ?_); rintro e w' ⟨rfl, hb⟩; replace HB := Lib.hid (bch' HB.out hb); clear hb; clear x0 x1 x2 x3 x4 xr; have x0 : w'.cell? ⟨b, o + k * 5, none⟩ = some (.int .i64 (x.ch)) := (HB.out.cell (p := ⟨b, o + k * 5 + 0, none⟩) HBb.out).trans (HCX.out 0 _ rfl); have x1 : w'.cell? ⟨b, o + k * 5 + 1, none⟩ = some (.int .i64 (x.at_)) := (HB.out.cell (p := ⟨b, o + k * 5 + 1, none⟩) HBb.out).trans (HCX.out 1 _ rfl); have x2 : w'.cell? ⟨b, o + k * 5 + 2, none⟩ = some (.int .i64 (x.pa)) := (HB.out.cell (p := ⟨b, o + k * 5 + 2, none⟩) HBb.out).trans (HCX.out 2 _ rfl); have x3 : w'.cell? ⟨b, o + k * 5 + 3, none⟩ = some (.int .i64 (x.lv)) := (HB.out.cell (p := ⟨b, o + k * 5 + 3, none⟩) HBb.out).trans (HCX.out 3 _ rfl); have x4 : w'.cell? ⟨b, o + k * 5 + 4, none⟩ = some (.int .i64 (x.pt)) := (HB.out.cell (p := ⟨b, o + k * 5 + 4, none⟩) HBb.out).trans (HCX.out 4 _ rfl); have xr : b < w'.heap.size := Nat.lt_of_lt_of_le HBb.out HB.out.size))
                  clear x0 x1 x2 x3 x4 xr
                  refine wp_region_WQ (by kernel_rfl) (by kernel_rfl) ?_
                  repeat (refine WQ.step (fun K hK => ?_); go_simp; first | (refine hK.out _ ?_; clear hK K) | (apply Exists.intro; refine ⟨fun _ => ?_, hK.out _ ?_⟩; (first | rfl); clear hK K))
                  refine WQ.nil ?_
                  intro _ hw'
                  obtain ⟨⟨wq, hbq⟩, hw2⟩ := hw'
                  subst hw2
                  replace HB := Lib.hid (bch' HB.out hbq)
                  go_wp2_with fail
                  go_roundw
                  case rel => exact ⟨k + 1, by first | rfl | simp, by omega, Lib.hid (HP.out.next hkl HZ1.out HZ2.out HZ3.out (fun h => absurd h (by have := HK0.out; omega))), HB⟩
                  case measure => first | (simp [intOf]; done) | (simp [intOf]; omega)
                · have hi1 : k - 1 < l.length := by omega
                  have hgi : (0 : Int) < (k : Int) := by omega
                  have hd : decide (0 < k) = true := decide_eq_true (by omega)
                  have hm1 : IntKind.i64.wrap ((k : Int) - 1) = ((k - 1 : Nat) : Int) := by rw [IntWalk.i64_in _ (by omega)]; omega
                  have hlo1 : (k - 1) * 5 < 9223372036854775807 := by omega
                  obtain ⟨y, hy⟩ : ∃ y, y = l[k - 1]'hi1 := ⟨_, rfl⟩
                  have hcy := hC (k - 1) hi1
                  rw [← hy] at hcy
                  have HCY := Lib.hid hcy; have HY := Lib.hid hy
                  clear hcy hy hC z1 z2
                  have hd0 := fun W => r15_before y.ch y.at_ x.ch x.at_ W
                  by_cases hle : ltP y.ky x.ky = true
                  · rw [show ltP (y.ch, y.at_) (x.ch, x.at_) = true from hle] at hd0
                    have HLE : Hid (ltP (l[k - 1]'hi1).ky (l[k]'hkl).ky = true) := Lib.hid (by rw [← HX.out, ← HY.out]; exact hle)
                    clear hle
                    have HD := Lib.hid hd0; clear hd0
                    have HPA := Lib.hid hpa; clear hpa
                    have HVA := Lib.hid hva; clear hva
                    go_upto_region 14 with (first | (with_reducible refine ((HPA.out _).mono ?_); rintro e w' ⟨rfl, hb⟩; replace HB := Lib.hid (bch' HB.out hb); clear hb; clear x0 x1 x2 x3 x4 xr; have x0 : w'.cell? ⟨b, o + k * 5, none⟩ = some (.int .i64 (x.ch)) := (HB.out.cell (p := ⟨b, o + k * 5 + 0, none⟩) HBb.out).trans (HCX.out 0 _ rfl); have x1 : w'.cell? ⟨b, o + k * 5 + 1, none⟩ = some (.int .i64 (x.at_)) := (HB.out.cell (p := ⟨b, o + k * 5 + 1, none⟩) HBb.out).trans (HCX.out 1 _ rfl); have x2 : w'.cell? ⟨b, o + k * 5 + 2, none⟩ = some (.int .i64 (x.pa)) := (HB.out.cell (p := ⟨b, o + k * 5 + 2, none⟩) HBb.out).trans (HCX.out 2 _ rfl); have x3 : w'.cell? ⟨b, o + k * 5 + 3, none⟩ = some (.int .i64 (x.lv)) := (HB.out.cell (p := ⟨b, o + k * 5 + 3, none⟩) HBb.out).trans (HCX.out 3 _ rfl); have x4 : w'.cell? ⟨b, o + k * 5 + 4, none⟩ = some (.int .i64 (x.pt)) := (HB.out.cell (p := ⟨b, o + k * 5 + 4, none⟩) HBb.out).trans (HCX.out 4 _ rfl); have xr : b < w'.heap.size := Nat.lt_of_lt_of_le HBb.out HB.out.size) | (with_reducible refine ((HVA.out _).mono ?_); rintro e w' ⟨rfl, hb⟩; replace HB := Lib.hid (bch' HB.out hb); clear hb; clear x0 x1 x2 x3 x4 xr; have x0 : w'.cell? ⟨b, o + k * 5, none⟩ = some (.int .i64 (x.ch)) := (HB.out.cell (p := ⟨b, o + k * 5 + 0, none⟩) HBb.out).trans (HCX.out 0 _ rfl); have x1 : w'.cell? ⟨b, o + k * 5 + 1, none⟩ = some (.int .i64 (x.at_)) := (HB.out.cell (p := ⟨b, o + k * 5 + 1, none⟩) HBb.out).trans (HCX.out 1 _ rfl); have x2 : w'.cell? ⟨b, o + k * 5 + 2, none⟩ = some (.int .i64 (x.pa)) := (HB.out.cell (p := ⟨b, o + k * 5 + 2, none⟩) HBb.out).trans (HCX.out 2 _ rfl); have x3 : w'.cell? ⟨b, o + k * 5 + 3, none⟩ = some (.int .i64 (x.lv)) := (HB.out.cell (p := ⟨b, o + k * 5 + 3, none⟩) HBb.out).trans (HCX.out 3 _ rfl); have x4 : w'.cell? ⟨b, o + k * 5 + 4, none⟩ = some (.int .i64 (x.pt)) := (HB.out.cell (p := ⟨b, o + k * 5 + 4, none⟩) HBb.out).trans (HCX.out 4 _ rfl); have xr : b < w'.heap.size := Nat.lt_of_lt_of_le HBb.out HB.out.size))
                    clear x0 x1 x2 x3 x4 xr
                    have f0 := fun p : BelowOf _ => ((bch' HB.out p.h).cell (p := ⟨b, o + k * 5, none⟩) HBb.out).trans (HCX.out 0 _ rfl)
                    have f1 := fun p : BelowOf _ => ((bch' HB.out p.h).cell (p := ⟨b, o + k * 5 + 1, none⟩) HBb.out).trans (HCX.out 1 _ rfl)
                    have e0 := fun p : BelowOf _ => ((bch' HB.out p.h).cell (p := ⟨b, o + (k - 1) * 5, none⟩) HBb.out).trans (HCY.out 0 _ rfl)
                    have e1 := fun p : BelowOf _ => ((bch' HB.out p.h).cell (p := ⟨b, o + (k - 1) * 5 + 1, none⟩) HBb.out).trans (HCY.out 1 _ rfl)
                    have zz := fun p : BelowOf _ => Nat.lt_of_lt_of_le HBb.out (bch' HB.out p.h).size
                    refine wp_region_WQ (by kernel_rfl) (by kernel_rfl) ?_
                    repeat (refine WQ.step (fun K hK => ?_); go_simp; first | (refine hK.out _ ?_; clear hK K) | (apply Exists.intro; refine ⟨fun _ => ?_, hK.out _ ?_⟩; (first | rfl | (with_reducible exact calls_below_of _ (HD.out _))); clear hK K))
                    refine WQ.nil ?_
                    intro _ hw'
                    obtain ⟨⟨wq, hbq⟩, hw2⟩ := hw'
                    subst hw2
                    replace HB := Lib.hid (bch' HB.out hbq)
                    clear f0 f1 e0 e1 zz
                    go_wp2_with fail
                    go_roundw
                    case rel => exact ⟨k + 1, by first | rfl | simp, by omega, Lib.hid (HP.out.next hkl HZ1.out HZ2.out HZ3.out (fun _ => HLE.out)), HB⟩
                    case measure => first | (simp [intOf]; done) | (simp [intOf]; omega)
                  · have hle : ltP y.ky x.ky = false := by simpa using hle
                    rw [show ltP (y.ch, y.at_) (x.ch, x.at_) = false from hle] at hd0
                    clear hle
                    have HD := Lib.hid hd0; clear hd0
                    have HPA := Lib.hid hpa; clear hpa
                    have HVA := Lib.hid hva; clear hva
                    go_upto_region 14 with (first | (with_reducible refine ((HPA.out _).mono ?_); rintro e w' ⟨rfl, hb⟩; replace HB := Lib.hid (bch' HB.out hb); clear hb; clear x0 x1 x2 x3 x4 xr; have x0 : w'.cell? ⟨b, o + k * 5, none⟩ = some (.int .i64 (x.ch)) := (HB.out.cell (p := ⟨b, o + k * 5 + 0, none⟩) HBb.out).trans (HCX.out 0 _ rfl); have x1 : w'.cell? ⟨b, o + k * 5 + 1, none⟩ = some (.int .i64 (x.at_)) := (HB.out.cell (p := ⟨b, o + k * 5 + 1, none⟩) HBb.out).trans (HCX.out 1 _ rfl); have x2 : w'.cell? ⟨b, o + k * 5 + 2, none⟩ = some (.int .i64 (x.pa)) := (HB.out.cell (p := ⟨b, o + k * 5 + 2, none⟩) HBb.out).trans (HCX.out 2 _ rfl); have x3 : w'.cell? ⟨b, o + k * 5 + 3, none⟩ = some (.int .i64 (x.lv)) := (HB.out.cell (p := ⟨b, o + k * 5 + 3, none⟩) HBb.out).trans (HCX.out 3 _ rfl); have x4 : w'.cell? ⟨b, o + k * 5 + 4, none⟩ = some (.int .i64 (x.pt)) := (HB.out.cell (p := ⟨b, o + k * 5 + 4, none⟩) HBb.out).trans (HCX.out 4 _ rfl); have xr : b < w'.heap.size := Nat.lt_of_lt_of_le HBb.out HB.out.size) | (with_reducible refine ((HVA.out _).mono ?_); rintro e w' ⟨rfl, hb⟩; replace HB := Lib.hid (bch' HB.out hb); clear hb; clear x0 x1 x2 x3 x4 xr; have x0 : w'.cell? ⟨b, o + k * 5, none⟩ = some (.int .i64 (x.ch)) := (HB.out.cell (p := ⟨b, o + k * 5 + 0, none⟩) HBb.out).trans (HCX.out 0 _ rfl); have x1 : w'.cell? ⟨b, o + k * 5 + 1, none⟩ = some (.int .i64 (x.at_)) := (HB.out.cell (p := ⟨b, o + k * 5 + 1, none⟩) HBb.out).trans (HCX.out 1 _ rfl); have x2 : w'.cell? ⟨b, o + k * 5 + 2, none⟩ = some (.int .i64 (x.pa)) := (HB.out.cell (p := ⟨b, o + k * 5 + 2, none⟩) HBb.out).trans (HCX.out 2 _ rfl); have x3 : w'.cell? ⟨b, o + k * 5 + 3, none⟩ = some (.int .i64 (x.lv)) := (HB.out.cell (p := ⟨b, o + k * 5 + 3, none⟩) HBb.out).trans (HCX.out 3 _ rfl); have x4 : w'.cell? ⟨b, o + k * 5 + 4, none⟩ = some (.int .i64 (x.pt)) := (HB.out.cell (p := ⟨b, o + k * 5 + 4, none⟩) HBb.out).trans (HCX.out 4 _ rfl); have xr : b < w'.heap.size := Nat.lt_of_lt_of_le HBb.out HB.out.size))
                    clear x0 x1 x2 x3 x4 xr
                    have f0 := fun p : BelowOf _ => ((bch' HB.out p.h).cell (p := ⟨b, o + k * 5, none⟩) HBb.out).trans (HCX.out 0 _ rfl)
                    have f1 := fun p : BelowOf _ => ((bch' HB.out p.h).cell (p := ⟨b, o + k * 5 + 1, none⟩) HBb.out).trans (HCX.out 1 _ rfl)
                    have e0 := fun p : BelowOf _ => ((bch' HB.out p.h).cell (p := ⟨b, o + (k - 1) * 5, none⟩) HBb.out).trans (HCY.out 0 _ rfl)
                    have e1 := fun p : BelowOf _ => ((bch' HB.out p.h).cell (p := ⟨b, o + (k - 1) * 5 + 1, none⟩) HBb.out).trans (HCY.out 1 _ rfl)
                    have zz := fun p : BelowOf _ => Nat.lt_of_lt_of_le HBb.out (bch' HB.out p.h).size
                    refine wp_region_WQ (by kernel_rfl) (by kernel_rfl) ?_
                    repeat (refine WQ.step (fun K hK => ?_); go_simp; first | (refine hK.out _ ?_; clear hK K) | (apply Exists.intro; refine ⟨fun _ => ?_, hK.out _ ?_⟩; (first | rfl | (with_reducible exact calls_below_of _ (HD.out _))); clear hK K))
                    refine WQ.nil ?_
                    intro _ hw'
                    obtain ⟨⟨wq, hbq⟩, hw2⟩ := hw'
                    subst hw2
                    replace HB := Lib.hid (bch' HB.out hbq)
                    clear f0 f1 e0 e1 zz
                    go_wp2_with fail
                    go_ret
                    exact ⟨9, rfl, (fun h => absurd h (by decide)), HB.out⟩
          · rw [z1] at hpa
            have hne : ((valE x.pa x.lv : Int) != 0) = true := by simpa using z2
            have HZ := Lib.hid z2
            clear z1 z2 hC
            generalize valE x.pa x.lv = m at *
            have HPA := Lib.hid hpa; clear hpa
            have HVA := Lib.hid hva; clear hva
            go_wp2_with (first | (with_reducible refine ((HPA.out _).mono ?_); rintro e w' ⟨rfl, hb⟩; replace HB := Lib.hid (bch' HB.out hb); clear hb; clear x0 x1 x2 x3 x4 xr; have x0 : w'.cell? ⟨b, o + k * 5, none⟩ = some (.int .i64 (x.ch)) := (HB.out.cell (p := ⟨b, o + k * 5 + 0, none⟩) HBb.out).trans (HCX.out 0 _ rfl); have x1 : w'.cell? ⟨b, o + k * 5 + 1, none⟩ = some (.int .i64 (x.at_)) := (HB.out.cell (p := ⟨b, o + k * 5 + 1, none⟩) HBb.out).trans (HCX.out 1 _ rfl); have x2 : w'.cell? ⟨b, o + k * 5 + 2, none⟩ = some (.int .i64 (x.pa)) := (HB.out.cell (p := ⟨b, o + k * 5 + 2, none⟩) HBb.out).trans (HCX.out 2 _ rfl); have x3 : w'.cell? ⟨b, o + k * 5 + 3, none⟩ = some (.int .i64 (x.lv)) := (HB.out.cell (p := ⟨b, o + k * 5 + 3, none⟩) HBb.out).trans (HCX.out 3 _ rfl); have x4 : w'.cell? ⟨b, o + k * 5 + 4, none⟩ = some (.int .i64 (x.pt)) := (HB.out.cell (p := ⟨b, o + k * 5 + 4, none⟩) HBb.out).trans (HCX.out 4 _ rfl); have xr : b < w'.heap.size := Nat.lt_of_lt_of_le HBb.out HB.out.size) | (with_reducible refine ((HVA.out _).mono ?_); rintro e w' ⟨rfl, hb⟩; replace HB := Lib.hid (bch' HB.out hb); clear hb; clear x0 x1 x2 x3 x4 xr; have x0 : w'.cell? ⟨b, o + k * 5, none⟩ = some (.int .i64 (x.ch)) := (HB.out.cell (p := ⟨b, o + k * 5 + 0, none⟩) HBb.out).trans (HCX.out 0 _ rfl); have x1 : w'.cell? ⟨b, o + k * 5 + 1, none⟩ = some (.int .i64 (x.at_)) := (HB.out.cell (p := ⟨b, o + k * 5 + 1, none⟩) HBb.out).trans (HCX.out 1 _ rfl); have x2 : w'.cell? ⟨b, o + k * 5 + 2, none⟩ = some (.int .i64 (x.pa)) := (HB.out.cell (p := ⟨b, o + k * 5 + 2, none⟩) HBb.out).trans (HCX.out 2 _ rfl); have x3 : w'.cell? ⟨b, o + k * 5 + 3, none⟩ = some (.int .i64 (x.lv)) := (HB.out.cell (p := ⟨b, o + k * 5 + 3, none⟩) HBb.out).trans (HCX.out 3 _ rfl); have x4 : w'.cell? ⟨b, o + k * 5 + 4, none⟩ = some (.int .i64 (x.pt)) := (HB.out.cell (p := ⟨b, o + k * 5 + 4, none⟩) HBb.out).trans (HCX.out 4 _ rfl); have xr : b < w'.heap.size := Nat.lt_of_lt_of_le HBb.out HB.out.size))
            go_ret
            exact ⟨_, rfl, fun h => absurd h HZ.out, HB.out⟩
        · have hne : ((paE x.ch x.at_ : Int) != 0) = true := by simpa using z1
          have HZ := Lib.hid z1
          clear z1 hC
          generalize paE x.ch x.at_ = m at *
          have HPA := Lib.hid hpa; clear hpa
          have HVA := Lib.hid hva; clear hva
          go_wp2_with (first | (with_reducible refine ((HPA.out _).mono ?_); rintro e w' ⟨rfl, hb⟩; replace HB := Lib.hid (bch' HB.out hb); clear hb; clear x0 x1 x2 x3 x4 xr; have x0 : w'.cell? ⟨b, o + k * 5, none⟩ = some (.int .i64 (x.ch)) := (HB.out.cell (p := ⟨b, o + k * 5 + 0, none⟩) HBb.out).trans (HCX.out 0 _ rfl); have x1 : w'.cell? ⟨b, o + k * 5 + 1, none⟩ = some (.int .i64 (x.at_)) := (HB.out.cell (p := ⟨b, o + k * 5 + 1, none⟩) HBb.out).trans (HCX.out 1 _ rfl); have x2 : w'.cell? ⟨b, o + k * 5 + 2, none⟩ = some (.int .i64 (x.pa)) := (HB.out.cell (p := ⟨b, o + k * 5 + 2, none⟩) HBb.out).trans (HCX.out 2 _ rfl); have x3 : w'.cell? ⟨b, o + k * 5 + 3, none⟩ = some (.int .i64 (x.lv)) := (HB.out.cell (p := ⟨b, o + k * 5 + 3, none⟩) HBb.out).trans (HCX.out 3 _ rfl); have x4 : w'.cell? ⟨b, o + k * 5 + 4, none⟩ = some (.int .i64 (x.pt)) := (HB.out.cell (p := ⟨b, o + k * 5 + 4, none⟩) HBb.out).trans (HCX.out 4 _ rfl); have xr : b < w'.heap.size := Nat.lt_of_lt_of_le HBb.out HB.out.size) | (with_reducible refine ((HVA.out _).mono ?_); rintro e w' ⟨rfl, hb⟩; replace HB := Lib.hid (bch' HB.out hb); clear hb; clear x0 x1 x2 x3 x4 xr; have x0 : w'.cell? ⟨b, o + k * 5, none⟩ = some (.int .i64 (x.ch)) := (HB.out.cell (p := ⟨b, o + k * 5 + 0, none⟩) HBb.out).trans (HCX.out 0 _ rfl); have x1 : w'.cell? ⟨b, o + k * 5 + 1, none⟩ = some (.int .i64 (x.at_)) := (HB.out.cell (p := ⟨b, o + k * 5 + 1, none⟩) HBb.out).trans (HCX.out 1 _ rfl); have x2 : w'.cell? ⟨b, o + k * 5 + 2, none⟩ = some (.int .i64 (x.pa)) := (HB.out.cell (p := ⟨b, o + k * 5 + 2, none⟩) HBb.out).trans (HCX.out 2 _ rfl); have x3 : w'.cell? ⟨b, o + k * 5 + 3, none⟩ = some (.int .i64 (x.lv)) := (HB.out.cell (p := ⟨b, o + k * 5 + 3, none⟩) HBb.out).trans (HCX.out 3 _ rfl); have x4 : w'.cell? ⟨b, o + k * 5 + 4, none⟩ = some (.int .i64 (x.pt)) := (HB.out.cell (p := ⟨b, o + k * 5 + 4, none⟩) HBb.out).trans (HCX.out 4 _ rfl); have xr : b < w'.heap.size := Nat.lt_of_lt_of_le HBb.out HB.out.size))
          go_ret
          exact ⟨_, rfl, fun h => absurd h HZ.out, HB.out⟩
      · have hlt : ¬ (k : Int) < (l.length : Int) := by omega
        obtain rfl : k = l.length := by omega
        have HR := Lib.hid (HP.out.done (by omega))
        go_wp2_with fail
        go_ret
        exact ⟨0, rfl, fun _ => HR.out, HB.out⟩

set_option maxRecDepth 100000 in
set_option maxHeartbeats 4000000 in
theorem r16_time (v : Int) (w : World) :
    Calls Tryz.prog 48 #[.int .i64 v] w fun e w' => e = .returned (.bool (decide (timR v))) ∧ w = w' := by
  by_cases h0 : (0 : Int) ≤ v
  · by_cases h1 : v ≤ 10000000
    · rw [show decide (timR v) = true from decide_eq_true ⟨h0, h1⟩]
      go_enter Tryz.func48, Tryz.ntmps48
      go_wp2
      go_ret
      exact ⟨rfl, rfl⟩
    · rw [show decide (timR v) = false from decide_eq_false (fun h => h1 h.2)]
      go_enter Tryz.func48, Tryz.ntmps48
      go_wp2
      go_ret
      exact ⟨rfl, rfl⟩
  · rw [show decide (timR v) = false from decide_eq_false (fun h => h0 h.1)]
    go_enter Tryz.func48, Tryz.ntmps48
    go_wp2
    go_ret
    exact ⟨rfl, rfl⟩

set_option maxRecDepth 100000 in
set_option maxHeartbeats 4000000 in
theorem r16_parts (l : List Tm) (p : Option Addr) (c : Nat) (w : World) (hR : RowX encTm 6 w p l) :
    Calls Tryz.prog 32 #[.slice p l.length c] w (NumP (PtsR l) w) := by
  have hv2 := Lib.hid hR; clear hR
  have HB := Lib.hid (Below.refl w.heap.size w)
  by_cases h0 : l.length = 0
  · have heq : ((l.length : Int) == 0) = true := by rw [beq_iff_eq]; omega
    clear h0
    go_enter Tryz.func32, Tryz.ntmps32
    go_wp2_with fail
    go_ret
    exact ⟨12, rfl, (fun h => absurd h (by decide)), HB.out⟩
  · have heq : ((l.length : Int) == 0) = false := by rw [beq_eq_false_iff_ne]; omega
    by_cases hm : 4 < l.length
    · have hm2 : (4 : Int) < (l.length : Int) := by omega
      go_enter Tryz.func32, Tryz.ntmps32
      go_wp2_with fail
      go_ret
      exact ⟨5, rfl, (fun h => absurd h (by decide)), HB.out⟩
    · have hm2 : ¬ (4 : Int) < (l.length : Int) := by omega
      go_enter Tryz.func32, Tryz.ntmps32
      go_wp2_with fail
      go_loopw [3] (fun s wr => TmI l w s wr) (fun s _ => l.length - (intOf s).toNat)
      case atStart => exact ⟨0, rfl, Nat.zero_le _, Lib.hid (TmP.start l), HB⟩
      case round =>
        obtain ⟨k, rfl, hk9, HP, HB2⟩ := hrel
        clear HB
        have HB := HB2; clear HB2
        by_cases hkl : k < l.length
        · have hlt : (k : Int) < (l.length : Int) := by omega
          have hk0 : (0 : Int) ≤ (k : Int) := by omega
          have hlo : k * 6 < 9223372036854775807 := by omega
          have hun : IntKind.i64.wrap ((k : Int) + 1) = (k : Int) + 1 := IntWalk.i64_in _ (by omega)
          obtain ⟨b, o, rfl, hb, hC⟩ := hv2.out (fun h => by subst h; exact absurd hkl (Nat.not_lt_zero _))
          obtain ⟨x, hx⟩ : ∃ x, x = l[k]'hkl := ⟨_, rfl⟩
          have hcell := hC k hkl
          rw [← hx] at hcell
          have HX := Lib.hid hx
          clear hx hC
          have x0 : wr.cell? ⟨b, o + k * 6, none⟩ = some (.int .i64 (x.up)) := (HB.out.cell (p := ⟨b, o + k * 6 + 0, none⟩) hb).trans (hcell 0 _ rfl)
          have x1 : wr.cell? ⟨b, o + k * 6 + 1, none⟩ = some (.int .i64 (x.dn)) := (HB.out.cell (p := ⟨b, o + k * 6 + 1, none⟩) hb).trans (hcell 1 _ rfl)
          have x2 : wr.cell? ⟨b, o + k * 6 + 2, none⟩ = some (.int .i64 (x.po)) := (HB.out.cell (p := ⟨b, o + k * 6 + 2, none⟩) hb).trans (hcell 2 _ rfl)
          have x3 : wr.cell? ⟨b, o + k * 6 + 3, none⟩ = some (.int .i64 (x.co)) := (HB.out.cell (p := ⟨b, o + k * 6 + 3, none⟩) hb).trans (hcell 3 _ rfl)
          have x4 : wr.cell? ⟨b, o + k * 6 + 4, none⟩ = some (.int .i64 (x.be)) := (HB.out.cell (p := ⟨b, o + k * 6 + 4, none⟩) hb).trans (hcell 4 _ rfl)
          have x5 : wr.cell? ⟨b, o + k * 6 + 5, none⟩ = some (.int .i64 (x.de)) := (HB.out.cell (p := ⟨b, o + k * 6 + 5, none⟩) hb).trans (hcell 5 _ rfl)
          have xr : b < wr.heap.size := Nat.lt_of_lt_of_le hb HB.out.size
          clear hcell hb
          go_upto_region 9 with fail
          clear x0 x1 x2 x3 x4 x5 xr
          have hb := (Below.refl wr.heap.size wr).alloc (Nat.le_refl _) (.cells #[.int .i64 (x.up), .int .i64 (x.dn), .int .i64 (x.po), .int .i64 (x.co), .int .i64 (x.be), .int .i64 (x.de)] 91)
          have HG := Lib.hid (Blk.new wr 91 #[.int .i64 (x.up), .int .i64 (x.dn), .int .i64 (x.po), .int .i64 (x.co), .int .i64 (x.be), .int .i64 (x.de)])
          obtain ⟨n8, hn8⟩ : ∃ n, n = wr.heap.size := ⟨_, rfl⟩
          obtain ⟨Wa, hWWa⟩ : ∃ X, X = wr.alloc (.cells #[.int .i64 (x.up), .int .i64 (x.dn), .int .i64 (x.po), .int .i64 (x.co), .int .i64 (x.be), .int .i64 (x.de)] 91) := ⟨_, rfl⟩
          rw [← hn8] at HG ⊢
          rw [← hWWa] at hb HG ⊢
          replace HB := Lib.hid (bch' HB.out hb); clear hb
          clear hWWa hn8
          obtain ⟨g0, g1, g2, g3, g4, g5, gf0, gf1, gf2, gf3, gf4, gf5⟩ := HG.out.c6
          have hup := fun W => r16_time x.up W
          have hdn := fun W => r16_time x.dn W
          have hpo := fun W => r16_time x.po W
          have hco := fun W => r16_time x.co W
          have hbe := fun W => r16_time x.be W
          have hde := fun W => r16_time x.de W
          by_cases t_up : timR x.up
          · rw [decide_eq_true t_up] at hup
            by_cases t_dn : timR x.dn
            · rw [decide_eq_true t_dn] at hdn
              by_cases t_po : timR x.po
              · rw [decide_eq_true t_po] at hpo
                by_cases t_co : timR x.co
                · rw [decide_eq_true t_co] at hco
                  by_cases t_be : timR x.be
                  · rw [decide_eq_true t_be] at hbe
                    by_cases t_de : timR x.de
                    · rw [decide_eq_true t_de] at hde
                      have HT : Hid (TmR (l[k]'hkl)) := Lib.hid (by rw [← HX.out]; exact ⟨t_up, t_dn, t_po, t_co, t_be, t_de⟩)
                      clear t_up t_dn t_po t_co t_be t_de
                      have HUP := Lib.hid hup; clear hup
                      have HDN := Lib.hid hdn; clear hdn
                      have HPO := Lib.hid hpo; clear hpo
                      have HCO := Lib.hid hco; clear hco
                      have HBE := Lib.hid hbe; clear hbe
                      have HDE := Lib.hid hde; clear hde
                      go_wp2_with (first | (with_reducible refine ((HUP.out _).mono ?_); rintro e w' ⟨rfl, rfl⟩) | (with_reducible refine ((HDN.out _).mono ?_); rintro e w' ⟨rfl, rfl⟩) | (with_reducible refine ((HPO.out _).mono ?_); rintro e w' ⟨rfl, rfl⟩) | (with_reducible refine ((HCO.out _).mono ?_); rintro e w' ⟨rfl, rfl⟩) | (with_reducible refine ((HBE.out _).mono ?_); rintro e w' ⟨rfl, rfl⟩) | (with_reducible refine ((HDE.out _).mono ?_); rintro e w' ⟨rfl, rfl⟩))
                      go_roundw
                      case rel => exact ⟨k + 1, by first | rfl | simp, by omega, Lib.hid (HP.out.next hkl HT.out), HB⟩
                      case measure => first | (simp [intOf]; done) | (simp [intOf]; omega)
                    · rw [decide_eq_false t_de] at hde
                      clear t_up t_dn t_po t_co t_be t_de
                      have HUP := Lib.hid hup; clear hup
                      have HDN := Lib.hid hdn; clear hdn
                      have HPO := Lib.hid hpo; clear hpo
                      have HCO := Lib.hid hco; clear hco
                      have HBE := Lib.hid hbe; clear hbe
                      have HDE := Lib.hid hde; clear hde
                      go_wp2_with (first | (with_reducible refine ((HUP.out _).mono ?_); rintro e w' ⟨rfl, rfl⟩) | (with_reducible refine ((HDN.out _).mono ?_); rintro e w' ⟨rfl, rfl⟩) | (with_reducible refine ((HPO.out _).mono ?_); rintro e w' ⟨rfl, rfl⟩) | (with_reducible refine ((HCO.out _).mono ?_); rintro e w' ⟨rfl, rfl⟩) | (with_reducible refine ((HBE.out _).mono ?_); rintro e w' ⟨rfl, rfl⟩) | (with_reducible refine ((HDE.out _).mono ?_); rintro e w' ⟨rfl, rfl⟩))
                      go_ret
                      exact ⟨2, rfl, (fun h => absurd h (by decide)), HB.out⟩
                  · rw [decide_eq_false t_be] at hbe
                    clear t_up t_dn t_po t_co t_be
                    have HUP := Lib.hid hup; clear hup
                    have HDN := Lib.hid hdn; clear hdn
                    have HPO := Lib.hid hpo; clear hpo
                    have HCO := Lib.hid hco; clear hco
                    have HBE := Lib.hid hbe; clear hbe
                    have HDE := Lib.hid hde; clear hde
                    go_wp2_with (first | (with_reducible refine ((HUP.out _).mono ?_); rintro e w' ⟨rfl, rfl⟩) | (with_reducible refine ((HDN.out _).mono ?_); rintro e w' ⟨rfl, rfl⟩) | (with_reducible refine ((HPO.out _).mono ?_); rintro e w' ⟨rfl, rfl⟩) | (with_reducible refine ((HCO.out _).mono ?_); rintro e w' ⟨rfl, rfl⟩) | (with_reducible refine ((HBE.out _).mono ?_); rintro e w' ⟨rfl, rfl⟩) | (with_reducible refine ((HDE.out _).mono ?_); rintro e w' ⟨rfl, rfl⟩))
                    go_ret
                    exact ⟨2, rfl, (fun h => absurd h (by decide)), HB.out⟩
                · rw [decide_eq_false t_co] at hco
                  clear t_up t_dn t_po t_co
                  have HUP := Lib.hid hup; clear hup
                  have HDN := Lib.hid hdn; clear hdn
                  have HPO := Lib.hid hpo; clear hpo
                  have HCO := Lib.hid hco; clear hco
                  have HBE := Lib.hid hbe; clear hbe
                  have HDE := Lib.hid hde; clear hde
                  go_wp2_with (first | (with_reducible refine ((HUP.out _).mono ?_); rintro e w' ⟨rfl, rfl⟩) | (with_reducible refine ((HDN.out _).mono ?_); rintro e w' ⟨rfl, rfl⟩) | (with_reducible refine ((HPO.out _).mono ?_); rintro e w' ⟨rfl, rfl⟩) | (with_reducible refine ((HCO.out _).mono ?_); rintro e w' ⟨rfl, rfl⟩) | (with_reducible refine ((HBE.out _).mono ?_); rintro e w' ⟨rfl, rfl⟩) | (with_reducible refine ((HDE.out _).mono ?_); rintro e w' ⟨rfl, rfl⟩))
                  go_ret
                  exact ⟨2, rfl, (fun h => absurd h (by decide)), HB.out⟩
              · rw [decide_eq_false t_po] at hpo
                clear t_up t_dn t_po
                have HUP := Lib.hid hup; clear hup
                have HDN := Lib.hid hdn; clear hdn
                have HPO := Lib.hid hpo; clear hpo
                have HCO := Lib.hid hco; clear hco
                have HBE := Lib.hid hbe; clear hbe
                have HDE := Lib.hid hde; clear hde
                go_wp2_with (first | (with_reducible refine ((HUP.out _).mono ?_); rintro e w' ⟨rfl, rfl⟩) | (with_reducible refine ((HDN.out _).mono ?_); rintro e w' ⟨rfl, rfl⟩) | (with_reducible refine ((HPO.out _).mono ?_); rintro e w' ⟨rfl, rfl⟩) | (with_reducible refine ((HCO.out _).mono ?_); rintro e w' ⟨rfl, rfl⟩) | (with_reducible refine ((HBE.out _).mono ?_); rintro e w' ⟨rfl, rfl⟩) | (with_reducible refine ((HDE.out _).mono ?_); rintro e w' ⟨rfl, rfl⟩))
                go_ret
                exact ⟨2, rfl, (fun h => absurd h (by decide)), HB.out⟩
            · rw [decide_eq_false t_dn] at hdn
              clear t_up t_dn
              have HUP := Lib.hid hup; clear hup
              have HDN := Lib.hid hdn; clear hdn
              have HPO := Lib.hid hpo; clear hpo
              have HCO := Lib.hid hco; clear hco
              have HBE := Lib.hid hbe; clear hbe
              have HDE := Lib.hid hde; clear hde
              go_wp2_with (first | (with_reducible refine ((HUP.out _).mono ?_); rintro e w' ⟨rfl, rfl⟩) | (with_reducible refine ((HDN.out _).mono ?_); rintro e w' ⟨rfl, rfl⟩) | (with_reducible refine ((HPO.out _).mono ?_); rintro e w' ⟨rfl, rfl⟩) | (with_reducible refine ((HCO.out _).mono ?_); rintro e w' ⟨rfl, rfl⟩) | (with_reducible refine ((HBE.out _).mono ?_); rintro e w' ⟨rfl, rfl⟩) | (with_reducible refine ((HDE.out _).mono ?_); rintro e w' ⟨rfl, rfl⟩))
              go_ret
              exact ⟨2, rfl, (fun h => absurd h (by decide)), HB.out⟩
          · rw [decide_eq_false t_up] at hup
            clear t_up
            have HUP := Lib.hid hup; clear hup
            have HDN := Lib.hid hdn; clear hdn
            have HPO := Lib.hid hpo; clear hpo
            have HCO := Lib.hid hco; clear hco
            have HBE := Lib.hid hbe; clear hbe
            have HDE := Lib.hid hde; clear hde
            go_wp2_with (first | (with_reducible refine ((HUP.out _).mono ?_); rintro e w' ⟨rfl, rfl⟩) | (with_reducible refine ((HDN.out _).mono ?_); rintro e w' ⟨rfl, rfl⟩) | (with_reducible refine ((HPO.out _).mono ?_); rintro e w' ⟨rfl, rfl⟩) | (with_reducible refine ((HCO.out _).mono ?_); rintro e w' ⟨rfl, rfl⟩) | (with_reducible refine ((HBE.out _).mono ?_); rintro e w' ⟨rfl, rfl⟩) | (with_reducible refine ((HDE.out _).mono ?_); rintro e w' ⟨rfl, rfl⟩))
            go_ret
            exact ⟨2, rfl, (fun h => absurd h (by decide)), HB.out⟩
        · have hlt : ¬ (k : Int) < (l.length : Int) := by omega
          obtain rfl : k = l.length := by omega
          have HR := Lib.hid (HP.out.done (by omega) (by omega))
          go_wp2_with fail
          go_ret
          exact ⟨0, rfl, fun _ => HR.out, HB.out⟩
end Go.Proofs.YtikogofioggmlaaGreatDoor

/-
  Magnitudes: the long division.
-/
import Derived.Test.YtnjaikomoljmjaaGreatDoorMag7
set_option linter.unusedVariables false
set_option linter.unusedSimpArgs false
namespace Go.Proofs.YtnjaikomoljmjaaGreatDoor
open Go.RowKit Go.Shelf Lum
attribute [local go_sem] bs_get bs_extract_end bs_extract_from bs_extract bs_append

set_option maxRecDepth 20000 in
set_option maxHeartbeats 4000000 in
theorem mag_divided_small (p1 p2 : Option Addr) (n1 c1 n2 c2 m d : Nat) (w : World) (h1 : MagAt w p1 n1 c1 m) (h2 : MagAt w p2 n2 c2 d) (hn1 : n1 ≤ 20000) (hn2 : n2 ≤ 20000) (hd : d ≠ 0) (hs : m < d ∨ n2 = 1) :
    Calls Tryz.prog 195 #[.slice p1 n1 c1, .slice p2 n2 c2] w fun e w' => ∃ pq nq cq pr nr cr, e = .returned (.tuple #[.slice pq nq cq, .slice pr nr cr]) ∧ MagAt w' pq nq cq (m / d) ∧ MagAt w' pr nr cr (m % d) ∧ Below w.heap.size w w' := by
  have hC := mag_compare p1 p2 n1 c1 n2 c2 m d w h1 h2 (by omega) (by omega)
  by_cases hlt : m < d
  · have HL := Lib.hid hlt
    have H1 := Lib.hid h1; clear h1 h2 hs
    clear hlt
    go_enter Tryz.func195, Tryz.ntmps195
    go_wp2_with fail
    refine hC.mono ?_
    rintro e w1 ⟨z, rfl, hz, hb⟩
    have hz0 : z < 0 := by
      have := HL.out
      rcases hz with h | h | h <;> omega
    clear hz
    go_wp2_with fail
    go_ret2
    refine ⟨none, 0, 0, p1, n1, c1, rfl, ?_, ?_, hb⟩
    · rw [Nat.div_eq_of_lt HL.out]; exact MagAt.nil _
    · rw [Nat.mod_eq_of_lt HL.out]; exact H1.out.below hb
  · have hn21 : n2 = 1 := by omega
    subst hn21
    obtain ⟨b, o, rfl, hb, hcs⟩ := h2.cells (by omega)
    have hdw : wd d 0 = d := by
      have := lt_len d
      rw [← h2.n] at this
      unfold wd; simp at this ⊢; exact Nat.mod_eq_of_lt this
    have hdl : d < 1000000000 := by rw [← hdw]; exact wd_lt d 0
    have hc := hcs 0 (by omega)
    rw [hdw] at hc
    have HL := Lib.hid hlt
    have hn := h1.n
    subst hn
    have hW := fun W (hb : Below w.heap.size w W) => mag_word p1 c1 m d W (h1.below hb) (by omega) (by omega) hdl
    have HW := Lib.hid hW; clear hW
    have hml : m % d < 1000000000 := Nat.lt_trans (Nat.mod_lt _ (by omega)) hdl
    clear hcs hdw hlt hs h1 h2
    have hd0 : 0 < d := by omega
    clear hd
    go_enter Tryz.func195, Tryz.ntmps195
    go_wp2_with fail
    refine hC.mono ?_
    rintro e w1 ⟨z, rfl, hz, hb1⟩
    have hz0 : ¬ z < 0 := by
      have := HL.out
      rcases hz with h | h | h <;> omega
    clear hz
    have hc1 : w1.cell? ⟨b, o, none⟩ = some (.int .u64 (d : Int)) := by
      have := hb1.cell (p := ⟨b, o, none⟩) hb
      rw [this]; simpa using hc
    go_wp2_with fail
    refine (HW.out _ hb1).mono ?_
    rintro e w2 ⟨pq, nq, cq, rfl, hq, hb2⟩
    have HQ := Lib.hid hq; clear hq
    obtain ⟨r, hr⟩ : ∃ r, r = m % d := ⟨_, rfl⟩
    rw [← hr] at hml ⊢
    have HR := Lib.hid hr; clear hr
    have hcut := cut_any (some ⟨w2.heap.size, 0, none⟩) 1 [r] (w2.alloc (.cells #[.int .u64 (r : Int)] 182)) (nats_one _ _ _ _) (by simp [B9_num]; exact hml) (by simp)
    rw [mv_one] at hcut
    have HCT := Lib.hid hcut; clear hcut
    go_wp2_with fail
    refine HCT.out.mono ?_
    rintro e w3 ⟨pr, nr, cr, rfl, hrr, hb3⟩
    have hb4 := ((Below.refl w2.heap.size w2).alloc (Nat.le_refl _) (.cells #[.int .u64 (r : Int)] 182)).trans (hb3.mono (by simp))
    have HR2 := Lib.hid hrr; clear hrr
    go_wp2_with fail
    go_ret2
    refine ⟨pq, nq, cq, pr, nr, cr, rfl, HQ.out.below hb4, ?_, bch' (bch' hb1 hb2) hb4⟩
    rw [← HR.out]; exact HR2.out
end Go.Proofs.YtnjaikomoljmjaaGreatDoor

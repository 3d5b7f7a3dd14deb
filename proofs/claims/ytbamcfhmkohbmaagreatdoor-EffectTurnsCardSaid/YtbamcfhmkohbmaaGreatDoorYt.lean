/-
  Top, effects: plain facts of one effect that runs alone.
-/
import Derived.Test.YtbamcfhmkohbmaaGreatDoorYi
import Derived.Test.YtbamcfhmkohbmaaGreatDoorYf
import Derived.Test.YtbamcfhmkohbmaaGreatDoorYr
set_option linter.unusedVariables false
set_option linter.unusedSimpArgs false
namespace Lum
open Go Go.RowKit Go.Shelf
open Go.Lib (decDigits itoa)
theorem runsAt_nil (w : World) : RunsAt w (.slice none 0 0) [] := ⟨[], none, 0, rfl, rfl, fun h => absurd rfl h, fun x hx => by cases hx⟩
theorem efsAt_one {w : World} {g : Nat} {t : TypeId} {x : Efx × Sl3} {c : Nat} (h : Blk w g t (encE x).toArray) (hx : PtsAt w (.slice x.2.1 x.2.2.1 x.2.2.2) x.1.wv) : EfsAt w (.slice (some ⟨g, 0, none⟩) 1 c) [x.1] := by
  refine ⟨[x], some ⟨g, 0, none⟩, c, rfl, rfl, fun _ => ⟨g, 0, rfl, h.lt, fun i hi j u hu => ?_⟩, fun y hy => ?_⟩
  · obtain rfl : i = 0 := by simp at hi; omega
    have := h.cell j
    rw [Nat.zero_mul, Nat.zero_add, this]
    simpa using hu
  · obtain rfl := List.mem_singleton.1 hy; exact hx
theorem putL_nil (x : Rnx) : putL [] x = [x] := rfl
/-- What tryRun asks. -/
def trB (x : Efx) (cs : List Int) : Bool := decide (efE x = 0) && decide (cs.length ≤ 6) && decide (rnE ⟨x.nu, cs, 0, 1, 0, 0⟩ = 0)
theorem trB_on {x : Efx} {cs : List Int} (h : trB x cs = true) : efE x = 0 ∧ cs.length ≤ 6 ∧ chE cs = 0 ∧ (1 ≤ x.nu ∧ x.nu ≤ 1048576) := by
  unfold trB at h
  simp only [Bool.and_eq_true, decide_eq_true_eq] at h
  have h3 := rnOk h.2
  refine ⟨h.1.1, h.1.2, ?_, h3.ef⟩
  have h4 := h.2
  by_cases hc : chE cs = 0
  · exact hc
  · have ho : ¬ (x.nu < 1 ∨ 1048576 < x.nu) := by have := h3.ef; dsimp only at this; omega
    rw [rnE_ch (x := ⟨x.nu, cs, 0, 1, 0, 0⟩) ho hc] at h4
    exact absurd h4 hc
theorem rnE_newR {n t : Int} {cs : List Int} (h : chE cs = 0) (hn : 1 ≤ n ∧ n ≤ 1048576) (ht : 0 ≤ t ∧ t ≤ 10000000) : rnE (newR n cs t) = 0 := by
  rw [rnE_ck (x := newR n cs t) (by dsimp only [newR]; omega) h]
  unfold ckE
  rw [if_pos ((ckB_iff _ _ _ _).2 (by dsimp only [newR]; omega))]
theorem stE_zero {n t : Int} {cs : List Int} (h : chE cs = 0) (hn : 1 ≤ n ∧ n ≤ 1048576) (ht : 0 ≤ t ∧ t ≤ 10000000) : stE [] n cs t = 0 :=
  stE_ok rfl ((wiB_iff _ _ _).2 ht) (rnE_newR h hn ht) (by rw [putL_nil]; simp)
theorem sumQ_one (L : List Efx) (x : Rnx) (t ch a : Int) : sumQ L [x] t ch a = toldQ L x t ch a := by unfold sumQ; simp [Rat.zero_add]
theorem efs_one {x : Efx} (h : efE x = 0) : OrdOk efE (·.nu) [x] := ⟨by simp, fun j hj => by obtain rfl : j = 0 := (by simp at hj; omega); exact h, List.pairwise_singleton _ _⟩
theorem rns_one {x : Rnx} (h : rnE x = 0) : OrdOk rnE (·.ef) [x] := ⟨by simp, fun j hj => by obtain rfl : j = 0 := (by simp at hj; omega); exact h, List.pairwise_singleton _ _⟩
theorem suE_one {x : Efx} {r : Rnx} {t ch a : Int} (hx : efE x = 0) (hr : rnE r = 0) (hp : paE ch a = 0) (ht : moE r.ce r.cr r.cd r.cl t = 0) : suE [x] [r] t ch a = (showR (toldQ [x] r t ch a), 0) := by
  have h1 : efsE [x] = 0 := ordE_of (efs_one hx)
  have h2 : rnsE [r] = 0 := ordE_of (rns_one hr)
  rw [suE_ok (by rw [pbE_pa (by rw [boE_rn h1]; exact h2)]; exact hp) (atF_zero fun y hy => by obtain rfl := List.mem_singleton.1 hy; exact ht), sumQ_one]
theorem toldQ_one {x : Efx} {r : Rnx} {t ch a : Int} (hn : x.nu = r.ef) (ha : x.at_ = a) {i : Nat} (hm : memI r.cs ch = (i : Int)) : toldQ [x] r t ch a = offQ x i r.cs.length (shZ r.ce r.cr r.cd r.cl t) := by
  have hf : [x].find? (fun y => y.nu == r.ef) = some x := by simp [hn]
  rw [toldQ_some hf, if_neg (by rw [hm]; intro e; rcases e with e | e; omega; exact e ha), hm]
theorem mo_new {t0 t : Int} (h0 : 0 ≤ t0) (h1 : t0 ≤ t) (h2 : t ≤ 10000000) : moE 0 100 1 t0 t = 0 := by
  unfold moE
  rw [if_neg (by rw [(ckB_iff 0 100 1 t0).2 (by omega)]; decide), if_neg (by rw [(wiB_iff t 0 10000000).2 (by omega)]; decide), if_neg (by omega)]
theorem sh_new {t0 t : Int} (h1 : t0 ≤ t) : shZ 0 100 1 t0 t = 100 * (t - t0) := by unfold shZ; omega
theorem mem_at {cs : List Int} (h : chE cs = 0) {i : Nat} (hi : i < cs.length) : memI cs (inI cs i) = (i : Int) := by
  refine mem_found hi rfl (fun j hj e => ?_)
  have h2 := (chOk h).nd i hi
  have h3 : (cs.take i).contains (inI cs i) = true := has_take hj hi e
  rw [h2] at h3
  exact absurd h3 (by decide)
/-- An example. -/
def exX : Efx := ⟨1, 0, [(0, 0), (500, 1000), (1000, 0)], 100, 1000, 80⟩
end Lum

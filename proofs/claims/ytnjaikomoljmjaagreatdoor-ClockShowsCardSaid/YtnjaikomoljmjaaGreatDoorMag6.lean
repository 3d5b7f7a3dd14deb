/-
  Magnitudes: guess.
-/
import Derived.Test.YtnjaikomoljmjaaGreatDoorMag5
set_option linter.unusedVariables false
set_option linter.unusedSimpArgs false
namespace Lum
open Go Go.RowKit Go.Shelf
/-- What guess returns: m's words from (top, top - 1), by the highest word of the divisor. -/
def gss (m d L k : Nat) : Nat := min ((wd m (L + k) * B9 + wd m (L + k - 1)) / wd d (L - 1)) (B9 - 1)
end Lum
namespace Go.Proofs.YtnjaikomoljmjaaGreatDoor
open Go.RowKit Go.Shelf Lum
attribute [local go_sem] bs_get bs_extract_end bs_extract_from bs_extract bs_append

set_option maxRecDepth 20000 in
set_option maxHeartbeats 4000000 in
theorem mag_guess (p1 p2 : Option Addr) (n1 c1 n2 c2 m d k : Nat) (w : World) (h1 : MagAt w p1 n1 c1 m) (h2 : MagAt w p2 n2 c2 d) (hn1 : n1 ≤ 100000) (hn2 : n2 ≤ 100000) (hk : k ≤ 100000) (h0 : 0 < n2) (hd0 : 0 < wd d (n2 - 1)) :
    Calls Tryz.prog 213 #[.slice p1 n1 c1, .slice p2 n2 c2, .int .i64 (k : Int)] w fun e w' => e = .returned (.int .u64 (gss m d n2 k : Nat)) ∧ Below w.heap.size w w' := by
  obtain ⟨b, o, rfl, hb, hcs⟩ := h2.cells h0
  obtain ⟨T, hT⟩ : ∃ T, T = n2 + k := ⟨_, rfl⟩
  obtain ⟨S, hS⟩ : ∃ S, S = T - 1 := ⟨_, rfl⟩
  obtain ⟨U, hU⟩ : ∃ U, U = n2 - 1 := ⟨_, rfl⟩
  have hc := hcs (n2 - 1) (by omega)
  have hg : gss m d n2 k = min ((wd m (n2 + k) * 1000000000 + wd m (n2 + k - 1)) / wd d (n2 - 1)) 999999999 := rfl
  rw [← hT, ← hS, ← hU] at hg
  rw [← hU] at hc hd0
  clear hcs
  have A : ∀ (i x : Nat), Hid (wd m i = x ∧ i ≤ 1000000) → ∀ j, Calls Tryz.prog 202 #[.slice p1 n1 c1, .int .i64 (i : Int)] (w.drewN j) fun e w' => e = .returned (.int .u64 (x : Nat)) ∧ w' = w.drewN j := fun i x hx j => by
    have := hx.out.1; subst this
    exact (mag_at p1 n1 c1 m i (w.drewN j) (h1.below (below_drewN (Below.refl _ w) j)) (by omega) hx.out.2).mono (fun e w' h => ⟨h.1, h.2.symm⟩)
  have U1 : Hid (wd m T = wd m T ∧ T ≤ 1000000) := ⟨rfl, by omega⟩
  have U2 : Hid (wd m S = wd m S ∧ S ≤ 1000000) := ⟨rfl, by omega⟩
  have x1 := wd_lt m T
  have x2 := wd_lt m S
  have x3 := wd_lt d U
  generalize gss m d n2 k = g at *
  generalize huu : wd m T = u at *
  generalize hvv : wd m S = v at *
  have U3 : Hid (wd m T = u ∧ T ≤ 1000000) := ⟨huu, by omega⟩
  have U4 : Hid (wd m S = v ∧ S ≤ 1000000) := ⟨hvv, by omega⟩
  clear U1 U2 huu hvv
  have HA := Lib.hid A; clear A
  generalize wd d U = t at *
  obtain ⟨z, hz⟩ : ∃ z, z = u * 1000000000 + v := ⟨_, rfl⟩
  rw [← hz] at hg
  have hzl : z < 1000000000000000000 := by omega
  obtain ⟨q, hq⟩ : ∃ q, q = z / t := ⟨_, rfl⟩
  rw [← hq] at hg
  have hql : q < 1000000000000000000 := by rw [hq]; exact Nat.lt_of_le_of_lt (Nat.div_le_self _ _) hzl
  have hq1 : (z : Int).tdiv (t : Int) = (q : Int) := by rw [Int.tdiv_eq_ediv_of_nonneg (by omega), hq]; simp
  have hq2 : (z : Int) / (t : Int) = (q : Int) := by rw [hq]; simp
  have hTi : (n2 : Int) + (k : Int) = (T : Int) := by omega
  have hSi : (T : Int) - 1 = (S : Int) := by omega
  have hUi : (n2 : Int) - 1 = (U : Int) := by omega
  have hT9 : (T : Int) < 1000000 := by omega
  have hS9 : (S : Int) < 1000000 := by omega
  have hUn : (U : Int) < (n2 : Int) := by omega
  have hzi : (u : Int) * 1000000000 + (v : Int) = (z : Int) := by omega
  have hgc : (¬ (999999999 : Int) < (q : Int) ∧ g = q) ∨ ((999999999 : Int) < (q : Int) ∧ g = 999999999) := by omega
  have hz1 : IntKind.u64.wrap ((u : Int) * 1000000000) = (u : Int) * 1000000000 := IntWalk.u64_in _ (by omega)
  have hz2 : IntKind.u64.wrap (z : Int) = (z : Int) := IntWalk.u64_in _ (by omega)
  have hqw : IntKind.u64.wrap (q : Int) = (q : Int) := IntWalk.u64_in _ (by omega)
  have htz : ¬ t = 0 := by omega
  have hSw : IntKind.i64.wrap (S : Int) = (S : Int) := IntWalk.i64_in _ (by omega)
  have hUw : IntKind.i64.wrap (U : Int) = (U : Int) := IntWalk.i64_in _ (by omega)
  have hTw : IntKind.i64.wrap (T : Int) = (T : Int) := IntWalk.i64_in _ (by omega)
  have HG := Lib.hid hg; clear hg
  have HZ := Lib.hid hz; clear hz
  have HQ := Lib.hid hq; clear hq
  have H1 := Lib.hid h1; clear h1 h2
  clear hT hS hU
  rcases hgc with ⟨hlt, hgq⟩ | ⟨hlt, hgq⟩
  all_goals
    have hgi : (g : Int) = _ := congrArg Nat.cast hgq
    have HGI := Lib.hid hgi; clear hgi hgq
    go_enter Tryz.func213, Tryz.ntmps213
    go_wp2
    go_quiet ((go_at_call 202; exact Calls.quiet_of_same (HA.out _ _ (by assumption) _)))
    clear hz1 hz2 hqw hSw hUw hTw
    go_wp2
    go_ret
    exact ⟨ret_int (by first | exact HGI.out.symm | (rw [HGI.out]; rfl)), below_drewN (Below.refl _ w) _⟩
end Go.Proofs.YtnjaikomoljmjaaGreatDoor

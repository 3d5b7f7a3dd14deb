/-
  Magnitudes: less, times.
-/
import Derived.Test.YtnjaikomoljmjaaGreatDoorMag1
import Derived.Test.YtnjaikomoljmjaaGreatDoorRef7
set_option linter.unusedVariables false
set_option linter.unusedSimpArgs false
namespace Lum
open Go Go.RowKit Go.Shelf
theorem below_len (m K : Nat) (h : (magL m).length ≤ K) : m < B9 ^ K := (magL_len m K).1 h
/-- The block of a slice that a call has made is new. -/
def Fresh (w : World) (p : Option Addr) : Prop := ∀ a, p = some a → w.heap.size ≤ a.block
theorem own_fresh {k : IntKind} {e : Nat} {w W : World} {p p' : Option Addr} {c : Nat} {ws : List Nat} (h : OwnN k w.heap.size e W p c ws) (hp : p' = p ∨ p' = none) : Fresh w p' := by
  rintro a rfl
  rcases hp with rfl | h0
  · exact (OwnL.lt h a rfl).1
  · cases h0
end Lum
namespace Go.Proofs.YtnjaikomoljmjaaGreatDoor
open Go.RowKit Go.Shelf Lum
attribute [local go_sem] bs_get bs_extract_end bs_extract_from bs_extract bs_append

set_option maxRecDepth 20000 in
set_option maxHeartbeats 2000000 in
theorem mag_less_more (p1 p2 : Option Addr) (n1 c1 n2 c2 m n : Nat) (w : World) (h1 : MagAt w p1 n1 c1 m) (h2 : MagAt w p2 n2 c2 n) (hn1 : n1 ≤ 100000) (hn2 : n2 ≤ 100000) (hle : n ≤ m) :
    Calls Tryz.prog 177 #[.slice p1 n1 c1, .slice p2 n2 c2] w fun e w' => ∃ p' n' c', e = .returned (.slice p' n' c') ∧ MagAt w' p' n' c' (m - n) ∧ Below w.heap.size w w' ∧ Fresh w p' := by
  obtain ⟨i0, hi, hz0, hz1, hz2⟩ := info_parts info_u64
  have a2 := fun W (hb : Below w.heap.size w W) i hi => mag_at p2 n2 c2 n i W (h2.below hb) (by omega) hi
  have hm := below_len m n1 (by rw [← h1.n]; omega)
  have HM := Lib.hid hm; clear hm
  have HL := Lib.hid hle; clear hle
  have A2 := Lib.hid a2; clear a2
  have H1 := Lib.hid h1; clear h1 h2
  go_enter Tryz.func177, Tryz.ntmps177
  go_wp2
  go_loopw [5, 6, 7, 8, 11] (fun v q _ _ kk wr => ∃ (p : Option Addr) (cc : Nat) (ws : List Nat) (k c : Nat), v = .slice p ws.length cc ∧ q = .int .u64 c ∧ kk = .int .i64 k ∧ c ≤ 1 ∧ Hid (ws.length = k) ∧ Hid (mv B9 ws + n % B9 ^ k = m % B9 ^ k + c * B9 ^ k) ∧ Hid (∀ d ∈ ws, d < B9) ∧
    k ≤ n1 ∧ Hid (OwnN .u64 w.heap.size 182 wr p cc ws) ∧ Below w.heap.size w wr) (fun _ _ _ _ kk _ => n1 + 1 - (intOf kk).toNat)
  case atStart =>
    exact ⟨none, 0, [], 0, 0, rfl, rfl, rfl, by omega, rfl, (show _ = _ by simp [mv, Nat.mod_one]), (show ∀ d ∈ _, _ by simp), by omega, OwnN.nil _ _ _ _, Below.refl _ _⟩
  case round =>
    obtain ⟨p, cc, ws, k, c, rfl, rfl, rfl, hc, HK, HV, HD, hkm, HO, hbr⟩ := hrel
    by_cases hlt : k < n1
    · obtain ⟨b, o, rfl, hb, hcs⟩ := H1.out.cells (by omega)
      have hcx : wr.cell? ⟨b, o + k, none⟩ = some (.int .u64 (wd m k : Nat)) := (hbr.cell (p := ⟨b, o + k, none⟩) hb).trans (hcs k hlt)
      clear hcs
      have e2 := fun W hb => A2.out W hb k (by omega)
      have hx1 := wd_lt m k
      have hy1 := wd_lt n k
      have hstep := less_step B9 k m n c (mv B9 ws) B9_pos hc HV.out
      change _ + _ * ((wd m k + (1000000000 - wd n k - c)) % 1000000000) + _ = _ + (1 - (wd m k + (1000000000 - wd n k - c)) / 1000000000) * _ at hstep
      generalize wd m k = x at *
      generalize wd n k = y at *
      obtain ⟨z, hz⟩ : ∃ z, z = x + (1000000000 - y - c) := ⟨_, rfl⟩
      rw [← hz] at hstep
      have hq1 : (z : Int) = x + (1000000000 - y - c) := by omega
      have hq2 : z < 2000000000 := by omega
      have HS2 : Hid (mv B9 (ws ++ [z % 1000000000]) + n % B9 ^ (k + 1) = m % B9 ^ (k + 1) + (1 - z / 1000000000) * B9 ^ (k + 1)) := by
        show _ = _
        rw [mv_snoc, HK.out]; exact hstep
      clear hstep
      have HD2 : Hid (∀ d ∈ ws ++ [z % 1000000000], d < B9) := by
        intro d hd
        rcases List.mem_append.1 hd with h | h
        · exact HD.out d h
        · simp at h; rw [h]; exact Nat.mod_lt _ (by omega)
      have HZ := Lib.hid hq1; clear hq1 hz
      have hO := HO.out
      have hbs := hbr.size
      have hwl : ws.length < 1000000000 := by have := HK.out; omega
      go_wp2_with fail
      refine (e2 _ hbr).mono ?_; rintro e w' ⟨rfl, rfl⟩
      go_wp2_with (at_builtin; refine wpList_appN rfl _ _ 140 rfl .u64 w.heap.size 182 i0 (.int .u64 0) 8 Tryz.underlying140 hi hz0 hz1 hz2 rfl (by decide) p cc ws _ (z % 1000000000) _ (by have := HZ.out; omega) rfl hO rfl hwl hbs ?_; rintro p1 cc1 w3 hO1 hb1)
      go_roundw
      case rel => exact ⟨p1, cc1, ws ++ [z % 1000000000], k + 1, 1 - z / 1000000000, by simp, val_int (by have := HZ.out; omega), by go_num, by omega, (show _ = _ by simp [HK.out]), HS2, HD2, by omega, hO1, hbr.trans hb1⟩
      case measure => simp [intOf]; omega
    · obtain rfl : k = n1 := by omega
      have hend := less_end B9 k m n c _ HV.out HM.out HL.out (by have := mv_lt B9 ws HD.out; rw [HK.out] at this; exact this)
      have HE := Lib.hid hend; clear hend
      have hcut := fun W h => cut_more p cc ws W h HD.out (by have := HK.out; omega)
      rw [HE.out] at hcut
      have HC := Lib.hid hcut; clear hcut
      go_wp2_with fail
      refine (HC.out _ (OwnN.nats HO.out)).mono ?_
      rintro e w4 ⟨p', n', c', rfl, hM, hb4, hpp⟩
      have HPP := Lib.hid hpp; clear hpp
      have HM := Lib.hid hM; clear hM
      go_wp2_with fail
      go_ret
      exact ⟨p', n', c', rfl, HM.out, bch' hbr hb4, own_fresh HO.out HPP.out⟩
theorem mag_less (p1 p2 : Option Addr) (n1 c1 n2 c2 m n : Nat) (w : World) (h1 : MagAt w p1 n1 c1 m) (h2 : MagAt w p2 n2 c2 n) (hn1 : n1 ≤ 100000) (hn2 : n2 ≤ 100000) (hle : n ≤ m) :
    Calls Tryz.prog 177 #[.slice p1 n1 c1, .slice p2 n2 c2] w fun e w' => ∃ p' n' c', e = .returned (.slice p' n' c') ∧ MagAt w' p' n' c' (m - n) ∧ Below w.heap.size w w' :=
  (mag_less_more p1 p2 n1 c1 n2 c2 m n w h1 h2 hn1 hn2 hle).mono fun e w' ⟨p', n', c', h1, h2, h3, _⟩ => ⟨p', n', c', h1, h2, h3⟩
end Go.Proofs.YtnjaikomoljmjaaGreatDoor

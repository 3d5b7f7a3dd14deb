/-
  Magnitudes: at, plus, less.
-/
import Derived.Test.YtnjaikomoljmjaaGreatDoorIt2
import Derived.Test.YtnjaikomoljmjaaGreatDoorRef4
set_option linter.unusedVariables false
set_option linter.unusedSimpArgs false
namespace Lum
open Go Go.RowKit Go.Shelf
/-- The k-th word of m. -/
def wd (m k : Nat) : Nat := m / B9 ^ k % B9
theorem wd_lt (m k : Nat) : wd m k < 1000000000 := Nat.mod_lt _ B9_pos
theorem wd_beyond (m k : Nat) (h : (magL m).length ≤ k) : wd m k = 0 := word_beyond B9 m _ k (lt_len m) h B9_pos
theorem magL_get (m k : Nat) : (magL m)[k]?.getD 0 = wd m k := by rw [← List.getD_eq_getElem?_getD, magL_getD]; rfl
theorem MagAt.cells {W : World} {p : Option Addr} {n c m : Nat} (h : MagAt W p n c m) (h0 : 0 < n) :
    ∃ b o, p = some ⟨b, o, none⟩ ∧ b < W.heap.size ∧ ∀ j, j < n → W.cell? ⟨b, o + j, none⟩ = some (.int .u64 (wd m j : Nat)) := by
  obtain ⟨b, o, rfl⟩ := h.1.some (by rw [← h.2]; exact h0)
  obtain ⟨h1, h2, h3⟩ := h.1.cell
  exact ⟨b, o, rfl, h1, fun j hj => by rw [h3 j (by omega), magL_get]⟩
theorem MagAt.n {W : World} {p : Option Addr} {n c m : Nat} (h : MagAt W p n c m) : n = (magL m).length := h.2
theorem sum_len (m n K : Nat) (hm : (magL m).length ≤ K) (hn : (magL n).length ≤ K) : m + n < B9 ^ (K + 1) := by
  have h1 := (magL_len m K).1 hm
  have h2 := (magL_len n K).1 hn
  have hb : 2 ≤ B9 := by decide
  rw [Nat.pow_succ]
  have := Nat.mul_le_mul_left (B9 ^ K) hb
  omega
theorem bch' {w w1 w2 : World} (h1 : Below w.heap.size w w1) (h2 : Below w1.heap.size w1 w2) : Below w.heap.size w w2 := h1.trans (h2.mono h1.size)
end Lum
namespace Go.Proofs.YtnjaikomoljmjaaGreatDoor
open Go.RowKit Go.Shelf Lum
attribute [local go_sem] bs_get bs_extract_end bs_extract_from bs_extract bs_append

set_option maxHeartbeats 1000000 in
theorem mag_at (p : Option Addr) (n c m i : Nat) (w : World) (h : MagAt w p n c m) (hn : n ≤ 1000000) (hi : i ≤ 1000000) :
    Calls Tryz.prog 202 #[.slice p n c, .int .i64 (i : Int)] w fun e w' => e = .returned (.int .u64 (wd m i : Nat)) ∧ w = w' := by
  by_cases hlt : i < n
  · obtain ⟨b, o, rfl, hb, hc⟩ := h.cells (by omega)
    have hci := hc i hlt
    clear hc
    generalize wd m i = x at *
    have H := Lib.hid h; clear h
    go_enter Tryz.func202, Tryz.ntmps202
    go_wp2
    go_ret
    exact ⟨rfl, rfl⟩
  · have hz : wd m i = 0 := wd_beyond m i (by rw [← h.n]; omega)
    rw [hz]
    have H := Lib.hid h; clear h hz
    go_enter Tryz.func202, Tryz.ntmps202
    go_wp2
    go_ret
    exact ⟨rfl, rfl⟩

set_option maxRecDepth 20000 in
set_option maxHeartbeats 2000000 in
theorem mag_plus (p1 p2 : Option Addr) (n1 c1 n2 c2 m n : Nat) (w : World) (h1 : MagAt w p1 n1 c1 m) (h2 : MagAt w p2 n2 c2 n) (hn1 : n1 ≤ 100000) (hn2 : n2 ≤ 100000) :
    Calls Tryz.prog 175 #[.slice p1 n1 c1, .slice p2 n2 c2] w fun e w' => ∃ p' n' c', e = .returned (.slice p' n' c') ∧ MagAt w' p' n' c' (m + n) ∧ Below w.heap.size w w' := by
  obtain ⟨i0, hi, hz0, hz1, hz2⟩ := info_parts info_u64
  have a1 := fun W (hb : Below w.heap.size w W) i hi => mag_at p1 n1 c1 m i W (h1.below hb) (by omega) hi
  have a2 := fun W (hb : Below w.heap.size w W) i hi => mag_at p2 n2 c2 n i W (h2.below hb) (by omega) hi
  have key : ∃ K, (n1 < n2 ∧ K = n2) ∨ (¬ n1 < n2 ∧ K = n1) := by
    by_cases h : n1 < n2
    · exact ⟨n2, .inl ⟨h, rfl⟩⟩
    · exact ⟨n1, .inr ⟨h, rfl⟩⟩
  obtain ⟨K, hK⟩ := key
  have hs := sum_len m n K (by rw [← h1.n]; omega) (by rw [← h2.n]; omega)
  have HS := Lib.hid hs; clear hs h1 h2
  have hK2 : K ≤ 100000 := by omega
  have A1 := Lib.hid a1; clear a1
  have A2 := Lib.hid a2; clear a2
  rcases hK with ⟨hlt, hK⟩ | ⟨hlt, hK⟩
  all_goals
    subst hK
    go_enter Tryz.func175, Tryz.ntmps175
    go_wp2
    clear hlt
    go_loopw [5, 6, 7, 14] (fun v q _ kk wr => ∃ (p : Option Addr) (cc : Nat) (ws : List Nat) (k c : Nat), v = .slice p ws.length cc ∧ q = .int .u64 c ∧ kk = .int .i64 k ∧ c ≤ 1 ∧ Hid (ws.length = k) ∧ Hid (mv B9 ws + c * B9 ^ k = m % B9 ^ k + n % B9 ^ k) ∧ Hid (∀ d ∈ ws, d < B9) ∧
      k ≤ K + 1 ∧ Hid (OwnN .u64 w.heap.size 182 wr p cc ws) ∧ Below w.heap.size w wr) (fun _ _ _ kk _ => K + 2 - (intOf kk).toNat)
    case atStart =>
      exact ⟨none, 0, [], 0, 0, rfl, rfl, rfl, by omega, rfl, (show _ = _ by simp [mv, Nat.mod_one]), (show ∀ d ∈ _, _ by simp), by omega, OwnN.nil _ _ _ _, Below.refl _ _⟩
    case round =>
      obtain ⟨p, cc, ws, k, c, rfl, rfl, rfl, hc, HK, HV, HD, hkm, HO, hbr⟩ := hrel
      by_cases hlt : k < K + 1
      · have e1 := fun W hb => A1.out W hb k (by omega)
        have e2 := fun W hb => A2.out W hb k (by omega)
        have hx1 := wd_lt m k
        have hy1 := wd_lt n k
        have hstep := plus_step B9 k m n c (mv B9 ws) HV.out
        change _ + _ * ((c + (wd m k + wd n k)) % 1000000000) + (c + (wd m k + wd n k)) / 1000000000 * _ = _ at hstep
        generalize wd m k = x at *
        generalize wd n k = y at *
        have hc' : (c + (x + y)) / 1000000000 ≤ 1 := by omega
        have HS2 : Hid (mv B9 (ws ++ [(c + (x + y)) % 1000000000]) + (c + (x + y)) / 1000000000 * B9 ^ (k + 1) = m % B9 ^ (k + 1) + n % B9 ^ (k + 1)) := by
          show _ = _
          rw [mv_snoc, HK.out]; exact hstep
        clear hstep
        have HD2 : Hid (∀ d ∈ ws ++ [(c + (x + y)) % 1000000000], d < B9) := by
          intro d hd
          rcases List.mem_append.1 hd with h | h
          · exact HD.out d h
          · simp at h; rw [h]; exact Nat.mod_lt _ (by omega)
        have hO := HO.out
        have hbs := hbr.size
        have hwl : ws.length < 1000000000 := by have := HK.out; omega
        go_wp2_with fail
        refine (e1 _ hbr).mono ?_; rintro e w' ⟨rfl, rfl⟩
        go_wp2_with fail
        refine (e2 _ hbr).mono ?_; rintro e w' ⟨rfl, rfl⟩
        go_wp2_with (at_builtin; refine wpList_appN rfl _ _ 140 rfl .u64 w.heap.size 182 i0 (.int .u64 0) 8 Tryz.underlying140 hi hz0 hz1 hz2 rfl (by decide) p cc ws _ ((c + (x + y)) % 1000000000) _ (by omega) rfl hO rfl hwl hbs ?_; rintro p1 cc1 w3 hO1 hb1)
        go_roundw
        case rel => exact ⟨p1, cc1, ws ++ [(c + (x + y)) % 1000000000], k + 1, (c + (x + y)) / 1000000000, by simp, val_int (by omega), by go_num, hc', (show _ = _ by simp [HK.out]), HS2, HD2, by omega, hO1, hbr.trans hb1⟩
        case measure => simp [intOf]; omega
      · obtain rfl : k = K + 1 := by omega
        obtain ⟨hend, -⟩ := plus_end B9 (K + 1) m n c _ HV.out HS.out
        have HE := Lib.hid hend; clear hend
        have hcut := fun W h => cut_any p cc ws W h HD.out (by have := HK.out; omega)
        rw [HE.out] at hcut
        have HC := Lib.hid hcut; clear hcut
        go_wp2_with fail
        refine (HC.out _ (OwnN.nats HO.out)).mono ?_
        rintro e w4 ⟨p', n', c', rfl, hM, hb4⟩
        have HM := Lib.hid hM; clear hM
        go_wp2_with fail
        go_ret
        exact ⟨p', n', c', rfl, HM.out, bch' hbr hb4⟩
end Go.Proofs.YtnjaikomoljmjaaGreatDoor

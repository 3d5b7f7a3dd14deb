/-
  The reference of layer 1 (integer): plus and minus.
-/
import Derived.Test.YtnjaikomoljmjaaGreatDoorRef5
set_option linter.unusedVariables false
set_option linter.unusedSimpArgs false
namespace Go.Proofs.YtnjaikomoljmjaaGreatDoor
open Go.RowKit Lum
open Go.Lib (decDigits itoa)
attribute [local go_sem] bs_get bs_extract_end bs_extract_from bs_extract bs_append

set_option maxHeartbeats 4000000 in
set_option maxRecDepth 20000 in
theorem r1_plus (m n : Nat) (w : World) (hm : (decDigits m).length ≤ 40000) (hn : (decDigits n).length ≤ 40000) :
    Calls Tryz.prog 139 #[.string ⟨(decDigits m).toArray⟩, .string ⟨(decDigits n).toArray⟩] w fun e w' => e = .returned (.string ⟨(decDigits (m + n)).toArray⟩) ∧ Below w.heap.size w w' := by
  obtain ⟨i0, hi, hz0, hz1, hz2⟩ := info_parts info_int
  have k1 := fun W => r1_words (decDigits m) W (dec_digits m) (dec_ne m) (by omega)
  have k2 := fun W => r1_words (decDigits n) W (dec_digits n) (dec_ne n) (by omega)
  rw [natOf_dec] at k1 k2
  have K1 := Lib.hid k1; clear k1
  have K2 := Lib.hid k2; clear k2
  generalize decDigits m = a at *
  generalize decDigits n = b at *
  go_enter Tryz.func139, Tryz.ntmps139
  go_wp2_with fail
  refine (K1.out _).mono ?_
  rintro e w1 ⟨b1, o1, c1, xs, rfl, ha1, ha2, ha0, ha3, ha4, hb1⟩
  have HA1 := Lib.hid ha1; clear ha1
  have HA2 := Lib.hid ha2; clear ha2
  have HA4 := Lib.hid ha4; clear ha4
  go_wp2_with fail
  refine (K2.out _).mono ?_
  rintro e w2 ⟨b2, o2, c2, ys, rfl, hc1, hc2, hc0, hc3, hc4, hb2⟩
  have HC1 := Lib.hid hc1; clear hc1
  have HC2 := Lib.hid hc2; clear hc2
  have HC4 := Lib.hid hc4; clear hc4
  have hb := hb1.trans (hb2.mono hb1.size)
  have HA5 := Lib.hid (HA4.out.below hb2); clear HA4 hb1 hb2
  obtain ⟨hs1, _, hx⟩ := HA5.out.cell
  obtain ⟨hs2, _, hy⟩ := HC4.out.cell
  have HX := Lib.hid hx; clear hx
  have HY := Lib.hid hy; clear hy
  have hmx := mv_lt 10000 xs HA2.out
  have hny := mv_lt 10000 ys HC2.out
  rw [HA1.out] at hmx
  rw [HC1.out] at hny
  have HMX := Lib.hid hmx; clear hmx
  have HNY := Lib.hid hny; clear hny
  go_wp2
  go_loopw [7, 8, 9, 10] (fun v q kk _ wr => ∃ (p : Option Addr) (cc : Nat) (ws : List Nat) (k c : Nat), v = .slice p ws.length cc ∧ q = .int .i64 c ∧ kk = .int .i64 k ∧ c ≤ 1 ∧ Hid (ws.length = k) ∧ Hid (mv 10000 ws + c * 10000 ^ k = m % 10000 ^ k + n % 10000 ^ k) ∧ Hid (∀ d ∈ ws, d < 10000) ∧
    (k ≤ xs.length ∨ k ≤ ys.length ∨ c = 0) ∧ k ≤ xs.length + ys.length + 1 ∧ Hid (OwnN .i64 w2.heap.size 3 wr p cc ws) ∧ Below w2.heap.size w2 wr) (fun _ _ kk _ _ => xs.length + ys.length + 2 - (intOf kk).toNat)
  case atStart =>
    exact ⟨none, 0, [], 0, 0, rfl, rfl, rfl, by omega, rfl, (show _ = _ by simp [mv, Nat.mod_one]), (show ∀ d ∈ _, _ by simp), .inl (by omega), by omega, OwnN.nil _ _ _ _, Below.refl _ _⟩
  case round =>
    obtain ⟨p, cc, ws, k, c, rfl, rfl, rfl, hc, HK, HV, HD, hor, hkm, HO, hbr⟩ := hrel
    obtain ⟨x, hxe⟩ : ∃ x, x = m / 10000 ^ k % 10000 := ⟨_, rfl⟩
    obtain ⟨y, hye⟩ : ∃ y, y = n / 10000 ^ k % 10000 := ⟨_, rfl⟩
    have hx1 : x < 10000 := by rw [hxe]; exact Nat.mod_lt _ (by omega)
    have hy1 : y < 10000 := by rw [hye]; exact Nat.mod_lt _ (by omega)
    have hcx : k < xs.length → wr.cell? ⟨b1, o1 + k, none⟩ = some (.int .i64 (x : Nat)) := fun h => by
      rw [hbr.cell (p := ⟨b1, o1 + k, none⟩) hs1, HX.out k h, word_at 10000 (by omega) xs HA2.out, HA1.out, ← hxe]
    have hcy : k < ys.length → wr.cell? ⟨b2, o2 + k, none⟩ = some (.int .i64 (y : Nat)) := fun h => by
      rw [hbr.cell (p := ⟨b2, o2 + k, none⟩) hs2, HY.out k h, word_at 10000 (by omega) ys HC2.out, HC1.out, ← hye]
    have hx0 : ¬ k < xs.length → x = 0 := fun h => by rw [hxe]; exact word_beyond 10000 m _ k HMX.out (by omega) (by omega)
    have hy0 : ¬ k < ys.length → y = 0 := fun h => by rw [hye]; exact word_beyond 10000 n _ k HNY.out (by omega) (by omega)
    have HXE := Lib.hid hxe; clear hxe
    have HYE := Lib.hid hye; clear hye
    by_cases h1 : k < xs.length
    · have hcx' := hcx h1
      clear hcx hx0
      by_cases h2 : k < ys.length
      · have hcy' := hcy h2
        clear hcy hy0
        have hstep := plus_step 10000 k m n c (mv 10000 ws) HV.out
        rw [← HXE.out, ← HYE.out] at hstep
        have hc' := carry_le 10000 c x y hc hx1 hy1
        have HS : Hid (mv 10000 (ws ++ [(c + (x + y)) % 10000]) + (c + (x + y)) / 10000 * 10000 ^ (k + 1) = m % 10000 ^ (k + 1) + n % 10000 ^ (k + 1)) := by
          show _ = _
          rw [mv_snoc, HK.out]; exact hstep
        clear hstep
        have HD2 : Hid (∀ d ∈ ws ++ [(c + (x + y)) % 10000], d < 10000) := by
          intro d hd
          rcases List.mem_append.1 hd with h | h
          · exact HD.out d h
          · simp at h; omega
        have hO := HO.out
        have hbs := hbr.size
        have hwl : ws.length < 1000000000 := by have := HK.out; omega
        go_wp2_with (at_builtin; refine wpList_appN rfl _ _ 171 rfl .i64 w2.heap.size 3 i0 (.int .i64 0) 8 Tryz.underlying171 hi hz0 hz1 hz2 rfl (by decide) p cc ws _ ((c + (x + y)) % 10000) _ (by omega) rfl hO rfl hwl hbs ?_; rintro p1 cc1 w3 hO1 hb1)
        go_roundw
        case rel => exact ⟨p1, cc1, ws ++ [(c + (x + y)) % 10000], k + 1, (c + (x + y)) / 10000, by simp, val_int (by omega), by go_num, hc', (show _ = _ by simp [HK.out]), HS, HD2, by omega, by omega, hO1, hbr.trans hb1⟩
        case measure => simp [intOf]; omega
      · obtain rfl := hy0 h2
        clear hcy hy0
        have hstep := plus_step 10000 k m n c (mv 10000 ws) HV.out
        rw [← HXE.out, ← HYE.out] at hstep
        have hc' := carry_le 10000 c x 0 hc hx1 hy1
        have HS : Hid (mv 10000 (ws ++ [(c + (x + 0)) % 10000]) + (c + (x + 0)) / 10000 * 10000 ^ (k + 1) = m % 10000 ^ (k + 1) + n % 10000 ^ (k + 1)) := by
          show _ = _
          rw [mv_snoc, HK.out]; exact hstep
        clear hstep
        have HD2 : Hid (∀ d ∈ ws ++ [(c + (x + 0)) % 10000], d < 10000) := by
          intro d hd
          rcases List.mem_append.1 hd with h | h
          · exact HD.out d h
          · simp at h; omega
        have hO := HO.out
        have hbs := hbr.size
        have hwl : ws.length < 1000000000 := by have := HK.out; omega
        go_wp2_with (at_builtin; refine wpList_appN rfl _ _ 171 rfl .i64 w2.heap.size 3 i0 (.int .i64 0) 8 Tryz.underlying171 hi hz0 hz1 hz2 rfl (by decide) p cc ws _ ((c + (x + 0)) % 10000) _ (by omega) rfl hO rfl hwl hbs ?_; rintro p1 cc1 w3 hO1 hb1)
        go_roundw
        case rel => exact ⟨p1, cc1, ws ++ [(c + (x + 0)) % 10000], k + 1, (c + (x + 0)) / 10000, by simp, val_int (by omega), by go_num, hc', (show _ = _ by simp [HK.out]), HS, HD2, by omega, by omega, hO1, hbr.trans hb1⟩
        case measure => simp [intOf]; omega
    · obtain rfl := hx0 h1
      clear hcx hx0
      by_cases h2 : k < ys.length
      · have hcy' := hcy h2
        clear hcy hy0
        have hstep := plus_step 10000 k m n c (mv 10000 ws) HV.out
        rw [← HXE.out, ← HYE.out] at hstep
        have hc' := carry_le 10000 c 0 y hc hx1 hy1
        have HS : Hid (mv 10000 (ws ++ [(c + (0 + y)) % 10000]) + (c + (0 + y)) / 10000 * 10000 ^ (k + 1) = m % 10000 ^ (k + 1) + n % 10000 ^ (k + 1)) := by
          show _ = _
          rw [mv_snoc, HK.out]; exact hstep
        clear hstep
        have HD2 : Hid (∀ d ∈ ws ++ [(c + (0 + y)) % 10000], d < 10000) := by
          intro d hd
          rcases List.mem_append.1 hd with h | h
          · exact HD.out d h
          · simp at h; omega
        have hO := HO.out
        have hbs := hbr.size
        have hwl : ws.length < 1000000000 := by have := HK.out; omega
        go_wp2_with (at_builtin; refine wpList_appN rfl _ _ 171 rfl .i64 w2.heap.size 3 i0 (.int .i64 0) 8 Tryz.underlying171 hi hz0 hz1 hz2 rfl (by decide) p cc ws _ ((c + (0 + y)) % 10000) _ (by omega) rfl hO rfl hwl hbs ?_; rintro p1 cc1 w3 hO1 hb1)
        go_roundw
        case rel => exact ⟨p1, cc1, ws ++ [(c + (0 + y)) % 10000], k + 1, (c + (0 + y)) / 10000, by simp, val_int (by omega), by go_num, hc', (show _ = _ by simp [HK.out]), HS, HD2, by omega, by omega, hO1, hbr.trans hb1⟩
        case measure => simp [intOf]; omega
      · obtain rfl := hy0 h2
        clear hcy hy0
        by_cases h0 : c = 0
        · subst h0
          have hend := HV.out
          rw [mod_all 10000 m k (Nat.lt_of_lt_of_le HMX.out (Nat.pow_le_pow_right (by omega) (by omega))), mod_all 10000 n k (Nat.lt_of_lt_of_le HNY.out (Nat.pow_le_pow_right (by omega) (by omega)))] at hend
          obtain ⟨b3, o3, rfl⟩ := (OwnN.nats HO.out).some (by have := HK.out; omega)
          have hwl : ws.length ≤ 100000 := by have := HK.out; omega
          have ht := fun W hW => r1_text b3 o3 cc ws W hW HD.out hwl
          have hN := OwnN.nats HO.out
          rw [show mv 10000 ws = m + n by omega] at ht
          have HT := Lib.hid ht; clear ht hend
          go_wp2_with (go_at_call 170; refine (HT.out _ hN).mono ?_; rintro e w3 ⟨rfl, hb3⟩)
          go_ret
          exact ⟨rfl, (hb.trans (hbr.mono hb.size)).trans (hb3.mono (Nat.le_trans hb.size hbr.size))⟩
        · obtain rfl : c = 1 := by omega
          have hstep := plus_step 10000 k m n 1 (mv 10000 ws) HV.out
          rw [← HXE.out, ← HYE.out] at hstep
          have hc' := carry_le 10000 1 0 0 hc hx1 hy1
          have HS : Hid (mv 10000 (ws ++ [(1 + (0 + 0)) % 10000]) + (1 + (0 + 0)) / 10000 * 10000 ^ (k + 1) = m % 10000 ^ (k + 1) + n % 10000 ^ (k + 1)) := by
            show _ = _
            rw [mv_snoc, HK.out]; exact hstep
          clear hstep
          have HD2 : Hid (∀ d ∈ ws ++ [(1 + (0 + 0)) % 10000], d < 10000) := by
            intro d hd
            rcases List.mem_append.1 hd with h | h
            · exact HD.out d h
            · simp at h; omega
          have hO := HO.out
          have hbs := hbr.size
          have hwl : ws.length < 1000000000 := by have := HK.out; omega
          go_wp2_with (at_builtin; refine wpList_appN rfl _ _ 171 rfl .i64 w2.heap.size 3 i0 (.int .i64 0) 8 Tryz.underlying171 hi hz0 hz1 hz2 rfl (by decide) p cc ws _ ((1 + (0 + 0)) % 10000) _ (by omega) rfl hO rfl hwl hbs ?_; rintro p1 cc1 w3 hO1 hb1)
          go_roundw
          case rel => exact ⟨p1, cc1, ws ++ [(1 + (0 + 0)) % 10000], k + 1, (1 + (0 + 0)) / 10000, by simp, val_int (by omega), by go_num, hc', (show _ = _ by simp [HK.out]), HS, HD2, by omega, by omega, hO1, hbr.trans hb1⟩
          case measure => simp [intOf]; omega

set_option maxHeartbeats 4000000 in
set_option maxRecDepth 20000 in
theorem r1_minus (m n : Nat) (w : World) (hm : (decDigits m).length ≤ 40000) (hn : (decDigits n).length ≤ 40000) (hmn : n ≤ m) :
    Calls Tryz.prog 141 #[.string ⟨(decDigits m).toArray⟩, .string ⟨(decDigits n).toArray⟩] w fun e w' => e = .returned (.string ⟨(decDigits (m - n)).toArray⟩) ∧ Below w.heap.size w w' := by
  obtain ⟨i0, hi, hz0, hz1, hz2⟩ := info_parts info_int
  have k1 := fun W => r1_words (decDigits m) W (dec_digits m) (dec_ne m) (by omega)
  have k2 := fun W => r1_words (decDigits n) W (dec_digits n) (dec_ne n) (by omega)
  rw [natOf_dec] at k1 k2
  have K1 := Lib.hid k1; clear k1
  have K2 := Lib.hid k2; clear k2
  generalize decDigits m = a at *
  generalize decDigits n = b at *
  go_enter Tryz.func141, Tryz.ntmps141
  go_wp2_with fail
  refine (K1.out _).mono ?_
  rintro e w1 ⟨b1, o1, c1, xs, rfl, ha1, ha2, ha0, ha3, ha4, hb1⟩
  have HA1 := Lib.hid ha1; clear ha1
  have HA2 := Lib.hid ha2; clear ha2
  have HA4 := Lib.hid ha4; clear ha4
  go_wp2_with fail
  refine (K2.out _).mono ?_
  rintro e w2 ⟨b2, o2, c2, ys, rfl, hc1, hc2, hc0, hc3, hc4, hb2⟩
  have HC1 := Lib.hid hc1; clear hc1
  have HC2 := Lib.hid hc2; clear hc2
  have HC4 := Lib.hid hc4; clear hc4
  have hb := hb1.trans (hb2.mono hb1.size)
  have HA5 := Lib.hid (HA4.out.below hb2); clear HA4 hb1 hb2
  obtain ⟨hs1, _, hx⟩ := HA5.out.cell
  obtain ⟨hs2, _, hy⟩ := HC4.out.cell
  have HX := Lib.hid hx; clear hx
  have HY := Lib.hid hy; clear hy
  have hmx := mv_lt 10000 xs HA2.out
  have hny := mv_lt 10000 ys HC2.out
  rw [HA1.out] at hmx
  rw [HC1.out] at hny
  have HMX := Lib.hid hmx; clear hmx
  have HNY := Lib.hid hny; clear hny
  go_wp2
  go_loopw [7, 8, 9, 10] (fun v q kk _ wr => ∃ (p : Option Addr) (cc : Nat) (ws : List Nat) (k c : Nat), v = .slice p ws.length cc ∧ q = .int .i64 c ∧ kk = .int .i64 k ∧ c ≤ 1 ∧ Hid (ws.length = k) ∧ Hid (mv 10000 ws + n % 10000 ^ k = m % 10000 ^ k + c * 10000 ^ k) ∧ Hid (∀ d ∈ ws, d < 10000) ∧
    k ≤ xs.length ∧ Hid (OwnN .i64 w2.heap.size 3 wr p cc ws) ∧ Below w2.heap.size w2 wr) (fun _ _ kk _ _ => xs.length - (intOf kk).toNat)
  case atStart =>
    exact ⟨none, 0, [], 0, 0, rfl, rfl, rfl, by omega, rfl, (show _ = _ by simp [mv, Nat.mod_one]), (show ∀ d ∈ _, _ by simp), by omega, OwnN.nil _ _ _ _, Below.refl _ _⟩
  case round =>
    obtain ⟨p, cc, ws, k, c, rfl, rfl, rfl, hc, HK, HV, HD, hkm, HO, hbr⟩ := hrel
    obtain ⟨x, hxe⟩ : ∃ x, x = m / 10000 ^ k % 10000 := ⟨_, rfl⟩
    obtain ⟨y, hye⟩ : ∃ y, y = n / 10000 ^ k % 10000 := ⟨_, rfl⟩
    have hx1 : x < 10000 := by rw [hxe]; exact Nat.mod_lt _ (by omega)
    have hy1 : y < 10000 := by rw [hye]; exact Nat.mod_lt _ (by omega)
    have hcx : k < xs.length → wr.cell? ⟨b1, o1 + k, none⟩ = some (.int .i64 (x : Nat)) := fun h => by
      rw [hbr.cell (p := ⟨b1, o1 + k, none⟩) hs1, HX.out k h, word_at 10000 (by omega) xs HA2.out, HA1.out, ← hxe]
    have hcy : k < ys.length → wr.cell? ⟨b2, o2 + k, none⟩ = some (.int .i64 (y : Nat)) := fun h => by
      rw [hbr.cell (p := ⟨b2, o2 + k, none⟩) hs2, HY.out k h, word_at 10000 (by omega) ys HC2.out, HC1.out, ← hye]
    have hy0 : ¬ k < ys.length → y = 0 := fun h => by rw [hye]; exact word_beyond 10000 n _ k HNY.out (by omega) (by omega)
    have HXE := Lib.hid hxe; clear hxe
    have HYE := Lib.hid hye; clear hye
    by_cases h1 : k < xs.length
    · have hcx' := hcx h1
      clear hcx
      by_cases h2 : k < ys.length
      · have hcy' := hcy h2
        clear hcy hy0
        by_cases hneg : (x : Int) - c - y < 0
        · skip
          have hstep := less_step 10000 k m n c (mv 10000 ws) (by omega) hc HV.out
          rw [← HXE.out, ← HYE.out] at hstep
          have e1 : (x + (10000 - y - c)) % 10000 = (x + (10000 - y - c)) := Nat.mod_eq_of_lt (by omega)
          have e2 : 1 - (x + (10000 - y - c)) / 10000 = 1 := by omega
          rw [e1, e2] at hstep
          clear e1 e2
          have HS : Hid (mv 10000 (ws ++ [(x + (10000 - y - c))]) + n % 10000 ^ (k + 1) = m % 10000 ^ (k + 1) + 1 * 10000 ^ (k + 1)) := by
            show _ = _
            rw [mv_snoc, HK.out]; exact hstep
          clear hstep
          have HD2 : Hid (∀ d ∈ ws ++ [(x + (10000 - y - c))], d < 10000) := by
            intro d hd
            rcases List.mem_append.1 hd with h | h
            · exact HD.out d h
            · simp at h; omega
          have hO := HO.out
          have hbs := hbr.size
          have hwl : ws.length < 1000000000 := by have := HK.out; omega
          go_wp2_with (at_builtin; refine wpList_appN rfl _ _ 171 rfl .i64 w2.heap.size 3 i0 (.int .i64 0) 8 Tryz.underlying171 hi hz0 hz1 hz2 rfl (by decide) p cc ws _ (x + (10000 - y - c)) _ (by omega) rfl hO rfl hwl hbs ?_; rintro p1 cc1 w3 hO1 hb1)
          go_roundw
          case rel => exact ⟨p1, cc1, ws ++ [(x + (10000 - y - c))], k + 1, 1, by simp, rfl, by go_num, by omega, (show _ = _ by simp [HK.out]), HS, HD2, by omega, hO1, hbr.trans hb1⟩
          case measure => simp [intOf]; omega
        · skip
          have hstep := less_step 10000 k m n c (mv 10000 ws) (by omega) hc HV.out
          rw [← HXE.out, ← HYE.out] at hstep
          have e1 : (x + (10000 - y - c)) % 10000 = (x - y - c) := by omega
          have e2 : 1 - (x + (10000 - y - c)) / 10000 = 0 := by omega
          rw [e1, e2] at hstep
          clear e1 e2
          have HS : Hid (mv 10000 (ws ++ [(x - y - c)]) + n % 10000 ^ (k + 1) = m % 10000 ^ (k + 1) + 0 * 10000 ^ (k + 1)) := by
            show _ = _
            rw [mv_snoc, HK.out]; exact hstep
          clear hstep
          have HD2 : Hid (∀ d ∈ ws ++ [(x - y - c)], d < 10000) := by
            intro d hd
            rcases List.mem_append.1 hd with h | h
            · exact HD.out d h
            · simp at h; omega
          have hO := HO.out
          have hbs := hbr.size
          have hwl : ws.length < 1000000000 := by have := HK.out; omega
          go_wp2_with (at_builtin; refine wpList_appN rfl _ _ 171 rfl .i64 w2.heap.size 3 i0 (.int .i64 0) 8 Tryz.underlying171 hi hz0 hz1 hz2 rfl (by decide) p cc ws _ (x - y - c) _ (by omega) rfl hO rfl hwl hbs ?_; rintro p1 cc1 w3 hO1 hb1)
          go_roundw
          case rel => exact ⟨p1, cc1, ws ++ [(x - y - c)], k + 1, 0, by simp, rfl, by go_num, by omega, (show _ = _ by simp [HK.out]), HS, HD2, by omega, hO1, hbr.trans hb1⟩
          case measure => simp [intOf]; omega
      · obtain rfl := hy0 h2
        clear hcy hy0
        by_cases hneg : (x : Int) - c < 0
        · skip
          have hstep := less_step 10000 k m n c (mv 10000 ws) (by omega) hc HV.out
          rw [← HXE.out, ← HYE.out] at hstep
          have e1 : (x + (10000 - 0 - c)) % 10000 = (x + (10000 - 0 - c)) := Nat.mod_eq_of_lt (by omega)
          have e2 : 1 - (x + (10000 - 0 - c)) / 10000 = 1 := by omega
          rw [e1, e2] at hstep
          clear e1 e2
          have HS : Hid (mv 10000 (ws ++ [(x + (10000 - 0 - c))]) + n % 10000 ^ (k + 1) = m % 10000 ^ (k + 1) + 1 * 10000 ^ (k + 1)) := by
            show _ = _
            rw [mv_snoc, HK.out]; exact hstep
          clear hstep
          have HD2 : Hid (∀ d ∈ ws ++ [(x + (10000 - 0 - c))], d < 10000) := by
            intro d hd
            rcases List.mem_append.1 hd with h | h
            · exact HD.out d h
            · simp at h; omega
          have hO := HO.out
          have hbs := hbr.size
          have hwl : ws.length < 1000000000 := by have := HK.out; omega
          go_wp2_with (at_builtin; refine wpList_appN rfl _ _ 171 rfl .i64 w2.heap.size 3 i0 (.int .i64 0) 8 Tryz.underlying171 hi hz0 hz1 hz2 rfl (by decide) p cc ws _ (x + (10000 - 0 - c)) _ (by omega) rfl hO rfl hwl hbs ?_; rintro p1 cc1 w3 hO1 hb1)
          go_roundw
          case rel => exact ⟨p1, cc1, ws ++ [(x + (10000 - 0 - c))], k + 1, 1, by simp, rfl, by go_num, by omega, (show _ = _ by simp [HK.out]), HS, HD2, by omega, hO1, hbr.trans hb1⟩
          case measure => simp [intOf]; omega
        · skip
          have hstep := less_step 10000 k m n c (mv 10000 ws) (by omega) hc HV.out
          rw [← HXE.out, ← HYE.out] at hstep
          have e1 : (x + (10000 - 0 - c)) % 10000 = (x - 0 - c) := by omega
          have e2 : 1 - (x + (10000 - 0 - c)) / 10000 = 0 := by omega
          rw [e1, e2] at hstep
          clear e1 e2
          have HS : Hid (mv 10000 (ws ++ [(x - 0 - c)]) + n % 10000 ^ (k + 1) = m % 10000 ^ (k + 1) + 0 * 10000 ^ (k + 1)) := by
            show _ = _
            rw [mv_snoc, HK.out]; exact hstep
          clear hstep
          have HD2 : Hid (∀ d ∈ ws ++ [(x - 0 - c)], d < 10000) := by
            intro d hd
            rcases List.mem_append.1 hd with h | h
            · exact HD.out d h
            · simp at h; omega
          have hO := HO.out
          have hbs := hbr.size
          have hwl : ws.length < 1000000000 := by have := HK.out; omega
          go_wp2_with (at_builtin; refine wpList_appN rfl _ _ 171 rfl .i64 w2.heap.size 3 i0 (.int .i64 0) 8 Tryz.underlying171 hi hz0 hz1 hz2 rfl (by decide) p cc ws _ (x - 0 - c) _ (by omega) rfl hO rfl hwl hbs ?_; rintro p1 cc1 w3 hO1 hb1)
          go_roundw
          case rel => exact ⟨p1, cc1, ws ++ [(x - 0 - c)], k + 1, 0, by simp, rfl, by go_num, by omega, (show _ = _ by simp [HK.out]), HS, HD2, by omega, hO1, hbr.trans hb1⟩
          case measure => simp [intOf]; omega
    · obtain rfl : k = xs.length := by omega
      have hend := less_end 10000 xs.length m n c (mv 10000 ws) HV.out HMX.out hmn (by rw [← HK.out]; exact mv_lt 10000 ws HD.out)
      obtain ⟨b3, o3, rfl⟩ := (OwnN.nats HO.out).some (by have := HK.out; omega)
      have hwl : ws.length ≤ 100000 := by have := HK.out; omega
      have ht := fun W hW => r1_text b3 o3 cc ws W hW HD.out hwl
      have hN := OwnN.nats HO.out
      rw [hend] at ht
      have HT := Lib.hid ht; clear ht hend
      clear hcx hcy hy0
      go_wp2_with (go_at_call 170; refine (HT.out _ hN).mono ?_; rintro e w3 ⟨rfl, hb3⟩)
      go_ret
      exact ⟨rfl, (hb.trans (hbr.mono hb.size)).trans (hb3.mono (Nat.le_trans hb.size hbr.size))⟩
end Go.Proofs.YtnjaikomoljmjaaGreatDoor

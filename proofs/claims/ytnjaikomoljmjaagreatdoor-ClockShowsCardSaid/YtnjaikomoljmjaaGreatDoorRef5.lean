/-
  The reference of layer 1 (integer): text.
-/
import Derived.Test.YtnjaikomoljmjaaGreatDoorRef4
set_option linter.unusedVariables false
set_option linter.unusedSimpArgs false
namespace Lum
open Go.Lib (decDigits itoa)
/-- Digits without leading zeros: nothing for 0. -/
def outD (V : Nat) : Txt := if V = 0 then [] else decDigits V
theorem outD_nil (V : Nat) : outD V = [] ↔ V = 0 := by
  unfold outD; split
  · simp [*]
  · simp [*, dec_ne]
theorem outD_yes (V d : Nat) (hd : d < 10) (h : d ≠ 0 ∨ V ≠ 0) : outD (V * 10 + d) = outD V ++ [UInt8.ofNat (48 + d)] := by
  unfold outD
  rw [if_neg (by omega)]
  by_cases hV : V = 0
  · subst hV; rw [if_pos rfl, dec_small (by omega)]; simp
  · rw [if_neg hV, dec_big (by omega)]
    congr 2
    · congr 1; omega
    · congr 3; omega
theorem outD_no (V d : Nat) (h : d = 0) (h2 : V = 0) : outD (V * 10 + d) = outD V := by subst h h2; rfl
theorem outD_len (V k : Nat) (h : V < 10 ^ k) (hk : 1 ≤ k) : (outD V).length ≤ k := by
  unfold outD; split
  · simp
  · exact (dec_length_lt V k hk).2 h
/-- What the inner loop keeps. -/
def Placed (T V m pl : Nat) : Prop := (pl = 0 ∧ V = T) ∨ ((pl = 1 ∨ pl = 10 ∨ pl = 100 ∨ pl = 1000) ∧ m < 10 * pl ∧ V * (10 * pl) + m = T)
theorem placed_step (T V m pl : Nat) (h : Placed T V m pl) (h0 : pl ≠ 0) : Placed T (V * 10 + m / pl) (m % pl) (pl / 10) ∧ m / pl < 10 := by
  rcases h with h | ⟨h1, h2, h3⟩
  · exact absurd h.1 h0
  · unfold Placed
    rcases h1 with rfl | rfl | rfl | rfl <;> omega
theorem mv_drop (b : Nat) (ws : List Nat) (j : Nat) (h : j < ws.length) : mv b (ws.drop j) = ws[j]?.getD 0 + b * mv b (ws.drop (j + 1)) := by
  rw [List.drop_eq_getElem_cons h, mv]; simp [h]
end Lum
namespace Go.Proofs.YtnjaikomoljmjaaGreatDoor
open Go.RowKit Lum
open Go.Lib (decDigits itoa)
attribute [local go_sem] bs_get bs_extract_end bs_extract_from bs_extract bs_append

set_option maxHeartbeats 1000000 in
set_option maxRecDepth 20000 in
theorem r1_text (b o c : Nat) (ws : List Nat) (w : World) (h : NatsAt .i64 w (.slice (some ⟨b, o, none⟩) ws.length c) ws) (hd : ∀ d ∈ ws, d < 10000) (hl : ws.length ≤ 100000) :
    Calls Tryz.prog 170 #[.slice (some ⟨b, o, none⟩) ws.length c] w fun e w' => e = .returned (.string ⟨(decDigits (mv 10000 ws)).toArray⟩) ∧ Below w.heap.size w w' := by
  obtain ⟨i0, hi, hz0, hz1, hz2⟩ := info_parts info_u8
  obtain ⟨hbw, _, hcell⟩ := h.cell
  have HC := Lib.hid hcell; clear hcell h
  have HD := Lib.hid hd; clear hd
  go_enter Tryz.func170, Tryz.ntmps170
  go_wp2
  go_loopw [3, 4, 5, 6, 7] (fun v q _ _ _ wr => ∃ (p : Option Addr) (cc : Nat) (i : Int) (V : Nat), v = .slice p (outD V).length cc ∧ q = .int .i64 i ∧ i < ws.length ∧ -1 ≤ i ∧ Hid (V = mv 10000 (ws.drop (i + 1).toNat)) ∧ 
    Hid (OwnN .u8 w.heap.size 5 wr p cc ((outD V).map (·.toNat))) ∧ Below w.heap.size w wr) (fun _ q _ _ _ _ => (intOf q + 1).toNat)
  case atStart =>
    exact ⟨none, 0, (ws.length : Int) - 1, 0, rfl, rfl, by omega, by omega, (show _ = _ by rw [show ((ws.length : Int) - 1 + 1).toNat = ws.length by omega]; simp [mv]), OwnN.nil _ _ _ _, Below.refl _ _⟩
  case round =>
    obtain ⟨p, cc, i, V, rfl, rfl, hi1, hi2, HV, HO, hb⟩ := hrel
    by_cases hq : 0 ≤ i
    · obtain ⟨J, rfl⟩ : ∃ J : Nat, i = J := ⟨i.toNat, by omega⟩
      have hJ : J < ws.length := by omega
      have hc1 := HC.out J hJ
      have hc2 : wr.cell? ⟨b, o + J, none⟩ = some (.int .i64 (ws[J]?.getD 0 : Nat)) := (hb.cell (p := ⟨b, o + J, none⟩) hbw).trans hc1
      clear hc1
      have hdj : ws[J]?.getD 0 < 10000 := by
        have := HD.out ws[J] (List.getElem_mem hJ); simpa [hJ] using this
      have hmv := mv_drop 10000 ws J hJ
      have HMV := Lib.hid hmv; clear hmv
      generalize ws[J]?.getD 0 = x at *
      have hT : V * 10000 + x < 10 ^ (4 * ws.length) := by
        have h1 := mv_lt 10000 (ws.drop J) (fun d hd => HD.out d (List.mem_of_mem_drop hd))
        rw [HMV.out, show mv 10000 (ws.drop (J + 1)) = V from (HV.out).symm] at h1
        have h2 : (10000 : Nat) ^ (ws.drop J).length ≤ 10000 ^ ws.length := Nat.pow_le_pow_right (by omega) (by simp)
        rw [Nat.pow_mul, show (10 : Nat) ^ 4 = 10000 by decide]; omega
      have HT := Lib.hid hT; clear hT
      go_wp2
      obtain ⟨wo, hwo⟩ : ∃ wo : World, wo = wr := ⟨_, rfl⟩
      rw [← hwo] at hc2 HO hb ⊢
      clear hwo
      go_loopw [3, 5, 6, 7] (fun v n pl _ wi => ∃ (p : Option Addr) (cc : Nat) (V' m q : Nat), v = .slice p (outD V').length cc ∧ n = .int .i64 m ∧ pl = .int .i64 q ∧ Hid (Placed (V * 10000 + x) V' m q) ∧ m < 10000 ∧ q ≤ 1000 ∧
        Hid (OwnN .u8 w.heap.size 5 wi p cc ((outD V').map (·.toNat))) ∧ Below w.heap.size w wi) (fun _ _ pl _ _ => (intOf pl).toNat)
      case atStart =>
        exact ⟨p, cc, V, x, 1000, rfl, rfl, rfl, .inr ⟨by omega, by omega, by omega⟩, by omega, by omega, HO, hb⟩
      case round =>
        obtain ⟨p1, c1, V', m, q, rfl, rfl, rfl, HP, hm, hq1, HO1, hb1⟩ := hrel
        have hlen : (outD V').length ≤ 400004 := by
          have h1 : V' < 10 ^ (4 * ws.length + 1) := by
            have h2 : V' ≤ V * 10000 + x := by
              rcases HP.out with h | ⟨h1, h2, h3⟩
              · omega
              · rcases h1 with rfl | rfl | rfl | rfl <;> omega
            have := HT.out
            rw [Nat.pow_succ]; omega
          have := outD_len V' _ h1 (by omega)
          omega
        by_cases hq0 : q = 0
        · subst hq0
          have hV' : V' = V * 10000 + x := by
            rcases HP.out with h | ⟨h1, h2, h3⟩
            · exact h.2
            · omega
          have HV' := Lib.hid hV'; clear hV'
          go_wp2
          go_roundw
          case rel =>
            refine ⟨p1, c1, J - 1, V', rfl, rfl, by omega, by omega, ?_, HO1, hb1⟩
            show _ = _
            rw [HV'.out, show ((J : Int) - 1 + 1).toNat = J by omega, HMV.out, show mv 10000 (ws.drop (J + 1)) = V from (HV.out).symm]; omega
          case measure => simp [intOf]
        · obtain ⟨hstep, hd10⟩ := placed_step _ _ _ _ HP.out hq0
          have HST := Lib.hid hstep; clear hstep
          have q0 : 0 < (q : Int) := by omega
          obtain ⟨d, hd⟩ : ∃ d : Nat, (m : Int) / (q : Int) = d := ⟨m / q, by simp⟩
          have hd2 : m / q = d := by omega
          rw [hd2] at hd10
          have hstep := HST.out
          rw [hd2] at hstep
          clear hd2 HST
          have HST := Lib.hid hstep; clear hstep
          by_cases hd0 : d = 0
          · subst hd0
            have hd' : (m : Int) / (q : Int) = 0 := hd
            clear hd
            by_cases hV0 : V' = 0
            · subst hV0
              have hl0 : (outD 0).length = 0 := rfl
              go_wp2
              go_roundw
              case rel =>
                refine ⟨p1, c1, 0, m % q, q / 10, ?_, val_int (by simp), val_int (by simp), HST.out, by have := Nat.mod_le m q; omega, by omega, HO1, hb1⟩
                rfl
              case measure => simp [intOf]; omega
            · have hl0 : 0 < (outD V').length := by
                have := mt (outD_nil V').1 hV0
                cases h : outD V' with
                | nil => exact absurd h this
                | cons => simp
              have hy := outD_yes V' 0 (by omega) (.inr hV0)
              have HY := Lib.hid hy; clear hy
              have hO1 := HO1.out
              have hbs := hb1.size
              go_wp2_with (at_builtin; refine wpList_appN rfl _ _ 133 rfl .u8 w.heap.size 5 i0 (.int .u8 0) 1 Tryz.underlying133 hi hz0 hz1 hz2 rfl (by decide) p1 c1 ((outD V').map (·.toNat)) _ 48 _ (by omega) (by rw [List.length_map]; rfl) hO1 rfl (by rw [List.length_map]; omega) hbs ?_; rintro p2 c2 w2 hO2 hb2)
              go_roundw
              case rel =>
                refine ⟨p2, c2, V' * 10 + 0, m % q, q / 10, ?_, val_int (by simp), val_int (by simp), HST.out, by have := Nat.mod_le m q; omega, by omega, ?_, hb1.trans hb2⟩
                · rw [HY.out]; simp
                · show OwnN _ _ _ _ _ _ _
                  rw [HY.out, List.map_append]; exact hO2
              case measure => simp [intOf]; omega
          · have hd0' : ((d : Int) != 0) = true := by simp; omega
            have hy := outD_yes V' d hd10 (.inl hd0)
            have HY := Lib.hid hy; clear hy
            have hO1 := HO1.out
            have hbs := hb1.size
            go_wp2_with (at_builtin; refine wpList_appN rfl _ _ 133 rfl .u8 w.heap.size 5 i0 (.int .u8 0) 1 Tryz.underlying133 hi hz0 hz1 hz2 rfl (by decide) p1 c1 ((outD V').map (·.toNat)) _ (48 + d) _ (by omega) (by rw [List.length_map]; rfl) hO1 rfl (by rw [List.length_map]; omega) hbs ?_; rintro p2 c2 w2 hO2 hb2)
            go_roundw
            case rel =>
              refine ⟨p2, c2, V' * 10 + d, m % q, q / 10, ?_, val_int (by simp), val_int (by simp), HST.out, by have := Nat.mod_le m q; omega, by omega, ?_, hb1.trans hb2⟩
              · rw [HY.out]; simp
              · show OwnN _ _ _ _ _ _ _
                rw [HY.out, List.map_append]
                rw [show [UInt8.ofNat (48 + d)].map (·.toNat) = [48 + d] by rw [List.map_cons, List.map_nil, dig_toNat hd10]]
                exact hO2
            case measure => simp [intOf]; omega
    · have hV := HV.out
      rw [show (i + 1).toNat = 0 by omega, List.drop_zero] at hV
      have HVe := Lib.hid hV
      have hO := HO.out.nats
      clear HV HO hV
      by_cases hV0 : V = 0
      · subst hV0
        have hl0 : (outD 0).length = 0 := rfl
        go_wp2
        go_ret
        exact ⟨ret_str (by rw [← HVe.out, dec_zero]), hb⟩
      · have ho : outD V = decDigits V := by rw [outD, if_neg hV0]
        rw [ho] at hO ⊢
        rw [List.length_map] at hO
        have hl0 : (((decDigits V).length : Int) == 0) = false := by
          have := dec_length_pos V
          rw [beq_eq_false_iff_ne]; omega
        have kc := conv_nats (P := Tryz.prog) 133 9 5 Tryz.underlying133 Tryz.underlying5 Tryz.underlying9 wr p cc (decDigits V) hO (dec_ne V)
        clear hO ho
        go_wp2
        go_ret
        exact ⟨ret_str (by rw [← HVe.out]), hb⟩
end Go.Proofs.YtnjaikomoljmjaaGreatDoor

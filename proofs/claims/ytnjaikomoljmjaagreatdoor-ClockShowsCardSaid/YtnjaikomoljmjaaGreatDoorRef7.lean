/-
  The reference of layer 1 (integer): times.
-/
import Derived.Test.YtnjaikomoljmjaaGreatDoorRef6
set_option linter.unusedVariables false
set_option linter.unusedSimpArgs false
namespace Lum
/-- Behind the words of the other number nothing is carried further. -/
theorem carry_out (b t c V T : Nat) (hb : 0 < b) (h : V + c * b ^ t = T) (hT : T < b ^ (t + 1)) : (c + (V / b ^ t % b + 0)) / b = 0 := by
  have hp : 0 < b ^ t := Nat.pow_pos hb
  have h1 : V / b ^ t + c = T / b ^ t := by rw [← h, Nat.add_mul_div_right _ _ hp]
  have h2 : T / b ^ t < b := by rw [Nat.div_lt_iff_lt_mul hp]; rw [Nat.pow_succ] at hT; grind
  have h3 := Nat.mod_le (V / b ^ t) b
  exact Nat.div_eq_of_lt (by omega)
theorem mod_mul_lt (b i m n l : Nat) (hn : n < b ^ l) (hb : 0 < b) : m % b ^ i * n < b ^ (i + l) := by
  have h1 := Nat.mod_lt m (Nat.pow_pos hb : 0 < b ^ i)
  rw [Nat.pow_add]
  rcases Nat.eq_zero_or_pos n with h0 | h0
  · subst h0; rw [Nat.mul_zero]; exact Nat.mul_pos (Nat.pow_pos hb) (Nat.pow_pos hb)
  · exact Nat.lt_of_lt_of_le (Nat.mul_lt_mul_of_pos_right h1 h0) (Nat.mul_le_mul_left _ (by omega))
theorem row_sum (b i m n : Nat) : m % b ^ i * n + m / b ^ i % b * n * b ^ i = m % b ^ (i + 1) * n := by
  rw [mod_succ b m]; grind
theorem set_lt (b : Nat) (ws : List Nat) (j d : Nat) (h : ∀ x ∈ ws, x < b) (hd : d < b) : ∀ x ∈ ws.set j d, x < b := by
  intro x hx
  rcases List.mem_or_eq_of_mem_set hx with h1 | h1
  · exact h x h1
  · subst h1; exact hd
end Lum
namespace Go.Proofs.YtnjaikomoljmjaaGreatDoor
open Go.RowKit Lum
open Go.Lib (decDigits itoa)
attribute [local go_sem] bs_get bs_extract_end bs_extract_from bs_extract bs_append

set_option maxHeartbeats 4000000 in
set_option maxRecDepth 20000 in
theorem r1_times (m n : Nat) (w : World) (hm : (decDigits m).length ≤ 40000) (hn : (decDigits n).length ≤ 40000) :
    Calls Tryz.prog 142 #[.string ⟨(decDigits m).toArray⟩, .string ⟨(decDigits n).toArray⟩] w fun e w' => e = .returned (.string ⟨(decDigits (m * n)).toArray⟩) ∧ Below w.heap.size w w' := by
  obtain ⟨i0, hi, hz0, hz1, hz2⟩ := info_parts info_int
  have k1 := fun W => r1_words (decDigits m) W (dec_digits m) (dec_ne m) (by omega)
  have k2 := fun W => r1_words (decDigits n) W (dec_digits n) (dec_ne n) (by omega)
  rw [natOf_dec] at k1 k2
  have K1 := Lib.hid k1; clear k1
  have K2 := Lib.hid k2; clear k2
  generalize decDigits m = a at *
  generalize decDigits n = b at *
  go_enter Tryz.func142, Tryz.ntmps142
  go_wp2_with fail
  refine (K1.out _).mono ?_
  rintro e w1 ⟨b1, o1, c1, xs, rfl, ha1, ha2, ha0, ha3, ha4, hb1⟩
  have HA1 := Lib.hid ha1; clear ha1
  have HA2 := Lib.hid ha2; clear ha2
  have HA4 := Lib.hid ha4; clear ha4
  go_wp2_with fail
  refine (K2.out _).mono ?_
  rintro e w2 ⟨b2, o2, c2, ys, rfl, hc1, hc2, hc0, hc3, hc4, hb2⟩
  have HC1 := Lib.hid hc1; clear hc1
  have HC2 := Lib.hid hc2; clear hc2
  have HC4 := Lib.hid hc4; clear hc4
  have hb := hb1.trans (hb2.mono hb1.size)
  have HA5 := Lib.hid (HA4.out.below hb2); clear HA4 hb1 hb2
  obtain ⟨hs1, _, hx⟩ := HA5.out.cell
  obtain ⟨hs2, _, hy⟩ := HC4.out.cell
  have HX := Lib.hid hx; clear hx
  have HY := Lib.hid hy; clear hy
  have hmx := mv_lt 10000 xs HA2.out
  have hny := mv_lt 10000 ys HC2.out
  rw [HA1.out] at hmx
  rw [HC1.out] at hny
  have HMX := Lib.hid hmx; clear hmx
  have HNY := Lib.hid hny; clear hny
  go_wp2_with (at_make; refine wpList_makeN _ rfl _ _ 171 rfl .i64 w2.heap.size 3 i0 Tryz.underlying171 hi hz0 hz1 (by rw [hz2]; decide) .i64 .i64 _ _ (xs.length + ys.length + 1) rfl rfl (by omega) (by omega) (by omega) (Nat.le_refl _) ?_; rintro w3 hr3 hb3 hs3)
  have HR3 := Lib.hid hr3; clear hr3
  go_loopw [8, 9, 10, 11] (fun q _ _ _ wr => ∃ (ws : List Nat) (i : Nat), q = .int .i64 i ∧ i ≤ xs.length ∧ Hid (ws.length = xs.length + ys.length + 1) ∧ Hid (mv 10000 ws = m % 10000 ^ i * n) ∧ Hid (∀ d ∈ ws, d < 10000) ∧
    Hid (RowN .i64 3 wr w2.heap.size ws) ∧ Below w2.heap.size w2 wr) (fun q _ _ _ _ => xs.length - (intOf q).toNat)
  case atStart =>
    exact ⟨List.replicate (xs.length + ys.length + 1) 0, 0, rfl, by omega, (show _ = _ by simp), (show _ = _ by simp [mv_zeros, Nat.mod_one]), (show ∀ d ∈ _, _ by simp), HR3, hb3⟩
  case round =>
    obtain ⟨ws, i, rfl, hil, HL, HV, HD, HR, hbr⟩ := hrel
    by_cases h1 : i < xs.length
    · obtain ⟨v, hve⟩ : ∃ v, v = m / 10000 ^ i % 10000 := ⟨_, rfl⟩
      have hv1 : v < 10000 := by rw [hve]; exact Nat.mod_lt _ (by omega)
      have hcv : w2.cell? ⟨b1, o1 + i, none⟩ = some (.int .i64 (v : Nat)) := by
        rw [HX.out i h1, word_at 10000 (by omega) xs HA2.out, HA1.out, ← hve]
      have HVE := Lib.hid hve; clear hve
      have hT := mod_mul_lt 10000 (i + 1) m n ys.length HNY.out (by omega)
      have HT := Lib.hid hT; clear hT
      have hsum := row_sum 10000 i m n
      rw [← HVE.out] at hsum
      have HSUM := Lib.hid hsum; clear hsum
      go_wp2
      obtain ⟨wo, hwo⟩ : ∃ wo : World, wo = wr := ⟨_, rfl⟩
      rw [← hwo] at HR hbr ⊢
      clear hwo
      go_loopw [9, 10, 11] (fun cs q _ wi => ∃ (zs : List Nat) (k c : Nat), cs = .int .i64 c ∧ q = .int .i64 k ∧ k ≤ ys.length + 1 ∧ (k ≤ ys.length ∨ c = 0) ∧ c < 10000 ∧ Hid (zs.length = xs.length + ys.length + 1) ∧
        Hid (mv 10000 zs + c * 10000 ^ (i + k) = mv 10000 ws + v * (n % 10000 ^ k) * 10000 ^ i) ∧ Hid (∀ d ∈ zs, d < 10000) ∧ Hid (RowN .i64 3 wi w2.heap.size zs) ∧ Below w2.heap.size w2 wi) (fun _ q _ _ => ys.length + 2 - (intOf q).toNat)
      case atStart => exact ⟨ws, 0, 0, rfl, rfl, by omega, by omega, by omega, HL, (show _ = _ by simp [Nat.mod_one]), HD, HR, hbr⟩
      case round =>
        obtain ⟨zs, k, c, rfl, rfl, hk, hor, hc, HLz, HVz, HDz, HRz, hbz⟩ := hrel
        obtain ⟨o, hoe⟩ : ∃ o, o = mv 10000 zs / 10000 ^ (i + k) % 10000 := ⟨_, rfl⟩
        have ho1 : o < 10000 := by rw [hoe]; exact Nat.mod_lt _ (by omega)
        have hlz : i + k < zs.length ∨ ys.length < k := by have := HLz.out; omega
        have hco : i + k < zs.length → wr.cell? ⟨w2.heap.size, i + k, none⟩ = some (.int .i64 (o : Nat)) := fun h => by
          rw [HRz.out.cell (i + k) h, word_at 10000 (by omega) zs HDz.out, ← hoe]
        have hfr := HRz.out.frozen (i + k)
        have hos : i + k < zs.length → zs.getD (i + k) 0 = o := fun h => by
          rw [List.getD_eq_getElem?_getD, word_at 10000 (by omega) zs HDz.out, ← hoe]
        have hcv' : wr.cell? ⟨b1, o1 + i, none⟩ = some (.int .i64 (v : Nat)) := (hbz.cell (p := ⟨b1, o1 + i, none⟩) hs1).trans hcv
        by_cases h2 : k < ys.length
        · obtain ⟨x, hxe⟩ : ∃ x, x = n / 10000 ^ k % 10000 := ⟨_, rfl⟩
          have hx1 : x < 10000 := by rw [hxe]; exact Nat.mod_lt _ (by omega)
          have hcx : wr.cell? ⟨b2, o2 + k, none⟩ = some (.int .i64 (x : Nat)) := by
            rw [hbz.cell (p := ⟨b2, o2 + k, none⟩) hs2, HY.out k h2, word_at 10000 (by omega) ys HC2.out, HC1.out, ← hxe]
          have hik : i + k < zs.length := by have := HLz.out; omega
          have hco' := hco hik
          have hos' := hos hik
          clear hco hlz hos
          have hrc := row_carry 10000 c o v x (by omega) hc ho1 hv1 hx1
          obtain ⟨t, ht⟩ : ∃ t, t = v * x := ⟨_, rfl⟩
          rw [← ht] at hrc
          have hti : (v : Int) * (x : Int) = (t : Int) := by rw [ht]; simp
          have hrow := row_step 10000 i k v n c (mv 10000 zs) (mv 10000 ws) o HVz.out (mv 10000 (zs.set (i + k) ((c + (o + t)) % 10000))) (by
            have := mv_set 10000 zs (i + k) ((c + (o + t)) % 10000) hik
            rw [hos'] at this
            rw [← hxe, ← ht]; exact this)
          rw [← hxe, ← ht] at hrow
          have HROW := Lib.hid hrow; clear hrow
          have hd2 := set_lt 10000 zs (i + k) ((c + (o + t)) % 10000) HDz.out (Nat.mod_lt _ (by omega))
          have HD2 := Lib.hid hd2; clear hd2
          have HOE := Lib.hid hoe; clear hoe
          have HXE := Lib.hid hxe; clear hxe
          have HTE := Lib.hid ht; clear ht
          have HOS := Lib.hid hos'; clear hos'
          obtain ⟨hrc1, hrc2⟩ := hrc
          have hw1 : IntKind.i64.wrap (t : Int) = (t : Int) := IntWalk.i64_in _ (by omega)
          have hw2 : IntKind.i64.wrap ((o : Int) + (c : Int) + (t : Int)) = (o : Int) + (c : Int) + (t : Int) := IntWalk.i64_in _ (by omega)
          have j1 : (0 : Int) ≤ (i : Int) := by omega
          have j2 : (i : Int) < (xs.length : Int) := by omega
          have j3 : (0 : Int) ≤ (k : Int) := by omega
          have j4 : (k : Int) < (ys.length : Int) := by omega
          go_wp2
          go_quiet (fail)
          clear hw1 hw2
          go_wp2
          go_roundw
          case rel =>
            refine ⟨zs.set (i + k) ((c + (o + t)) % 10000), k + 1, (c + (o + t)) / 10000, val_int (by omega), by go_num, by omega, by omega, hrc2, (show _ = _ by rw [List.length_set]; exact HLz.out), HROW.out, HD2.out, ?_, ?_⟩
            · have hset := (HRz.out.drewN nq).set (i + k) ((c + (o + t)) % 10000)
              rw [show (((c + (o + t)) % 10000 : Nat) : Int) = ((o : Int) + c + t) % 10000 by omega] at hset
              exact hset
            · exact (below_drewN hbz _).setCell (p := ⟨w2.heap.size, i + k, none⟩) (Nat.le_refl _) _
          case measure => simp [intOf]; omega
        · by_cases h0 : c = 0
          · subst h0
            have hvn : mv 10000 zs = m % 10000 ^ (i + 1) * n := by
              have h3 := HVz.out
              rw [mod_all 10000 n k (Nat.lt_of_lt_of_le HNY.out (Nat.pow_le_pow_right (by omega) (by omega))), HV.out] at h3
              rw [← HSUM.out]; omega
            have HVN := Lib.hid hvn; clear hvn hco hos hoe hlz hfr
            go_wp2
            go_roundw
            case rel => exact ⟨zs, i + 1, by go_num, by omega, HLz, HVN, HDz, HRz, hbz⟩
            case measure => simp [intOf]; omega
          · have hk0 : k = ys.length := by omega
            have hik : i + k < zs.length := by have := HLz.out; omega
            have hco' := hco hik
            have hos' := hos hik
            clear hco hlz hos
            have hx0 : n / 10000 ^ k % 10000 = 0 := word_beyond 10000 n _ k HNY.out (by omega) (by omega)
            have hcar : (c + (o + 0)) / 10000 = 0 := by
              have h3 := HVz.out
              rw [mod_all 10000 n k (Nat.lt_of_lt_of_le HNY.out (Nat.pow_le_pow_right (by omega) (by omega))), HV.out] at h3
              rw [hoe]
              refine carry_out 10000 (i + k) c (mv 10000 zs) _ (by omega) h3 ?_
              rw [HSUM.out, show i + k + 1 = i + 1 + ys.length by omega]; exact HT.out
            have hrow := row_step 10000 i k v n c (mv 10000 zs) (mv 10000 ws) o HVz.out (mv 10000 (zs.set (i + k) ((c + (o + 0)) % 10000))) (by
              have := mv_set 10000 zs (i + k) ((c + (o + 0)) % 10000) hik
              rw [hos'] at this
              rw [hx0, Nat.mul_zero]; exact this)
            rw [hx0, Nat.mul_zero, hcar] at hrow
            have HROW := Lib.hid hrow; clear hrow
            have hd2 := set_lt 10000 zs (i + k) ((c + (o + 0)) % 10000) HDz.out (Nat.mod_lt _ (by omega))
            have HD2 := Lib.hid hd2; clear hd2
            have hoc : o + c < 10000 := by omega
            clear hoe hos' hx0 hcar
            have HK := Lib.hid hk0; clear hk0
            have hcp : 0 < (c : Int) := by omega
            go_wp2
            go_roundw
            case rel =>
              refine ⟨zs.set (i + k) ((c + (o + 0)) % 10000), k + 1, 0, val_int (by omega), by go_num, by omega, by omega, by omega, (show _ = _ by rw [List.length_set]; exact HLz.out), HROW.out, HD2.out, ?_, ?_⟩
              · have hset := HRz.out.set (i + k) ((c + (o + 0)) % 10000)
                rw [show (((c + (o + 0)) % 10000 : Nat) : Int) = ((o : Int) + c) % 10000 by omega] at hset
                exact hset
              · exact hbz.setCell (p := ⟨w2.heap.size, i + k, none⟩) (Nat.le_refl _) _
            case measure => simp [intOf]; omega
    · obtain rfl : i = xs.length := by omega
      have hend := HV.out
      rw [mod_all 10000 m _ HMX.out] at hend
      have hN := HR.out.nats (by have := HL.out; unfold maxLen; omega)
      have ht := fun W hW => r1_text w2.heap.size 0 ws.length ws W hW HD.out (by have := HL.out; omega)
      rw [hend] at ht
      rw [HL.out] at ht hN
      have HT := Lib.hid ht; clear ht hend
      go_wp2_with (go_at_call 170; refine (HT.out _ hN).mono ?_; rintro e w4 ⟨rfl, hb4⟩)
      go_ret
      exact ⟨rfl, (hb.trans (hbr.mono hb.size)).trans (hb4.mono (Nat.le_trans hb.size hbr.size))⟩
end Go.Proofs.YtnjaikomoljmjaaGreatDoor

/-
  Magnitudes: times.
-/
import Derived.Test.YtnjaikomoljmjaaGreatDoorMag2
set_option linter.unusedVariables false
set_option linter.unusedSimpArgs false
namespace Go.Proofs.YtnjaikomoljmjaaGreatDoor
open Go.RowKit Go.Shelf Lum
attribute [local go_sem] bs_get bs_extract_end bs_extract_from bs_extract bs_append

set_option maxRecDepth 20000 in
set_option maxHeartbeats 4000000 in
theorem mag_times (p1 p2 : Option Addr) (n1 c1 n2 c2 m n : Nat) (w : World) (h1 : MagAt w p1 n1 c1 m) (h2 : MagAt w p2 n2 c2 n) (hn1 : n1 ≤ 100000) (hn2 : n2 ≤ 100000) :
    Calls Tryz.prog 173 #[.slice p1 n1 c1, .slice p2 n2 c2] w fun e w' => ∃ p' n' c', e = .returned (.slice p' n' c') ∧ MagAt w' p' n' c' (m * n) ∧ Below w.heap.size w w' := by
  obtain ⟨i0, hi, hz0, hz1, hz2⟩ := info_parts info_u64
  have a2 := fun W (hb : Below w.heap.size w W) i hi => mag_at p2 n2 c2 n i W (h2.below hb) (by omega) hi
  have hm := below_len m n1 (by rw [← h1.n]; omega)
  have HM := Lib.hid hm; clear hm
  have hn := below_len n n2 (by rw [← h2.n]; omega)
  have HN := Lib.hid hn; clear hn
  have A2 := Lib.hid a2; clear a2
  have H1 := Lib.hid h1; clear h1 h2
  go_enter Tryz.func173, Tryz.ntmps173
  go_wp2_with (at_make; refine wpList_makeN _ rfl _ _ 140 rfl .u64 w.heap.size 182 i0 Tryz.underlying140 hi hz0 hz1 (by rw [hz2]; decide) .i64 .i64 _ _ (n1 + n2) rfl rfl (by omega) (by omega) (by omega) (Nat.le_refl _) ?_; rintro w3 hr3 hb3 hs3)
  have HR3 := Lib.hid hr3; clear hr3
  go_loopw [6, 7, 8, 9, 18, 26] (fun _ _ _ _ q _ wr => ∃ (ws : List Nat) (i : Nat), q = .int .i64 i ∧ i ≤ n1 ∧ Hid (ws.length = n1 + n2) ∧ Hid (mv B9 ws = m % B9 ^ i * n) ∧ Hid (∀ d ∈ ws, d < B9) ∧
    Hid (RowN .u64 182 wr w.heap.size ws) ∧ Below w.heap.size w wr) (fun _ _ _ _ q _ _ => n1 - (intOf q).toNat)
  case atStart =>
    exact ⟨List.replicate (n1 + n2) 0, 0, rfl, by omega, (show _ = _ by simp), (show _ = _ by simp [mv_zeros, Nat.mod_one]), (show ∀ d ∈ _, _ by simp [B9_pos]), HR3, hb3⟩
  case round =>
    obtain ⟨ws, i, rfl, hil, HL, HV, HD, HR, hbr⟩ := hrel
    by_cases h1 : i < n1
    · obtain ⟨b1, o1, rfl, hs1, hcs⟩ := H1.out.cells (by omega)
      have hcv := hcs i h1
      clear hcs
      have hv1 := wd_lt m i
      have hT := mod_mul_lt B9 (i + 1) m n n2 HN.out B9_pos
      have HT := Lib.hid hT; clear hT
      have hsum := row_sum B9 i m n
      change _ + wd m i * n * _ = _ at hsum
      have hvx : wd m i = m / B9 ^ i % B9 := rfl
      generalize wd m i = v at *
      have HVX := Lib.hid hvx; clear hvx
      have HSUM := Lib.hid hsum; clear hsum
      have hcv2 : wr.cell? ⟨b1, o1 + i, none⟩ = some (.int .u64 (v : Nat)) := (hbr.cell (p := ⟨b1, o1 + i, none⟩) hs1).trans hcv
      go_wp2
      clear hcv2
      obtain ⟨wo, hwo⟩ : ∃ wo : World, wo = wr := ⟨_, rfl⟩
      rw [← hwo] at HR hbr ⊢
      clear hwo
      go_loopw [8, 9, 26] (fun cs _ q wi => ∃ (zs : List Nat) (k c : Nat), cs = .int .u64 c ∧ q = .int .i64 k ∧ k ≤ n2 + 1 ∧ c < 1000000000 ∧ Hid (zs.length = n1 + n2) ∧
        Hid (mv B9 zs + c * B9 ^ (i + k) = mv B9 ws + v * (n % B9 ^ k) * B9 ^ i) ∧ Hid (∀ d ∈ zs, d < B9) ∧ Hid (RowN .u64 182 wi w.heap.size zs) ∧ Below w.heap.size w wi) (fun _ _ q _ => n2 + 2 - (intOf q).toNat)
      case atStart => exact ⟨ws, 0, 0, rfl, rfl, by omega, by omega, HL, (show _ = _ by simp [Nat.mod_one]), HD, HR, hbr⟩
      case round =>
        obtain ⟨zs, k, c, rfl, rfl, hk, hc, HLz, HVz, HDz, HRz, hbz⟩ := hrel
        by_cases h2 : k < n2 + 1
        · have hik : i + k < zs.length := by have := HLz.out; omega
          obtain ⟨o, hoe⟩ : ∃ o, o = mv B9 zs / B9 ^ (i + k) % B9 := ⟨_, rfl⟩
          have ho1 : o < 1000000000 := by rw [hoe]; exact Nat.mod_lt _ B9_pos
          have hco : wr.cell? ⟨w.heap.size, i + k, none⟩ = some (.int .u64 (o : Nat)) := by
            rw [HRz.out.cell (i + k) hik, word_at B9 B9_pos zs HDz.out, ← hoe]
          have hfr := HRz.out.frozen (i + k)
          have hos : zs.getD (i + k) 0 = o := by
            rw [List.getD_eq_getElem?_getD, word_at B9 B9_pos zs HDz.out, ← hoe]
          have e2 := fun j => (A2.out (wr.drewN j) (below_drewN hbz _) k (by omega)).mono (fun e w' h => (⟨h.1, h.2.symm⟩ : _ ∧ w' = wr.drewN j))
          have hx1 := wd_lt n k
          have hrow := fun V' hV' => row_step B9 i k v n c (mv B9 zs) (mv B9 ws) o HVz.out V' hV'
          change ∀ V' : Nat, V' + _ = mv B9 zs + _ * ((c + (o + v * wd n k)) % B9) → V' + (c + (o + v * wd n k)) / B9 * _ = _ at hrow
          generalize wd n k = x at *
          have hrc := row_carry B9 c o v x B9_pos hc ho1 hv1 hx1
          obtain ⟨t, ht⟩ : ∃ t, t = v * x := ⟨_, rfl⟩
          rw [← ht] at hrc
          have hti : (v : Int) * (x : Int) = (t : Int) := by rw [ht]; simp
          have hrow2 := hrow (mv B9 (zs.set (i + k) ((c + (o + t)) % B9))) (by
            have := mv_set B9 zs (i + k) ((c + (o + t)) % B9) hik
            rw [hos] at this
            rw [← ht]; exact this)
          rw [← ht] at hrow2
          clear hrow
          have HROW := Lib.hid hrow2; clear hrow2
          have hd2 := set_lt B9 zs (i + k) ((c + (o + t)) % B9) HDz.out (Nat.mod_lt _ B9_pos)
          have HD2 := Lib.hid hd2; clear hd2
          have HOE := Lib.hid hoe; clear hoe
          have HTE := Lib.hid ht; clear ht
          have HOS := Lib.hid hos; clear hos
          obtain ⟨hrc1, hrc2⟩ := hrc
          have hrc3 : c + (o + t) < 1000000000000000000 := hrc1
          have hrc4 : (c + (o + t)) / 1000000000 < 1000000000 := hrc2
          clear hrc1 hrc2
          have hne : ((i : Int) + (k : Int) == (n1 : Int) + (n2 : Int)) = false := by
            rw [beq_eq_false_iff_ne]; have := HLz.out; omega
          have hw0 : IntKind.i64.wrap ((i : Int) + (k : Int)) = (i : Int) + (k : Int) := IntWalk.i64_in _ (by omega)
          have hw1 : IntKind.u64.wrap (t : Int) = (t : Int) := IntWalk.u64_in _ (by omega)
          have hw3 : IntKind.u64.wrap ((o : Int) + (t : Int)) = (o : Int) + (t : Int) := IntWalk.u64_in _ (by omega)
          have hw2 : IntKind.u64.wrap ((c : Int) + ((o : Int) + (t : Int))) = (c : Int) + ((o : Int) + (t : Int)) := IntWalk.u64_in _ (by omega)
          have j1 : (0 : Int) ≤ (i : Int) + (k : Int) := by omega
          have j2 : (i : Int) + (k : Int) < (n1 : Int) + (n2 : Int) := by have := HLz.out; omega
          have j3 : ((i : Int) + (k : Int)).toNat = i + k := by omega
          go_wp2
          go_quiet ((go_at_call 202; exact Calls.quiet_of_same (e2 _)))
          clear hw0 hw1 hw2 hw3 hne
          go_wp2
          go_roundw
          case rel =>
            refine ⟨zs.set (i + k) ((c + (o + t)) % B9), k + 1, (c + (o + t)) / 1000000000, val_int (by omega), by go_num, by omega, hrc4, (show _ = _ by rw [List.length_set]; exact HLz.out), HROW.out, HD2.out, ?_, ?_⟩
            · have hset := (HRz.out.drewN nq).set (i + k) ((c + (o + t)) % B9)
              rw [show (((c + (o + t)) % B9 : Nat) : Int) = ((c : Int) + (o + t)) % 1000000000 by rw [B9_num]; omega] at hset
              exact hset
            · exact (below_drewN hbz _).setCell (p := ⟨w.heap.size, i + k, none⟩) (Nat.le_refl _) _
          case measure => simp [intOf]; omega
        · obtain rfl : k = n2 + 1 := by omega
          have hend := row_end B9 i n2 m n c _ (Nat.lt_of_lt_of_le HN.out (Nat.pow_le_pow_right B9_pos (by omega))) (by
            refine Nat.lt_of_lt_of_le HT.out (Nat.pow_le_pow_right B9_pos (by omega))) (by
            have h3 := HVz.out
            rw [HV.out, HVX.out] at h3
            exact h3)
          have HVN := Lib.hid hend.1; clear hend
          go_wp2
          go_roundw
          case rel => exact ⟨zs, i + 1, by go_num, by omega, HLz, HVN, HDz, HRz, hbz⟩
          case measure => simp [intOf]; omega
    · obtain rfl : i = n1 := by omega
      have hend := HV.out
      rw [mod_all B9 m _ HM.out] at hend
      have hN := HR.out.nats (by have := HL.out; unfold maxLen; omega)
      have hcut := fun W h => cut_any (some ⟨w.heap.size, 0, none⟩) ws.length ws W h HD.out (by have := HL.out; omega)
      rw [hend] at hcut
      rw [HL.out] at hcut hN
      have HC := Lib.hid hcut; clear hcut hend
      have HNN := Lib.hid hN; clear hN
      go_wp2_with fail
      refine (HC.out _ HNN.out).mono ?_
      rintro e w4 ⟨p', n', c', rfl, hM, hb4⟩
      have HMM := Lib.hid hM; clear hM
      go_wp2_with fail
      go_ret
      exact ⟨p', n', c', rfl, HMM.out, bch' hbr hb4⟩
end Go.Proofs.YtnjaikomoljmjaaGreatDoor

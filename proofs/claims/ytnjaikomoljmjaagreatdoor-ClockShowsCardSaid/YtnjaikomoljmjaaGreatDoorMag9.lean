/-
  Magnitudes: the long division by more than one word.
-/
import Derived.Test.YtnjaikomoljmjaaGreatDoorMag8
set_option linter.unusedVariables false
set_option linter.unusedSimpArgs false
namespace Go.Proofs.YtnjaikomoljmjaaGreatDoor
open Go.RowKit Go.Shelf Lum
attribute [local go_sem] bs_get bs_extract_end bs_extract_from bs_extract bs_append

set_option maxRecDepth 20000 in
set_option maxHeartbeats 8000000 in
theorem mag_divided_long (p1 p2 : Option Addr) (n1 c1 n2 c2 m d : Nat) (w : World) (h1 : MagAt w p1 n1 c1 m) (h2 : MagAt w p2 n2 c2 d) (hn1 : n1 ≤ 20000) (hn2 : n2 ≤ 20000) (hle : d ≤ m) (hn : 1 < n2) :
    Calls Tryz.prog 195 #[.slice p1 n1 c1, .slice p2 n2 c2] w fun e w' => ∃ pq nq cq pr nr cr, e = .returned (.tuple #[.slice pq nq cq, .slice pr nr cr]) ∧ MagAt w' pq nq cq (m / d) ∧ MagAt w' pr nr cr (m % d) ∧ Below w.heap.size w w' := by
  obtain ⟨i0, hi, hz0, hz1, hz2⟩ := info_parts info_u64
  have hC := mag_compare p1 p2 n1 c1 n2 c2 m d w h1 h2 (by omega) (by omega)
  have hd0 : d ≠ 0 := by
    rintro rfl
    have := h2.n; rw [magL_zero] at this; simp at this; omega
  obtain ⟨hs1, hs2, hs3⟩ := scale_ok d n2 hd0 h2.n
  obtain ⟨b, o, rfl, hb, hcs⟩ := h2.cells (by omega)
  obtain ⟨U, hU⟩ : ∃ U, U = n2 - 1 := ⟨_, rfl⟩
  have hcu := hcs (n2 - 1) (by omega)
  rw [← hU] at hcu hs1 hs2 hs3
  clear hcs
  obtain ⟨t, ht⟩ : ∃ t, t = wd d U := ⟨_, rfl⟩
  rw [← ht] at hcu hs1 hs2 hs3
  obtain ⟨s, hs⟩ : ∃ s, s = B9 / (t + 1) := ⟨_, rfl⟩
  rw [← hs] at hs3
  have hs0 : 0 < s := by rw [hs]; exact Nat.div_pos (by omega) (by omega)
  have hsl : s < 1000000000 := by
    rw [hs]; exact Nat.div_lt_self B9_pos (by omega)
  have hti : (1000000000 : Int).tdiv ((t : Int) + 1) = (s : Int) := by
    rw [Int.tdiv_eq_ediv_of_nonneg (by omega), hs]
    show (1000000000 : Int) / ((t + 1 : Nat) : Int) = ((1000000000 / (t + 1) : Nat) : Int)
    rw [Int.natCast_ediv]; rfl
  have hti2 : (1000000000 : Int) / ((t : Int) + 1) = (s : Int) := by rw [← Int.tdiv_eq_ediv_of_nonneg (by omega)]; exact hti
  have ht9 : t < 1000000000 := hs1
  have hD0 : d * s ≠ 0 := by have := Nat.mul_pos (Nat.pos_of_ne_zero hd0) hs0; omega
  have hDl : (magL (d * s)).length = n2 := by
    have a1 : (magL (d * s)).length ≤ n2 := (magL_len _ _).2 hs3
    have a2 : (magL d).length ≤ (magL (d * s)).length := magL_mono (Nat.le_mul_of_pos_right _ hs0)
    have := h2.n; omega
  have hRl : (magL (m * s)).length ≤ n1 + 1 := by
    rw [magL_len, Nat.pow_succ]
    have := below_len m n1 (by rw [← h1.n]; omega)
    exact Nat.mul_lt_mul_of_lt_of_lt this hsl
  have hRD : d * s ≤ m * s := Nat.mul_le_mul_right _ hle
  have hUi : (n2 : Int) - 1 = (U : Int) := by omega
  have hUn : (U : Int) < (n2 : Int) := by omega
  have hsne : ¬ (t : Int) + 1 = 0 := by omega
  have HL := Lib.hid hle; clear hle
  have H1 := Lib.hid h1; clear h1
  have H2 := Lib.hid h2; clear h2
  have HD0 := Lib.hid hD0; clear hD0
  have HDL := Lib.hid hDl; clear hDl
  have HRL := Lib.hid hRl; clear hRl
  have HRD := Lib.hid hRD; clear hRD
  have HT := Lib.hid ht; clear ht
  have HS := Lib.hid hs; clear hs
  have HS3 := Lib.hid hs3; clear hs3
  have HD := Lib.hid hd0; clear hd0
  clear hU hs1
  have hn21 : (n2 == 1) = false := by rw [beq_eq_false_iff_ne]; omega
  go_enter Tryz.func195, Tryz.ntmps195
  go_wp2_with fail
  refine hC.mono ?_
  rintro e w1 ⟨z, rfl, hz, hb1⟩
  have hzn : ¬ z < 0 := by
    have := HL.out
    rcases hz with h | h | h <;> omega
  clear hz
  have hc1 : w1.cell? ⟨b, o + U, none⟩ = some (.int .u64 (t : Int)) := (hb1.cell (p := ⟨b, o + U, none⟩) hb).trans hcu
  go_wp2_with fail
  have hb2 : Below w.heap.size w (w1.alloc (.cells #[.int .u64 (s : Int)] 182)) := hb1.alloc hb1.size _
  have SC : MagAt (w1.alloc (.cells #[.int .u64 (s : Int)] 182)) (some ⟨w1.heap.size, 0, none⟩) 1 1 s := ⟨by rw [magL_one s hs0 hsl]; exact nats_one _ _ _ _, by rw [magL_one s hs0 hsl]; rfl⟩
  have hscb : w1.heap.size < (w1.alloc (.cells #[.int .u64 (s : Int)] 182)).heap.size := by simp
  generalize w1.alloc (.cells #[.int .u64 (s : Int)] 182) = w2 at *
  have HSC2 := Lib.hid SC; clear SC
  refine (mag_times p1 (some ⟨w1.heap.size, 0, none⟩) n1 c1 1 1 m s w2 (H1.out.below hb2) HSC2.out (by omega) (by omega)).mono ?_
  rintro e w3 ⟨pr0, nr0, cr0, rfl, hM1, hb3⟩
  have HM1 := Lib.hid hM1; clear hM1
  go_wp2_with fail
  refine (mag_times (some ⟨b, o, none⟩) (some ⟨w1.heap.size, 0, none⟩) n2 c2 1 1 d s w3 (H2.out.below (bch' hb2 hb3)) (HSC2.out.below hb3) (by omega) (by omega)).mono ?_
  rintro e w4 ⟨pb, nb, cb, rfl, hM2, hb4⟩
  have hnb : nb = n2 := by have := hM2.n; rw [HDL.out] at this; exact this
  subst hnb
  have HBY := Lib.hid hM2; clear hM2
  have HM3 := Lib.hid (HM1.out.below hb4); clear HM1
  have HSC := Lib.hid (HSC2.out.below (hb3.trans (hb4.mono hb3.size))); clear HSC2
  have hb5 := bch' (bch' hb2 hb3) hb4
  have hnr0 : nr0 ≤ n1 + 1 := by rw [HM3.out.n]; exact HRL.out
  have hnr1 : nb ≤ nr0 := by rw [HM3.out.n, ← HDL.out]; exact magL_mono HRD.out
  have hscb4 : w1.heap.size < w4.heap.size := Nat.lt_of_lt_of_le hscb (Nat.le_trans hb3.size hb4.size)
  have hsc4 : w4.cell? ⟨w1.heap.size, 0, none⟩ = some (.int .u64 (s : Int)) := by
    have := HSC.out.1
    rw [magL_one s hs0 hsl] at this
    exact this.cell.2.2 0 (by simp)
  clear hb1 hb2 hb3 hb4 hscb hc1 hcu
  generalize hR0 : m * s = R0 at *
  generalize hDD : d * s = D at *
  have HR0 := Lib.hid hR0; clear hR0
  have HDD := Lib.hid hDD; clear hDD
  obtain ⟨r0, hr0⟩ : ∃ r0, nr0 = nb + r0 := ⟨nr0 - nb, by omega⟩
  have hr0i : (nr0 : Int) - (nb : Int) = (r0 : Int) := by omega
  have HR0L := Lib.hid hr0; clear hr0
  have hr0l : r0 ≤ n1 + 1 := by omega
  go_wp2_with fail
  go_loopw [9, 11, 12, 13, 14, 15] (fun vr vo vk _ _ _ wr => ∃ (pr : Option Addr) (nr cr : Nat) (po : Option Addr) (co : Nat) (qs : List Nat) (r R : Nat), vr = .slice pr nr cr ∧ vo = .slice po qs.length co ∧ vk = .int .i64 ((r : Int) - 1) ∧ Hid (MagAt wr pr nr cr R) ∧ Hid (OwnN .u64 w4.heap.size 182 wr po co qs) ∧
    Hid (R < D * B9 ^ r) ∧ Hid (R0 = mv B9 qs.reverse * (B9 ^ r * D) + R) ∧ Hid (∀ x ∈ qs, x < B9) ∧ qs.length + r ≤ n1 + 2 ∧ Below w4.heap.size w4 wr) (fun _ _ vk _ _ _ _ => (intOf vk + 1).toNat)
  case atStart =>
    refine ⟨pr0, nr0, cr0, none, 0, [], r0 + 1, R0, rfl, rfl, val_int (by omega), HM3, OwnN.nil _ _ _ _, ?_, (show R0 = _ by simp [mv]), (show ∀ x ∈ _, _ by simp), by simp; omega, Below.refl _ _⟩
    show R0 < D * B9 ^ (r0 + 1)
    have h := div_start R0 D nr0 HD0.out HM3.out.n.symm
    rw [HDL.out, show nr0 - nb + 1 = r0 + 1 by have := HR0L.out; omega] at h
    rcases h with h | h
    · exact h
    · have := HM3.out.n; omega
  case round =>
    obtain ⟨pr, nr, cr, po, co, qs, r, R, rfl, rfl, rfl, HR, HO, HLT, HEQ, HX, hlen, hbr⟩ := hrel
    have hnr : nr ≤ n1 + 1 := by
      rw [HR.out.n]
      refine Nat.le_trans (magL_mono ?_) HRL.out
      have := HEQ.out; omega
    cases r with
    | zero =>
      rename World => wu
      have hnrl := HR.out.n
      subst hnrl
      rw [show ((0 : Nat) : Int) - 1 = -1 from rfl]
      have hql : qs.length ≤ 30000 := by omega
      have hbw : w4.heap.size ≤ wu.heap.size := hbr.size
      have hsr : wu.cell? ⟨w1.heap.size, 0, none⟩ = some (.int .u64 (s : Int)) := (hbr.cell (p := ⟨w1.heap.size, 0, none⟩) hscb4).trans hsc4
      have hON := OwnN.nats HO.out
      have HON := Lib.hid hON; clear hON
      go_wp2_with (at_make; refine wpList_makeN _ rfl _ _ 140 rfl .u64 wu.heap.size 182 i0 Tryz.underlying140 hi hz0 hz1 (by rw [hz2]; decide) .i64 .i64 _ _ qs.length rfl rfl rfl rfl (by omega) (Nat.le_refl _) ?_; rintro w5 hr5 hb5' hs5)
      have HR5 := Lib.hid hr5; clear hr5
      go_loopw [17, 18, 97] (fun _ _ vi wi => ∃ (zs : List Nat) (i : Nat), vi = .int .i64 i ∧ i ≤ qs.length ∧ zs.length = qs.length ∧ Hid (∀ j, j < i → zs[qs.length - 1 - j]? = qs[j]?) ∧ Hid (RowN .u64 182 wi wu.heap.size zs) ∧ Below wu.heap.size wu wi) (fun _ _ vi _ => qs.length - (intOf vi).toNat)
      case atStart =>
        exact ⟨List.replicate qs.length 0, 0, rfl, by omega, by simp, (show ∀ j, _ by intro j hj; omega), HR5, hb5'⟩
      case round =>
        obtain ⟨zs, i, rfl, hil, hzl, HZ, HRW, hbi⟩ := hrel
        by_cases hlt : i < qs.length
        · obtain ⟨b7, o7, rfl⟩ := HON.out.some (by omega)
          obtain ⟨g1, g2, g3⟩ := HON.out.cell
          have hc7 : wr.cell? ⟨b7, o7 + i, none⟩ = some (.int .u64 (qs[i]?.getD 0 : Nat)) := (hbi.cell (p := ⟨b7, o7 + i, none⟩) g1).trans (g3 i hlt)
          have hst := rev_step qs zs i hzl hlt HZ.out
          have HST := Lib.hid hst; clear hst
          obtain ⟨I, hI⟩ : ∃ I, I = qs.length - 1 - i := ⟨_, rfl⟩
          rw [← hI] at HST
          have hIi : (qs.length : Int) - 1 - (i : Int) = (I : Int) := by omega
          have hIl : I < qs.length := by omega
          have hIc := HRW.out.cell I (by omega)
          have hIf := HRW.out.frozen I
          have hqx : qs[i]?.getD 0 < 1000000000 := by
            have : qs[i]?.getD 0 = qs[i] := by simp [hlt]
            rw [this]; exact HX.out _ (List.getElem_mem hlt)
          generalize qs[i]?.getD 0 = d7 at *
          generalize zs[I]?.getD 0 = zz at hIc
          clear hI
          have HZL := Lib.hid hzl; clear hzl
          go_wp2
          go_roundw
          case rel => exact ⟨zs.set I d7, i + 1, by go_num, by omega, by rw [List.length_set]; exact HZL.out, HST.out, HRW.out.set I d7, hbi.setCell (p := ⟨wu.heap.size, I, none⟩) (Nat.le_refl _) _⟩
          case measure => simp [intOf]; omega
        · obtain rfl : i = qs.length := by omega
          have hzr := rev_end qs zs hzl HZ.out
          obtain ⟨hq, hr⟩ := div_end m d s (mv B9 qs.reverse) R hs0 HD.out (by
            have := HEQ.out
            rw [Nat.pow_zero, Nat.one_mul, ← HR0.out, ← HDD.out] at this; exact this) (by
            have := HLT.out
            rw [Nat.pow_zero, Nat.mul_one, ← HDD.out] at this; exact this)
          have hzd : ∀ x ∈ zs, x < B9 := by
            intro x hx; rw [hzr] at hx; exact HX.out x (List.mem_reverse.1 hx)
          have hnat := HRW.out.nats (by unfold maxLen; omega)
          have HNT := Lib.hid hnat; clear hnat
          have hcut := fun W h => cut_any (some ⟨wu.heap.size, 0, none⟩) zs.length zs W h hzd (by omega)
          rw [hzr, hq, ← hzr] at hcut
          have HCT := Lib.hid hcut; clear hcut hzd hq hzr
          have hW := mag_word pr cr R s wr (HR.out.below hbi) (by omega) hs0 hsl
          rw [hr] at hW
          have HW := Lib.hid hW; clear hW hr
          have hsw : wr.cell? ⟨w1.heap.size, 0, none⟩ = some (.int .u64 (s : Int)) := (hbi.cell (p := ⟨w1.heap.size, 0, none⟩) (Nat.lt_of_lt_of_le hscb4 hbw)).trans hsr
          have HZL := Lib.hid hzl
          rw [hzl] at HNT HCT
          clear hzl
          go_wp2_with fail
          refine HW.out.mono ?_
          rintro e w8 ⟨pf, nf, cf, rfl, hmf, hb8⟩
          have HMF := Lib.hid hmf; clear hmf HW
          go_wp2_with fail
          refine (HCT.out _ (HNT.out.below hb8)).mono ?_
          rintro e w9 ⟨pg, ng, cg, rfl, hmg, hb9⟩
          have HMG := Lib.hid hmg; clear hmg HCT
          go_wp2_with fail
          go_ret2
          exact ⟨pg, ng, cg, pf, nf, cf, rfl, HMG.out, HMF.out.below hb9, bch' (bch' (bch' (bch' hb5 hbr) hbi) hb8) hb9⟩
    | succ k =>
      have e : ((k + 1 : Nat) : Int) - 1 = k := by omega
      rw [e]
      have hBYr := HBY.out.below hbr
      have hpos : 0 < (magL D).length := by rw [HDL.out]; omega
      have hk2 : k ≤ 20010 := by omega
      have HLE := Lib.hid hlen; clear hlen
      have hdl := HDL.out
      go_wp2_with (first | (at_make; refine wpList_makeO _ rfl _ _ 140 rfl .u64 wr.heap.size 182 i0 Tryz.underlying140 hi hz0 hz1 (by rw [hz2]; decide) .i64 .i64 _ _ k rfl rfl rfl rfl (by omega) (Nat.le_refl _) ?_; rintro w5 ho5 hb5') | (at_builtin; refine wpList_appNs rfl _ _ 140 rfl .u64 wr.heap.size 182 i0 (.int .u64 0) 8 Tryz.underlying140 hi hz0 hz1 hz2 rfl (by decide) (some ⟨wr.heap.size, 0, none⟩) k (List.replicate k 0) w5 pb nb cb (magL D) (by rw [List.length_replicate]; rfl) ho5 rfl (hBYr.below hb5').1 hpos (by rw [List.length_replicate]; omega) hb5'.size ?_; rintro p6 c6 w6 ho6 hb6 hk6; rw [List.length_replicate]))
      have hb46 := hb5'.trans hb6
      have SH : Hid (MagAt w6 p6 (k + nb) c6 (D * B9 ^ k)) := by
        have h := OwnN.nats ho6
        rw [List.length_append, List.length_replicate, hdl, ← magL_shift D k HD0.out] at h
        exact ⟨h, by rw [magL_shift D k HD0.out, List.length_append, List.length_replicate, hdl]⟩
      have R6 := Lib.hid (HR.out.below hb46)
      have O6 := Lib.hid (OwnN.keep HO.out hb46)
      have BY6 := hBYr.below hb46
      have hwd : 0 < wd D (nb - 1) := by
        have := (scale_ok D nb HD0.out hdl.symm).2.1; exact this
      clear ho5 hb5' ho6 hb6 hk6 HR HO hBYr
      generalize hL2 : k + nb = nsh at *
      have hnsh : nsh ≤ 50000 := by omega
      have HL2 := Lib.hid hL2; clear hL2
      have hG := mag_guess pr pb nr cr nb cb R D k w6 R6.out BY6 (by omega) (by omega) (by omega) (by omega) hwd
      have hgl := gss_lt R D nb k
      have hge := gss_ge R D k nb hdl HD0.out HLT.out
      have htw := word_small R D k HD0.out HLT.out
      clear hwd hdl
      generalize gss R D nb k = g at *
      obtain ⟨tq, htq⟩ : ∃ tq, tq = R / (D * B9 ^ k) := ⟨_, rfl⟩
      rw [← htq] at hge htw
      have htw2 : tq < 1000000000 := htw
      have HTQ := Lib.hid htq; clear htq htw
      go_wp2_with fail
      refine hG.mono ?_
      rintro e w7 ⟨rfl, hb7⟩
      have R7 := Lib.hid (R6.out.below hb7); clear R6
      have O7 := Lib.hid (OwnN.keep O6.out hb7); clear O6
      have S7 := Lib.hid (SH.out.below hb7); clear SH
      clear BY6 hG
      have hb47 := bch' hb46 hb7
      clear hb7 hb46
      have hcut := cut_any (some ⟨w7.heap.size, 0, none⟩) 1 [g] (w7.alloc (.cells #[.int .u64 (g : Int)] 182)) (nats_one _ _ _ _) (by simp [B9_num]; exact hgl) (by simp)
      rw [mv_one] at hcut
      have HCT := Lib.hid hcut; clear hcut
      go_wp2_with fail
      refine HCT.out.mono ?_
      rintro e w8 ⟨pg, ng, cg, rfl, hgm, hb8⟩
      have hb78 := ((Below.refl w7.heap.size w7).alloc (Nat.le_refl _) (.cells #[.int .u64 (g : Int)] 182)).trans (hb8.mono (by simp))
      have hng : ng ≤ 1 := by
        rw [hgm.n, magL_len]; simpa [B9_num] using hgl
      have R8 := Lib.hid (R7.out.below hb78); clear R7
      have O8 := Lib.hid (OwnN.keep O7.out hb78); clear O7
      have S8 := Lib.hid (S7.out.below hb78); clear S7
      have hT := mag_times p6 pg nsh c6 ng cg (D * B9 ^ k) g w8 S8.out hgm (by omega) (by omega)
      have HTM := Lib.hid hT; clear hT hgm
      have hb48 := bch' hb47 hb78
      clear hb8 hb47 hb78 HCT
      go_wp2_with fail
      refine HTM.out.mono ?_
      rintro e w9 ⟨pp, np, cp, rfl, hpm, hb9⟩
      have R9 := Lib.hid (R8.out.below hb9); clear R8
      have O9 := Lib.hid (OwnN.keep O8.out hb9); clear O8
      have S9 := Lib.hid (S8.out.below hb9); clear S8
      have hb49 := bch' hb48 hb9
      clear hb9 hb48 HTM
      have HPM := Lib.hid hpm; clear hpm
      go_wp2_with fail
      obtain ⟨X, hX⟩ : ∃ X, X = D * B9 ^ k := ⟨_, rfl⟩
      rw [← hX] at HPM S9 HTQ
      have hXl : (magL X).length = nsh := by have := S9.out.n; exact this.symm
      have hX0 : 0 < X := by rw [hX]; exact Nat.mul_pos (Nat.pos_of_ne_zero HD0.out) (Nat.pow_pos B9_pos)
      have HXX := Lib.hid hX; clear hX
      have HXL := Lib.hid hXl; clear hXl
      obtain ⟨wo, hwo⟩ : ∃ wo : World, wo = w9 := ⟨_, rfl⟩
      rw [← hwo] at R9 O9 S9 hb49
      go_loopw [14, 15] (fun vq vp wi => ∃ (q : Nat) (pp : Option Addr) (np cp : Nat), vq = .int .u64 q ∧ vp = .slice pp np cp ∧ tq ≤ q ∧ q ≤ g ∧ Hid (MagAt wi pp np cp (X * q)) ∧ Below wo.heap.size wo wi) (fun vq _ _ => (intOf vq).toNat)
      case atStart =>
        exact ⟨g, pp, np, cp, rfl, rfl, hge, Nat.le_refl _, HPM, by rw [hwo]; exact Below.refl _ _⟩
      case round =>
        clear HPM hwo
        obtain ⟨q, pq, nq, cq, rfl, rfl, hq1, hq2, HPQ, hbi⟩ := hrel
        have hnq : nq ≤ nsh + 1 := by rw [HPQ.out.n]; exact prod_len X q nsh (by rw [B9_num]; omega) (Nat.le_of_eq HXL.out)
        have hcm := mag_compare pq pr nq cq nr cr (X * q) R _ HPQ.out (R9.out.below hbi) (by omega) (by omega)
        have HCM := Lib.hid hcm; clear hcm
        go_wp2_with fail
        refine HCM.out.mono ?_
        rintro e w10 ⟨z2, rfl, hz2', hb10⟩
        have hbo := bch' hbi hb10
        have PQ := Lib.hid (HPQ.out.below hb10)
        clear HPQ HCM
        by_cases hzp : 0 < z2
        · have hgt : tq < q := by
            rcases hz2' with h | h | h
            · omega
            · omega
            · rcases Nat.lt_or_ge tq q with h' | h'
              · exact h'
              · have e2 : q = R / X := by rw [← HTQ.out]; omega
                have := Nat.mul_div_le R X
                rw [e2] at h; omega
          clear hz2'
          have hsub : X * q - X = X * (q - 1) := by rw [Nat.mul_sub, Nat.mul_one]
          have hlsq : X ≤ X * q := Nat.le_mul_of_pos_right _ (by omega)
          have hls := mag_less pq p6 nq cq nsh c6 (X * q) X w10 PQ.out (S9.out.below hbo) (by omega) (by omega) hlsq
          rw [hsub] at hls
          have HLS := Lib.hid hls; clear hls hsub hlsq
          obtain ⟨q', rfl⟩ : ∃ q', q = q' + 1 := ⟨q - 1, by omega⟩
          go_wp2_with fail
          refine HLS.out.mono ?_
          rintro e w11 ⟨pl, nl, cl, rfl, hml, hb11⟩
          have HML := Lib.hid hml; clear hml
          go_wp2_with fail
          go_roundw
          case rel => exact ⟨q', pl, nl, cl, val_int (by omega), rfl, by omega, by omega, HML, bch' hbo hb11⟩
          case measure => simp [intOf]
        · have heq : X * q ≤ R := by
            rcases hz2' with h | h | h <;> omega
          have hqt : q = tq := by
            have : q ≤ R / X := (Nat.le_div_iff_mul_le hX0).2 (by rw [Nat.mul_comm]; exact heq)
            rw [← HTQ.out] at this; omega
          subst hqt
          clear hz2'
          have hls := mag_less_more pr pq nr cr nq cq R (X * q) w10 (R9.out.below hbo) PQ.out (by omega) (by omega) heq
          have HLS := Lib.hid hls; clear hls
          have hro := round_ok R0 R D k (mv B9 qs.reverse) HD0.out HLT.out HEQ.out
          rw [← HXX.out, ← HTQ.out] at hro
          have HRO := Lib.hid hro; clear hro heq
          go_wp2_with fail
          refine HLS.out.mono ?_
          rintro e w11 ⟨pn, nn, cn, rfl, hmn, hb11, hfr⟩
          have HMN := Lib.hid hmn; clear hmn
          have HFR := Lib.hid hfr; clear hfr HLS
          have hb12 := bch' hbo hb11
          have hO11 := OwnN.keep O9.out hb12
          have hbase : w4.heap.size ≤ w11.heap.size := Nat.le_trans hbr.size (Nat.le_trans hb49.size hb12.size)
          have hq9 : q < 1000000000 := by omega
          have hql : qs.length < 900000000 := by have := HLE.out; omega
          go_wp2_with (at_builtin; refine wpList_appNs rfl _ _ 140 rfl .u64 w4.heap.size 182 i0 (.int .u64 0) 8 Tryz.underlying140 hi hz0 hz1 hz2 rfl (by decide) po co qs _ (some ⟨w11.heap.size, 0, none⟩) 1 1 [q] rfl (OwnN.keep hO11 ((Below.refl w11.heap.size w11).alloc (Nat.le_refl _) _)) rfl (nats_one _ _ _ _) (by simp) (by simp; omega) (by rw [World.size_alloc]; omega) ?_; rintro p13 c13 w13 ho13 hb13 hk13)
          go_roundw
          case rel =>
            have hMN : MagAt w13 pn nn cn (R - X * q) := by
              refine ⟨hk13 .u64 _ _ (HMN.out.below ((Below.refl w11.heap.size w11).alloc (Nat.le_refl _) _)).1 ?_, HMN.out.2⟩
              rintro b' o' L C ad e1 e2
              injection e1 with e1 _ _
              have g1 := HFR.out _ e1
              have g2 := (OwnL.lt O9.out ad e2).2
              have g3 := hbo.size
              simp only at g1
              omega
            refine ⟨pn, nn, cn, p13, c13, qs ++ [q], k, R - X * q, rfl, by simp, val_int (by omega), hMN, ho13, ?_, ?_, ?_, by have := HLE.out; simp; omega, ?_⟩
            · show R - X * q < D * B9 ^ k
              rw [← HXX.out]; exact HRO.out.1
            · show R0 = _
              rw [List.reverse_append]
              exact HRO.out.2
            · intro x hx
              rcases List.mem_append.1 hx with h | h
              · exact HX.out x h
              · simp at h; rw [h]; exact hq9
            · exact ((hbr.trans (hb49.mono hbr.size)).trans (hb12.mono (Nat.le_trans hbr.size hb49.size))).trans (((Below.refl w4.heap.size w11).alloc hbase _).trans hb13)
          case measure => simp [intOf]
end Go.Proofs.YtnjaikomoljmjaaGreatDoor

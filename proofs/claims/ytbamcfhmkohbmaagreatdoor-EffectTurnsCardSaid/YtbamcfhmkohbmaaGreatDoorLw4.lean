/-
  Layer 28: the law EffectTurns.
-/
import Derived.Test.YtbamcfhmkohbmaaGreatDoorYk
import Derived.Test.YtbamcfhmkohbmaaGreatDoorYt
set_option linter.unusedVariables false
set_option linter.unusedSimpArgs false
namespace Lum
open Go Go.RowKit Go.Shelf
open Go.Lib (decDigits itoa)
theorem stE_nil {n t : Int} {cs : List Int} (ht : 0 ≤ t ∧ t ≤ 10000000) : stE [] n cs t = rnE (newR n cs t) := by
  by_cases h : rnE (newR n cs t) = 0
  · rw [stE_ok rfl ((wiB_iff _ _ _).2 ht) h (by rw [putL_nil]; simp), h]
  · exact stE_run rfl ((wiB_iff _ _ _).2 ht) h
/-- The running effect behind Rate. -/
def fastR (n t0 m : Int) (cs : List Int) : Rnx := ⟨n, cs, 100 * m, 200, 1, t0 + m⟩
theorem rated_new {n t0 m : Int} {cs : List Int} (h0 : 0 ≤ t0 ∧ t0 ≤ 65535) (hm : 0 ≤ m ∧ m ≤ 65535) : rateC (newR n cs t0) (t0 + m) 200 = ((100 * m, 200, 1, t0 + m), 0) := by
  unfold rateC chgT
  dsimp only [newR]
  have e1 : shZ 0 100 1 t0 (t0 + m) = 100 * m := by rw [sh_new (by omega)]; omega
  rw [mo_new h0.1 (by omega) (by omega), e1, if_neg (by decide), if_neg (by decide), if_neg (by rw [(rdB_iff (100 * m)).2 (by omega)]; decide)]
theorem rn_fast {n t0 m : Int} {cs : List Int} (h : chE cs = 0) (hn : 1 ≤ n ∧ n ≤ 1048576) (h0 : 0 ≤ t0 ∧ t0 ≤ 65535) (hm : 0 ≤ m ∧ m ≤ 65535) : rnE (fastR n t0 m cs) = 0 := by
  rw [rnE_ck (x := fastR n t0 m cs) (by dsimp only [fastR]; omega) h]
  unfold ckE
  rw [if_pos ((ckB_iff _ _ _ _).2 (by dsimp only [fastR]; omega))]
theorem putL_same {r x : Rnx} (h : r.ef = x.ef) : putL [r] x = [x] := by
  unfold putL
  simp [h]
theorem find_new {n t0 : Int} {cs : List Int} : [newR n cs t0].find? (fun x => x.ef == n) = some (newR n cs t0) := by simp [newR]
theorem rtE_turn {n t0 m : Int} {cs : List Int} (h : chE cs = 0) (hn : 1 ≤ n ∧ n ≤ 1048576) (h0 : 0 ≤ t0 ∧ t0 ≤ 65535) (hm : 0 ≤ m ∧ m ≤ 65535) : rtE [newR n cs t0] n (t0 + m) 200 = 0 := by
  rw [rtE_at (ordE_of (rns_one (rnE_newR h hn (by omega)))) find_new, rated_new h0 hm]
theorem rtL_turn {n t0 m : Int} {cs : List Int} (h0 : 0 ≤ t0 ∧ t0 ≤ 65535) (hm : 0 ≤ m ∧ m ≤ 65535) : rtL [newR n cs t0] n (t0 + m) 200 = [fastR n t0 m cs] := by
  rw [rtL_at find_new, putL_same (by rfl)]
  unfold ratedR
  rw [rated_new h0 hm]
  rfl
theorem stE_turn {n t0 m : Int} {cs : List Int} (h : chE cs = 0) (hn : 1 ≤ n ∧ n ≤ 1048576) (h0 : 0 ≤ t0 ∧ t0 ≤ 65535) (hm : 0 ≤ m ∧ m ≤ 65535) : stE [fastR n t0 m cs] n cs (t0 + m) = 0 :=
  stE_ok (ordE_of (rns_one (rn_fast h hn h0 hm))) ((wiB_iff _ _ _).2 (by omega)) (rnE_newR h hn (by omega)) (by rw [putL_same (by rfl)]; simp)
theorem suE_slow {x : Efx} {cs : List Int} {t0 t z : Int} {i : Nat} (hx : efE x = 0) (h : chE cs = 0) (hi : i < cs.length) (h0 : 0 ≤ t0) (h1 : t0 ≤ t) (h2 : t ≤ 10000000) (hz : 100 * (t - t0) = z) : suE [x] [newR x.nu cs t0] t (inI cs i) x.at_ = (showR (offQ x i cs.length z), 0) := by
  have ho := efOk hx
  have hr := (chOk h).rng i hi
  rw [suE_one hx (rnE_newR h ho.nu (by omega)) (paE_in (by have := ho.at_; omega)) (mo_new h0 h1 h2), toldQ_one (r := newR x.nu cs t0) rfl rfl (mem_at h hi)]
  dsimp only [newR]
  rw [sh_new h1, hz]
theorem suE_fast {x : Efx} {cs : List Int} {t0 m t z : Int} {i : Nat} (hx : efE x = 0) (h : chE cs = 0) (hi : i < cs.length) (h0 : 0 ≤ t0 ∧ t0 ≤ 65535) (hm : 0 ≤ m ∧ m ≤ 65535) (h1 : t0 + m ≤ t) (h2 : t ≤ 10000000) (hz : 100 * m + 200 * (t - (t0 + m)) = z) : suE [x] [fastR x.nu t0 m cs] t (inI cs i) x.at_ = (showR (offQ x i cs.length z), 0) := by
  have ho := efOk hx
  have hr := (chOk h).rng i hi
  have hmo : moE (fastR x.nu t0 m cs).ce (fastR x.nu t0 m cs).cr (fastR x.nu t0 m cs).cd (fastR x.nu t0 m cs).cl t = 0 := by
    dsimp only [fastR]
    unfold moE
    rw [if_neg (by rw [(ckB_iff (100 * m) 200 1 (t0 + m)).2 (by omega)]; decide), if_neg (by rw [(wiB_iff t 0 10000000).2 (by omega)]; decide), if_neg (by omega)]
  rw [suE_one hx (rn_fast h ho.nu h0 hm) (paE_in (by have := ho.at_; omega)) hmo, toldQ_one (r := fastR x.nu t0 m cs) rfl rfl (mem_at h hi)]
  dsimp only [fastR]
  rw [show shZ (100 * m) 200 1 (t0 + m) t = z by unfold shZ; omega]
theorem runs_shape {W : World} {v : Value} {r : Rnx} (h : RunsAt W v [r]) : ∃ p c, v = .slice p 1 c := by
  obtain ⟨L, p, c, rfl, h2, -, -⟩ := h
  have : L.length = 1 := by have := congrArg List.length h2; simpa using this
  exact ⟨p, c, by rw [this]⟩
end Lum
namespace Go.Proofs.YtbamcfhmkohbmaaGreatDoor
open Go.RowKit Go.Shelf Lum
open Go.Lib (decDigits itoa)
attribute [local go_sem] bs_get bs_extract_end bs_extract_from bs_extract bs_append

theorem r23_fresh4 (t : Int) (w : World) : Calls Tryz.prog 29 #[.int .i64 t] w fun e w' => e = .returned (clkV (0, 100, 1, t)) ∧ Below w.heap.size w w' := by
  go_enter Tryz.func29, Tryz.ntmps29
  go_wp2
  refine bodyPost_ret_by (v := clkV (0, 100, 1, t)) (by simp [results, Tryz.f29, go_sem, clkV]) rfl ⟨rfl, ?_⟩
  exact (Below.refl _ w).alloc (Nat.le_refl _) _
set_option maxRecDepth 100000 in
set_option maxHeartbeats 8000000 in
theorem law_eturns (x : Efx × Sl3) (u0 u1 : Int) (cs : List Int) (p : Option Addr) (c : Nat) (w : World) (hv : PtsAt w (.slice x.2.1 x.2.2.1 x.2.2.2) x.1.wv) (hi : IntsAt w (.slice p cs.length c) cs) (hcap : cs.length ≤ c) (hu0 : 0 ≤ u0 ∧ u0 ≤ 65535) (hu1 : 0 ≤ u1 ∧ u1 ≤ 65535) (env : Env w) :
    Calls Tryz.prog 6 #[.agg #[.int .i64 (x.1.nu), .int .i64 (x.1.at_), .slice x.2.1 x.2.2.1 x.2.2.2, .int .i64 (x.1.pe), .int .i64 (x.1.sp), .int .i64 (x.1.sz)], .slice p cs.length c, .agg #[.int .u16 u0, .int .u16 u1]] w fun e w' => e = .returned (.bool (true)) ∧ Below w.heap.size w w' := by
  have ENV := Lib.hid env; clear env
  have hal := ((Below.refl w.heap.size w).alloc (Nat.le_refl _) (.cells #[.int .i64 (x.1.nu), .int .i64 (x.1.at_), .slice x.2.1 x.2.2.1 x.2.2.2, .int .i64 (x.1.pe), .int .i64 (x.1.sp), .int .i64 (x.1.sz)] 36)).alloc (by simp) (.cells #[.int .u16 u0, .int .u16 u1] 49)
  have HV := Lib.hid (PtsAt.below hv hal); have HI := Lib.hid (IntsAt.below hi hal); have HB := Lib.hid hal; clear hal
  have HK := Lib.hid ((Blk.new w 36 #[.int .i64 (x.1.nu), .int .i64 (x.1.at_), .slice x.2.1 x.2.2.1 x.2.2.2, .int .i64 (x.1.pe), .int .i64 (x.1.sp), .int .i64 (x.1.sz)]).alloc (.cells #[.int .u16 u0, .int .u16 u1] 49))
  have hA := Blk.new (w.alloc (.cells #[.int .i64 (x.1.nu), .int .i64 (x.1.at_), .slice x.2.1 x.2.2.1 x.2.2.2, .int .i64 (x.1.pe), .int .i64 (x.1.sp), .int .i64 (x.1.sz)] 36)) 49 #[.int .u16 u0, .int .u16 u1]
  rw [World.size_alloc] at hA
  have HA := Lib.hid hA; clear hA
  obtain ⟨k0, k1, k2, k3, k4, k5, kf0, kf1, kf2, kf3, kf4, kf5⟩ := HK.out.c6
  obtain ⟨a0, a1, af0, af1⟩ := HA.out.c2
  have c0 : IntKind.i64.wrap u0 = u0 := IntWalk.i64_in _ (by omega)
  have c1 : IntKind.i64.wrap u1 = u1 := IntWalk.i64_in _ (by omega)
  have haw := fun W (e : Env W) => l28_awake W e
  have hef := fun W (h : PtsAt W (.slice x.2.1 x.2.2.1 x.2.2.2) x.1.wv) => r28_effect x.1.nu x.1.at_ x.1.pe x.1.sp x.1.sz x.1.wv x.2.1 x.2.2.1 x.2.2.2 W h
  change ∀ W, PtsAt W (.slice x.2.1 x.2.2.1 x.2.2.2) x.1.wv → Calls _ _ _ _ (fun e w' => e = .returned (.int .i64 (efE x.1)) ∧ _) at hef
  by_cases hz : efE x.1 = 0
  · by_cases h6 : (6 : Int) < (cs.length : Int)
    · rw [hz] at hef
      clear hv hi
      have HAW := Lib.hid haw; clear haw
      have HEF := Lib.hid hef; clear hef
      go_enter Tryz.func6, Tryz.ntmps6
      go_wp2_with (first | (with_reducible refine ((HEF.out _ HV.out).mono ?_); rintro e w' ⟨rfl, hb⟩; replace HK := Lib.hid (HK.out.keep hb); clear k0 k1 k2 k3 k4 k5 kf0 kf1 kf2 kf3 kf4 kf5; replace HA := Lib.hid (HA.out.keep hb); clear a0 a1 af0 af1; replace HV := Lib.hid (PtsAt.below HV.out hb); replace HI := Lib.hid (IntsAt.below HI.out hb); replace HB := Lib.hid (bch' HB.out hb); clear hb; obtain ⟨k0, k1, k2, k3, k4, k5, kf0, kf1, kf2, kf3, kf4, kf5⟩ := HK.out.c6; obtain ⟨a0, a1, af0, af1⟩ := HA.out.c2) | (with_reducible refine ((HAW.out _ (ENV.out.below HB.out)).mono ?_); rintro e w' ⟨rfl, hb⟩; replace HK := Lib.hid (HK.out.keep hb); clear k0 k1 k2 k3 k4 k5 kf0 kf1 kf2 kf3 kf4 kf5; replace HA := Lib.hid (HA.out.keep hb); clear a0 a1 af0 af1; replace HV := Lib.hid (PtsAt.below HV.out hb); replace HI := Lib.hid (IntsAt.below HI.out hb); replace HB := Lib.hid (bch' HB.out hb); clear hb; obtain ⟨k0, k1, k2, k3, k4, k5, kf0, kf1, kf2, kf3, kf4, kf5⟩ := HK.out.c6; obtain ⟨a0, a1, af0, af1⟩ := HA.out.c2))
      go_ret
      exact ⟨rfl, HB.out⟩
    · by_cases hr : rnE (newR x.1.nu cs u0) = 0
      · have hch : chE cs = 0 := by
          have h2 := hr
          by_cases hc : chE cs = 0
          · exact hc
          · by_cases ho : (newR x.1.nu cs u0).ef < 1 ∨ 1048576 < (newR x.1.nu cs u0).ef
            · rw [rnE_ef ho] at h2; cases h2
            · rw [rnE_ch ho hc] at h2; exact absurd h2 hc
        have ho := efOk hz
        have hnu := ho.nu
        have hpos := (chOk hch).pos
        obtain ⟨i, hii⟩ : ∃ i, i + 1 = cs.length := ⟨cs.length - 1, by omega⟩
        have hil : i < cs.length := by omega
        have hst := fun W (h : IntsAt W (.slice p cs.length c) cs) => own_estart [] (.slice none 0 0) x.1.nu u0 cs p cs.length c W (runsAt_nil28 _) h hcap (by omega)
        rw [stE_nil (by omega), hr] at hst
        have hrt := fun W v (h : RunsAt W v [newR x.1.nu cs u0]) => own_erate [newR x.1.nu cs u0] v x.1.nu (u0 + u1) 200 W h (by omega) (by omega)
        rw [rtE_turn hch hnu hu0 hu1, rtL_turn hu0 hu1] at hrt
        have hsg := fun W v (h : IntsAt W (.slice p cs.length c) cs) (h2 : RunsAt W v [fastR x.1.nu u0 u1 cs]) => own_estart [fastR x.1.nu u0 u1 cs] v x.1.nu (u0 + u1) cs p cs.length c W h2 h hcap (by omega)
        rw [stE_turn hch hnu hu0 hu1] at hsg
        have hpt : putL [fastR x.1.nu u0 u1 cs] (newR x.1.nu cs (u0 + u1)) = [newR x.1.nu cs (u0 + u1)] := putL_same rfl
        have d1 : IntKind.i64.wrap (u0 + u1) = u0 + u1 := IntWalk.i64_in _ (by omega)
        have d2 : IntKind.i64.wrap (3 * u1) = 3 * u1 := IntWalk.i64_in _ (by omega)
        have d3 : IntKind.i64.wrap (u0 + 3 * u1) = u0 + 3 * u1 := IntWalk.i64_in _ (by omega)
        have d4 : IntKind.i64.wrap (2 * u1) = 2 * u1 := IntWalk.i64_in _ (by omega)
        have d5 : IntKind.i64.wrap (u0 + 2 * u1) = u0 + 2 * u1 := IntWalk.i64_in _ (by omega)
        have d6 : IntKind.i64.wrap ((cs.length : Int) - 1) = (i : Int) := by rw [show (cs.length : Int) - 1 = (i : Int) by omega]; exact IntWalk.i64_in _ (by omega)
        have d7 : (cs.length : Int) - 1 = (i : Int) := by omega
        have d8 : IntKind.i64.wrap (i : Int) = (i : Int) := IntWalk.i64_in _ (by omega)
        have hlt : (i : Int) < (cs.length : Int) := by omega
        have hi0 : (0 : Int) ≤ (i : Int) := by omega
        rw [hz] at hef
        have HZ := Lib.hid hz; have HCH := Lib.hid hch; have HII := Lib.hid hii; have HPT := Lib.hid hpt
        have HI0 := Lib.hid hi
        clear hv hi hr hz hch hii ho hnu hpos hpt
        have HAW := Lib.hid haw; clear haw
        have HEF := Lib.hid hef; clear hef
        have HST := Lib.hid hst; clear hst
        have HRT := Lib.hid hrt; clear hrt
        have HSG := Lib.hid hsg; clear hsg
        go_enter Tryz.func6, Tryz.ntmps6
        go_upto_region 3 with (first | (with_reducible refine ((HEF.out _ HV.out).mono ?_); rintro e w' ⟨rfl, hb⟩; replace HK := Lib.hid (HK.out.keep hb); clear k0 k1 k2 k3 k4 k5 kf0 kf1 kf2 kf3 kf4 kf5; replace HA := Lib.hid (HA.out.keep hb); clear a0 a1 af0 af1; replace HV := Lib.hid (PtsAt.below HV.out hb); replace HI := Lib.hid (IntsAt.below HI.out hb); replace HB := Lib.hid (bch' HB.out hb); clear hb; obtain ⟨k0, k1, k2, k3, k4, k5, kf0, kf1, kf2, kf3, kf4, kf5⟩ := HK.out.c6; obtain ⟨a0, a1, af0, af1⟩ := HA.out.c2))
        have f0 := fun p : BelowOf _ => (HA.out.keep p.h).c2.1
        have f1 := fun p : BelowOf _ => (HA.out.keep p.h).c2.2.1
        refine wp_region_WQ (by kernel_rfl) (by kernel_rfl) ?_
        repeat (refine WQ.step (fun K hK => ?_); go_simp; first | (refine hK.out _ ?_; clear hK K) | (apply Exists.intro; refine ⟨fun _ => ?_, hK.out _ ?_⟩; (first | rfl); clear hK K))
        refine WQ.nil ?_
        intro _ hw'
        obtain ⟨⟨wq, hbq⟩, hw2⟩ := hw'
        subst hw2
        replace HK := Lib.hid (HK.out.keep hbq)
        replace HA := Lib.hid (HA.out.keep hbq)
        replace HV := Lib.hid (PtsAt.below HV.out hbq)
        replace HI := Lib.hid (IntsAt.below HI.out hbq)
        replace HB := Lib.hid (bch' HB.out hbq)
        clear f0 f1
        clear k0 k1 k2 k3 k4 k5 kf0 kf1 kf2 kf3 kf4 kf5
        clear a0 a1 af0 af1
        obtain ⟨k0, k1, k2, k3, k4, k5, kf0, kf1, kf2, kf3, kf4, kf5⟩ := HK.out.c6
        obtain ⟨a0, a1, af0, af1⟩ := HA.out.c2
        go_wp2_with fail
        refine ((HST.out _ HI.out).mono ?_)
        rintro e w2 ⟨v, rfl, hv1, -, hb⟩
        have HN := Lib.hid (hv1 rfl)
        clear hv1
        replace HK := Lib.hid (HK.out.keep hb); clear k0 k1 k2 k3 k4 k5 kf0 kf1 kf2 kf3 kf4 kf5; replace HA := Lib.hid (HA.out.keep hb); clear a0 a1 af0 af1; replace HV := Lib.hid (PtsAt.below HV.out hb); replace HI := Lib.hid (IntsAt.below HI.out hb); replace HB := Lib.hid (bch' HB.out hb); clear hb; obtain ⟨k0, k1, k2, k3, k4, k5, kf0, kf1, kf2, kf3, kf4, kf5⟩ := HK.out.c6; obtain ⟨a0, a1, af0, af1⟩ := HA.out.c2
        change Hid (RunsAt w2 v [newR x.1.nu cs u0]) at HN
        go_upto_region 8 with fail
        have hb := (Below.refl w2.heap.size w2).alloc (Nat.le_refl _) (.cells #[.int .i64 (x.1.nu), .int .i64 (x.1.at_), .slice x.2.1 x.2.2.1 x.2.2.2, .int .i64 (x.1.pe), .int .i64 (x.1.sp), .int .i64 (x.1.sz)] 36)
        have HL := Lib.hid (efsAt_one (c := 1) (Blk.new w2 36 (encE x).toArray) (HV.out.below hb))
        obtain ⟨gl, hgl⟩ : ∃ g, g = w2.heap.size := ⟨_, rfl⟩
        obtain ⟨W3, hW3⟩ : ∃ X, X = w2.alloc (.cells #[.int .i64 (x.1.nu), .int .i64 (x.1.at_), .slice x.2.1 x.2.2.1 x.2.2.2, .int .i64 (x.1.pe), .int .i64 (x.1.sp), .int .i64 (x.1.sz)] 36) := ⟨_, rfl⟩
        change Hid (EfsAt (w2.alloc (.cells #[.int .i64 (x.1.nu), .int .i64 (x.1.at_), .slice x.2.1 x.2.2.1 x.2.2.2, .int .i64 (x.1.pe), .int .i64 (x.1.sp), .int .i64 (x.1.sz)] 36)) (.slice (some ⟨w2.heap.size, 0, none⟩) 1 1) [x.1]) at HL
        rw [← hgl] at HL ⊢
        rw [← hW3] at hb HL ⊢
        replace HN := Lib.hid (RunsAt.kept HN.out hb)
        replace HK := Lib.hid (HK.out.keep hb); clear k0 k1 k2 k3 k4 k5 kf0 kf1 kf2 kf3 kf4 kf5; replace HA := Lib.hid (HA.out.keep hb); clear a0 a1 af0 af1; replace HV := Lib.hid (PtsAt.below HV.out hb); replace HI := Lib.hid (IntsAt.below HI.out hb); replace HB := Lib.hid (bch' HB.out hb); clear hb; obtain ⟨k0, k1, k2, k3, k4, k5, kf0, kf1, kf2, kf3, kf4, kf5⟩ := HK.out.c6; obtain ⟨a0, a1, af0, af1⟩ := HA.out.c2
        clear hW3 hgl
        obtain ⟨p9, c9, e9, hi9⟩ := HI.out
        injection e9 with e91 e92 e93
        subst e91 e93
        obtain ⟨bb, oo, rfl, hbb, hCC⟩ := hi9 (fun e => by subst e; exact absurd hil (Nat.not_lt_zero _))
        have x0 : W3.cell? ⟨bb, oo + i, none⟩ = some (.int .i64 (inI cs i)) := hCC i hil
        clear hCC hi9 e92
        have hbw : w.heap.size < W3.heap.size := HK.out.lt
        go_region
        have hb := ((Below.refl W3.heap.size W3).alloc (Nat.le_refl _) (.cells #[.int .i64 (inI cs i), .int .i64 (x.1.at_)] 61)).drew
        have HP := Lib.hid (Blk.new W3 61 #[.int .i64 (inI cs i), .int .i64 (x.1.at_)]).drew
        obtain ⟨W5, hW5⟩ : ∃ X, X = (W3.alloc (.cells #[.int .i64 (inI cs i), .int .i64 (x.1.at_)] 61)).drew := ⟨_, rfl⟩
        obtain ⟨g5, hg5⟩ : ∃ g, g = W3.heap.size := ⟨_, rfl⟩
        rw [← hW5] at hb HP ⊢
        rw [← hg5] at HP ⊢
        replace HK := Lib.hid (HK.out.keep hb); clear k0 k1 k2 k3 k4 k5 kf0 kf1 kf2 kf3 kf4 kf5; replace HL := Lib.hid (EfsAt.kept HL.out hb); replace HN := Lib.hid (RunsAt.kept HN.out hb); replace HI := Lib.hid (IntsAt.below HI.out hb); replace HB := Lib.hid (bch' HB.out hb); clear hb; obtain ⟨k0, k1, k2, k3, k4, k5, kf0, kf1, kf2, kf3, kf4, kf5⟩ := HK.out.c6
        clear hW5 hg5 hbw x0 HV HA a0 a1 af0 af1
        obtain ⟨b0, b1, bf0, bf1⟩ := HP.out.c2
        have hsa := fun W (h1 : EfsAt W (.slice (some ⟨gl, 0, none⟩) 1 1) [x.1]) (h2 : RunsAt W v [newR x.1.nu cs u0]) (e : Env W) => own_esum [x.1] [newR x.1.nu cs u0] (.slice (some ⟨gl, 0, none⟩) 1 1) v (u0 + u1) (inI cs i) x.1.at_ W h1 h2 e
        rw [suE_slow HZ.out HCH.out hil hu0.1 (by omega) (by omega) (show 100 * (u0 + u1 - u0) = 100 * u1 by omega)] at hsa
        dsimp only at hsa
        have HSA := Lib.hid hsa; clear hsa
        have hsc := fun W (h1 : EfsAt W (.slice (some ⟨gl, 0, none⟩) 1 1) [x.1]) (h2 : RunsAt W v [newR x.1.nu cs u0]) (e : Env W) => own_esum [x.1] [newR x.1.nu cs u0] (.slice (some ⟨gl, 0, none⟩) 1 1) v (u0 + 3 * u1) (inI cs i) x.1.at_ W h1 h2 e
        rw [suE_slow HZ.out HCH.out hil hu0.1 (by omega) (by omega) (show 100 * (u0 + 3 * u1 - u0) = 300 * u1 by omega)] at hsc
        dsimp only at hsc
        have HSC := Lib.hid hsc; clear hsc
        have hse := fun W (h1 : EfsAt W (.slice (some ⟨gl, 0, none⟩) 1 1) [x.1]) (h2 : RunsAt W v [newR x.1.nu cs u0]) (e : Env W) => own_esum [x.1] [newR x.1.nu cs u0] (.slice (some ⟨gl, 0, none⟩) 1 1) v (u0) (inI cs i) x.1.at_ W h1 h2 e
        rw [suE_slow HZ.out HCH.out hil hu0.1 (by omega) (by omega) (show 100 * (u0 - u0) = 0 by omega)] at hse
        dsimp only at hse
        have HSE := Lib.hid hse; clear hse
        go_wp2_with fail
        refine ((HRT.out _ _ HN.out).mono ?_)
        rintro e w6 ⟨v2, rfl, hv1, -, hb⟩
        have HN2 := Lib.hid (hv1 rfl)
        clear hv1
        replace HK := Lib.hid (HK.out.keep hb); clear k0 k1 k2 k3 k4 k5 kf0 kf1 kf2 kf3 kf4 kf5; replace HP := Lib.hid (HP.out.keep hb); clear b0 b1 bf0 bf1; replace HL := Lib.hid (EfsAt.kept HL.out hb); replace HN := Lib.hid (RunsAt.kept HN.out hb); replace HI := Lib.hid (IntsAt.below HI.out hb); replace HB := Lib.hid (bch' HB.out hb); clear hb; obtain ⟨k0, k1, k2, k3, k4, k5, kf0, kf1, kf2, kf3, kf4, kf5⟩ := HK.out.c6; obtain ⟨b0, b1, bf0, bf1⟩ := HP.out.c2
        change Hid (RunsAt w6 v2 [fastR x.1.nu u0 u1 cs]) at HN2
        have hsb := fun W (h1 : EfsAt W (.slice (some ⟨gl, 0, none⟩) 1 1) [x.1]) (h2 : RunsAt W v2 [fastR x.1.nu u0 u1 cs]) (e : Env W) => own_esum [x.1] [fastR x.1.nu u0 u1 cs] (.slice (some ⟨gl, 0, none⟩) 1 1) v2 (u0 + u1) (inI cs i) x.1.at_ W h1 h2 e
        rw [suE_fast (z := 100 * u1) HZ.out HCH.out hil hu0 hu1 (by omega) (by omega) (by omega)] at hsb
        dsimp only at hsb
        have HSB := Lib.hid hsb; clear hsb
        have hsd := fun W (h1 : EfsAt W (.slice (some ⟨gl, 0, none⟩) 1 1) [x.1]) (h2 : RunsAt W v2 [fastR x.1.nu u0 u1 cs]) (e : Env W) => own_esum [x.1] [fastR x.1.nu u0 u1 cs] (.slice (some ⟨gl, 0, none⟩) 1 1) v2 (u0 + 2 * u1) (inI cs i) x.1.at_ W h1 h2 e
        rw [suE_fast (z := 300 * u1) HZ.out HCH.out hil hu0 hu1 (by omega) (by omega) (by omega)] at hsd
        dsimp only at hsd
        have HSD := Lib.hid hsd; clear hsd
        generalize showR (offQ x.1 (i : Int) cs.length (100 * u1)) = z1 at *
        generalize showR (offQ x.1 (i : Int) cs.length (300 * u1)) = z2 at *
        go_wp2_with (first | (with_reducible refine ((HSA.out _ HL.out HN.out (ENV.out.below HB.out)).mono ?_); rintro e w' ⟨rfl, hb⟩; replace HK := Lib.hid (HK.out.keep hb); clear k0 k1 k2 k3 k4 k5 kf0 kf1 kf2 kf3 kf4 kf5; replace HP := Lib.hid (HP.out.keep hb); clear b0 b1 bf0 bf1; replace HL := Lib.hid (EfsAt.kept HL.out hb); replace HN := Lib.hid (RunsAt.kept HN.out hb); replace HI := Lib.hid (IntsAt.below HI.out hb); replace HN2 := Lib.hid (RunsAt.kept HN2.out hb); replace HB := Lib.hid (bch' HB.out hb); clear hb; obtain ⟨k0, k1, k2, k3, k4, k5, kf0, kf1, kf2, kf3, kf4, kf5⟩ := HK.out.c6; obtain ⟨b0, b1, bf0, bf1⟩ := HP.out.c2) | (with_reducible refine ((HSB.out _ HL.out HN2.out (ENV.out.below HB.out)).mono ?_); rintro e w' ⟨rfl, hb⟩; replace HK := Lib.hid (HK.out.keep hb); clear k0 k1 k2 k3 k4 k5 kf0 kf1 kf2 kf3 kf4 kf5; replace HP := Lib.hid (HP.out.keep hb); clear b0 b1 bf0 bf1; replace HL := Lib.hid (EfsAt.kept HL.out hb); replace HN := Lib.hid (RunsAt.kept HN.out hb); replace HI := Lib.hid (IntsAt.below HI.out hb); replace HN2 := Lib.hid (RunsAt.kept HN2.out hb); replace HB := Lib.hid (bch' HB.out hb); clear hb; obtain ⟨k0, k1, k2, k3, k4, k5, kf0, kf1, kf2, kf3, kf4, kf5⟩ := HK.out.c6; obtain ⟨b0, b1, bf0, bf1⟩ := HP.out.c2) | (with_reducible refine ((HSC.out _ HL.out HN.out (ENV.out.below HB.out)).mono ?_); rintro e w' ⟨rfl, hb⟩; replace HK := Lib.hid (HK.out.keep hb); clear k0 k1 k2 k3 k4 k5 kf0 kf1 kf2 kf3 kf4 kf5; replace HP := Lib.hid (HP.out.keep hb); clear b0 b1 bf0 bf1; replace HL := Lib.hid (EfsAt.kept HL.out hb); replace HN := Lib.hid (RunsAt.kept HN.out hb); replace HI := Lib.hid (IntsAt.below HI.out hb); replace HN2 := Lib.hid (RunsAt.kept HN2.out hb); replace HB := Lib.hid (bch' HB.out hb); clear hb; obtain ⟨k0, k1, k2, k3, k4, k5, kf0, kf1, kf2, kf3, kf4, kf5⟩ := HK.out.c6; obtain ⟨b0, b1, bf0, bf1⟩ := HP.out.c2) | (with_reducible refine ((HSD.out _ HL.out HN2.out (ENV.out.below HB.out)).mono ?_); rintro e w' ⟨rfl, hb⟩; replace HK := Lib.hid (HK.out.keep hb); clear k0 k1 k2 k3 k4 k5 kf0 kf1 kf2 kf3 kf4 kf5; replace HP := Lib.hid (HP.out.keep hb); clear b0 b1 bf0 bf1; replace HL := Lib.hid (EfsAt.kept HL.out hb); replace HN := Lib.hid (RunsAt.kept HN.out hb); replace HI := Lib.hid (IntsAt.below HI.out hb); replace HN2 := Lib.hid (RunsAt.kept HN2.out hb); replace HB := Lib.hid (bch' HB.out hb); clear hb; obtain ⟨k0, k1, k2, k3, k4, k5, kf0, kf1, kf2, kf3, kf4, kf5⟩ := HK.out.c6; obtain ⟨b0, b1, bf0, bf1⟩ := HP.out.c2))
        refine ((HSG.out _ _ HI.out HN2.out).mono ?_)
        rintro e w8 ⟨v3, rfl, hv1, -, hb⟩
        have hn3 := hv1 rfl
        rw [HPT.out] at hn3
        clear hv1
        obtain ⟨p3, c3, rfl⟩ := runs_shape hn3
        have HN3 := Lib.hid hn3
        replace HK := Lib.hid (HK.out.keep hb); clear k0 k1 k2 k3 k4 k5 kf0 kf1 kf2 kf3 kf4 kf5; replace HP := Lib.hid (HP.out.keep hb); clear b0 b1 bf0 bf1; replace HL := Lib.hid (EfsAt.kept HL.out hb); replace HN := Lib.hid (RunsAt.kept HN.out hb); replace HI := Lib.hid (IntsAt.below HI.out hb); replace HB := Lib.hid (bch' HB.out hb); clear hb; obtain ⟨k0, k1, k2, k3, k4, k5, kf0, kf1, kf2, kf3, kf4, kf5⟩ := HK.out.c6; obtain ⟨b0, b1, bf0, bf1⟩ := HP.out.c2
        have hsf := fun W (h1 : EfsAt W (.slice (some ⟨gl, 0, none⟩) 1 1) [x.1]) (h2 : RunsAt W (.slice p3 1 c3) [newR x.1.nu cs (u0 + u1)]) (e : Env W) => own_esum [x.1] [newR x.1.nu cs (u0 + u1)] (.slice (some ⟨gl, 0, none⟩) 1 1) (.slice p3 1 c3) (u0 + u1) (inI cs i) x.1.at_ W h1 h2 e
        rw [suE_slow HZ.out HCH.out hil (by omega) (by omega) (by omega) (show 100 * (u0 + u1 - (u0 + u1)) = 0 by omega)] at hsf
        dsimp only at hsf
        have HSF := Lib.hid hsf; clear hsf
        clear hn3
        generalize showR (offQ x.1 (i : Int) cs.length 0) = z3 at *
        clear HN2 HSG HRT HSA HSB HSC HSD
        go_wp2_with (first | (with_reducible refine ((HSE.out _ HL.out HN.out (ENV.out.below HB.out)).mono ?_); rintro e w' ⟨rfl, hb⟩; replace HK := Lib.hid (HK.out.keep hb); clear k0 k1 k2 k3 k4 k5 kf0 kf1 kf2 kf3 kf4 kf5; replace HP := Lib.hid (HP.out.keep hb); clear b0 b1 bf0 bf1; replace HL := Lib.hid (EfsAt.kept HL.out hb); replace HN := Lib.hid (RunsAt.kept HN.out hb); replace HI := Lib.hid (IntsAt.below HI.out hb); replace HN3 := Lib.hid (RunsAt.kept HN3.out hb); replace HB := Lib.hid (bch' HB.out hb); clear hb; obtain ⟨k0, k1, k2, k3, k4, k5, kf0, kf1, kf2, kf3, kf4, kf5⟩ := HK.out.c6; obtain ⟨b0, b1, bf0, bf1⟩ := HP.out.c2) | (with_reducible refine ((HSF.out _ HL.out HN3.out (ENV.out.below HB.out)).mono ?_); rintro e w' ⟨rfl, hb⟩; replace HK := Lib.hid (HK.out.keep hb); clear k0 k1 k2 k3 k4 k5 kf0 kf1 kf2 kf3 kf4 kf5; replace HP := Lib.hid (HP.out.keep hb); clear b0 b1 bf0 bf1; replace HL := Lib.hid (EfsAt.kept HL.out hb); replace HN := Lib.hid (RunsAt.kept HN.out hb); replace HI := Lib.hid (IntsAt.below HI.out hb); replace HN3 := Lib.hid (RunsAt.kept HN3.out hb); replace HB := Lib.hid (bch' HB.out hb); clear hb; obtain ⟨k0, k1, k2, k3, k4, k5, kf0, kf1, kf2, kf3, kf4, kf5⟩ := HK.out.c6; obtain ⟨b0, b1, bf0, bf1⟩ := HP.out.c2) | (with_reducible refine ((HAW.out _ (ENV.out.below HB.out)).mono ?_); rintro e w' ⟨rfl, hb⟩; replace HK := Lib.hid (HK.out.keep hb); clear k0 k1 k2 k3 k4 k5 kf0 kf1 kf2 kf3 kf4 kf5; replace HP := Lib.hid (HP.out.keep hb); clear b0 b1 bf0 bf1; replace HL := Lib.hid (EfsAt.kept HL.out hb); replace HN := Lib.hid (RunsAt.kept HN.out hb); replace HI := Lib.hid (IntsAt.below HI.out hb); replace HB := Lib.hid (bch' HB.out hb); clear hb; obtain ⟨k0, k1, k2, k3, k4, k5, kf0, kf1, kf2, kf3, kf4, kf5⟩ := HK.out.c6; obtain ⟨b0, b1, bf0, bf1⟩ := HP.out.c2))
        go_ret
        exact ⟨rfl, HB.out⟩
      · rw [hz] at hef
        have hrn := fun W (h : IntsAt W (.slice p cs.length c) cs) => r28_run x.1.nu 0 100 1 u0 cs p cs.length c W h
        change ∀ W, IntsAt W (.slice p cs.length c) cs → Calls _ _ _ _ (fun e w' => e = .returned (.int .i64 (rnE (newR x.1.nu cs u0))) ∧ _) at hrn
        have hfr := fun W => r23_fresh4 u0 W
        dsimp only [clkV] at hfr
        have hne : ((rnE (newR x.1.nu cs u0) : Int) != 0) = true := by simpa using hr
        have HNE := Lib.hid hr
        have hst := fun W (h : IntsAt W (.slice p cs.length c) cs) => own_estart [] (.slice none 0 0) x.1.nu u0 cs p cs.length c W (runsAt_nil28 _) h hcap (by omega)
        rw [stE_nil (by omega)] at hst
        generalize rnE (newR x.1.nu cs u0) = m9 at *
        clear hv hi hr
        have HAW := Lib.hid haw; clear haw
        have HEF := Lib.hid hef; clear hef
        have HRN := Lib.hid hrn; clear hrn
        have HFR := Lib.hid hfr; clear hfr
        have HST := Lib.hid hst; clear hst
        go_enter Tryz.func6, Tryz.ntmps6
        go_upto_region 3 with (first | (with_reducible refine ((HEF.out _ HV.out).mono ?_); rintro e w' ⟨rfl, hb⟩; replace HK := Lib.hid (HK.out.keep hb); clear k0 k1 k2 k3 k4 k5 kf0 kf1 kf2 kf3 kf4 kf5; replace HA := Lib.hid (HA.out.keep hb); clear a0 a1 af0 af1; replace HV := Lib.hid (PtsAt.below HV.out hb); replace HI := Lib.hid (IntsAt.below HI.out hb); replace HB := Lib.hid (bch' HB.out hb); clear hb; obtain ⟨k0, k1, k2, k3, k4, k5, kf0, kf1, kf2, kf3, kf4, kf5⟩ := HK.out.c6; obtain ⟨a0, a1, af0, af1⟩ := HA.out.c2))
        have f0 := fun p : BelowOf _ => (HA.out.keep p.h).c2.1
        have f1 := fun p : BelowOf _ => (HA.out.keep p.h).c2.2.1
        refine wp_region_WQ (by kernel_rfl) (by kernel_rfl) ?_
        repeat (refine WQ.step (fun K hK => ?_); go_simp; first | (refine hK.out _ ?_; clear hK K) | (apply Exists.intro; refine ⟨fun _ => ?_, hK.out _ ?_⟩; (first | rfl); clear hK K))
        refine WQ.nil ?_
        intro _ hw'
        obtain ⟨⟨wq, hbq⟩, hw2⟩ := hw'
        subst hw2
        replace HK := Lib.hid (HK.out.keep hbq)
        replace HA := Lib.hid (HA.out.keep hbq)
        replace HV := Lib.hid (PtsAt.below HV.out hbq)
        replace HI := Lib.hid (IntsAt.below HI.out hbq)
        replace HB := Lib.hid (bch' HB.out hbq)
        clear f0 f1
        clear k0 k1 k2 k3 k4 k5 kf0 kf1 kf2 kf3 kf4 kf5
        clear a0 a1 af0 af1
        obtain ⟨k0, k1, k2, k3, k4, k5, kf0, kf1, kf2, kf3, kf4, kf5⟩ := HK.out.c6
        obtain ⟨a0, a1, af0, af1⟩ := HA.out.c2
        go_wp2_with fail
        refine ((HST.out _ HI.out).mono ?_)
        rintro e w' ⟨v, rfl, -, hv0, hb⟩
        obtain rfl := hv0 HNE.out
        clear hv0
        replace HK := Lib.hid (HK.out.keep hb); clear k0 k1 k2 k3 k4 k5 kf0 kf1 kf2 kf3 kf4 kf5; replace HA := Lib.hid (HA.out.keep hb); clear a0 a1 af0 af1; replace HV := Lib.hid (PtsAt.below HV.out hb); replace HI := Lib.hid (IntsAt.below HI.out hb); replace HB := Lib.hid (bch' HB.out hb); clear hb; obtain ⟨k0, k1, k2, k3, k4, k5, kf0, kf1, kf2, kf3, kf4, kf5⟩ := HK.out.c6; obtain ⟨a0, a1, af0, af1⟩ := HA.out.c2
        go_upto_region 6 with fail
        have f0 := fun p : BelowOf _ => (HK.out.keep p.h).c6.1
        refine wp_region_WQ (by kernel_rfl) (by kernel_rfl) ?_
        repeat (refine WQ.step (fun K hK => ?_); go_simp; first | (refine hK.out _ ?_; clear hK K) | (apply Exists.intro; refine ⟨fun _ => ?_, hK.out _ ?_⟩; (first | rfl | (go_at_call 29; exact calls_below_of _ (HFR.out _)) | (go_at_call 28; exact calls_below_of _ (HRN.out _ (IntsAt.below HI.out (BelowOf.h _)))) | (go_at_call 22; exact calls_below_of _ (HAW.out _ (ENV.out.below (bch' HB.out (BelowOf.h _)))))); clear hK K))
        refine WQ.nil ?_
        intro _ hw'
        obtain ⟨⟨wq, hbq⟩, hw2⟩ := hw'
        subst hw2
        replace HK := Lib.hid (HK.out.keep hbq)
        replace HA := Lib.hid (HA.out.keep hbq)
        replace HV := Lib.hid (PtsAt.below HV.out hbq)
        replace HI := Lib.hid (IntsAt.below HI.out hbq)
        replace HB := Lib.hid (bch' HB.out hbq)
        clear f0
        clear k0 k1 k2 k3 k4 k5 kf0 kf1 kf2 kf3 kf4 kf5
        clear a0 a1 af0 af1
        obtain ⟨k0, k1, k2, k3, k4, k5, kf0, kf1, kf2, kf3, kf4, kf5⟩ := HK.out.c6
        obtain ⟨a0, a1, af0, af1⟩ := HA.out.c2
        go_wp2_with fail
        go_ret
        exact ⟨rfl, HB.out⟩
  · have hne : ((efE x.1 : Int) != 0) = true := by simpa using hz
    generalize efE x.1 = m9 at *
    clear hv hi
    have HAW := Lib.hid haw; clear haw
    have HEF := Lib.hid hef; clear hef
    go_enter Tryz.func6, Tryz.ntmps6
    go_wp2_with (first | (with_reducible refine ((HEF.out _ HV.out).mono ?_); rintro e w' ⟨rfl, hb⟩; replace HK := Lib.hid (HK.out.keep hb); clear k0 k1 k2 k3 k4 k5 kf0 kf1 kf2 kf3 kf4 kf5; replace HA := Lib.hid (HA.out.keep hb); clear a0 a1 af0 af1; replace HV := Lib.hid (PtsAt.below HV.out hb); replace HI := Lib.hid (IntsAt.below HI.out hb); replace HB := Lib.hid (bch' HB.out hb); clear hb; obtain ⟨k0, k1, k2, k3, k4, k5, kf0, kf1, kf2, kf3, kf4, kf5⟩ := HK.out.c6; obtain ⟨a0, a1, af0, af1⟩ := HA.out.c2) | (with_reducible refine ((HAW.out _ (ENV.out.below HB.out)).mono ?_); rintro e w' ⟨rfl, hb⟩; replace HK := Lib.hid (HK.out.keep hb); clear k0 k1 k2 k3 k4 k5 kf0 kf1 kf2 kf3 kf4 kf5; replace HA := Lib.hid (HA.out.keep hb); clear a0 a1 af0 af1; replace HV := Lib.hid (PtsAt.below HV.out hb); replace HI := Lib.hid (IntsAt.below HI.out hb); replace HB := Lib.hid (bch' HB.out hb); clear hb; obtain ⟨k0, k1, k2, k3, k4, k5, kf0, kf1, kf2, kf3, kf4, kf5⟩ := HK.out.c6; obtain ⟨a0, a1, af0, af1⟩ := HA.out.c2))
    go_ret
    exact ⟨rfl, HB.out⟩
end Go.Proofs.YtbamcfhmkohbmaaGreatDoor

/-
  The value that a cue gives to a parameter.
-/
import Derived.Test.YtikogofioggmlaaGreatDoorLk
import Derived.Deep.LoopGhost
set_option linter.unusedVariables false
set_option linter.unusedSimpArgs false
namespace Lum
open Go Go.RowKit Go.Shelf
open Go.Lib (decDigits itoa)
def cmA (l : List Mv) (p : Int × Int) (i : Nat) : Int := match l[i]? with
  | some x => cmI x.ch x.at_ p.1 p.2
  | none => 0
theorem cmA_at {l : List Mv} {p : Int × Int} {i : Nat} (h : i < l.length) : cmA l p i = cmI (l[i]'h).ch (l[i]'h).at_ p.1 p.2 := by unfold cmA; rw [List.getElem?_eq_getElem h]
theorem cmA_lt {l : List Mv} {p : Int × Int} {i : Nat} (h : i < l.length) : cmA l p i < 0 ↔ cAt Mv.ky l p i < 0 := by
  rw [cmA_at h, cAt_at h, cpP_lt]; exact cmI_lt (p := (l[i]'h).ky) (q := p)
theorem cmA_eq {l : List Mv} {p : Int × Int} {i : Nat} (h : i < l.length) : cmA l p i = 0 ↔ cAt Mv.ky l p i = 0 := by
  rw [cmA_at h, cAt_at h, cpP_eq]; exact cmI_eq (p := (l[i]'h).ky) (q := p)
theorem halved_cmA {l : List Mv} {p : Int × Int} {i : Nat} (h : Halved (cmA l p) l.length i) : Halved (cAt Mv.ky l p) l.length i := by
  obtain ⟨h1, h2, h3⟩ := h
  refine ⟨h1, fun h0 => ?_, fun hl => ?_⟩
  · exact (cmA_lt (by omega)).1 (h2 h0)
  · have := h3 hl
    have h4 := cmA_lt (p := p) hl
    omega
theorem mvF_bel {l : List Mv} (hs : AscK Mv.ky l) {p : Int × Int} {i : Nat} (h : Halved (cmA l p) l.length i) :
    (∃ hi : i < l.length, (decide (i < l.length) && decide (cmA l p i = 0)) = true ∧ mvF l p = some (l[i]'hi).va) ∨ (decide (i < l.length) && decide (cmA l p i = 0)) = false ∧ mvF l p = none := by
  have hb := halved_belP hs (halved_cmA h)
  by_cases hc : i < l.length ∧ cmA l p i = 0
  · rw [decide_eq_true (show i < l.length ∧ cAt Mv.ky l p i = 0 from ⟨hc.1, (cmA_eq hc.1).1 hc.2⟩)] at hb
    exact .inl ⟨hc.1, by rw [← Bool.decide_and]; exact decide_eq_true hc, by unfold mvF; rw [hb.find]; rfl⟩
  · rw [decide_eq_false (show ¬ (i < l.length ∧ cAt Mv.ky l p i = 0) from fun g => hc ⟨g.1, (cmA_eq g.1).2 g.2⟩)] at hb
    exact .inr ⟨by rw [← Bool.decide_and]; exact decide_eq_false hc, by unfold mvF; rw [hb.find_no]; rfl⟩
end Lum
namespace Go.Proofs.YtikogofioggmlaaGreatDoor
open Go.RowKit Go.Shelf Lum
open Go.Lib (decDigits itoa)
attribute [local go_sem] bs_get bs_extract_end bs_extract_from bs_extract bs_append

set_option maxRecDepth 100000 in
set_option maxHeartbeats 4000000 in
theorem bs_mv (M : FuncId) (l : List Mv) (pp : Option Addr) (cc : Nat) (ch a : Int) (c : Nat → Int) (w : World) (hR : RowX encMv 5 w pp l) (hn0 : l.length ≤ 1000000) (hF : ∀ args w, (callFunc M args).run Tryz.prog w = .ok (.enter M args) w)
    (hcm : ∀ i (hi : i < l.length), ∀ W, Below w.heap.size w W → Calls Tryz.prog M #[.agg #[.int .i64 ((l[i]'hi).ch), .int .i64 ((l[i]'hi).at_), .int .i64 ((l[i]'hi).pa), .int .i64 ((l[i]'hi).lv), .int .i64 ((l[i]'hi).pt)], .agg #[.int .i64 ch, .int .i64 a]] W fun e w' => e = .returned (.int .i64 (c i)) ∧ Below W.heap.size W w') :
    Calls Tryz.prog 56 #[.slice pp l.length cc, .agg #[.int .i64 ch, .int .i64 a], .func (.func M) #[] #[]] w fun e w' => ∃ i : Nat, Halved c l.length i ∧ e = .returned (.tuple #[.int .i64 (i : Int), .bool (decide (i < l.length ∧ c i = 0))]) ∧ Below w.heap.size w w' := by
  have hv2 := Lib.hid hR; clear hR
  have hcc := Lib.hid hcm; clear hcm
  have HP := Lib.hid (Blk.new w 39 #[.int .i64 ch, .int .i64 a])
  have HB := Lib.hid ((Below.refl w.heap.size w).alloc (Nat.le_refl _) (.cells #[.int .i64 ch, .int .i64 a] 39))
  obtain ⟨p0, p1, pf0, pf1⟩ := HP.out.c2
  go_enter Tryz.func56, Tryz.ntmps56
  go_wp2_with fail
  go_loopg [9, 10] l.length (fun kx s9 s10 wr => ∃ lo hi : Nat, s9 = .int .i64 (lo : Int) ∧ s10 = .int .i64 (hi : Int) ∧ lo ≤ hi ∧ hi ≤ l.length ∧ hi - lo ≤ kx ∧ Hid (Below w.heap.size w wr) ∧ Hid (Blk wr w.heap.size 39 #[.int .i64 ch, .int .i64 a]) ∧ Hid (0 < lo → c (lo - 1) < 0) ∧ Hid (hi < l.length → 0 ≤ c hi))
  case atStart => exact ⟨0, l.length, rfl, rfl, Nat.zero_le _, Nat.le_refl _, by omega, HB, HP, Lib.hid (fun h => absurd h (Nat.lt_irrefl 0)), Lib.hid (fun h => absurd h (Nat.lt_irrefl _))⟩
  case round =>
    clear HB HP p0 p1 pf0 pf1
    obtain ⟨lo, hi, rfl, rfl, hlh, hin, hg, HB, HP, H1, H2⟩ := hrel
    by_cases hlt : lo < hi
    · have hml : (lo + hi) / 2 < l.length := by omega
      obtain ⟨b, o, rfl, hb, hC⟩ := hv2.out (fun h => by subst h; exact absurd hml (Nat.not_lt_zero _))
      have hcm := hcc.out ((lo + hi) / 2) hml
      have hbr : b < wr.heap.size := by have := HB.out.size; omega
      have HC := Lib.hid hC; clear hC
      have HCM := Lib.hid hcm; clear hcm
      go_wp2_with fail
      have hmid : ((lo : Int) + (hi : Int)) / 2 = (((lo + hi) / 2 : Nat) : Int) := by omega
      have hmi : (((lo + hi) / 2 : Nat) : Int) < (l.length : Int) := by omega
      rw [hmid]
      clear hmid
      have hm1 : lo ≤ (lo + hi) / 2 := by omega
      have hm2 : (lo + hi) / 2 < hi := by omega
      generalize (lo + hi) / 2 = mi at *
      have hm7 : mi * 5 < 9223372036854775807 := by omega
      by_cases hc : c (mi) < 0
      · have K1 : Hid (0 < mi + 1 → c (mi + 1 - 1) < 0) := Lib.hid fun _ => by rw [Nat.add_sub_cancel]; exact hc
        generalize hcv : c (mi) = cv at hc HCM
        clear hcv
        have f0 := fun p : BelowOf _ => (HP.out.keep p.h).c2.1
        have f1 := fun p : BelowOf _ => (HP.out.keep p.h).c2.2.1
        have zz := fun p : BelowOf _ => Nat.lt_of_lt_of_le hbr p.h.size
        have r0 := fun p : BelowOf _ => ((bch' HB.out p.h).cell (p := ⟨b, o + mi * 5, none⟩) hb).trans (HC.out mi hml 0 _ rfl)
        have r1 := fun p : BelowOf _ => ((bch' HB.out p.h).cell (p := ⟨b, o + mi * 5 + 1, none⟩) hb).trans (HC.out mi hml 1 _ rfl)
        have r2 := fun p : BelowOf _ => ((bch' HB.out p.h).cell (p := ⟨b, o + mi * 5 + 2, none⟩) hb).trans (HC.out mi hml 2 _ rfl)
        have r3 := fun p : BelowOf _ => ((bch' HB.out p.h).cell (p := ⟨b, o + mi * 5 + 3, none⟩) hb).trans (HC.out mi hml 3 _ rfl)
        have r4 := fun p : BelowOf _ => ((bch' HB.out p.h).cell (p := ⟨b, o + mi * 5 + 4, none⟩) hb).trans (HC.out mi hml 4 _ rfl)
        refine wp_region_WQ (by kernel_rfl) (by kernel_rfl) ?_
        repeat (refine WQ.step (fun K hK => ?_); go_simp; first | (refine hK.out _ ?_; clear hK K) | (apply Exists.intro; refine ⟨fun _ => ?_, hK.out _ ?_⟩; (first | rfl | exact calls_below_of _ (HCM.out _ (bch' HB.out (BelowOf.h _)))); clear hK K))
        refine WQ.nil ?_
        intro _ hw'
        obtain ⟨⟨wq, hbq⟩, hw2⟩ := hw'
        subst hw2
        replace HP := Lib.hid (HP.out.keep hbq)
        replace HB := Lib.hid (bch' HB.out hbq)
        clear f0 f1 zz r0 r1 r2 r3 r4
        go_wp2_with fail
        go_roundg (hi - (mi + 1))
        case measure => omega
        case rel => exact ⟨mi + 1, hi, by first | rfl | simp, rfl, by omega, by omega, Nat.le_refl _, HB, HP, K1, H2⟩
      · have K2 : Hid (mi < l.length → 0 ≤ c (mi)) := Lib.hid fun _ => by omega
        generalize hcv : c (mi) = cv at hc HCM
        clear hcv
        have f0 := fun p : BelowOf _ => (HP.out.keep p.h).c2.1
        have f1 := fun p : BelowOf _ => (HP.out.keep p.h).c2.2.1
        have zz := fun p : BelowOf _ => Nat.lt_of_lt_of_le hbr p.h.size
        have r0 := fun p : BelowOf _ => ((bch' HB.out p.h).cell (p := ⟨b, o + mi * 5, none⟩) hb).trans (HC.out mi hml 0 _ rfl)
        have r1 := fun p : BelowOf _ => ((bch' HB.out p.h).cell (p := ⟨b, o + mi * 5 + 1, none⟩) hb).trans (HC.out mi hml 1 _ rfl)
        have r2 := fun p : BelowOf _ => ((bch' HB.out p.h).cell (p := ⟨b, o + mi * 5 + 2, none⟩) hb).trans (HC.out mi hml 2 _ rfl)
        have r3 := fun p : BelowOf _ => ((bch' HB.out p.h).cell (p := ⟨b, o + mi * 5 + 3, none⟩) hb).trans (HC.out mi hml 3 _ rfl)
        have r4 := fun p : BelowOf _ => ((bch' HB.out p.h).cell (p := ⟨b, o + mi * 5 + 4, none⟩) hb).trans (HC.out mi hml 4 _ rfl)
        refine wp_region_WQ (by kernel_rfl) (by kernel_rfl) ?_
        repeat (refine WQ.step (fun K hK => ?_); go_simp; first | (refine hK.out _ ?_; clear hK K) | (apply Exists.intro; refine ⟨fun _ => ?_, hK.out _ ?_⟩; (first | rfl | exact calls_below_of _ (HCM.out _ (bch' HB.out (BelowOf.h _)))); clear hK K))
        refine WQ.nil ?_
        intro _ hw'
        obtain ⟨⟨wq, hbq⟩, hw2⟩ := hw'
        subst hw2
        replace HP := Lib.hid (HP.out.keep hbq)
        replace HB := Lib.hid (bch' HB.out hbq)
        clear f0 f1 zz r0 r1 r2 r3 r4
        go_wp2_with fail
        go_roundg (mi - lo)
        case measure => omega
        case rel => exact ⟨lo, mi, rfl, rfl, by omega, by omega, Nat.le_refl _, HB, HP, H1, K2⟩
    · obtain rfl : hi = lo := by omega
      have HV : Hid (Halved c l.length hi) := Lib.hid ⟨hin, H1.out, H2.out⟩
      by_cases hn : hi < l.length
      · obtain ⟨b, o, rfl, hb, hC⟩ := hv2.out (fun h => by subst h; exact absurd hn (Nat.not_lt_zero _))
        have hcm := hcc.out hi hn
        have hbr : b < wr.heap.size := by have := HB.out.size; omega
        have HC := Lib.hid hC; clear hC
        have HCM := Lib.hid hcm; clear hcm
        have hm7 : hi * 5 < 9223372036854775807 := by omega
        have hni : (hi : Int) < (l.length : Int) := by omega
        have hnd : decide (hi < l.length) = true := decide_eq_true hn
        go_wp2_with fail
        by_cases hc : c hi = 0
        · have HR : Hid (decide (hi < l.length ∧ c hi = 0) = true) := Lib.hid (decide_eq_true ⟨hn, hc⟩)
          rw [hc] at HCM
          clear hc H1 H2
          have f0 := fun p : BelowOf _ => (HP.out.keep p.h).c2.1
          have f1 := fun p : BelowOf _ => (HP.out.keep p.h).c2.2.1
          have zz := fun p : BelowOf _ => Nat.lt_of_lt_of_le hbr p.h.size
          have r0 := fun p : BelowOf _ => ((bch' HB.out p.h).cell (p := ⟨b, o + hi * 5, none⟩) hb).trans (HC.out hi hn 0 _ rfl)
          have r1 := fun p : BelowOf _ => ((bch' HB.out p.h).cell (p := ⟨b, o + hi * 5 + 1, none⟩) hb).trans (HC.out hi hn 1 _ rfl)
          have r2 := fun p : BelowOf _ => ((bch' HB.out p.h).cell (p := ⟨b, o + hi * 5 + 2, none⟩) hb).trans (HC.out hi hn 2 _ rfl)
          have r3 := fun p : BelowOf _ => ((bch' HB.out p.h).cell (p := ⟨b, o + hi * 5 + 3, none⟩) hb).trans (HC.out hi hn 3 _ rfl)
          have r4 := fun p : BelowOf _ => ((bch' HB.out p.h).cell (p := ⟨b, o + hi * 5 + 4, none⟩) hb).trans (HC.out hi hn 4 _ rfl)
          refine wp_region_WQ (by kernel_rfl) (by kernel_rfl) ?_
          repeat (refine WQ.step (fun K hK => ?_); go_simp; first | (refine hK.out _ ?_; clear hK K) | (apply Exists.intro; refine ⟨fun _ => ?_, hK.out _ ?_⟩; (first | rfl | exact calls_below_of _ (HCM.out _ (bch' HB.out (BelowOf.h _)))); clear hK K))
          refine WQ.nil ?_
          intro _ hw'
          obtain ⟨⟨wq, hbq⟩, hw2⟩ := hw'
          subst hw2
          replace HP := Lib.hid (HP.out.keep hbq)
          replace HB := Lib.hid (bch' HB.out hbq)
          clear f0 f1 zz r0 r1 r2 r3 r4
          go_wp2_with fail
          go_ret2
          exact ⟨hi, HV.out, by rw [HR.out]; rfl, HB.out⟩
        · have HR : Hid (decide (hi < l.length ∧ c hi = 0) = false) := Lib.hid (decide_eq_false fun h => hc h.2)
          have hcb : ((c hi : Int) == 0) = false := by simpa using hc
          clear hc H1 H2
          generalize hcv : c hi = cv at hcb HCM
          clear hcv
          have f0 := fun p : BelowOf _ => (HP.out.keep p.h).c2.1
          have f1 := fun p : BelowOf _ => (HP.out.keep p.h).c2.2.1
          have zz := fun p : BelowOf _ => Nat.lt_of_lt_of_le hbr p.h.size
          have r0 := fun p : BelowOf _ => ((bch' HB.out p.h).cell (p := ⟨b, o + hi * 5, none⟩) hb).trans (HC.out hi hn 0 _ rfl)
          have r1 := fun p : BelowOf _ => ((bch' HB.out p.h).cell (p := ⟨b, o + hi * 5 + 1, none⟩) hb).trans (HC.out hi hn 1 _ rfl)
          have r2 := fun p : BelowOf _ => ((bch' HB.out p.h).cell (p := ⟨b, o + hi * 5 + 2, none⟩) hb).trans (HC.out hi hn 2 _ rfl)
          have r3 := fun p : BelowOf _ => ((bch' HB.out p.h).cell (p := ⟨b, o + hi * 5 + 3, none⟩) hb).trans (HC.out hi hn 3 _ rfl)
          have r4 := fun p : BelowOf _ => ((bch' HB.out p.h).cell (p := ⟨b, o + hi * 5 + 4, none⟩) hb).trans (HC.out hi hn 4 _ rfl)
          refine wp_region_WQ (by kernel_rfl) (by kernel_rfl) ?_
          repeat (refine WQ.step (fun K hK => ?_); go_simp; first | (refine hK.out _ ?_; clear hK K) | (apply Exists.intro; refine ⟨fun _ => ?_, hK.out _ ?_⟩; (first | rfl | exact calls_below_of _ (HCM.out _ (bch' HB.out (BelowOf.h _)))); clear hK K))
          refine WQ.nil ?_
          intro _ hw'
          obtain ⟨⟨wq, hbq⟩, hw2⟩ := hw'
          subst hw2
          replace HP := Lib.hid (HP.out.keep hbq)
          replace HB := Lib.hid (bch' HB.out hbq)
          clear f0 f1 zz r0 r1 r2 r3 r4
          go_wp2_with fail
          go_ret2
          exact ⟨hi, HV.out, by rw [HR.out]; rfl, HB.out⟩
      · have HR : Hid (decide (hi < l.length ∧ c hi = 0) = false) := Lib.hid (decide_eq_false fun h => hn h.1)
        have hni : ¬ (hi : Int) < (l.length : Int) := by omega
        have hnd : decide (hi < l.length) = false := decide_eq_false hn
        clear H1 H2
        go_wp2_with fail
        refine wp_region_WQ (by kernel_rfl) (by kernel_rfl) ?_
        repeat (refine WQ.step (fun K hK => ?_); go_simp; first | (refine hK.out _ ?_; clear hK K) | (apply Exists.intro; refine ⟨fun _ => ?_, hK.out _ ?_⟩; (first | rfl); clear hK K))
        refine WQ.nil ?_
        intro _ hw'
        obtain ⟨⟨wq, hbq⟩, hw2⟩ := hw'
        subst hw2
        replace HP := Lib.hid (HP.out.keep hbq)
        replace HB := Lib.hid (bch' HB.out hbq)
        go_wp2_with fail
        go_ret2
        exact ⟨hi, HV.out, by rw [HR.out]; rfl, HB.out⟩

set_option maxRecDepth 100000 in
set_option maxHeartbeats 4000000 in
theorem own_thome (w : World) :
    Calls Tryz.prog 41 #[] w fun e w' => e = .returned (.agg #[.int .i64 (-1), .int .i64 0]) ∧ Below w.heap.size w w' := by
  have HN := Blk.new w 41 #[.int .i64 (-1), .int .i64 0]
  obtain ⟨n0, n1, nf0, nf1⟩ := HN.c2
  have HV := Lib.hid (Blk.new w 41 #[.int .i64 0, .int .i64 0])
  have HB := Lib.hid ((Below.refl w.heap.size w).alloc (Nat.le_refl _) (.cells #[.int .i64 0, .int .i64 0] 41))
  obtain ⟨v0, v1, vf0, vf1⟩ := HV.out.c2
  go_enter Tryz.func41, Tryz.ntmps41
  go_wp2_with fail
  refine bodyPost_ret_by (v := .agg #[.int .i64 (-1), .int .i64 0]) (by simp [results, Tryz.f41, go_sem, n0, n1, nf0, nf1]) rfl ⟨rfl, (Below.refl _ _).alloc (Nat.le_refl _) _⟩

set_option maxRecDepth 100000 in
set_option maxHeartbeats 4000000 in
theorem cl_tmove (m : Mv) (ch a : Int) (w : World) (h1 : Rng m.ky) (h2 : Rng (ch, a)) :
    Calls Tryz.prog 57 #[.agg #[.int .i64 (m.ch), .int .i64 (m.at_), .int .i64 (m.pa), .int .i64 (m.lv), .int .i64 (m.pt)], .agg #[.int .i64 ch, .int .i64 a]] w fun e w' => e = .returned (.int .i64 (cmI m.ch m.at_ ch a)) ∧ Below w.heap.size w w' := by
  have htc := fun W => own_tcompare m.ch m.at_ ch a W h1.1 h1.2 h2.1 h2.2
  clear h1 h2
  have hal := ((Below.refl w.heap.size w).alloc (Nat.le_refl _) (.cells #[.int .i64 (m.ch), .int .i64 (m.at_), .int .i64 (m.pa), .int .i64 (m.lv), .int .i64 (m.pt)] 61)).alloc (by simp) (.cells #[.int .i64 ch, .int .i64 a] 39)
  have HB := Lib.hid hal; clear hal
  have HK := Lib.hid ((Blk.new w 61 #[.int .i64 (m.ch), .int .i64 (m.at_), .int .i64 (m.pa), .int .i64 (m.lv), .int .i64 (m.pt)]).alloc (.cells #[.int .i64 ch, .int .i64 a] 39))
  have hA := Blk.new (w.alloc (.cells #[.int .i64 (m.ch), .int .i64 (m.at_), .int .i64 (m.pa), .int .i64 (m.lv), .int .i64 (m.pt)] 61)) 39 #[.int .i64 ch, .int .i64 a]
  rw [World.size_alloc] at hA
  have HT := Lib.hid hA; clear hA
  obtain ⟨k0, k1, k2, k3, k4, kf0, kf1, kf2, kf3, kf4⟩ := HK.out.c5
  obtain ⟨t0, t1, tf0, tf1⟩ := HT.out.c2
  have HTC := Lib.hid htc; clear htc
  go_enter Tryz.func57, Tryz.ntmps57
  go_wp2_with fail
  with_reducible refine ((HTC.out _).mono ?_)
  rintro e w' ⟨rfl, hb, -⟩
  replace HB := Lib.hid (bch' HB.out hb)
  go_wp2_with fail
  go_ret
  exact ⟨rfl, HB.out⟩

set_option maxRecDepth 100000 in
set_option maxHeartbeats 4000000 in
theorem own_tmove (nu la li : Txt) (mv : List Mv) (pt : List Tm) (pm pp : Option Addr) (cm cp : Nat) (bl mk : Bool) (fo lo : Int) (ch a : Int) (w : World) (hm : RowX encMv 5 w pm mv) (hn : MvsR mv) (hmr : ∀ m ∈ mv, Rng m.ky) (h2 : Rng (ch, a)) :
    Calls Tryz.prog 40 #[.agg #[.string ⟨nu.toArray⟩, .string ⟨la.toArray⟩, .slice pm mv.length cm, .slice pp pt.length cp, .bool bl, .bool mk, .int .i64 fo, .string ⟨li.toArray⟩, .int .i64 lo], .agg #[.int .i64 ch, .int .i64 a]] w fun e w' => e = .returned (.tuple #[.agg #[.int .i64 ((mvF mv (ch, a)).getD homeV).1, .int .i64 ((mvF mv (ch, a)).getD homeV).2], .bool (mvF mv (ch, a)).isSome]) ∧ Below w.heap.size w w' := by
  have hsA := hn.asc; have hlen := hn.few
  have hbs := fun (W : World) (h : RowX encMv 5 W pm mv) => bs_mv 57 mv pm cm ch a (cmA mv (ch, a)) W h (by omega) (enters_of Tryz.func57 (by kernel_rfl) rfl) (fun i hi W2 _ => by rw [cmA_at hi]; exact cl_tmove (mv[i]'hi) ch a W2 (hmr _ (List.getElem_mem hi)) h2)
  have HAS := Lib.hid hsA; have HLN := Lib.hid hlen; clear hsA hlen hn hmr h2
  have hal := (((Below.refl w.heap.size w).alloc (Nat.le_refl _) (.cells #[.string ⟨nu.toArray⟩, .string ⟨la.toArray⟩, .slice pm mv.length cm, .slice pp pt.length cp, .bool bl, .bool mk, .int .i64 fo, .string ⟨li.toArray⟩, .int .i64 lo] 32)).alloc (by simp) (.cells #[.int .i64 ch, .int .i64 a] 39)).alloc (by simp only [World.size_alloc]; omega) (.cells #[.int .i64 0, .int .i64 0] 41)
  have HB := Lib.hid hal; clear hal
  have HK := Lib.hid (((Blk.new w 32 #[.string ⟨nu.toArray⟩, .string ⟨la.toArray⟩, .slice pm mv.length cm, .slice pp pt.length cp, .bool bl, .bool mk, .int .i64 fo, .string ⟨li.toArray⟩, .int .i64 lo]).alloc (.cells #[.int .i64 ch, .int .i64 a] 39)).alloc (.cells #[.int .i64 0, .int .i64 0] 41))
  have hA := Blk.new (w.alloc (.cells #[.string ⟨nu.toArray⟩, .string ⟨la.toArray⟩, .slice pm mv.length cm, .slice pp pt.length cp, .bool bl, .bool mk, .int .i64 fo, .string ⟨li.toArray⟩, .int .i64 lo] 32)) 39 #[.int .i64 ch, .int .i64 a]
  rw [World.size_alloc] at hA
  have HP := Lib.hid (hA.alloc (.cells #[.int .i64 0, .int .i64 0] 41)); clear hA
  have hA := Blk.new ((w.alloc (.cells #[.string ⟨nu.toArray⟩, .string ⟨la.toArray⟩, .slice pm mv.length cm, .slice pp pt.length cp, .bool bl, .bool mk, .int .i64 fo, .string ⟨li.toArray⟩, .int .i64 lo] 32)).alloc (.cells #[.int .i64 ch, .int .i64 a] 39)) 41 #[.int .i64 0, .int .i64 0]
  rw [World.size_alloc, World.size_alloc] at hA
  have HV := Lib.hid hA; clear hA
  have HM := Lib.hid (hm.kept HB.out); clear hm
  obtain ⟨k0, k1, k2, k3, k4, k5, k6, k7, k8, kf0, kf1, kf2, kf3, kf4, kf5, kf6, kf7, kf8⟩ := HK.out.c9
  obtain ⟨p0, p1, pf0, pf1⟩ := HP.out.c2
  obtain ⟨v0, v1, vf0, vf1⟩ := HV.out.c2
  have HBS := Lib.hid hbs; clear hbs
  go_enter Tryz.func40, Tryz.ntmps40
  go_upto_region 2 with (first | (with_reducible refine ((HBS.out _ HM.out).mono ?_); rintro e w' ⟨i, hh, rfl, hb⟩; have HH := Lib.hid hh; clear hh; replace HK := Lib.hid (HK.out.keep hb); clear k0 k1 k2 k3 k4 k5 k6 k7 k8 kf0 kf1 kf2 kf3 kf4 kf5 kf6 kf7 kf8; replace HP := Lib.hid (HP.out.keep hb); clear p0 p1 pf0 pf1; replace HV := Lib.hid (HV.out.keep hb); clear v0 v1 vf0 vf1; replace HM := Lib.hid (RowX.kept HM.out hb); replace HB := Lib.hid (bch' HB.out hb); clear hb; obtain ⟨k0, k1, k2, k3, k4, k5, k6, k7, k8, kf0, kf1, kf2, kf3, kf4, kf5, kf6, kf7, kf8⟩ := HK.out.c9; obtain ⟨p0, p1, pf0, pf1⟩ := HP.out.c2; obtain ⟨v0, v1, vf0, vf1⟩ := HV.out.c2))
  rcases mvF_bel HAS.out HH.out with ⟨hi, hd, hf⟩ | ⟨hd, hf⟩
  · have HF := Lib.hid hf; clear hf
    rw [hd]
    clear hd
    have hlt : (i : Int) < (mv.length : Int) := by omega
    have hi0 : (0 : Int) ≤ (i : Int) := by omega
    have hlo : i * 5 < 9223372036854775807 := by have := HLN.out; omega
    obtain ⟨b, o, hpm, hb, hC⟩ := HM.out (fun h => by rw [h] at hi; exact absurd hi (Nat.not_lt_zero _))
    subst hpm
    obtain ⟨y, hy⟩ : ∃ y, y = mv[i]'hi := ⟨_, rfl⟩
    have hcell := hC i hi
    rw [← hy] at hcell HF
    have y0 : w'.cell? ⟨b, o + i * 5, none⟩ = some (.int .i64 (y.ch)) := hcell 0 _ rfl
    have y1 : w'.cell? ⟨b, o + i * 5 + 1, none⟩ = some (.int .i64 (y.at_)) := hcell 1 _ rfl
    have y2 : w'.cell? ⟨b, o + i * 5 + 2, none⟩ = some (.int .i64 (y.pa)) := hcell 2 _ rfl
    have y3 : w'.cell? ⟨b, o + i * 5 + 3, none⟩ = some (.int .i64 (y.lv)) := hcell 3 _ rfl
    have y4 : w'.cell? ⟨b, o + i * 5 + 4, none⟩ = some (.int .i64 (y.pt)) := hcell 4 _ rfl
    have hbr := hb
    clear hcell hC hb hy HH
    go_wp2_with fail
    refine bodyPost_ret_by (v := .tuple #[.agg #[.int .i64 y.pa, .int .i64 y.lv], .bool true]) (by simp [results, Tryz.f40, go_sem, v0, v1, vf0, vf1]) rfl ⟨?_, ?_⟩
    · rw [HF.out]; first | rfl | simp [homeV]
    · exact (HB.out.setCell (p := ⟨w.heap.size + 1 + 1, 0, none⟩) (by show _ ≤ w.heap.size + 1 + 1; omega) _).setCell (p := ⟨w.heap.size + 1 + 1, 1, none⟩) (by show _ ≤ w.heap.size + 1 + 1; omega) _
  · have HF := Lib.hid hf; clear hf
    rw [hd]
    clear hd HH
    go_wp2_with (first | (with_reducible refine ((own_thome _).mono ?_); rintro e w' ⟨rfl, hb⟩; replace HK := Lib.hid (HK.out.keep hb); clear k0 k1 k2 k3 k4 k5 k6 k7 k8 kf0 kf1 kf2 kf3 kf4 kf5 kf6 kf7 kf8; replace HP := Lib.hid (HP.out.keep hb); clear p0 p1 pf0 pf1; replace HV := Lib.hid (HV.out.keep hb); clear v0 v1 vf0 vf1; replace HM := Lib.hid (RowX.kept HM.out hb); replace HB := Lib.hid (bch' HB.out hb); clear hb; obtain ⟨k0, k1, k2, k3, k4, k5, k6, k7, k8, kf0, kf1, kf2, kf3, kf4, kf5, kf6, kf7, kf8⟩ := HK.out.c9; obtain ⟨p0, p1, pf0, pf1⟩ := HP.out.c2; obtain ⟨v0, v1, vf0, vf1⟩ := HV.out.c2))
    refine bodyPost_ret_by (v := .tuple #[.agg #[.int .i64 (-1), .int .i64 0], .bool false]) (by simp [results, Tryz.f40, go_sem, v0, v1, vf0, vf1]) rfl ⟨?_, ?_⟩
    · rw [HF.out]; first | rfl | simp [homeV]
    · exact (HB.out.setCell (p := ⟨w.heap.size + 1 + 1, 0, none⟩) (by show _ ≤ w.heap.size + 1 + 1; omega) _).setCell (p := ⟨w.heap.size + 1 + 1, 1, none⟩) (by show _ ≤ w.heap.size + 1 + 1; omega) _
end Go.Proofs.YtikogofioggmlaaGreatDoor

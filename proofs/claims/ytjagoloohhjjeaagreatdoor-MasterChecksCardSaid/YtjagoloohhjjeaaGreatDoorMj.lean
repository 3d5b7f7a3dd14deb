/-
  Masters: Inhibitors of the program; slices.Equal at ints; Acting of the reference. The reference of layer 30: Grand, Inhibitors, Sources; the law MasterChecks.
-/
import Derived.Test.YtjagoloohhjjeaaGreatDoorMz
set_option linter.unusedVariables false
set_option linter.unusedSimpArgs false
namespace Lum
open Go Go.RowKit Go.Shelf
open Go.Lib (decDigits itoa)
def encI (n : Int) : List Value := [.int .i64 n]
theorem encI_len (n : Int) : (encI n).length = 1 := rfl
theorem encI_one (n : Int) : ∀ u ∈ encI n, u.oneCell' = true := by
  intro u hu
  simp only [encI, List.mem_cons, List.not_mem_nil, or_false] at hu
  rw [hu]; rfl
def inI (l : List Int) (i : Nat) : Int := l[i]?.getD 0
def IntC (W : World) (b o : Nat) (l : List Int) : Prop := ∀ i, i < l.length → W.cell? ⟨b, o + i, none⟩ = some (.int .i64 (inI l i))
/-- The slice v reads as the ints l. -/
def IntsAt (W : World) (v : Value) (l : List Int) : Prop := ∃ p c, v = .slice p l.length c ∧ (l ≠ [] → ∃ b o, p = Option.some ⟨b, o, none⟩ ∧ b < W.heap.size ∧ IntC W b o l)
theorem IntC.below {W W' : World} {b o B : Nat} {l : List Int} (h : IntC W b o l) (hb : Below B W W') (hl : b < B) : IntC W' b o l := fun i hi => (hb.cell (p := ⟨b, o + i, none⟩) hl).trans (h i hi)
theorem IntsAt.below {W W' : World} {v : Value} {l : List Int} (h : IntsAt W v l) (hb : Below W.heap.size W W') : IntsAt W' v l := by
  obtain ⟨p, c, e, h⟩ := h
  refine ⟨p, c, e, fun hn => ?_⟩
  obtain ⟨b, o, e2, hlt, hc⟩ := h hn
  exact ⟨b, o, e2, Nat.lt_of_lt_of_le hlt hb.size, hc.below hb hlt⟩
theorem OwnR.ints {base : Nat} {e : TypeId} {W : World} {p : Option Addr} {c : Nat} {l : List Int} (h : OwnR encI 1 base e W p c l) : IntsAt W (.slice p l.length c) l := by
  refine ⟨p, c, rfl, fun hn => ?_⟩
  obtain ⟨b, hp, hb, hc⟩ := h.at_ encI_len hn
  refine ⟨b, 0, hp, hb, fun i hi => ?_⟩
  have hx := hc i hi 0 _ rfl
  have e1 : inI l i = l[i]'hi := by unfold inI; rw [List.getElem?_eq_getElem hi]; rfl
  rw [e1]
  simpa using hx
end Lum
namespace Go.Proofs.YtjagoloohhjjeaaGreatDoor
open Go.RowKit Go.Shelf Lum
open Go.Lib (decDigits itoa)
attribute [local go_sem] bs_get bs_extract_end bs_extract_from bs_extract bs_append

set_option maxRecDepth 100000 in
set_option maxHeartbeats 4000000 in
theorem int_eq (l : List Int) (va vb : Value) (w : World) (ha : IntsAt w va l) (hb : IntsAt w vb l) (hn0 : l.length ≤ 1000000) :
    Calls Tryz.prog 30 #[va, vb] w fun e w' => e = .returned (.bool (true)) ∧ Below w.heap.size w w' := by
  obtain ⟨p1, c1, rfl, ha9⟩ := ha
  obtain ⟨p2, c2, rfl, hb9⟩ := hb
  have ha1 := Lib.hid ha9; have ha2 := Lib.hid hb9; clear ha9 hb9
  have HB := Lib.hid (Below.refl w.heap.size w)
  go_enter Tryz.func30, Tryz.ntmps30
  go_wp2_with fail
  go_loopw [13] (fun i wr => ∃ k r : Nat, i = .int .i64 (k : Int) ∧ Hid (k + r = l.length) ∧ Hid (Below w.heap.size w wr)) (fun i _ => l.length - (intOf i).toNat)
  case atStart => exact ⟨0, l.length, rfl, Lib.hid (by omega), HB⟩
  case round =>
    obtain ⟨k, r, rfl, hkr, HB2⟩ := hrel
    clear HB
    have HB := HB2; clear HB2
    cases r with
    | zero =>
      have hlt : ¬ (k : Int) < (l.length : Int) := by have := hkr.out; omega
      go_wp2
      go_ret
      exact ⟨rfl, HB.out⟩
    | succ r =>
      have hkl : k < l.length := by have := hkr.out; omega
      have hlt : (k : Int) < (l.length : Int) := by omega
      have hun : IntKind.i64.wrap ((k : Int) + 1) = (k : Int) + 1 := IntWalk.i64_in _ (by omega)
      obtain ⟨b1, o1, rfl, hb1, h1⟩ := ha1.out (fun h => by subst h; simp at hkl)
      obtain ⟨b2, o2, rfl, hb2, h2⟩ := ha2.out (fun h => by subst h; simp at hkl)
      have HC1 := Lib.hid h1; have HC2 := Lib.hid h2; clear h1 h2
      have hbr1 : b1 < wr.heap.size := by have := HB.out.size; omega
      have hbr2 : b2 < wr.heap.size := by have := HB.out.size; omega
      go_wp2_with fail
      have r1 := fun p : BelowOf _ => ((HC1.out.below (bch' HB.out p.h) hb1) k hkl)
      have r2 := fun p : BelowOf _ => ((HC2.out.below (bch' HB.out p.h) hb2) k hkl)
      refine wp_region_WQ (by kernel_rfl) (by kernel_rfl) ?_
      repeat (refine WQ.step (fun K hK => ?_); go_simp; first | (refine hK.out _ ?_; clear hK K) | (apply Exists.intro; refine ⟨fun _ => ?_, hK.out _ ?_⟩; (first | rfl); clear hK K))
      refine WQ.nil ?_
      intro _ hw'
      obtain ⟨⟨wq, hbq⟩, hw2⟩ := hw'
      subst hw2
      replace HB := Lib.hid (bch' HB.out hbq)
      clear r1 r2
      go_wp2_with fail
      go_roundw
      case rel => exact ⟨k + 1, r, by first | rfl | simp, Lib.hid (by have := hkr.out; omega), HB⟩
      case measure => first | (simp [intOf]; done) | (simp [intOf]; omega)

set_option maxRecDepth 100000 in
set_option maxHeartbeats 4000000 in
theorem own_minhib_bad (tz st ti : Int) (bl : Bool) (fr : Txt) (sv fv : Value) (su : List Sb) (fd : List Fdr) (ch : Int) (w : World) (hs : SbsAt w sv su) (hf : FdsAt w fv fd) (hx : fr.length ≤ 60) (hl : ∀ i, i < fd.length → (fdv fd i).fr.length ≤ 60) (hz : ¬ onE fr tz st ti su fd ch = 0) (env : Env w) :
    Calls Tryz.prog 24 #[.agg #[.string ⟨(fr).toArray⟩, .int .i64 tz, .int .i64 st, .int .i64 ti, .bool (bl), sv, fv], .int .i64 ch] w fun e w' => e = .returned (.tuple #[.slice none 0 0, .int .i64 (onE fr tz st ti su fd ch)]) ∧ Below w.heap.size w w' := by
  have ENV := Lib.hid env; clear env
  have hon := fun W (h1 : SbsAt W sv su) (h2 : FdsAt W fv fd) (e : Env W) => own_mon tz st ti bl fr sv fv su fd ch W h1 h2 (by omega) (fun i hi => Nat.le_trans (hl i hi) (by omega)) e
  have hal := (Below.refl w.heap.size w).alloc (Nat.le_refl _) (.cells #[.string ⟨(fr).toArray⟩, .int .i64 tz, .int .i64 st, .int .i64 ti, .bool (bl), sv, fv] 28)
  have HS := Lib.hid (SbsAt.kept hs hal)
  have HF := Lib.hid (FdsAt.kept hf hal)
  have HS0 := Lib.hid hs
  have HB := Lib.hid hal; clear hal hs hf
  have HK := Lib.hid (Blk.new w 28 #[.string ⟨(fr).toArray⟩, .int .i64 tz, .int .i64 st, .int .i64 ti, .bool (bl), sv, fv])
  obtain ⟨k0, k1, k2, k3, k4, k5, k6, kf0, kf1, kf2, kf3, kf4, kf5, kf6⟩ := HK.out.c7
  have hne : ((onE fr tz st ti su fd ch : Int) != 0) = true := by simpa using hz
  clear hz
  generalize onE fr tz st ti su fd ch = m at *
  have HON := Lib.hid hon; clear hon
  go_enter Tryz.func24, Tryz.ntmps24
  go_wp2_with (first | (with_reducible refine ((HON.out _ HS.out HF.out (ENV.out.below HB.out)).mono ?_); rintro e w' ⟨rfl, hb⟩; replace HK := Lib.hid (HK.out.keep hb); clear k0 k1 k2 k3 k4 k5 k6 kf0 kf1 kf2 kf3 kf4 kf5 kf6; replace HS := Lib.hid (SbsAt.kept HS.out hb); replace HF := Lib.hid (FdsAt.kept HF.out hb); replace HB := Lib.hid (bch' HB.out hb); clear hb; obtain ⟨k0, k1, k2, k3, k4, k5, k6, kf0, kf1, kf2, kf3, kf4, kf5, kf6⟩ := HK.out.c7))
  go_ret2
  exact ⟨rfl, HB.out⟩

set_option maxRecDepth 100000 in
set_option maxHeartbeats 4000000 in
theorem own_minhib_ok (tz st ti : Int) (bl : Bool) (fr : Txt) (sv fv : Value) (su : List Sb) (fd : List Fdr) (ch : Int) (w : World) (hs : SbsAt w sv su) (hf : FdsAt w fv fd) (hx : fr.length ≤ 60) (hl : ∀ i, i < fd.length → (fdv fd i).fr.length ≤ 60) (hz : onE fr tz st ti su fd ch = 0) (env : Env w) :
    Calls Tryz.prog 24 #[.agg #[.string ⟨(fr).toArray⟩, .int .i64 tz, .int .i64 st, .int .i64 ti, .bool (bl), sv, fv], .int .i64 ch] w fun e w' => ∃ pp cc, e = .returned (.tuple #[.slice pp (actN su ch).length cc, .int .i64 0]) ∧ IntsAt w' (.slice pp (actN su ch).length cc) (actN su ch) ∧ Below w.heap.size w w' := by
  obtain ⟨ps, zs, rfl⟩ : ∃ ps zs, sv = .slice ps su.length zs := by obtain ⟨a, b, e, -⟩ := hs; exact ⟨a, b, e⟩
  obtain ⟨pf, zf, rfl⟩ : ∃ pf zf, fv = .slice pf fd.length zf := by obtain ⟨a, b, e, -⟩ := hf; exact ⟨a, b, e⟩
  have ENV := Lib.hid env; clear env
  obtain ⟨hm, hc0, hc1⟩ := onE_zero hz
  obtain ⟨m1, m2, m3⟩ := maE_zero hm
  have tok := tabOk m2
  have hfew := tok.few
  have hon := fun W (h1 : SbsAt W (.slice ps su.length zs) su) (h2 : FdsAt W (.slice pf fd.length zf) fd) (e : Env W) => own_mon tz st ti bl fr (.slice ps su.length zs) (.slice pf fd.length zf) su fd ch W h1 h2 (by omega) (fun i hi => Nat.le_trans (hl i hi) (by omega)) e
  rw [hz] at hon
  have hac := fun W (h : SbsAt W (.slice ps su.length zs) su) => own_macting tz st ti bl fr (.slice ps su.length zs) (.slice pf fd.length zf) su ch W h tok
  obtain ⟨i0, hi, hz0, hz1, hz2⟩ := info_parts info_int
  have hal := (Below.refl w.heap.size w).alloc (Nat.le_refl _) (.cells #[.string ⟨(fr).toArray⟩, .int .i64 tz, .int .i64 st, .int .i64 ti, .bool (bl), (.slice ps su.length zs), (.slice pf fd.length zf)] 28)
  have HS := Lib.hid (SbsAt.kept hs hal)
  have HF := Lib.hid (FdsAt.kept hf hal)
  have HS0 := Lib.hid hs
  have HB := Lib.hid hal; clear hal hs hf
  have HK := Lib.hid (Blk.new w 28 #[.string ⟨(fr).toArray⟩, .int .i64 tz, .int .i64 st, .int .i64 ti, .bool (bl), (.slice ps su.length zs), (.slice pf fd.length zf)])
  obtain ⟨k0, k1, k2, k3, k4, k5, k6, kf0, kf1, kf2, kf3, kf4, kf5, kf6⟩ := HK.out.c7
  clear hz hm hc0 hc1 m1 m2 m3 tok hl hx
  have HON := Lib.hid hon; clear hon
  have HAC := Lib.hid hac; clear hac
  go_enter Tryz.func24, Tryz.ntmps24
  go_wp2_with (first | (with_reducible refine ((HON.out _ HS.out HF.out (ENV.out.below HB.out)).mono ?_); rintro e w' ⟨rfl, hb⟩; replace HK := Lib.hid (HK.out.keep hb); clear k0 k1 k2 k3 k4 k5 k6 kf0 kf1 kf2 kf3 kf4 kf5 kf6; replace HS := Lib.hid (SbsAt.kept HS.out hb); replace HF := Lib.hid (FdsAt.kept HF.out hb); replace HB := Lib.hid (bch' HB.out hb); clear hb; obtain ⟨k0, k1, k2, k3, k4, k5, k6, kf0, kf1, kf2, kf3, kf4, kf5, kf6⟩ := HK.out.c7))
  refine ((HAC.out _ HS.out).mono ?_)
  rintro e w5 ⟨pv, cv, rfl, hsa, hpv, hb⟩
  have HSR := Lib.hid (SrcK.of_at (pp := none) hsa (fun a a2 ha ha2 => by cases ha2))
  clear hsa hpv
  have HO := Lib.hid (OwnR.nil (enc := encI) (k := 1) w.heap.size 3 w5)
  replace HB := Lib.hid (bch' HB.out hb)
  clear hb HAC
  go_wp2_with fail
  go_loopw [7, 21] (fun s i wr => ∃ (k r n : Nat) (pp : Option Addr) (cc : Nat), i = .int .i64 (k : Int) ∧ s = .slice pp n cc ∧ Hid (n = ((actN su ch).take k).length) ∧ Hid (k + r = (actL su ch).length) ∧ Hid (Below w.heap.size w wr) ∧ Hid (OwnR encI 1 w.heap.size 3 wr pp cc ((actN su ch).take k)) ∧ Hid (SrcK wr pv pp (actL su ch))) (fun _ i _ => (actL su ch).length - (intOf i).toNat)
  case atStart => exact ⟨0, (actL su ch).length, 0, none, 0, rfl, rfl, Lib.hid rfl, Lib.hid (by omega), HB, HO, HSR⟩
  case round =>
    obtain ⟨k, r, n, pp, cc, rfl, rfl, HN, hkr, HB2, HO2, HSR2⟩ := hrel
    clear HB HO HSR HS HF
    have HB := HB2; have HO := HO2; have HSR := HSR2; clear HB2 HO2 HSR2
    cases r with
    | zero =>
      have hlt : ¬ (k : Int) < ((actL su ch).length : Int) := by have := hkr.out; omega
      have HL : Hid (((actN su ch).take k) = actN su ch) := by show _ = _; rw [List.take_of_length_le (by have := hkr.out; unfold actN; rw [List.length_map]; omega)]
      rw [HL.out] at HO
      have HNL : Hid (n = (actN su ch).length) := Lib.hid (HN.out.trans (congrArg List.length HL.out))
      clear HN HL
      go_wp2_with fail
      go_ret2
      exact ⟨pp, cc, by rw [← HNL.out]; rfl, HO.out.ints, HB.out⟩
    | succ r =>
      have hkl : k < (actL su ch).length := by have := hkr.out; omega
      have h16 : (actL su ch).length ≤ 16 := Nat.le_trans (by unfold actL; exact List.length_filter_le _ _) hfew
      have hlt : (k : Int) < ((actL su ch).length : Int) := by omega
      have hun : IntKind.i64.wrap ((k : Int) + 1) = (k : Int) + 1 := IntWalk.i64_in _ (by omega)
      obtain ⟨b, o, rfl, hb, hC, hne⟩ := HSR.out (fun h => by rw [h] at hkl; simp at hkl)
      obtain ⟨x1, x2, x3, q5, n5, c5, x4⟩ := hC k hkl
      clear hC hne
      have hal := (Below.refl wr.heap.size wr).alloc (Nat.le_refl _) (.cells #[.int .i64 (sbv (actL su ch) k).nu, .int .i64 (sbv (actL su ch) k).pr, .bool (sbv (actL su ch) k).inh, .slice q5 n5 c5] 79)
      replace HO := Lib.hid (HO.out.keep hal)
      replace HSR := Lib.hid (HSR.out.below hal)
      replace HB := Lib.hid (bch' HB.out hal)
      clear hal
      have HX := Lib.hid (Blk.new wr 79 #[.int .i64 (sbv (actL su ch) k).nu, .int .i64 (sbv (actL su ch) k).pr, .bool (sbv (actL su ch) k).inh, .slice q5 n5 c5])
      obtain ⟨y0, y1, y2, y3, yf0, yf1, yf2, yf3⟩ := HX.out.c4
      go_upto_region 8 with fail
      generalize wr.alloc (.cells #[.int .i64 (sbv (actL su ch) k).nu, .int .i64 (sbv (actL su ch) k).pr, .bool (sbv (actL su ch) k).inh, .slice q5 n5 c5] 79) = wy at *
      have HTK := Lib.hid (src_take (bl := true) hkl)
      have hpl : ((actN su ch).take k).length ≤ 100 := by rw [List.length_take]; omega
      have HPL := Lib.hid hpl; clear hpl
      go_wp2_with (first | (at_builtin; refine wpList_appR3 rfl _ _ 49 rfl w.heap.size 3 i0 (.int .i64 0) 8 Tryz.underlying49 hi hz0 hz1 hz2 rfl (by decide) (by decide) pp cc _ (((actN su ch).take k)) (HN.out) _ ((sbv (actL su ch) k).nu) wy.heap.size rfl (fun j u hu => cell_new_of wy 3 hu) (encI_one _) rfl (HO.out.keep ((Below.refl _ wy).alloc (Nat.le_refl _) _)) rfl (by have := HPL.out; omega) (by have := HB.out.size; rw [World.size_alloc]; omega) ?_; intro p1 c1 w3 hO3 hb3 hk3; have HO3 := Lib.hid hO3; have HB3 := Lib.hid hb3; have HK3 := Lib.hid hk3; clear hO3 hb3 hk3))
      go_roundw
      case rel => exact ⟨k + 1, r, n + 1, p1, c1, by first | rfl | simp, by first | rfl | simp, Lib.hid (by rw [HTK.out, List.length_append, ← HN.out]; rfl), Lib.hid (by have := hkr.out; omega), Lib.hid (HB.out.trans (((Below.refl _ wy).alloc (by have := HB.out.size; omega) _).trans HB3.out)), Lib.hid (by rw [HTK.out]; exact HO3.out), Lib.hid ((HSR.out.below ((Below.refl _ wy).alloc (Nat.le_refl _) _)).app HB3.out.size HK3.out)⟩
      case measure => first | (simp [intOf]; done) | (simp [intOf]; omega)

set_option maxRecDepth 100000 in
set_option maxHeartbeats 4000000 in
theorem r30_acting (tz st ti : Int) (bl : Bool) (fr : Txt) (sv fv : Value) (su : List Sb) (ch : Int) (w : World) (hsv : SbsAt w sv su) (hs : TabOk su) :
    Calls Tryz.prog 68 #[.agg #[.string ⟨(fr).toArray⟩, .int .i64 tz, .int .i64 st, .int .i64 ti, .bool (bl), sv, fv], .int .i64 ch] w fun e w' => ∃ pp cc, e = .returned (.slice pp (actN su ch).length cc) ∧ IntsAt w' (.slice pp (actN su ch).length cc) (actN su ch) ∧ (∀ a, pp = some a → w.heap.size ≤ a.block) ∧ Below w.heap.size w w' := by
  obtain ⟨i0, hi, hz0, hz1, hz2⟩ := info_parts info_int
  obtain ⟨p, c, rfl, -, hv1⟩ := hsv
  have hv2 := Lib.hid hv1; clear hv1
  have HB0 := Lib.hid ((Below.refl w.heap.size w).alloc (Nat.le_refl _) (.cells #[.string ⟨(fr).toArray⟩, .int .i64 tz, .int .i64 st, .int .i64 ti, .bool (bl), .slice p su.length c, fv] 30))
  have HK1 : Hid (Blk (w.alloc (.cells #[.string ⟨(fr).toArray⟩, .int .i64 tz, .int .i64 st, .int .i64 ti, .bool (bl), .slice p su.length c, fv] 30)) w.heap.size 30 #[.string ⟨(fr).toArray⟩, .int .i64 tz, .int .i64 st, .int .i64 ti, .bool (bl), .slice p su.length c, fv]) := Lib.hid (Blk.new w 30 #[.string ⟨(fr).toArray⟩, .int .i64 tz, .int .i64 st, .int .i64 ti, .bool (bl), .slice p su.length c, fv])
  have HB1 := Lib.hid (Below.refl (w.heap.size + 1) (w.alloc (.cells #[.string ⟨(fr).toArray⟩, .int .i64 tz, .int .i64 st, .int .i64 ti, .bool (bl), .slice p su.length c, fv] 30)))
  have HK := HK1
  obtain ⟨k0, k1, k2, k3, k4, k5, k6, kf0, kf1, kf2, kf3, kf4, kf5, kf6⟩ := HK.out.c7
  have HO := Lib.hid (OwnR.nil (enc := encI) (k := 1) (w.heap.size + 1) 3 (w.alloc (.cells #[.string ⟨(fr).toArray⟩, .int .i64 tz, .int .i64 st, .int .i64 ti, .bool (bl), .slice p su.length c, fv] 30)))
  go_enter Tryz.func68, Tryz.ntmps68
  go_wp2_with fail
  go_loopw [5, 6] (fun s i wr => ∃ (k r n : Nat) (pp : Option Addr) (cc : Nat), i = .int .i64 (k : Int) ∧ s = .slice pp n cc ∧ Hid (n = (actN (su.take k) ch).length) ∧ Hid (k + r = su.length) ∧ Hid (Below (w.heap.size + 1) (w.alloc (.cells #[.string ⟨(fr).toArray⟩, .int .i64 tz, .int .i64 st, .int .i64 ti, .bool (bl), .slice p su.length c, fv] 30)) wr) ∧ Hid (OwnR encI 1 (w.heap.size + 1) 3 wr pp cc (actN (su.take k) ch))) (fun _ i _ => su.length - (intOf i).toNat)
  case atStart => exact ⟨0, su.length, 0, none, 0, rfl, rfl, Lib.hid rfl, Lib.hid (by omega), HB1, HO⟩
  case round =>
    obtain ⟨k, r, n, pp, cc, rfl, rfl, HN, hkr, HB2, HO2⟩ := hrel
    clear HB1 HO
    clear k0 k1 k2 k3 k4 k5 k6 kf0 kf1 kf2 kf3 kf4 kf5 kf6
    have HB1 := HB2; have HO := HO2; clear HB2 HO2
    have HK := Lib.hid (HK1.out.below HB1.out (Nat.lt_succ_self _))
    obtain ⟨k0, k1, k2, k3, k4, k5, k6, kf0, kf1, kf2, kf3, kf4, kf5, kf6⟩ := HK.out.c7
    have HBW : Hid (Below w.heap.size w wr) := Lib.hid (HB0.out.trans (HB1.out.mono (Nat.le_succ _)))
    cases r with
    | zero =>
      have hlt : ¬ (k : Int) < (su.length : Int) := by have := hkr.out; omega
      have HL : Hid ((actN (su.take k) ch) = actN su ch) := by show _ = _; rw [List.take_of_length_le (by have := hkr.out; omega)]
      rw [HL.out] at HO
      have HNL : Hid (n = (actN su ch).length) := Lib.hid (HN.out.trans (congrArg List.length HL.out))
      clear HN HL
      go_wp2_with fail
      go_ret
      exact ⟨pp, cc, by rw [← HNL.out]; rfl, HO.out.ints, fun a ha => Nat.le_trans (Nat.le_succ _) (HO.out.lt a ha).1, HBW.out⟩
    | succ r =>
      have h16 := hs.few
      have hkl : k < su.length := by have := hkr.out; omega
      have hlt : (k : Int) < (su.length : Int) := by omega
      have hun : IntKind.i64.wrap ((k : Int) + 1) = (k : Int) + 1 := IntWalk.i64_in _ (by omega)
      obtain ⟨b, o, rfl, hb, hC⟩ := hv2.out (fun h => by subst h; simp at hkl)
      obtain ⟨x1, x2, x3, gv, x4, hgn⟩ := hC.below HBW.out hb k hkl
      have hbr : b < wr.heap.size := by have := HBW.out.size; omega
      have hga := fun W (g : Below wr.heap.size wr W) => r26_gain (sbv su k).nu (sbv su k).pr ch 0 (sbv su k).inh (sbv su k).gs gv W (hgn.kept g) (by have := (subOk (hs.ok k hkl)).few; omega)
      have HPL : Hid ((actN (su.take k) ch).length ≤ 100) := Lib.hid (by unfold actN actL; rw [List.length_map]; exact Nat.le_trans (List.length_filter_le _ _) (by rw [List.length_take]; omega))
      have hact : actP ch (sbv su k) = ((sbv su k).inh && (gnG (sbv su k).gs ch 0).isSome) := rfl
      have HACT := Lib.hid hact; clear hact
      clear hgn
      have HGA := Lib.hid hga; clear hga
      go_wp2_with fail
      refine ((HGA.out _ (Below.refl _ _)).mono ?_)
      rintro e wx ⟨rfl, hbx⟩
      replace HBW := Lib.hid (bch' HBW.out hbx)
      replace HB1 := Lib.hid (HB1.out.trans (hbx.mono (by have := HB1.out.size; rw [World.size_alloc] at this; omega)))
      replace HO := Lib.hid (HO.out.keep hbx)
      clear HGA hbx x1 x2 x3 x4 HK k0 k1 k2 k3 k4 k5 k6 kf0 kf1 kf2 kf3 kf4 kf5 kf6
      have HK := Lib.hid (HK1.out.below HB1.out (Nat.lt_succ_self _))
      obtain ⟨k0, k1, k2, k3, k4, k5, k6, kf0, kf1, kf2, kf3, kf4, kf5, kf6⟩ := HK.out.c7
      obtain ⟨x1, x2, x3, -⟩ := hC.below HBW.out hb k hkl
      clear hC
      have hbr2 : b < wx.heap.size := by have := HBW.out.size; omega
      cases hg : (gnG (sbv su k).gs ch 0).isSome
      · have HA : Hid ((if actP ch (sbv su k) then [(sbv su k).nu] else []) = []) := by show _ = _; rw [HACT.out, hg, Bool.and_false]; rfl
        clear hg
        have HT2 : Hid ((actN (su.take (k + 1)) ch) = (actN (su.take k) ch)) := by show _ = _; rw [actN_succ ch hkl, HA.out]; exact List.append_nil _
        go_wp2_with fail
        go_roundw
        case rel => exact ⟨k + 1, r, n, pp, cc, by first | rfl | simp, rfl, Lib.hid (by rw [HT2.out]; exact HN.out), Lib.hid (by have := hkr.out; omega), HB1, Lib.hid (by rw [HT2.out]; exact HO.out)⟩
        case measure => first | (simp [intOf]; done) | (simp [intOf]; omega)
      · cases hin : (sbv su k).inh
        · rw [hin] at x3
          have HA : Hid ((if actP ch (sbv su k) then [(sbv su k).nu] else []) = []) := by show _ = _; rw [HACT.out, hin, Bool.false_and]; rfl
          clear hg hin
          have HT2 : Hid ((actN (su.take (k + 1)) ch) = (actN (su.take k) ch)) := by show _ = _; rw [actN_succ ch hkl, HA.out]; exact List.append_nil _
          go_wp2_with fail
          go_roundw
          case rel => exact ⟨k + 1, r, n, pp, cc, by first | rfl | simp, rfl, Lib.hid (by rw [HT2.out]; exact HN.out), Lib.hid (by have := hkr.out; omega), HB1, Lib.hid (by rw [HT2.out]; exact HO.out)⟩
          case measure => first | (simp [intOf]; done) | (simp [intOf]; omega)
        · rw [hin] at x3
          have HT2 : Hid ((actN (su.take (k + 1)) ch) = (actN (su.take k) ch) ++ [(sbv su k).nu]) := by show _ = _; rw [actN_succ ch hkl, HACT.out, hin, hg]; rfl
          clear hg hin
          go_wp2_with (first | (at_builtin; refine wpList_appR rfl _ _ 49 rfl (w.heap.size + 1) 3 i0 (.int .i64 0) 8 Tryz.underlying49 hi hz0 hz1 hz2 rfl (by decide) (by decide) pp cc (actN (su.take k) ch) _ (sbv su k).nu wx.heap.size rfl (fun j u hu => cell_new_of wx 3 hu) (encI_one _) (by rw [← HN.out]; rfl) (HO.out.keep ((Below.refl _ wx).alloc (Nat.le_refl _) _)) rfl (by have := HPL.out; omega) (by have := HB1.out.size; simp only [World.size_alloc] at this ⊢; omega) ?_; intro p1 c1 w3 hO3 hb3; have HO3 := Lib.hid hO3; have HB3 := Lib.hid hb3; clear hO3 hb3))
          go_roundw
          case rel => exact ⟨k + 1, r, n + 1, p1, c1, by first | rfl | simp, by rw [HN.out], Lib.hid (by rw [HT2.out, List.length_append, ← HN.out]; rfl), Lib.hid (by have := hkr.out; omega), Lib.hid (HB1.out.trans (((Below.refl _ wx).alloc (by have := HB1.out.size; simp only [World.size_alloc] at this ⊢; omega) _).trans HB3.out)), Lib.hid (by rw [HT2.out]; exact HO3.out)⟩
          case measure => first | (simp [intOf]; done) | (simp [intOf]; omega)
end Go.Proofs.YtjagoloohhjjeaaGreatDoor
namespace Lum
open Go Go.RowKit Go.Shelf
open Go.Lib (decDigits itoa)
/-- A slice of ints that lies beside a call's own slice at pp. -/
def IntK (W : World) (pv pp : Option Addr) (l : List Int) : Prop := l ≠ [] → ∃ b o, pv = some ⟨b, o, none⟩ ∧ b < W.heap.size ∧ IntC W b o l ∧ ∀ a, pp = some a → b ≠ a.block
theorem IntC.of_heap {W W' : World} {b o : Nat} {l : List Int} (h : IntC W b o l) (e : W'.heap[b]? = W.heap[b]?) : IntC W' b o l := fun i hi => (World.cell?_of_block (w := W) (a := ⟨b, o + i, none⟩) e).trans (h i hi)
theorem IntK.below {W W' : World} {pv pp : Option Addr} {l : List Int} (h : IntK W pv pp l) (hb : Below W.heap.size W W') : IntK W' pv pp l := fun hn => by
  obtain ⟨b, o, h1, h2, h3, h4⟩ := h hn
  exact ⟨b, o, h1, Nat.lt_of_lt_of_le h2 hb.size, h3.of_heap (hb.block b h2), h4⟩
theorem IntK.app {W W' : World} {pv pp pp' : Option Addr} {l : List Int} (h : IntK W pv pp l) (hs : W.heap.size ≤ W'.heap.size) (hk : ∀ g : Nat, g < W.heap.size → (∀ a, pp = some a → g ≠ a.block) → W'.heap[g]? = W.heap[g]? ∧ ∀ a, pp' = some a → g ≠ a.block) : IntK W' pv pp' l := fun hn => by
  obtain ⟨b, o, h1, h2, h3, h4⟩ := h hn
  obtain ⟨k1, k2⟩ := hk b h2 h4
  exact ⟨b, o, h1, Nat.lt_of_lt_of_le h2 hs, h3.of_heap k1, k2⟩
theorem IntK.of_at {W : World} {pv pp : Option Addr} {c : Nat} {l : List Int} (h : IntsAt W (.slice pv l.length c) l) (hne : ∀ a a2, pv = some a → pp = some a2 → a.block ≠ a2.block) : IntK W pv pp l := fun hn => by
  obtain ⟨p, c2, e, h2⟩ := h
  injection e with e1 e2 e3
  subst e1
  obtain ⟨b, o, rfl, hb, hC⟩ := h2 hn
  exact ⟨b, o, rfl, hb, hC, fun a ha => hne _ a rfl ha⟩
theorem int_take {l : List Int} {k : Nat} (h : k < l.length) : l.take (k + 1) = l.take k ++ [inI l k] := by
  rw [List.take_succ_eq_append_getElem h]
  unfold inI
  rw [List.getElem?_eq_getElem h]; rfl
theorem ints_nil (W : World) : IntsAt W (.slice none 0 0) [] := ⟨none, 0, rfl, fun h => absurd rfl h⟩
theorem pts_nil (W : World) : PtsAt W (.slice none 0 0) [] := ⟨none, 0, rfl, fun h => absurd rfl h⟩
end Lum
namespace Go.Proofs.YtjagoloohhjjeaaGreatDoor
open Go.RowKit Go.Shelf Lum
open Go.Lib (decDigits itoa)
attribute [local go_sem] bs_get bs_extract_end bs_extract_from bs_extract bs_append

set_option maxRecDepth 100000 in
set_option maxHeartbeats 4000000 in
theorem r30_grand_bad (tz st ti : Int) (bl : Bool) (fr : Txt) (sv fv : Value) (su : List Sb) (fd : List Fdr) (t : Int) (w : World) (hs : SbsAt w sv su) (hf : FdsAt w fv fd) (hx : fr.length ≤ 60) (hl : ∀ i, i < fd.length → (fdv fd i).fr.length ≤ 60) (hz : ¬ maE fr tz st ti su fd = 0) :
    Calls Tryz.prog 23 #[.agg #[.string ⟨(fr).toArray⟩, .int .i64 tz, .int .i64 st, .int .i64 ti, .bool (bl), sv, fv], .int .i64 t] w fun e w' => e = .returned (.tuple #[.string ⟨([]).toArray⟩, .int .i64 (maE fr tz st ti su fd)]) ∧ Below w.heap.size w w' := by
  have hck := fun W (h1 : SbsAt W sv su) (h2 : FdsAt W fv fd) => r30_check tz st ti bl fr sv fv su fd W h1 h2 (by omega) (fun i hi => Nat.le_trans (hl i hi) (by omega))
  have hal := (Below.refl w.heap.size w).alloc (Nat.le_refl _) (.cells #[.string ⟨(fr).toArray⟩, .int .i64 tz, .int .i64 st, .int .i64 ti, .bool (bl), sv, fv] 30)
  have HS := Lib.hid (SbsAt.kept hs hal)
  have HF := Lib.hid (FdsAt.kept hf hal)
  have HB := Lib.hid hal
  clear hal hs hf
  have HK := Lib.hid (Blk.new w 30 #[.string ⟨(fr).toArray⟩, .int .i64 tz, .int .i64 st, .int .i64 ti, .bool (bl), sv, fv])
  obtain ⟨k0, k1, k2, k3, k4, k5, k6, kf0, kf1, kf2, kf3, kf4, kf5, kf6⟩ := HK.out.c7
  have hne : ((maE fr tz st ti su fd : Int) != 0) = true := by simpa using hz
  clear hz
  generalize maE fr tz st ti su fd = m at *
  have HCK := Lib.hid hck; clear hck
  go_enter Tryz.func23, Tryz.ntmps23
  go_wp2_with (first | (with_reducible refine ((HCK.out _ HS.out HF.out).mono ?_); rintro e w' ⟨rfl, hb⟩; replace HK := Lib.hid (HK.out.keep hb); clear k0 k1 k2 k3 k4 k5 k6 kf0 kf1 kf2 kf3 kf4 kf5 kf6; replace HS := Lib.hid (SbsAt.kept HS.out hb); replace HF := Lib.hid (FdsAt.kept HF.out hb); replace HB := Lib.hid (bch' HB.out hb); clear hb; obtain ⟨k0, k1, k2, k3, k4, k5, k6, kf0, kf1, kf2, kf3, kf4, kf5, kf6⟩ := HK.out.c7))
  go_ret2
  exact ⟨rfl, HB.out⟩

set_option maxRecDepth 100000 in
set_option maxHeartbeats 4000000 in
theorem r30_grand_ok (tz st ti : Int) (bl : Bool) (fr : Txt) (sv fv : Value) (su : List Sb) (fd : List Fdr) (t : Int) (w : World) (hs : SbsAt w sv su) (hf : FdsAt w fv fd) (hx : fr.length ≤ 60) (hl : ∀ i, i < fd.length → (fdv fd i).fr.length ≤ 60) (hz : maE fr tz st ti su fd = 0) :
    Calls Tryz.prog 23 #[.agg #[.string ⟨(fr).toArray⟩, .int .i64 tz, .int .i64 st, .int .i64 ti, .bool (bl), sv, fv], .int .i64 t] w fun e w' => e = .returned (.tuple #[.string ⟨(showR (mainQ fr tz st ti bl t)).toArray⟩, .int .i64 0]) ∧ Below w.heap.size w w' := by
  obtain ⟨m1, m2, m3⟩ := maE_zero hz
  have hck := fun W (h1 : SbsAt W sv su) (h2 : FdsAt W fv fd) => r30_check tz st ti bl fr sv fv su fd W h1 h2 (by omega) (fun i hi => Nat.le_trans (hl i hi) (by omega))
  rw [hz] at hck
  have hmn := fun W => r30_main tz st ti bl fr sv fv t W m1 hx
  have hal := (Below.refl w.heap.size w).alloc (Nat.le_refl _) (.cells #[.string ⟨(fr).toArray⟩, .int .i64 tz, .int .i64 st, .int .i64 ti, .bool (bl), sv, fv] 30)
  have HS := Lib.hid (SbsAt.kept hs hal)
  have HF := Lib.hid (FdsAt.kept hf hal)
  have HB := Lib.hid hal
  clear hal hs hf
  have HK := Lib.hid (Blk.new w 30 #[.string ⟨(fr).toArray⟩, .int .i64 tz, .int .i64 st, .int .i64 ti, .bool (bl), sv, fv])
  obtain ⟨k0, k1, k2, k3, k4, k5, k6, kf0, kf1, kf2, kf3, kf4, kf5, kf6⟩ := HK.out.c7
  clear hz m1 m2 m3
  generalize showR (mainQ fr tz st ti bl t) = tr at *
  have HCK := Lib.hid hck; clear hck
  have HMN := Lib.hid hmn; clear hmn
  go_enter Tryz.func23, Tryz.ntmps23
  go_wp2_with (first | (with_reducible refine ((HCK.out _ HS.out HF.out).mono ?_); rintro e w' ⟨rfl, hb⟩; replace HK := Lib.hid (HK.out.keep hb); clear k0 k1 k2 k3 k4 k5 k6 kf0 kf1 kf2 kf3 kf4 kf5 kf6; replace HS := Lib.hid (SbsAt.kept HS.out hb); replace HF := Lib.hid (FdsAt.kept HF.out hb); replace HB := Lib.hid (bch' HB.out hb); clear hb; obtain ⟨k0, k1, k2, k3, k4, k5, k6, kf0, kf1, kf2, kf3, kf4, kf5, kf6⟩ := HK.out.c7) | (with_reducible refine ((HMN.out _).mono ?_); rintro e w' ⟨rfl, hb⟩; replace HK := Lib.hid (HK.out.keep hb); clear k0 k1 k2 k3 k4 k5 k6 kf0 kf1 kf2 kf3 kf4 kf5 kf6; replace HS := Lib.hid (SbsAt.kept HS.out hb); replace HF := Lib.hid (FdsAt.kept HF.out hb); replace HB := Lib.hid (bch' HB.out hb); clear hb; obtain ⟨k0, k1, k2, k3, k4, k5, k6, kf0, kf1, kf2, kf3, kf4, kf5, kf6⟩ := HK.out.c7))
  go_ret2
  exact ⟨rfl, HB.out⟩

set_option maxRecDepth 100000 in
set_option maxHeartbeats 4000000 in
theorem r30_inhib_bad (tz st ti : Int) (bl : Bool) (fr : Txt) (sv fv : Value) (su : List Sb) (fd : List Fdr) (ch : Int) (w : World) (hs : SbsAt w sv su) (hf : FdsAt w fv fd) (hx : fr.length ≤ 60) (hl : ∀ i, i < fd.length → (fdv fd i).fr.length ≤ 60) (hz : ¬ onE fr tz st ti su fd ch = 0) :
    Calls Tryz.prog 25 #[.agg #[.string ⟨(fr).toArray⟩, .int .i64 tz, .int .i64 st, .int .i64 ti, .bool (bl), sv, fv], .int .i64 ch] w fun e w' => e = .returned (.tuple #[.slice none 0 0, .int .i64 (onE fr tz st ti su fd ch)]) ∧ Below w.heap.size w w' := by
  have hon := fun W (h1 : SbsAt W sv su) (h2 : FdsAt W fv fd) => r30_channeled tz st ti bl fr sv fv su fd ch W h1 h2 (by omega) (fun i hi => Nat.le_trans (hl i hi) (by omega))
  have hal := (Below.refl w.heap.size w).alloc (Nat.le_refl _) (.cells #[.string ⟨(fr).toArray⟩, .int .i64 tz, .int .i64 st, .int .i64 ti, .bool (bl), sv, fv] 30)
  have HS := Lib.hid (SbsAt.kept hs hal)
  have HF := Lib.hid (FdsAt.kept hf hal)
  have HB := Lib.hid hal
  clear hal hs hf
  have HK := Lib.hid (Blk.new w 30 #[.string ⟨(fr).toArray⟩, .int .i64 tz, .int .i64 st, .int .i64 ti, .bool (bl), sv, fv])
  obtain ⟨k0, k1, k2, k3, k4, k5, k6, kf0, kf1, kf2, kf3, kf4, kf5, kf6⟩ := HK.out.c7
  have hne : ((onE fr tz st ti su fd ch : Int) != 0) = true := by simpa using hz
  clear hz
  generalize onE fr tz st ti su fd ch = m at *
  have HON := Lib.hid hon; clear hon
  go_enter Tryz.func25, Tryz.ntmps25
  go_wp2_with (first | (with_reducible refine ((HON.out _ HS.out HF.out).mono ?_); rintro e w' ⟨rfl, hb⟩; replace HK := Lib.hid (HK.out.keep hb); clear k0 k1 k2 k3 k4 k5 k6 kf0 kf1 kf2 kf3 kf4 kf5 kf6; replace HS := Lib.hid (SbsAt.kept HS.out hb); replace HF := Lib.hid (FdsAt.kept HF.out hb); replace HB := Lib.hid (bch' HB.out hb); clear hb; obtain ⟨k0, k1, k2, k3, k4, k5, k6, kf0, kf1, kf2, kf3, kf4, kf5, kf6⟩ := HK.out.c7))
  go_ret2
  exact ⟨rfl, HB.out⟩

set_option maxRecDepth 100000 in
set_option maxHeartbeats 4000000 in
theorem r30_inhib_ok (tz st ti : Int) (bl : Bool) (fr : Txt) (sv fv : Value) (su : List Sb) (fd : List Fdr) (ch : Int) (w : World) (hs : SbsAt w sv su) (hf : FdsAt w fv fd) (hx : fr.length ≤ 60) (hl : ∀ i, i < fd.length → (fdv fd i).fr.length ≤ 60) (hz : onE fr tz st ti su fd ch = 0) :
    Calls Tryz.prog 25 #[.agg #[.string ⟨(fr).toArray⟩, .int .i64 tz, .int .i64 st, .int .i64 ti, .bool (bl), sv, fv], .int .i64 ch] w fun e w' => ∃ pp cc, e = .returned (.tuple #[.slice pp (actN su ch).length cc, .int .i64 0]) ∧ IntsAt w' (.slice pp (actN su ch).length cc) (actN su ch) ∧ Below w.heap.size w w' := by
  obtain ⟨hm, hc0, hc1⟩ := onE_zero hz
  obtain ⟨m1, m2, m3⟩ := maE_zero hm
  have hon := fun W (h1 : SbsAt W sv su) (h2 : FdsAt W fv fd) => r30_channeled tz st ti bl fr sv fv su fd ch W h1 h2 (by omega) (fun i hi => Nat.le_trans (hl i hi) (by omega))
  rw [hz] at hon
  have hac := fun W (h : SbsAt W sv su) => r30_acting tz st ti bl fr sv fv su ch W h (tabOk m2)
  have hal := (Below.refl w.heap.size w).alloc (Nat.le_refl _) (.cells #[.string ⟨(fr).toArray⟩, .int .i64 tz, .int .i64 st, .int .i64 ti, .bool (bl), sv, fv] 30)
  have HS := Lib.hid (SbsAt.kept hs hal)
  have HF := Lib.hid (FdsAt.kept hf hal)
  have HB := Lib.hid hal
  clear hal hs hf
  have HK := Lib.hid (Blk.new w 30 #[.string ⟨(fr).toArray⟩, .int .i64 tz, .int .i64 st, .int .i64 ti, .bool (bl), sv, fv])
  obtain ⟨k0, k1, k2, k3, k4, k5, k6, kf0, kf1, kf2, kf3, kf4, kf5, kf6⟩ := HK.out.c7
  clear hz hm hc0 hc1 m1 m2 m3
  have HON := Lib.hid hon; clear hon
  have HAC := Lib.hid hac; clear hac
  go_enter Tryz.func25, Tryz.ntmps25
  go_wp2_with (first | (with_reducible refine ((HON.out _ HS.out HF.out).mono ?_); rintro e w' ⟨rfl, hb⟩; replace HK := Lib.hid (HK.out.keep hb); clear k0 k1 k2 k3 k4 k5 k6 kf0 kf1 kf2 kf3 kf4 kf5 kf6; replace HS := Lib.hid (SbsAt.kept HS.out hb); replace HF := Lib.hid (FdsAt.kept HF.out hb); replace HB := Lib.hid (bch' HB.out hb); clear hb; obtain ⟨k0, k1, k2, k3, k4, k5, k6, kf0, kf1, kf2, kf3, kf4, kf5, kf6⟩ := HK.out.c7) | (with_reducible refine ((HAC.out _ HS.out).mono ?_); rintro e w' ⟨pp, cc, rfl, hia, -, hb⟩))
  go_ret2
  exact ⟨pp, cc, rfl, hia, bch' HB.out hb⟩

set_option maxRecDepth 100000 in
set_option maxHeartbeats 4000000 in
theorem r30_named (tz st ti : Int) (bl : Bool) (fr : Txt) (sv fv : Value) (su : List Sb) (ch : Int) (w : World) (hs : SbsAt w sv su) (ht : TabOk su) :
    Calls Tryz.prog 69 #[.agg #[.string ⟨(fr).toArray⟩, .int .i64 tz, .int .i64 st, .int .i64 ti, .bool (bl), sv, fv], .int .i64 ch] w fun e w' => ∃ pp cc, e = .returned (.slice pp (srcL bl su ch).length cc) ∧ PtsAt w' (.slice pp (srcL bl su ch).length cc) (srcL bl su ch) ∧ Below w.heap.size w w' := by
  obtain ⟨ps, zs, rfl⟩ : ∃ ps zs, sv = .slice ps su.length zs := by obtain ⟨a, b, e, -⟩ := hs; exact ⟨a, b, e⟩
  cases bl
  · have hac := fun W (h : SbsAt W (.slice ps su.length zs) su) => r30_acting tz st ti false fr (.slice ps su.length zs) fv su ch W h ht
    have hfew := ht.few
    obtain ⟨i0, hi, hz0, hz1, hz2⟩ := info_parts info_src
    have hal := (Below.refl w.heap.size w).alloc (Nat.le_refl _) (.cells #[.string ⟨(fr).toArray⟩, .int .i64 tz, .int .i64 st, .int .i64 ti, .bool false, (.slice ps su.length zs), fv] 30)
    have HS := Lib.hid (SbsAt.kept hs hal)
    have HS0 := Lib.hid hs
    have HB := Lib.hid hal; clear hal hs ht
    have HK := Lib.hid (Blk.new w 30 #[.string ⟨(fr).toArray⟩, .int .i64 tz, .int .i64 st, .int .i64 ti, .bool false, (.slice ps su.length zs), fv])
    obtain ⟨k0, k1, k2, k3, k4, k5, k6, kf0, kf1, kf2, kf3, kf4, kf5, kf6⟩ := HK.out.c7
    have HAC := Lib.hid hac; clear hac
    go_enter Tryz.func69, Tryz.ntmps69
    go_upto_region 1 with fail
    generalize w.alloc (.cells #[.string ⟨(fr).toArray⟩, .int .i64 tz, .int .i64 st, .int .i64 ti, .bool false, (.slice ps su.length zs), fv] 30) = w1 at *
    have HK0 := HK
    have HO := Lib.hid (OwnR.one (enc := encP) (k := 2) (base := w.heap.size) (e := 64) w1 ((5 : Int), (0 : Int)) rfl HB.out.size)
    have hal := (Below.refl w1.heap.size w1).alloc (Nat.le_refl _) (.cells #[.int .i64 5, .int .i64 0] 64)
    replace HK := Lib.hid (HK.out.keep hal)
    clear k0 k1 k2 k3 k4 k5 k6 kf0 kf1 kf2 kf3 kf4 kf5 kf6
    replace HS := Lib.hid (SbsAt.kept HS.out hal)
    replace HB := Lib.hid (bch' HB.out hal)
    clear hal
    obtain ⟨k0, k1, k2, k3, k4, k5, k6, kf0, kf1, kf2, kf3, kf4, kf5, kf6⟩ := HK.out.c7
    go_upto_region 2 with fail
    change Hid (OwnR encP 2 w.heap.size 64 (w1.alloc (.cells #[.int .i64 5, .int .i64 0] 64)) (some ⟨w1.heap.size, 0, none⟩) 1 (srcH false)) at HO
    generalize w1.alloc (.cells #[.int .i64 5, .int .i64 0] 64) = wq at *
    go_wp2_with fail
    refine ((HAC.out _ HS.out).mono ?_)
    rintro e w5 ⟨pv, cv, rfl, hsa, hpv, hb⟩
    have HSR := Lib.hid (IntK.of_at (pp := (some ⟨w1.heap.size, 0, none⟩)) hsa (fun a a2 ha ha2 => Nat.ne_of_gt (Nat.lt_of_lt_of_le (HO.out.lt a2 ha2).2 (hpv a ha))))
    clear hsa hpv
    replace HO := Lib.hid (HO.out.keep hb)
    replace HB := Lib.hid (bch' HB.out hb)
    clear hb HAC
    go_wp2_with fail
    go_loopw [5, 7] (fun s i wr => ∃ (k r n : Nat) (pp : Option Addr) (cc : Nat), s = .slice pp n cc ∧ i = .int .i64 (k : Int) ∧ Hid (n = (srcH false ++ ((actN su ch).take k).map (fun n => ((7 : Int), n))).length) ∧ Hid (k + r = (actN su ch).length) ∧ Hid (Below w.heap.size w wr) ∧ Hid (OwnR encP 2 w.heap.size 64 wr pp cc (srcH false ++ ((actN su ch).take k).map (fun n => ((7 : Int), n)))) ∧ Hid (IntK wr pv pp (actN su ch))) (fun _ i _ => (actN su ch).length - (intOf i).toNat)
    case atStart => exact ⟨0, (actN su ch).length, _, (some ⟨w1.heap.size, 0, none⟩), 1, rfl, rfl, Lib.hid rfl, Lib.hid (by omega), HB, Lib.hid (by simpa using HO.out), HSR⟩
    case round =>
      obtain ⟨k, r, n, pp, cc, rfl, rfl, HN, hkr, HB2, HO2, HSR2⟩ := hrel
      clear HB HO HSR HS
      have HB := HB2; have HO := HO2; have HSR := HSR2; clear HB2 HO2 HSR2
      cases r with
      | zero =>
        have hlt : ¬ (k : Int) < ((actN su ch).length : Int) := by have := hkr.out; omega
        have HL : Hid (srcH false ++ ((actN su ch).take k).map (fun n => ((7 : Int), n)) = srcL false su ch) := by show _ = _; rw [List.take_of_length_le (by have := hkr.out; omega)]; rfl
        rw [HL.out] at HO
        have HNL : Hid (n = (srcL false su ch).length) := Lib.hid (HN.out.trans (congrArg List.length HL.out))
        clear HN HL
        go_wp2_with fail
        go_ret
        exact ⟨pp, cc, by rw [← HNL.out]; rfl, HO.out.ptsP, HB.out⟩
      | succ r =>
        have hkl : k < (actN su ch).length := by have := hkr.out; omega
        have h16 : (actN su ch).length ≤ 16 := by unfold actN actL; rw [List.length_map]; exact Nat.le_trans (List.length_filter_le _ _) hfew
        have hlt : (k : Int) < ((actN su ch).length : Int) := by omega
        have hun : IntKind.i64.wrap ((k : Int) + 1) = (k : Int) + 1 := IntWalk.i64_in _ (by omega)
        obtain ⟨b, o, rfl, hb, hC, hne⟩ := HSR.out (fun h => by rw [h] at hkl; simp at hkl)
        have x1 := hC k hkl
        clear hC hne
        have HTK := Lib.hid (int_take hkl)
        have hpl : (srcH false ++ ((actN su ch).take k).map (fun n => ((7 : Int), n))).length ≤ 100 := by rw [List.length_append, List.length_map, List.length_take]; unfold srcH; simp; omega
        have HPL := Lib.hid hpl; clear hpl
        go_wp2_with (first | (at_builtin; refine wpList_appR3 rfl _ _ 54 rfl w.heap.size 64 i0 (.agg #[.int .i64 0, .int .i64 0]) 16 Tryz.underlying54 hi hz0 hz1 hz2 rfl (by decide) (by decide) pp cc _ (srcH false ++ ((actN su ch).take k).map (fun n => ((7 : Int), n))) (HN.out) _ (((7 : Int), inI (actN su ch) k)) wr.heap.size rfl (fun j u hu => cell_new_of wr 64 hu) (encP_one _) rfl (HO.out.keep ((Below.refl _ wr).alloc (Nat.le_refl _) _)) rfl (by have := HPL.out; omega) (by have := HB.out.size; rw [World.size_alloc]; omega) ?_; intro p1 c1 w3 hO3 hb3 hk3; have HO3 := Lib.hid hO3; have HB3 := Lib.hid hb3; have HK3 := Lib.hid hk3; clear hO3 hb3 hk3))
        go_roundw
        case rel => exact ⟨k + 1, r, n + 1, p1, c1, by first | rfl | simp, by first | rfl | simp, Lib.hid (by rw [HTK.out, List.map_append, ← List.append_assoc, List.length_append, ← HN.out]; rfl), Lib.hid (by have := hkr.out; omega), Lib.hid (HB.out.trans (((Below.refl _ wr).alloc (by have := HB.out.size; omega) _).trans HB3.out)), Lib.hid (by rw [HTK.out, List.map_append, ← List.append_assoc]; exact HO3.out), Lib.hid ((HSR.out.below ((Below.refl _ wr).alloc (Nat.le_refl _) _)).app HB3.out.size HK3.out)⟩
        case measure => first | (simp [intOf]; done) | (simp [intOf]; omega)
  · have hac := fun W (h : SbsAt W (.slice ps su.length zs) su) => r30_acting tz st ti true fr (.slice ps su.length zs) fv su ch W h ht
    have hfew := ht.few
    obtain ⟨i0, hi, hz0, hz1, hz2⟩ := info_parts info_src
    have hal := (Below.refl w.heap.size w).alloc (Nat.le_refl _) (.cells #[.string ⟨(fr).toArray⟩, .int .i64 tz, .int .i64 st, .int .i64 ti, .bool true, (.slice ps su.length zs), fv] 30)
    have HS := Lib.hid (SbsAt.kept hs hal)
    have HS0 := Lib.hid hs
    have HB := Lib.hid hal; clear hal hs ht
    have HK := Lib.hid (Blk.new w 30 #[.string ⟨(fr).toArray⟩, .int .i64 tz, .int .i64 st, .int .i64 ti, .bool true, (.slice ps su.length zs), fv])
    obtain ⟨k0, k1, k2, k3, k4, k5, k6, kf0, kf1, kf2, kf3, kf4, kf5, kf6⟩ := HK.out.c7
    have HAC := Lib.hid hac; clear hac
    go_enter Tryz.func69, Tryz.ntmps69
    go_upto_region 1 with fail
    generalize w.alloc (.cells #[.string ⟨(fr).toArray⟩, .int .i64 tz, .int .i64 st, .int .i64 ti, .bool true, (.slice ps su.length zs), fv] 30) = w1 at *
    have HK0 := HK
    have HO := Lib.hid (OwnR.one (enc := encP) (k := 2) (base := w.heap.size) (e := 64) w1 ((5 : Int), (0 : Int)) rfl HB.out.size)
    have hal := (Below.refl w1.heap.size w1).alloc (Nat.le_refl _) (.cells #[.int .i64 5, .int .i64 0] 64)
    replace HK := Lib.hid (HK.out.keep hal)
    clear k0 k1 k2 k3 k4 k5 k6 kf0 kf1 kf2 kf3 kf4 kf5 kf6
    replace HS := Lib.hid (SbsAt.kept HS.out hal)
    replace HB := Lib.hid (bch' HB.out hal)
    clear hal
    obtain ⟨k0, k1, k2, k3, k4, k5, k6, kf0, kf1, kf2, kf3, kf4, kf5, kf6⟩ := HK.out.c7
    go_upto_region 2 with fail
    change Hid (OwnR encP 2 w.heap.size 64 (w1.alloc (.cells #[.int .i64 5, .int .i64 0] 64)) (some ⟨w1.heap.size, 0, none⟩) 1 [((5 : Int), (0 : Int))]) at HO
    have hwq : w1.heap.size < (w1.alloc (.cells #[.int .i64 5, .int .i64 0] 64)).heap.size := by rw [World.size_alloc]; omega
    have hkk : w.heap.size < w1.heap.size := by have := HK0.out.lt; omega
    generalize w1.alloc (.cells #[.int .i64 5, .int .i64 0] 64) = wq at *
    go_upto_region 4 with (first | (at_builtin; refine wpList_appR3 rfl _ _ 54 rfl w.heap.size 64 i0 (.agg #[.int .i64 0, .int .i64 0]) 16 Tryz.underlying54 hi hz0 hz1 hz2 rfl (by decide) (by decide) (some ⟨w1.heap.size, 0, none⟩) 1 _ ([((5 : Int), (0 : Int))]) (by simp) _ (((6 : Int), (0 : Int))) wq.heap.size rfl (fun j u hu => cell_new_of wq 64 hu) (encP_one _) rfl (HO.out.keep ((Below.refl _ wq).alloc (Nat.le_refl _) _)) rfl (by simp) (by have := HB.out.size; rw [World.size_alloc]; omega) ?_; intro p0 c0 w4 hO3 hb3 hk3; have HO4 := Lib.hid hO3; have HB4 := Lib.hid hb3; have HK4 := Lib.hid hk3; clear hO3 hb3 hk3))
    have HKn : Hid (Blk w4 w.heap.size 30 #[.string ⟨(fr).toArray⟩, .int .i64 tz, .int .i64 st, .int .i64 ti, .bool true, (.slice ps su.length zs), fv]) := Lib.hid (((HK4.out w.heap.size (by rw [World.size_alloc]; omega) (fun a ha => by injection ha with ha; subst ha; exact Nat.ne_of_lt hkk)).1).trans (HK.out.alloc _))
    clear k0 k1 k2 k3 k4 k5 k6 kf0 kf1 kf2 kf3 kf4 kf5 kf6
    replace HK := HKn; clear HKn
    replace HB := Lib.hid (HB.out.trans (((Below.refl _ wq).alloc (by have := HB.out.size; omega) _).trans HB4.out))
    replace HS := Lib.hid (SbsAt.kept HS0.out HB.out)
    clear HO HB4 HK4
    have HO : Hid (OwnR encP 2 w.heap.size 64 w4 p0 c0 (srcH true)) := HO4
    clear HO4
    obtain ⟨k0, k1, k2, k3, k4, k5, k6, kf0, kf1, kf2, kf3, kf4, kf5, kf6⟩ := HK.out.c7
    go_wp2_with fail
    refine ((HAC.out _ HS.out).mono ?_)
    rintro e w5 ⟨pv, cv, rfl, hsa, hpv, hb⟩
    have HSR := Lib.hid (IntK.of_at (pp := p0) hsa (fun a a2 ha ha2 => Nat.ne_of_gt (Nat.lt_of_lt_of_le (HO.out.lt a2 ha2).2 (hpv a ha))))
    clear hsa hpv
    replace HO := Lib.hid (HO.out.keep hb)
    replace HB := Lib.hid (bch' HB.out hb)
    clear hb HAC
    go_wp2_with fail
    go_loopw [5, 7] (fun s i wr => ∃ (k r n : Nat) (pp : Option Addr) (cc : Nat), s = .slice pp n cc ∧ i = .int .i64 (k : Int) ∧ Hid (n = (srcH true ++ ((actN su ch).take k).map (fun n => ((7 : Int), n))).length) ∧ Hid (k + r = (actN su ch).length) ∧ Hid (Below w.heap.size w wr) ∧ Hid (OwnR encP 2 w.heap.size 64 wr pp cc (srcH true ++ ((actN su ch).take k).map (fun n => ((7 : Int), n)))) ∧ Hid (IntK wr pv pp (actN su ch))) (fun _ i _ => (actN su ch).length - (intOf i).toNat)
    case atStart => exact ⟨0, (actN su ch).length, _, p0, c0, rfl, rfl, Lib.hid rfl, Lib.hid (by omega), HB, Lib.hid (by simpa using HO.out), HSR⟩
    case round =>
      obtain ⟨k, r, n, pp, cc, rfl, rfl, HN, hkr, HB2, HO2, HSR2⟩ := hrel
      clear HB HO HSR HS
      have HB := HB2; have HO := HO2; have HSR := HSR2; clear HB2 HO2 HSR2
      cases r with
      | zero =>
        have hlt : ¬ (k : Int) < ((actN su ch).length : Int) := by have := hkr.out; omega
        have HL : Hid (srcH true ++ ((actN su ch).take k).map (fun n => ((7 : Int), n)) = srcL true su ch) := by show _ = _; rw [List.take_of_length_le (by have := hkr.out; omega)]; rfl
        rw [HL.out] at HO
        have HNL : Hid (n = (srcL true su ch).length) := Lib.hid (HN.out.trans (congrArg List.length HL.out))
        clear HN HL
        go_wp2_with fail
        go_ret
        exact ⟨pp, cc, by rw [← HNL.out]; rfl, HO.out.ptsP, HB.out⟩
      | succ r =>
        have hkl : k < (actN su ch).length := by have := hkr.out; omega
        have h16 : (actN su ch).length ≤ 16 := by unfold actN actL; rw [List.length_map]; exact Nat.le_trans (List.length_filter_le _ _) hfew
        have hlt : (k : Int) < ((actN su ch).length : Int) := by omega
        have hun : IntKind.i64.wrap ((k : Int) + 1) = (k : Int) + 1 := IntWalk.i64_in _ (by omega)
        obtain ⟨b, o, rfl, hb, hC, hne⟩ := HSR.out (fun h => by rw [h] at hkl; simp at hkl)
        have x1 := hC k hkl
        clear hC hne
        have HTK := Lib.hid (int_take hkl)
        have hpl : (srcH true ++ ((actN su ch).take k).map (fun n => ((7 : Int), n))).length ≤ 100 := by rw [List.length_append, List.length_map, List.length_take]; unfold srcH; simp; omega
        have HPL := Lib.hid hpl; clear hpl
        go_wp2_with (first | (at_builtin; refine wpList_appR3 rfl _ _ 54 rfl w.heap.size 64 i0 (.agg #[.int .i64 0, .int .i64 0]) 16 Tryz.underlying54 hi hz0 hz1 hz2 rfl (by decide) (by decide) pp cc _ (srcH true ++ ((actN su ch).take k).map (fun n => ((7 : Int), n))) (HN.out) _ (((7 : Int), inI (actN su ch) k)) wr.heap.size rfl (fun j u hu => cell_new_of wr 64 hu) (encP_one _) rfl (HO.out.keep ((Below.refl _ wr).alloc (Nat.le_refl _) _)) rfl (by have := HPL.out; omega) (by have := HB.out.size; rw [World.size_alloc]; omega) ?_; intro p1 c1 w3 hO3 hb3 hk3; have HO3 := Lib.hid hO3; have HB3 := Lib.hid hb3; have HK3 := Lib.hid hk3; clear hO3 hb3 hk3))
        go_roundw
        case rel => exact ⟨k + 1, r, n + 1, p1, c1, by first | rfl | simp, by first | rfl | simp, Lib.hid (by rw [HTK.out, List.map_append, ← List.append_assoc, List.length_append, ← HN.out]; rfl), Lib.hid (by have := hkr.out; omega), Lib.hid (HB.out.trans (((Below.refl _ wr).alloc (by have := HB.out.size; omega) _).trans HB3.out)), Lib.hid (by rw [HTK.out, List.map_append, ← List.append_assoc]; exact HO3.out), Lib.hid ((HSR.out.below ((Below.refl _ wr).alloc (Nat.le_refl _) _)).app HB3.out.size HK3.out)⟩
        case measure => first | (simp [intOf]; done) | (simp [intOf]; omega)

set_option maxRecDepth 100000 in
set_option maxHeartbeats 4000000 in
theorem r30_sources_bad (tz st ti : Int) (bl : Bool) (fr : Txt) (sv fv : Value) (su : List Sb) (fd : List Fdr) (ch : Int) (w : World) (hs : SbsAt w sv su) (hf : FdsAt w fv fd) (hx : fr.length ≤ 60) (hl : ∀ i, i < fd.length → (fdv fd i).fr.length ≤ 60) (hz : ¬ onE fr tz st ti su fd ch = 0) :
    Calls Tryz.prog 27 #[.agg #[.string ⟨(fr).toArray⟩, .int .i64 tz, .int .i64 st, .int .i64 ti, .bool (bl), sv, fv], .int .i64 ch] w fun e w' => e = .returned (.tuple #[.slice none 0 0, .int .i64 (onE fr tz st ti su fd ch)]) ∧ Below w.heap.size w w' := by
  have hon := fun W (h1 : SbsAt W sv su) (h2 : FdsAt W fv fd) => r30_channeled tz st ti bl fr sv fv su fd ch W h1 h2 (by omega) (fun i hi => Nat.le_trans (hl i hi) (by omega))
  have hal := (Below.refl w.heap.size w).alloc (Nat.le_refl _) (.cells #[.string ⟨(fr).toArray⟩, .int .i64 tz, .int .i64 st, .int .i64 ti, .bool (bl), sv, fv] 30)
  have HS := Lib.hid (SbsAt.kept hs hal)
  have HF := Lib.hid (FdsAt.kept hf hal)
  have HB := Lib.hid hal
  clear hal hs hf
  have HK := Lib.hid (Blk.new w 30 #[.string ⟨(fr).toArray⟩, .int .i64 tz, .int .i64 st, .int .i64 ti, .bool (bl), sv, fv])
  obtain ⟨k0, k1, k2, k3, k4, k5, k6, kf0, kf1, kf2, kf3, kf4, kf5, kf6⟩ := HK.out.c7
  have hne : ((onE fr tz st ti su fd ch : Int) != 0) = true := by simpa using hz
  clear hz
  generalize onE fr tz st ti su fd ch = m at *
  have HON := Lib.hid hon; clear hon
  go_enter Tryz.func27, Tryz.ntmps27
  go_wp2_with (first | (with_reducible refine ((HON.out _ HS.out HF.out).mono ?_); rintro e w' ⟨rfl, hb⟩; replace HK := Lib.hid (HK.out.keep hb); clear k0 k1 k2 k3 k4 k5 k6 kf0 kf1 kf2 kf3 kf4 kf5 kf6; replace HS := Lib.hid (SbsAt.kept HS.out hb); replace HF := Lib.hid (FdsAt.kept HF.out hb); replace HB := Lib.hid (bch' HB.out hb); clear hb; obtain ⟨k0, k1, k2, k3, k4, k5, k6, kf0, kf1, kf2, kf3, kf4, kf5, kf6⟩ := HK.out.c7))
  go_ret2
  exact ⟨rfl, HB.out⟩

set_option maxRecDepth 100000 in
set_option maxHeartbeats 4000000 in
theorem r30_sources_ok (tz st ti : Int) (bl : Bool) (fr : Txt) (sv fv : Value) (su : List Sb) (fd : List Fdr) (ch : Int) (w : World) (hs : SbsAt w sv su) (hf : FdsAt w fv fd) (hx : fr.length ≤ 60) (hl : ∀ i, i < fd.length → (fdv fd i).fr.length ≤ 60) (hz : onE fr tz st ti su fd ch = 0) :
    Calls Tryz.prog 27 #[.agg #[.string ⟨(fr).toArray⟩, .int .i64 tz, .int .i64 st, .int .i64 ti, .bool (bl), sv, fv], .int .i64 ch] w fun e w' => ∃ pp cc, e = .returned (.tuple #[.slice pp (srcL bl su ch).length cc, .int .i64 0]) ∧ PtsAt w' (.slice pp (srcL bl su ch).length cc) (srcL bl su ch) ∧ Below w.heap.size w w' := by
  obtain ⟨hm, hc0, hc1⟩ := onE_zero hz
  obtain ⟨m1, m2, m3⟩ := maE_zero hm
  have hon := fun W (h1 : SbsAt W sv su) (h2 : FdsAt W fv fd) => r30_channeled tz st ti bl fr sv fv su fd ch W h1 h2 (by omega) (fun i hi => Nat.le_trans (hl i hi) (by omega))
  rw [hz] at hon
  have hac := fun W (h : SbsAt W sv su) => r30_named tz st ti bl fr sv fv su ch W h (tabOk m2)
  have hal := (Below.refl w.heap.size w).alloc (Nat.le_refl _) (.cells #[.string ⟨(fr).toArray⟩, .int .i64 tz, .int .i64 st, .int .i64 ti, .bool (bl), sv, fv] 30)
  have HS := Lib.hid (SbsAt.kept hs hal)
  have HF := Lib.hid (FdsAt.kept hf hal)
  have HB := Lib.hid hal
  clear hal hs hf
  have HK := Lib.hid (Blk.new w 30 #[.string ⟨(fr).toArray⟩, .int .i64 tz, .int .i64 st, .int .i64 ti, .bool (bl), sv, fv])
  obtain ⟨k0, k1, k2, k3, k4, k5, k6, kf0, kf1, kf2, kf3, kf4, kf5, kf6⟩ := HK.out.c7
  clear hz hm hc0 hc1 m1 m2 m3
  have HON := Lib.hid hon; clear hon
  have HAC := Lib.hid hac; clear hac
  go_enter Tryz.func27, Tryz.ntmps27
  go_wp2_with (first | (with_reducible refine ((HON.out _ HS.out HF.out).mono ?_); rintro e w' ⟨rfl, hb⟩; replace HK := Lib.hid (HK.out.keep hb); clear k0 k1 k2 k3 k4 k5 k6 kf0 kf1 kf2 kf3 kf4 kf5 kf6; replace HS := Lib.hid (SbsAt.kept HS.out hb); replace HF := Lib.hid (FdsAt.kept HF.out hb); replace HB := Lib.hid (bch' HB.out hb); clear hb; obtain ⟨k0, k1, k2, k3, k4, k5, k6, kf0, kf1, kf2, kf3, kf4, kf5, kf6⟩ := HK.out.c7) | (with_reducible refine ((HAC.out _ HS.out).mono ?_); rintro e w' ⟨pp, cc, rfl, hia, hb⟩))
  go_ret2
  exact ⟨pp, cc, rfl, hia, bch' HB.out hb⟩

theorem g30_grand (tz st ti : Int) (bl : Bool) (fr : Txt) (sv fv : Value) (su : List Sb) (fd : List Fdr) (t : Int) (hx : fr.length ≤ 60) (hl : ∀ i, i < fd.length → (fdv fd i).fr.length ≤ 60) :
    ∃ (tg : Txt) (mg : Int), (∀ W, SbsAt W sv su → FdsAt W fv fd → Env W → Calls Tryz.prog 22 #[.agg #[.string ⟨(fr).toArray⟩, .int .i64 tz, .int .i64 st, .int .i64 ti, .bool (bl), sv, fv], .int .i64 t] W fun e w' => e = .returned (.tuple #[.string ⟨(tg).toArray⟩, .int .i64 mg]) ∧ Below W.heap.size W w') ∧
      (∀ W, SbsAt W sv su → FdsAt W fv fd → Calls Tryz.prog 23 #[.agg #[.string ⟨(fr).toArray⟩, .int .i64 tz, .int .i64 st, .int .i64 ti, .bool (bl), sv, fv], .int .i64 t] W fun e w' => e = .returned (.tuple #[.string ⟨(tg).toArray⟩, .int .i64 mg]) ∧ Below W.heap.size W w') := by
  by_cases hz : maE fr tz st ti su fd = 0
  · exact ⟨showR (mainQ fr tz st ti bl t), 0, fun W h1 h2 e => own_mgrand_ok tz st ti bl fr sv fv su fd t W h1 h2 hx hl hz e, fun W h1 h2 => r30_grand_ok tz st ti bl fr sv fv su fd t W h1 h2 hx hl hz⟩
  · exact ⟨[], maE fr tz st ti su fd, fun W h1 h2 e => own_mgrand_bad tz st ti bl fr sv fv su fd t W h1 h2 hx hl hz e, fun W h1 h2 => r30_grand_bad tz st ti bl fr sv fv su fd t W h1 h2 hx hl hz⟩

theorem g30_inhib (tz st ti : Int) (bl : Bool) (fr : Txt) (sv fv : Value) (su : List Sb) (fd : List Fdr) (ch : Int) (hx : fr.length ≤ 60) (hl : ∀ i, i < fd.length → (fdv fd i).fr.length ≤ 60) :
    ∃ (l : List Int) (mg : Int), l.length ≤ 1000 ∧ (∀ W, SbsAt W sv su → FdsAt W fv fd → Env W → Calls Tryz.prog 24 #[.agg #[.string ⟨(fr).toArray⟩, .int .i64 tz, .int .i64 st, .int .i64 ti, .bool (bl), sv, fv], .int .i64 ch] W fun e w' => ∃ pp cc, e = .returned (.tuple #[.slice pp l.length cc, .int .i64 mg]) ∧ IntsAt w' (.slice pp l.length cc) l ∧ Below W.heap.size W w') ∧
      (∀ W, SbsAt W sv su → FdsAt W fv fd → Calls Tryz.prog 25 #[.agg #[.string ⟨(fr).toArray⟩, .int .i64 tz, .int .i64 st, .int .i64 ti, .bool (bl), sv, fv], .int .i64 ch] W fun e w' => ∃ pp cc, e = .returned (.tuple #[.slice pp l.length cc, .int .i64 mg]) ∧ IntsAt w' (.slice pp l.length cc) l ∧ Below W.heap.size W w') := by
  by_cases hz : onE fr tz st ti su fd ch = 0
  · exact ⟨actN su ch, 0, by unfold actN actL; rw [List.length_map]; exact Nat.le_trans (List.length_filter_le _ _) (Nat.le_trans (tabOk (maE_zero (onE_zero hz).1).2.1).few (by omega)), fun W h1 h2 e => own_minhib_ok tz st ti bl fr sv fv su fd ch W h1 h2 hx hl hz e, fun W h1 h2 => r30_inhib_ok tz st ti bl fr sv fv su fd ch W h1 h2 hx hl hz⟩
  · exact ⟨[], onE fr tz st ti su fd ch, Nat.zero_le _, fun W h1 h2 e => (own_minhib_bad tz st ti bl fr sv fv su fd ch W h1 h2 hx hl hz e).mono (fun e w2 h => ⟨none, 0, h.1, ints_nil w2, h.2⟩), fun W h1 h2 => (r30_inhib_bad tz st ti bl fr sv fv su fd ch W h1 h2 hx hl hz).mono (fun e w2 h => ⟨none, 0, h.1, ints_nil w2, h.2⟩)⟩

theorem g30_sources (tz st ti : Int) (bl : Bool) (fr : Txt) (sv fv : Value) (su : List Sb) (fd : List Fdr) (ch : Int) (hx : fr.length ≤ 60) (hl : ∀ i, i < fd.length → (fdv fd i).fr.length ≤ 60) :
    ∃ (l : List (Int × Int)) (mg : Int), l.length ≤ 1000 ∧ (∀ W, SbsAt W sv su → FdsAt W fv fd → Env W → Calls Tryz.prog 26 #[.agg #[.string ⟨(fr).toArray⟩, .int .i64 tz, .int .i64 st, .int .i64 ti, .bool (bl), sv, fv], .int .i64 ch] W fun e w' => ∃ pp cc, e = .returned (.tuple #[.slice pp l.length cc, .int .i64 mg]) ∧ PtsAt w' (.slice pp l.length cc) l ∧ Below W.heap.size W w') ∧
      (∀ W, SbsAt W sv su → FdsAt W fv fd → Calls Tryz.prog 27 #[.agg #[.string ⟨(fr).toArray⟩, .int .i64 tz, .int .i64 st, .int .i64 ti, .bool (bl), sv, fv], .int .i64 ch] W fun e w' => ∃ pp cc, e = .returned (.tuple #[.slice pp l.length cc, .int .i64 mg]) ∧ PtsAt w' (.slice pp l.length cc) l ∧ Below W.heap.size W w') := by
  by_cases hz : onE fr tz st ti su fd ch = 0
  · exact ⟨srcL bl su ch, 0, by unfold srcL; simp only [List.length_cons, List.length_append, List.length_map]; have h3 : (actN su ch).length ≤ 900 := (by unfold actN actL; rw [List.length_map]; exact Nat.le_trans (List.length_filter_le _ _) (Nat.le_trans (tabOk (maE_zero (onE_zero hz).1).2.1).few (by omega))); (have h4 : (if bl = true then [((6 : Int), (0 : Int))] else []).length ≤ 1 := by cases bl <;> simp); omega, fun W h1 h2 e => own_msources_ok tz st ti bl fr sv fv su fd ch W h1 h2 hx hl hz e, fun W h1 h2 => r30_sources_ok tz st ti bl fr sv fv su fd ch W h1 h2 hx hl hz⟩
  · exact ⟨[], onE fr tz st ti su fd ch, Nat.zero_le _, fun W h1 h2 e => (own_msources_bad tz st ti bl fr sv fv su fd ch W h1 h2 hx hl hz e).mono (fun e w2 h => ⟨none, 0, h.1, pts_nil w2, h.2⟩), fun W h1 h2 => (r30_sources_bad tz st ti bl fr sv fv su fd ch W h1 h2 hx hl hz).mono (fun e w2 h => ⟨none, 0, h.1, pts_nil w2, h.2⟩)⟩

set_option maxRecDepth 100000 in
set_option maxHeartbeats 8000000 in
theorem law_checks (fr : Txt) (tz st ti : Int) (bl : Bool) (sv fv : Value) (su : List Sb) (fd : List Fdr) (ch : Int) (t : Int) (w : World) (hl0 : fr.length ≤ 9223372036854775807) (hs : SbsAt w sv su) (hf : FdsAt w fv fd) (ch0 : -9223372036854775808 ≤ ch) (ch1 : ch ≤ 9223372036854775807) (t0 : -9223372036854775808 ≤ t) (t1 : t ≤ 9223372036854775807) (env : Env w) :
    Calls Tryz.prog 6 #[.agg #[.string ⟨(fr).toArray⟩, .int .i64 tz, .int .i64 st, .int .i64 ti, .bool (bl), sv, fv], .int .i64 ch, .int .i64 t] w fun e w' => e = .returned (.bool (true)) ∧ Below w.heap.size w w' := by
  obtain ⟨ps, zs, rfl⟩ : ∃ ps zs, sv = .slice ps su.length zs := by obtain ⟨a, b, e, -⟩ := hs; exact ⟨a, b, e⟩
  obtain ⟨pf, zf, rfl⟩ : ∃ pf zf, fv = .slice pf fd.length zf := by obtain ⟨a, b, e, -⟩ := hf; exact ⟨a, b, e⟩
  have ENV := Lib.hid env; clear env
  have hal := (Below.refl w.heap.size w).alloc (Nat.le_refl _) (.cells #[.string ⟨(fr).toArray⟩, .int .i64 tz, .int .i64 st, .int .i64 ti, .bool (bl), (.slice ps su.length zs), (.slice pf fd.length zf)] 28)
  have HS := Lib.hid (SbsAt.kept hs hal)
  have HF := Lib.hid (FdsAt.kept hf hal)
  have HB := Lib.hid hal
  clear hal hs hf
  have HK := Lib.hid (Blk.new w 28 #[.string ⟨(fr).toArray⟩, .int .i64 tz, .int .i64 st, .int .i64 ti, .bool (bl), (.slice ps su.length zs), (.slice pf fd.length zf)])
  obtain ⟨k0, k1, k2, k3, k4, k5, k6, kf0, kf1, kf2, kf3, kf4, kf5, kf6⟩ := HK.out.c7
  have haw := fun W (e : Env W) => l30_awake W e
  have how := fun W => l30_own tz st ti bl fr ps pf su.length zs fd.length zf W
  have hfe := fun W (h1 : SbsAt W (.slice ps su.length zs) su) (h2 : FdsAt W (.slice pf fd.length zf) fd) => r30_few tz st ti bl fr (.slice ps su.length zs) (.slice pf fd.length zf) su fd W h1 h2
  have HAW := Lib.hid haw; clear haw
  have HOW := Lib.hid how; clear how
  have HFE := Lib.hid hfe; clear hfe
  go_enter Tryz.func6, Tryz.ntmps6
  go_wp2_with (first | (with_reducible refine ((HOW.out _).mono ?_); rintro e w' ⟨rfl, hb⟩; replace HK := Lib.hid (HK.out.keep hb); clear k0 k1 k2 k3 k4 k5 k6 kf0 kf1 kf2 kf3 kf4 kf5 kf6; replace HS := Lib.hid (SbsAt.kept HS.out hb); replace HF := Lib.hid (FdsAt.kept HF.out hb); replace HB := Lib.hid (bch' HB.out hb); clear hb; obtain ⟨k0, k1, k2, k3, k4, k5, k6, kf0, kf1, kf2, kf3, kf4, kf5, kf6⟩ := HK.out.c7))
  refine ((HFE.out _ HS.out HF.out).mono ?_)
  rintro e w2 ⟨b1, rfl, hq, hb⟩
  replace HK := Lib.hid (HK.out.keep hb); clear k0 k1 k2 k3 k4 k5 k6 kf0 kf1 kf2 kf3 kf4 kf5 kf6; replace HS := Lib.hid (SbsAt.kept HS.out hb); replace HF := Lib.hid (FdsAt.kept HF.out hb); replace HB := Lib.hid (bch' HB.out hb); clear hb; obtain ⟨k0, k1, k2, k3, k4, k5, k6, kf0, kf1, kf2, kf3, kf4, kf5, kf6⟩ := HK.out.c7
  cases b1
  · go_wp2_with (first | (with_reducible refine ((HAW.out _ (ENV.out.below HB.out)).mono ?_); rintro e w' ⟨rfl, hb⟩; replace HK := Lib.hid (HK.out.keep hb); clear k0 k1 k2 k3 k4 k5 k6 kf0 kf1 kf2 kf3 kf4 kf5 kf6; replace HS := Lib.hid (SbsAt.kept HS.out hb); replace HF := Lib.hid (FdsAt.kept HF.out hb); replace HB := Lib.hid (bch' HB.out hb); clear hb; obtain ⟨k0, k1, k2, k3, k4, k5, k6, kf0, kf1, kf2, kf3, kf4, kf5, kf6⟩ := HK.out.c7))
    go_ret
    exact ⟨rfl, HB.out⟩
  · obtain ⟨hx, hl⟩ := hq rfl
    clear hq
    obtain ⟨tg, mg, hog, hrg⟩ := g30_grand tz st ti bl fr (.slice ps su.length zs) (.slice pf fd.length zf) su fd t hx hl
    obtain ⟨li, mi, nli, hoi, hri⟩ := g30_inhib tz st ti bl fr (.slice ps su.length zs) (.slice pf fd.length zf) su fd ch hx hl
    obtain ⟨lp, mp, nlp, hop, hrp⟩ := g30_sources tz st ti bl fr (.slice ps su.length zs) (.slice pf fd.length zf) su fd ch hx hl
    have hoc := fun W (h1 : SbsAt W (.slice ps su.length zs) su) (h2 : FdsAt W (.slice pf fd.length zf) fd) (e : Env W) => own_mcheck tz st ti bl fr (.slice ps su.length zs) (.slice pf fd.length zf) su fd W h1 h2 (by omega) (fun i hi => Nat.le_trans (hl i hi) (by omega)) e
    have hrc := fun W (h1 : SbsAt W (.slice ps su.length zs) su) (h2 : FdsAt W (.slice pf fd.length zf) fd) => r30_check tz st ti bl fr (.slice ps su.length zs) (.slice pf fd.length zf) su fd W h1 h2 (by omega) (fun i hi => Nat.le_trans (hl i hi) (by omega))
    generalize maE fr tz st ti su fd = mc at *
    have HOG := Lib.hid hog; clear hog
    have HRG := Lib.hid hrg; clear hrg
    have HOI := Lib.hid hoi; clear hoi
    have HRI := Lib.hid hri; clear hri
    have HOP := Lib.hid hop; clear hop
    have HRP := Lib.hid hrp; clear hrp
    have HOC := Lib.hid hoc; clear hoc
    have HRC := Lib.hid hrc; clear hrc
    clear hl
    go_upto_region 5 with (first | (with_reducible refine ((HOG.out _ HS.out HF.out (ENV.out.below HB.out)).mono ?_); rintro e w' ⟨rfl, hb⟩; replace HK := Lib.hid (HK.out.keep hb); clear k0 k1 k2 k3 k4 k5 k6 kf0 kf1 kf2 kf3 kf4 kf5 kf6; replace HS := Lib.hid (SbsAt.kept HS.out hb); replace HF := Lib.hid (FdsAt.kept HF.out hb); replace HB := Lib.hid (bch' HB.out hb); clear hb; obtain ⟨k0, k1, k2, k3, k4, k5, k6, kf0, kf1, kf2, kf3, kf4, kf5, kf6⟩ := HK.out.c7) | (with_reducible refine ((HOW.out _).mono ?_); rintro e w' ⟨rfl, hb⟩; replace HK := Lib.hid (HK.out.keep hb); clear k0 k1 k2 k3 k4 k5 k6 kf0 kf1 kf2 kf3 kf4 kf5 kf6; replace HS := Lib.hid (SbsAt.kept HS.out hb); replace HF := Lib.hid (FdsAt.kept HF.out hb); replace HB := Lib.hid (bch' HB.out hb); clear hb; obtain ⟨k0, k1, k2, k3, k4, k5, k6, kf0, kf1, kf2, kf3, kf4, kf5, kf6⟩ := HK.out.c7) | (with_reducible refine ((HRG.out _ HS.out HF.out).mono ?_); rintro e w' ⟨rfl, hb⟩; replace HK := Lib.hid (HK.out.keep hb); clear k0 k1 k2 k3 k4 k5 k6 kf0 kf1 kf2 kf3 kf4 kf5 kf6; replace HS := Lib.hid (SbsAt.kept HS.out hb); replace HF := Lib.hid (FdsAt.kept HF.out hb); replace HB := Lib.hid (bch' HB.out hb); clear hb; obtain ⟨k0, k1, k2, k3, k4, k5, k6, kf0, kf1, kf2, kf3, kf4, kf5, kf6⟩ := HK.out.c7))
    go_upto_region 6 with (first | (with_reducible refine ((HOI.out _ HS.out HF.out (ENV.out.below HB.out)).mono ?_); rintro e w' ⟨p1, c1, rfl, hia, hb⟩; replace HK := Lib.hid (HK.out.keep hb); clear k0 k1 k2 k3 k4 k5 k6 kf0 kf1 kf2 kf3 kf4 kf5 kf6; replace HS := Lib.hid (SbsAt.kept HS.out hb); replace HF := Lib.hid (FdsAt.kept HF.out hb); replace HB := Lib.hid (bch' HB.out hb); clear hb; obtain ⟨k0, k1, k2, k3, k4, k5, k6, kf0, kf1, kf2, kf3, kf4, kf5, kf6⟩ := HK.out.c7; have HI1 := Lib.hid hia; clear hia))
    go_upto_region 7 with (first | (with_reducible refine ((HOW.out _).mono ?_); rintro e w' ⟨rfl, hb⟩; replace HK := Lib.hid (HK.out.keep hb); clear k0 k1 k2 k3 k4 k5 k6 kf0 kf1 kf2 kf3 kf4 kf5 kf6; replace HS := Lib.hid (SbsAt.kept HS.out hb); replace HF := Lib.hid (FdsAt.kept HF.out hb); replace HI1 := Lib.hid (IntsAt.below HI1.out hb); replace HB := Lib.hid (bch' HB.out hb); clear hb; obtain ⟨k0, k1, k2, k3, k4, k5, k6, kf0, kf1, kf2, kf3, kf4, kf5, kf6⟩ := HK.out.c7) | (with_reducible refine ((HRI.out _ HS.out HF.out).mono ?_); rintro e w' ⟨p2, c2, rfl, hia, hb⟩; replace HK := Lib.hid (HK.out.keep hb); clear k0 k1 k2 k3 k4 k5 k6 kf0 kf1 kf2 kf3 kf4 kf5 kf6; replace HS := Lib.hid (SbsAt.kept HS.out hb); replace HF := Lib.hid (FdsAt.kept HF.out hb); replace HI1 := Lib.hid (IntsAt.below HI1.out hb); replace HB := Lib.hid (bch' HB.out hb); clear hb; obtain ⟨k0, k1, k2, k3, k4, k5, k6, kf0, kf1, kf2, kf3, kf4, kf5, kf6⟩ := HK.out.c7; have HI2 := Lib.hid hia; clear hia))
    go_upto_region 8 with (first | (with_reducible refine ((HOP.out _ HS.out HF.out (ENV.out.below HB.out)).mono ?_); rintro e w' ⟨p3, c3, rfl, hia, hb⟩; replace HK := Lib.hid (HK.out.keep hb); clear k0 k1 k2 k3 k4 k5 k6 kf0 kf1 kf2 kf3 kf4 kf5 kf6; replace HS := Lib.hid (SbsAt.kept HS.out hb); replace HF := Lib.hid (FdsAt.kept HF.out hb); replace HI1 := Lib.hid (IntsAt.below HI1.out hb); replace HI2 := Lib.hid (IntsAt.below HI2.out hb); replace HB := Lib.hid (bch' HB.out hb); clear hb; obtain ⟨k0, k1, k2, k3, k4, k5, k6, kf0, kf1, kf2, kf3, kf4, kf5, kf6⟩ := HK.out.c7; have HP1 := Lib.hid hia; clear hia))
    go_upto_region 9 with (first | (with_reducible refine ((HOW.out _).mono ?_); rintro e w' ⟨rfl, hb⟩; replace HK := Lib.hid (HK.out.keep hb); clear k0 k1 k2 k3 k4 k5 k6 kf0 kf1 kf2 kf3 kf4 kf5 kf6; replace HS := Lib.hid (SbsAt.kept HS.out hb); replace HF := Lib.hid (FdsAt.kept HF.out hb); replace HI1 := Lib.hid (IntsAt.below HI1.out hb); replace HI2 := Lib.hid (IntsAt.below HI2.out hb); replace HP1 := Lib.hid (PtsAt.below HP1.out hb); replace HB := Lib.hid (bch' HB.out hb); clear hb; obtain ⟨k0, k1, k2, k3, k4, k5, k6, kf0, kf1, kf2, kf3, kf4, kf5, kf6⟩ := HK.out.c7) | (with_reducible refine ((HRP.out _ HS.out HF.out).mono ?_); rintro e w' ⟨p4, c4, rfl, hia, hb⟩; replace HK := Lib.hid (HK.out.keep hb); clear k0 k1 k2 k3 k4 k5 k6 kf0 kf1 kf2 kf3 kf4 kf5 kf6; replace HS := Lib.hid (SbsAt.kept HS.out hb); replace HF := Lib.hid (FdsAt.kept HF.out hb); replace HI1 := Lib.hid (IntsAt.below HI1.out hb); replace HI2 := Lib.hid (IntsAt.below HI2.out hb); replace HP1 := Lib.hid (PtsAt.below HP1.out hb); replace HB := Lib.hid (bch' HB.out hb); clear hb; obtain ⟨k0, k1, k2, k3, k4, k5, k6, kf0, kf1, kf2, kf3, kf4, kf5, kf6⟩ := HK.out.c7; have HP2 := Lib.hid hia; clear hia))
    have hie := fun W h1 h2 => int_eq li (.slice p1 li.length c1) (.slice p2 li.length c2) W h1 h2 (by omega)
    have hpe := fun W h1 h2 => src_eq W lp (.slice p3 lp.length c3) (.slice p4 lp.length c4) h1 h2 (by omega)
    have HIE := Lib.hid hie; clear hie
    have HPE := Lib.hid hpe; clear hpe
    have f0 := fun p : BelowOf _ => (HK.out.keep p.h).c7.1
    have f1 := fun p : BelowOf _ => (HK.out.keep p.h).c7.2.1
    have f2 := fun p : BelowOf _ => (HK.out.keep p.h).c7.2.2.1
    have f3 := fun p : BelowOf _ => (HK.out.keep p.h).c7.2.2.2.1
    have f4 := fun p : BelowOf _ => (HK.out.keep p.h).c7.2.2.2.2.1
    have f5 := fun p : BelowOf _ => (HK.out.keep p.h).c7.2.2.2.2.2.1
    have f6 := fun p : BelowOf _ => (HK.out.keep p.h).c7.2.2.2.2.2.2.1
    refine wp_region_WQ (by kernel_rfl) (by kernel_rfl) ?_
    repeat (refine WQ.step (fun K hK => ?_); go_simp; first | (refine hK.out _ ?_; clear hK K) | (apply Exists.intro; refine ⟨fun _ => ?_, hK.out _ ?_⟩; (first | rfl | (go_at_call 13; exact calls_below_of _ (HAW.out _ (ENV.out.below (bch' HB.out (BelowOf.h _))))) | (go_at_call 28; exact calls_below_of _ (HOC.out _ (SbsAt.kept HS.out (BelowOf.h _)) (FdsAt.kept HF.out (BelowOf.h _)) (ENV.out.below (bch' HB.out (BelowOf.h _))))) | (go_at_call 12; exact calls_below_of _ (HOW.out _)) | (go_at_call 29; exact calls_below_of _ (HRC.out _ (SbsAt.kept HS.out (BelowOf.h _)) (FdsAt.kept HF.out (BelowOf.h _)))) | (go_at_call 30; exact calls_below_of _ (HIE.out _ (HI1.out.below (BelowOf.h _)) (HI2.out.below (BelowOf.h _)))) | (go_at_call 31; exact calls_below_of _ (HPE.out _ (HP1.out.below (BelowOf.h _)) (HP2.out.below (BelowOf.h _))))); clear hK K))
    refine WQ.nil ?_
    intro _ hw'
    obtain ⟨⟨wq, hbq⟩, hw2⟩ := hw'
    subst hw2
    replace HB := Lib.hid (bch' HB.out hbq)
    clear f0 f1 f2 f3 f4 f5 f6
    go_wp2_with fail
    go_ret
    exact ⟨rfl, HB.out⟩
end Go.Proofs.YtjagoloohhjjeaaGreatDoor

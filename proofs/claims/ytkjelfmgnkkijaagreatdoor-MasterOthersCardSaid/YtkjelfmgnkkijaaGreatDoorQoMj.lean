/-
  Masters: Inhibitors of the program; slices.Equal at ints; Acting of the reference. The reference of layer 30: Grand, Inhibitors, Sources; the law MasterChecks.
-/
import Derived.Test.YtkjelfmgnkkijaaGreatDoorQoMz
set_option linter.unusedVariables false
set_option linter.unusedSimpArgs false
namespace Lum
open Go Go.RowKit Go.Shelf
open Go.Lib (decDigits itoa)
def encI (n : Int) : List Value := [.int .i64 n]
theorem encI_len (n : Int) : (encI n).length = 1 := rfl
theorem encI_one (n : Int) : ∀ u ∈ encI n, u.oneCell' = true := by
  intro u hu
  simp only [encI, List.mem_cons, List.not_mem_nil, or_false] at hu
  rw [hu]; rfl
def inI (l : List Int) (i : Nat) : Int := l[i]?.getD 0
def IntC (W : World) (b o : Nat) (l : List Int) : Prop := ∀ i, i < l.length → W.cell? ⟨b, o + i, none⟩ = some (.int .i64 (inI l i))
/-- The slice v reads as the ints l. -/
def IntsAt (W : World) (v : Value) (l : List Int) : Prop := ∃ p c, v = .slice p l.length c ∧ (l ≠ [] → ∃ b o, p = Option.some ⟨b, o, none⟩ ∧ b < W.heap.size ∧ IntC W b o l)
theorem IntC.below {W W' : World} {b o B : Nat} {l : List Int} (h : IntC W b o l) (hb : Below B W W') (hl : b < B) : IntC W' b o l := fun i hi => (hb.cell (p := ⟨b, o + i, none⟩) hl).trans (h i hi)
theorem IntsAt.below {W W' : World} {v : Value} {l : List Int} (h : IntsAt W v l) (hb : Below W.heap.size W W') : IntsAt W' v l := by
  obtain ⟨p, c, e, h⟩ := h
  refine ⟨p, c, e, fun hn => ?_⟩
  obtain ⟨b, o, e2, hlt, hc⟩ := h hn
  exact ⟨b, o, e2, Nat.lt_of_lt_of_le hlt hb.size, hc.below hb hlt⟩
theorem OwnR.ints {base : Nat} {e : TypeId} {W : World} {p : Option Addr} {c : Nat} {l : List Int} (h : OwnR encI 1 base e W p c l) : IntsAt W (.slice p l.length c) l := by
  refine ⟨p, c, rfl, fun hn => ?_⟩
  obtain ⟨b, hp, hb, hc⟩ := h.at_ encI_len hn
  refine ⟨b, 0, hp, hb, fun i hi => ?_⟩
  have hx := hc i hi 0 _ rfl
  have e1 : inI l i = l[i]'hi := by unfold inI; rw [List.getElem?_eq_getElem hi]; rfl
  rw [e1]
  simpa using hx
end Lum
namespace Go.Proofs.YtkjelfmgnkkijaaGreatDoor
open Go.RowKit Go.Shelf Lum
open Go.Lib (decDigits itoa)
attribute [local go_sem] bs_get bs_extract_end bs_extract_from bs_extract bs_append

set_option maxRecDepth 100000 in
set_option maxHeartbeats 4000000 in
theorem own_minhib_ok (tz st ti : Int) (bl : Bool) (fr : Txt) (sv fv : Value) (su : List Sb) (fd : List Fdr) (ch : Int) (w : World) (hs : SbsAt w sv su) (hf : FdsAt w fv fd) (hx : fr.length ≤ 60) (hl : ∀ i, i < fd.length → (fdv fd i).fr.length ≤ 60) (hz : onE fr tz st ti su fd ch = 0) (env : Env w) :
    Calls Tryz.prog 51 #[.agg #[.string ⟨(fr).toArray⟩, .int .i64 tz, .int .i64 st, .int .i64 ti, .bool (bl), sv, fv], .int .i64 ch] w fun e w' => ∃ pp cc, e = .returned (.tuple #[.slice pp (actN su ch).length cc, .int .i64 0]) ∧ IntsAt w' (.slice pp (actN su ch).length cc) (actN su ch) ∧ Below w.heap.size w w' := by
  obtain ⟨ps, zs, rfl⟩ : ∃ ps zs, sv = .slice ps su.length zs := by obtain ⟨a, b, e, -⟩ := hs; exact ⟨a, b, e⟩
  obtain ⟨pf, zf, rfl⟩ : ∃ pf zf, fv = .slice pf fd.length zf := by obtain ⟨a, b, e, -⟩ := hf; exact ⟨a, b, e⟩
  have ENV := Lib.hid env; clear env
  obtain ⟨hm, hc0, hc1⟩ := onE_zero hz
  obtain ⟨m1, m2, m3⟩ := maE_zero hm
  have tok := tabOk m2
  have hfew := tok.few
  have hon := fun W (h1 : SbsAt W (.slice ps su.length zs) su) (h2 : FdsAt W (.slice pf fd.length zf) fd) (e : Env W) => own_mon tz st ti bl fr (.slice ps su.length zs) (.slice pf fd.length zf) su fd ch W h1 h2 (by omega) (fun i hi => Nat.le_trans (hl i hi) (by omega)) e
  rw [hz] at hon
  have hac := fun W (h : SbsAt W (.slice ps su.length zs) su) => own_macting tz st ti bl fr (.slice ps su.length zs) (.slice pf fd.length zf) su ch W h tok
  obtain ⟨i0, hi, hz0, hz1, hz2⟩ := info_parts info_int
  have hal := (Below.refl w.heap.size w).alloc (Nat.le_refl _) (.cells #[.string ⟨(fr).toArray⟩, .int .i64 tz, .int .i64 st, .int .i64 ti, .bool (bl), (.slice ps su.length zs), (.slice pf fd.length zf)] 28)
  have HS := Lib.hid (SbsAt.kept hs hal)
  have HF := Lib.hid (FdsAt.kept hf hal)
  have HS0 := Lib.hid hs
  have HB := Lib.hid hal; clear hal hs hf
  have HK := Lib.hid (Blk.new w 28 #[.string ⟨(fr).toArray⟩, .int .i64 tz, .int .i64 st, .int .i64 ti, .bool (bl), (.slice ps su.length zs), (.slice pf fd.length zf)])
  obtain ⟨k0, k1, k2, k3, k4, k5, k6, kf0, kf1, kf2, kf3, kf4, kf5, kf6⟩ := HK.out.c7
  clear hz hm hc0 hc1 m1 m2 m3 tok hl hx
  have HON := Lib.hid hon; clear hon
  have HAC := Lib.hid hac; clear hac
  go_enter Tryz.func51, Tryz.ntmps51
  go_wp2_with (first | (with_reducible refine ((HON.out _ HS.out HF.out (ENV.out.below HB.out)).mono ?_); rintro e w' ⟨rfl, hb⟩; replace HK := Lib.hid (HK.out.keep hb); clear k0 k1 k2 k3 k4 k5 k6 kf0 kf1 kf2 kf3 kf4 kf5 kf6; replace HS := Lib.hid (SbsAt.kept HS.out hb); replace HF := Lib.hid (FdsAt.kept HF.out hb); replace HB := Lib.hid (bch' HB.out hb); clear hb; obtain ⟨k0, k1, k2, k3, k4, k5, k6, kf0, kf1, kf2, kf3, kf4, kf5, kf6⟩ := HK.out.c7))
  refine ((HAC.out _ HS.out).mono ?_)
  rintro e w5 ⟨pv, cv, rfl, hsa, hpv, hb⟩
  have HSR := Lib.hid (SrcK.of_at (pp := none) hsa (fun a a2 ha ha2 => by cases ha2))
  clear hsa hpv
  have HO := Lib.hid (OwnR.nil (enc := encI) (k := 1) w.heap.size 3 w5)
  replace HB := Lib.hid (bch' HB.out hb)
  clear hb HAC
  go_wp2_with fail
  go_loopw [7, 21] (fun s i wr => ∃ (k r n : Nat) (pp : Option Addr) (cc : Nat), i = .int .i64 (k : Int) ∧ s = .slice pp n cc ∧ Hid (n = ((actN su ch).take k).length) ∧ Hid (k + r = (actL su ch).length) ∧ Hid (Below w.heap.size w wr) ∧ Hid (OwnR encI 1 w.heap.size 3 wr pp cc ((actN su ch).take k)) ∧ Hid (SrcK wr pv pp (actL su ch))) (fun _ i _ => (actL su ch).length - (intOf i).toNat)
  case atStart => exact ⟨0, (actL su ch).length, 0, none, 0, rfl, rfl, Lib.hid rfl, Lib.hid (by omega), HB, HO, HSR⟩
  case round =>
    obtain ⟨k, r, n, pp, cc, rfl, rfl, HN, hkr, HB2, HO2, HSR2⟩ := hrel
    clear HB HO HSR HS HF
    have HB := HB2; have HO := HO2; have HSR := HSR2; clear HB2 HO2 HSR2
    cases r with
    | zero =>
      have hlt : ¬ (k : Int) < ((actL su ch).length : Int) := by have := hkr.out; omega
      have HL : Hid (((actN su ch).take k) = actN su ch) := by show _ = _; rw [List.take_of_length_le (by have := hkr.out; unfold actN; rw [List.length_map]; omega)]
      rw [HL.out] at HO
      have HNL : Hid (n = (actN su ch).length) := Lib.hid (HN.out.trans (congrArg List.length HL.out))
      clear HN HL
      go_wp2_with fail
      go_ret2
      exact ⟨pp, cc, by rw [← HNL.out]; rfl, HO.out.ints, HB.out⟩
    | succ r =>
      have hkl : k < (actL su ch).length := by have := hkr.out; omega
      have h16 : (actL su ch).length ≤ 16 := Nat.le_trans (by unfold actL; exact List.length_filter_le _ _) hfew
      have hlt : (k : Int) < ((actL su ch).length : Int) := by omega
      have hun : IntKind.i64.wrap ((k : Int) + 1) = (k : Int) + 1 := IntWalk.i64_in _ (by omega)
      obtain ⟨b, o, rfl, hb, hC, hne⟩ := HSR.out (fun h => by rw [h] at hkl; simp at hkl)
      obtain ⟨x1, x2, x3, q5, n5, c5, x4⟩ := hC k hkl
      clear hC hne
      have hal := (Below.refl wr.heap.size wr).alloc (Nat.le_refl _) (.cells #[.int .i64 (sbv (actL su ch) k).nu, .int .i64 (sbv (actL su ch) k).pr, .bool (sbv (actL su ch) k).inh, .slice q5 n5 c5] 58)
      replace HO := Lib.hid (HO.out.keep hal)
      replace HSR := Lib.hid (HSR.out.below hal)
      replace HB := Lib.hid (bch' HB.out hal)
      clear hal
      have HX := Lib.hid (Blk.new wr 58 #[.int .i64 (sbv (actL su ch) k).nu, .int .i64 (sbv (actL su ch) k).pr, .bool (sbv (actL su ch) k).inh, .slice q5 n5 c5])
      obtain ⟨y0, y1, y2, y3, yf0, yf1, yf2, yf3⟩ := HX.out.c4
      go_upto_region 8 with fail
      generalize wr.alloc (.cells #[.int .i64 (sbv (actL su ch) k).nu, .int .i64 (sbv (actL su ch) k).pr, .bool (sbv (actL su ch) k).inh, .slice q5 n5 c5] 58) = wy at *
      have HTK := Lib.hid (src_take (bl := true) hkl)
      have hpl : ((actN su ch).take k).length ≤ 100 := by rw [List.length_take]; omega
      have HPL := Lib.hid hpl; clear hpl
      go_wp2_with (first | (at_builtin; refine wpList_appR3 rfl _ _ 97 rfl w.heap.size 3 i0 (.int .i64 0) 8 Tryz.underlying97 hi hz0 hz1 hz2 rfl (by decide) (by decide) pp cc _ (((actN su ch).take k)) (HN.out) _ ((sbv (actL su ch) k).nu) wy.heap.size rfl (fun j u hu => cell_new_of wy 3 hu) (encI_one _) rfl (HO.out.keep ((Below.refl _ wy).alloc (Nat.le_refl _) _)) rfl (by have := HPL.out; omega) (by have := HB.out.size; rw [World.size_alloc]; omega) ?_; intro p1 c1 w3 hO3 hb3 hk3; have HO3 := Lib.hid hO3; have HB3 := Lib.hid hb3; have HK3 := Lib.hid hk3; clear hO3 hb3 hk3))
      go_roundw
      case rel => exact ⟨k + 1, r, n + 1, p1, c1, by first | rfl | simp, by first | rfl | simp, Lib.hid (by rw [HTK.out, List.length_append, ← HN.out]; rfl), Lib.hid (by have := hkr.out; omega), Lib.hid (HB.out.trans (((Below.refl _ wy).alloc (by have := HB.out.size; omega) _).trans HB3.out)), Lib.hid (by rw [HTK.out]; exact HO3.out), Lib.hid ((HSR.out.below ((Below.refl _ wy).alloc (Nat.le_refl _) _)).app HB3.out.size HK3.out)⟩
      case measure => first | (simp [intOf]; done) | (simp [intOf]; omega)

end Go.Proofs.YtkjelfmgnkkijaaGreatDoor
namespace Lum
open Go Go.RowKit Go.Shelf
open Go.Lib (decDigits itoa)
/-- A slice of ints that lies beside a call's own slice at pp. -/
def IntK (W : World) (pv pp : Option Addr) (l : List Int) : Prop := l ≠ [] → ∃ b o, pv = some ⟨b, o, none⟩ ∧ b < W.heap.size ∧ IntC W b o l ∧ ∀ a, pp = some a → b ≠ a.block
theorem IntC.of_heap {W W' : World} {b o : Nat} {l : List Int} (h : IntC W b o l) (e : W'.heap[b]? = W.heap[b]?) : IntC W' b o l := fun i hi => (World.cell?_of_block (w := W) (a := ⟨b, o + i, none⟩) e).trans (h i hi)
theorem IntK.below {W W' : World} {pv pp : Option Addr} {l : List Int} (h : IntK W pv pp l) (hb : Below W.heap.size W W') : IntK W' pv pp l := fun hn => by
  obtain ⟨b, o, h1, h2, h3, h4⟩ := h hn
  exact ⟨b, o, h1, Nat.lt_of_lt_of_le h2 hb.size, h3.of_heap (hb.block b h2), h4⟩
theorem IntK.app {W W' : World} {pv pp pp' : Option Addr} {l : List Int} (h : IntK W pv pp l) (hs : W.heap.size ≤ W'.heap.size) (hk : ∀ g : Nat, g < W.heap.size → (∀ a, pp = some a → g ≠ a.block) → W'.heap[g]? = W.heap[g]? ∧ ∀ a, pp' = some a → g ≠ a.block) : IntK W' pv pp' l := fun hn => by
  obtain ⟨b, o, h1, h2, h3, h4⟩ := h hn
  obtain ⟨k1, k2⟩ := hk b h2 h4
  exact ⟨b, o, h1, Nat.lt_of_lt_of_le h2 hs, h3.of_heap k1, k2⟩
theorem IntK.of_at {W : World} {pv pp : Option Addr} {c : Nat} {l : List Int} (h : IntsAt W (.slice pv l.length c) l) (hne : ∀ a a2, pv = some a → pp = some a2 → a.block ≠ a2.block) : IntK W pv pp l := fun hn => by
  obtain ⟨p, c2, e, h2⟩ := h
  injection e with e1 e2 e3
  subst e1
  obtain ⟨b, o, rfl, hb, hC⟩ := h2 hn
  exact ⟨b, o, rfl, hb, hC, fun a ha => hne _ a rfl ha⟩
end Lum
namespace Go.Proofs.YtkjelfmgnkkijaaGreatDoor
open Go.RowKit Go.Shelf Lum
open Go.Lib (decDigits itoa)
attribute [local go_sem] bs_get bs_extract_end bs_extract_from bs_extract bs_append

end Go.Proofs.YtkjelfmgnkkijaaGreatDoor

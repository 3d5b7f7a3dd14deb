/-
  Cues: the program.
-/
import Derived.Test.YtikogofioggmlaaGreatDoorLe
import Derived.Test.YtikogofioggmlaaGreatDoorLf
import Derived.Lib.ConvBytes
import Derived.Lib.AtoiErrMem
set_option linter.unusedVariables false
set_option linter.unusedSimpArgs false
namespace Lum
open Go Go.RowKit Go.Shelf
open Go.Lib (decDigits itoa)
/-- Compare, as cues and looks do it. -/
def cmI (x y z u : Int) : Int := if x = z then y - u else x - z
theorem cmI_lt {p q : Int × Int} : cmI p.1 p.2 q.1 q.2 < 0 ↔ ltP p q = true := by
  rw [ltP_iff]; unfold cmI
  by_cases h : p.1 = q.1
  · rw [if_pos h]; omega
  · rw [if_neg h]; omega
theorem cmI_eq {p q : Int × Int} : cmI p.1 p.2 q.1 q.2 = 0 ↔ p = q := by
  unfold cmI
  constructor
  · intro h
    by_cases e : p.1 = q.1
    · rw [if_pos e] at h; exact Prod.ext e (by omega)
    · rw [if_neg e] at h; exact absurd (by omega) e
  · rintro rfl; rw [if_pos rfl]; omega
theorem paE_rng {a b : Int} (h : paE a b = 0) : (1 ≤ a ∧ a ≤ 999) ∧ 0 ≤ b ∧ b < 15 := paE_zero h

def BelD (w w' : World) : Prop := Below w.heap.size w w' ∧ w.drawn ≤ w'.drawn

def CmI (l : List Mv) (w : World) (s : Value) (wr : World) : Prop := ∃ k : Nat, s = .int .i64 (k : Int) ∧ k ≤ l.length ∧ Hid (Below w.heap.size w wr)

def LbI (l : Txt) (W9 : World) (s : Value) (wr : World) : Prop := ∃ k : Nat, s = .int .i64 (k : Int) ∧ k ≤ l.length ∧ wr = W9
end Lum
namespace Go.Proofs.YtikogofioggmlaaGreatDoor
open Go.RowKit Go.Shelf Lum
open Go.Lib (decDigits itoa)
attribute [local go_sem] bs_get bs_extract_end bs_extract_from bs_extract bs_append

set_option maxRecDepth 100000 in
set_option maxHeartbeats 4000000 in
theorem mv1_index (M : FuncId) (fv : Value) (l : List Mv) (pr : Mv → Bool) (pp : Option Addr) (cc base : Nat) (w : World) (hR : RowX encMv 5 w pp l) (hbase : base ≤ w.heap.size) (hn : l.length ≤ 1000000) (hF : ∀ args w, (callFunc M args).run Tryz.prog w = .ok (.enter M args) w)
    (hcm : ∀ x ∈ l, ∀ W, Below base w W → Calls Tryz.prog M #[.agg #[.int .i64 x.ch, .int .i64 x.at_, .int .i64 x.pa, .int .i64 x.lv, .int .i64 x.pt], fv] W fun e w' => e = .returned (.bool (pr x)) ∧ Below W.heap.size W w') :
    Calls Tryz.prog 104 #[.slice pp l.length cc, .func (.func M) #[] #[fv]] w fun e w' => e = .returned (.int .i64 (ixOf pr l)) ∧ Below w.heap.size w w' := by
  have hv2 := Lib.hid hR; clear hR
  have hcc := Lib.hid hcm; clear hcm
  have HB := Lib.hid (Below.refl w.heap.size w)
  go_enter Tryz.func104, Tryz.ntmps104
  go_wp2_with fail
  go_loopw [8] (fun s8 wr => ∃ i r : Nat, s8 = .int .i64 (i : Int) ∧ Hid (i + r = l.length) ∧ Hid (Below w.heap.size w wr) ∧ Hid (∀ j (hj : j < l.length), j < i → pr (l[j]'hj) = false)) (fun s8 _ => l.length - (intOf s8).toNat)
  case atStart => exact ⟨0, l.length, rfl, Lib.hid (by omega), HB, Lib.hid (fun j hj h => absurd h (Nat.not_lt_zero _))⟩
  case round =>
    clear HB
    obtain ⟨i, r, rfl, hkr, HB, HN⟩ := hrel
    cases r with
    | zero =>
      have hlt : ¬ (i : Int) < (l.length : Int) := by have := hkr.out; omega
      have HR : Hid (ixOf pr l = -1) := Lib.hid (ixOf_no fun j hj => HN.out j hj (by have := hkr.out; omega))
      go_wp2_with fail
      go_ret
      exact ⟨by rw [HR.out]; rfl, HB.out⟩
    | succ r =>
      have hkl : i < l.length := by have := hkr.out; omega
      have hlt : (i : Int) < (l.length : Int) := by omega
      have hi0 : (0 : Int) ≤ (i : Int) := by omega
      have hun : IntKind.i64.wrap ((i : Int) + 1) = (i : Int) + 1 := IntWalk.i64_in _ (by omega)
      obtain ⟨b, o, rfl, hb, hC⟩ := hv2.out (fun h => by subst h; exact absurd hkl (Nat.not_lt_zero _))
      obtain ⟨x, hx⟩ : ∃ x, x = l[i]'hkl := ⟨_, rfl⟩
      have hcell := hC i hkl
      rw [← hx] at hcell
      have x0 : wr.cell? ⟨b, o + i * 5, none⟩ = some (.int .i64 x.ch) := (HB.out.cell (p := ⟨b, o + i * 5 + 0, none⟩) hb).trans (hcell 0 _ rfl)
      have x1 : wr.cell? ⟨b, o + i * 5 + 1, none⟩ = some (.int .i64 x.at_) := (HB.out.cell (p := ⟨b, o + i * 5 + 1, none⟩) hb).trans (hcell 1 _ rfl)
      have x2 : wr.cell? ⟨b, o + i * 5 + 2, none⟩ = some (.int .i64 x.pa) := (HB.out.cell (p := ⟨b, o + i * 5 + 2, none⟩) hb).trans (hcell 2 _ rfl)
      have x3 : wr.cell? ⟨b, o + i * 5 + 3, none⟩ = some (.int .i64 x.lv) := (HB.out.cell (p := ⟨b, o + i * 5 + 3, none⟩) hb).trans (hcell 3 _ rfl)
      have x4 : wr.cell? ⟨b, o + i * 5 + 4, none⟩ = some (.int .i64 x.pt) := (HB.out.cell (p := ⟨b, o + i * 5 + 4, none⟩) hb).trans (hcell 4 _ rfl)
      have hcm := hcc.out x (by rw [hx]; exact List.getElem_mem hkl)
      have HBB := Lib.hid (HB.out.mono hbase)
      have hbr : b < wr.heap.size := by have := HB.out.size; omega
      have hlo : i * 5 < 9223372036854775807 := by omega
      have HXE := Lib.hid hx
      have HCM0 := Lib.hid hcm
      clear hC hcell hb hx hcm
      cases hpx : pr x
      · have HN2 : Hid (∀ j (hj : j < l.length), j < i + 1 → pr (l[j]'hj) = false) := Lib.hid (fun j hj h => by by_cases e : j = i; (subst e; rw [← HXE.out]; exact hpx); exact HN.out j hj (by omega))
        have hcm := HCM0.out
        rw [hpx] at hcm
        clear hpx
        have HCM := Lib.hid hcm; clear hcm
        go_wp2_with (first | (with_reducible refine ((HCM.out _ HBB.out).mono ?_); rintro e w' ⟨rfl, hb⟩; replace HB := Lib.hid (bch' HB.out hb); clear hb))
        go_roundw
        case rel => exact ⟨i + 1, r, by first | rfl | simp, Lib.hid (by have := hkr.out; omega), HB, HN2⟩
        case measure => first | (simp [intOf]; done) | (simp [intOf]; omega)
      · have HR : Hid (ixOf pr l = (i : Int)) := Lib.hid (ixOf_at hkl (by rw [← HXE.out]; exact hpx) (fun j hj => HN.out j (by omega) hj))
        have hcm := HCM0.out
        rw [hpx] at hcm
        clear hpx
        have HCM := Lib.hid hcm; clear hcm
        go_wp2_with (first | (with_reducible refine ((HCM.out _ HBB.out).mono ?_); rintro e w' ⟨rfl, hb⟩; replace HB := Lib.hid (bch' HB.out hb); clear hb))
        go_ret
        exact ⟨by rw [HR.out]; rfl, HB.out⟩

theorem mv1_contains (M : FuncId) (fv : Value) (l : List Mv) (pr : Mv → Bool) (pp : Option Addr) (cc base : Nat) (w : World) (hR : RowX encMv 5 w pp l) (hbase : base ≤ w.heap.size) (hn : l.length ≤ 1000000) (hF : ∀ args w, (callFunc M args).run Tryz.prog w = .ok (.enter M args) w)
    (hcm : ∀ x ∈ l, ∀ W, Below base w W → Calls Tryz.prog M #[.agg #[.int .i64 x.ch, .int .i64 x.at_, .int .i64 x.pa, .int .i64 x.lv, .int .i64 x.pt], fv] W fun e w' => e = .returned (.bool (pr x)) ∧ Below W.heap.size W w') :
    Calls Tryz.prog 95 #[.slice pp l.length cc, .func (.func M) #[] #[fv]] w fun e w' => e = .returned (.bool (l.any pr)) ∧ Below w.heap.size w w' := by
  have h := mv1_index M fv l pr pp cc base w hR hbase hn hF hcm
  have hd : decide ((0 : Int) ≤ ixOf pr l) = l.any pr := ixOf_has _ _
  generalize ixOf pr l = m at *
  generalize l.any pr = r at *
  have H := Lib.hid h; have HD := Lib.hid hd; clear h hcm hF hR hd
  go_enter Tryz.func95, Tryz.ntmps95
  go_wp2_with ((with_reducible refine ((H.out).mono ?_)); rintro e w' ⟨rfl, hb⟩; have HB := Lib.hid hb; clear hb)
  go_ret
  exact ⟨by rw [← HD.out]; rfl, HB.out⟩

set_option maxRecDepth 100000 in
set_option maxHeartbeats 4000000 in
theorem own_cparam (ch a : Int) (w : World) (h : paE ch a = 0) :
    Calls Tryz.prog 101 #[.agg #[.int .i64 ch, .int .i64 a]] w fun e w' => e = .returned (.int .i64 0) ∧ Below w.heap.size w w' := by
  obtain ⟨⟨h1, h2⟩, h3, h4⟩ := paE_zero h
  clear h
  have g1 : ¬ ch < 1 := by omega
  have g2 : ¬ (999 : Int) < ch := by omega
  have g3 : ¬ a < 0 := by omega
  have g4 : ¬ (15 : Int) ≤ a := by omega
  have HP := Lib.hid (Blk.new w 39 #[.int .i64 ch, .int .i64 a])
  have HB := Lib.hid ((Below.refl w.heap.size w).alloc (Nat.le_refl _) (.cells #[.int .i64 ch, .int .i64 a] 39))
  obtain ⟨p0, p1, pf0, pf1⟩ := HP.out.c2
  go_enter Tryz.func101, Tryz.ntmps101
  go_wp2_with fail
  go_ret
  exact ⟨rfl, HB.out⟩

set_option maxRecDepth 100000 in
set_option maxHeartbeats 4000000 in
theorem own_ccompare (x y z u : Int) (w : World) (r1 : 1 ≤ x ∧ x ≤ 999) (r2 : 0 ≤ y ∧ y < 15) (r3 : 1 ≤ z ∧ z ≤ 999) (r4 : 0 ≤ u ∧ u < 15) :
    Calls Tryz.prog 103 #[.agg #[.int .i64 x, .int .i64 y], .agg #[.int .i64 z, .int .i64 u]] w fun e w' => e = .returned (.int .i64 (cmI x y z u)) ∧ BelD w w' := by
  have hal := ((Below.refl w.heap.size w).alloc (Nat.le_refl _) (.cells #[.int .i64 x, .int .i64 y] 39)).alloc (by simp) (.cells #[.int .i64 z, .int .i64 u] 39)
  have HB := Lib.hid hal; clear hal
  have HX := Lib.hid ((Blk.new w 39 #[.int .i64 x, .int .i64 y]).alloc (.cells #[.int .i64 z, .int .i64 u] 39))
  have hA := Blk.new (w.alloc (.cells #[.int .i64 x, .int .i64 y] 39)) 39 #[.int .i64 z, .int .i64 u]
  rw [World.size_alloc] at hA
  have HZ := Lib.hid hA; clear hA
  obtain ⟨x0, x1, xf0, xf1⟩ := HX.out.c2
  obtain ⟨z0, z1, zf0, zf1⟩ := HZ.out.c2
  have w1 : IntKind.i64.wrap (x - z) = x - z := IntWalk.i64_in _ (by omega)
  have w2 : IntKind.i64.wrap (y - u) = y - u := IntWalk.i64_in _ (by omega)
  have HDR : Hid (w.drawn ≤ ((w.alloc (.cells #[.int .i64 x, .int .i64 y] 39)).alloc (.cells #[.int .i64 z, .int .i64 u] 39)).drawn) := Lib.hid (Nat.le_refl _)
  by_cases h : x = z
  · have he : ((x : Int) != z) = false := by simpa using h
    have HV : Hid (cmI x y z u = y - u) := Lib.hid (by unfold cmI; rw [if_pos h])
    clear h
    go_enter Tryz.func103, Tryz.ntmps103
    go_wp2_with fail
    go_ret
    exact ⟨by rw [HV.out]; rfl, ⟨HB.out, HDR.out⟩⟩
  · have he : ((x : Int) != z) = true := by simpa using h
    have HV : Hid (cmI x y z u = x - z) := Lib.hid (by unfold cmI; rw [if_neg h])
    clear h
    go_enter Tryz.func103, Tryz.ntmps103
    go_wp2_with fail
    go_ret
    exact ⟨by rw [HV.out]; rfl, ⟨HB.out, HDR.out⟩⟩

set_option maxRecDepth 100000 in
set_option maxHeartbeats 4000000 in
theorem own_tcompare (x y z u : Int) (w : World) (r1 : 1 ≤ x ∧ x ≤ 999) (r2 : 0 ≤ y ∧ y < 15) (r3 : 1 ≤ z ∧ z ≤ 999) (r4 : 0 ≤ u ∧ u < 15) :
    Calls Tryz.prog 38 #[.agg #[.int .i64 x, .int .i64 y], .agg #[.int .i64 z, .int .i64 u]] w fun e w' => e = .returned (.int .i64 (cmI x y z u)) ∧ BelD w w' := by
  have hal := ((Below.refl w.heap.size w).alloc (Nat.le_refl _) (.cells #[.int .i64 x, .int .i64 y] 39)).alloc (by simp) (.cells #[.int .i64 z, .int .i64 u] 39)
  have HB := Lib.hid hal; clear hal
  have HX := Lib.hid ((Blk.new w 39 #[.int .i64 x, .int .i64 y]).alloc (.cells #[.int .i64 z, .int .i64 u] 39))
  have hA := Blk.new (w.alloc (.cells #[.int .i64 x, .int .i64 y] 39)) 39 #[.int .i64 z, .int .i64 u]
  rw [World.size_alloc] at hA
  have HZ := Lib.hid hA; clear hA
  obtain ⟨x0, x1, xf0, xf1⟩ := HX.out.c2
  obtain ⟨z0, z1, zf0, zf1⟩ := HZ.out.c2
  have w1 : IntKind.i64.wrap (x - z) = x - z := IntWalk.i64_in _ (by omega)
  have w2 : IntKind.i64.wrap (y - u) = y - u := IntWalk.i64_in _ (by omega)
  have HDR : Hid (w.drawn ≤ ((w.alloc (.cells #[.int .i64 x, .int .i64 y] 39)).alloc (.cells #[.int .i64 z, .int .i64 u] 39)).drawn) := Lib.hid (Nat.le_refl _)
  by_cases h : x = z
  · have he : ((x : Int) != z) = false := by simpa using h
    have HV : Hid (cmI x y z u = y - u) := Lib.hid (by unfold cmI; rw [if_pos h])
    clear h
    go_enter Tryz.func38, Tryz.ntmps38
    go_wp2_with fail
    go_ret
    exact ⟨by rw [HV.out]; rfl, ⟨HB.out, HDR.out⟩⟩
  · have he : ((x : Int) != z) = true := by simpa using h
    have HV : Hid (cmI x y z u = x - z) := Lib.hid (by unfold cmI; rw [if_neg h])
    clear h
    go_enter Tryz.func38, Tryz.ntmps38
    go_wp2_with fail
    go_ret
    exact ⟨by rw [HV.out]; rfl, ⟨HB.out, HDR.out⟩⟩

set_option maxRecDepth 100000 in
set_option maxHeartbeats 4000000 in
theorem own_cmove (x : Mv) (k : Nat) (pv : Option Addr) (cv : Nat) (w : World) (hk : k ≤ 128) (h1 : paE x.ch x.at_ = 0) (h2 : valE x.pa x.lv = 0) (h3 : 1 ≤ x.pt ∧ x.pt ≤ 4) (hp : 0 < k → ∃ (y : Mv) (b o : Nat), pv = some ⟨b, o, none⟩ ∧ b < w.heap.size ∧ w.cell? ⟨b, o + (k - 1) * 5, none⟩ = some (.int .i64 y.ch) ∧ w.cell? ⟨b, o + (k - 1) * 5 + 1, none⟩ = some (.int .i64 y.at_) ∧ paE y.ch y.at_ = 0 ∧ ltP y.ky x.ky = true) :
    Calls Tryz.prog 94 #[.agg #[.int .i64 (x.ch), .int .i64 (x.at_), .int .i64 (x.pa), .int .i64 (x.lv), .int .i64 (x.pt)], .slice pv k cv] w fun e w' => e = .returned (.int .i64 0) ∧ Below w.heap.size w w' := by
  have hpa := fun W => own_cparam x.ch x.at_ W h1
  have hva := fun W => own_pval x.pa x.lv W
  rw [h2] at hva
  have g1 : ¬ x.pt < 1 := by omega
  have g2 : ¬ (4 : Int) < x.pt := by omega
  have hrx := paE_zero h1
  clear h1 h2 h3
  have HX := Lib.hid (Blk.new w 61 #[.int .i64 (x.ch), .int .i64 (x.at_), .int .i64 (x.pa), .int .i64 (x.lv), .int .i64 (x.pt)])
  have HB := Lib.hid ((Below.refl w.heap.size w).alloc (Nat.le_refl _) (.cells #[.int .i64 (x.ch), .int .i64 (x.at_), .int .i64 (x.pa), .int .i64 (x.lv), .int .i64 (x.pt)] 61))
  obtain ⟨x0, x1, x2, x3, x4, xf0, xf1, xf2, xf3, xf4⟩ := HX.out.c5
  have HPA := Lib.hid hpa; clear hpa
  have HVA := Lib.hid hva; clear hva
  by_cases k0 : k = 0
  · have hgi : ¬ (0 : Int) < (k : Int) := by omega
    have hd : decide (0 < k) = false := decide_eq_false (by omega)
    clear hp hrx k0
    go_enter Tryz.func94, Tryz.ntmps94
    go_upto_region 10 with (first | (with_reducible refine ((HPA.out _).mono ?_); rintro e w' ⟨rfl, hb⟩; replace HX := Lib.hid (HX.out.keep hb); clear x0 x1 x2 x3 x4 xf0 xf1 xf2 xf3 xf4; replace HB := Lib.hid (bch' HB.out hb); clear hb; obtain ⟨x0, x1, x2, x3, x4, xf0, xf1, xf2, xf3, xf4⟩ := HX.out.c5) | (with_reducible refine ((HVA.out _).mono ?_); rintro e w' ⟨rfl, hb⟩; replace HX := Lib.hid (HX.out.keep hb); clear x0 x1 x2 x3 x4 xf0 xf1 xf2 xf3 xf4; replace HB := Lib.hid (bch' HB.out hb); clear hb; obtain ⟨x0, x1, x2, x3, x4, xf0, xf1, xf2, xf3, xf4⟩ := HX.out.c5))
    clear x0 x1 x2 x3 x4 xf0 xf1 xf2 xf3 xf4
    refine wp_region_WQ (by kernel_rfl) (by kernel_rfl) ?_
    repeat (refine WQ.step (fun K hK => ?_); go_simp; first | (refine hK.out _ ?_; clear hK K) | (apply Exists.intro; refine ⟨fun _ => ?_, hK.out _ ?_⟩; (first | rfl); clear hK K))
    refine WQ.nil ?_
    intro _ hw'
    obtain ⟨⟨wq, hbq⟩, hw2⟩ := hw'
    subst hw2
    replace HB := Lib.hid (bch' HB.out hbq)
    go_wp2_with fail
    go_ret
    exact ⟨rfl, HB.out⟩
  · obtain ⟨y, b, o, rfl, hb, hc0, hc1, hy, hlt⟩ := hp (by omega)
    have hkp : 0 < k := by omega
    have hi1 : k - 1 < k := by omega
    have hry := paE_zero hy
    have hgi : (0 : Int) < (k : Int) := by omega
    have hd : decide (0 < k) = true := decide_eq_true (by omega)
    have hm1 : IntKind.i64.wrap ((k : Int) - 1) = ((k - 1 : Nat) : Int) := by rw [IntWalk.i64_in _ (by omega)]; omega
    have hlo1 : (k - 1) * 5 < 9223372036854775807 := by omega
    have hd0 := fun W => (own_ccompare y.ch y.at_ x.ch x.at_ W hry.1 hry.2 hrx.1 hrx.2).mono fun e w' h => (⟨h.1, h.2.1⟩ : _ ∧ Below W.heap.size W w')
    have hge : decide ((0 : Int) ≤ cmI y.ch y.at_ x.ch x.at_) = false := decide_eq_false (by have := (cmI_lt (p := y.ky) (q := x.ky)).2 hlt; exact Int.not_le.2 this)
    generalize cmI y.ch y.at_ x.ch x.at_ = zz at *
    have HD := Lib.hid hd0; have HBb := Lib.hid hb; have HC0 := Lib.hid hc0; have HC1 := Lib.hid hc1
    clear hd0 hb hc0 hc1 hy hlt hry hrx hp
    go_enter Tryz.func94, Tryz.ntmps94
    go_upto_region 10 with (first | (with_reducible refine ((HPA.out _).mono ?_); rintro e w' ⟨rfl, hb⟩; replace HX := Lib.hid (HX.out.keep hb); clear x0 x1 x2 x3 x4 xf0 xf1 xf2 xf3 xf4; replace HB := Lib.hid (bch' HB.out hb); clear hb; obtain ⟨x0, x1, x2, x3, x4, xf0, xf1, xf2, xf3, xf4⟩ := HX.out.c5) | (with_reducible refine ((HVA.out _).mono ?_); rintro e w' ⟨rfl, hb⟩; replace HX := Lib.hid (HX.out.keep hb); clear x0 x1 x2 x3 x4 xf0 xf1 xf2 xf3 xf4; replace HB := Lib.hid (bch' HB.out hb); clear hb; obtain ⟨x0, x1, x2, x3, x4, xf0, xf1, xf2, xf3, xf4⟩ := HX.out.c5))
    clear x0 x1 x2 x3 x4 xf0 xf1 xf2 xf3 xf4
    have f0 := fun p : BelowOf _ => (HX.out.keep p.h).c5.1
    have f1 := fun p : BelowOf _ => (HX.out.keep p.h).c5.2.1
    have e0 := fun p : BelowOf _ => ((bch' HB.out p.h).cell (p := ⟨b, o + (k - 1) * 5, none⟩) HBb.out).trans HC0.out
    have e1 := fun p : BelowOf _ => ((bch' HB.out p.h).cell (p := ⟨b, o + (k - 1) * 5 + 1, none⟩) HBb.out).trans HC1.out
    have zz1 := fun p : BelowOf _ => Nat.lt_of_lt_of_le HBb.out (bch' HB.out p.h).size
    refine wp_region_WQ (by kernel_rfl) (by kernel_rfl) ?_
    repeat (refine WQ.step (fun K hK => ?_); go_simp; first | (refine hK.out _ ?_; clear hK K) | (apply Exists.intro; refine ⟨fun _ => ?_, hK.out _ ?_⟩; (first | rfl | (with_reducible exact calls_below_of _ (HD.out _))); clear hK K))
    refine WQ.nil ?_
    intro _ hw'
    obtain ⟨⟨wq, hbq⟩, hw2⟩ := hw'
    subst hw2
    replace HB := Lib.hid (bch' HB.out hbq)
    clear f0 f1 e0 e1 zz1
    go_wp2_with fail
    go_ret
    exact ⟨rfl, HB.out⟩

set_option maxRecDepth 100000 in
set_option maxHeartbeats 4000000 in
theorem own_cmoves (l : List Mv) (p : Option Addr) (c : Nat) (w : World) (hR : RowX encMv 5 w p l) (hc : l.length ≤ c) (hm : MvsR l) :
    Calls Tryz.prog 81 #[.slice p l.length c] w fun e w' => e = .returned (.int .i64 0) ∧ Below w.heap.size w w' := by
  have hv2 := Lib.hid hR; clear hR
  have hm2 : ¬ (128 : Int) < (l.length : Int) := by have := hm.few; omega
  have hm3 := hm.few
  have HM := Lib.hid hm; clear hm
  have HB := Lib.hid (Below.refl w.heap.size w)
  go_enter Tryz.func81, Tryz.ntmps81
  go_wp2_with fail
  go_loopw [11] (fun s wr => CmI l w s wr) (fun s _ => l.length - (intOf s).toNat)
  case atStart => exact ⟨0, rfl, Nat.zero_le _, HB⟩
  case round =>
    obtain ⟨k, rfl, hk9, HB2⟩ := hrel
    clear HB
    have HB := HB2; clear HB2
    by_cases hkl : k < l.length
    · have hlt : (k : Int) < (l.length : Int) := by omega
      have hk0 : (0 : Int) ≤ (k : Int) := by omega
      have hlo : k * 5 < 9223372036854775807 := by omega
      have hun : IntKind.i64.wrap ((k : Int) + 1) = (k : Int) + 1 := IntWalk.i64_in _ (by omega)
      obtain ⟨b, o, rfl, hb, hC⟩ := hv2.out (fun h => by subst h; exact absurd hkl (Nat.not_lt_zero _))
      obtain ⟨x, hx⟩ : ∃ x, x = l[k]'hkl := ⟨_, rfl⟩
      have hcell := hC k hkl
      rw [← hx] at hcell
      have HX := Lib.hid hx
      have x0 : wr.cell? ⟨b, o + k * 5, none⟩ = some (.int .i64 (x.ch)) := (HB.out.cell (p := ⟨b, o + k * 5 + 0, none⟩) hb).trans (hcell 0 _ rfl)
      have x1 : wr.cell? ⟨b, o + k * 5 + 1, none⟩ = some (.int .i64 (x.at_)) := (HB.out.cell (p := ⟨b, o + k * 5 + 1, none⟩) hb).trans (hcell 1 _ rfl)
      have x2 : wr.cell? ⟨b, o + k * 5 + 2, none⟩ = some (.int .i64 (x.pa)) := (HB.out.cell (p := ⟨b, o + k * 5 + 2, none⟩) hb).trans (hcell 2 _ rfl)
      have x3 : wr.cell? ⟨b, o + k * 5 + 3, none⟩ = some (.int .i64 (x.lv)) := (HB.out.cell (p := ⟨b, o + k * 5 + 3, none⟩) hb).trans (hcell 3 _ rfl)
      have x4 : wr.cell? ⟨b, o + k * 5 + 4, none⟩ = some (.int .i64 (x.pt)) := (HB.out.cell (p := ⟨b, o + k * 5 + 4, none⟩) hb).trans (hcell 4 _ rfl)
      have xr : b < wr.heap.size := Nat.lt_of_lt_of_le hb HB.out.size
      have hz1 := HM.out.par x (by rw [hx]; exact List.getElem_mem hkl)
      have hz2 := HM.out.val x (by rw [hx]; exact List.getElem_mem hkl)
      have hz3 := HM.out.prt x (by rw [hx]; exact List.getElem_mem hkl)
      have hmv := fun (W : World) (hB : Below wr.heap.size wr W) => own_cmove x k (some ⟨b, o, none⟩) c W (by have := HM.out.few; omega) hz1 hz2 hz3 (fun h0 => by
        have hk1 : k - 1 < l.length := by omega
        have hb2 : Below w.heap.size w W := bch' HB.out hB
        refine ⟨l[k - 1]'hk1, b, o, rfl, Nat.lt_of_lt_of_le hb hb2.size, (hb2.cell (p := ⟨b, o + (k - 1) * 5, none⟩) hb).trans (hC (k - 1) hk1 0 _ rfl), (hb2.cell (p := ⟨b, o + (k - 1) * 5 + 1, none⟩) hb).trans (hC (k - 1) hk1 1 _ rfl), HM.out.par _ (List.getElem_mem hk1), ?_⟩
        rw [hx]
        exact List.pairwise_iff_getElem.1 HM.out.asc (k - 1) k hk1 hkl (by omega))
      clear hcell hb hC hx hz1 hz2 hz3
      have hle : k ≤ c := by omega
      go_upto_region 6 with fail
      clear x0 x1 x2 x3 x4 xr
      have hb := (Below.refl wr.heap.size wr).alloc (Nat.le_refl _) (.cells #[.int .i64 (x.ch), .int .i64 (x.at_), .int .i64 (x.pa), .int .i64 (x.lv), .int .i64 (x.pt)] 61)
      have HY := Lib.hid (Blk.new wr 61 #[.int .i64 (x.ch), .int .i64 (x.at_), .int .i64 (x.pa), .int .i64 (x.lv), .int .i64 (x.pt)])
      obtain ⟨n8, hn8⟩ : ∃ n, n = wr.heap.size := ⟨_, rfl⟩
      obtain ⟨Wa, hWWa⟩ : ∃ X, X = wr.alloc (.cells #[.int .i64 (x.ch), .int .i64 (x.at_), .int .i64 (x.pa), .int .i64 (x.lv), .int .i64 (x.pt)] 61) := ⟨_, rfl⟩
      rw [← hn8] at HY ⊢
      rw [← hWWa] at hb HY ⊢
      have hmv2 := fun (W : World) (hB : Below Wa.heap.size Wa W) => hmv W (bch' hb hB)
      replace HB := Lib.hid (bch' HB.out hb)
      clear hb hmv hWWa hn8
      have HMV := Lib.hid hmv2; clear hmv2
      have f0 := fun p : BelowOf _ => (HY.out.keep p.h).c5.1
      have f1 := fun p : BelowOf _ => (HY.out.keep p.h).c5.2.1
      have f2 := fun p : BelowOf _ => (HY.out.keep p.h).c5.2.2.1
      have f3 := fun p : BelowOf _ => (HY.out.keep p.h).c5.2.2.2.1
      have f4 := fun p : BelowOf _ => (HY.out.keep p.h).c5.2.2.2.2.1
      refine wp_region_WQ (by kernel_rfl) (by kernel_rfl) ?_
      repeat (refine WQ.step (fun K hK => ?_); go_simp; first | (refine hK.out _ ?_; clear hK K) | (apply Exists.intro; refine ⟨fun _ => ?_, hK.out _ ?_⟩; (first | rfl | (go_at_call 94; with_reducible exact calls_below_of _ (HMV.out _ (BelowOf.h _)))); clear hK K))
      refine WQ.nil ?_
      intro _ hw'
      obtain ⟨⟨wq, hbq⟩, hw2⟩ := hw'
      subst hw2
      replace HB := Lib.hid (bch' HB.out hbq)
      clear f0 f1 f2 f3 f4
      go_wp2_with fail
      go_roundw
      case rel => exact ⟨k + 1, by first | rfl | simp, by omega, HB⟩
      case measure => first | (simp [intOf]; done) | (simp [intOf]; omega)
    · have hlt : ¬ (k : Int) < (l.length : Int) := by omega
      go_wp2_with fail
      go_ret
      exact ⟨rfl, HB.out⟩

set_option maxRecDepth 100000 in
set_option maxHeartbeats 4000000 in
theorem own_clabel (l : Txt) (w : World) (hl : LabR l) :
    Calls Tryz.prog 79 #[.string ⟨l.toArray⟩] w fun e w' => e = .returned (.int .i64 0) ∧ Below w.heap.size w w' := by
  obtain ⟨hl24, hch⟩ := hl
  have hm2 : ¬ (24 : Int) < (l.length : Int) := by omega
  have kc := fun (w : World) (s : ByteArray) => Lib.run_convert_string_bytes (P := Tryz.prog) w 9 131 5 s Tryz.underlying9 Tryz.underlying131 Tryz.underlying5
  have HCH := Lib.hid hch; clear hch
  have hb := Lib.bytesWorld_below w 5 ⟨l.toArray⟩
  have hcb := fun j (hj : j < l.length) => Lib.bytesWorld_cell w 5 ⟨l.toArray⟩ j (by simpa [ByteArray.size] using hj)
  have hsz := Lib.bytesWorld_size w 5 ⟨l.toArray⟩
  have HBW := Lib.hid hb; have HCB := Lib.hid hcb; have HSZ := Lib.hid hsz; clear hb hcb hsz
  go_enter Tryz.func79, Tryz.ntmps79
  go_wp2_with fail
  obtain ⟨W9, hW9⟩ : ∃ X, X = Lib.bytesWorld w 5 ⟨l.toArray⟩ := ⟨_, rfl⟩
  rw [← hW9] at HBW HCB HSZ ⊢
  clear hW9 kc
  obtain ⟨n9, hn9⟩ : ∃ n, n = w.heap.size := ⟨_, rfl⟩
  rw [← hn9] at HCB HSZ ⊢
  have HN9 := Lib.hid hn9; clear hn9
  go_loopw [11] (fun s wr => LbI l W9 s wr) (fun s _ => l.length - (intOf s).toNat)
  case atStart => exact ⟨0, rfl, Nat.zero_le _, rfl⟩
  case round =>
    obtain ⟨k, rfl, hk9, rfl⟩ := hrel
    by_cases hkl : k < l.length
    · have hlt : (k : Int) < (l.length : Int) := by omega
      have hk0 : (0 : Int) ≤ (k : Int) := by omega
      have hlo : k < 9223372036854775807 := by omega
      have hun : IntKind.i64.wrap ((k : Int) + 1) = (k : Int) + 1 := IntWalk.i64_in _ (by omega)
      obtain ⟨x, hx⟩ : ∃ x, x = l[k]'hkl := ⟨_, rfl⟩
      have hc9 : wr.cell? ⟨n9, k, none⟩ = some (.int .u8 (x.toNat : Int)) := by have h9 := HCB.out k hkl; rw [hx]; simpa [List.getD, hkl] using h9
      obtain ⟨g1, g2, g3⟩ := HCH.out x (by rw [hx]; exact List.getElem_mem hkl)
      have q1 : ¬ (x.toNat : Int) < 32 := by omega
      have q2 : ¬ (126 : Int) < (x.toNat : Int) := by omega
      have q3 : ((x.toNat : Int) == 34) = false := by rw [beq_eq_false_iff_ne]; intro e; exact g3 (by apply UInt8.toNat_inj.1; show x.toNat = 34; omega)
      have hnr : n9 < wr.heap.size := by have := HSZ.out; omega
      clear hx g1 g2 g3
      go_wp2_with fail
      go_roundw
      case rel => exact ⟨k + 1, by first | rfl | simp, by omega, rfl⟩
      case measure => first | (simp [intOf]; done) | (simp [intOf]; omega)
    · have hlt : ¬ (k : Int) < (l.length : Int) := by omega
      go_wp2_with fail
      go_ret
      exact ⟨rfl, HN9.out ▸ HBW.out⟩
end Go.Proofs.YtikogofioggmlaaGreatDoor

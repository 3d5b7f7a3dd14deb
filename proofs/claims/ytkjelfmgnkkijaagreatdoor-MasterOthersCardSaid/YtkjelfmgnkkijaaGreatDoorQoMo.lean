/-
  slices.Index, Contains, IsSorted at ints. slices.IndexFunc and DeleteFunc at submasters. Law 30: right, within; the law MasterBounds. Masters: the factor of a channel is the product of what each of its sources does alone (plain). Masters: Without of the program. slices.Clone at submasters; the law MasterOthers.
-/
import Derived.Test.YtkjelfmgnkkijaaGreatDoorQoMj
import Derived.Test.YtkjelfmgnkkijaaGreatDoorDl
import Derived.Test.YtkjelfmgnkkijaaGreatDoorQq
import Derived.Test.YtkjelfmgnkkijaaGreatDoorQoMw
import Derived.Test.YtkjelfmgnkkijaaGreatDoorQoMz
import Derived.Test.YtkjelfmgnkkijaaGreatDoorQoGa
import Derived.Test.YtkjelfmgnkkijaaGreatDoorQoMv
import Derived.WalkSpells
import Derived.Deep.Cut
import Derived.Deep.DeepCutAuto
import Derived.Outline
set_option linter.unusedVariables false
set_option linter.unusedSimpArgs false
namespace Lum
open Go Go.RowKit Go.Shelf
open Go.Lib (decDigits itoa)
theorem inI_at {l : List Int} {i : Nat} (h : i < l.length) : l[i]'h = inI l i := by unfold inI; rw [List.getElem?_eq_getElem h]; rfl
theorem ixOf_has {α : Type} (p : α → Bool) (l : List α) : decide (0 ≤ ixOf p l) = l.any p := by
  rcases first_ix p l with h | ⟨i, hi, h1, h2⟩
  · rw [ixOf_no h]
    have : l.any p = false := by
      rw [List.any_eq_false]
      intro x hx
      obtain ⟨j, hj, rfl⟩ := List.getElem_of_mem hx
      rw [h j hj]; simp
    rw [this]; decide
  · rw [ixOf_at hi h1 h2]
    have : l.any p = true := List.any_eq_true.2 ⟨_, List.getElem_mem hi, h1⟩
    rw [this]; simp
theorem any_eq (l : List Int) (n : Int) : l.any (fun x => n == x) = l.contains n := by
  induction l with
  | nil => rfl
  | cons x r ih => rw [List.any_cons, List.contains_cons, ih]
end Lum
namespace Go.Proofs.YtkjelfmgnkkijaaGreatDoor
open Go.RowKit Go.Shelf Lum
open Go.Lib (decDigits itoa)
attribute [local go_sem] bs_get bs_extract_end bs_extract_from bs_extract bs_append

set_option maxRecDepth 100000 in
set_option maxHeartbeats 4000000 in
theorem int_index (n : Int) (l : List Int) (v : Value) (w : World) (hv : IntsAt w v l) (hn : l.length ≤ 1000000) :
    Calls Tryz.prog 125 #[v, .int .i64 n] w fun e w' => e = .returned (.int .i64 (ixOf (fun x => n == x) l)) ∧ Below w.heap.size w w' := by
  obtain ⟨p, c, rfl, hv1⟩ := hv
  have hv2 := Lib.hid hv1; clear hv1
  have HB := Lib.hid (Below.refl w.heap.size w)
  go_enter Tryz.func125, Tryz.ntmps125
  go_wp2_with fail
  go_loopw [8] (fun s8 wr => ∃ i r : Nat, s8 = .int .i64 (i : Int) ∧ Hid (i + r = l.length) ∧ Hid (Below w.heap.size w wr) ∧ Hid (∀ j (hj : j < l.length), j < i → (n == l[j]'hj) = false)) (fun s8 _ => l.length - (intOf s8).toNat)
  case atStart => exact ⟨0, l.length, rfl, Lib.hid (by omega), HB, Lib.hid (fun j hj h => absurd h (Nat.not_lt_zero _))⟩
  case round =>
    clear HB
    obtain ⟨i, r, rfl, hkr, HB, HN⟩ := hrel
    cases r with
    | zero =>
      have hlt : ¬ (i : Int) < (l.length : Int) := by have := hkr.out; omega
      have HR : Hid (ixOf (fun x => n == x) l = -1) := Lib.hid (ixOf_no fun j hj => HN.out j hj (by have := hkr.out; omega))
      go_wp2_with fail
      go_ret
      exact ⟨by rw [HR.out]; rfl, HB.out⟩
    | succ r =>
      have hkl : i < l.length := by have := hkr.out; omega
      have hlt : (i : Int) < (l.length : Int) := by omega
      have hi0 : (0 : Int) ≤ (i : Int) := by omega
      have hun : IntKind.i64.wrap ((i : Int) + 1) = (i : Int) + 1 := IntWalk.i64_in _ (by omega)
      obtain ⟨b, o, rfl, hb, hC⟩ := hv2.out (fun h => by subst h; exact absurd hkl (Nat.not_lt_zero _))
      have x0 : wr.cell? ⟨b, o + i, none⟩ = some (.int .i64 (inI l i)) := (HB.out.cell (p := ⟨b, o + i, none⟩) hb).trans (hC i hkl)
      have hbr : b < wr.heap.size := by have := HB.out.size; omega
      clear hC hb
      by_cases hx : n = inI l i
      · have HR : Hid (ixOf (fun x => n == x) l = (i : Int)) := Lib.hid (ixOf_at hkl (by rw [inI_at hkl]; simpa using hx) (fun j hj => HN.out j (by omega) hj))
        have he : ((n : Int) == inI l i) = true := by simpa using hx
        clear hx
        generalize inI l i = y at *
        go_wp2_with fail
        go_ret
        exact ⟨by rw [HR.out]; rfl, HB.out⟩
      · have he : ((n : Int) == inI l i) = false := by simpa using hx
        have HN2 : Hid (∀ j (hj : j < l.length), j < i + 1 → (n == l[j]'hj) = false) := Lib.hid (fun j hj h => by by_cases e : j = i; (subst e; rw [inI_at hj]; exact he); exact HN.out j hj (by omega))
        clear hx
        generalize inI l i = y at *
        go_wp2_with fail
        go_roundw
        case rel => exact ⟨i + 1, r, by first | rfl | simp, Lib.hid (by have := hkr.out; omega), HB, HN2⟩
        case measure => first | (simp [intOf]; done) | (simp [intOf]; omega)

set_option maxRecDepth 100000 in
set_option maxHeartbeats 2000000 in
theorem int_contains (n : Int) (l : List Int) (v : Value) (w : World) (hv : IntsAt w v l) (hn : l.length ≤ 1000000) :
    Calls Tryz.prog 55 #[v, .int .i64 n] w fun e w' => e = .returned (.bool (l.contains n)) ∧ Below w.heap.size w w' := by
  have HV := Lib.hid hv
  have hix := fun W (h : IntsAt W v l) => int_index n l v W h hn
  have HE : Hid (decide (0 ≤ ixOf (fun x => n == x) l) = l.contains n) := Lib.hid ((ixOf_has _ _).trans (any_eq l n))
  clear hv hn
  generalize ixOf (fun x => n == x) l = z at *
  have HB := Lib.hid (Below.refl w.heap.size w)
  have HIX := Lib.hid hix; clear hix
  go_enter Tryz.func55, Tryz.ntmps55
  go_wp2_with (with_reducible refine ((HIX.out _ HV.out).mono ?_); rintro e w' ⟨rfl, hb⟩; replace HB := Lib.hid (bch' HB.out hb); clear hb)
  go_ret
  exact ⟨by rw [← HE.out]; rfl, HB.out⟩

theorem cmp_nan (x : Int) (w : World) :
    Calls Tryz.prog 165 #[.int .i64 x] w fun e w' => e = .returned (.bool (false)) ∧ w = w' := by
  go_enter Tryz.func165, Tryz.ntmps165
  go_wp2_with fail
  go_ret
  exact ⟨by simp, rfl⟩

theorem cmp_less (x y : Int) (w : World) :
    Calls Tryz.prog 126 #[.int .i64 x, .int .i64 y] w fun e w' => e = .returned (.bool (decide (x < y))) ∧ w = w' := by
  have hna := fun z W => cmp_nan z W
  have HNA := Lib.hid hna; clear hna
  go_enter Tryz.func126, Tryz.ntmps126
  go_wp2_with (with_reducible refine ((HNA.out _ _).mono ?_); rintro e w' ⟨rfl, rfl⟩)
  go_ret
  exact ⟨rfl, rfl⟩

set_option maxRecDepth 100000 in
set_option maxHeartbeats 4000000 in
theorem int_sorted (l : List Int) (v : Value) (w : World) (hv : IntsAt w v l) (hn : l.length ≤ 1000000) (hs : ∀ i, i + 1 < l.length → inI l i ≤ inI l (i + 1)) :
    Calls Tryz.prog 56 #[v] w fun e w' => e = .returned (.bool (true)) ∧ Below w.heap.size w w' := by
  obtain ⟨p, c, rfl, hv1⟩ := hv
  have hv2 := Lib.hid hv1; clear hv1
  have HS := Lib.hid hs; clear hs
  have HB := Lib.hid (Below.refl w.heap.size w)
  by_cases hl : l = []
  · subst hl
    dsimp only [List.length_nil]
    go_enter Tryz.func56, Tryz.ntmps56
    go_wp2_with fail
    refine wp_loop_rounds 1 ?_; rw [rounds_succ]
    go_wp2_with fail
    go_ret
    exact ⟨rfl, HB.out⟩
  · have hlen : 0 < l.length := List.length_pos_iff.2 hl
    have hw0 : IntKind.i64.wrap ((l.length : Int) - 1) = ((l.length - 1 : Nat) : Int) := (IntWalk.i64_in _ (by omega)).trans (by omega)
    go_enter Tryz.func56, Tryz.ntmps56
    go_wp2_with fail
    go_loopw [3] (fun s3 wr => ∃ m : Nat, s3 = .int .i64 (m : Int) ∧ Hid (m < l.length) ∧ Hid (Below w.heap.size w wr)) (fun s3 _ => (intOf s3).toNat)
    case atStart => exact ⟨l.length - 1, by first | rfl | (rw [hw0]) | (congr 1; omega), Lib.hid (by omega), HB⟩
    case round =>
      clear HB hw0
      obtain ⟨m, rfl, hml, HB⟩ := hrel
      by_cases hm0 : m = 0
      · subst hm0
        have hg : ¬ (0 : Int) < ((0 : Nat) : Int) := by omega
        go_wp2_with fail
        go_ret
        exact ⟨rfl, HB.out⟩
      · have hg : (0 : Int) < (m : Int) := by omega
        have hml2 : m < l.length := hml.out
        have hmi : (m : Int) < (l.length : Int) := by omega
        have hm1 : ((m - 1 : Nat) : Int) < (l.length : Int) := by omega
        have hm2 : (0 : Int) ≤ ((m - 1 : Nat) : Int) := by omega
        have hmz : (0 : Int) ≤ (m : Int) := by omega
        have hw0 : IntKind.i64.wrap ((m : Int) - 1) = ((m - 1 : Nat) : Int) := (IntWalk.i64_in _ (by omega)).trans (by omega)
        have hkl := hml2
        obtain ⟨b, o, rfl, hb, hC⟩ := hv2.out (fun h => by subst h; exact absurd hkl (Nat.not_lt_zero _))
        have y0 : wr.cell? ⟨b, o + m, none⟩ = some (.int .i64 (inI l m)) := (HB.out.cell (p := ⟨b, o + m, none⟩) hb).trans (hC m hkl)
        have y1 : wr.cell? ⟨b, o + (m - 1), none⟩ = some (.int .i64 (inI l (m - 1))) := (HB.out.cell (p := ⟨b, o + (m - 1), none⟩) hb).trans (hC (m - 1) (by omega))
        have hbr : b < wr.heap.size := by have := HB.out.size; omega
        have hle := fun W => cmp_less (inI l m) (inI l (m - 1)) W
        have hd : decide (inI l m < inI l (m - 1)) = false := decide_eq_false (by have := HS.out (m - 1) (by omega); rw [show m - 1 + 1 = m by omega] at this; omega)
        rw [hd] at hle
        clear hC hb hkl hml2 hd
        generalize inI l m = a0 at *
        generalize inI l (m - 1) = a1 at *
        have HLE := Lib.hid hle; clear hle
        have hm9 : ((m - 1 : Nat) : Int) < (m : Int) := by omega
        generalize hq : m - 1 = q at *
        clear hq
        go_wp2_with fail
        have f0 := fun p : BelowOf _ => BelowOf.cell hbr y1 p
        have g0 := fun p : BelowOf _ => BelowOf.cell hbr y0 p
        refine wp_region_WQ (by kernel_rfl) (by kernel_rfl) ?_
        repeat (refine WQ.step (fun K hK => ?_); go_simp; first | (refine hK.out _ ?_; clear hK K) | (apply Exists.intro; refine ⟨fun _ => ?_, hK.out _ ?_⟩; (first | rfl | (go_at_call 126; exact calls_below_same _ (HLE.out _))); clear hK K))
        refine WQ.nil ?_
        intro _ hw'
        obtain ⟨⟨wq, hbq⟩, hw2⟩ := hw'
        subst hw2
        replace HB := Lib.hid (bch' HB.out hbq)
        clear f0 g0
        go_wp2_with fail
        go_roundw
        case rel => exact ⟨q, rfl, Lib.hid (by omega), HB⟩
        case measure => first | (simp [intOf]; done) | (simp [intOf]; omega)
end Go.Proofs.YtkjelfmgnkkijaaGreatDoor
namespace Go.Proofs.YtkjelfmgnkkijaaGreatDoor
open Go.RowKit Go.Shelf Lum
open Go.Lib (decDigits itoa)
attribute [local go_sem] bs_get bs_extract_end bs_extract_from bs_extract bs_append

set_option maxRecDepth 100000 in
set_option maxHeartbeats 4000000 in
theorem sbm_index (M : FuncId) (fv : Value) (l : List (Sb × Value)) (pr : (Sb × Value) → Bool) (pp : Option Addr) (cc base : Nat) (w : World) (hR : RowX encS 4 w pp l) (hbase : base ≤ w.heap.size) (hn : l.length ≤ 1000000) (hsl : ∀ x ∈ l, ∃ p n c, x.2 = .slice p n c) (hF : ∀ args w, (callFunc M args).run Tryz.prog w = .ok (.enter M args) w)
    (hcm : ∀ x ∈ l, ∀ W, Below base w W → Calls Tryz.prog M #[.agg #[.int .i64 x.1.nu, .int .i64 x.1.pr, .bool x.1.inh, x.2], fv] W fun e w' => e = .returned (.bool (pr x)) ∧ Below W.heap.size W w') :
    Calls Tryz.prog 124 #[.slice pp l.length cc, .func (.func M) #[] #[fv]] w fun e w' => e = .returned (.int .i64 (ixOf pr l)) ∧ Below w.heap.size w w' := by
  have HSLH := Lib.hid hsl; clear hsl
  have hv2 := Lib.hid hR; clear hR
  have hcc := Lib.hid hcm; clear hcm
  have HB := Lib.hid (Below.refl w.heap.size w)
  go_enter Tryz.func124, Tryz.ntmps124
  go_wp2_with fail
  go_loopw [8] (fun s8 wr => ∃ i r : Nat, s8 = .int .i64 (i : Int) ∧ Hid (i + r = l.length) ∧ Hid (Below w.heap.size w wr) ∧ Hid (∀ j (hj : j < l.length), j < i → pr (l[j]'hj) = false)) (fun s8 _ => l.length - (intOf s8).toNat)
  case atStart => exact ⟨0, l.length, rfl, Lib.hid (by omega), HB, Lib.hid (fun j hj h => absurd h (Nat.not_lt_zero _))⟩
  case round =>
    clear HB
    obtain ⟨i, r, rfl, hkr, HB, HN⟩ := hrel
    cases r with
    | zero =>
      have hlt : ¬ (i : Int) < (l.length : Int) := by have := hkr.out; omega
      have HR : Hid (ixOf pr l = -1) := Lib.hid (ixOf_no fun j hj => HN.out j hj (by have := hkr.out; omega))
      go_wp2_with fail
      go_ret
      exact ⟨by rw [HR.out]; rfl, HB.out⟩
    | succ r =>
      have hkl : i < l.length := by have := hkr.out; omega
      have hlt : (i : Int) < (l.length : Int) := by omega
      have hi0 : (0 : Int) ≤ (i : Int) := by omega
      have hun : IntKind.i64.wrap ((i : Int) + 1) = (i : Int) + 1 := IntWalk.i64_in _ (by omega)
      obtain ⟨b, o, rfl, hb, hC⟩ := hv2.out (fun h => by subst h; exact absurd hkl (Nat.not_lt_zero _))
      obtain ⟨x, hx⟩ : ∃ x, x = l[i]'hkl := ⟨_, rfl⟩
      have hxm := HSLH.out x (by rw [hx]; exact List.getElem_mem hkl)
      obtain ⟨xa, xb⟩ := x
      obtain ⟨xp, xn, xc, hx2⟩ := hxm
      dsimp only at hx2
      subst hx2
      have hcell := hC i hkl
      rw [← hx] at hcell
      have x0 : wr.cell? ⟨b, o + i * 4, none⟩ = some (.int .i64 xa.nu) := (HB.out.cell (p := ⟨b, o + i * 4 + 0, none⟩) hb).trans (hcell 0 _ rfl)
      have x1 : wr.cell? ⟨b, o + i * 4 + 1, none⟩ = some (.int .i64 xa.pr) := (HB.out.cell (p := ⟨b, o + i * 4 + 1, none⟩) hb).trans (hcell 1 _ rfl)
      have x2 : wr.cell? ⟨b, o + i * 4 + 2, none⟩ = some (.bool xa.inh) := (HB.out.cell (p := ⟨b, o + i * 4 + 2, none⟩) hb).trans (hcell 2 _ rfl)
      have x3 : wr.cell? ⟨b, o + i * 4 + 3, none⟩ = some (.slice xp xn xc) := (HB.out.cell (p := ⟨b, o + i * 4 + 3, none⟩) hb).trans (hcell 3 _ rfl)
      have hcm := hcc.out (xa, Value.slice xp xn xc) (by rw [hx]; exact List.getElem_mem hkl)
      dsimp only at hcm
      have HBB := Lib.hid (HB.out.mono hbase)
      have hbr : b < wr.heap.size := by have := HB.out.size; omega
      have hlo : i * 4 < 9223372036854775807 := by omega
      have HXE := Lib.hid hx
      have HCM0 := Lib.hid hcm
      clear hC hcell hb hx hcm
      cases hpx : pr (xa, Value.slice xp xn xc)
      · have HN2 : Hid (∀ j (hj : j < l.length), j < i + 1 → pr (l[j]'hj) = false) := Lib.hid (fun j hj h => by by_cases e : j = i; (subst e; rw [← HXE.out]; exact hpx); exact HN.out j hj (by omega))
        have hcm := HCM0.out
        rw [hpx] at hcm
        clear hpx
        have HCM := Lib.hid hcm; clear hcm
        go_wp2_with (first | (with_reducible refine ((HCM.out _ HBB.out).mono ?_); rintro e w' ⟨rfl, hb⟩; replace HB := Lib.hid (bch' HB.out hb); clear hb))
        go_roundw
        case rel => exact ⟨i + 1, r, by first | rfl | simp, Lib.hid (by have := hkr.out; omega), HB, HN2⟩
        case measure => first | (simp [intOf]; done) | (simp [intOf]; omega)
      · have HR : Hid (ixOf pr l = (i : Int)) := Lib.hid (ixOf_at hkl (by rw [← HXE.out]; exact hpx) (fun j hj => HN.out j (by omega) hj))
        have hcm := HCM0.out
        rw [hpx] at hcm
        clear hpx
        have HCM := Lib.hid hcm; clear hcm
        go_wp2_with (first | (with_reducible refine ((HCM.out _ HBB.out).mono ?_); rintro e w' ⟨rfl, hb⟩; replace HB := Lib.hid (bch' HB.out hb); clear hb))
        go_ret
        exact ⟨by rw [HR.out]; rfl, HB.out⟩

set_option maxRecDepth 100000 in
set_option maxHeartbeats 8000000 in
theorem sbm_delete (M : FuncId) (fv : Value) (l : List (Sb × Value)) (pr : (Sb × Value) → Bool) (pp : Option Addr) (cc base : Nat) (w : World) (hO : OwnR encS 4 base 58 w pp cc l) (hbase : base ≤ w.heap.size) (hn : l.length ≤ 1000000) (hsl : ∀ x ∈ l, ∃ p n c, x.2 = .slice p n c) (hF : ∀ args w, (callFunc M args).run Tryz.prog w = .ok (.enter M args) w)
    (hcm : ∀ x ∈ l, ∀ W, Below base w W → Calls Tryz.prog M #[.agg #[.int .i64 x.1.nu, .int .i64 x.1.pr, .bool x.1.inh, x.2], fv] W fun e w' => e = .returned (.bool (pr x)) ∧ Below W.heap.size W w') :
    Calls Tryz.prog 52 #[.slice pp l.length cc, .func (.func M) #[] #[fv]] w fun e w' => ∃ pp' cc', e = .returned (.slice pp' (l.filter fun x => !pr x).length cc') ∧ OwnR encS 4 base 58 w' pp' cc' (l.filter fun x => !pr x) ∧ Below base w w' := by
  have hix := sbm_index M fv l pr pp cc base w (hO.row encS_len) hbase hn hsl hF hcm
  have hcc := Lib.hid hcm; clear hcm
  have HO := Lib.hid hO; clear hO
  have HSLH := Lib.hid hsl; clear hsl
  have HB := Lib.hid (Below.refl w.heap.size w)
  rcases first_ix pr l with hall | ⟨i, hil, hpi, hbef⟩
  · rw [ixOf_no hall] at hix
    have HE := Lib.hid (kep_none hall)
    clear hall
    have HIX := Lib.hid hix; clear hix
    go_enter Tryz.func52, Tryz.ntmps52
    go_wp2_with (first | (with_reducible refine ((HIX.out).mono ?_); rintro e w' ⟨rfl, hb⟩; replace HB := Lib.hid (bch' HB.out hb); replace HO := Lib.hid (HO.out.keep hb); clear hb))
    go_ret
    exact ⟨pp, cc, by rw [HE.out]; rfl, by rw [HE.out]; exact HO.out, HB.out.mono hbase⟩
  · rw [ixOf_at hil hpi hbef] at hix
    have hne : (((i : Nat) : Int) == -1) = false := by rw [beq_eq_false_iff_ne]; omega
    have HPI := Lib.hid hpi
    have HKF := Lib.hid (kep_first hil hpi hbef)
    clear hpi hbef
    obtain ⟨g, cur0, rfl, hgb, -⟩ := HO.out.to_blk (fun h => by subst h; exact absurd hil (Nat.not_lt_zero _))
    have HGB := Lib.hid hgb; clear hgb
    have HIX := Lib.hid hix; clear hix
    have hun0 : IntKind.i64.wrap ((i : Int) + 1) = (i : Int) + 1 := IntWalk.i64_in _ (by omega)
    go_enter Tryz.func52, Tryz.ntmps52
    go_wp2_with (first | (with_reducible refine ((HIX.out).mono ?_); rintro e w' ⟨rfl, hb⟩; replace HB := Lib.hid (bch' HB.out hb); replace HO := Lib.hid (HO.out.keep hb); clear hb))
    go_loopw [5, 6] (fun s5 s6 wr => ∃ j r : Nat, s5 = .int .i64 ((kepL pr l j).length : Int) ∧ s6 = .int .i64 (j : Int) ∧ Hid (j + r = l.length) ∧ Hid (i < j) ∧ Hid (Below base w wr) ∧ Hid (OwnR encS 4 base 58 wr (some ⟨g, 0, none⟩) cc ((kepL pr l j) ++ l.drop (kepL pr l j).length))) (fun _ s6 _ => l.length - (intOf s6).toNat)
    case atStart => exact ⟨i + 1, l.length - (i + 1), by rw [HKF.out, List.length_take, Nat.min_eq_left (by omega)], by first | rfl | simp, Lib.hid (by omega), Lib.hid (by omega), Lib.hid (HB.out.mono hbase), Lib.hid (by rw [HKF.out, List.length_take, Nat.min_eq_left (by omega), List.take_append_drop]; exact HO.out)⟩
    case round =>
      clear HB HO
      obtain ⟨j, r, rfl, rfl, hkr, hij, HB, HO⟩ := hrel
      cases r with
      | zero =>
        obtain rfl : j = l.length := by have := hkr.out; omega
        have hlt : ¬ (l.length : Int) < (l.length : Int) := by omega
        have hm1 := kep_lt hil HPI.out _ hij.out (Nat.le_refl _)
        have HE : Hid ((kepL pr l l.length) = l.filter fun x => !pr x) := Lib.hid (kep_end pr l)
        obtain ⟨g2, cur, hp, hg2, hbk, hc1, hc2, hc3, hc4⟩ := HO.out.to_blk (fun e => by have h := congrArg List.length e; rw [kept_len (by omega)] at h; have h2 : l.length = 0 := h; omega)
        obtain rfl : g = g2 := by have := Option.some.inj hp; injection this
        rw [kept_len (by omega)] at hc1
        have hKR : (l.drop (kepL pr l l.length).length).length = l.length - (kepL pr l l.length).length := List.length_drop
        obtain ⟨w4, cs, hclr, hcl, hbk2, hbl2⟩ := clearK (P := Tryz.prog) wr 25 58 (.agg #[.int .i64 0, .int .i64 0, .bool false, .slice none 0 0]) 4 g ((kepL pr l l.length).length * 4) (l.length - (kepL pr l l.length).length) (cc - (kepL pr l l.length).length) cur Tryz.underlying25 (fun _ => by kernel_rfl) rfl (by decide) hbk (by omega) (by rw [hc3, ← Nat.add_mul]; exact Nat.mul_le_mul_right _ (by omega))
        have HFI : Hid (OwnR encS 4 base 58 w4 (some ⟨g, 0, none⟩) cc (kepL pr l l.length)) := Lib.hid (OwnR.cut (R := l.drop (kepL pr l l.length).length) encS_len hg2 (by rw [kept_len (by omega)]; exact hc1) hc2 hc3 (by have h := hc4; rw [kept_len (by omega)] at h ⊢; exact h) (by rw [hKR]; exact hcl) hbk2)
        have HCL := Lib.hid hclr; have HB4 : Hid (Below base w w4) := Lib.hid (HB.out.trans (hbl2 base hg2))
        have hcap : ¬ cc = (kepL pr l l.length).length := by omega
        have hcc1 : ((kepL pr l l.length).length : Int) ≤ (cc : Int) := by omega
        have hm0 : (0 : Int) ≤ ((kepL pr l l.length).length : Int) := by omega
        have hml : ((kepL pr l l.length).length : Int) ≤ (l.length : Int) := by omega
        have hcb : (cc : Int) ≤ 9223372036854775807 := by unfold maxLen at hc2; omega
        have hlc : (l.length : Int) ≤ (cc : Int) := by omega
        clear hclr hcl hbk2 hbl2 hbk hc1 hc2 hc3 hc4 hKR hm1 hp hg2
        generalize hK : (kepL pr l l.length) = K at *
        clear hK
        go_wp2_with (first | (with_reducible refine wpList_clear_run _ rfl (.tmp 38) 25 rfl _ rfl (HCL.out _) ?_))
        go_ret
        rw [← HE.out]
        exact ⟨_, _, rfl, HFI.out, HB4.out⟩
      | succ r =>
        have hjl : j < l.length := by have := hkr.out; omega
        have hlt : (j : Int) < (l.length : Int) := by omega
        have hj0 : (0 : Int) ≤ (j : Int) := by omega
        have hun : IntKind.i64.wrap ((j : Int) + 1) = (j : Int) + 1 := IntWalk.i64_in _ (by omega)
        have hm1 := kep_lt hil HPI.out _ hij.out (Nat.le_of_lt hjl)
        have hm2 : (kepL pr l j).length < l.length := by omega
        obtain ⟨x, hx⟩ : ∃ x, x = l[j]'hjl := ⟨_, rfl⟩
        have hxm := HSLH.out x (by rw [hx]; exact List.getElem_mem hjl)
        obtain ⟨xa, xb⟩ := x
        obtain ⟨xp, xn, xc, hx2⟩ := hxm
        dsimp only at hx2
        subst hx2
        have hxc := HO.out.cellsAt encS_len (i := j) (x := (xa, Value.slice xp xn xc)) (by rw [kept_get (by omega), List.getElem?_eq_getElem hjl, hx])
        have x0 : wr.cell? ⟨g, j * 4, none⟩ = some (.int .i64 xa.nu) := hxc 0 _ rfl
        have x1 : wr.cell? ⟨g, j * 4 + 1, none⟩ = some (.int .i64 xa.pr) := hxc 1 _ rfl
        have x2 : wr.cell? ⟨g, j * 4 + 2, none⟩ = some (.bool xa.inh) := hxc 2 _ rfl
        have x3 : wr.cell? ⟨g, j * 4 + 3, none⟩ = some (.slice xp xn xc) := hxc 3 _ rfl
        have hgl : g < wr.heap.size := by have := (HO.out.lt _ rfl).2; exact this
        have hcm := hcc.out (xa, Value.slice xp xn xc) (by rw [hx]; exact List.getElem_mem hjl)
        dsimp only at hcm
        have hlo : j * 4 < 9223372036854775807 := by omega
        have HXE := Lib.hid hx
        have HCM0 := Lib.hid hcm
        clear hxc hx hcm
        have hal := (Below.refl wr.heap.size wr).alloc (Nat.le_refl _) (.cells #[.int .i64 xa.nu, .int .i64 xa.pr, .bool xa.inh, .slice xp xn xc] 58)
        have HBW := Lib.hid ((HB.out.trans (hal.mono (Nat.le_trans hbase HB.out.size))))
        replace HO := Lib.hid (HO.out.keep hal)
        have HV := Lib.hid (Blk.new wr 58 #[.int .i64 xa.nu, .int .i64 xa.pr, .bool xa.inh, .slice xp xn xc])
        clear hal
        go_upto_region 8 with fail
        clear HB x0 x1 x2 x3 hgl
        generalize wr.alloc (.cells #[.int .i64 xa.nu, .int .i64 xa.pr, .bool xa.inh, .slice xp xn xc] 58) = wg at *
        have HB := HBW; clear HBW
        generalize wr.heap.size = gv at *
        obtain ⟨v0, v1, v2, v3, vf0, vf1, vf2, vf3⟩ := HV.out.c4
        have HBB := HB
        cases hpx : pr (xa, Value.slice xp xn xc)
        · have hK : (kepL pr l (j + 1)) = (kepL pr l j) ++ [(xa, Value.slice xp xn xc)] := by rw [HXE.out]; exact kep_no hjl (by rw [← HXE.out]; exact hpx)
          have HK := Lib.hid hK; clear hK
          have hcm := HCM0.out
          rw [hpx] at hcm
          clear hpx
          have HCM := Lib.hid hcm; clear hcm
          generalize hq : (kepL pr l j) = K at *
          clear hq
          go_upto_region 9 with (first | (with_reducible refine ((HCM.out _ HBB.out).mono ?_); rintro e w' ⟨rfl, hb⟩; replace HV := Lib.hid (HV.out.keep hb); clear v0 v1 v2 v3 vf0 vf1 vf2 vf3; replace HO := Lib.hid (HO.out.keep hb); replace HB := Lib.hid (HB.out.trans (hb.mono (Nat.le_trans hbase HB.out.size))); clear hb; obtain ⟨v0, v1, v2, v3, vf0, vf1, vf2, vf3⟩ := HV.out.c4))
          obtain ⟨y, hy⟩ : ∃ y, l[K.length]? = some y := ⟨_, List.getElem?_eq_getElem hm2⟩
          have hyc := HO.out.cellsAt encS_len (i := K.length) (x := y) (by rw [kept_get (Nat.le_refl _)]; exact hy)
          have y0 : w'.cell? ⟨g, K.length * 4, none⟩ = some (.int .i64 y.1.nu) := hyc 0 _ rfl
          have y1 : w'.cell? ⟨g, K.length * 4 + 1, none⟩ = some (.int .i64 y.1.pr) := hyc 1 _ rfl
          have y2 : w'.cell? ⟨g, K.length * 4 + 2, none⟩ = some (.bool y.1.inh) := hyc 2 _ rfl
          have y3 : w'.cell? ⟨g, K.length * 4 + 3, none⟩ = some (y.2) := hyc 3 _ rfl
          have hfr := HO.out.frozenAt (fun e => by have h := congrArg List.length e; rw [kept_len (by omega)] at h; have h2 : l.length = 0 := h; omega)
          have z0 := hfr (K.length * 4)
          have z1 := hfr (K.length * 4 + 1)
          have z2 := hfr (K.length * 4 + 2)
          have z3 := hfr (K.length * 4 + 3)
          have hgl : g < w'.heap.size := (HO.out.lt _ rfl).2
          have hm0 : (0 : Int) ≤ (K.length : Int) := by omega
          have hml : (K.length : Int) < (l.length : Int) := by omega
          have hmk : K.length * 4 < 9223372036854775807 := by omega
          clear hyc hfr hy
          have HO2 : Hid (OwnR encS 4 base 58 ((((w'.setCell ⟨g, K.length * 4, none⟩ (.int .i64 xa.nu)).setCell ⟨g, K.length * 4 + 1, none⟩ (.int .i64 xa.pr)).setCell ⟨g, K.length * 4 + 2, none⟩ (.bool xa.inh)).setCell ⟨g, K.length * 4 + 3, none⟩ (.slice xp xn xc)) (some ⟨g, 0, none⟩) cc ((K ++ [(xa, Value.slice xp xn xc)]) ++ l.drop (K ++ [(xa, Value.slice xp xn xc)]).length)) := Lib.hid (by have h := HO.out.setk encS_len (i := K.length) (by rw [kept_len (by omega)]; omega) (xa, Value.slice xp xn xc); rw [kept_set K l (xa, Value.slice xp xn xc) hm2] at h; rw [List.length_append]; exact h)
          have HB2 : Hid (Below base w ((((w'.setCell ⟨g, K.length * 4, none⟩ (.int .i64 xa.nu)).setCell ⟨g, K.length * 4 + 1, none⟩ (.int .i64 xa.pr)).setCell ⟨g, K.length * 4 + 2, none⟩ (.bool xa.inh)).setCell ⟨g, K.length * 4 + 3, none⟩ (.slice xp xn xc))) := Lib.hid (((((HB.out.setCell HGB.out _).setCell HGB.out _).setCell HGB.out _).setCell HGB.out _))
          go_upto_region 10 with fail
          clear HO HB y0 y1 y2 y3 z0 z1 z2 z3 hgl
          clear v0 v1 v2 v3 vf0 vf1 vf2 vf3
          clear HV
          generalize (((w'.setCell ⟨g, K.length * 4, none⟩ (.int .i64 xa.nu)).setCell ⟨g, K.length * 4 + 1, none⟩ (.int .i64 xa.pr)).setCell ⟨g, K.length * 4 + 2, none⟩ (.bool xa.inh)).setCell ⟨g, K.length * 4 + 3, none⟩ (.slice xp xn xc) = w5 at *
          have hun2 : IntKind.i64.wrap ((K.length : Int) + 1) = (K.length : Int) + 1 := IntWalk.i64_in _ (by omega)
          go_wp2_with fail
          go_roundw
          case rel => exact ⟨j + 1, r, by rw [HK.out, List.length_append]; simp, by first | rfl | simp, Lib.hid (by have := hkr.out; omega), Lib.hid (by have := hij.out; omega), HB2, Lib.hid (by rw [HK.out]; exact HO2.out)⟩
          case measure => first | (simp [intOf]; done) | (simp [intOf]; omega)
        · have hK : (kepL pr l (j + 1)) = (kepL pr l j) := kep_yes hjl (by rw [← HXE.out]; exact hpx)
          have HK := Lib.hid hK; clear hK
          have hcm := HCM0.out
          rw [hpx] at hcm
          clear hpx hm1 hm2
          have HCM := Lib.hid hcm; clear hcm
          generalize hq : (kepL pr l j) = K at *
          clear hq
          go_wp2_with (first | (with_reducible refine ((HCM.out _ HBB.out).mono ?_); rintro e w' ⟨rfl, hb⟩; replace HV := Lib.hid (HV.out.keep hb); clear v0 v1 v2 v3 vf0 vf1 vf2 vf3; replace HO := Lib.hid (HO.out.keep hb); replace HB := Lib.hid (HB.out.trans (hb.mono (Nat.le_trans hbase HB.out.size))); clear hb; obtain ⟨v0, v1, v2, v3, vf0, vf1, vf2, vf3⟩ := HV.out.c4))
          go_roundw
          case rel => exact ⟨j + 1, r, by rw [HK.out], by first | rfl | simp, Lib.hid (by have := hkr.out; omega), Lib.hid (by have := hij.out; omega), HB, Lib.hid (by rw [HK.out]; exact HO.out)⟩
          case measure => first | (simp [intOf]; done) | (simp [intOf]; omega)
end Go.Proofs.YtkjelfmgnkkijaaGreatDoor
namespace Lum
open Go Go.RowKit Go.Shelf
open Go.Lib (decDigits itoa)
end Lum
namespace Go.Proofs.YtkjelfmgnkkijaaGreatDoor
open Go.RowKit Go.Shelf Lum
open Go.Lib (decDigits itoa)
attribute [local go_sem] bs_get bs_extract_end bs_extract_from bs_extract bs_append

set_option maxRecDepth 100000 in
set_option maxHeartbeats 4000000 in
theorem l30_right (tz st ti : Int) (bl : Bool) (fr : Txt) (sv fv : Value) (su : List Sb) (fd : List Fdr) (ch : Int) (w : World) (hs : SbsAt w sv su) (hf : FdsAt w fv fd) :
    Calls Tryz.prog 24 #[.agg #[.string ⟨(fr).toArray⟩, .int .i64 tz, .int .i64 st, .int .i64 ti, .bool (bl), sv, fv], .int .i64 ch] w fun e w' => FewB (onE fr tz st ti su fd ch = 0 ∧ fr.length ≤ 60 ∧ ∀ i, i < fd.length → (fdv fd i).fr.length ≤ 60) w e w' := by
  obtain ⟨ps, zs, rfl⟩ : ∃ ps zs, sv = .slice ps su.length zs := by obtain ⟨a, b, e, -⟩ := hs; exact ⟨a, b, e⟩
  obtain ⟨pf, zf, rfl⟩ : ∃ pf zf, fv = .slice pf fd.length zf := by obtain ⟨a, b, e, -⟩ := hf; exact ⟨a, b, e⟩
  have hal := (Below.refl w.heap.size w).alloc (Nat.le_refl _) (.cells #[.string ⟨(fr).toArray⟩, .int .i64 tz, .int .i64 st, .int .i64 ti, .bool (bl), (.slice ps su.length zs), (.slice pf fd.length zf)] 28)
  have HS := Lib.hid (SbsAt.kept hs hal)
  have HF := Lib.hid (FdsAt.kept hf hal)
  have HB := Lib.hid hal
  clear hal hs hf
  have HK := Lib.hid (Blk.new w 28 #[.string ⟨(fr).toArray⟩, .int .i64 tz, .int .i64 st, .int .i64 ti, .bool (bl), (.slice ps su.length zs), (.slice pf fd.length zf)])
  obtain ⟨k0, k1, k2, k3, k4, k5, k6, kf0, kf1, kf2, kf3, kf4, kf5, kf6⟩ := HK.out.c7
  have how := fun W => l30_own tz st ti bl fr ps pf su.length zs fd.length zf W
  have hfe := fun W (h1 : SbsAt W (.slice ps su.length zs) su) (h2 : FdsAt W (.slice pf fd.length zf) fd) => r30_few tz st ti bl fr (.slice ps su.length zs) (.slice pf fd.length zf) su fd W h1 h2
  have HOW := Lib.hid how; clear how
  have HFE := Lib.hid hfe; clear hfe
  go_enter Tryz.func24, Tryz.ntmps24
  go_wp2_with (first | (with_reducible refine ((HOW.out _).mono ?_); rintro e w' ⟨rfl, hb⟩; replace HK := Lib.hid (HK.out.keep hb); clear k0 k1 k2 k3 k4 k5 k6 kf0 kf1 kf2 kf3 kf4 kf5 kf6; replace HS := Lib.hid (SbsAt.kept HS.out hb); replace HF := Lib.hid (FdsAt.kept HF.out hb); replace HB := Lib.hid (bch' HB.out hb); clear hb; obtain ⟨k0, k1, k2, k3, k4, k5, k6, kf0, kf1, kf2, kf3, kf4, kf5, kf6⟩ := HK.out.c7))
  refine ((HFE.out _ HS.out HF.out).mono ?_)
  rintro e w2 ⟨b1, rfl, hq, hb⟩
  replace HK := Lib.hid (HK.out.keep hb); clear k0 k1 k2 k3 k4 k5 k6 kf0 kf1 kf2 kf3 kf4 kf5 kf6; replace HS := Lib.hid (SbsAt.kept HS.out hb); replace HF := Lib.hid (FdsAt.kept HF.out hb); replace HB := Lib.hid (bch' HB.out hb); clear hb; obtain ⟨k0, k1, k2, k3, k4, k5, k6, kf0, kf1, kf2, kf3, kf4, kf5, kf6⟩ := HK.out.c7
  cases b1
  · go_wp2_with fail
    go_ret
    exact ⟨_, rfl, fun h => absurd h (by decide), HB.out⟩
  · obtain ⟨hx, hl⟩ := hq rfl
    clear hq
    have hc := fun W (h1 : SbsAt W (.slice ps su.length zs) su) (h2 : FdsAt W (.slice pf fd.length zf) fd) => r30_check tz st ti bl fr (.slice ps su.length zs) (.slice pf fd.length zf) su fd W h1 h2 (by omega) (fun i hi => Nat.le_trans (hl i hi) (by omega))
    by_cases hz : maE fr tz st ti su fd = 0
    · rw [hz] at hc
      have HC := Lib.hid hc; clear hc
      by_cases o1 : (1 : Int) ≤ ch
      · by_cases o2 : ch ≤ (999 : Int)
        · go_wp2_with (first | (with_reducible refine ((HOW.out _).mono ?_); rintro e w' ⟨rfl, hb⟩; replace HK := Lib.hid (HK.out.keep hb); clear k0 k1 k2 k3 k4 k5 k6 kf0 kf1 kf2 kf3 kf4 kf5 kf6; replace HS := Lib.hid (SbsAt.kept HS.out hb); replace HF := Lib.hid (FdsAt.kept HF.out hb); replace HB := Lib.hid (bch' HB.out hb); clear hb; obtain ⟨k0, k1, k2, k3, k4, k5, k6, kf0, kf1, kf2, kf3, kf4, kf5, kf6⟩ := HK.out.c7) | (with_reducible refine ((HC.out _ HS.out HF.out).mono ?_); rintro e w' ⟨rfl, hb⟩; replace HK := Lib.hid (HK.out.keep hb); clear k0 k1 k2 k3 k4 k5 k6 kf0 kf1 kf2 kf3 kf4 kf5 kf6; replace HS := Lib.hid (SbsAt.kept HS.out hb); replace HF := Lib.hid (FdsAt.kept HF.out hb); replace HB := Lib.hid (bch' HB.out hb); clear hb; obtain ⟨k0, k1, k2, k3, k4, k5, k6, kf0, kf1, kf2, kf3, kf4, kf5, kf6⟩ := HK.out.c7))
          go_ret
          exact ⟨_, rfl, fun _ => ⟨onE_ok hz (by omega), hx, hl⟩, HB.out⟩
        · go_wp2_with (first | (with_reducible refine ((HOW.out _).mono ?_); rintro e w' ⟨rfl, hb⟩; replace HK := Lib.hid (HK.out.keep hb); clear k0 k1 k2 k3 k4 k5 k6 kf0 kf1 kf2 kf3 kf4 kf5 kf6; replace HS := Lib.hid (SbsAt.kept HS.out hb); replace HF := Lib.hid (FdsAt.kept HF.out hb); replace HB := Lib.hid (bch' HB.out hb); clear hb; obtain ⟨k0, k1, k2, k3, k4, k5, k6, kf0, kf1, kf2, kf3, kf4, kf5, kf6⟩ := HK.out.c7) | (with_reducible refine ((HC.out _ HS.out HF.out).mono ?_); rintro e w' ⟨rfl, hb⟩; replace HK := Lib.hid (HK.out.keep hb); clear k0 k1 k2 k3 k4 k5 k6 kf0 kf1 kf2 kf3 kf4 kf5 kf6; replace HS := Lib.hid (SbsAt.kept HS.out hb); replace HF := Lib.hid (FdsAt.kept HF.out hb); replace HB := Lib.hid (bch' HB.out hb); clear hb; obtain ⟨k0, k1, k2, k3, k4, k5, k6, kf0, kf1, kf2, kf3, kf4, kf5, kf6⟩ := HK.out.c7))
          go_ret
          exact ⟨_, rfl, fun h => absurd (of_decide_eq_true h) (by omega), HB.out⟩
      · go_wp2_with (first | (with_reducible refine ((HOW.out _).mono ?_); rintro e w' ⟨rfl, hb⟩; replace HK := Lib.hid (HK.out.keep hb); clear k0 k1 k2 k3 k4 k5 k6 kf0 kf1 kf2 kf3 kf4 kf5 kf6; replace HS := Lib.hid (SbsAt.kept HS.out hb); replace HF := Lib.hid (FdsAt.kept HF.out hb); replace HB := Lib.hid (bch' HB.out hb); clear hb; obtain ⟨k0, k1, k2, k3, k4, k5, k6, kf0, kf1, kf2, kf3, kf4, kf5, kf6⟩ := HK.out.c7) | (with_reducible refine ((HC.out _ HS.out HF.out).mono ?_); rintro e w' ⟨rfl, hb⟩; replace HK := Lib.hid (HK.out.keep hb); clear k0 k1 k2 k3 k4 k5 k6 kf0 kf1 kf2 kf3 kf4 kf5 kf6; replace HS := Lib.hid (SbsAt.kept HS.out hb); replace HF := Lib.hid (FdsAt.kept HF.out hb); replace HB := Lib.hid (bch' HB.out hb); clear hb; obtain ⟨k0, k1, k2, k3, k4, k5, k6, kf0, kf1, kf2, kf3, kf4, kf5, kf6⟩ := HK.out.c7))
        go_ret
        exact ⟨_, rfl, fun h => absurd h (by decide), HB.out⟩
    · have hne : ((maE fr tz st ti su fd : Int) == 0) = false := by simpa using hz
      clear hz
      generalize maE fr tz st ti su fd = m at *
      have HC := Lib.hid hc; clear hc
      go_wp2_with (first | (with_reducible refine ((HOW.out _).mono ?_); rintro e w' ⟨rfl, hb⟩; replace HK := Lib.hid (HK.out.keep hb); clear k0 k1 k2 k3 k4 k5 k6 kf0 kf1 kf2 kf3 kf4 kf5 kf6; replace HS := Lib.hid (SbsAt.kept HS.out hb); replace HF := Lib.hid (FdsAt.kept HF.out hb); replace HB := Lib.hid (bch' HB.out hb); clear hb; obtain ⟨k0, k1, k2, k3, k4, k5, k6, kf0, kf1, kf2, kf3, kf4, kf5, kf6⟩ := HK.out.c7) | (with_reducible refine ((HC.out _ HS.out HF.out).mono ?_); rintro e w' ⟨rfl, hb⟩; replace HK := Lib.hid (HK.out.keep hb); clear k0 k1 k2 k3 k4 k5 k6 kf0 kf1 kf2 kf3 kf4 kf5 kf6; replace HS := Lib.hid (SbsAt.kept HS.out hb); replace HF := Lib.hid (FdsAt.kept HF.out hb); replace HB := Lib.hid (bch' HB.out hb); clear hb; obtain ⟨k0, k1, k2, k3, k4, k5, k6, kf0, kf1, kf2, kf3, kf4, kf5, kf6⟩ := HK.out.c7))
      go_ret
      exact ⟨_, rfl, fun h => absurd h (by decide), HB.out⟩

end Go.Proofs.YtkjelfmgnkkijaaGreatDoor
namespace Lum
open Go Go.RowKit Go.Shelf
open Go.Lib (decDigits itoa)
/-- The factor of a channel of masters without the sources xs. -/
def wiQ (xs : List (Int × Int)) (fr : Txt) (tz st ti : Int) (bl : Bool) (su : List Sb) (fd : List Fdr) (ch t : Int) : Rat :=
  facQ (mainQ (aFr xs fr) (aTo xs tz) (aZe xs st) (aZe xs ti) (aBl xs bl) t) (aSu xs su) fd ch t (aSu xs su).length
theorem scl_act {l : List Sb} {fd : List Fdr} (ch t : Int) : ∀ a : Rat, l.foldl (fun a s => a * sclQ s fd ch t) a = (l.filter (actP ch)).foldl (fun a s => a * sclQ s fd ch t) a := by
  induction l with
  | nil => intro a; rfl
  | cons s r ih =>
    intro a
    rw [List.foldl_cons, List.filter_cons]
    cases h : actP ch s
    · have h1 : sclQ s fd ch t = 1 := by
        have := h
        unfold actP at this
        cases hi : s.inh
        · exact sclQ_add hi
        · rw [hi, Bool.true_and] at this
          exact sclQ_no (by simpa using this)
      rw [h1, Rat.mul_one]
      simp only [Bool.false_eq_true, if_false]
      exact ih a
    · simp only [if_true]
      rw [List.foldl_cons]
      exact ih _
/-- Whether a submaster stays without the sources xs. -/
def stayB (xs : List (Int × Int)) (s : Sb) : Bool := xs.all fun x => x.1 != 7 || x.2 != s.nu
/-- All sources but one. -/
def othL (S : List (Int × Int)) (x : Int × Int) : List (Int × Int) := S.filter fun y => !(y == x)
/-- The product of what the first i sources do alone. -/
def prQ (S : List (Int × Int)) (fr : Txt) (tz st ti : Int) (bl : Bool) (su : List Sb) (fd : List Fdr) (ch t : Int) (i : Nat) : Rat :=
  (S.take i).foldl (fun p x => p * wiQ (othL S x) fr tz st ti bl su fd ch t) 1
end Lum
namespace Lum
open Go Go.RowKit Go.Shelf
/-- Those whose numbers are among the inhibitors' are the inhibitors. -/
theorem oth_filter {su : List Sb} {ch : Int} (h : TabOk su) : su.filter (fun s => (actN su ch).contains s.nu) = actL su ch := by
  unfold actL
  refine List.filter_congr fun s hs => ?_
  rw [Bool.eq_iff_iff, List.contains_iff_mem]
  constructor
  · intro hm
    obtain ⟨s', hs', ha, e⟩ := act_mem.1 hm
    obtain ⟨i, hi, rfl⟩ := mem_sbv hs
    obtain ⟨j, hj, rfl⟩ := mem_sbv hs'
    rw [tab_uniq h hi hj e.symm]
    exact ha
  · intro ha
    exact act_mem.2 ⟨s, hs, ha, rfl⟩
theorem facQ_act (a : Rat) (su : List Sb) (fd : List Fdr) (ch t : Int) : facQ a (actL su ch) fd ch t (actL su ch).length = facQ a su fd ch t su.length := by
  rw [facQ_all, facQ_all, scl_act (l := su)]; rfl
theorem actN_len (su : List Sb) (ch : Int) : (actN su ch).length = (actL su ch).length := by unfold actN; rw [List.length_map]
theorem act_tab {su : List Sb} (ch : Int) (h : TabOk su) : tabE (actL su ch) = 0 := tab_filter _ h
theorem act_sorted {su : List Sb} {ch : Int} (h : TabOk su) : List.Pairwise (fun a b : Int => a < b) (actN su ch) := by
  unfold actN actL
  rw [List.pairwise_map]
  exact (tab_pair h).filter (actP ch)
end Lum
namespace Lum
open Go Go.RowKit Go.Shelf
open Go.Lib (decDigits itoa)
theorem OwnR.far {β : Type} {enc : β → List Value} {k base : Nat} {e : TypeId} {W W' : World} {p : Option Addr} {c : Nat} {l : List β} (h : OwnR enc k base e W p c l) (hk : ∀ g, base ≤ g → W'.heap[g]? = W.heap[g]?) : OwnR enc k base e W' p c l := by
  obtain ⟨h1, h2⟩ := h
  refine ⟨h1, ?_⟩
  rcases h2 with h2 | ⟨g, cap, cur, hv, hg, hh, r⟩
  · exact .inl h2
  · exact .inr ⟨g, cap, cur, hv, hg, by rw [hk g hg]; exact hh, r⟩
/-- The error of masters without a source. -/
def wfE (fr : Txt) (tz st ti : Int) (su : List Sb) (fd : List Fdr) (k n : Int) : Int := if maE fr tz st ti su fd ≠ 0 then maE fr tz st ti su fd else woE k n su
theorem maps_len {L : List (Sb × Value)} {l : List Sb} (h : L.map (·.1) = l) : L.length = l.length := by rw [← h, List.length_map]
/-- The gains' slices of the elements read as their gains. -/
def HasG (W : World) (L : List (Sb × Value)) : Prop := ∀ x ∈ L, GnsAt W x.2 x.1.gs
theorem OwnR.base {β : Type} {enc : β → List Value} {k base b2 : Nat} {e : TypeId} {W : World} {p : Option Addr} {c : Nat} {l : List β} (h : OwnR enc k base e W p c l) (hb : b2 ≤ base) : OwnR enc k b2 e W p c l := by
  obtain ⟨h1, h2⟩ := h
  refine ⟨h1, ?_⟩
  rcases h2 with h2 | ⟨g, cap, cur, hv, hg, r⟩
  · exact .inl h2
  · exact .inr ⟨g, cap, cur, hv, Nat.le_trans hb hg, r⟩
/-- The cells of a table; the slices of its gains read as they did in an older world. -/
def SbsD (w0 W : World) (b o : Nat) (l : List Sb) : Prop := ∀ i, i < l.length → W.cell? ⟨b, o + i * 4, none⟩ = some (.int .i64 (sbv l i).nu) ∧ W.cell? ⟨b, o + i * 4 + 1, none⟩ = some (.int .i64 (sbv l i).pr) ∧ W.cell? ⟨b, o + i * 4 + 2, none⟩ = some (.bool (sbv l i).inh) ∧
  ∃ gv, W.cell? ⟨b, o + i * 4 + 3, none⟩ = some gv ∧ GnsAt w0 gv (sbv l i).gs
theorem SbsD.of_heap {w0 W W' : World} {b o : Nat} {l : List Sb} (h : SbsD w0 W b o l) (e : W'.heap[b]? = W.heap[b]?) : SbsD w0 W' b o l := fun i hi => by
  obtain ⟨h1, h2, h3, gv, h4, h5⟩ := h i hi
  have k := fun j => World.cell?_of_block (w := W) (w' := W') (a := ⟨b, j, none⟩) e
  exact ⟨(k _).trans h1, (k _).trans h2, (k _).trans h3, gv, (k _).trans h4, h5⟩
theorem SbsD.below {w0 W W' : World} {b o : Nat} {l : List Sb} (h : SbsD w0 W b o l) (hb : Below W.heap.size W W') (hl : b < W.heap.size) : SbsD w0 W' b o l := h.of_heap (hb.block b hl)
/-- A table whose cells lie in a block that is not B. -/
def SbsX (B : Nat) (w0 W : World) (v : Value) (l : List Sb) : Prop := ∃ p c, v = .slice p l.length c ∧ l.length ≤ c ∧ (l ≠ [] → ∃ b o, p = some ⟨b, o, none⟩ ∧ b < W.heap.size ∧ b ≠ B ∧ SbsD w0 W b o l)
theorem SbsX.far {B : Nat} {w0 W W' : World} {v : Value} {l : List Sb} (h : SbsX B w0 W v l) (hs : W.heap.size ≤ W'.heap.size) (hk : ∀ g, g ≠ B → g < W.heap.size → W'.heap[g]? = W.heap[g]?) : SbsX B w0 W' v l := by
  obtain ⟨p, c, h1, h2, h3⟩ := h
  refine ⟨p, c, h1, h2, fun hn => ?_⟩
  obtain ⟨b, o, k1, k2, k3, k4⟩ := h3 hn
  exact ⟨b, o, k1, Nat.lt_of_lt_of_le k2 hs, k3, k4.of_heap (hk b k3 k2)⟩
theorem SbsX.keep {B : Nat} {w0 W W' : World} {v : Value} {l : List Sb} (h : SbsX B w0 W v l) (hb : Below W.heap.size W W') : SbsX B w0 W' v l := h.far hb.size fun g _ hg => hb.block g hg
theorem SbsX.at_ {B : Nat} {w0 W : World} {v : Value} {l : List Sb} (h : SbsX B w0 W v l) (hb : Below w0.heap.size w0 W) : SbsAt W v l := by
  obtain ⟨p, c, h1, h2, h3⟩ := h
  refine ⟨p, c, h1, h2, fun hn => ?_⟩
  obtain ⟨b, o, k1, k2, -, k4⟩ := h3 hn
  refine ⟨b, o, k1, k2, fun i hi => ?_⟩
  obtain ⟨a1, a2, a3, gv, a4, a5⟩ := k4 i hi
  exact ⟨a1, a2, a3, gv, a4, a5.kept hb⟩
theorem SbsX.own {B base : Nat} {w0 W : World} {p : Option Addr} {c : Nat} {L : List (Sb × Value)} {l : List Sb} {e : TypeId} (h : OwnR encS 4 base e W p c L) (hg : HasG w0 L) (hl : L.map (·.1) = l) (hB : B < base) : SbsX B w0 W (.slice p l.length c) l := by
  subst hl
  rw [List.length_map]
  refine ⟨p, c, by rw [List.length_map], by rw [List.length_map]; exact h.cap, fun hn => ?_⟩
  have hne : L ≠ [] := fun e => hn (by rw [e]; rfl)
  obtain ⟨b, hp, hb, hc⟩ := h.at_ encS_len hne
  have hbb := (h.lt _ hp).1
  refine ⟨b, 0, hp, hb, by have : base ≤ b := hbb; omega, fun i hi => ?_⟩
  have hi2 : i < L.length := by simpa using hi
  have hs : sbv (L.map (·.1)) i = (L[i]'hi2).1 := by rw [← sbv_at hi]; simp
  rw [hs]
  have hx := hc i hi2
  exact ⟨hx 0 _ rfl, hx 1 _ rfl, hx 2 _ rfl, (L[i]'hi2).2, hx 3 _ rfl, hg _ (List.getElem_mem hi2)⟩
end Lum
namespace Go.Proofs.YtkjelfmgnkkijaaGreatDoor
open Go.RowKit Go.Shelf Lum
open Go.Lib (decDigits itoa)
attribute [local go_sem] bs_get bs_extract_end bs_extract_from bs_extract bs_append

end Go.Proofs.YtkjelfmgnkkijaaGreatDoor
namespace Lum
open Go Go.RowKit Go.Shelf
open Go.Lib (decDigits itoa)
/-- The elements of a table with their gains' slices. -/
theorem subs_rows {W : World} {ps : Option Addr} {zs : Nat} {su : List Sb} (h : SbsAt W (.slice ps su.length zs) su) : ∃ L : List (Sb × Value), L.map (·.1) = su ∧ HasG W L ∧ RowX encS 4 W ps L := by
  obtain ⟨p, c, e, -, h2⟩ := h
  injection e with e1 e2 e3
  subst e1
  by_cases hn : su = []
  · subst hn
    exact ⟨[], rfl, (fun x hx => by cases hx), fun h => absurd rfl h⟩
  obtain ⟨b, o, hp, hb, hC⟩ := h2 hn
  have ch : ∀ i : Fin su.length, ∃ gv, W.cell? ⟨b, o + i.1 * 4 + 3, none⟩ = some gv ∧ GnsAt W gv (sbv su i.1).gs := fun i => (hC i.1 i.2).2.2.2
  have hL : (List.ofFn fun i : Fin su.length => (sbv su i.1, Classical.choose (ch i))).length = su.length := List.length_ofFn
  refine ⟨List.ofFn fun i : Fin su.length => (sbv su i.1, Classical.choose (ch i)), ?_, ?_, ?_⟩
  · refine List.ext_getElem (by rw [List.length_map, hL]) fun i h1 h3 => ?_
    rw [List.getElem_map, List.getElem_ofFn, sbv_at h3]
  · intro x hx
    obtain ⟨i, rfl⟩ := List.mem_ofFn.1 hx
    exact (Classical.choose_spec (ch i)).2
  · intro _
    refine ⟨b, o, hp, hb, fun i hi j u hu => ?_⟩
    rw [hL] at hi
    rw [List.getElem_ofFn] at hu
    obtain ⟨c0, c1, c2, -⟩ := hC i hi
    have c3 := (Classical.choose_spec (ch ⟨i, hi⟩)).1
    have hj : j < 4 := (List.getElem?_eq_some_iff.1 hu).1
    match j, hj with
    | 0, _ => rw [← Option.some.inj hu]; exact c0
    | 1, _ => rw [← Option.some.inj hu]; exact c1
    | 2, _ => rw [← Option.some.inj hu]; exact c2
    | 3, _ => rw [← Option.some.inj hu]; exact c3
theorem HasG.kept {W W' : World} {L : List (Sb × Value)} (h : HasG W L) (hb : Below W.heap.size W W') : HasG W' L := fun x hx => (h x hx).kept hb
theorem HasG.sl {W : World} {L : List (Sb × Value)} (h : HasG W L) : ∀ x ∈ L, ∃ p n c, x.2 = .slice p n c := fun x hx => by
  obtain ⟨p, c, e, -⟩ := h x hx
  exact ⟨p, _, c, e⟩
theorem HasG.filt {W : World} {L : List (Sb × Value)} (h : HasG W L) (q : Sb × Value → Bool) : HasG W (L.filter q) := fun x hx => h x ((List.mem_filter.1 hx).1)
theorem HasG.one {W : World} {L : List (Sb × Value)} (h : HasG W L) : ∀ y ∈ L, ∀ u ∈ encS y, u.oneCell' = true := fun y hy => encS_one (h y hy)
theorem filt_map {L : List (Sb × Value)} {su : List Sb} (h : L.map (·.1) = su) (q : Sb → Bool) : (L.filter fun x => !(!q x.1)).map (·.1) = su.filter q := by
  subst h
  rw [List.filter_map]
  congr 1
  refine List.filter_congr fun x _ => ?_
  simp
theorem pair_step {l : List Int} (h : List.Pairwise (fun a b : Int => a < b) l) : ∀ i, i + 1 < l.length → inI l i ≤ inI l (i + 1) := fun i hi => by
  rw [← inI_at (by omega : i < l.length), ← inI_at hi]
  exact Int.le_of_lt (List.pairwise_iff_getElem.1 h i (i + 1) (by omega) hi (by omega))
end Lum
namespace Go.Proofs.YtkjelfmgnkkijaaGreatDoor
open Go.RowKit Go.Shelf Lum
open Go.Lib (decDigits itoa)
attribute [local go_sem] bs_get bs_extract_end bs_extract_from bs_extract bs_append

set_option maxRecDepth 100000 in
set_option maxHeartbeats 4000000 in
theorem own_sclone (w : World) (l : List (Sb × Value)) (p : Option Addr) (c : Nat) (hv1 : RowX encS 4 w p l) (h1 : ∀ y ∈ l, ∀ u ∈ encS y, u.oneCell' = true) (hn : l.length ≤ 1000000) :
    Calls Tryz.prog 53 #[.slice p l.length c] w fun e w' => ∃ pp cc, e = .returned (.slice pp l.length cc) ∧ OwnR encS 4 w.heap.size 58 w' pp cc l ∧ Below w.heap.size w w' := by
  have hq : ∀ (w : World) (a : Option Addr) (n c n2 c2 : Nat), (binOp .eql 25 (.slice a n c) (.slice none n2 c2)).run Tryz.prog w = .ok (.bool a.isNone) w := fun w a n c n2 c2 => Lib.run_eql_slice_nil w _ _ a n c n2 c2 Tryz.underlying25
  obtain ⟨i0, hi, hz0, hz1, hz2⟩ := info_parts info_sub
  have HN := Lib.hid hn; have H1 := Lib.hid h1; clear hn h1
  cases p with
  | none =>
    have h0 : l = [] := by
      by_cases h : l = []
      · exact h
      · obtain ⟨b, o, e, -⟩ := hv1 h; cases e
    clear hv1
    subst h0
    dsimp only [List.length_nil]
    go_enter Tryz.func53, Tryz.ntmps53
    go_wp2_with fail
    go_ret
    exact ⟨none, 0, rfl, OwnR.nil _ _ _, Below.refl _ _⟩
  | some ad =>
    by_cases hl0 : l = []
    · subst hl0
      clear hv1
      have HA : Hid (∀ (j : Nat) (u : Value), (([] : List (Sb × Value)).flatMap encS)[j]? = some u → w.cell? (ad.add j) = some u) := Lib.hid (fun j u h => by simp at h)
      dsimp only [List.length_nil]
      go_enter Tryz.func53, Tryz.ntmps53
      go_wp2_with fail
      go_ret
      exact ⟨_, _, rfl, OwnR.made w 58, (Below.refl w.heap.size w).alloc (Nat.le_refl _) _⟩
    obtain ⟨b, off, had, -, hC⟩ := hv1 hl0
    obtain rfl := Option.some.inj had
    have HA : Hid (∀ (j : Nat) (u : Value), (l.flatMap encS)[j]? = some u → w.cell? ⟨b, off + j, none⟩ = some u) := Lib.hid (flat_cell encS_len l (fun j => w.cell? ⟨b, off + j, none⟩) (fun i hi j v hv => by have := hC i hi j v hv; rwa [Nat.add_assoc] at this))
    clear hv1 hC
    go_enter Tryz.func53, Tryz.ntmps53
    go_wp2_with (first | (at_builtin; refine wpList_appL rfl _ _ 25 rfl w.heap.size 58 i0 (.agg #[.int .i64 0, .int .i64 0, .bool false, .slice none 0 0]) 48 Tryz.underlying25 hi hz0 hz1 hz2 rfl (by decide) (by decide) (some ⟨w.heap.size, 0, none⟩) 0 0 [] rfl _ l b off c encS_len (fun j u hu => Lib.cell?_alloc_some _ (HA.out j u hu)) H1.out rfl (OwnR.made w 58) rfl (by have := HN.out; simp; omega) (by simp) ?_; intro p1 c1 w3 hO3 hb3; have HO3 := Lib.hid hO3; have HB3 := Lib.hid hb3; clear hO3 hb3))
    go_ret
    refine ⟨p1, c1, by simp, by simpa using HO3.out, ?_⟩
    exact ((Below.refl w.heap.size w).alloc (Nat.le_refl _) _).trans HB3.out

set_option maxRecDepth 100000 in
set_option maxHeartbeats 2000000 in
theorem cl_moth (nu pr : Int) (inh : Bool) (w : World) (xp : Option Addr) (xn xc : Nat) (ns : List Int) (lp : Option Addr) (lc : Nat) (g : Nat) (hg : Blk w g 97 #[.slice lp ns.length lc]) (hl : IntsAt w (.slice lp ns.length lc) ns) (hn : ns.length ≤ 1000000) :
    Calls Tryz.prog 54 #[.agg #[.int .i64 nu, .int .i64 pr, .bool (inh), .slice xp xn xc], .pointer (some ⟨g, 0, none⟩)] w fun e w' => e = .returned (.bool (!(ns.contains nu))) ∧ Below w.heap.size w w' := by
  have HB := Lib.hid ((Below.refl w.heap.size w).alloc (Nat.le_refl _) (.cells #[.int .i64 nu, .int .i64 pr, .bool (inh), .slice xp xn xc] 58))
  have HX := Lib.hid (Blk.new w 58 #[.int .i64 nu, .int .i64 pr, .bool (inh), .slice xp xn xc])
  have HG := Lib.hid (hg.alloc (.cells #[.int .i64 nu, .int .i64 pr, .bool (inh), .slice xp xn xc] 58))
  have HL := Lib.hid (IntsAt.below hl ((Below.refl w.heap.size w).alloc (Nat.le_refl _) (.cells #[.int .i64 nu, .int .i64 pr, .bool (inh), .slice xp xn xc] 58)))
  have hct := fun W (h : IntsAt W (.slice lp ns.length lc) ns) => int_contains nu ns (.slice lp ns.length lc) W h hn
  clear hg hl hn
  generalize ns.contains nu = bb at *
  have HCT := Lib.hid hct; clear hct
  obtain ⟨x0, x1, x2, x3, xf0, xf1, xf2, xf3⟩ := HX.out.c4
  obtain ⟨g0, gf0⟩ := HG.out.c1
  go_enter Tryz.func54, Tryz.ntmps54
  go_wp2_with (with_reducible refine ((HCT.out _ HL.out).mono ?_); rintro e w' ⟨rfl, hb⟩; replace HX := Lib.hid (HX.out.keep hb); clear x0 x1 x2 x3 xf0 xf1 xf2 xf3; replace HG := Lib.hid (HG.out.keep hb); clear g0 gf0; replace HB := Lib.hid (bch' HB.out hb); clear hb; obtain ⟨x0, x1, x2, x3, xf0, xf1, xf2, xf3⟩ := HX.out.c4; obtain ⟨g0, gf0⟩ := HG.out.c1)
  go_ret
  exact ⟨rfl, HB.out⟩

set_option maxRecDepth 100000 in
set_option maxHeartbeats 16000000 in
theorem law_others (fr : Txt) (tz st ti : Int) (bl : Bool) (sv fv : Value) (su : List Sb) (fd : List Fdr) (ch : Int) (t : Int) (w : World) (hl0 : fr.length ≤ 9223372036854775807) (hs : SbsAt w sv su) (hf : FdsAt w fv fd) (ch0 : -9223372036854775808 ≤ ch) (ch1 : ch ≤ 9223372036854775807) (t0 : -9223372036854775808 ≤ t) (t1 : t ≤ 9223372036854775807) (env : Env w) :
    Calls Tryz.prog 11 #[.agg #[.string ⟨(fr).toArray⟩, .int .i64 tz, .int .i64 st, .int .i64 ti, .bool (bl), sv, fv], .int .i64 ch, .int .i64 t] w fun e w' => e = .returned (.bool (true)) ∧ Below w.heap.size w w' := by
  obtain ⟨ps, zs, rfl⟩ : ∃ ps zs, sv = .slice ps su.length zs := by obtain ⟨a, b, e, -⟩ := hs; exact ⟨a, b, e⟩
  obtain ⟨pf, zf, rfl⟩ : ∃ pf zf, fv = .slice pf fd.length zf := by obtain ⟨a, b, e, -⟩ := hf; exact ⟨a, b, e⟩
  have ENV := Lib.hid env; clear env
  have HS0 := Lib.hid hs
  have HF0 := Lib.hid hf
  have hal := (Below.refl w.heap.size w).alloc (Nat.le_refl _) (.cells #[.string ⟨(fr).toArray⟩, .int .i64 tz, .int .i64 st, .int .i64 ti, .bool (bl), (.slice ps su.length zs), (.slice pf fd.length zf)] 28)
  have HS := Lib.hid (SbsAt.kept hs hal)
  have HF := Lib.hid (FdsAt.kept hf hal)
  have HB := Lib.hid hal
  clear hal hs hf
  have HK := Lib.hid (Blk.new w 28 #[.string ⟨(fr).toArray⟩, .int .i64 tz, .int .i64 st, .int .i64 ti, .bool (bl), (.slice ps su.length zs), (.slice pf fd.length zf)])
  obtain ⟨k0, k1, k2, k3, k4, k5, k6, kf0, kf1, kf2, kf3, kf4, kf5, kf6⟩ := HK.out.c7
  have haw := fun W (e : Env W) => l30_awake W e
  have hri := fun W (h1 : SbsAt W (.slice ps su.length zs) su) (h2 : FdsAt W (.slice pf fd.length zf) fd) => l30_right tz st ti bl fr (.slice ps su.length zs) (.slice pf fd.length zf) su fd ch W h1 h2
  have HAW := Lib.hid haw; clear haw
  have HRI := Lib.hid hri; clear hri
  go_enter Tryz.func11, Tryz.ntmps11
  go_wp2_with fail
  refine ((HRI.out _ HS.out HF.out).mono ?_)
  rintro e w2 ⟨b1, rfl, hq, hb⟩
  replace HK := Lib.hid (HK.out.keep hb); clear k0 k1 k2 k3 k4 k5 k6 kf0 kf1 kf2 kf3 kf4 kf5 kf6; replace HS := Lib.hid (SbsAt.kept HS.out hb); replace HF := Lib.hid (FdsAt.kept HF.out hb); replace HB := Lib.hid (bch' HB.out hb); clear hb; obtain ⟨k0, k1, k2, k3, k4, k5, k6, kf0, kf1, kf2, kf3, kf4, kf5, kf6⟩ := HK.out.c7
  cases b1
  · go_wp2_with (first | (with_reducible refine ((HAW.out _ (ENV.out.below HB.out)).mono ?_); rintro e w' ⟨rfl, hb⟩; replace HK := Lib.hid (HK.out.keep hb); clear k0 k1 k2 k3 k4 k5 k6 kf0 kf1 kf2 kf3 kf4 kf5 kf6; replace HS := Lib.hid (SbsAt.kept HS.out hb); replace HF := Lib.hid (FdsAt.kept HF.out hb); replace HB := Lib.hid (bch' HB.out hb); clear hb; obtain ⟨k0, k1, k2, k3, k4, k5, k6, kf0, kf1, kf2, kf3, kf4, kf5, kf6⟩ := HK.out.c7))
    go_ret
    exact ⟨rfl, HB.out⟩
  · obtain ⟨hz, hx, hl⟩ := hq rfl
    clear hq
    obtain ⟨hm, hc0, hc1⟩ := onE_zero hz
    obtain ⟨m1, m2, m3⟩ := maE_zero hm
    have tok := tabOk m2
    have h16 := tok.few
    have hin := fun W (h1 : SbsAt W (.slice ps su.length zs) su) (h2 : FdsAt W (.slice pf fd.length zf) fd) (e : Env W) => own_minhib_ok tz st ti bl fr (.slice ps su.length zs) (.slice pf fd.length zf) su fd ch W h1 h2 hx hl hz e
    have hfa := fun W (h1 : SbsAt W (.slice ps su.length zs) su) (h2 : FdsAt W (.slice pf fd.length zf) fd) (e : Env W) => own_mfactor_ok tz st ti bl fr (.slice ps su.length zs) (.slice pf fd.length zf) su fd ch t W h1 h2 hx hl hz e
    have hz2 : onE fr tz st ti (actL su ch) fd ch = 0 := onE_ok (by rw [maE_fac m1 (act_tab ch tok)]; exact m3) (by omega)
    have hfb := fun v W (h1 : SbsAt W v (actL su ch)) (h2 : FdsAt W (.slice pf fd.length zf) fd) (e : Env W) => own_mfactor_ok tz st ti bl fr v (.slice pf fd.length zf) (actL su ch) fd ch t W h1 h2 hx hl hz2 e
    simp only [facQ_act] at hfb
    generalize showR (facQ (mainQ fr tz st ti bl t) su fd ch t su.length) = tf at *
    obtain ⟨L, hL1, hL2, hL3⟩ := subs_rows HS0.out
    have hLl := maps_len hL1
    have hAl := actN_len su ch
    have h17 : (actN su ch).length ≤ 16 := by rw [hAl]; exact Nat.le_trans (List.length_filter_le _ _) h16
    have hso := fun v W (h : IntsAt W v (actN su ch)) => int_sorted (actN su ch) v W h (by omega) (pair_step (act_sorted tok))
    have hfm : (L.filter fun x => !(!((actN su ch).contains x.1.nu))).map (·.1) = (actL su ch) := (filt_map hL1 (fun s => (actN su ch).contains s.nu)).trans (oth_filter tok)
    have HFM := Lib.hid hfm; have HL2 := Lib.hid hL2; have HL3 := Lib.hid hL3; have HLL := Lib.hid hLl; have HAL := Lib.hid hAl; have H16 := Lib.hid h16; have H17 := Lib.hid h17
    clear hfm hL1 hL2 hL3 hLl hAl hz hz2 hx hl hm hc0 hc1 m1 m2 m3 tok h16 h17
    have HIN := Lib.hid hin; clear hin
    have HFA := Lib.hid hfa; clear hfa
    have HFB := Lib.hid hfb; clear hfb
    have HSO := Lib.hid hso; clear hso
    go_upto_region 3 with fail
    go_wp2_with fail
    refine ((HIN.out _ HS.out HF.out (ENV.out.below HB.out)).mono ?_)
    rintro e w3 ⟨p1, c1, rfl, hi, hb⟩
    have HI := Lib.hid hi; clear hi
    replace HK := Lib.hid (HK.out.keep hb); clear k0 k1 k2 k3 k4 k5 k6 kf0 kf1 kf2 kf3 kf4 kf5 kf6; replace HS := Lib.hid (SbsAt.kept HS.out hb); replace HF := Lib.hid (FdsAt.kept HF.out hb); replace HB := Lib.hid (bch' HB.out hb); clear hb; obtain ⟨k0, k1, k2, k3, k4, k5, k6, kf0, kf1, kf2, kf3, kf4, kf5, kf6⟩ := HK.out.c7
    have hal := (Below.refl w3.heap.size w3).alloc (Nat.le_refl _) (.cells #[.slice p1 (actN su ch).length c1] 97)
    replace HK := Lib.hid (HK.out.keep hal)
    replace HS := Lib.hid (SbsAt.kept HS.out hal); replace HF := Lib.hid (FdsAt.kept HF.out hal); replace HI := Lib.hid (IntsAt.below HI.out hal)
    replace HB := Lib.hid (bch' HB.out hal)
    clear hal
    have HL := Lib.hid (Blk.new w3 97 #[.slice p1 (actN su ch).length c1])
    go_upto_region 4 with fail
    clear k0 k1 k2 k3 k4 k5 k6 kf0 kf1 kf2 kf3 kf4 kf5 kf6
    generalize w3.alloc (.cells #[.slice p1 (actN su ch).length c1] 97) = w4 at *
    obtain ⟨k0, k1, k2, k3, k4, k5, k6, kf0, kf1, kf2, kf3, kf4, kf5, kf6⟩ := HK.out.c7
    obtain ⟨l0, lf0⟩ := HL.out.c1
    go_upto_region 7 with (first | (with_reducible refine ((HFA.out _ HS.out HF.out (ENV.out.below HB.out)).mono ?_); rintro e w' ⟨rfl, hb⟩; replace HK := Lib.hid (HK.out.keep hb); clear k0 k1 k2 k3 k4 k5 k6 kf0 kf1 kf2 kf3 kf4 kf5 kf6; replace HL := Lib.hid (HL.out.keep hb); clear l0 lf0; replace HS := Lib.hid (SbsAt.kept HS.out hb); replace HF := Lib.hid (FdsAt.kept HF.out hb); replace HI := Lib.hid (IntsAt.below HI.out hb); replace HB := Lib.hid (bch' HB.out hb); clear hb; obtain ⟨k0, k1, k2, k3, k4, k5, k6, kf0, kf1, kf2, kf3, kf4, kf5, kf6⟩ := HK.out.c7; obtain ⟨l0, lf0⟩ := HL.out.c1))
    have hal := (Below.refl w'.heap.size w').alloc (Nat.le_refl _) (.cells #[.string ⟨(fr).toArray⟩, .int .i64 tz, .int .i64 st, .int .i64 ti, .bool (bl), (.slice ps su.length zs), (.slice pf fd.length zf)] 28)
    have HGN : Hid (w.heap.size < w'.heap.size ∧ w3.heap.size < w'.heap.size) := Lib.hid ⟨HK.out.lt, HL.out.lt⟩
    have HI5 : Hid (∀ W2, Below w'.heap.size w' W2 → IntsAt W2 (.slice p1 (actN su ch).length c1) (actN su ch)) := Lib.hid (fun W2 h => IntsAt.below HI.out h)
    have HBN := Lib.hid ((Below.refl w'.heap.size w').alloc (Nat.le_refl _) (.cells #[.string ⟨(fr).toArray⟩, .int .i64 tz, .int .i64 st, .int .i64 ti, .bool (bl), (.slice ps su.length zs), (.slice pf fd.length zf)] 28))
    replace HK := Lib.hid (HK.out.keep hal); replace HL := Lib.hid (HL.out.keep hal)
    replace HS := Lib.hid (SbsAt.kept HS.out hal); replace HF := Lib.hid (FdsAt.kept HF.out hal); replace HI := Lib.hid (IntsAt.below HI.out hal)
    replace HB := Lib.hid (bch' HB.out hal)
    clear hal
    have HN := Lib.hid (Blk.new w' 28 #[.string ⟨(fr).toArray⟩, .int .i64 tz, .int .i64 st, .int .i64 ti, .bool (bl), (.slice ps su.length zs), (.slice pf fd.length zf)])
    go_upto_region 8 with fail
    clear k0 k1 k2 k3 k4 k5 k6 kf0 kf1 kf2 kf3 kf4 kf5 kf6
    clear l0 lf0
    have HGS : Hid (w'.heap.size < (w'.alloc (.cells #[.string ⟨(fr).toArray⟩, .int .i64 tz, .int .i64 st, .int .i64 ti, .bool (bl), (.slice ps su.length zs), (.slice pf fd.length zf)] 28)).heap.size) := Lib.hid (by simp)
    generalize w'.alloc (.cells #[.string ⟨(fr).toArray⟩, .int .i64 tz, .int .i64 st, .int .i64 ti, .bool (bl), (.slice ps su.length zs), (.slice pf fd.length zf)] 28) = w6 at *
    generalize w'.heap.size = GN at *
    generalize w3.heap.size = GL at *
    obtain ⟨k0, k1, k2, k3, k4, k5, k6, kf0, kf1, kf2, kf3, kf4, kf5, kf6⟩ := HK.out.c7
    obtain ⟨l0, lf0⟩ := HL.out.c1
    obtain ⟨n0, n1, n2, n3, n4, n5, n6, nf0, nf1, nf2, nf3, nf4, nf5, nf6⟩ := HN.out.c7
    go_wp2_with fail
    have hclo := own_sclone w6 L ps zs (RowX.kept HL3.out HB.out) (HasG.one HL2.out) (by have := HLL.out; have := H16.out; omega)
    rw [HLL.out] at hclo
    refine (hclo.mono ?_)
    rintro e w7 ⟨p2, c2, rfl, ho, hb⟩
    clear hclo
    have HO := Lib.hid ho; clear ho
    have HB67 := Lib.hid hb
    have hd := sbm_delete 54 (.pointer (some ⟨GL, 0, none⟩)) L (fun x => !((actN su ch).contains x.1.nu)) p2 c2 w6.heap.size w7 HO.out HB67.out.size (by have := HLL.out; have := H16.out; omega) (HasG.sl HL2.out) (fun _ _ => by kernel_rfl) (fun x hx W hW => by obtain ⟨xp, xn, xc, hx2⟩ := HasG.sl HL2.out x hx; rw [hx2]; exact cl_moth x.1.nu x.1.pr x.1.inh W xp xn xc (actN su ch) p1 c1 GL ((HL.out.keep HB67.out).below hW HL.out.lt) (IntsAt.below HI.out (HB67.out.trans hW)) (by have := H17.out; omega))
    try dsimp only at hd
    rw [HLL.out, maps_len HFM.out] at hd
    have HD := Lib.hid hd; clear hd
    clear k0 k1 k2 k3 k4 k5 k6 kf0 kf1 kf2 kf3 kf4 kf5 kf6
    clear l0 lf0
    clear n0 n1 n2 n3 n4 n5 n6 nf0 nf1 nf2 nf3 nf4 nf5 nf6
    go_upto_region 9 with (first | ((with_reducible refine (HD.out.mono ?_)); rintro e w8 ⟨p3, c3, rfl, ho2, hb⟩; have HO2 := Lib.hid ho2; have HB68 := Lib.hid (HB67.out.trans hb); clear ho2 hb; replace HK := Lib.hid (HK.out.keep HB68.out); replace HL := Lib.hid (HL.out.keep HB68.out); replace HN := Lib.hid (HN.out.keep HB68.out); replace HB := Lib.hid (bch' HB.out HB68.out); obtain ⟨n0, n1, n2, n3, n4, n5, n6, nf0, nf1, nf2, nf3, nf4, nf5, nf6⟩ := HN.out.c7))
    have HN9 := Lib.hid (HN.out.set_ 5 (.slice p3 (actL su ch).length c3))
    have HK9 := Lib.hid (HK.out.far (p := ⟨GN, 5, none⟩) (Nat.ne_of_lt HGN.out.1) (.slice p3 (actL su ch).length c3))
    have HL9 := Lib.hid (HL.out.far (p := ⟨GN, 5, none⟩) (Nat.ne_of_lt HGN.out.2) (.slice p3 (actL su ch).length c3))
    have HB9 := Lib.hid (HB.out.setCell (p := ⟨GN, 5, none⟩) (Nat.le_of_lt HGN.out.1) (.slice p3 (actL su ch).length c3))
    have HBN9 := Lib.hid ((HBN.out.trans (HB68.out.mono (Nat.le_of_lt HGS.out))).setCell (p := ⟨GN, 5, none⟩) (Nat.le_refl _) (.slice p3 (actL su ch).length c3))
    have HO9 : Hid (OwnR encS 4 w6.heap.size 58 (w8.setCell ⟨GN, 5, none⟩ (.slice p3 (actL su ch).length c3)) p3 c3 (L.filter fun x => !(!((actN su ch).contains x.1.nu)))) := Lib.hid (HO2.out.far fun g hg => Below.heap_setCell _ _ _ g (by have := HGS.out; show g ≠ GN; omega))
    clear n0 n1 n2 n3 n4 n5 n6 nf0 nf1 nf2 nf3 nf4 nf5 nf6
    clear HN HK HL HB HBN HO2 HS HF HI HB67 HB68
    generalize w8.setCell ⟨GN, 5, none⟩ (.slice p3 (actL su ch).length c3) = w9 at *
    have HS := Lib.hid (SbsAt.kept HS0.out HB9.out)
    have HF := Lib.hid (FdsAt.kept HF0.out HB9.out)
    have HI := Lib.hid (HI5.out _ HBN9.out)
    have hsa := OwnR.subs HO9.out ((HasG.kept HL2.out HB9.out).filt _)
    rw [HFM.out, maps_len HFM.out] at hsa
    have HSA := Lib.hid hsa
    clear hsa HO9
    have HK : Hid (Blk w9 w.heap.size 28 #[.string ⟨(fr).toArray⟩, .int .i64 tz, .int .i64 st, .int .i64 ti, .bool (bl), (.slice ps su.length zs), (.slice pf fd.length zf)]) := HK9; have HL := HL9; have HB := HB9
    have HN : Hid (Blk w9 GN 28 #[.string ⟨(fr).toArray⟩, .int .i64 tz, .int .i64 st, .int .i64 ti, .bool (bl), .slice p3 (actL su ch).length c3, (.slice pf fd.length zf)]) := HN9
    clear HK9 HL9 HB9 HN9
    obtain ⟨n0, n1, n2, n3, n4, n5, n6, nf0, nf1, nf2, nf3, nf4, nf5, nf6⟩ := HN.out.c7
    obtain ⟨l0, lf0⟩ := HL.out.c1
    have he1 : (((actL su ch).length : Int) == ((actN su ch).length : Int)) = true := by rw [HAL.out]; simp
    have he2 : ((actL su ch).length == (actN su ch).length) = true := by rw [HAL.out]; simp
    go_wp2_with (first | (with_reducible refine ((HFB.out _ _ HSA.out HF.out (ENV.out.below HB.out)).mono ?_); rintro e w' ⟨rfl, hb⟩; replace HN := Lib.hid (HN.out.keep hb); clear n0 n1 n2 n3 n4 n5 n6 nf0 nf1 nf2 nf3 nf4 nf5 nf6; replace HL := Lib.hid (HL.out.keep hb); clear l0 lf0; replace HS := Lib.hid (SbsAt.kept HS.out hb); replace HF := Lib.hid (FdsAt.kept HF.out hb); replace HI := Lib.hid (IntsAt.below HI.out hb); replace HB := Lib.hid (bch' HB.out hb); clear hb; obtain ⟨n0, n1, n2, n3, n4, n5, n6, nf0, nf1, nf2, nf3, nf4, nf5, nf6⟩ := HN.out.c7; obtain ⟨l0, lf0⟩ := HL.out.c1) | (with_reducible refine ((HSO.out _ _ HI.out).mono ?_); rintro e w' ⟨rfl, hb⟩; replace HN := Lib.hid (HN.out.keep hb); clear n0 n1 n2 n3 n4 n5 n6 nf0 nf1 nf2 nf3 nf4 nf5 nf6; replace HL := Lib.hid (HL.out.keep hb); clear l0 lf0; replace HS := Lib.hid (SbsAt.kept HS.out hb); replace HF := Lib.hid (FdsAt.kept HF.out hb); replace HI := Lib.hid (IntsAt.below HI.out hb); replace HB := Lib.hid (bch' HB.out hb); clear hb; obtain ⟨n0, n1, n2, n3, n4, n5, n6, nf0, nf1, nf2, nf3, nf4, nf5, nf6⟩ := HN.out.c7; obtain ⟨l0, lf0⟩ := HL.out.c1) | (with_reducible refine ((HAW.out _ (ENV.out.below HB.out)).mono ?_); rintro e w' ⟨rfl, hb⟩; replace HN := Lib.hid (HN.out.keep hb); clear n0 n1 n2 n3 n4 n5 n6 nf0 nf1 nf2 nf3 nf4 nf5 nf6; replace HL := Lib.hid (HL.out.keep hb); clear l0 lf0; replace HS := Lib.hid (SbsAt.kept HS.out hb); replace HF := Lib.hid (FdsAt.kept HF.out hb); replace HI := Lib.hid (IntsAt.below HI.out hb); replace HB := Lib.hid (bch' HB.out hb); clear hb; obtain ⟨n0, n1, n2, n3, n4, n5, n6, nf0, nf1, nf2, nf3, nf4, nf5, nf6⟩ := HN.out.c7; obtain ⟨l0, lf0⟩ := HL.out.c1))
    go_ret
    exact ⟨rfl, HB.out⟩
end Go.Proofs.YtkjelfmgnkkijaaGreatDoor

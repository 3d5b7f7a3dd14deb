/-
  slices.IndexFunc and DeleteFunc at faders. The law SubmasterContinues.
-/
import Derived.Test.YtkjelfmgnkkijaaGreatDoorDl
import Derived.Test.YtkjelfmgnkkijaaGreatDoorSc
import Derived.Test.YtkjelfmgnkkijaaGreatDoorSi
import Derived.Test.YtkjelfmgnkkijaaGreatDoorSd
import Derived.Outline
import Derived.Deep.Cut
import Derived.Deep.DeepCutAuto
set_option linter.unusedVariables false
set_option linter.unusedSimpArgs false
namespace Go.Proofs.YtkjelfmgnkkijaaGreatDoor
open Go.RowKit Go.Shelf Lum
open Go.Lib (decDigits itoa)
attribute [local go_sem] bs_get bs_extract_end bs_extract_from bs_extract bs_append

set_option maxRecDepth 100000 in
set_option maxHeartbeats 4000000 in
theorem fdr_index (M : FuncId) (fv : Value) (l : List Fdr) (pr : Fdr → Bool) (pp : Option Addr) (cc base : Nat) (w : World) (hR : RowX encF 6 w pp l) (hbase : base ≤ w.heap.size) (hn : l.length ≤ 1000000) (hF : ∀ args w, (callFunc M args).run Tryz.prog w = .ok (.enter M args) w)
    (hcm : ∀ x ∈ l, ∀ W, Below base w W → Calls Tryz.prog M #[.agg #[.int .i64 x.su, .string ⟨(x.fr).toArray⟩, .int .i64 x.tz, .int .i64 x.st, .int .i64 x.ti, .int .i64 x.stp], fv] W fun e w' => e = .returned (.bool (pr x)) ∧ Below W.heap.size W w') :
    Calls Tryz.prog 127 #[.slice pp l.length cc, .func (.func M) #[] #[fv]] w fun e w' => e = .returned (.int .i64 (ixOf pr l)) ∧ Below w.heap.size w w' := by
  have hv2 := Lib.hid hR; clear hR
  have hcc := Lib.hid hcm; clear hcm
  have HB := Lib.hid (Below.refl w.heap.size w)
  go_enter Tryz.func127, Tryz.ntmps127
  go_wp2_with fail
  go_loopw [8] (fun s8 wr => ∃ i r : Nat, s8 = .int .i64 (i : Int) ∧ Hid (i + r = l.length) ∧ Hid (Below w.heap.size w wr) ∧ Hid (∀ j (hj : j < l.length), j < i → pr (l[j]'hj) = false)) (fun s8 _ => l.length - (intOf s8).toNat)
  case atStart => exact ⟨0, l.length, rfl, Lib.hid (by omega), HB, Lib.hid (fun j hj h => absurd h (Nat.not_lt_zero _))⟩
  case round =>
    clear HB
    obtain ⟨i, r, rfl, hkr, HB, HN⟩ := hrel
    cases r with
    | zero =>
      have hlt : ¬ (i : Int) < (l.length : Int) := by have := hkr.out; omega
      have HR : Hid (ixOf pr l = -1) := Lib.hid (ixOf_no fun j hj => HN.out j hj (by have := hkr.out; omega))
      go_wp2_with fail
      go_ret
      exact ⟨by rw [HR.out]; rfl, HB.out⟩
    | succ r =>
      have hkl : i < l.length := by have := hkr.out; omega
      have hlt : (i : Int) < (l.length : Int) := by omega
      have hi0 : (0 : Int) ≤ (i : Int) := by omega
      have hun : IntKind.i64.wrap ((i : Int) + 1) = (i : Int) + 1 := IntWalk.i64_in _ (by omega)
      obtain ⟨b, o, rfl, hb, hC⟩ := hv2.out (fun h => by subst h; exact absurd hkl (Nat.not_lt_zero _))
      obtain ⟨x, hx⟩ : ∃ x, x = l[i]'hkl := ⟨_, rfl⟩
      have hcell := hC i hkl
      rw [← hx] at hcell
      have x0 : wr.cell? ⟨b, o + i * 6, none⟩ = some (.int .i64 x.su) := (HB.out.cell (p := ⟨b, o + i * 6 + 0, none⟩) hb).trans (hcell 0 _ rfl)
      have x1 : wr.cell? ⟨b, o + i * 6 + 1, none⟩ = some (.string ⟨(x.fr).toArray⟩) := (HB.out.cell (p := ⟨b, o + i * 6 + 1, none⟩) hb).trans (hcell 1 _ rfl)
      have x2 : wr.cell? ⟨b, o + i * 6 + 2, none⟩ = some (.int .i64 x.tz) := (HB.out.cell (p := ⟨b, o + i * 6 + 2, none⟩) hb).trans (hcell 2 _ rfl)
      have x3 : wr.cell? ⟨b, o + i * 6 + 3, none⟩ = some (.int .i64 x.st) := (HB.out.cell (p := ⟨b, o + i * 6 + 3, none⟩) hb).trans (hcell 3 _ rfl)
      have x4 : wr.cell? ⟨b, o + i * 6 + 4, none⟩ = some (.int .i64 x.ti) := (HB.out.cell (p := ⟨b, o + i * 6 + 4, none⟩) hb).trans (hcell 4 _ rfl)
      have x5 : wr.cell? ⟨b, o + i * 6 + 5, none⟩ = some (.int .i64 x.stp) := (HB.out.cell (p := ⟨b, o + i * 6 + 5, none⟩) hb).trans (hcell 5 _ rfl)
      have hcm := hcc.out x (by rw [hx]; exact List.getElem_mem hkl)
      have HBB := Lib.hid (HB.out.mono hbase)
      have hbr : b < wr.heap.size := by have := HB.out.size; omega
      have hlo : i * 6 < 9223372036854775807 := by omega
      have HXE := Lib.hid hx
      have HCM0 := Lib.hid hcm
      clear hC hcell hb hx hcm
      cases hpx : pr x
      · have HN2 : Hid (∀ j (hj : j < l.length), j < i + 1 → pr (l[j]'hj) = false) := Lib.hid (fun j hj h => by by_cases e : j = i; (subst e; rw [← HXE.out]; exact hpx); exact HN.out j hj (by omega))
        have hcm := HCM0.out
        rw [hpx] at hcm
        clear hpx
        have HCM := Lib.hid hcm; clear hcm
        go_wp2_with (first | (with_reducible refine ((HCM.out _ HBB.out).mono ?_); rintro e w' ⟨rfl, hb⟩; replace HB := Lib.hid (bch' HB.out hb); clear hb))
        go_roundw
        case rel => exact ⟨i + 1, r, by first | rfl | simp, Lib.hid (by have := hkr.out; omega), HB, HN2⟩
        case measure => first | (simp [intOf]; done) | (simp [intOf]; omega)
      · have HR : Hid (ixOf pr l = (i : Int)) := Lib.hid (ixOf_at hkl (by rw [← HXE.out]; exact hpx) (fun j hj => HN.out j (by omega) hj))
        have hcm := HCM0.out
        rw [hpx] at hcm
        clear hpx
        have HCM := Lib.hid hcm; clear hcm
        go_wp2_with (first | (with_reducible refine ((HCM.out _ HBB.out).mono ?_); rintro e w' ⟨rfl, hb⟩; replace HB := Lib.hid (bch' HB.out hb); clear hb))
        go_ret
        exact ⟨by rw [HR.out]; rfl, HB.out⟩

set_option maxRecDepth 100000 in
set_option maxHeartbeats 8000000 in
theorem fdr_delete (M : FuncId) (fv : Value) (l : List Fdr) (pr : Fdr → Bool) (pp : Option Addr) (cc base : Nat) (w : World) (hO : OwnR encF 6 base 108 w pp cc l) (hbase : base ≤ w.heap.size) (hn : l.length ≤ 1000000) (hF : ∀ args w, (callFunc M args).run Tryz.prog w = .ok (.enter M args) w)
    (hcm : ∀ x ∈ l, ∀ W, Below base w W → Calls Tryz.prog M #[.agg #[.int .i64 x.su, .string ⟨(x.fr).toArray⟩, .int .i64 x.tz, .int .i64 x.st, .int .i64 x.ti, .int .i64 x.stp], fv] W fun e w' => e = .returned (.bool (pr x)) ∧ Below W.heap.size W w') :
    Calls Tryz.prog 60 #[.slice pp l.length cc, .func (.func M) #[] #[fv]] w fun e w' => ∃ pp' cc', e = .returned (.slice pp' (l.filter fun x => !pr x).length cc') ∧ OwnR encF 6 base 108 w' pp' cc' (l.filter fun x => !pr x) ∧ Below base w w' := by
  have hix := fdr_index M fv l pr pp cc base w (hO.row encF_len) hbase hn hF hcm
  have hcc := Lib.hid hcm; clear hcm
  have HO := Lib.hid hO; clear hO
  have HB := Lib.hid (Below.refl w.heap.size w)
  rcases first_ix pr l with hall | ⟨i, hil, hpi, hbef⟩
  · rw [ixOf_no hall] at hix
    have HE := Lib.hid (kep_none hall)
    clear hall
    have HIX := Lib.hid hix; clear hix
    go_enter Tryz.func60, Tryz.ntmps60
    go_wp2_with (first | (with_reducible refine ((HIX.out).mono ?_); rintro e w' ⟨rfl, hb⟩; replace HB := Lib.hid (bch' HB.out hb); replace HO := Lib.hid (HO.out.keep hb); clear hb))
    go_ret
    exact ⟨pp, cc, by rw [HE.out]; rfl, by rw [HE.out]; exact HO.out, HB.out.mono hbase⟩
  · rw [ixOf_at hil hpi hbef] at hix
    have hne : (((i : Nat) : Int) == -1) = false := by rw [beq_eq_false_iff_ne]; omega
    have HPI := Lib.hid hpi
    have HKF := Lib.hid (kep_first hil hpi hbef)
    clear hpi hbef
    obtain ⟨g, cur0, rfl, hgb, -⟩ := HO.out.to_blk (fun h => by subst h; exact absurd hil (Nat.not_lt_zero _))
    have HGB := Lib.hid hgb; clear hgb
    have HIX := Lib.hid hix; clear hix
    have hun0 : IntKind.i64.wrap ((i : Int) + 1) = (i : Int) + 1 := IntWalk.i64_in _ (by omega)
    go_enter Tryz.func60, Tryz.ntmps60
    go_wp2_with (first | (with_reducible refine ((HIX.out).mono ?_); rintro e w' ⟨rfl, hb⟩; replace HB := Lib.hid (bch' HB.out hb); replace HO := Lib.hid (HO.out.keep hb); clear hb))
    go_loopw [5, 6] (fun s5 s6 wr => ∃ j r : Nat, s5 = .int .i64 ((kepL pr l j).length : Int) ∧ s6 = .int .i64 (j : Int) ∧ Hid (j + r = l.length) ∧ Hid (i < j) ∧ Hid (Below base w wr) ∧ Hid (OwnR encF 6 base 108 wr (some ⟨g, 0, none⟩) cc ((kepL pr l j) ++ l.drop (kepL pr l j).length))) (fun _ s6 _ => l.length - (intOf s6).toNat)
    case atStart => exact ⟨i + 1, l.length - (i + 1), by rw [HKF.out, List.length_take, Nat.min_eq_left (by omega)], by first | rfl | simp, Lib.hid (by omega), Lib.hid (by omega), Lib.hid (HB.out.mono hbase), Lib.hid (by rw [HKF.out, List.length_take, Nat.min_eq_left (by omega), List.take_append_drop]; exact HO.out)⟩
    case round =>
      clear HB HO
      obtain ⟨j, r, rfl, rfl, hkr, hij, HB, HO⟩ := hrel
      cases r with
      | zero =>
        obtain rfl : j = l.length := by have := hkr.out; omega
        have hlt : ¬ (l.length : Int) < (l.length : Int) := by omega
        have hm1 := kep_lt hil HPI.out _ hij.out (Nat.le_refl _)
        have HE : Hid ((kepL pr l l.length) = l.filter fun x => !pr x) := Lib.hid (kep_end pr l)
        obtain ⟨g2, cur, hp, hg2, hbk, hc1, hc2, hc3, hc4⟩ := HO.out.to_blk (fun e => by have h := congrArg List.length e; rw [kept_len (by omega)] at h; have h2 : l.length = 0 := h; omega)
        obtain rfl : g = g2 := by have := Option.some.inj hp; injection this
        rw [kept_len (by omega)] at hc1
        have hKR : (l.drop (kepL pr l l.length).length).length = l.length - (kepL pr l l.length).length := List.length_drop
        obtain ⟨w4, cs, hclr, hcl, hbk2, hbl2⟩ := clearK (P := Tryz.prog) wr 26 108 (.agg #[.int .i64 0, .string ⟨#[]⟩, .int .i64 0, .int .i64 0, .int .i64 0, .int .i64 0]) 6 g ((kepL pr l l.length).length * 6) (l.length - (kepL pr l l.length).length) (cc - (kepL pr l l.length).length) cur Tryz.underlying26 (fun _ => by kernel_rfl) rfl (by decide) hbk (by omega) (by rw [hc3, ← Nat.add_mul]; exact Nat.mul_le_mul_right _ (by omega))
        have HFI : Hid (OwnR encF 6 base 108 w4 (some ⟨g, 0, none⟩) cc (kepL pr l l.length)) := Lib.hid (OwnR.cut (R := l.drop (kepL pr l l.length).length) encF_len hg2 (by rw [kept_len (by omega)]; exact hc1) hc2 hc3 (by have h := hc4; rw [kept_len (by omega)] at h ⊢; exact h) (by rw [hKR]; exact hcl) hbk2)
        have HCL := Lib.hid hclr; have HB4 : Hid (Below base w w4) := Lib.hid (HB.out.trans (hbl2 base hg2))
        have hcap : ¬ cc = (kepL pr l l.length).length := by omega
        have hcc1 : ((kepL pr l l.length).length : Int) ≤ (cc : Int) := by omega
        have hm0 : (0 : Int) ≤ ((kepL pr l l.length).length : Int) := by omega
        have hml : ((kepL pr l l.length).length : Int) ≤ (l.length : Int) := by omega
        have hcb : (cc : Int) ≤ 9223372036854775807 := by unfold maxLen at hc2; omega
        have hlc : (l.length : Int) ≤ (cc : Int) := by omega
        clear hclr hcl hbk2 hbl2 hbk hc1 hc2 hc3 hc4 hKR hm1 hp hg2
        generalize hK : (kepL pr l l.length) = K at *
        clear hK
        go_wp2_with (first | (with_reducible refine wpList_clear_run _ rfl (.tmp 38) 26 rfl _ rfl (HCL.out _) ?_))
        go_ret
        rw [← HE.out]
        exact ⟨_, _, rfl, HFI.out, HB4.out⟩
      | succ r =>
        have hjl : j < l.length := by have := hkr.out; omega
        have hlt : (j : Int) < (l.length : Int) := by omega
        have hj0 : (0 : Int) ≤ (j : Int) := by omega
        have hun : IntKind.i64.wrap ((j : Int) + 1) = (j : Int) + 1 := IntWalk.i64_in _ (by omega)
        have hm1 := kep_lt hil HPI.out _ hij.out (Nat.le_of_lt hjl)
        have hm2 : (kepL pr l j).length < l.length := by omega
        obtain ⟨x, hx⟩ : ∃ x, x = l[j]'hjl := ⟨_, rfl⟩
        have hxc := HO.out.cellsAt encF_len (i := j) (x := x) (by rw [kept_get (by omega), List.getElem?_eq_getElem hjl, hx])
        have x0 : wr.cell? ⟨g, j * 6, none⟩ = some (.int .i64 x.su) := hxc 0 _ rfl
        have x1 : wr.cell? ⟨g, j * 6 + 1, none⟩ = some (.string ⟨(x.fr).toArray⟩) := hxc 1 _ rfl
        have x2 : wr.cell? ⟨g, j * 6 + 2, none⟩ = some (.int .i64 x.tz) := hxc 2 _ rfl
        have x3 : wr.cell? ⟨g, j * 6 + 3, none⟩ = some (.int .i64 x.st) := hxc 3 _ rfl
        have x4 : wr.cell? ⟨g, j * 6 + 4, none⟩ = some (.int .i64 x.ti) := hxc 4 _ rfl
        have x5 : wr.cell? ⟨g, j * 6 + 5, none⟩ = some (.int .i64 x.stp) := hxc 5 _ rfl
        have hgl : g < wr.heap.size := by have := (HO.out.lt _ rfl).2; exact this
        have hcm := hcc.out x (by rw [hx]; exact List.getElem_mem hjl)
        have hlo : j * 6 < 9223372036854775807 := by omega
        have HXE := Lib.hid hx
        have HCM0 := Lib.hid hcm
        clear hxc hx hcm
        have hal := (Below.refl wr.heap.size wr).alloc (Nat.le_refl _) (.cells #[.int .i64 x.su, .string ⟨(x.fr).toArray⟩, .int .i64 x.tz, .int .i64 x.st, .int .i64 x.ti, .int .i64 x.stp] 108)
        have HBW := Lib.hid ((HB.out.trans (hal.mono (Nat.le_trans hbase HB.out.size))))
        replace HO := Lib.hid (HO.out.keep hal)
        have HV := Lib.hid (Blk.new wr 108 #[.int .i64 x.su, .string ⟨(x.fr).toArray⟩, .int .i64 x.tz, .int .i64 x.st, .int .i64 x.ti, .int .i64 x.stp])
        clear hal
        go_upto_region 8 with fail
        clear HB x0 x1 x2 x3 x4 x5 hgl
        generalize wr.alloc (.cells #[.int .i64 x.su, .string ⟨(x.fr).toArray⟩, .int .i64 x.tz, .int .i64 x.st, .int .i64 x.ti, .int .i64 x.stp] 108) = wg at *
        have HB := HBW; clear HBW
        generalize wr.heap.size = gv at *
        obtain ⟨v0, v1, v2, v3, v4, v5, vf0, vf1, vf2, vf3, vf4, vf5⟩ := HV.out.c6
        have HBB := HB
        cases hpx : pr x
        · have hK : (kepL pr l (j + 1)) = (kepL pr l j) ++ [x] := by rw [HXE.out]; exact kep_no hjl (by rw [← HXE.out]; exact hpx)
          have HK := Lib.hid hK; clear hK
          have hcm := HCM0.out
          rw [hpx] at hcm
          clear hpx
          have HCM := Lib.hid hcm; clear hcm
          generalize hq : (kepL pr l j) = K at *
          clear hq
          go_upto_region 9 with (first | (with_reducible refine ((HCM.out _ HBB.out).mono ?_); rintro e w' ⟨rfl, hb⟩; replace HV := Lib.hid (HV.out.keep hb); clear v0 v1 v2 v3 v4 v5 vf0 vf1 vf2 vf3 vf4 vf5; replace HO := Lib.hid (HO.out.keep hb); replace HB := Lib.hid (HB.out.trans (hb.mono (Nat.le_trans hbase HB.out.size))); clear hb; obtain ⟨v0, v1, v2, v3, v4, v5, vf0, vf1, vf2, vf3, vf4, vf5⟩ := HV.out.c6))
          obtain ⟨y, hy⟩ : ∃ y, l[K.length]? = some y := ⟨_, List.getElem?_eq_getElem hm2⟩
          have hyc := HO.out.cellsAt encF_len (i := K.length) (x := y) (by rw [kept_get (Nat.le_refl _)]; exact hy)
          have y0 : w'.cell? ⟨g, K.length * 6, none⟩ = some (.int .i64 y.su) := hyc 0 _ rfl
          have y1 : w'.cell? ⟨g, K.length * 6 + 1, none⟩ = some (.string ⟨(y.fr).toArray⟩) := hyc 1 _ rfl
          have y2 : w'.cell? ⟨g, K.length * 6 + 2, none⟩ = some (.int .i64 y.tz) := hyc 2 _ rfl
          have y3 : w'.cell? ⟨g, K.length * 6 + 3, none⟩ = some (.int .i64 y.st) := hyc 3 _ rfl
          have y4 : w'.cell? ⟨g, K.length * 6 + 4, none⟩ = some (.int .i64 y.ti) := hyc 4 _ rfl
          have y5 : w'.cell? ⟨g, K.length * 6 + 5, none⟩ = some (.int .i64 y.stp) := hyc 5 _ rfl
          have hfr := HO.out.frozenAt (fun e => by have h := congrArg List.length e; rw [kept_len (by omega)] at h; have h2 : l.length = 0 := h; omega)
          have z0 := hfr (K.length * 6)
          have z1 := hfr (K.length * 6 + 1)
          have z2 := hfr (K.length * 6 + 2)
          have z3 := hfr (K.length * 6 + 3)
          have z4 := hfr (K.length * 6 + 4)
          have z5 := hfr (K.length * 6 + 5)
          have hgl : g < w'.heap.size := (HO.out.lt _ rfl).2
          have hm0 : (0 : Int) ≤ (K.length : Int) := by omega
          have hml : (K.length : Int) < (l.length : Int) := by omega
          have hmk : K.length * 6 < 9223372036854775807 := by omega
          clear hyc hfr hy
          have HO2 : Hid (OwnR encF 6 base 108 ((((((w'.setCell ⟨g, K.length * 6, none⟩ (.int .i64 x.su)).setCell ⟨g, K.length * 6 + 1, none⟩ (.string ⟨(x.fr).toArray⟩)).setCell ⟨g, K.length * 6 + 2, none⟩ (.int .i64 x.tz)).setCell ⟨g, K.length * 6 + 3, none⟩ (.int .i64 x.st)).setCell ⟨g, K.length * 6 + 4, none⟩ (.int .i64 x.ti)).setCell ⟨g, K.length * 6 + 5, none⟩ (.int .i64 x.stp)) (some ⟨g, 0, none⟩) cc ((K ++ [x]) ++ l.drop (K ++ [x]).length)) := Lib.hid (by have h := HO.out.setk encF_len (i := K.length) (by rw [kept_len (by omega)]; omega) x; rw [kept_set K l x hm2] at h; rw [List.length_append]; exact h)
          have HB2 : Hid (Below base w ((((((w'.setCell ⟨g, K.length * 6, none⟩ (.int .i64 x.su)).setCell ⟨g, K.length * 6 + 1, none⟩ (.string ⟨(x.fr).toArray⟩)).setCell ⟨g, K.length * 6 + 2, none⟩ (.int .i64 x.tz)).setCell ⟨g, K.length * 6 + 3, none⟩ (.int .i64 x.st)).setCell ⟨g, K.length * 6 + 4, none⟩ (.int .i64 x.ti)).setCell ⟨g, K.length * 6 + 5, none⟩ (.int .i64 x.stp))) := Lib.hid (((((((HB.out.setCell HGB.out _).setCell HGB.out _).setCell HGB.out _).setCell HGB.out _).setCell HGB.out _).setCell HGB.out _))
          go_upto_region 10 with fail
          clear HO HB y0 y1 y2 y3 y4 y5 z0 z1 z2 z3 z4 z5 hgl
          clear v0 v1 v2 v3 v4 v5 vf0 vf1 vf2 vf3 vf4 vf5
          clear HV
          generalize (((((w'.setCell ⟨g, K.length * 6, none⟩ (.int .i64 x.su)).setCell ⟨g, K.length * 6 + 1, none⟩ (.string ⟨(x.fr).toArray⟩)).setCell ⟨g, K.length * 6 + 2, none⟩ (.int .i64 x.tz)).setCell ⟨g, K.length * 6 + 3, none⟩ (.int .i64 x.st)).setCell ⟨g, K.length * 6 + 4, none⟩ (.int .i64 x.ti)).setCell ⟨g, K.length * 6 + 5, none⟩ (.int .i64 x.stp) = w5 at *
          have hun2 : IntKind.i64.wrap ((K.length : Int) + 1) = (K.length : Int) + 1 := IntWalk.i64_in _ (by omega)
          go_wp2_with fail
          go_roundw
          case rel => exact ⟨j + 1, r, by rw [HK.out, List.length_append]; simp, by first | rfl | simp, Lib.hid (by have := hkr.out; omega), Lib.hid (by have := hij.out; omega), HB2, Lib.hid (by rw [HK.out]; exact HO2.out)⟩
          case measure => first | (simp [intOf]; done) | (simp [intOf]; omega)
        · have hK : (kepL pr l (j + 1)) = (kepL pr l j) := kep_yes hjl (by rw [← HXE.out]; exact hpx)
          have HK := Lib.hid hK; clear hK
          have hcm := HCM0.out
          rw [hpx] at hcm
          clear hpx hm1 hm2
          have HCM := Lib.hid hcm; clear hcm
          generalize hq : (kepL pr l j) = K at *
          clear hq
          go_wp2_with (first | (with_reducible refine ((HCM.out _ HBB.out).mono ?_); rintro e w' ⟨rfl, hb⟩; replace HV := Lib.hid (HV.out.keep hb); clear v0 v1 v2 v3 v4 v5 vf0 vf1 vf2 vf3 vf4 vf5; replace HO := Lib.hid (HO.out.keep hb); replace HB := Lib.hid (HB.out.trans (hb.mono (Nat.le_trans hbase HB.out.size))); clear hb; obtain ⟨v0, v1, v2, v3, v4, v5, vf0, vf1, vf2, vf3, vf4, vf5⟩ := HV.out.c6))
          go_roundw
          case rel => exact ⟨j + 1, r, by rw [HK.out], by first | rfl | simp, Lib.hid (by have := hkr.out; omega), Lib.hid (by have := hij.out; omega), HB, Lib.hid (by rw [HK.out]; exact HO.out)⟩
          case measure => first | (simp [intOf]; done) | (simp [intOf]; omega)
end Go.Proofs.YtkjelfmgnkkijaaGreatDoor
namespace Lum
open Go Go.RowKit Go.Shelf
open Go.Lib (decDigits itoa)
/-- The other faders. -/
def othF (nu : Int) (l : List Fdr) : List Fdr := l.filter fun y => !(y.su == nu)
theorem oth_len (nu : Int) (l : List Fdr) : (othF nu l).length ≤ l.length := List.length_filter_le _ _
theorem oth_ins {l : List Fdr} {i : Nat} {hit : Bool} {x : Fdr} {nu : Int} (hb : Belongs (fun k => (fdv l k).su) l.length nu i hit) (hx : x.su = nu) : othF nu (insL l i hit x) = othF nu l := filter_ins hb hx
theorem oth_count {l : List Fdr} {i : Nat} {hit : Bool} {x : Fdr} {nu : Int} (hb : Belongs (fun k => (fdv l k).su) l.length nu i hit) : (insL l i hit x).length = (othF nu l).length + 1 := by
  have h := filter_count hb
  rw [ins_len hb.le (fun e => (hb.yes e).1)]
  unfold othF
  cases hit
  · simp only [Bool.false_eq_true, if_false] at h ⊢; omega
  · simp only [if_true] at h ⊢; omega
end Lum
namespace Go.Proofs.YtkjelfmgnkkijaaGreatDoor
open Go.RowKit Go.Shelf Lum
open Go.Lib (decDigits itoa)
attribute [local go_sem] bs_get bs_extract_end bs_extract_from bs_extract bs_append

set_option maxRecDepth 100000 in
set_option maxHeartbeats 2000000 in
theorem cl_oth (su tz st ti stp nu pr : Int) (fr : Txt) (inh : Bool) (gv : Value) (g : Nat) (w : World) (hk : Blk w g 58 #[.int .i64 nu, .int .i64 pr, .bool (inh), gv]) :
    Calls Tryz.prog 62 #[.agg #[.int .i64 su, .string ⟨(fr).toArray⟩, .int .i64 tz, .int .i64 st, .int .i64 ti, .int .i64 stp], .pointer (some ⟨g, 0, none⟩)] w fun e w' => e = .returned (.bool (su == nu)) ∧ Below w.heap.size w w' := by
  have HB := Lib.hid ((Below.refl w.heap.size w).alloc (Nat.le_refl _) (.cells #[.int .i64 su, .string ⟨(fr).toArray⟩, .int .i64 tz, .int .i64 st, .int .i64 ti, .int .i64 stp] 108))
  have HX := Lib.hid (Blk.new w 108 #[.int .i64 su, .string ⟨(fr).toArray⟩, .int .i64 tz, .int .i64 st, .int .i64 ti, .int .i64 stp])
  have HK := Lib.hid (hk.alloc (.cells #[.int .i64 su, .string ⟨(fr).toArray⟩, .int .i64 tz, .int .i64 st, .int .i64 ti, .int .i64 stp] 108))
  clear hk
  obtain ⟨x0, x1, x2, x3, x4, x5, xf0, xf1, xf2, xf3, xf4, xf5⟩ := HX.out.c6
  obtain ⟨k0, k1, k2, k3, kf0, kf1, kf2, kf3⟩ := HK.out.c4
  go_enter Tryz.func62, Tryz.ntmps62
  go_wp2_with fail
  go_ret
  exact ⟨rfl, HB.out⟩

set_option maxRecDepth 100000 in
set_option maxHeartbeats 4000000 in
theorem cl_others (nu pr : Int) (inh : Bool) (gv : Value) (g : Nat) (l : List Fdr) (lv : Value) (w : World) (hk : Blk w g 58 #[.int .i64 nu, .int .i64 pr, .bool (inh), gv]) (hl : FdsAt w lv l) (hn : l.length ≤ 1000000) :
    Calls Tryz.prog 59 #[lv, .pointer (some ⟨g, 0, none⟩)] w fun e w' => ∃ pp cc, e = .returned (.slice pp (othF nu l).length cc) ∧ FdsAt w' (.slice pp (othF nu l).length cc) (othF nu l) ∧ Below w.heap.size w w' := by
  have HK := Lib.hid hk
  have HN := Lib.hid hn
  have hcl := fun W (h : FdsAt W lv l) => own_fclone l lv W h hn
  have HL := Lib.hid hl; clear hl hk hn
  have HB := Lib.hid (Below.refl w.heap.size w)
  have HCL := Lib.hid hcl; clear hcl
  go_enter Tryz.func59, Tryz.ntmps59
  go_wp2_with fail
  refine ((HCL.out _ HL.out).mono ?_)
  rintro e w1 ⟨pp, cc, rfl, ho, hb⟩
  have HO := Lib.hid ho; clear ho
  have HB1 := Lib.hid (bch' HB.out hb)
  have HK1 := Lib.hid (HK.out.keep hb)
  have hlt := HK.out.lt
  clear HB hb
  have hd := fdr_delete 62 (.pointer (some ⟨g, 0, none⟩)) l (fun y => y.su == nu) pp cc w.heap.size w1 HO.out HB1.out.size HN.out (fun _ _ => by kernel_rfl) (fun x _ W hW => (cl_oth x.su x.tz x.st x.ti x.stp nu pr x.fr inh gv g W (HK.out.below (HB1.out.trans hW) hlt)).mono fun _ _ h => h)
  have HD := Lib.hid hd; clear hd
  go_wp2_with (first | (with_reducible refine (HD.out.mono ?_); rintro e w' ⟨p2, c2, rfl, ho, hb⟩; have HO2 := Lib.hid ho; have HB2 := Lib.hid hb; clear ho hb))
  go_ret
  exact ⟨p2, c2, rfl, OwnR.fds HO2.out, HB1.out.trans HB2.out⟩

theorem own_smove_all (nu pr t xo xi : Int) (inh : Bool) (gs : List Gn) (l : List Fdr) (gv lv : Value) (i : Nat) (hit : Bool) (w : World) (hv : GnsAt w gv gs) (hl : FdsAt w lv l) (hs : sbE ⟨nu, pr, inh, gs⟩ = 0) (hf : facE l = 0) (hlen : ∀ i, i < l.length → (fdv l i).fr.length ≤ 1000) (hm : mvIn t xo xi) (hb9 : Belongs (fun k => (fdv l k).su) l.length nu i hit) (hr : l.length < 16 ∨ hit = true) (env : Env w) :
    Calls Tryz.prog 32 #[.agg #[.int .i64 nu, .int .i64 pr, .bool (inh), gv], lv, .int .i64 t, .int .i64 xo, .int .i64 xi] w fun e w' => ∃ pp cc, e = .returned (.tuple #[.slice pp (insL l i hit (mvF nu inh l t xo xi hit)).length cc, .int .i64 0]) ∧ OwnR encF 6 w.heap.size 108 w' pp cc (insL l i hit (mvF nu inh l t xo xi hit)) ∧ Below w.heap.size w w' := by
  cases hit
  · exact own_smove_new nu pr t xo xi inh gs l gv lv i w hv hl hs hf hlen hm hb9 (by have := hr.resolve_right (by simp); omega) env
  · by_cases hz : lvlQ nu inh l t = 0
    · exact own_smove_zero nu pr t xo xi inh gs l gv lv i w hv hl hs hf hlen hm hb9 hz env
    · exact own_smove_on nu pr t xo xi inh gs l gv lv i w hv hl hs hf hlen hm hb9 hz env

set_option maxRecDepth 100000 in
set_option maxHeartbeats 16000000 in
theorem law_continues (nu pr t xo xi : Int) (inh : Bool) (gs : List Gn) (l : List Fdr) (gv lv : Value) (w : World) (hv : GnsAt w gv gs) (hl : FdsAt w lv l) (env : Env w) :
    Calls Tryz.prog 12 #[.agg #[.int .i64 nu, .int .i64 pr, .bool (inh), gv], lv, .agg #[.int .i64 t, .int .i64 xo, .int .i64 xi]] w fun e w' => e = .returned (.bool (true)) ∧ Below w.heap.size w w' := by
  obtain ⟨pl, cl, rfl⟩ : ∃ pl cl, lv = .slice pl l.length cl := by obtain ⟨a, b, e, -⟩ := hl; exact ⟨a, b, e⟩
  obtain ⟨pg, cg, rfl⟩ : ∃ pg cg, gv = .slice pg gs.length cg := by obtain ⟨pg, cg, e, -⟩ := hv; exact ⟨pg, cg, e⟩
  have ENV := Lib.hid env; clear env
  have hal := ((Below.refl w.heap.size w).alloc (Nat.le_refl _) (.cells #[.int .i64 nu, .int .i64 pr, .bool (inh), (.slice pg gs.length cg)] 58)).alloc (by simp) (.cells #[.int .i64 t, .int .i64 xo, .int .i64 xi] 59)
  have HB := Lib.hid hal
  have HK := Lib.hid ((Blk.new w 58 #[.int .i64 nu, .int .i64 pr, .bool (inh), (.slice pg gs.length cg)]).alloc (.cells #[.int .i64 t, .int .i64 xo, .int .i64 xi] 59))
  have hR := Blk.new (w.alloc (.cells #[.int .i64 nu, .int .i64 pr, .bool (inh), (.slice pg gs.length cg)] 58)) 59 #[.int .i64 t, .int .i64 xo, .int .i64 xi]
  rw [World.size_alloc] at hR
  have HR := Lib.hid hR; clear hR
  obtain ⟨k0, k1, k2, k3, kf0, kf1, kf2, kf3⟩ := HK.out.c4
  obtain ⟨r0, r1, r2, rf0, rf1, rf2⟩ := HR.out.c3
  have HV0 := Lib.hid hv; have HL0 := Lib.hid hl
  have HV := Lib.hid (GnsAt.kept hv hal)
  have HL := Lib.hid (FdsAt.kept hl hal)
  clear hal hv hl
  have haw := fun W (e : Env W) => l26_awake W e
  have hfe := fun su sv W (h : SbsAt W sv su) => r26_few su sv W h
  have hff := fun W (h : FdsAt W (.slice pl l.length cl) l) => r26_fewfaders l (.slice pl l.length cl) W h
  have HAW := Lib.hid haw; clear haw
  have HFE := Lib.hid hfe; clear hfe
  have HFF := Lib.hid hff; clear hff
  go_enter Tryz.func12, Tryz.ntmps12
  go_wp2_with fail
  have HN := Lib.hid (blkN2 w (.cells #[.int .i64 nu, .int .i64 pr, .bool (inh), (.slice pg gs.length cg)] 58) (.cells #[.int .i64 t, .int .i64 xo, .int .i64 xi] 59) 58 #[.int .i64 nu, .int .i64 pr, .bool (inh), (.slice pg gs.length cg)])
  generalize (w.alloc (.cells #[.int .i64 nu, .int .i64 pr, .bool (inh), (.slice pg gs.length cg)] 58)).alloc (.cells #[.int .i64 t, .int .i64 xo, .int .i64 xi] 59) = w1 at *
  have hal := (Below.refl w1.heap.size w1).alloc (Nat.le_refl _) (.cells #[.int .i64 nu, .int .i64 pr, .bool (inh), (.slice pg gs.length cg)] 58)
  with_reducible refine ((HFE.out _ _ _ (sbs_one HN.out (GnsAt.kept HV.out hal))).mono ?_)
  rintro e w2 ⟨b1, rfl, -, hb⟩
  replace HK := Lib.hid ((HK.out.keep hal).keep hb)
  clear k0 k1 k2 k3 kf0 kf1 kf2 kf3
  replace HR := Lib.hid ((HR.out.keep hal).keep hb)
  clear r0 r1 r2 rf0 rf1 rf2
  replace HV := Lib.hid (GnsAt.kept (GnsAt.kept HV.out hal) hb)
  replace HL := Lib.hid (FdsAt.kept (FdsAt.kept HL.out hal) hb)
  replace HB := Lib.hid (bch' (bch' HB.out hal) hb)
  clear hal hb HN
  obtain ⟨k0, k1, k2, k3, kf0, kf1, kf2, kf3⟩ := HK.out.c4
  obtain ⟨r0, r1, r2, rf0, rf1, rf2⟩ := HR.out.c3
  cases b1
  · go_wp2_with (first | (with_reducible refine ((HAW.out _ (ENV.out.below HB.out)).mono ?_); rintro e w' ⟨rfl, hb⟩; replace HK := Lib.hid (HK.out.keep hb); clear k0 k1 k2 k3 kf0 kf1 kf2 kf3; replace HR := Lib.hid (HR.out.keep hb); clear r0 r1 r2 rf0 rf1 rf2; replace HV := Lib.hid (GnsAt.kept HV.out hb); replace HL := Lib.hid (FdsAt.kept HL.out hb); replace HB := Lib.hid (bch' HB.out hb); clear hb; obtain ⟨k0, k1, k2, k3, kf0, kf1, kf2, kf3⟩ := HK.out.c4; obtain ⟨r0, r1, r2, rf0, rf1, rf2⟩ := HR.out.c3))
    go_ret
    exact ⟨rfl, HB.out⟩
  · go_wp2_with fail
    refine ((HFF.out _ HL.out).mono ?_)
    rintro e w3 ⟨b2, rfl, hq, hb⟩
    replace HK := Lib.hid (HK.out.keep hb); clear k0 k1 k2 k3 kf0 kf1 kf2 kf3; replace HR := Lib.hid (HR.out.keep hb); clear r0 r1 r2 rf0 rf1 rf2; replace HV := Lib.hid (GnsAt.kept HV.out hb); replace HL := Lib.hid (FdsAt.kept HL.out hb); replace HB := Lib.hid (bch' HB.out hb); clear hb; obtain ⟨k0, k1, k2, k3, kf0, kf1, kf2, kf3⟩ := HK.out.c4; obtain ⟨r0, r1, r2, rf0, rf1, rf2⟩ := HR.out.c3
    cases b2
    · go_wp2_with (first | (with_reducible refine ((HAW.out _ (ENV.out.below HB.out)).mono ?_); rintro e w' ⟨rfl, hb⟩; replace HK := Lib.hid (HK.out.keep hb); clear k0 k1 k2 k3 kf0 kf1 kf2 kf3; replace HR := Lib.hid (HR.out.keep hb); clear r0 r1 r2 rf0 rf1 rf2; replace HV := Lib.hid (GnsAt.kept HV.out hb); replace HL := Lib.hid (FdsAt.kept HL.out hb); replace HB := Lib.hid (bch' HB.out hb); clear hb; obtain ⟨k0, k1, k2, k3, kf0, kf1, kf2, kf3⟩ := HK.out.c4; obtain ⟨r0, r1, r2, rf0, rf1, rf2⟩ := HR.out.c3))
      go_ret
      exact ⟨rfl, HB.out⟩
    · have hlen := hq rfl
      clear hq
      have hck := fun W (h : GnsAt W (.slice pg gs.length cg) gs) => r26_check nu pr inh gs (.slice pg gs.length cg) W h
      have hfs := fun W (h : FdsAt W (.slice pl l.length cl) l) => r26_faders l (.slice pl l.length cl) W h (fun i hi => Nat.le_trans (hlen i hi) (by omega))
      have t1 := fun W => r3_time t W
      have t2 := fun W => r3_whole xo W
      have t3 := fun W => r3_time xi W
      by_cases hs : subE nu pr inh gs = 0
      · rw [hs] at hck
        by_cases hf : facE l = 0
        · rw [hf] at hfs
          by_cases h1 : 0 ≤ t ∧ t ≤ 10000000
          · by_cases h2 : 0 ≤ xo ∧ xo ≤ 65535
            · by_cases h3 : 0 ≤ xi ∧ xi ≤ 10000000
              · have hm : mvIn t xo xi := ⟨⟨h1, h3⟩, h2⟩
                rw [decide_eq_true h1] at t1
                rw [decide_eq_true h2] at t2
                rw [decide_eq_true h3] at t3
                have hok := subOk (show sbE ⟨nu, pr, inh, gs⟩ = 0 from hs)
                have fok := facOk hf
                obtain ⟨i, hit, hb9⟩ := belongs_exists fok nu
                have hs : sbE ⟨nu, pr, inh, gs⟩ = 0 := hs
                by_cases hfull : l.length = 16 ∧ hit = false
                · clear hok fok
                  obtain ⟨hM, rfl⟩ := hfull
                  have hom := fun W (h1 : GnsAt W (.slice pg gs.length cg) gs) (h2 : FdsAt W (.slice pl l.length cl) l) (e : Env W) => own_smove_many nu pr t xo xi inh gs l (.slice pg gs.length cg) (.slice pl l.length cl) i W h1 h2 hs hf (fun i hi => Nat.le_trans (hlen i hi) (by omega)) hm hb9 hM e
                  have h16 : ((l.length : Int) == 16) = true := by rw [hM]; rfl
                  have h16n : (l.length == 16) = true := by rw [hM]; rfl
                  clear hs hf hlen hm hb9 h1 h2 h3 hM
                  have HCK := Lib.hid hck; clear hck
                  have HFS := Lib.hid hfs; clear hfs
                  have T1 := Lib.hid t1; clear t1
                  have T2 := Lib.hid t2; clear t2
                  have T3 := Lib.hid t3; clear t3; have HOM := Lib.hid hom; clear hom
                  go_wp2_with (first | (with_reducible refine ((HCK.out _ HV.out).mono ?_); rintro e w' ⟨rfl, hb⟩; replace HK := Lib.hid (HK.out.keep hb); clear k0 k1 k2 k3 kf0 kf1 kf2 kf3; replace HR := Lib.hid (HR.out.keep hb); clear r0 r1 r2 rf0 rf1 rf2; replace HV := Lib.hid (GnsAt.kept HV.out hb); replace HL := Lib.hid (FdsAt.kept HL.out hb); replace HB := Lib.hid (bch' HB.out hb); clear hb; obtain ⟨k0, k1, k2, k3, kf0, kf1, kf2, kf3⟩ := HK.out.c4; obtain ⟨r0, r1, r2, rf0, rf1, rf2⟩ := HR.out.c3) | (with_reducible refine ((HFS.out _ HL.out).mono ?_); rintro e w' ⟨rfl, hb⟩; replace HK := Lib.hid (HK.out.keep hb); clear k0 k1 k2 k3 kf0 kf1 kf2 kf3; replace HR := Lib.hid (HR.out.keep hb); clear r0 r1 r2 rf0 rf1 rf2; replace HV := Lib.hid (GnsAt.kept HV.out hb); replace HL := Lib.hid (FdsAt.kept HL.out hb); replace HB := Lib.hid (bch' HB.out hb); clear hb; obtain ⟨k0, k1, k2, k3, kf0, kf1, kf2, kf3⟩ := HK.out.c4; obtain ⟨r0, r1, r2, rf0, rf1, rf2⟩ := HR.out.c3) | (with_reducible refine ((T1.out _).mono ?_); rintro e w' ⟨rfl, rfl⟩) | (with_reducible refine ((T2.out _).mono ?_); rintro e w' ⟨rfl, rfl⟩) | (with_reducible refine ((T3.out _).mono ?_); rintro e w' ⟨rfl, rfl⟩) | (with_reducible refine ((HOM.out _ HV.out HL.out (ENV.out.below HB.out)).mono ?_); rintro e w' ⟨rfl, hb⟩; replace HK := Lib.hid (HK.out.keep hb); clear k0 k1 k2 k3 kf0 kf1 kf2 kf3; replace HR := Lib.hid (HR.out.keep hb); clear r0 r1 r2 rf0 rf1 rf2; replace HV := Lib.hid (GnsAt.kept HV.out hb); replace HL := Lib.hid (FdsAt.kept HL.out hb); replace HB := Lib.hid (bch' HB.out hb); clear hb; obtain ⟨k0, k1, k2, k3, kf0, kf1, kf2, kf3⟩ := HK.out.c4; obtain ⟨r0, r1, r2, rf0, rf1, rf2⟩ := HR.out.c3) | (with_reducible refine ((HAW.out _ (ENV.out.below HB.out)).mono ?_); rintro e w' ⟨rfl, hb⟩; replace HK := Lib.hid (HK.out.keep hb); clear k0 k1 k2 k3 kf0 kf1 kf2 kf3; replace HR := Lib.hid (HR.out.keep hb); clear r0 r1 r2 rf0 rf1 rf2; replace HV := Lib.hid (GnsAt.kept HV.out hb); replace HL := Lib.hid (FdsAt.kept HL.out hb); replace HB := Lib.hid (bch' HB.out hb); clear hb; obtain ⟨k0, k1, k2, k3, kf0, kf1, kf2, kf3⟩ := HK.out.c4; obtain ⟨r0, r1, r2, rf0, rf1, rf2⟩ := HR.out.c3))
                  go_ret
                  exact ⟨rfl, HB.out⟩
                · have hr : l.length < 16 ∨ hit = true := by have := fok.few; cases hit; (left; have : ¬ l.length = 16 := fun h => hfull ⟨h, rfl⟩; omega); right; rfl
                  clear hfull
                  have hom := fun W (h1 : GnsAt W (.slice pg gs.length cg) gs) (h2 : FdsAt W (.slice pl l.length cl) l) (e : Env W) => own_smove_all nu pr t xo xi inh gs l (.slice pg gs.length cg) (.slice pl l.length cl) i hit W h1 h2 hs hf (fun i hi => Nat.le_trans (hlen i hi) (by omega)) hm hb9 hr e
                  have fl : Fits 182 (lvlQ nu inh l t) := fadL_fits t (fadG_fg fok) (fadG_len hlen)
                  have hfm : facE (insL l i hit (mvF nu inh l t xo xi hit)) = 0 := facE_mv fok hb9 ⟨hok.nu0, hok.nu1⟩ hm fl (by omega) hr
                  have hln := len_ins (i := i) (hit := hit) (x := (mvF nu inh l t xo xi hit)) hb9.le (fun i hi => Nat.le_trans (hlen i hi) (by omega)) (mvF_len fl (by omega))
                  have hlv := fun W (h1 : GnsAt W (.slice pg gs.length cg) gs) (h2 : FdsAt W (.slice pl l.length cl) l) (e : Env W) => own_slev_ok nu pr t inh gs l (.slice pg gs.length cg) (.slice pl l.length cl) W h1 h2 hs hf (fun i hi => Nat.le_trans (hlen i hi) (by omega)) e
                  have hlw := fun v W (h1 : GnsAt W (.slice pg gs.length cg) gs) (h2 : FdsAt W v (insL l i hit (mvF nu inh l t xo xi hit))) (e : Env W) => own_slev_ok nu pr t inh gs (insL l i hit (mvF nu inh l t xo xi hit)) (.slice pg gs.length cg) v W h1 h2 hs hfm hln e
                  have hlx := fun v W (h1 : GnsAt W (.slice pg gs.length cg) gs) (h2 : FdsAt W v (insL l i hit (mvF nu inh l t xo xi hit))) (e : Env W) => own_slev_ok nu pr (t + xi) inh gs (insL l i hit (mvF nu inh l t xo xi hit)) (.slice pg gs.length cg) v W h1 h2 hs hfm hln e
                  rw [mvF_end hb9 h3.1] at hlx
                  have hwh := fun W => r2_whole xo W (by omega) (by omega)
                  rw [← showR_int] at hwh
                  have hof := fun v W (h2 : FdsAt W v (insL l i hit (mvF nu inh l t xo xi hit))) (e : Env W) => own_sfaders (insL l i hit (mvF nu inh l t xo xi hit)) v W h2 hln e
                  rw [hfm] at hof
                  have hcnt := oth_count (x := (mvF nu inh l t xo xi hit)) hb9
                  have hoth : othF nu (insL l i hit (mvF nu inh l t xo xi hit)) = othF nu l := oth_ins hb9 (mvF_su _ _ _ _ _ _ _)
                  have hle := oth_len nu l
                  have hLn : (insL l i hit (mvF nu inh l t xo xi hit)).length ≤ 1000 := by have := fok.few; omega
                  have hth := mvF_then (inh := inh) (to_ := xo) (mv := hit) hb9 (t := t) (ti := xi)
                  skip
                  have hco := fun W (hk : Blk W w.heap.size 58 #[.int .i64 nu, .int .i64 pr, .bool (inh), (.slice pg gs.length cg)]) (h2 : FdsAt W (.slice pl l.length cl) l) => cl_others nu pr inh (.slice pg gs.length cg) w.heap.size l (.slice pl l.length cl) W hk h2 (by have := fok.few; omega)
                  have hcm := fun v W (hk : Blk W w.heap.size 58 #[.int .i64 nu, .int .i64 pr, .bool (inh), (.slice pg gs.length cg)]) (h2 : FdsAt W v (insL l i hit (mvF nu inh l t xo xi hit))) => cl_others nu pr inh (.slice pg gs.length cg) w.heap.size (insL l i hit (mvF nu inh l t xo xi hit)) v W hk h2 (by omega)
                  rw [hoth] at hcm
                  have hsf := fun va vb W (h1 : FdsAt W va (othF nu l)) (h2 : FdsAt W vb (othF nu l)) => r26_samefaders (othF nu l) va vb W h1 h2 (by have := fok.few; omega)
                  have hwi : IntKind.i64.wrap (t + xi) = t + xi := IntWalk.i64_in _ (by omega)
                  have hc1 : (((insL l i hit (mvF nu inh l t xo xi hit)).length : Int) == ((othF nu l).length : Int) + 1) = true := by rw [hcnt]; simp
                  have hcn : (((insL l i hit (mvF nu inh l t xo xi hit)).length : Nat) == (othF nu l).length + 1) = true := by rw [hcnt]; simp
                  generalize (insL l i hit (mvF nu inh l t xo xi hit)) = L at *
                  generalize othF nu l = O at *
                  have h16 : O.length ≤ 16 := by have := fok.few; omega
                  clear hoth hle hcnt hfm hln hr hb9 hok fok fl hs hf hm h1 h2
                  by_cases h0 : 0 < xi
                  · replace hth := hth h0
                    rw [hth] at hlw
                    clear hth h3
                    generalize showR (lvlQ nu inh l t) = tl at *
                    generalize showR ((xo : Int) : Rat) = tx at *
                    have HCK := Lib.hid hck; clear hck
                    have HFS := Lib.hid hfs; clear hfs
                    have T1 := Lib.hid t1; clear t1
                    have T2 := Lib.hid t2; clear t2
                    have T3 := Lib.hid t3; clear t3; have HOM := Lib.hid hom; clear hom
                    have HLV := Lib.hid hlv; clear hlv
                    have HLW := Lib.hid hlw; clear hlw
                    have HLX := Lib.hid hlx; clear hlx
                    have HWH := Lib.hid hwh; clear hwh
                    have HOF := Lib.hid hof; clear hof
                    have HCO := Lib.hid hco; clear hco
                    have HCM := Lib.hid hcm; clear hcm
                    have HSF := Lib.hid hsf; clear hsf
                    go_upto_region 4 with (first | (with_reducible refine ((HCK.out _ HV.out).mono ?_); rintro e w' ⟨rfl, hb⟩; replace HK := Lib.hid (HK.out.keep hb); clear k0 k1 k2 k3 kf0 kf1 kf2 kf3; replace HR := Lib.hid (HR.out.keep hb); clear r0 r1 r2 rf0 rf1 rf2; replace HV := Lib.hid (GnsAt.kept HV.out hb); replace HL := Lib.hid (FdsAt.kept HL.out hb); replace HB := Lib.hid (bch' HB.out hb); clear hb; obtain ⟨k0, k1, k2, k3, kf0, kf1, kf2, kf3⟩ := HK.out.c4; obtain ⟨r0, r1, r2, rf0, rf1, rf2⟩ := HR.out.c3) | (with_reducible refine ((HFS.out _ HL.out).mono ?_); rintro e w' ⟨rfl, hb⟩; replace HK := Lib.hid (HK.out.keep hb); clear k0 k1 k2 k3 kf0 kf1 kf2 kf3; replace HR := Lib.hid (HR.out.keep hb); clear r0 r1 r2 rf0 rf1 rf2; replace HV := Lib.hid (GnsAt.kept HV.out hb); replace HL := Lib.hid (FdsAt.kept HL.out hb); replace HB := Lib.hid (bch' HB.out hb); clear hb; obtain ⟨k0, k1, k2, k3, kf0, kf1, kf2, kf3⟩ := HK.out.c4; obtain ⟨r0, r1, r2, rf0, rf1, rf2⟩ := HR.out.c3) | (with_reducible refine ((T1.out _).mono ?_); rintro e w' ⟨rfl, rfl⟩) | (with_reducible refine ((T2.out _).mono ?_); rintro e w' ⟨rfl, rfl⟩) | (with_reducible refine ((T3.out _).mono ?_); rintro e w' ⟨rfl, rfl⟩) | (with_reducible refine ((HOM.out _ HV.out HL.out (ENV.out.below HB.out)).mono ?_); rintro e w' ⟨pm, cm, rfl, hmo, hb⟩; have HM := Lib.hid (OwnR.fds hmo); clear hmo; replace HK := Lib.hid (HK.out.keep hb); clear k0 k1 k2 k3 kf0 kf1 kf2 kf3; replace HR := Lib.hid (HR.out.keep hb); clear r0 r1 r2 rf0 rf1 rf2; replace HV := Lib.hid (GnsAt.kept HV.out hb); replace HL := Lib.hid (FdsAt.kept HL.out hb); replace HB := Lib.hid (bch' HB.out hb); clear hb; obtain ⟨k0, k1, k2, k3, kf0, kf1, kf2, kf3⟩ := HK.out.c4; obtain ⟨r0, r1, r2, rf0, rf1, rf2⟩ := HR.out.c3))
                    go_upto_region 11 with (first | (with_reducible refine ((HLV.out _ HV.out HL.out (ENV.out.below HB.out)).mono ?_); rintro e w' ⟨rfl, hb⟩; replace HK := Lib.hid (HK.out.keep hb); clear k0 k1 k2 k3 kf0 kf1 kf2 kf3; replace HR := Lib.hid (HR.out.keep hb); clear r0 r1 r2 rf0 rf1 rf2; replace HV := Lib.hid (GnsAt.kept HV.out hb); replace HL := Lib.hid (FdsAt.kept HL.out hb); replace HM := Lib.hid (FdsAt.kept HM.out hb); replace HB := Lib.hid (bch' HB.out hb); clear hb; obtain ⟨k0, k1, k2, k3, kf0, kf1, kf2, kf3⟩ := HK.out.c4; obtain ⟨r0, r1, r2, rf0, rf1, rf2⟩ := HR.out.c3) | (with_reducible refine ((HLW.out _ _ HV.out HM.out (ENV.out.below HB.out)).mono ?_); rintro e w' ⟨rfl, hb⟩; replace HK := Lib.hid (HK.out.keep hb); clear k0 k1 k2 k3 kf0 kf1 kf2 kf3; replace HR := Lib.hid (HR.out.keep hb); clear r0 r1 r2 rf0 rf1 rf2; replace HV := Lib.hid (GnsAt.kept HV.out hb); replace HL := Lib.hid (FdsAt.kept HL.out hb); replace HM := Lib.hid (FdsAt.kept HM.out hb); replace HB := Lib.hid (bch' HB.out hb); clear hb; obtain ⟨k0, k1, k2, k3, kf0, kf1, kf2, kf3⟩ := HK.out.c4; obtain ⟨r0, r1, r2, rf0, rf1, rf2⟩ := HR.out.c3) | (with_reducible refine ((HLX.out _ _ HV.out HM.out (ENV.out.below HB.out)).mono ?_); rintro e w' ⟨rfl, hb⟩; replace HK := Lib.hid (HK.out.keep hb); clear k0 k1 k2 k3 kf0 kf1 kf2 kf3; replace HR := Lib.hid (HR.out.keep hb); clear r0 r1 r2 rf0 rf1 rf2; replace HV := Lib.hid (GnsAt.kept HV.out hb); replace HL := Lib.hid (FdsAt.kept HL.out hb); replace HM := Lib.hid (FdsAt.kept HM.out hb); replace HB := Lib.hid (bch' HB.out hb); clear hb; obtain ⟨k0, k1, k2, k3, kf0, kf1, kf2, kf3⟩ := HK.out.c4; obtain ⟨r0, r1, r2, rf0, rf1, rf2⟩ := HR.out.c3) | (with_reducible refine ((HWH.out _).mono ?_); rintro e w' ⟨rfl, hb⟩; replace HK := Lib.hid (HK.out.keep hb); clear k0 k1 k2 k3 kf0 kf1 kf2 kf3; replace HR := Lib.hid (HR.out.keep hb); clear r0 r1 r2 rf0 rf1 rf2; replace HV := Lib.hid (GnsAt.kept HV.out hb); replace HL := Lib.hid (FdsAt.kept HL.out hb); replace HM := Lib.hid (FdsAt.kept HM.out hb); replace HB := Lib.hid (bch' HB.out hb); clear hb; obtain ⟨k0, k1, k2, k3, kf0, kf1, kf2, kf3⟩ := HK.out.c4; obtain ⟨r0, r1, r2, rf0, rf1, rf2⟩ := HR.out.c3) | (with_reducible refine ((HOF.out _ _ HM.out (ENV.out.below HB.out)).mono ?_); rintro e w' ⟨rfl, hb⟩; replace HK := Lib.hid (HK.out.keep hb); clear k0 k1 k2 k3 kf0 kf1 kf2 kf3; replace HR := Lib.hid (HR.out.keep hb); clear r0 r1 r2 rf0 rf1 rf2; replace HV := Lib.hid (GnsAt.kept HV.out hb); replace HL := Lib.hid (FdsAt.kept HL.out hb); replace HM := Lib.hid (FdsAt.kept HM.out hb); replace HB := Lib.hid (bch' HB.out hb); clear hb; obtain ⟨k0, k1, k2, k3, kf0, kf1, kf2, kf3⟩ := HK.out.c4; obtain ⟨r0, r1, r2, rf0, rf1, rf2⟩ := HR.out.c3))
                    go_wp2_with (first | (with_reducible refine ((HSF.out _ _ _ HA.out HC.out).mono ?_); rintro e w' ⟨rfl, hb⟩; replace HK := Lib.hid (HK.out.keep hb); clear k0 k1 k2 k3 kf0 kf1 kf2 kf3; replace HR := Lib.hid (HR.out.keep hb); clear r0 r1 r2 rf0 rf1 rf2; replace HV := Lib.hid (GnsAt.kept HV.out hb); replace HL := Lib.hid (FdsAt.kept HL.out hb); replace HM := Lib.hid (FdsAt.kept HM.out hb); replace HA := Lib.hid (FdsAt.kept HA.out hb); replace HC := Lib.hid (FdsAt.kept HC.out hb); replace HB := Lib.hid (bch' HB.out hb); clear hb; obtain ⟨k0, k1, k2, k3, kf0, kf1, kf2, kf3⟩ := HK.out.c4; obtain ⟨r0, r1, r2, rf0, rf1, rf2⟩ := HR.out.c3) | (with_reducible refine ((HCO.out _ HK.out HL.out).mono ?_); rintro e w' ⟨pa, ca, rfl, ha, hb⟩; have HA := Lib.hid ha; clear ha; replace HK := Lib.hid (HK.out.keep hb); clear k0 k1 k2 k3 kf0 kf1 kf2 kf3; replace HR := Lib.hid (HR.out.keep hb); clear r0 r1 r2 rf0 rf1 rf2; replace HV := Lib.hid (GnsAt.kept HV.out hb); replace HL := Lib.hid (FdsAt.kept HL.out hb); replace HM := Lib.hid (FdsAt.kept HM.out hb); replace HB := Lib.hid (bch' HB.out hb); clear hb; obtain ⟨k0, k1, k2, k3, kf0, kf1, kf2, kf3⟩ := HK.out.c4; obtain ⟨r0, r1, r2, rf0, rf1, rf2⟩ := HR.out.c3) | (with_reducible refine ((HCM.out _ _ HK.out HM.out).mono ?_); rintro e w' ⟨pb, cb, rfl, hc, hb⟩; have HC := Lib.hid hc; clear hc; replace HK := Lib.hid (HK.out.keep hb); clear k0 k1 k2 k3 kf0 kf1 kf2 kf3; replace HR := Lib.hid (HR.out.keep hb); clear r0 r1 r2 rf0 rf1 rf2; replace HV := Lib.hid (GnsAt.kept HV.out hb); replace HL := Lib.hid (FdsAt.kept HL.out hb); replace HM := Lib.hid (FdsAt.kept HM.out hb); replace HA := Lib.hid (FdsAt.kept HA.out hb); replace HB := Lib.hid (bch' HB.out hb); clear hb; obtain ⟨k0, k1, k2, k3, kf0, kf1, kf2, kf3⟩ := HK.out.c4; obtain ⟨r0, r1, r2, rf0, rf1, rf2⟩ := HR.out.c3) | (with_reducible refine ((HAW.out _ (ENV.out.below HB.out)).mono ?_); rintro e w' ⟨rfl, hb⟩; replace HK := Lib.hid (HK.out.keep hb); clear k0 k1 k2 k3 kf0 kf1 kf2 kf3; replace HR := Lib.hid (HR.out.keep hb); clear r0 r1 r2 rf0 rf1 rf2; replace HV := Lib.hid (GnsAt.kept HV.out hb); replace HL := Lib.hid (FdsAt.kept HL.out hb); replace HM := Lib.hid (FdsAt.kept HM.out hb); replace HB := Lib.hid (bch' HB.out hb); clear hb; obtain ⟨k0, k1, k2, k3, kf0, kf1, kf2, kf3⟩ := HK.out.c4; obtain ⟨r0, r1, r2, rf0, rf1, rf2⟩ := HR.out.c3))
                    go_ret
                    exact ⟨rfl, HB.out⟩
                  · clear hth
                    have hx0 : xi = 0 := by omega
                    clear h3
                    generalize showR (lvlQ nu inh l t) = tl at *
                    generalize showR (lvlQ nu inh L t) = tn at *
                    generalize showR ((xo : Int) : Rat) = tx at *
                    clear hx0
                    have HCK := Lib.hid hck; clear hck
                    have HFS := Lib.hid hfs; clear hfs
                    have T1 := Lib.hid t1; clear t1
                    have T2 := Lib.hid t2; clear t2
                    have T3 := Lib.hid t3; clear t3; have HOM := Lib.hid hom; clear hom
                    have HLV := Lib.hid hlv; clear hlv
                    have HLW := Lib.hid hlw; clear hlw
                    have HLX := Lib.hid hlx; clear hlx
                    have HWH := Lib.hid hwh; clear hwh
                    have HOF := Lib.hid hof; clear hof
                    have HCO := Lib.hid hco; clear hco
                    have HCM := Lib.hid hcm; clear hcm
                    have HSF := Lib.hid hsf; clear hsf
                    go_upto_region 4 with (first | (with_reducible refine ((HCK.out _ HV.out).mono ?_); rintro e w' ⟨rfl, hb⟩; replace HK := Lib.hid (HK.out.keep hb); clear k0 k1 k2 k3 kf0 kf1 kf2 kf3; replace HR := Lib.hid (HR.out.keep hb); clear r0 r1 r2 rf0 rf1 rf2; replace HV := Lib.hid (GnsAt.kept HV.out hb); replace HL := Lib.hid (FdsAt.kept HL.out hb); replace HB := Lib.hid (bch' HB.out hb); clear hb; obtain ⟨k0, k1, k2, k3, kf0, kf1, kf2, kf3⟩ := HK.out.c4; obtain ⟨r0, r1, r2, rf0, rf1, rf2⟩ := HR.out.c3) | (with_reducible refine ((HFS.out _ HL.out).mono ?_); rintro e w' ⟨rfl, hb⟩; replace HK := Lib.hid (HK.out.keep hb); clear k0 k1 k2 k3 kf0 kf1 kf2 kf3; replace HR := Lib.hid (HR.out.keep hb); clear r0 r1 r2 rf0 rf1 rf2; replace HV := Lib.hid (GnsAt.kept HV.out hb); replace HL := Lib.hid (FdsAt.kept HL.out hb); replace HB := Lib.hid (bch' HB.out hb); clear hb; obtain ⟨k0, k1, k2, k3, kf0, kf1, kf2, kf3⟩ := HK.out.c4; obtain ⟨r0, r1, r2, rf0, rf1, rf2⟩ := HR.out.c3) | (with_reducible refine ((T1.out _).mono ?_); rintro e w' ⟨rfl, rfl⟩) | (with_reducible refine ((T2.out _).mono ?_); rintro e w' ⟨rfl, rfl⟩) | (with_reducible refine ((T3.out _).mono ?_); rintro e w' ⟨rfl, rfl⟩) | (with_reducible refine ((HOM.out _ HV.out HL.out (ENV.out.below HB.out)).mono ?_); rintro e w' ⟨pm, cm, rfl, hmo, hb⟩; have HM := Lib.hid (OwnR.fds hmo); clear hmo; replace HK := Lib.hid (HK.out.keep hb); clear k0 k1 k2 k3 kf0 kf1 kf2 kf3; replace HR := Lib.hid (HR.out.keep hb); clear r0 r1 r2 rf0 rf1 rf2; replace HV := Lib.hid (GnsAt.kept HV.out hb); replace HL := Lib.hid (FdsAt.kept HL.out hb); replace HB := Lib.hid (bch' HB.out hb); clear hb; obtain ⟨k0, k1, k2, k3, kf0, kf1, kf2, kf3⟩ := HK.out.c4; obtain ⟨r0, r1, r2, rf0, rf1, rf2⟩ := HR.out.c3))
                    go_upto_region 11 with (first | (with_reducible refine ((HLV.out _ HV.out HL.out (ENV.out.below HB.out)).mono ?_); rintro e w' ⟨rfl, hb⟩; replace HK := Lib.hid (HK.out.keep hb); clear k0 k1 k2 k3 kf0 kf1 kf2 kf3; replace HR := Lib.hid (HR.out.keep hb); clear r0 r1 r2 rf0 rf1 rf2; replace HV := Lib.hid (GnsAt.kept HV.out hb); replace HL := Lib.hid (FdsAt.kept HL.out hb); replace HM := Lib.hid (FdsAt.kept HM.out hb); replace HB := Lib.hid (bch' HB.out hb); clear hb; obtain ⟨k0, k1, k2, k3, kf0, kf1, kf2, kf3⟩ := HK.out.c4; obtain ⟨r0, r1, r2, rf0, rf1, rf2⟩ := HR.out.c3) | (with_reducible refine ((HLW.out _ _ HV.out HM.out (ENV.out.below HB.out)).mono ?_); rintro e w' ⟨rfl, hb⟩; replace HK := Lib.hid (HK.out.keep hb); clear k0 k1 k2 k3 kf0 kf1 kf2 kf3; replace HR := Lib.hid (HR.out.keep hb); clear r0 r1 r2 rf0 rf1 rf2; replace HV := Lib.hid (GnsAt.kept HV.out hb); replace HL := Lib.hid (FdsAt.kept HL.out hb); replace HM := Lib.hid (FdsAt.kept HM.out hb); replace HB := Lib.hid (bch' HB.out hb); clear hb; obtain ⟨k0, k1, k2, k3, kf0, kf1, kf2, kf3⟩ := HK.out.c4; obtain ⟨r0, r1, r2, rf0, rf1, rf2⟩ := HR.out.c3) | (with_reducible refine ((HLX.out _ _ HV.out HM.out (ENV.out.below HB.out)).mono ?_); rintro e w' ⟨rfl, hb⟩; replace HK := Lib.hid (HK.out.keep hb); clear k0 k1 k2 k3 kf0 kf1 kf2 kf3; replace HR := Lib.hid (HR.out.keep hb); clear r0 r1 r2 rf0 rf1 rf2; replace HV := Lib.hid (GnsAt.kept HV.out hb); replace HL := Lib.hid (FdsAt.kept HL.out hb); replace HM := Lib.hid (FdsAt.kept HM.out hb); replace HB := Lib.hid (bch' HB.out hb); clear hb; obtain ⟨k0, k1, k2, k3, kf0, kf1, kf2, kf3⟩ := HK.out.c4; obtain ⟨r0, r1, r2, rf0, rf1, rf2⟩ := HR.out.c3) | (with_reducible refine ((HWH.out _).mono ?_); rintro e w' ⟨rfl, hb⟩; replace HK := Lib.hid (HK.out.keep hb); clear k0 k1 k2 k3 kf0 kf1 kf2 kf3; replace HR := Lib.hid (HR.out.keep hb); clear r0 r1 r2 rf0 rf1 rf2; replace HV := Lib.hid (GnsAt.kept HV.out hb); replace HL := Lib.hid (FdsAt.kept HL.out hb); replace HM := Lib.hid (FdsAt.kept HM.out hb); replace HB := Lib.hid (bch' HB.out hb); clear hb; obtain ⟨k0, k1, k2, k3, kf0, kf1, kf2, kf3⟩ := HK.out.c4; obtain ⟨r0, r1, r2, rf0, rf1, rf2⟩ := HR.out.c3) | (with_reducible refine ((HOF.out _ _ HM.out (ENV.out.below HB.out)).mono ?_); rintro e w' ⟨rfl, hb⟩; replace HK := Lib.hid (HK.out.keep hb); clear k0 k1 k2 k3 kf0 kf1 kf2 kf3; replace HR := Lib.hid (HR.out.keep hb); clear r0 r1 r2 rf0 rf1 rf2; replace HV := Lib.hid (GnsAt.kept HV.out hb); replace HL := Lib.hid (FdsAt.kept HL.out hb); replace HM := Lib.hid (FdsAt.kept HM.out hb); replace HB := Lib.hid (bch' HB.out hb); clear hb; obtain ⟨k0, k1, k2, k3, kf0, kf1, kf2, kf3⟩ := HK.out.c4; obtain ⟨r0, r1, r2, rf0, rf1, rf2⟩ := HR.out.c3))
                    go_wp2_with (first | (with_reducible refine ((HSF.out _ _ _ HA.out HC.out).mono ?_); rintro e w' ⟨rfl, hb⟩; replace HK := Lib.hid (HK.out.keep hb); clear k0 k1 k2 k3 kf0 kf1 kf2 kf3; replace HR := Lib.hid (HR.out.keep hb); clear r0 r1 r2 rf0 rf1 rf2; replace HV := Lib.hid (GnsAt.kept HV.out hb); replace HL := Lib.hid (FdsAt.kept HL.out hb); replace HM := Lib.hid (FdsAt.kept HM.out hb); replace HA := Lib.hid (FdsAt.kept HA.out hb); replace HC := Lib.hid (FdsAt.kept HC.out hb); replace HB := Lib.hid (bch' HB.out hb); clear hb; obtain ⟨k0, k1, k2, k3, kf0, kf1, kf2, kf3⟩ := HK.out.c4; obtain ⟨r0, r1, r2, rf0, rf1, rf2⟩ := HR.out.c3) | (with_reducible refine ((HCO.out _ HK.out HL.out).mono ?_); rintro e w' ⟨pa, ca, rfl, ha, hb⟩; have HA := Lib.hid ha; clear ha; replace HK := Lib.hid (HK.out.keep hb); clear k0 k1 k2 k3 kf0 kf1 kf2 kf3; replace HR := Lib.hid (HR.out.keep hb); clear r0 r1 r2 rf0 rf1 rf2; replace HV := Lib.hid (GnsAt.kept HV.out hb); replace HL := Lib.hid (FdsAt.kept HL.out hb); replace HM := Lib.hid (FdsAt.kept HM.out hb); replace HB := Lib.hid (bch' HB.out hb); clear hb; obtain ⟨k0, k1, k2, k3, kf0, kf1, kf2, kf3⟩ := HK.out.c4; obtain ⟨r0, r1, r2, rf0, rf1, rf2⟩ := HR.out.c3) | (with_reducible refine ((HCM.out _ _ HK.out HM.out).mono ?_); rintro e w' ⟨pb, cb, rfl, hc, hb⟩; have HC := Lib.hid hc; clear hc; replace HK := Lib.hid (HK.out.keep hb); clear k0 k1 k2 k3 kf0 kf1 kf2 kf3; replace HR := Lib.hid (HR.out.keep hb); clear r0 r1 r2 rf0 rf1 rf2; replace HV := Lib.hid (GnsAt.kept HV.out hb); replace HL := Lib.hid (FdsAt.kept HL.out hb); replace HM := Lib.hid (FdsAt.kept HM.out hb); replace HA := Lib.hid (FdsAt.kept HA.out hb); replace HB := Lib.hid (bch' HB.out hb); clear hb; obtain ⟨k0, k1, k2, k3, kf0, kf1, kf2, kf3⟩ := HK.out.c4; obtain ⟨r0, r1, r2, rf0, rf1, rf2⟩ := HR.out.c3) | (with_reducible refine ((HAW.out _ (ENV.out.below HB.out)).mono ?_); rintro e w' ⟨rfl, hb⟩; replace HK := Lib.hid (HK.out.keep hb); clear k0 k1 k2 k3 kf0 kf1 kf2 kf3; replace HR := Lib.hid (HR.out.keep hb); clear r0 r1 r2 rf0 rf1 rf2; replace HV := Lib.hid (GnsAt.kept HV.out hb); replace HL := Lib.hid (FdsAt.kept HL.out hb); replace HM := Lib.hid (FdsAt.kept HM.out hb); replace HB := Lib.hid (bch' HB.out hb); clear hb; obtain ⟨k0, k1, k2, k3, kf0, kf1, kf2, kf3⟩ := HK.out.c4; obtain ⟨r0, r1, r2, rf0, rf1, rf2⟩ := HR.out.c3))
                    go_ret
                    exact ⟨rfl, HB.out⟩
              · rw [decide_eq_true h1] at t1
                rw [decide_eq_true h2] at t2
                rw [decide_eq_false h3] at t3
                clear h1 h2 h3
                clear hs hf hlen
                have HCK := Lib.hid hck; clear hck
                have HFS := Lib.hid hfs; clear hfs
                have T1 := Lib.hid t1; clear t1
                have T2 := Lib.hid t2; clear t2
                have T3 := Lib.hid t3; clear t3
                go_wp2_with (first | (with_reducible refine ((HCK.out _ HV.out).mono ?_); rintro e w' ⟨rfl, hb⟩; replace HK := Lib.hid (HK.out.keep hb); clear k0 k1 k2 k3 kf0 kf1 kf2 kf3; replace HR := Lib.hid (HR.out.keep hb); clear r0 r1 r2 rf0 rf1 rf2; replace HV := Lib.hid (GnsAt.kept HV.out hb); replace HL := Lib.hid (FdsAt.kept HL.out hb); replace HB := Lib.hid (bch' HB.out hb); clear hb; obtain ⟨k0, k1, k2, k3, kf0, kf1, kf2, kf3⟩ := HK.out.c4; obtain ⟨r0, r1, r2, rf0, rf1, rf2⟩ := HR.out.c3) | (with_reducible refine ((HFS.out _ HL.out).mono ?_); rintro e w' ⟨rfl, hb⟩; replace HK := Lib.hid (HK.out.keep hb); clear k0 k1 k2 k3 kf0 kf1 kf2 kf3; replace HR := Lib.hid (HR.out.keep hb); clear r0 r1 r2 rf0 rf1 rf2; replace HV := Lib.hid (GnsAt.kept HV.out hb); replace HL := Lib.hid (FdsAt.kept HL.out hb); replace HB := Lib.hid (bch' HB.out hb); clear hb; obtain ⟨k0, k1, k2, k3, kf0, kf1, kf2, kf3⟩ := HK.out.c4; obtain ⟨r0, r1, r2, rf0, rf1, rf2⟩ := HR.out.c3) | (with_reducible refine ((HAW.out _ (ENV.out.below HB.out)).mono ?_); rintro e w' ⟨rfl, hb⟩; replace HK := Lib.hid (HK.out.keep hb); clear k0 k1 k2 k3 kf0 kf1 kf2 kf3; replace HR := Lib.hid (HR.out.keep hb); clear r0 r1 r2 rf0 rf1 rf2; replace HV := Lib.hid (GnsAt.kept HV.out hb); replace HL := Lib.hid (FdsAt.kept HL.out hb); replace HB := Lib.hid (bch' HB.out hb); clear hb; obtain ⟨k0, k1, k2, k3, kf0, kf1, kf2, kf3⟩ := HK.out.c4; obtain ⟨r0, r1, r2, rf0, rf1, rf2⟩ := HR.out.c3) | (with_reducible refine ((T1.out _).mono ?_); rintro e w' ⟨rfl, rfl⟩) | (with_reducible refine ((T2.out _).mono ?_); rintro e w' ⟨rfl, rfl⟩) | (with_reducible refine ((T3.out _).mono ?_); rintro e w' ⟨rfl, rfl⟩))
                go_ret
                exact ⟨rfl, HB.out⟩
            · rw [decide_eq_true h1] at t1
              rw [decide_eq_false h2] at t2
              clear h1 h2
              clear hs hf hlen
              have HCK := Lib.hid hck; clear hck
              have HFS := Lib.hid hfs; clear hfs
              have T1 := Lib.hid t1; clear t1
              have T2 := Lib.hid t2; clear t2
              have T3 := Lib.hid t3; clear t3
              go_wp2_with (first | (with_reducible refine ((HCK.out _ HV.out).mono ?_); rintro e w' ⟨rfl, hb⟩; replace HK := Lib.hid (HK.out.keep hb); clear k0 k1 k2 k3 kf0 kf1 kf2 kf3; replace HR := Lib.hid (HR.out.keep hb); clear r0 r1 r2 rf0 rf1 rf2; replace HV := Lib.hid (GnsAt.kept HV.out hb); replace HL := Lib.hid (FdsAt.kept HL.out hb); replace HB := Lib.hid (bch' HB.out hb); clear hb; obtain ⟨k0, k1, k2, k3, kf0, kf1, kf2, kf3⟩ := HK.out.c4; obtain ⟨r0, r1, r2, rf0, rf1, rf2⟩ := HR.out.c3) | (with_reducible refine ((HFS.out _ HL.out).mono ?_); rintro e w' ⟨rfl, hb⟩; replace HK := Lib.hid (HK.out.keep hb); clear k0 k1 k2 k3 kf0 kf1 kf2 kf3; replace HR := Lib.hid (HR.out.keep hb); clear r0 r1 r2 rf0 rf1 rf2; replace HV := Lib.hid (GnsAt.kept HV.out hb); replace HL := Lib.hid (FdsAt.kept HL.out hb); replace HB := Lib.hid (bch' HB.out hb); clear hb; obtain ⟨k0, k1, k2, k3, kf0, kf1, kf2, kf3⟩ := HK.out.c4; obtain ⟨r0, r1, r2, rf0, rf1, rf2⟩ := HR.out.c3) | (with_reducible refine ((HAW.out _ (ENV.out.below HB.out)).mono ?_); rintro e w' ⟨rfl, hb⟩; replace HK := Lib.hid (HK.out.keep hb); clear k0 k1 k2 k3 kf0 kf1 kf2 kf3; replace HR := Lib.hid (HR.out.keep hb); clear r0 r1 r2 rf0 rf1 rf2; replace HV := Lib.hid (GnsAt.kept HV.out hb); replace HL := Lib.hid (FdsAt.kept HL.out hb); replace HB := Lib.hid (bch' HB.out hb); clear hb; obtain ⟨k0, k1, k2, k3, kf0, kf1, kf2, kf3⟩ := HK.out.c4; obtain ⟨r0, r1, r2, rf0, rf1, rf2⟩ := HR.out.c3) | (with_reducible refine ((T1.out _).mono ?_); rintro e w' ⟨rfl, rfl⟩) | (with_reducible refine ((T2.out _).mono ?_); rintro e w' ⟨rfl, rfl⟩) | (with_reducible refine ((T3.out _).mono ?_); rintro e w' ⟨rfl, rfl⟩))
              go_ret
              exact ⟨rfl, HB.out⟩
          · rw [decide_eq_false h1] at t1
            clear h1
            clear hs hf hlen
            have HCK := Lib.hid hck; clear hck
            have HFS := Lib.hid hfs; clear hfs
            have T1 := Lib.hid t1; clear t1
            have T2 := Lib.hid t2; clear t2
            have T3 := Lib.hid t3; clear t3
            go_wp2_with (first | (with_reducible refine ((HCK.out _ HV.out).mono ?_); rintro e w' ⟨rfl, hb⟩; replace HK := Lib.hid (HK.out.keep hb); clear k0 k1 k2 k3 kf0 kf1 kf2 kf3; replace HR := Lib.hid (HR.out.keep hb); clear r0 r1 r2 rf0 rf1 rf2; replace HV := Lib.hid (GnsAt.kept HV.out hb); replace HL := Lib.hid (FdsAt.kept HL.out hb); replace HB := Lib.hid (bch' HB.out hb); clear hb; obtain ⟨k0, k1, k2, k3, kf0, kf1, kf2, kf3⟩ := HK.out.c4; obtain ⟨r0, r1, r2, rf0, rf1, rf2⟩ := HR.out.c3) | (with_reducible refine ((HFS.out _ HL.out).mono ?_); rintro e w' ⟨rfl, hb⟩; replace HK := Lib.hid (HK.out.keep hb); clear k0 k1 k2 k3 kf0 kf1 kf2 kf3; replace HR := Lib.hid (HR.out.keep hb); clear r0 r1 r2 rf0 rf1 rf2; replace HV := Lib.hid (GnsAt.kept HV.out hb); replace HL := Lib.hid (FdsAt.kept HL.out hb); replace HB := Lib.hid (bch' HB.out hb); clear hb; obtain ⟨k0, k1, k2, k3, kf0, kf1, kf2, kf3⟩ := HK.out.c4; obtain ⟨r0, r1, r2, rf0, rf1, rf2⟩ := HR.out.c3) | (with_reducible refine ((HAW.out _ (ENV.out.below HB.out)).mono ?_); rintro e w' ⟨rfl, hb⟩; replace HK := Lib.hid (HK.out.keep hb); clear k0 k1 k2 k3 kf0 kf1 kf2 kf3; replace HR := Lib.hid (HR.out.keep hb); clear r0 r1 r2 rf0 rf1 rf2; replace HV := Lib.hid (GnsAt.kept HV.out hb); replace HL := Lib.hid (FdsAt.kept HL.out hb); replace HB := Lib.hid (bch' HB.out hb); clear hb; obtain ⟨k0, k1, k2, k3, kf0, kf1, kf2, kf3⟩ := HK.out.c4; obtain ⟨r0, r1, r2, rf0, rf1, rf2⟩ := HR.out.c3) | (with_reducible refine ((T1.out _).mono ?_); rintro e w' ⟨rfl, rfl⟩) | (with_reducible refine ((T2.out _).mono ?_); rintro e w' ⟨rfl, rfl⟩) | (with_reducible refine ((T3.out _).mono ?_); rintro e w' ⟨rfl, rfl⟩))
            go_ret
            exact ⟨rfl, HB.out⟩
        · have hne : ((facE l : Int) != 0) = true := by simpa using hf
          clear hs hf hlen
          generalize facE l = m at *
          have HCK := Lib.hid hck; clear hck
          have HFS := Lib.hid hfs; clear hfs
          have T1 := Lib.hid t1; clear t1
          have T2 := Lib.hid t2; clear t2
          have T3 := Lib.hid t3; clear t3
          go_wp2_with (first | (with_reducible refine ((HCK.out _ HV.out).mono ?_); rintro e w' ⟨rfl, hb⟩; replace HK := Lib.hid (HK.out.keep hb); clear k0 k1 k2 k3 kf0 kf1 kf2 kf3; replace HR := Lib.hid (HR.out.keep hb); clear r0 r1 r2 rf0 rf1 rf2; replace HV := Lib.hid (GnsAt.kept HV.out hb); replace HL := Lib.hid (FdsAt.kept HL.out hb); replace HB := Lib.hid (bch' HB.out hb); clear hb; obtain ⟨k0, k1, k2, k3, kf0, kf1, kf2, kf3⟩ := HK.out.c4; obtain ⟨r0, r1, r2, rf0, rf1, rf2⟩ := HR.out.c3) | (with_reducible refine ((HFS.out _ HL.out).mono ?_); rintro e w' ⟨rfl, hb⟩; replace HK := Lib.hid (HK.out.keep hb); clear k0 k1 k2 k3 kf0 kf1 kf2 kf3; replace HR := Lib.hid (HR.out.keep hb); clear r0 r1 r2 rf0 rf1 rf2; replace HV := Lib.hid (GnsAt.kept HV.out hb); replace HL := Lib.hid (FdsAt.kept HL.out hb); replace HB := Lib.hid (bch' HB.out hb); clear hb; obtain ⟨k0, k1, k2, k3, kf0, kf1, kf2, kf3⟩ := HK.out.c4; obtain ⟨r0, r1, r2, rf0, rf1, rf2⟩ := HR.out.c3) | (with_reducible refine ((HAW.out _ (ENV.out.below HB.out)).mono ?_); rintro e w' ⟨rfl, hb⟩; replace HK := Lib.hid (HK.out.keep hb); clear k0 k1 k2 k3 kf0 kf1 kf2 kf3; replace HR := Lib.hid (HR.out.keep hb); clear r0 r1 r2 rf0 rf1 rf2; replace HV := Lib.hid (GnsAt.kept HV.out hb); replace HL := Lib.hid (FdsAt.kept HL.out hb); replace HB := Lib.hid (bch' HB.out hb); clear hb; obtain ⟨k0, k1, k2, k3, kf0, kf1, kf2, kf3⟩ := HK.out.c4; obtain ⟨r0, r1, r2, rf0, rf1, rf2⟩ := HR.out.c3))
          go_ret
          exact ⟨rfl, HB.out⟩
      · have hne : ((subE nu pr inh gs : Int) != 0) = true := by simpa using hs
        clear hs hlen
        generalize subE nu pr inh gs = m at *
        have HCK := Lib.hid hck; clear hck
        have HFS := Lib.hid hfs; clear hfs
        have T1 := Lib.hid t1; clear t1
        have T2 := Lib.hid t2; clear t2
        have T3 := Lib.hid t3; clear t3
        go_wp2_with (first | (with_reducible refine ((HCK.out _ HV.out).mono ?_); rintro e w' ⟨rfl, hb⟩; replace HK := Lib.hid (HK.out.keep hb); clear k0 k1 k2 k3 kf0 kf1 kf2 kf3; replace HR := Lib.hid (HR.out.keep hb); clear r0 r1 r2 rf0 rf1 rf2; replace HV := Lib.hid (GnsAt.kept HV.out hb); replace HL := Lib.hid (FdsAt.kept HL.out hb); replace HB := Lib.hid (bch' HB.out hb); clear hb; obtain ⟨k0, k1, k2, k3, kf0, kf1, kf2, kf3⟩ := HK.out.c4; obtain ⟨r0, r1, r2, rf0, rf1, rf2⟩ := HR.out.c3) | (with_reducible refine ((HAW.out _ (ENV.out.below HB.out)).mono ?_); rintro e w' ⟨rfl, hb⟩; replace HK := Lib.hid (HK.out.keep hb); clear k0 k1 k2 k3 kf0 kf1 kf2 kf3; replace HR := Lib.hid (HR.out.keep hb); clear r0 r1 r2 rf0 rf1 rf2; replace HV := Lib.hid (GnsAt.kept HV.out hb); replace HL := Lib.hid (FdsAt.kept HL.out hb); replace HB := Lib.hid (bch' HB.out hb); clear hb; obtain ⟨k0, k1, k2, k3, kf0, kf1, kf2, kf3⟩ := HK.out.c4; obtain ⟨r0, r1, r2, rf0, rf1, rf2⟩ := HR.out.c3))
        go_ret
        exact ⟨rfl, HB.out⟩
end Go.Proofs.YtkjelfmgnkkijaaGreatDoor

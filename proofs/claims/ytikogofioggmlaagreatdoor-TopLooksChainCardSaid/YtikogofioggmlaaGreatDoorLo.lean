/-
  The entries in which two looks differ.
-/
import Derived.Test.YtikogofioggmlaaGreatDoorLn
set_option linter.unusedVariables false
set_option linter.unusedSimpArgs false
namespace Lum
open Go Go.RowKit Go.Shelf
open Go.Lib (decDigits itoa)
theorem difL_le : ∀ (a b : List Ent), (difL a b).length ≤ b.length
  | [], b => by simp [difL]
  | _ :: _, [] => by simp [difL]
  | x :: r, y :: s => by
    have := difL_le r s
    rw [difL, List.length_append]
    split <;> simp <;> omega
theorem difL_takes_le (a b : List Ent) (k : Nat) : (difL (a.take k) (b.take k)).length ≤ b.length :=
  Nat.le_trans (difL_le _ _) (by rw [List.length_take]; omega)
theorem difL_same {a b : List Ent} {k : Nat} (h1 : k < a.length) (h2 : k < b.length) (h : (a[k]'h1).va = (b[k]'h2).va) : difL (a.take (k + 1)) (b.take (k + 1)) = difL (a.take k) (b.take k) := by
  rw [difL_take h1 h2, if_neg (by simpa using h), List.append_nil]
theorem difL_more {a b : List Ent} {k : Nat} (h1 : k < a.length) (h2 : k < b.length) (h : (a[k]'h1).va ≠ (b[k]'h2).va) : difL (a.take (k + 1)) (b.take (k + 1)) = difL (a.take k) (b.take k) ++ [b[k]'h2] := by
  rw [difL_take h1 h2, if_pos h]
theorem va_eq {x y : Ent} : x.va = y.va ↔ x.pa = y.pa ∧ x.lv = y.lv := by unfold Ent.va; exact Prod.mk.injEq .. ▸ Iff.rfl
end Lum
namespace Go.Proofs.YtikogofioggmlaaGreatDoor
open Go.RowKit Go.Shelf Lum
open Go.Lib (decDigits itoa)
attribute [local go_sem] bs_get bs_extract_end bs_extract_from bs_extract bs_append

theorem info_eno : (Tryz.prog.info? 43).map (fun i => (i.zero, i.size, i.bytes)) = some (some (.agg #[.int .i64 0, .int .i64 0, .int .i64 0, .int .i64 0]), 4, 32) := by kernel_rfl
theorem va_neq_f (W : World) (a b : Int) : (binOp .neq 41 (.agg #[.int .i64 a, .int .i64 b]) (.agg #[.int .i64 a, .int .i64 b])).run Tryz.prog W = .ok (.bool false) W := by
  have h1 : Tryz.prog.underlying 41 = some (.struct (Tryz.prog.fieldsOf 41)) := by kernel_rfl
  have h2 : Tryz.prog.stoodInHeld 41 = false := by kernel_rfl
  rw [run_neq_struct, run_equalIn_agg W 9999 _ _ _ h1 h2]
  have hf := TypeDesc.struct.inj (Option.some.inj (h1.symm.trans Tryz.underlying41))
  rw [hf]
  simp [Op.eqFields, go_sem, Tryz.underlying3]
theorem va_neq_t (W : World) (a b c d : Int) (h : ¬ (a = c ∧ b = d)) : (binOp .neq 41 (.agg #[.int .i64 a, .int .i64 b]) (.agg #[.int .i64 c, .int .i64 d])).run Tryz.prog W = .ok (.bool true) W := by
  have h1 : Tryz.prog.underlying 41 = some (.struct (Tryz.prog.fieldsOf 41)) := by kernel_rfl
  have h2 : Tryz.prog.stoodInHeld 41 = false := by kernel_rfl
  rw [run_neq_struct, run_equalIn_agg W 9999 _ _ _ h1 h2]
  have hf := TypeDesc.struct.inj (Option.some.inj (h1.symm.trans Tryz.underlying41))
  rw [hf]
  by_cases e1 : a = c
  · have e2 : ¬ b = d := fun g => h ⟨e1, g⟩
    simp [Op.eqFields, go_sem, Tryz.underlying3, e1, e2]
  · simp [Op.eqFields, go_sem, Tryz.underlying3, e1]
set_option maxRecDepth 100000 in
set_option maxHeartbeats 4000000 in
theorem own_different (a b : List Ent) (pa pb : Option Addr) (ca cb : Nat) (w : World) (ha : RowX encEn 4 w pa a) (hb_ : RowX encEn 4 w pb b) (hab : a.length = b.length) (hl : b.length ≤ 100000) :
    Calls Tryz.prog 19 #[.slice pa a.length ca, .slice pb b.length cb] w fun e w' => ∃ q d, e = .returned (.slice q (difL a b).length d) ∧ OwnR encEn 4 w.heap.size 43 w' q d (difL a b) ∧ Below w.heap.size w w' := by
  have HRA := Lib.hid ha; have HRB := Lib.hid hb_; have HAB := Lib.hid hab; have HLN := Lib.hid hl; clear ha hb_ hab hl
  have HB := Lib.hid (Below.refl w.heap.size w)
  obtain ⟨i0, hi, hz0, hz1, hz2⟩ := info_parts info_eno
  go_enter Tryz.func19, Tryz.ntmps19
  go_wp2_with fail
  go_loopw [5, 10] (fun s j wr => ∃ (k n : Nat) (pp : Option Addr) (cc : Nat), s = .slice pp n cc ∧ j = .int .i64 (k : Int) ∧ k ≤ b.length ∧ Hid (n = (difL (a.take k) (b.take k)).length) ∧ Hid (Below w.heap.size w wr) ∧ Hid (OwnR encEn 4 w.heap.size 43 wr pp cc (difL (a.take k) (b.take k)))) (fun _ j _ => b.length - (intOf j).toNat)
  case atStart => exact ⟨0, 0, none, 0, rfl, rfl, Nat.zero_le _, Lib.hid (by simp [difL]), HB, Lib.hid (by rw [List.take_zero, List.take_zero]; exact OwnR.nil _ _ _)⟩
  case round =>
    obtain ⟨k, n, pp, cc, rfl, rfl, hk9, HN, HB2, HO⟩ := hrel
    clear HB
    have HB := HB2; clear HB2
    by_cases hkl : k < b.length
    · have hlt : (k : Int) < (b.length : Int) := by omega
      have hk0 : (0 : Int) ≤ (k : Int) := by omega
      have hal : k < a.length := by rw [HAB.out]; exact hkl
      have hlta : (k : Int) < (a.length : Int) := by omega
      have hlo : k * 4 < 9223372036854775807 := by have := HLN.out; omega
      have hun : IntKind.i64.wrap ((k : Int) + 1) = (k : Int) + 1 := IntWalk.i64_in _ (by have := HLN.out; omega)
      obtain ⟨yb, yo, hyp, yh, yC⟩ := HRB.out (fun h => by rw [h] at hkl; exact absurd hkl (Nat.not_lt_zero _))
      obtain ⟨v, hv⟩ : ∃ z, z = b[k]'hkl := ⟨_, rfl⟩
      have ycell := yC k hkl
      rw [← hv] at ycell
      subst hyp
      have y0 : wr.cell? ⟨yb, yo + k * 4, none⟩ = some (.int .i64 (v.ch)) := (HB.out.cell (p := ⟨yb, yo + k * 4 + 0, none⟩) yh).trans (ycell 0 _ rfl)
      have y1 : wr.cell? ⟨yb, yo + k * 4 + 1, none⟩ = some (.int .i64 (v.at_)) := (HB.out.cell (p := ⟨yb, yo + k * 4 + 1, none⟩) yh).trans (ycell 1 _ rfl)
      have y2 : wr.cell? ⟨yb, yo + k * 4 + 2, none⟩ = some (.int .i64 (v.pa)) := (HB.out.cell (p := ⟨yb, yo + k * 4 + 2, none⟩) yh).trans (ycell 2 _ rfl)
      have y3 : wr.cell? ⟨yb, yo + k * 4 + 3, none⟩ = some (.int .i64 (v.lv)) := (HB.out.cell (p := ⟨yb, yo + k * 4 + 3, none⟩) yh).trans (ycell 3 _ rfl)
      have yr : yb < wr.heap.size := Nat.lt_of_lt_of_le yh HB.out.size
      obtain ⟨xb, xo, hxp, xh, xC⟩ := HRA.out (fun h => by rw [h] at hal; exact absurd hal (Nat.not_lt_zero _))
      obtain ⟨u, hu⟩ : ∃ z, z = a[k]'hal := ⟨_, rfl⟩
      have xcell := xC k hal
      rw [← hu] at xcell
      subst hxp
      have x0 : wr.cell? ⟨xb, xo + k * 4, none⟩ = some (.int .i64 (u.ch)) := (HB.out.cell (p := ⟨xb, xo + k * 4 + 0, none⟩) xh).trans (xcell 0 _ rfl)
      have x1 : wr.cell? ⟨xb, xo + k * 4 + 1, none⟩ = some (.int .i64 (u.at_)) := (HB.out.cell (p := ⟨xb, xo + k * 4 + 1, none⟩) xh).trans (xcell 1 _ rfl)
      have x2 : wr.cell? ⟨xb, xo + k * 4 + 2, none⟩ = some (.int .i64 (u.pa)) := (HB.out.cell (p := ⟨xb, xo + k * 4 + 2, none⟩) xh).trans (xcell 2 _ rfl)
      have x3 : wr.cell? ⟨xb, xo + k * 4 + 3, none⟩ = some (.int .i64 (u.lv)) := (HB.out.cell (p := ⟨xb, xo + k * 4 + 3, none⟩) xh).trans (xcell 3 _ rfl)
      have xr : xb < wr.heap.size := Nat.lt_of_lt_of_le xh HB.out.size
      have HU := Lib.hid hu; have HVV := Lib.hid hv
      have HXR := Lib.hid xr; have HA2 := Lib.hid x2; have HA3 := Lib.hid x3
      clear hu hv x0 x1 x2 x3 xr xcell xC xh ycell yC
      go_upto_region 5 with fail
      clear y0 y1 y2 y3 yr yh
      have hb := (Below.refl wr.heap.size wr).alloc (Nat.le_refl _) (.cells #[.int .i64 (v.ch), .int .i64 (v.at_), .int .i64 (v.pa), .int .i64 (v.lv)] 43)
      have HA2w := Lib.hid ((hb.cell (p := ⟨xb, xo + k * 4 + 2, none⟩) HXR.out).trans HA2.out); have HA3w := Lib.hid ((hb.cell (p := ⟨xb, xo + k * 4 + 3, none⟩) HXR.out).trans HA3.out); have HXRw := Lib.hid (Nat.lt_of_lt_of_le HXR.out hb.size)
      clear HA2 HA3 HXR
      have HA2 := HA2w; have HA3 := HA3w; have HXR := HXRw; clear HA2w HA3w HXRw
      have HX := Lib.hid (Blk.new wr 43 #[.int .i64 (v.ch), .int .i64 (v.at_), .int .i64 (v.pa), .int .i64 (v.lv)])
      obtain ⟨n8, hn8⟩ : ∃ n, n = wr.heap.size := ⟨_, rfl⟩
      obtain ⟨Wa, hWWa⟩ : ∃ X, X = wr.alloc (.cells #[.int .i64 (v.ch), .int .i64 (v.at_), .int .i64 (v.pa), .int .i64 (v.lv)] 43) := ⟨_, rfl⟩
      rw [← hn8] at HX ⊢
      rw [← hWWa] at hb HX HA2 HA3 HXR ⊢
      replace HO := Lib.hid (OwnR.keep HO.out hb); replace HB := Lib.hid (bch' HB.out hb); clear hb
      clear hWWa hn8
      skip
      by_cases hva : u.va = v.va
      · obtain ⟨e1, e2⟩ := va_eq.1 hva
        have HD : Hid ((difL (a.take (k + 1)) (b.take (k + 1))) = (difL (a.take k) (b.take k))) := Lib.hid (difL_same hal hkl (by rw [← HU.out, ← HVV.out]; exact hva))
        have hneqr := fun W => va_neq_f W v.pa v.lv
        rw [e1] at HA2; rw [e2] at HA3
        clear hva e1 e2
        have q2 := fun p : BelowOf _ => (HX.out.keep p.h).c4.2.2.1
        have q3 := fun p : BelowOf _ => (HX.out.keep p.h).c4.2.2.2.1
        have a2 := fun p : BelowOf _ => (p.h.cell (p := ⟨xb, xo + k * 4 + 2, none⟩) HXR.out).trans HA2.out
        have a3 := fun p : BelowOf _ => (p.h.cell (p := ⟨xb, xo + k * 4 + 3, none⟩) HXR.out).trans HA3.out
        have zz := fun p : BelowOf _ => Nat.lt_of_lt_of_le HXR.out p.h.size
        refine wp_region_WQ (by kernel_rfl) (by kernel_rfl) ?_
        repeat (refine WQ.step (fun K hK => ?_); go_simp; first | (refine hK.out _ ?_; clear hK K) | (apply Exists.intro; refine ⟨fun _ => ?_, hK.out _ ?_⟩; (first | rfl); clear hK K))
        refine WQ.nil ?_
        intro wz hw'
        obtain ⟨⟨wq, hbq⟩, hw2⟩ := hw'
        subst hw2
        replace HX := Lib.hid (HX.out.keep hbq); replace HO := Lib.hid (HO.out.keep hbq)
        replace HB := Lib.hid (bch' HB.out hbq)
        clear q2 q3 a2 a3 zz
        clear hneqr
        go_wp2_with fail
        go_roundw
        case rel => exact ⟨k + 1, n, pp, cc, by first | rfl | simp, by first | rfl | simp, by omega, Lib.hid (by rw [HD.out]; exact HN.out), HB, Lib.hid (by rw [HD.out]; exact HO.out)⟩
        case measure => first | (simp [intOf]; done) | (simp [intOf]; omega)
      · have HD : Hid ((difL (a.take (k + 1)) (b.take (k + 1))) = (difL (a.take k) (b.take k)) ++ [v]) := Lib.hid (by rw [difL_more hal hkl (by rw [← HU.out, ← HVV.out]; exact hva), ← HVV.out])
        have hneqr := fun W => va_neq_t W v.pa v.lv u.pa u.lv (fun g => hva (va_eq.2 ⟨g.1.symm, g.2.symm⟩))
        clear hva
        have q2 := fun p : BelowOf _ => (HX.out.keep p.h).c4.2.2.1
        have q3 := fun p : BelowOf _ => (HX.out.keep p.h).c4.2.2.2.1
        have a2 := fun p : BelowOf _ => (p.h.cell (p := ⟨xb, xo + k * 4 + 2, none⟩) HXR.out).trans HA2.out
        have a3 := fun p : BelowOf _ => (p.h.cell (p := ⟨xb, xo + k * 4 + 3, none⟩) HXR.out).trans HA3.out
        have zz := fun p : BelowOf _ => Nat.lt_of_lt_of_le HXR.out p.h.size
        refine wp_region_WQ (by kernel_rfl) (by kernel_rfl) ?_
        repeat (refine WQ.step (fun K hK => ?_); go_simp; first | (refine hK.out _ ?_; clear hK K) | (apply Exists.intro; refine ⟨fun _ => ?_, hK.out _ ?_⟩; (first | rfl); clear hK K))
        refine WQ.nil ?_
        intro wz hw'
        obtain ⟨⟨wq, hbq⟩, hw2⟩ := hw'
        subst hw2
        replace HX := Lib.hid (HX.out.keep hbq); replace HO := Lib.hid (HO.out.keep hbq)
        replace HB := Lib.hid (bch' HB.out hbq)
        clear q2 q3 a2 a3 zz
        clear hneqr
        obtain ⟨q0, q1, q2, q3, qf0, qf1, qf2, qf3⟩ := HX.out.c4
        go_wp2_with (first | (at_builtin; refine wpList_appR3 rfl (.tmp 23) (.tmp 25) 33 rfl w.heap.size 43 i0 (.agg #[.int .i64 0, .int .i64 0, .int .i64 0, .int .i64 0]) 32 Tryz.underlying33 hi hz0 hz1 hz2 rfl (by decide) (by decide) pp cc n ((difL (a.take k) (b.take k))) (HN.out) _ (v) wz.heap.size (encEn_len _) (fun j u hu => cellN _ 43 hu) (encEn_one _) rfl (HO.out.keep ((Below.refl _ wz).alloc (Nat.le_refl _) _)) rfl (by have := difL_takes_le a b k; have := HLN.out; omega) (by have := HB.out.size; rw [World.size_alloc]; omega) ?_; intro p1 c1 w4 hO3 hb3 _; have HO3 := Lib.hid hO3; have HB3 := Lib.hid (HB.out.trans (((Below.refl _ wz).alloc (by have := HB.out.size; omega) _).trans hb3)); clear hO3 hb3))
        go_roundw
        case rel => exact ⟨k + 1, n + 1, p1, c1, by first | rfl | simp, by first | rfl | simp, by omega, Lib.hid (by rw [HD.out, List.length_append, ← HN.out]; rfl), HB3, Lib.hid (by rw [HD.out]; exact HO3.out)⟩
        case measure => first | (simp [intOf]; done) | (simp [intOf]; omega)
    · have hlt : ¬ (k : Int) < (b.length : Int) := by omega
      obtain rfl : k = b.length := by omega
      have HTA : Hid ((difL (a.take b.length) (b.take b.length)) = difL a b) := Lib.hid (by rw [List.take_length, ← HAB.out, List.take_length])
      rw [HTA.out] at HN HO
      go_wp2_with fail
      go_ret
      have hn := HN.out
      subst hn
      exact ⟨pp, cc, rfl, HO.out, HB.out⟩
end Go.Proofs.YtikogofioggmlaaGreatDoor

/-
  Waves: Flip, Mirror, Tidy.
-/
import Derived.Test.YtbamcfhmkohbmaaGreatDoorWv2
import Derived.Test.YtbamcfhmkohbmaaGreatDoorWv7
import Derived.Test.YtbamcfhmkohbmaaGreatDoorWp
import Derived.IntWalk
set_option linter.unusedVariables false
set_option linter.unusedSimpArgs false
namespace Lum
open Go Go.RowKit Go.Shelf
open Go.Lib (decDigits itoa)
/-- What a function for a point does with one. -/
def PtFun (P : Program) (M : FuncId) (g : Int × Int → Int × Int) : Prop := ∀ (x y : Int) (W : World), 0 ≤ x → x ≤ 1000 → -1000 ≤ y → y ≤ 1000 →
  Calls P M #[.agg #[.int .i64 x, .int .i64 y]] W fun e w' => e = .returned (.agg #[.int .i64 (g (x, y)).1, .int .i64 (g (x, y)).2]) ∧ Below W.heap.size W w'
/-- Of a wave that is right. -/
def onlyR (l r : List (Int × Int)) : List (Int × Int) := if wvE l = 0 then r else []
theorem onlyR_ok {l r : List (Int × Int)} (h : wvE l = 0) : onlyR l r = r := by unfold onlyR; rw [if_pos h]
theorem onlyR_no {l r : List (Int × Int)} (h : ¬ wvE l = 0) : onlyR l r = [] := by unfold onlyR; rw [if_neg h]
theorem pt_at {l : List (Int × Int)} {k : Nat} (h : k < l.length) : l[k]'h = (pX l k, pY l k) := by unfold pX pY; rw [List.getElem?_eq_getElem h]; rfl
theorem map_snoc (g : Int × Int → Int × Int) {l : List (Int × Int)} {k : Nat} (h : k < l.length) : (l.take (k + 1)).map g = (l.take k).map g ++ [g (pX l k, pY l k)] := by
  rw [List.take_succ_eq_append_getElem h, List.map_append, pt_at h]; rfl
theorem map_len (g : Int × Int → Int × Int) {l : List (Int × Int)} {k : Nat} (h : k ≤ l.length) : ((l.take k).map g).length = k := by simp; omega
end Lum
namespace Go.Proofs.YtbamcfhmkohbmaaGreatDoor
open Go.RowKit Go.Shelf Lum
open Go.Lib (decDigits itoa)
attribute [local go_sem] bs_get bs_extract_end bs_extract_from bs_extract bs_append

theorem info_pt : (Tryz.prog.info? 33).map (fun i => (i.zero, i.size, i.bytes)) = some (some (.agg #[.int .i64 0, .int .i64 0]), 2, 16) := by kernel_rfl

set_option maxHeartbeats 1000000 in
theorem flip_fun : PtFun Tryz.prog 130 (fun p : Int × Int => (p.1, -p.2)) := by
  intro x y W x0 x1 y0 y1
  have e1 : IntKind.i64.wrap (-y) = -y := IntWalk.i64_in _ (by omega)
  go_enter Tryz.func130, Tryz.ntmps130
  go_wp2
  refine bodyPost_ret_by (v := .agg #[.int .i64 ((fun p : Int × Int => (p.1, -p.2)) (x, y)).1, .int .i64 ((fun p : Int × Int => (p.1, -p.2)) (x, y)).2]) (by simp [results, Tryz.f130, go_sem]) rfl ⟨rfl, ?_⟩
  exact ((Below.refl _ _).alloc (Nat.le_refl _) _).alloc (by simp) _

set_option maxHeartbeats 1000000 in
theorem tidy_fun : PtFun Tryz.prog 63 (fun p : Int × Int => p) := by
  intro x y W x0 x1 y0 y1
  skip
  go_enter Tryz.func63, Tryz.ntmps63
  go_wp2
  refine bodyPost_ret_by (v := .agg #[.int .i64 ((fun p : Int × Int => p) (x, y)).1, .int .i64 ((fun p : Int × Int => p) (x, y)).2]) (by simp [results, Tryz.f63, go_sem]) rfl ⟨rfl, ?_⟩
  exact ((Below.refl _ _).alloc (Nat.le_refl _) _).alloc (by simp) _

set_option maxRecDepth 100000 in
set_option maxHeartbeats 4000000 in
theorem own_changed (M : FuncId) (g : Int × Int → Int × Int) (l : List (Int × Int)) (v : Value) (w : World) (hv : PtsAt w v l) (hn : l.length ≤ 1000000000) (hM : PtFun Tryz.prog M g) (hF : ∀ args w, (callFunc M args).run Tryz.prog w = .ok (.enter M args) w) :
    Calls Tryz.prog 62 #[v, .func (.func M) #[] #[]] w fun e w' => ∃ p c, e = .returned (.tuple #[.slice p (onlyR l (l.map g)).length c, .int .i64 (wvE l)]) ∧ OwnP w.heap.size 33 w' p c (onlyR l (l.map g)) ∧ Below w.heap.size w w' := by
  have hk := own_wcheck l v w hv hn
  have HB := Lib.hid (Below.refl w.heap.size w)
  by_cases hz : wvE l = 0
  · rw [onlyR_ok hz]
    rw [hz] at hk ⊢
    have wv := wvE_zero hz
    have hhi := wv.hi
    have hlo := wv.lo
    obtain ⟨p, c, rfl, hv2⟩ := hv
    obtain ⟨b, o, rfl, hb, hc⟩ := hv2 (fun h => by subst h; simp at hlo)
    clear hv2
    replace hc : PtC w b o l := hc
    have HC := Lib.hid hc; clear hc
    have HK := Lib.hid hk; clear hk
    have HM := Lib.hid hM; clear hM
    have HZ := Lib.hid hz; clear hz
    obtain ⟨i0, hi, hz0, hz1, hz2⟩ := info_parts info_pt
    go_enter Tryz.func62, Tryz.ntmps62
    go_wp2_with ((with_reducible refine ((HK.out).mono ?_)); rintro e w' ⟨rfl, hb1⟩; replace HB := Lib.hid hb1; clear hb1)
    go_loopw [7, 17] (fun s i wr => ∃ (k : Nat) (pp : Option Addr) (cc : Nat), i = .int .i64 (k : Int) ∧ s = .slice pp k cc ∧ k ≤ l.length ∧ OwnP w.heap.size 33 wr pp cc ((l.take k).map g) ∧ Below w.heap.size w wr) (fun _ i _ => l.length - (intOf i).toNat)
    case atStart => exact ⟨0, none, 0, rfl, rfl, by omega, OwnP.nil _ _ _, HB.out⟩
    case round =>
      obtain ⟨k, pp, cc, rfl, rfl, hk, hO, hB⟩ := hrel
      have HBW := Lib.hid hB; clear hB HB
      have HO := Lib.hid hO; clear hO
      by_cases hlt : k < l.length
      · have hlt1 : (k : Int) < (l.length : Int) := by omega
        obtain ⟨x1, y1⟩ := HC.out.below HBW.out hb k hlt
        have hX := wv.range hlt
        have hY := wv.h k hlt
        have hm := fun W => HM.out (pX l k) (pY l k) W (by omega) (by omega) (by omega) (by omega)
        have HMM := Lib.hid hm; clear hm
        have hsn := map_snoc g hlt
        have HSN := Lib.hid hsn; clear hsn
        have hun : IntKind.i64.wrap ((k : Int) + 1) = (k : Int) + 1 := IntWalk.i64_in _ (by omega)
        have hbr : b < wr.heap.size := by have := HBW.out.size; omega
        generalize hgg : g (pX l k, pY l k) = q at *
        obtain ⟨q1, q2⟩ := q
        clear hgg
        dsimp only at HMM
        have hO1 := HO.out.keep ((Below.refl _ wr).alloc (Nat.le_refl _) (.cells #[.int .i64 (pX l k), .int .i64 (pY l k)] 33))
        have HO1 := Lib.hid hO1; clear hO1
        generalize pX l k = X1 at *
        generalize pY l k = Y1 at *
        have hB1 := HBW.out.alloc (by have := HBW.out.size; omega) (.cells #[.int .i64 X1, .int .i64 Y1] 33)
        have HB1 := Lib.hid hB1; clear hB1
        have hln := map_len g (show k ≤ l.length by omega)
        have HLN := Lib.hid hln; clear hln
        go_wp2_with (first | ((with_reducible refine ((HMM.out _).mono ?_)); rintro e w2 ⟨rfl, hb2⟩; have HO2 := Lib.hid (HO1.out.keep hb2); have HB2 := Lib.hid (bch' HB1.out hb2); clear hb2) | (at_builtin; refine wpList_appP rfl _ _ 22 rfl w.heap.size 33 i0 (.agg #[.int .i64 0, .int .i64 0]) 16 Tryz.underlying22 hi hz0 hz1 hz2 rfl (by decide) pp cc ((l.take k).map g) _ (q1, q2) (by rw [HLN.out]; rfl) HO2.out rfl (by rw [HLN.out]; omega) HB2.out.size ?_; rintro p1 c1 w3 hO3 hb3; have HO3 := Lib.hid hO3; have HB3 := Lib.hid hb3; clear hO3 hb3; rw [HLN.out]))
        go_roundw
        case rel => exact ⟨k + 1, p1, c1, by simp, by simp, by omega, by rw [HSN.out]; exact HO3.out, HB2.out.trans HB3.out⟩
        case measure => simp [intOf]; omega
      · have hlt1 : ¬ (k : Int) < (l.length : Int) := by omega
        obtain rfl : k = l.length := by omega
        have hln : (l.map g).length = l.length := by simp
        have HLN := Lib.hid hln; clear hln
        have hO := HO.out
        rw [List.take_length] at hO
        clear HO
        have HO := Lib.hid hO; clear hO
        go_wp2
        go_ret2
        exact ⟨pp, cc, rfl, HO.out, HBW.out⟩
  · rw [onlyR_no hz]
    have hne : ((wvE l : Int) != 0) = true := by simpa using hz
    have HM := Lib.hid hM; clear hM hz hF
    obtain ⟨p, c, rfl, -⟩ := hv
    have HK := Lib.hid hk; clear hk
    generalize wvE l = m at *
    go_enter Tryz.func62, Tryz.ntmps62
    go_wp2_with ((with_reducible refine ((HK.out).mono ?_)); rintro e w' ⟨rfl, hb1⟩; replace HB := Lib.hid hb1; clear hb1)
    go_ret2
    exact ⟨none, 0, rfl, OwnP.nil _ _ _, HB.out⟩
end Go.Proofs.YtbamcfhmkohbmaaGreatDoor

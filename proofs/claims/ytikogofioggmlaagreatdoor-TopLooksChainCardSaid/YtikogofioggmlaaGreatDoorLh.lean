/-
  Cues: the program: parts, next, Check.
-/
import Derived.Test.YtikogofioggmlaaGreatDoorLg
set_option linter.unusedVariables false
set_option linter.unusedSimpArgs false
namespace Lum
open Go Go.RowKit Go.Shelf
open Go.Lib (decDigits itoa)
def CpI (pt : List Tm) (mv : List Mv) (pp pm : Option Addr) (v : List Value) (g : Nat) (T : TypeId) (w : World) (s : Value) (wr : World) : Prop := ∃ k : Nat, s = .int .i64 (k : Int) ∧ k ≤ pt.length ∧ Hid (Below w.heap.size w wr) ∧ Hid (Blk wr g T v.toArray) ∧ Hid (RowX encTm 6 wr pp pt) ∧ Hid (RowX encMv 5 wr pm mv)
end Lum
namespace Go.Proofs.YtikogofioggmlaaGreatDoor
open Go.RowKit Go.Shelf Lum
open Go.Lib (decDigits itoa)
attribute [local go_sem] bs_get bs_extract_end bs_extract_from bs_extract bs_append

set_option maxRecDepth 100000 in
set_option maxHeartbeats 4000000 in
theorem cl_cparts (m : Mv) (nu la li : Txt) (mv : List Mv) (pt : List Tm) (pm pp : Option Addr) (cm cp : Nat) (bl mk : Bool) (fo lo : Int) (g : Nat) (w : World) (hk : Blk w g 32 #[.string ⟨nu.toArray⟩, .string ⟨la.toArray⟩, .slice pm mv.length cm, .slice pp pt.length cp, .bool bl, .bool mk, .int .i64 fo, .string ⟨li.toArray⟩, .int .i64 lo]) :
    Calls Tryz.prog 96 #[.agg #[.int .i64 m.ch, .int .i64 m.at_, .int .i64 m.pa, .int .i64 m.lv, .int .i64 m.pt], .pointer (some ⟨g, 0, none⟩)] w fun e w' => e = .returned (.bool (decide ((pt.length : Int) < m.pt))) ∧ Below w.heap.size w w' := by
  have HK0 := Lib.hid hk; clear hk
  have HX := Lib.hid (Blk.new w 61 #[.int .i64 (m.ch), .int .i64 (m.at_), .int .i64 (m.pa), .int .i64 (m.lv), .int .i64 (m.pt)])
  have HB := Lib.hid ((Below.refl w.heap.size w).alloc (Nat.le_refl _) (.cells #[.int .i64 (m.ch), .int .i64 (m.at_), .int .i64 (m.pa), .int .i64 (m.lv), .int .i64 (m.pt)] 61))
  obtain ⟨x0, x1, x2, x3, x4, xf0, xf1, xf2, xf3, xf4⟩ := HX.out.c5
  have HK := Lib.hid (HK0.out.keep HB.out)
  obtain ⟨k0, k1, k2, k3, k4, k5, k6, k7, k8, kf0, kf1, kf2, kf3, kf4, kf5, kf6, kf7, kf8⟩ := HK.out.c9
  go_enter Tryz.func96, Tryz.ntmps96
  go_wp2_with fail
  go_ret
  exact ⟨rfl, HB.out⟩

set_option maxRecDepth 100000 in
set_option maxHeartbeats 4000000 in
theorem own_cparts (nu la li : Txt) (mv : List Mv) (pt : List Tm) (pm pp : Option Addr) (cm cp : Nat) (bl mk : Bool) (fo lo : Int) (w : World) (ht : RowX encTm 6 w pp pt) (hm : RowX encMv 5 w pm mv) (hp : PtsR pt) (hmp : ∀ m ∈ mv, m.pt ≤ (pt.length : Int)) (hml : mv.length ≤ 128) :
    Calls Tryz.prog 82 #[.agg #[.string ⟨nu.toArray⟩, .string ⟨la.toArray⟩, .slice pm mv.length cm, .slice pp pt.length cp, .bool bl, .bool mk, .int .i64 fo, .string ⟨li.toArray⟩, .int .i64 lo]] w fun e w' => e = .returned (.int .i64 0) ∧ Below w.heap.size w w' := by
  have HK := Lib.hid (Blk.new w 32 #[.string ⟨nu.toArray⟩, .string ⟨la.toArray⟩, .slice pm mv.length cm, .slice pp pt.length cp, .bool bl, .bool mk, .int .i64 fo, .string ⟨li.toArray⟩, .int .i64 lo])
  have HB := Lib.hid ((Below.refl w.heap.size w).alloc (Nat.le_refl _) (.cells #[.string ⟨nu.toArray⟩, .string ⟨la.toArray⟩, .slice pm mv.length cm, .slice pp pt.length cp, .bool bl, .bool mk, .int .i64 fo, .string ⟨li.toArray⟩, .int .i64 lo] 32))
  obtain ⟨k0, k1, k2, k3, k4, k5, k6, k7, k8, kf0, kf1, kf2, kf3, kf4, kf5, kf6, kf7, kf8⟩ := HK.out.c9
  have HTM := Lib.hid (ht.kept HB.out); have HMV := Lib.hid (hm.kept HB.out); clear ht hm
  have heq : ((pt.length : Int) == 0) = false := by have := hp.some_; rw [beq_eq_false_iff_ne]; omega
  have hm4 : ¬ (4 : Int) < (pt.length : Int) := by have := hp.few; omega
  have hp4 := hp.few
  have HPT := Lib.hid hp; have HMP := Lib.hid hmp; clear hp hmp
  go_enter Tryz.func82, Tryz.ntmps82
  go_wp2_with fail
  go_loopw [20] (fun s wr => CpI pt mv pp pm [.string ⟨nu.toArray⟩, .string ⟨la.toArray⟩, .slice pm mv.length cm, .slice pp pt.length cp, .bool bl, .bool mk, .int .i64 fo, .string ⟨li.toArray⟩, .int .i64 lo] w.heap.size 32 w s wr) (fun s _ => pt.length - (intOf s).toNat)
  case atStart => exact ⟨0, rfl, Nat.zero_le _, HB, HK, HTM, HMV⟩
  case round =>
    obtain ⟨k, rfl, hk9, HB2, HK2, HTM2, HMV2⟩ := hrel
    clear HB HK HTM HMV
    clear k0 k1 k2 k3 k4 k5 k6 k7 k8 kf0 kf1 kf2 kf3 kf4 kf5 kf6 kf7 kf8
    have HB := HB2; have HK := HK2; have HTM := HTM2; have HMV := HMV2; clear HB2 HK2 HTM2 HMV2
    obtain ⟨k0, k1, k2, k3, k4, k5, k6, k7, k8, kf0, kf1, kf2, kf3, kf4, kf5, kf6, kf7, kf8⟩ := HK.out.c9
    by_cases hkl : k < pt.length
    · have hlt : (k : Int) < (pt.length : Int) := by omega
      have hk0 : (0 : Int) ≤ (k : Int) := by omega
      have hlo : k * 6 < 9223372036854775807 := by omega
      have hun : IntKind.i64.wrap ((k : Int) + 1) = (k : Int) + 1 := IntWalk.i64_in _ (by omega)
      obtain ⟨b, o, rfl, hb, hC⟩ := HTM.out (fun h => by rw [h] at hkl; exact absurd hkl (Nat.not_lt_zero _))
      obtain ⟨y, hy⟩ : ∃ y, y = pt[k]'hkl := ⟨_, rfl⟩
      have hcell := hC k hkl
      rw [← hy] at hcell
      have hty := HPT.out.ok y (by rw [hy]; exact List.getElem_mem hkl)
      have z0 : wr.cell? ⟨b, o + k * 6, none⟩ = some (.int .i64 (y.up)) := hcell 0 _ rfl
      have z1 : wr.cell? ⟨b, o + k * 6 + 1, none⟩ = some (.int .i64 (y.dn)) := hcell 1 _ rfl
      have z2 : wr.cell? ⟨b, o + k * 6 + 2, none⟩ = some (.int .i64 (y.po)) := hcell 2 _ rfl
      have z3 : wr.cell? ⟨b, o + k * 6 + 3, none⟩ = some (.int .i64 (y.co)) := hcell 3 _ rfl
      have z4 : wr.cell? ⟨b, o + k * 6 + 4, none⟩ = some (.int .i64 (y.be)) := hcell 4 _ rfl
      have z5 : wr.cell? ⟨b, o + k * 6 + 5, none⟩ = some (.int .i64 (y.de)) := hcell 5 _ rfl
      have hbr := hb
      clear hcell hC hb hy
      go_upto_region 9 with fail
      clear z0 z1 z2 z3 z4 z5 hbr
      have hb := (Below.refl wr.heap.size wr).alloc (Nat.le_refl _) (.cells #[.int .i64 (y.up), .int .i64 (y.dn), .int .i64 (y.po), .int .i64 (y.co), .int .i64 (y.be), .int .i64 (y.de)] 91)
      have HG := Lib.hid (Blk.new wr 91 #[.int .i64 (y.up), .int .i64 (y.dn), .int .i64 (y.po), .int .i64 (y.co), .int .i64 (y.be), .int .i64 (y.de)])
      obtain ⟨n8, hn8⟩ : ∃ n, n = wr.heap.size := ⟨_, rfl⟩
      obtain ⟨Wa, hWWa⟩ : ∃ X, X = wr.alloc (.cells #[.int .i64 (y.up), .int .i64 (y.dn), .int .i64 (y.po), .int .i64 (y.co), .int .i64 (y.be), .int .i64 (y.de)] 91) := ⟨_, rfl⟩
      rw [← hn8] at HG ⊢
      rw [← hWWa] at hb HG ⊢
      replace HK := Lib.hid (HK.out.keep hb); clear k0 k1 k2 k3 k4 k5 k6 k7 k8 kf0 kf1 kf2 kf3 kf4 kf5 kf6 kf7 kf8; replace HTM := Lib.hid (RowX.kept HTM.out hb); replace HMV := Lib.hid (RowX.kept HMV.out hb); replace HB := Lib.hid (bch' HB.out hb); clear hb; obtain ⟨k0, k1, k2, k3, k4, k5, k6, k7, k8, kf0, kf1, kf2, kf3, kf4, kf5, kf6, kf7, kf8⟩ := HK.out.c9
      clear hWWa hn8
      obtain ⟨a0, a1, a2, a3, a4, a5, af0, af1, af2, af3, af4, af5⟩ := HG.out.c6
      have uup := hty.up.1; have vup := hty.up.2
      have pup : ¬ y.up < 0 := by omega
      have qup : ¬ (10000000 : Int) < y.up := by omega
      clear uup vup
      have udn := hty.dn.1; have vdn := hty.dn.2
      have pdn : ¬ y.dn < 0 := by omega
      have qdn : ¬ (10000000 : Int) < y.dn := by omega
      clear udn vdn
      have upo := hty.po.1; have vpo := hty.po.2
      have ppo : ¬ y.po < 0 := by omega
      have qpo : ¬ (10000000 : Int) < y.po := by omega
      clear upo vpo
      have uco := hty.co.1; have vco := hty.co.2
      have pco : ¬ y.co < 0 := by omega
      have qco : ¬ (10000000 : Int) < y.co := by omega
      clear uco vco
      have ube := hty.be.1; have vbe := hty.be.2
      have pbe : ¬ y.be < 0 := by omega
      have qbe : ¬ (10000000 : Int) < y.be := by omega
      clear ube vbe
      have ude := hty.de.1; have vde := hty.de.2
      have pde : ¬ y.de < 0 := by omega
      have qde : ¬ (10000000 : Int) < y.de := by omega
      clear ude vde
      have i0 : ∀ w, (Instr.index 133 (.agg #[.int .i64 (y.up), .int .i64 (y.dn), .int .i64 (y.po), .int .i64 (y.co), .int .i64 (y.be), .int .i64 (y.de)]) (.int .i64 0)).run Tryz.prog w = .ok (.int .i64 (y.up)) w := fun _ => by kernel_rfl
      have i1 : ∀ w, (Instr.index 133 (.agg #[.int .i64 (y.up), .int .i64 (y.dn), .int .i64 (y.po), .int .i64 (y.co), .int .i64 (y.be), .int .i64 (y.de)]) (.int .i64 1)).run Tryz.prog w = .ok (.int .i64 (y.dn)) w := fun _ => by kernel_rfl
      have i2 : ∀ w, (Instr.index 133 (.agg #[.int .i64 (y.up), .int .i64 (y.dn), .int .i64 (y.po), .int .i64 (y.co), .int .i64 (y.be), .int .i64 (y.de)]) (.int .i64 2)).run Tryz.prog w = .ok (.int .i64 (y.po)) w := fun _ => by kernel_rfl
      have i3 : ∀ w, (Instr.index 133 (.agg #[.int .i64 (y.up), .int .i64 (y.dn), .int .i64 (y.po), .int .i64 (y.co), .int .i64 (y.be), .int .i64 (y.de)]) (.int .i64 3)).run Tryz.prog w = .ok (.int .i64 (y.co)) w := fun _ => by kernel_rfl
      have i4 : ∀ w, (Instr.index 133 (.agg #[.int .i64 (y.up), .int .i64 (y.dn), .int .i64 (y.po), .int .i64 (y.co), .int .i64 (y.be), .int .i64 (y.de)]) (.int .i64 4)).run Tryz.prog w = .ok (.int .i64 (y.be)) w := fun _ => by kernel_rfl
      have i5 : ∀ w, (Instr.index 133 (.agg #[.int .i64 (y.up), .int .i64 (y.dn), .int .i64 (y.po), .int .i64 (y.co), .int .i64 (y.be), .int .i64 (y.de)]) (.int .i64 5)).run Tryz.prog w = .ok (.int .i64 (y.de)) w := fun _ => by kernel_rfl
      clear hty
      go_wp2_with fail
      refine wp_loop_rounds 7 ?_
      rw [rounds_succ]
      go_wp2_with fail
      rw [rounds_succ]
      go_wp2_with fail
      rw [rounds_succ]
      go_wp2_with fail
      rw [rounds_succ]
      go_wp2_with fail
      rw [rounds_succ]
      go_wp2_with fail
      rw [rounds_succ]
      go_wp2_with fail
      rw [rounds_succ]
      go_wp2_with fail
      go_roundw
      case rel => exact ⟨k + 1, by first | rfl | simp, by omega, HB, HK, HTM, HMV⟩
      case measure => first | (simp [intOf]; done) | (simp [intOf]; omega)
    · have hlt : ¬ (k : Int) < (pt.length : Int) := by omega
      have hct := fun (W : World) (h1 : RowX encMv 5 W pm mv) (h2 : Blk W w.heap.size 32 #[.string ⟨nu.toArray⟩, .string ⟨la.toArray⟩, .slice pm mv.length cm, .slice pp pt.length cp, .bool bl, .bool mk, .int .i64 fo, .string ⟨li.toArray⟩, .int .i64 lo]) => mv1_contains 96 (.pointer (some ⟨w.heap.size, 0, none⟩)) mv (fun m => decide ((pt.length : Int) < m.pt)) pm cm W.heap.size W h1 (Nat.le_refl _) (by omega) (enters_of Tryz.func96 (by kernel_rfl) rfl) (fun m _ W2 hW => cl_cparts m nu la li mv pt pm pp cm cp bl mk fo lo w.heap.size W2 (h2.keep hW))
      rw [show mv.any (fun m => decide ((pt.length : Int) < m.pt)) = false from List.any_eq_false.2 (fun m hm => by have := HMP.out m hm; simp; omega)] at hct
      have HCT := Lib.hid hct; clear hct
      go_wp2_with (first | (with_reducible refine ((HCT.out _ HMV.out HK.out).mono ?_); rintro e w' ⟨rfl, hb⟩; replace HB := Lib.hid (bch' HB.out hb); clear hb))
      go_ret
      exact ⟨rfl, HB.out⟩

set_option maxRecDepth 100000 in
set_option maxHeartbeats 4000000 in
theorem own_cnext (nu la li : Txt) (mv : List Mv) (pt : List Tm) (pm pp : Option Addr) (cm cp : Nat) (bl mk : Bool) (fo lo : Int) (w : World) (hn : NxtC fo lo li) (env : Env w) :
    Calls Tryz.prog 83 #[.agg #[.string ⟨nu.toArray⟩, .string ⟨la.toArray⟩, .slice pm mv.length cm, .slice pp pt.length cp, .bool bl, .bool mk, .int .i64 fo, .string ⟨li.toArray⟩, .int .i64 lo]] w fun e w' => e = .returned (.int .i64 0) ∧ Below w.heap.size w w' := by
  obtain ⟨hfo, hli, hl0, hl1, hus⟩ := hn
  have ENV := Lib.hid env; clear env
  have HK := Lib.hid (Blk.new w 32 #[.string ⟨nu.toArray⟩, .string ⟨la.toArray⟩, .slice pm mv.length cm, .slice pp pt.length cp, .bool bl, .bool mk, .int .i64 fo, .string ⟨li.toArray⟩, .int .i64 lo])
  have HB := Lib.hid ((Below.refl w.heap.size w).alloc (Nat.le_refl _) (.cells #[.string ⟨nu.toArray⟩, .string ⟨la.toArray⟩, .slice pm mv.length cm, .slice pp pt.length cp, .bool bl, .bool mk, .int .i64 fo, .string ⟨li.toArray⟩, .int .i64 lo] 32))
  obtain ⟨k0, k1, k2, k3, k4, k5, k6, k7, k8, kf0, kf1, kf2, kf3, kf4, kf5, kf6, kf7, kf8⟩ := HK.out.c9
  have g1 : ¬ lo < 0 := by omega
  have g2 : ¬ (100 : Int) < lo := by omega
  cases li with
  | nil =>
    have g3 : ¬ (0 : Int) < lo := fun h => hus h rfl
    clear hus hli
    by_cases f0 : fo = -1
    · subst f0
      have hf0 : (((-1 : Int)) != (-1 : Int)) = false := by decide
      go_enter Tryz.func83, Tryz.ntmps83
      go_wp2_with fail
      go_ret
      exact ⟨rfl, HB.out⟩
    · have hf0 : ((fo : Int) != (-1 : Int)) = true := by simpa using f0
      have hf1 : ¬ fo < 25 := by omega
      have hf2 : ¬ (10000000 : Int) < fo := by omega
      clear f0
      go_enter Tryz.func83, Tryz.ntmps83
      go_wp2_with fail
      go_ret
      exact ⟨rfl, HB.out⟩
  | cons c0 r0 =>
    have hnc := fun W (e : Env W) => own_ncheck (c0 :: r0) W (hli (by simp)) e
    have hls : ((c0 :: r0 : Txt) != []) = true := rfl
    have hls2 : ((c0 :: r0 : Txt) == []) = false := rfl
    clear hus hli
    have HNC := Lib.hid hnc; clear hnc
    by_cases f0 : fo = -1
    · subst f0
      have hf0 : (((-1 : Int)) != (-1 : Int)) = false := by decide
      by_cases g3 : (0 : Int) < lo
      · go_enter Tryz.func83, Tryz.ntmps83
        go_wp2_with (first | (with_reducible refine ((HNC.out _ (ENV.out.below HB.out)).mono ?_); rintro e w' ⟨rfl, hb⟩; replace HK := Lib.hid (HK.out.keep hb); clear k0 k1 k2 k3 k4 k5 k6 k7 k8 kf0 kf1 kf2 kf3 kf4 kf5 kf6 kf7 kf8; replace HB := Lib.hid (bch' HB.out hb); clear hb; obtain ⟨k0, k1, k2, k3, k4, k5, k6, k7, k8, kf0, kf1, kf2, kf3, kf4, kf5, kf6, kf7, kf8⟩ := HK.out.c9))
        go_ret
        exact ⟨rfl, HB.out⟩
      · go_enter Tryz.func83, Tryz.ntmps83
        go_wp2_with (first | (with_reducible refine ((HNC.out _ (ENV.out.below HB.out)).mono ?_); rintro e w' ⟨rfl, hb⟩; replace HK := Lib.hid (HK.out.keep hb); clear k0 k1 k2 k3 k4 k5 k6 k7 k8 kf0 kf1 kf2 kf3 kf4 kf5 kf6 kf7 kf8; replace HB := Lib.hid (bch' HB.out hb); clear hb; obtain ⟨k0, k1, k2, k3, k4, k5, k6, k7, k8, kf0, kf1, kf2, kf3, kf4, kf5, kf6, kf7, kf8⟩ := HK.out.c9))
        go_ret
        exact ⟨rfl, HB.out⟩
    · have hf0 : ((fo : Int) != (-1 : Int)) = true := by simpa using f0
      have hf1 : ¬ fo < 25 := by omega
      have hf2 : ¬ (10000000 : Int) < fo := by omega
      clear f0
      by_cases g3 : (0 : Int) < lo
      · go_enter Tryz.func83, Tryz.ntmps83
        go_wp2_with (first | (with_reducible refine ((HNC.out _ (ENV.out.below HB.out)).mono ?_); rintro e w' ⟨rfl, hb⟩; replace HK := Lib.hid (HK.out.keep hb); clear k0 k1 k2 k3 k4 k5 k6 k7 k8 kf0 kf1 kf2 kf3 kf4 kf5 kf6 kf7 kf8; replace HB := Lib.hid (bch' HB.out hb); clear hb; obtain ⟨k0, k1, k2, k3, k4, k5, k6, k7, k8, kf0, kf1, kf2, kf3, kf4, kf5, kf6, kf7, kf8⟩ := HK.out.c9))
        go_ret
        exact ⟨rfl, HB.out⟩
      · go_enter Tryz.func83, Tryz.ntmps83
        go_wp2_with (first | (with_reducible refine ((HNC.out _ (ENV.out.below HB.out)).mono ?_); rintro e w' ⟨rfl, hb⟩; replace HK := Lib.hid (HK.out.keep hb); clear k0 k1 k2 k3 k4 k5 k6 k7 k8 kf0 kf1 kf2 kf3 kf4 kf5 kf6 kf7 kf8; replace HB := Lib.hid (bch' HB.out hb); clear hb; obtain ⟨k0, k1, k2, k3, k4, k5, k6, k7, k8, kf0, kf1, kf2, kf3, kf4, kf5, kf6, kf7, kf8⟩ := HK.out.c9))
        go_ret
        exact ⟨rfl, HB.out⟩

set_option maxRecDepth 100000 in
set_option maxHeartbeats 4000000 in
theorem cl_cck1 (nu la li : Txt) (mv : List Mv) (pt : List Tm) (pm pp : Option Addr) (cm cp : Nat) (bl mk : Bool) (fo lo : Int) (w : World) (hn : NumR nu) (env : Env w) :
    Calls Tryz.prog 77 #[.agg #[.string ⟨nu.toArray⟩, .string ⟨la.toArray⟩, .slice pm mv.length cm, .slice pp pt.length cp, .bool bl, .bool mk, .int .i64 fo, .string ⟨li.toArray⟩, .int .i64 lo]] w fun e w' => e = .returned (.int .i64 0) ∧ Below w.heap.size w w' := by
  have hnc := fun W (e : Env W) => own_ncheck nu W hn e
  have ENV := Lib.hid env; clear env hn
  have HK := Lib.hid (Blk.new w 32 #[.string ⟨nu.toArray⟩, .string ⟨la.toArray⟩, .slice pm mv.length cm, .slice pp pt.length cp, .bool bl, .bool mk, .int .i64 fo, .string ⟨li.toArray⟩, .int .i64 lo])
  have HB := Lib.hid ((Below.refl w.heap.size w).alloc (Nat.le_refl _) (.cells #[.string ⟨nu.toArray⟩, .string ⟨la.toArray⟩, .slice pm mv.length cm, .slice pp pt.length cp, .bool bl, .bool mk, .int .i64 fo, .string ⟨li.toArray⟩, .int .i64 lo] 32))
  obtain ⟨k0, k1, k2, k3, k4, k5, k6, k7, k8, kf0, kf1, kf2, kf3, kf4, kf5, kf6, kf7, kf8⟩ := HK.out.c9
  have HNC := Lib.hid hnc; clear hnc
  go_enter Tryz.func77, Tryz.ntmps77
  go_wp2_with (first | (with_reducible refine ((HNC.out _ (ENV.out.below HB.out)).mono ?_); rintro e w' ⟨rfl, hb⟩; replace HB := Lib.hid (bch' HB.out hb); clear hb))
  go_ret
  exact ⟨rfl, HB.out⟩

set_option maxRecDepth 100000 in
set_option maxHeartbeats 4000000 in
theorem cl_cck2 (nu la li : Txt) (mv : List Mv) (pt : List Tm) (pm pp : Option Addr) (cm cp : Nat) (bl mk : Bool) (fo lo : Int) (w : World) (hn : LabR la) :
    Calls Tryz.prog 78 #[.agg #[.string ⟨nu.toArray⟩, .string ⟨la.toArray⟩, .slice pm mv.length cm, .slice pp pt.length cp, .bool bl, .bool mk, .int .i64 fo, .string ⟨li.toArray⟩, .int .i64 lo]] w fun e w' => e = .returned (.int .i64 0) ∧ Below w.heap.size w w' := by
  have hlb := fun W => own_clabel la W hn
  clear hn
  have HK := Lib.hid (Blk.new w 32 #[.string ⟨nu.toArray⟩, .string ⟨la.toArray⟩, .slice pm mv.length cm, .slice pp pt.length cp, .bool bl, .bool mk, .int .i64 fo, .string ⟨li.toArray⟩, .int .i64 lo])
  have HB := Lib.hid ((Below.refl w.heap.size w).alloc (Nat.le_refl _) (.cells #[.string ⟨nu.toArray⟩, .string ⟨la.toArray⟩, .slice pm mv.length cm, .slice pp pt.length cp, .bool bl, .bool mk, .int .i64 fo, .string ⟨li.toArray⟩, .int .i64 lo] 32))
  obtain ⟨k0, k1, k2, k3, k4, k5, k6, k7, k8, kf0, kf1, kf2, kf3, kf4, kf5, kf6, kf7, kf8⟩ := HK.out.c9
  have HLB := Lib.hid hlb; clear hlb
  go_enter Tryz.func78, Tryz.ntmps78
  go_wp2_with (first | (with_reducible refine ((HLB.out _).mono ?_); rintro e w' ⟨rfl, hb⟩; replace HB := Lib.hid (bch' HB.out hb); clear hb))
  go_ret
  exact ⟨rfl, HB.out⟩

set_option maxRecDepth 100000 in
set_option maxHeartbeats 4000000 in
theorem cl_cck3 (nu la li : Txt) (mv : List Mv) (pt : List Tm) (pm pp : Option Addr) (cm cp : Nat) (bl mk : Bool) (fo lo : Int) (w : World) (hm : RowX encMv 5 w pm mv) (hc : mv.length ≤ cm) (hn : MvsR mv) :
    Calls Tryz.prog 80 #[.agg #[.string ⟨nu.toArray⟩, .string ⟨la.toArray⟩, .slice pm mv.length cm, .slice pp pt.length cp, .bool bl, .bool mk, .int .i64 fo, .string ⟨li.toArray⟩, .int .i64 lo]] w fun e w' => e = .returned (.int .i64 0) ∧ Below w.heap.size w w' := by
  have hmo := fun W (h : RowX encMv 5 W pm mv) => own_cmoves mv pm cm W h hc hn
  clear hn hc
  have HK := Lib.hid (Blk.new w 32 #[.string ⟨nu.toArray⟩, .string ⟨la.toArray⟩, .slice pm mv.length cm, .slice pp pt.length cp, .bool bl, .bool mk, .int .i64 fo, .string ⟨li.toArray⟩, .int .i64 lo])
  have HB := Lib.hid ((Below.refl w.heap.size w).alloc (Nat.le_refl _) (.cells #[.string ⟨nu.toArray⟩, .string ⟨la.toArray⟩, .slice pm mv.length cm, .slice pp pt.length cp, .bool bl, .bool mk, .int .i64 fo, .string ⟨li.toArray⟩, .int .i64 lo] 32))
  obtain ⟨k0, k1, k2, k3, k4, k5, k6, k7, k8, kf0, kf1, kf2, kf3, kf4, kf5, kf6, kf7, kf8⟩ := HK.out.c9
  have HMV := Lib.hid (hm.kept HB.out); clear hm
  have HMO := Lib.hid hmo; clear hmo
  go_enter Tryz.func80, Tryz.ntmps80
  go_wp2_with (first | (with_reducible refine ((HMO.out _ HMV.out).mono ?_); rintro e w' ⟨rfl, hb⟩; replace HB := Lib.hid (bch' HB.out hb); clear hb))
  go_ret
  exact ⟨rfl, HB.out⟩

set_option maxRecDepth 100000 in
set_option maxHeartbeats 4000000 in
theorem own_ccheckL (nu la li : Txt) (mv : List Mv) (pt : List Tm) (pm pp : Option Addr) (cm cp : Nat) (bl mk : Bool) (fo lo : Int) (w : World) (ht : RowX encTm 6 w pp pt) (hm : RowX encMv 5 w pm mv) (hc : mv.length ≤ cm) (hr1 : NumR nu) (hr2 : LabR la) (hr3 : MvsR mv) (hr4 : PtsR pt) (hr5 : ∀ m ∈ mv, m.pt ≤ (pt.length : Int)) (hr6 : NxtC fo lo li) (env : Env w) :
    Calls Tryz.prog 59 #[.agg #[.string ⟨nu.toArray⟩, .string ⟨la.toArray⟩, .slice pm mv.length cm, .slice pp pt.length cp, .bool bl, .bool mk, .int .i64 fo, .string ⟨li.toArray⟩, .int .i64 lo]] w fun e w' => e = .returned (.int .i64 0) ∧ Below w.heap.size w w' := by
  have ha1 := fun W (e : Env W) => cl_cck1 nu la li mv pt pm pp cm cp bl mk fo lo W hr1 e
  have ha2 := fun W => cl_cck2 nu la li mv pt pm pp cm cp bl mk fo lo W hr2
  have ha3 := fun W (h : RowX encMv 5 W pm mv) => cl_cck3 nu la li mv pt pm pp cm cp bl mk fo lo W h hc hr3
  have ha4 := fun W (h1 : RowX encTm 6 W pp pt) (h2 : RowX encMv 5 W pm mv) => own_cparts nu la li mv pt pm pp cm cp bl mk fo lo W h1 h2 hr4 hr5 hr3.few
  have ha5 := fun W (e : Env W) => own_cnext nu la li mv pt pm pp cm cp bl mk fo lo W hr6 e
  clear hr1 hr2 hr3 hr4 hr5 hr6 hc
  have ENV := Lib.hid env; clear env
  have HK := Lib.hid (Blk.new w 32 #[.string ⟨nu.toArray⟩, .string ⟨la.toArray⟩, .slice pm mv.length cm, .slice pp pt.length cp, .bool bl, .bool mk, .int .i64 fo, .string ⟨li.toArray⟩, .int .i64 lo])
  have HB := Lib.hid ((Below.refl w.heap.size w).alloc (Nat.le_refl _) (.cells #[.string ⟨nu.toArray⟩, .string ⟨la.toArray⟩, .slice pm mv.length cm, .slice pp pt.length cp, .bool bl, .bool mk, .int .i64 fo, .string ⟨li.toArray⟩, .int .i64 lo] 32))
  obtain ⟨k0, k1, k2, k3, k4, k5, k6, k7, k8, kf0, kf1, kf2, kf3, kf4, kf5, kf6, kf7, kf8⟩ := HK.out.c9
  have HTM := Lib.hid (ht.kept HB.out); have HMV := Lib.hid (hm.kept HB.out); clear ht hm
  have HA1 := Lib.hid ha1; clear ha1
  have HA2 := Lib.hid ha2; clear ha2
  have HA3 := Lib.hid ha3; clear ha3
  have HA4 := Lib.hid ha4; clear ha4
  have HA5 := Lib.hid ha5; clear ha5
  go_enter Tryz.func59, Tryz.ntmps59
  go_wp2_with fail
  obtain ⟨W7, hW7⟩ : ∃ X, X = w.alloc (.cells #[.string ⟨nu.toArray⟩, .string ⟨la.toArray⟩, .slice pm mv.length cm, .slice pp pt.length cp, .bool bl, .bool mk, .int .i64 fo, .string ⟨li.toArray⟩, .int .i64 lo] 32) := ⟨_, rfl⟩
  rw [← hW7] at HK HB HTM HMV ⊢
  clear k0 k1 k2 k3 k4 k5 k6 k7 k8 kf0 kf1 kf2 kf3 kf4 kf5 kf6 kf7 kf8
  have hs7 : W7.heap.size = w.heap.size + 1 := by rw [hW7, World.size_alloc]
  clear hW7
  have hb := (Below.refl W7.heap.size W7).alloc (Nat.le_refl _) (.cells #[.func (.func 77) #[] #[], .func (.func 78) #[] #[], .func (.func 80) #[] #[], .func (.func 82) #[] #[], .func (.func 83) #[] #[]] 103)
  have HQ := Lib.hid (Blk.new W7 103 #[.func (.func 77) #[] #[], .func (.func 78) #[] #[], .func (.func 80) #[] #[], .func (.func 82) #[] #[], .func (.func 83) #[] #[]])
  rw [hs7] at HQ
  clear hs7
  obtain ⟨q, hq⟩ : ∃ q, q = w.heap.size + 1 := ⟨_, rfl⟩
  obtain ⟨W8, hW8⟩ : ∃ X, X = W7.alloc (.cells #[.func (.func 77) #[] #[], .func (.func 78) #[] #[], .func (.func 80) #[] #[], .func (.func 82) #[] #[], .func (.func 83) #[] #[]] 103) := ⟨_, rfl⟩
  rw [← hW8] at hb HQ ⊢
  rw [← hq] at HQ ⊢
  clear hW8 hq
  replace HK := Lib.hid (HK.out.keep hb); replace HTM := Lib.hid (HTM.out.kept hb); replace HMV := Lib.hid (HMV.out.kept hb)
  replace HB := Lib.hid (bch' HB.out hb)
  clear hb
  obtain ⟨k0, k1, k2, k3, k4, k5, k6, k7, k8, kf0, kf1, kf2, kf3, kf4, kf5, kf6, kf7, kf8⟩ := HK.out.c9
  obtain ⟨q0, q1, q2, q3, q4, qf0, qf1, qf2, qf3, qf4⟩ := HQ.out.c5
  refine wp_loop_rounds 6 ?_
  rw [rounds_succ]
  go_wp2_with (first | (with_reducible refine ((HA1.out _ (ENV.out.below HB.out)).mono ?_); rintro e w' ⟨rfl, hb⟩; replace HK := Lib.hid (HK.out.keep hb); clear k0 k1 k2 k3 k4 k5 k6 k7 k8 kf0 kf1 kf2 kf3 kf4 kf5 kf6 kf7 kf8; replace HQ := Lib.hid (HQ.out.keep hb); clear q0 q1 q2 q3 q4 qf0 qf1 qf2 qf3 qf4; replace HTM := Lib.hid (RowX.kept HTM.out hb); replace HMV := Lib.hid (RowX.kept HMV.out hb); replace HB := Lib.hid (bch' HB.out hb); clear hb; obtain ⟨k0, k1, k2, k3, k4, k5, k6, k7, k8, kf0, kf1, kf2, kf3, kf4, kf5, kf6, kf7, kf8⟩ := HK.out.c9; obtain ⟨q0, q1, q2, q3, q4, qf0, qf1, qf2, qf3, qf4⟩ := HQ.out.c5) | (with_reducible refine ((HA2.out _).mono ?_); rintro e w' ⟨rfl, hb⟩; replace HK := Lib.hid (HK.out.keep hb); clear k0 k1 k2 k3 k4 k5 k6 k7 k8 kf0 kf1 kf2 kf3 kf4 kf5 kf6 kf7 kf8; replace HQ := Lib.hid (HQ.out.keep hb); clear q0 q1 q2 q3 q4 qf0 qf1 qf2 qf3 qf4; replace HTM := Lib.hid (RowX.kept HTM.out hb); replace HMV := Lib.hid (RowX.kept HMV.out hb); replace HB := Lib.hid (bch' HB.out hb); clear hb; obtain ⟨k0, k1, k2, k3, k4, k5, k6, k7, k8, kf0, kf1, kf2, kf3, kf4, kf5, kf6, kf7, kf8⟩ := HK.out.c9; obtain ⟨q0, q1, q2, q3, q4, qf0, qf1, qf2, qf3, qf4⟩ := HQ.out.c5) | (with_reducible refine ((HA3.out _ HMV.out).mono ?_); rintro e w' ⟨rfl, hb⟩; replace HK := Lib.hid (HK.out.keep hb); clear k0 k1 k2 k3 k4 k5 k6 k7 k8 kf0 kf1 kf2 kf3 kf4 kf5 kf6 kf7 kf8; replace HQ := Lib.hid (HQ.out.keep hb); clear q0 q1 q2 q3 q4 qf0 qf1 qf2 qf3 qf4; replace HTM := Lib.hid (RowX.kept HTM.out hb); replace HMV := Lib.hid (RowX.kept HMV.out hb); replace HB := Lib.hid (bch' HB.out hb); clear hb; obtain ⟨k0, k1, k2, k3, k4, k5, k6, k7, k8, kf0, kf1, kf2, kf3, kf4, kf5, kf6, kf7, kf8⟩ := HK.out.c9; obtain ⟨q0, q1, q2, q3, q4, qf0, qf1, qf2, qf3, qf4⟩ := HQ.out.c5) | (with_reducible refine ((HA4.out _ HTM.out HMV.out).mono ?_); rintro e w' ⟨rfl, hb⟩; replace HK := Lib.hid (HK.out.keep hb); clear k0 k1 k2 k3 k4 k5 k6 k7 k8 kf0 kf1 kf2 kf3 kf4 kf5 kf6 kf7 kf8; replace HQ := Lib.hid (HQ.out.keep hb); clear q0 q1 q2 q3 q4 qf0 qf1 qf2 qf3 qf4; replace HTM := Lib.hid (RowX.kept HTM.out hb); replace HMV := Lib.hid (RowX.kept HMV.out hb); replace HB := Lib.hid (bch' HB.out hb); clear hb; obtain ⟨k0, k1, k2, k3, k4, k5, k6, k7, k8, kf0, kf1, kf2, kf3, kf4, kf5, kf6, kf7, kf8⟩ := HK.out.c9; obtain ⟨q0, q1, q2, q3, q4, qf0, qf1, qf2, qf3, qf4⟩ := HQ.out.c5) | (with_reducible refine ((HA5.out _ (ENV.out.below HB.out)).mono ?_); rintro e w' ⟨rfl, hb⟩; replace HK := Lib.hid (HK.out.keep hb); clear k0 k1 k2 k3 k4 k5 k6 k7 k8 kf0 kf1 kf2 kf3 kf4 kf5 kf6 kf7 kf8; replace HQ := Lib.hid (HQ.out.keep hb); clear q0 q1 q2 q3 q4 qf0 qf1 qf2 qf3 qf4; replace HTM := Lib.hid (RowX.kept HTM.out hb); replace HMV := Lib.hid (RowX.kept HMV.out hb); replace HB := Lib.hid (bch' HB.out hb); clear hb; obtain ⟨k0, k1, k2, k3, k4, k5, k6, k7, k8, kf0, kf1, kf2, kf3, kf4, kf5, kf6, kf7, kf8⟩ := HK.out.c9; obtain ⟨q0, q1, q2, q3, q4, qf0, qf1, qf2, qf3, qf4⟩ := HQ.out.c5))
  rw [rounds_succ]
  go_wp2_with (first | (with_reducible refine ((HA1.out _ (ENV.out.below HB.out)).mono ?_); rintro e w' ⟨rfl, hb⟩; replace HK := Lib.hid (HK.out.keep hb); clear k0 k1 k2 k3 k4 k5 k6 k7 k8 kf0 kf1 kf2 kf3 kf4 kf5 kf6 kf7 kf8; replace HQ := Lib.hid (HQ.out.keep hb); clear q0 q1 q2 q3 q4 qf0 qf1 qf2 qf3 qf4; replace HTM := Lib.hid (RowX.kept HTM.out hb); replace HMV := Lib.hid (RowX.kept HMV.out hb); replace HB := Lib.hid (bch' HB.out hb); clear hb; obtain ⟨k0, k1, k2, k3, k4, k5, k6, k7, k8, kf0, kf1, kf2, kf3, kf4, kf5, kf6, kf7, kf8⟩ := HK.out.c9; obtain ⟨q0, q1, q2, q3, q4, qf0, qf1, qf2, qf3, qf4⟩ := HQ.out.c5) | (with_reducible refine ((HA2.out _).mono ?_); rintro e w' ⟨rfl, hb⟩; replace HK := Lib.hid (HK.out.keep hb); clear k0 k1 k2 k3 k4 k5 k6 k7 k8 kf0 kf1 kf2 kf3 kf4 kf5 kf6 kf7 kf8; replace HQ := Lib.hid (HQ.out.keep hb); clear q0 q1 q2 q3 q4 qf0 qf1 qf2 qf3 qf4; replace HTM := Lib.hid (RowX.kept HTM.out hb); replace HMV := Lib.hid (RowX.kept HMV.out hb); replace HB := Lib.hid (bch' HB.out hb); clear hb; obtain ⟨k0, k1, k2, k3, k4, k5, k6, k7, k8, kf0, kf1, kf2, kf3, kf4, kf5, kf6, kf7, kf8⟩ := HK.out.c9; obtain ⟨q0, q1, q2, q3, q4, qf0, qf1, qf2, qf3, qf4⟩ := HQ.out.c5) | (with_reducible refine ((HA3.out _ HMV.out).mono ?_); rintro e w' ⟨rfl, hb⟩; replace HK := Lib.hid (HK.out.keep hb); clear k0 k1 k2 k3 k4 k5 k6 k7 k8 kf0 kf1 kf2 kf3 kf4 kf5 kf6 kf7 kf8; replace HQ := Lib.hid (HQ.out.keep hb); clear q0 q1 q2 q3 q4 qf0 qf1 qf2 qf3 qf4; replace HTM := Lib.hid (RowX.kept HTM.out hb); replace HMV := Lib.hid (RowX.kept HMV.out hb); replace HB := Lib.hid (bch' HB.out hb); clear hb; obtain ⟨k0, k1, k2, k3, k4, k5, k6, k7, k8, kf0, kf1, kf2, kf3, kf4, kf5, kf6, kf7, kf8⟩ := HK.out.c9; obtain ⟨q0, q1, q2, q3, q4, qf0, qf1, qf2, qf3, qf4⟩ := HQ.out.c5) | (with_reducible refine ((HA4.out _ HTM.out HMV.out).mono ?_); rintro e w' ⟨rfl, hb⟩; replace HK := Lib.hid (HK.out.keep hb); clear k0 k1 k2 k3 k4 k5 k6 k7 k8 kf0 kf1 kf2 kf3 kf4 kf5 kf6 kf7 kf8; replace HQ := Lib.hid (HQ.out.keep hb); clear q0 q1 q2 q3 q4 qf0 qf1 qf2 qf3 qf4; replace HTM := Lib.hid (RowX.kept HTM.out hb); replace HMV := Lib.hid (RowX.kept HMV.out hb); replace HB := Lib.hid (bch' HB.out hb); clear hb; obtain ⟨k0, k1, k2, k3, k4, k5, k6, k7, k8, kf0, kf1, kf2, kf3, kf4, kf5, kf6, kf7, kf8⟩ := HK.out.c9; obtain ⟨q0, q1, q2, q3, q4, qf0, qf1, qf2, qf3, qf4⟩ := HQ.out.c5) | (with_reducible refine ((HA5.out _ (ENV.out.below HB.out)).mono ?_); rintro e w' ⟨rfl, hb⟩; replace HK := Lib.hid (HK.out.keep hb); clear k0 k1 k2 k3 k4 k5 k6 k7 k8 kf0 kf1 kf2 kf3 kf4 kf5 kf6 kf7 kf8; replace HQ := Lib.hid (HQ.out.keep hb); clear q0 q1 q2 q3 q4 qf0 qf1 qf2 qf3 qf4; replace HTM := Lib.hid (RowX.kept HTM.out hb); replace HMV := Lib.hid (RowX.kept HMV.out hb); replace HB := Lib.hid (bch' HB.out hb); clear hb; obtain ⟨k0, k1, k2, k3, k4, k5, k6, k7, k8, kf0, kf1, kf2, kf3, kf4, kf5, kf6, kf7, kf8⟩ := HK.out.c9; obtain ⟨q0, q1, q2, q3, q4, qf0, qf1, qf2, qf3, qf4⟩ := HQ.out.c5))
  rw [rounds_succ]
  go_wp2_with (first | (with_reducible refine ((HA1.out _ (ENV.out.below HB.out)).mono ?_); rintro e w' ⟨rfl, hb⟩; replace HK := Lib.hid (HK.out.keep hb); clear k0 k1 k2 k3 k4 k5 k6 k7 k8 kf0 kf1 kf2 kf3 kf4 kf5 kf6 kf7 kf8; replace HQ := Lib.hid (HQ.out.keep hb); clear q0 q1 q2 q3 q4 qf0 qf1 qf2 qf3 qf4; replace HTM := Lib.hid (RowX.kept HTM.out hb); replace HMV := Lib.hid (RowX.kept HMV.out hb); replace HB := Lib.hid (bch' HB.out hb); clear hb; obtain ⟨k0, k1, k2, k3, k4, k5, k6, k7, k8, kf0, kf1, kf2, kf3, kf4, kf5, kf6, kf7, kf8⟩ := HK.out.c9; obtain ⟨q0, q1, q2, q3, q4, qf0, qf1, qf2, qf3, qf4⟩ := HQ.out.c5) | (with_reducible refine ((HA2.out _).mono ?_); rintro e w' ⟨rfl, hb⟩; replace HK := Lib.hid (HK.out.keep hb); clear k0 k1 k2 k3 k4 k5 k6 k7 k8 kf0 kf1 kf2 kf3 kf4 kf5 kf6 kf7 kf8; replace HQ := Lib.hid (HQ.out.keep hb); clear q0 q1 q2 q3 q4 qf0 qf1 qf2 qf3 qf4; replace HTM := Lib.hid (RowX.kept HTM.out hb); replace HMV := Lib.hid (RowX.kept HMV.out hb); replace HB := Lib.hid (bch' HB.out hb); clear hb; obtain ⟨k0, k1, k2, k3, k4, k5, k6, k7, k8, kf0, kf1, kf2, kf3, kf4, kf5, kf6, kf7, kf8⟩ := HK.out.c9; obtain ⟨q0, q1, q2, q3, q4, qf0, qf1, qf2, qf3, qf4⟩ := HQ.out.c5) | (with_reducible refine ((HA3.out _ HMV.out).mono ?_); rintro e w' ⟨rfl, hb⟩; replace HK := Lib.hid (HK.out.keep hb); clear k0 k1 k2 k3 k4 k5 k6 k7 k8 kf0 kf1 kf2 kf3 kf4 kf5 kf6 kf7 kf8; replace HQ := Lib.hid (HQ.out.keep hb); clear q0 q1 q2 q3 q4 qf0 qf1 qf2 qf3 qf4; replace HTM := Lib.hid (RowX.kept HTM.out hb); replace HMV := Lib.hid (RowX.kept HMV.out hb); replace HB := Lib.hid (bch' HB.out hb); clear hb; obtain ⟨k0, k1, k2, k3, k4, k5, k6, k7, k8, kf0, kf1, kf2, kf3, kf4, kf5, kf6, kf7, kf8⟩ := HK.out.c9; obtain ⟨q0, q1, q2, q3, q4, qf0, qf1, qf2, qf3, qf4⟩ := HQ.out.c5) | (with_reducible refine ((HA4.out _ HTM.out HMV.out).mono ?_); rintro e w' ⟨rfl, hb⟩; replace HK := Lib.hid (HK.out.keep hb); clear k0 k1 k2 k3 k4 k5 k6 k7 k8 kf0 kf1 kf2 kf3 kf4 kf5 kf6 kf7 kf8; replace HQ := Lib.hid (HQ.out.keep hb); clear q0 q1 q2 q3 q4 qf0 qf1 qf2 qf3 qf4; replace HTM := Lib.hid (RowX.kept HTM.out hb); replace HMV := Lib.hid (RowX.kept HMV.out hb); replace HB := Lib.hid (bch' HB.out hb); clear hb; obtain ⟨k0, k1, k2, k3, k4, k5, k6, k7, k8, kf0, kf1, kf2, kf3, kf4, kf5, kf6, kf7, kf8⟩ := HK.out.c9; obtain ⟨q0, q1, q2, q3, q4, qf0, qf1, qf2, qf3, qf4⟩ := HQ.out.c5) | (with_reducible refine ((HA5.out _ (ENV.out.below HB.out)).mono ?_); rintro e w' ⟨rfl, hb⟩; replace HK := Lib.hid (HK.out.keep hb); clear k0 k1 k2 k3 k4 k5 k6 k7 k8 kf0 kf1 kf2 kf3 kf4 kf5 kf6 kf7 kf8; replace HQ := Lib.hid (HQ.out.keep hb); clear q0 q1 q2 q3 q4 qf0 qf1 qf2 qf3 qf4; replace HTM := Lib.hid (RowX.kept HTM.out hb); replace HMV := Lib.hid (RowX.kept HMV.out hb); replace HB := Lib.hid (bch' HB.out hb); clear hb; obtain ⟨k0, k1, k2, k3, k4, k5, k6, k7, k8, kf0, kf1, kf2, kf3, kf4, kf5, kf6, kf7, kf8⟩ := HK.out.c9; obtain ⟨q0, q1, q2, q3, q4, qf0, qf1, qf2, qf3, qf4⟩ := HQ.out.c5))
  rw [rounds_succ]
  go_wp2_with (first | (with_reducible refine ((HA1.out _ (ENV.out.below HB.out)).mono ?_); rintro e w' ⟨rfl, hb⟩; replace HK := Lib.hid (HK.out.keep hb); clear k0 k1 k2 k3 k4 k5 k6 k7 k8 kf0 kf1 kf2 kf3 kf4 kf5 kf6 kf7 kf8; replace HQ := Lib.hid (HQ.out.keep hb); clear q0 q1 q2 q3 q4 qf0 qf1 qf2 qf3 qf4; replace HTM := Lib.hid (RowX.kept HTM.out hb); replace HMV := Lib.hid (RowX.kept HMV.out hb); replace HB := Lib.hid (bch' HB.out hb); clear hb; obtain ⟨k0, k1, k2, k3, k4, k5, k6, k7, k8, kf0, kf1, kf2, kf3, kf4, kf5, kf6, kf7, kf8⟩ := HK.out.c9; obtain ⟨q0, q1, q2, q3, q4, qf0, qf1, qf2, qf3, qf4⟩ := HQ.out.c5) | (with_reducible refine ((HA2.out _).mono ?_); rintro e w' ⟨rfl, hb⟩; replace HK := Lib.hid (HK.out.keep hb); clear k0 k1 k2 k3 k4 k5 k6 k7 k8 kf0 kf1 kf2 kf3 kf4 kf5 kf6 kf7 kf8; replace HQ := Lib.hid (HQ.out.keep hb); clear q0 q1 q2 q3 q4 qf0 qf1 qf2 qf3 qf4; replace HTM := Lib.hid (RowX.kept HTM.out hb); replace HMV := Lib.hid (RowX.kept HMV.out hb); replace HB := Lib.hid (bch' HB.out hb); clear hb; obtain ⟨k0, k1, k2, k3, k4, k5, k6, k7, k8, kf0, kf1, kf2, kf3, kf4, kf5, kf6, kf7, kf8⟩ := HK.out.c9; obtain ⟨q0, q1, q2, q3, q4, qf0, qf1, qf2, qf3, qf4⟩ := HQ.out.c5) | (with_reducible refine ((HA3.out _ HMV.out).mono ?_); rintro e w' ⟨rfl, hb⟩; replace HK := Lib.hid (HK.out.keep hb); clear k0 k1 k2 k3 k4 k5 k6 k7 k8 kf0 kf1 kf2 kf3 kf4 kf5 kf6 kf7 kf8; replace HQ := Lib.hid (HQ.out.keep hb); clear q0 q1 q2 q3 q4 qf0 qf1 qf2 qf3 qf4; replace HTM := Lib.hid (RowX.kept HTM.out hb); replace HMV := Lib.hid (RowX.kept HMV.out hb); replace HB := Lib.hid (bch' HB.out hb); clear hb; obtain ⟨k0, k1, k2, k3, k4, k5, k6, k7, k8, kf0, kf1, kf2, kf3, kf4, kf5, kf6, kf7, kf8⟩ := HK.out.c9; obtain ⟨q0, q1, q2, q3, q4, qf0, qf1, qf2, qf3, qf4⟩ := HQ.out.c5) | (with_reducible refine ((HA4.out _ HTM.out HMV.out).mono ?_); rintro e w' ⟨rfl, hb⟩; replace HK := Lib.hid (HK.out.keep hb); clear k0 k1 k2 k3 k4 k5 k6 k7 k8 kf0 kf1 kf2 kf3 kf4 kf5 kf6 kf7 kf8; replace HQ := Lib.hid (HQ.out.keep hb); clear q0 q1 q2 q3 q4 qf0 qf1 qf2 qf3 qf4; replace HTM := Lib.hid (RowX.kept HTM.out hb); replace HMV := Lib.hid (RowX.kept HMV.out hb); replace HB := Lib.hid (bch' HB.out hb); clear hb; obtain ⟨k0, k1, k2, k3, k4, k5, k6, k7, k8, kf0, kf1, kf2, kf3, kf4, kf5, kf6, kf7, kf8⟩ := HK.out.c9; obtain ⟨q0, q1, q2, q3, q4, qf0, qf1, qf2, qf3, qf4⟩ := HQ.out.c5) | (with_reducible refine ((HA5.out _ (ENV.out.below HB.out)).mono ?_); rintro e w' ⟨rfl, hb⟩; replace HK := Lib.hid (HK.out.keep hb); clear k0 k1 k2 k3 k4 k5 k6 k7 k8 kf0 kf1 kf2 kf3 kf4 kf5 kf6 kf7 kf8; replace HQ := Lib.hid (HQ.out.keep hb); clear q0 q1 q2 q3 q4 qf0 qf1 qf2 qf3 qf4; replace HTM := Lib.hid (RowX.kept HTM.out hb); replace HMV := Lib.hid (RowX.kept HMV.out hb); replace HB := Lib.hid (bch' HB.out hb); clear hb; obtain ⟨k0, k1, k2, k3, k4, k5, k6, k7, k8, kf0, kf1, kf2, kf3, kf4, kf5, kf6, kf7, kf8⟩ := HK.out.c9; obtain ⟨q0, q1, q2, q3, q4, qf0, qf1, qf2, qf3, qf4⟩ := HQ.out.c5))
  rw [rounds_succ]
  go_wp2_with (first | (with_reducible refine ((HA1.out _ (ENV.out.below HB.out)).mono ?_); rintro e w' ⟨rfl, hb⟩; replace HK := Lib.hid (HK.out.keep hb); clear k0 k1 k2 k3 k4 k5 k6 k7 k8 kf0 kf1 kf2 kf3 kf4 kf5 kf6 kf7 kf8; replace HQ := Lib.hid (HQ.out.keep hb); clear q0 q1 q2 q3 q4 qf0 qf1 qf2 qf3 qf4; replace HTM := Lib.hid (RowX.kept HTM.out hb); replace HMV := Lib.hid (RowX.kept HMV.out hb); replace HB := Lib.hid (bch' HB.out hb); clear hb; obtain ⟨k0, k1, k2, k3, k4, k5, k6, k7, k8, kf0, kf1, kf2, kf3, kf4, kf5, kf6, kf7, kf8⟩ := HK.out.c9; obtain ⟨q0, q1, q2, q3, q4, qf0, qf1, qf2, qf3, qf4⟩ := HQ.out.c5) | (with_reducible refine ((HA2.out _).mono ?_); rintro e w' ⟨rfl, hb⟩; replace HK := Lib.hid (HK.out.keep hb); clear k0 k1 k2 k3 k4 k5 k6 k7 k8 kf0 kf1 kf2 kf3 kf4 kf5 kf6 kf7 kf8; replace HQ := Lib.hid (HQ.out.keep hb); clear q0 q1 q2 q3 q4 qf0 qf1 qf2 qf3 qf4; replace HTM := Lib.hid (RowX.kept HTM.out hb); replace HMV := Lib.hid (RowX.kept HMV.out hb); replace HB := Lib.hid (bch' HB.out hb); clear hb; obtain ⟨k0, k1, k2, k3, k4, k5, k6, k7, k8, kf0, kf1, kf2, kf3, kf4, kf5, kf6, kf7, kf8⟩ := HK.out.c9; obtain ⟨q0, q1, q2, q3, q4, qf0, qf1, qf2, qf3, qf4⟩ := HQ.out.c5) | (with_reducible refine ((HA3.out _ HMV.out).mono ?_); rintro e w' ⟨rfl, hb⟩; replace HK := Lib.hid (HK.out.keep hb); clear k0 k1 k2 k3 k4 k5 k6 k7 k8 kf0 kf1 kf2 kf3 kf4 kf5 kf6 kf7 kf8; replace HQ := Lib.hid (HQ.out.keep hb); clear q0 q1 q2 q3 q4 qf0 qf1 qf2 qf3 qf4; replace HTM := Lib.hid (RowX.kept HTM.out hb); replace HMV := Lib.hid (RowX.kept HMV.out hb); replace HB := Lib.hid (bch' HB.out hb); clear hb; obtain ⟨k0, k1, k2, k3, k4, k5, k6, k7, k8, kf0, kf1, kf2, kf3, kf4, kf5, kf6, kf7, kf8⟩ := HK.out.c9; obtain ⟨q0, q1, q2, q3, q4, qf0, qf1, qf2, qf3, qf4⟩ := HQ.out.c5) | (with_reducible refine ((HA4.out _ HTM.out HMV.out).mono ?_); rintro e w' ⟨rfl, hb⟩; replace HK := Lib.hid (HK.out.keep hb); clear k0 k1 k2 k3 k4 k5 k6 k7 k8 kf0 kf1 kf2 kf3 kf4 kf5 kf6 kf7 kf8; replace HQ := Lib.hid (HQ.out.keep hb); clear q0 q1 q2 q3 q4 qf0 qf1 qf2 qf3 qf4; replace HTM := Lib.hid (RowX.kept HTM.out hb); replace HMV := Lib.hid (RowX.kept HMV.out hb); replace HB := Lib.hid (bch' HB.out hb); clear hb; obtain ⟨k0, k1, k2, k3, k4, k5, k6, k7, k8, kf0, kf1, kf2, kf3, kf4, kf5, kf6, kf7, kf8⟩ := HK.out.c9; obtain ⟨q0, q1, q2, q3, q4, qf0, qf1, qf2, qf3, qf4⟩ := HQ.out.c5) | (with_reducible refine ((HA5.out _ (ENV.out.below HB.out)).mono ?_); rintro e w' ⟨rfl, hb⟩; replace HK := Lib.hid (HK.out.keep hb); clear k0 k1 k2 k3 k4 k5 k6 k7 k8 kf0 kf1 kf2 kf3 kf4 kf5 kf6 kf7 kf8; replace HQ := Lib.hid (HQ.out.keep hb); clear q0 q1 q2 q3 q4 qf0 qf1 qf2 qf3 qf4; replace HTM := Lib.hid (RowX.kept HTM.out hb); replace HMV := Lib.hid (RowX.kept HMV.out hb); replace HB := Lib.hid (bch' HB.out hb); clear hb; obtain ⟨k0, k1, k2, k3, k4, k5, k6, k7, k8, kf0, kf1, kf2, kf3, kf4, kf5, kf6, kf7, kf8⟩ := HK.out.c9; obtain ⟨q0, q1, q2, q3, q4, qf0, qf1, qf2, qf3, qf4⟩ := HQ.out.c5))
  rw [rounds_succ]
  go_wp2_with (first | (with_reducible refine ((HA1.out _ (ENV.out.below HB.out)).mono ?_); rintro e w' ⟨rfl, hb⟩; replace HK := Lib.hid (HK.out.keep hb); clear k0 k1 k2 k3 k4 k5 k6 k7 k8 kf0 kf1 kf2 kf3 kf4 kf5 kf6 kf7 kf8; replace HQ := Lib.hid (HQ.out.keep hb); clear q0 q1 q2 q3 q4 qf0 qf1 qf2 qf3 qf4; replace HTM := Lib.hid (RowX.kept HTM.out hb); replace HMV := Lib.hid (RowX.kept HMV.out hb); replace HB := Lib.hid (bch' HB.out hb); clear hb; obtain ⟨k0, k1, k2, k3, k4, k5, k6, k7, k8, kf0, kf1, kf2, kf3, kf4, kf5, kf6, kf7, kf8⟩ := HK.out.c9; obtain ⟨q0, q1, q2, q3, q4, qf0, qf1, qf2, qf3, qf4⟩ := HQ.out.c5) | (with_reducible refine ((HA2.out _).mono ?_); rintro e w' ⟨rfl, hb⟩; replace HK := Lib.hid (HK.out.keep hb); clear k0 k1 k2 k3 k4 k5 k6 k7 k8 kf0 kf1 kf2 kf3 kf4 kf5 kf6 kf7 kf8; replace HQ := Lib.hid (HQ.out.keep hb); clear q0 q1 q2 q3 q4 qf0 qf1 qf2 qf3 qf4; replace HTM := Lib.hid (RowX.kept HTM.out hb); replace HMV := Lib.hid (RowX.kept HMV.out hb); replace HB := Lib.hid (bch' HB.out hb); clear hb; obtain ⟨k0, k1, k2, k3, k4, k5, k6, k7, k8, kf0, kf1, kf2, kf3, kf4, kf5, kf6, kf7, kf8⟩ := HK.out.c9; obtain ⟨q0, q1, q2, q3, q4, qf0, qf1, qf2, qf3, qf4⟩ := HQ.out.c5) | (with_reducible refine ((HA3.out _ HMV.out).mono ?_); rintro e w' ⟨rfl, hb⟩; replace HK := Lib.hid (HK.out.keep hb); clear k0 k1 k2 k3 k4 k5 k6 k7 k8 kf0 kf1 kf2 kf3 kf4 kf5 kf6 kf7 kf8; replace HQ := Lib.hid (HQ.out.keep hb); clear q0 q1 q2 q3 q4 qf0 qf1 qf2 qf3 qf4; replace HTM := Lib.hid (RowX.kept HTM.out hb); replace HMV := Lib.hid (RowX.kept HMV.out hb); replace HB := Lib.hid (bch' HB.out hb); clear hb; obtain ⟨k0, k1, k2, k3, k4, k5, k6, k7, k8, kf0, kf1, kf2, kf3, kf4, kf5, kf6, kf7, kf8⟩ := HK.out.c9; obtain ⟨q0, q1, q2, q3, q4, qf0, qf1, qf2, qf3, qf4⟩ := HQ.out.c5) | (with_reducible refine ((HA4.out _ HTM.out HMV.out).mono ?_); rintro e w' ⟨rfl, hb⟩; replace HK := Lib.hid (HK.out.keep hb); clear k0 k1 k2 k3 k4 k5 k6 k7 k8 kf0 kf1 kf2 kf3 kf4 kf5 kf6 kf7 kf8; replace HQ := Lib.hid (HQ.out.keep hb); clear q0 q1 q2 q3 q4 qf0 qf1 qf2 qf3 qf4; replace HTM := Lib.hid (RowX.kept HTM.out hb); replace HMV := Lib.hid (RowX.kept HMV.out hb); replace HB := Lib.hid (bch' HB.out hb); clear hb; obtain ⟨k0, k1, k2, k3, k4, k5, k6, k7, k8, kf0, kf1, kf2, kf3, kf4, kf5, kf6, kf7, kf8⟩ := HK.out.c9; obtain ⟨q0, q1, q2, q3, q4, qf0, qf1, qf2, qf3, qf4⟩ := HQ.out.c5) | (with_reducible refine ((HA5.out _ (ENV.out.below HB.out)).mono ?_); rintro e w' ⟨rfl, hb⟩; replace HK := Lib.hid (HK.out.keep hb); clear k0 k1 k2 k3 k4 k5 k6 k7 k8 kf0 kf1 kf2 kf3 kf4 kf5 kf6 kf7 kf8; replace HQ := Lib.hid (HQ.out.keep hb); clear q0 q1 q2 q3 q4 qf0 qf1 qf2 qf3 qf4; replace HTM := Lib.hid (RowX.kept HTM.out hb); replace HMV := Lib.hid (RowX.kept HMV.out hb); replace HB := Lib.hid (bch' HB.out hb); clear hb; obtain ⟨k0, k1, k2, k3, k4, k5, k6, k7, k8, kf0, kf1, kf2, kf3, kf4, kf5, kf6, kf7, kf8⟩ := HK.out.c9; obtain ⟨q0, q1, q2, q3, q4, qf0, qf1, qf2, qf3, qf4⟩ := HQ.out.c5))
  go_ret
  exact ⟨rfl, HB.out⟩

theorem own_ccheck (x : CuL) (w : World) (hc : CuAt w x) (hr : CuR x.c) (env : Env w) :
    Calls Tryz.prog 59 #[.agg #[.string ⟨x.c.nu.toArray⟩, .string ⟨x.c.la.toArray⟩, .slice x.pm x.c.mv.length x.cm, .slice x.pp x.c.pt.length x.cp, .bool (x.c.bl), .bool (x.c.mk_), .int .i64 (x.c.fo), .string ⟨x.c.li.toArray⟩, .int .i64 (x.c.lo)]] w fun e w' => e = .returned (.int .i64 0) ∧ Below w.heap.size w w' :=
  own_ccheckL x.c.nu x.c.la x.c.li x.c.mv x.c.pt x.pm x.pp x.cm x.cp x.c.bl x.c.mk_ x.c.fo x.c.lo w hc.p hc.m hc.k hr.nu hr.la hr.mv hr.pt hr.mp ⟨hr.nx.fo, hr.nx.li, hr.nx.l0, hr.nx.l1, hr.nx.use⟩ env
end Go.Proofs.YtikogofioggmlaaGreatDoor

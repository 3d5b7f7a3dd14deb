/-
  Lists of cues: the program.
-/
import Derived.Test.YtikogofioggmlaaGreatDoorLh
set_option linter.unusedVariables false
set_option linter.unusedSimpArgs false
namespace Lum
open Go Go.RowKit Go.Shelf
open Go.Lib (decDigits itoa)
def LcI (L : List CuL) (v : List Value) (g : Nat) (T : TypeId) (p : Option Addr) (w : World) (s : Value) (wr : World) : Prop := ∃ k : Nat, s = .int .i64 (k : Int) ∧ k ≤ L.length ∧ Hid (Below w.heap.size w wr) ∧ Hid (Blk wr g T v.toArray) ∧ Hid (CusAt wr p L)
theorem lsR_at {num pri : Int} {L : List CuL} (h : LsR num pri (L.map CuL.c)) {k : Nat} (hk : k < L.length) : CuR (L[k]'hk).c := h.ok _ (List.mem_map.2 ⟨_, List.getElem_mem hk, rfl⟩)
theorem lsR_asc {num pri : Int} {L : List CuL} (h : LsR num pri (L.map CuL.c)) {k : Nat} (hk : k < L.length) (h0 : 0 < k) : val5 (L[k - 1]'(by omega)).c.nu < val5 (L[k]'hk).c.nu := by
  obtain ⟨m, rfl⟩ : ∃ m, k = m + 1 := ⟨k - 1, by omega⟩
  have := h.asc m (by rw [List.length_map]; exact hk)
  rw [List.getElem_map, List.getElem_map] at this
  exact this
theorem lsR_len {num pri : Int} {L : List CuL} (h : LsR num pri (L.map CuL.c)) : L.length ≤ 64 := by have := h.few; rwa [List.length_map] at this
end Lum
namespace Go.Proofs.YtikogofioggmlaaGreatDoor
open Go.RowKit Go.Shelf Lum
open Go.Lib (decDigits itoa)
attribute [local go_sem] bs_get bs_extract_end bs_extract_from bs_extract bs_append

set_option maxRecDepth 100000 in
set_option maxHeartbeats 4000000 in
theorem own_lcheck (num pri : Int) (L : List CuL) (p : Option Addr) (c : Nat) (w : World) (hC : CusAt w p L) (hR : LsR num pri (L.map CuL.c)) (env : Env w) :
    Calls Tryz.prog 49 #[.agg #[.int .i64 num, .int .i64 pri, .slice p L.length c]] w fun e w' => e = .returned (.int .i64 0) ∧ Below w.heap.size w w' := by
  have q1 : ¬ num < 1 := by have := hR.n0; omega
  have q2 : ¬ (1048576 : Int) < num := by have := hR.n1; omega
  have q3 : ¬ pri < 0 := by have := hR.p0; omega
  have q4 : ¬ (9 : Int) < pri := by have := hR.p1; omega
  have q5 : ¬ (64 : Int) < (L.length : Int) := by have := lsR_len hR; omega
  have HLN := Lib.hid (lsR_len hR)
  have HR := Lib.hid hR; have ENV := Lib.hid env; clear hR env
  have HL := Lib.hid (Blk.new w 24 #[.int .i64 num, .int .i64 pri, .slice p L.length c])
  have HB := Lib.hid ((Below.refl w.heap.size w).alloc (Nat.le_refl _) (.cells #[.int .i64 num, .int .i64 pri, .slice p L.length c] 24))
  obtain ⟨l0, l1, l2, lf0, lf1, lf2⟩ := HL.out.c3
  have HC := Lib.hid (hC.kept HB.out); clear hC
  go_enter Tryz.func49, Tryz.ntmps49
  go_wp2_with fail
  go_loopw [33] (fun s wr => LcI L [.int .i64 num, .int .i64 pri, .slice p L.length c] w.heap.size 24 p w s wr) (fun s _ => L.length - (intOf s).toNat)
  case atStart => exact ⟨0, rfl, Nat.zero_le _, HB, HL, HC⟩
  case round =>
    obtain ⟨k, rfl, hk9, HB2, HL2, HC2⟩ := hrel
    clear HB HL HC
    clear l0 l1 l2 lf0 lf1 lf2
    have HB := HB2; have HL := HL2; have HC := HC2; clear HB2 HL2 HC2
    obtain ⟨l0, l1, l2, lf0, lf1, lf2⟩ := HL.out.c3
    by_cases hkl : k < L.length
    · have hlt : (k : Int) < (L.length : Int) := by omega
      have hk0 : (0 : Int) ≤ (k : Int) := by omega
      have hlo : k * 9 < 9223372036854775807 := by have := HLN.out; omega
      have hun : IntKind.i64.wrap ((k : Int) + 1) = (k : Int) + 1 := IntWalk.i64_in _ (by have := HLN.out; omega)
      obtain ⟨b, o, hpp, hb, hC⟩ := HC.out.r (fun h => by rw [h] at hkl; exact absurd hkl (Nat.not_lt_zero _))
      obtain ⟨x, hx⟩ : ∃ x, x = L[k]'hkl := ⟨_, rfl⟩
      have hcell := hC k hkl
      rw [← hx] at hcell
      have HX_ := Lib.hid hx; have HCA : Hid (CuAt wr x) := Lib.hid (by rw [hx]; exact HC.out.a _ (List.getElem_mem hkl))
      subst hpp
      clear l0 l1 l2 lf0 lf1 lf2
      obtain ⟨l0, l1, l2, lf0, lf1, lf2⟩ := HL.out.c3
      have y0 : wr.cell? ⟨b, o + k * 9, none⟩ = some (.string ⟨x.c.nu.toArray⟩) := hcell 0 _ rfl
      have y1 : wr.cell? ⟨b, o + k * 9 + 1, none⟩ = some (.string ⟨x.c.la.toArray⟩) := hcell 1 _ rfl
      have y2 : wr.cell? ⟨b, o + k * 9 + 2, none⟩ = some (.slice x.pm x.c.mv.length x.cm) := hcell 2 _ rfl
      have y3 : wr.cell? ⟨b, o + k * 9 + 3, none⟩ = some (.slice x.pp x.c.pt.length x.cp) := hcell 3 _ rfl
      have y4 : wr.cell? ⟨b, o + k * 9 + 4, none⟩ = some (.bool (x.c.bl)) := hcell 4 _ rfl
      have y5 : wr.cell? ⟨b, o + k * 9 + 5, none⟩ = some (.bool (x.c.mk_)) := hcell 5 _ rfl
      have y6 : wr.cell? ⟨b, o + k * 9 + 6, none⟩ = some (.int .i64 (x.c.fo)) := hcell 6 _ rfl
      have y7 : wr.cell? ⟨b, o + k * 9 + 7, none⟩ = some (.string ⟨x.c.li.toArray⟩) := hcell 7 _ rfl
      have y8 : wr.cell? ⟨b, o + k * 9 + 8, none⟩ = some (.int .i64 (x.c.lo)) := hcell 8 _ rfl
      have hbr := hb
      have hck := fun W (h : CuAt W x) (e : Env W) => own_ccheck x W h (by rw [hx]; exact lsR_at HR.out hkl) e
      clear hcell hb hC hx
      have HCK := Lib.hid hck; clear hck
      go_upto_region 8 with fail
      clear y0 y1 y2 y3 y4 y5 y6 y7 y8 hbr
      have hb := (Below.refl wr.heap.size wr).alloc (Nat.le_refl _) (.cells #[.string ⟨x.c.nu.toArray⟩, .string ⟨x.c.la.toArray⟩, .slice x.pm x.c.mv.length x.cm, .slice x.pp x.c.pt.length x.cp, .bool (x.c.bl), .bool (x.c.mk_), .int .i64 (x.c.fo), .string ⟨x.c.li.toArray⟩, .int .i64 (x.c.lo)] 32)
      have HX := Lib.hid (Blk.new wr 32 #[.string ⟨x.c.nu.toArray⟩, .string ⟨x.c.la.toArray⟩, .slice x.pm x.c.mv.length x.cm, .slice x.pp x.c.pt.length x.cp, .bool (x.c.bl), .bool (x.c.mk_), .int .i64 (x.c.fo), .string ⟨x.c.li.toArray⟩, .int .i64 (x.c.lo)])
      obtain ⟨n8, hn8⟩ : ∃ n, n = wr.heap.size := ⟨_, rfl⟩
      obtain ⟨Wa, hWWa⟩ : ∃ X, X = wr.alloc (.cells #[.string ⟨x.c.nu.toArray⟩, .string ⟨x.c.la.toArray⟩, .slice x.pm x.c.mv.length x.cm, .slice x.pp x.c.pt.length x.cp, .bool (x.c.bl), .bool (x.c.mk_), .int .i64 (x.c.fo), .string ⟨x.c.li.toArray⟩, .int .i64 (x.c.lo)] 32) := ⟨_, rfl⟩
      rw [← hn8] at HX ⊢
      rw [← hWWa] at hb HX ⊢
      replace HL := Lib.hid (HL.out.keep hb); clear l0 l1 l2 lf0 lf1 lf2; replace HC := Lib.hid (CusAt.kept HC.out hb); replace HCA := Lib.hid (CuAt.kept HCA.out hb); replace HB := Lib.hid (bch' HB.out hb); clear hb; obtain ⟨l0, l1, l2, lf0, lf1, lf2⟩ := HL.out.c3
      clear hWWa hn8
      obtain ⟨x0, x1, x2, x3, x4, x5, x6, x7, x8, xf0, xf1, xf2, xf3, xf4, xf5, xf6, xf7, xf8⟩ := HX.out.c9
      go_upto_region 11 with (first | (with_reducible refine ((HCK.out _ HCA.out (ENV.out.below HB.out)).mono ?_); rintro e w' ⟨rfl, hb⟩; replace HCA := Lib.hid (HCA.out.kept hb); replace HL := Lib.hid (HL.out.keep hb); clear l0 l1 l2 lf0 lf1 lf2; replace HX := Lib.hid (HX.out.keep hb); clear x0 x1 x2 x3 x4 x5 x6 x7 x8 xf0 xf1 xf2 xf3 xf4 xf5 xf6 xf7 xf8; replace HC := Lib.hid (CusAt.kept HC.out hb); replace HB := Lib.hid (bch' HB.out hb); clear hb; obtain ⟨l0, l1, l2, lf0, lf1, lf2⟩ := HL.out.c3; obtain ⟨x0, x1, x2, x3, x4, x5, x6, x7, x8, xf0, xf1, xf2, xf3, xf4, xf5, xf6, xf7, xf8⟩ := HX.out.c9))
      clear l0 l1 l2 lf0 lf1 lf2
      clear x0 x1 x2 x3 x4 x5 x6 x7 x8 xf0 xf1 xf2 xf3 xf4 xf5 xf6 xf7 xf8
      by_cases k0 : k = 0
      · have hgi : ¬ (0 : Int) < (k : Int) := by omega
        have hd : decide (0 < k) = false := decide_eq_false (by omega)
        clear k0
        refine wp_region_WQ (by kernel_rfl) (by kernel_rfl) ?_
        repeat (refine WQ.step (fun K hK => ?_); go_simp; first | (refine hK.out _ ?_; clear hK K) | (apply Exists.intro; refine ⟨fun _ => ?_, hK.out _ ?_⟩; (first | rfl); clear hK K))
        refine WQ.nil ?_
        intro _ hw'
        obtain ⟨⟨wq, hbq⟩, hw2⟩ := hw'
        subst hw2
        replace HL := Lib.hid (HL.out.keep hbq); replace HC := Lib.hid (HC.out.kept hbq)
        replace HB := Lib.hid (bch' HB.out hbq)
        go_wp2_with fail
        go_roundw
        case rel => exact ⟨k + 1, by first | rfl | simp, by omega, HB, HL, HC⟩
        case measure => first | (simp [intOf]; done) | (simp [intOf]; omega)
      · have hi1 : k - 1 < L.length := by omega
        have hkp : 0 < k := by omega
        have hgi : (0 : Int) < (k : Int) := by omega
        have hd : decide (0 < k) = true := decide_eq_true (by omega)
        have hm1 : IntKind.i64.wrap ((k : Int) - 1) = ((k - 1 : Nat) : Int) := by rw [IntWalk.i64_in _ (by have := HLN.out; omega)]; omega
        have hlo1 : (k - 1) * 9 < 9223372036854775807 := by have := HLN.out; omega
        obtain ⟨y, hy⟩ : ∃ y, y = L[k - 1]'hi1 := ⟨_, rfl⟩
        have HY := Lib.hid hy; clear hy
        obtain ⟨hbb, hcc⟩ := rowX_at HC.out.r (fun h => by rw [h] at hkl; exact absurd hkl (Nat.not_lt_zero _))
        have HBb := Lib.hid hbb; clear hbb
        have HYP : Hid (w'.cell? ⟨b, o + (k - 1) * 9, none⟩ = some (.string ⟨y.c.nu.toArray⟩)) := Lib.hid (by have := hcc (k - 1) hi1 0 _ (by rw [← HY.out]; rfl); exact this)
        have hyn : NumR y.c.nu := by rw [HY.out]; exact (lsR_at HR.out hi1).nu
        have hxn : NumR x.c.nu := by rw [HX_.out]; exact (lsR_at HR.out hkl).nu
        have hlt5 : val5 y.c.nu < val5 x.c.nu := by rw [HY.out, HX_.out]; exact lsR_asc HR.out hkl hkp
        have hd0 := fun W (e : Env W) => own_clcompare y.c.nu x.c.nu W hyn hxn e
        clear hcc hyn hxn k0
        have hge : decide ((0 : Int) ≤ ordI (val5 y.c.nu) (val5 x.c.nu)) = false := decide_eq_false (fun h => ordI_ge.1 h hlt5)
        clear hlt5
        generalize ordI (val5 y.c.nu) (val5 x.c.nu) = zz at *
        have HO := Lib.hid hd0; clear hd0
        have f0 := fun p : BelowOf _ => (HL.out.keep p.h).c3.2.2.1
        have f1 := fun p : BelowOf _ => (HX.out.keep p.h).c9.1
        have e1 := fun p : BelowOf _ => (p.h.cell (p := ⟨b, o + (k - 1) * 9, none⟩) HBb.out).trans HYP.out
        have zz1 := fun p : BelowOf _ => Nat.lt_of_lt_of_le HBb.out p.h.size
        refine wp_region_WQ (by kernel_rfl) (by kernel_rfl) ?_
        repeat (refine WQ.step (fun K hK => ?_); go_simp; first | (refine hK.out _ ?_; clear hK K) | (apply Exists.intro; refine ⟨fun _ => ?_, hK.out _ ?_⟩; (first | rfl | (with_reducible exact calls_below_of _ (HO.out _ (ENV.out.below (bch' HB.out (BelowOf.h _)))))); clear hK K))
        refine WQ.nil ?_
        intro _ hw'
        obtain ⟨⟨wq, hbq⟩, hw2⟩ := hw'
        subst hw2
        replace HL := Lib.hid (HL.out.keep hbq); replace HC := Lib.hid (HC.out.kept hbq)
        replace HB := Lib.hid (bch' HB.out hbq)
        clear f0 f1 e1 zz1
        go_wp2_with fail
        go_roundw
        case rel => exact ⟨k + 1, by first | rfl | simp, by omega, HB, HL, HC⟩
        case measure => first | (simp [intOf]; done) | (simp [intOf]; omega)
    · have hlt : ¬ (k : Int) < (L.length : Int) := by omega
      go_wp2_with fail
      go_ret
      exact ⟨rfl, HB.out⟩

set_option maxRecDepth 100000 in
set_option maxHeartbeats 4000000 in
theorem own_lchecked (num pri : Int) (L : List CuL) (p : Option Addr) (c : Nat) (w : World) (hC : CusAt w p L) (hR : LsR num pri (L.map CuL.c)) (s : Txt) (g : Nat) (hs : NumR s) (hg : g < w.heap.size) (hsc : w.cell? ⟨g, 0, none⟩ = some (.string ⟨s.toArray⟩)) (env : Env w) :
    Calls Tryz.prog 35 #[.agg #[.int .i64 num, .int .i64 pri, .slice p L.length c], .slice (some ⟨g, 0, none⟩) 1 1] w fun e w' => e = .returned (.int .i64 0) ∧ Below w.heap.size w w' := by
  have hlc := fun W (h : CusAt W p L) (e : Env W) => own_lcheck num pri L p c W h hR e
  have hnc := fun W (e : Env W) => own_ncheck s W hs e
  have ENV := Lib.hid env; have HG := Lib.hid hg; have HSC := Lib.hid hsc; clear env hR hs hg hsc
  have HL := Lib.hid (Blk.new w 24 #[.int .i64 num, .int .i64 pri, .slice p L.length c])
  have HB := Lib.hid ((Below.refl w.heap.size w).alloc (Nat.le_refl _) (.cells #[.int .i64 num, .int .i64 pri, .slice p L.length c] 24))
  obtain ⟨l0, l1, l2, lf0, lf1, lf2⟩ := HL.out.c3
  have HC := Lib.hid (hC.kept HB.out); clear hC
  have sc : (w.alloc (.cells #[.int .i64 num, .int .i64 pri, .slice p L.length c] 24)).cell? ⟨g, 0, none⟩ = some (.string ⟨s.toArray⟩) := (HB.out.cell (p := ⟨g, 0, none⟩) HG.out).trans HSC.out
  have HLC := Lib.hid hlc; clear hlc
  have HNC := Lib.hid hnc; clear hnc
  go_enter Tryz.func35, Tryz.ntmps35
  go_wp2_with (first | (with_reducible refine ((HLC.out _ HC.out (ENV.out.below HB.out)).mono ?_); rintro e w' ⟨rfl, hb⟩; replace HL := Lib.hid (HL.out.keep hb); clear l0 l1 l2 lf0 lf1 lf2; replace HC := Lib.hid (CusAt.kept HC.out hb); replace HB := Lib.hid (bch' HB.out hb); clear hb; obtain ⟨l0, l1, l2, lf0, lf1, lf2⟩ := HL.out.c3; clear sc; have sc := (HB.out.cell (p := ⟨g, 0, none⟩) HG.out).trans HSC.out; have sr := Nat.lt_of_lt_of_le HG.out HB.out.size))
  refine wp_loop_rounds 2 ?_
  rw [rounds_succ]
  go_wp2_with (first | (with_reducible refine ((HNC.out _ (ENV.out.below HB.out)).mono ?_); rintro e w' ⟨rfl, hb⟩; replace HL := Lib.hid (HL.out.keep hb); clear l0 l1 l2 lf0 lf1 lf2; replace HC := Lib.hid (CusAt.kept HC.out hb); replace HB := Lib.hid (bch' HB.out hb); clear hb; obtain ⟨l0, l1, l2, lf0, lf1, lf2⟩ := HL.out.c3; clear sc; have sc := (HB.out.cell (p := ⟨g, 0, none⟩) HG.out).trans HSC.out; have sr := Nat.lt_of_lt_of_le HG.out HB.out.size))
  rw [rounds_succ]
  go_wp2_with fail
  go_ret
  exact ⟨rfl, HB.out⟩

set_option maxRecDepth 100000 in
set_option maxHeartbeats 4000000 in
theorem cu1_index (M : FuncId) (fv : Value) (l : List CuL) (pr : CuL → Bool) (pp : Option Addr) (cc base : Nat) (w : World) (hR : RowX encCu 9 w pp l) (hbase : base ≤ w.heap.size) (hn : l.length ≤ 1000000) (hF : ∀ args w, (callFunc M args).run Tryz.prog w = .ok (.enter M args) w)
    (hcm : ∀ x ∈ l, ∀ W, Below base w W → Calls Tryz.prog M #[.agg #[.string ⟨x.c.nu.toArray⟩, .string ⟨x.c.la.toArray⟩, .slice x.pm x.c.mv.length x.cm, .slice x.pp x.c.pt.length x.cp, .bool (x.c.bl), .bool (x.c.mk_), .int .i64 (x.c.fo), .string ⟨x.c.li.toArray⟩, .int .i64 (x.c.lo)], fv] W fun e w' => e = .returned (.bool (pr x)) ∧ Below W.heap.size W w') :
    Calls Tryz.prog 51 #[.slice pp l.length cc, .func (.func M) #[] #[fv]] w fun e w' => e = .returned (.int .i64 (ixOf pr l)) ∧ Below w.heap.size w w' := by
  have hv2 := Lib.hid hR; clear hR
  have hcc := Lib.hid hcm; clear hcm
  have HB := Lib.hid (Below.refl w.heap.size w)
  go_enter Tryz.func51, Tryz.ntmps51
  go_wp2_with fail
  go_loopw [8] (fun s8 wr => ∃ i r : Nat, s8 = .int .i64 (i : Int) ∧ Hid (i + r = l.length) ∧ Hid (Below w.heap.size w wr) ∧ Hid (∀ j (hj : j < l.length), j < i → pr (l[j]'hj) = false)) (fun s8 _ => l.length - (intOf s8).toNat)
  case atStart => exact ⟨0, l.length, rfl, Lib.hid (by omega), HB, Lib.hid (fun j hj h => absurd h (Nat.not_lt_zero _))⟩
  case round =>
    clear HB
    obtain ⟨i, r, rfl, hkr, HB, HN⟩ := hrel
    cases r with
    | zero =>
      have hlt : ¬ (i : Int) < (l.length : Int) := by have := hkr.out; omega
      have HR : Hid (ixOf pr l = -1) := Lib.hid (ixOf_no fun j hj => HN.out j hj (by have := hkr.out; omega))
      go_wp2_with fail
      go_ret
      exact ⟨by rw [HR.out]; rfl, HB.out⟩
    | succ r =>
      have hkl : i < l.length := by have := hkr.out; omega
      have hlt : (i : Int) < (l.length : Int) := by omega
      have hi0 : (0 : Int) ≤ (i : Int) := by omega
      have hun : IntKind.i64.wrap ((i : Int) + 1) = (i : Int) + 1 := IntWalk.i64_in _ (by omega)
      obtain ⟨b, o, rfl, hb, hC⟩ := hv2.out (fun h => by subst h; exact absurd hkl (Nat.not_lt_zero _))
      obtain ⟨x, hx⟩ : ∃ x, x = l[i]'hkl := ⟨_, rfl⟩
      have hcell := hC i hkl
      rw [← hx] at hcell
      have x0 : wr.cell? ⟨b, o + i * 9, none⟩ = some (.string ⟨x.c.nu.toArray⟩) := (HB.out.cell (p := ⟨b, o + i * 9 + 0, none⟩) hb).trans (hcell 0 _ rfl)
      have x1 : wr.cell? ⟨b, o + i * 9 + 1, none⟩ = some (.string ⟨x.c.la.toArray⟩) := (HB.out.cell (p := ⟨b, o + i * 9 + 1, none⟩) hb).trans (hcell 1 _ rfl)
      have x2 : wr.cell? ⟨b, o + i * 9 + 2, none⟩ = some (.slice x.pm x.c.mv.length x.cm) := (HB.out.cell (p := ⟨b, o + i * 9 + 2, none⟩) hb).trans (hcell 2 _ rfl)
      have x3 : wr.cell? ⟨b, o + i * 9 + 3, none⟩ = some (.slice x.pp x.c.pt.length x.cp) := (HB.out.cell (p := ⟨b, o + i * 9 + 3, none⟩) hb).trans (hcell 3 _ rfl)
      have x4 : wr.cell? ⟨b, o + i * 9 + 4, none⟩ = some (.bool (x.c.bl)) := (HB.out.cell (p := ⟨b, o + i * 9 + 4, none⟩) hb).trans (hcell 4 _ rfl)
      have x5 : wr.cell? ⟨b, o + i * 9 + 5, none⟩ = some (.bool (x.c.mk_)) := (HB.out.cell (p := ⟨b, o + i * 9 + 5, none⟩) hb).trans (hcell 5 _ rfl)
      have x6 : wr.cell? ⟨b, o + i * 9 + 6, none⟩ = some (.int .i64 (x.c.fo)) := (HB.out.cell (p := ⟨b, o + i * 9 + 6, none⟩) hb).trans (hcell 6 _ rfl)
      have x7 : wr.cell? ⟨b, o + i * 9 + 7, none⟩ = some (.string ⟨x.c.li.toArray⟩) := (HB.out.cell (p := ⟨b, o + i * 9 + 7, none⟩) hb).trans (hcell 7 _ rfl)
      have x8 : wr.cell? ⟨b, o + i * 9 + 8, none⟩ = some (.int .i64 (x.c.lo)) := (HB.out.cell (p := ⟨b, o + i * 9 + 8, none⟩) hb).trans (hcell 8 _ rfl)
      have hcm := hcc.out x (by rw [hx]; exact List.getElem_mem hkl)
      have HBB := Lib.hid (HB.out.mono hbase)
      have hbr : b < wr.heap.size := by have := HB.out.size; omega
      have hlo : i * 9 < 9223372036854775807 := by omega
      have HXE := Lib.hid hx
      have HCM0 := Lib.hid hcm
      clear hC hcell hb hx hcm
      cases hpx : pr x
      · have HN2 : Hid (∀ j (hj : j < l.length), j < i + 1 → pr (l[j]'hj) = false) := Lib.hid (fun j hj h => by by_cases e : j = i; (subst e; rw [← HXE.out]; exact hpx); exact HN.out j hj (by omega))
        have hcm := HCM0.out
        rw [hpx] at hcm
        clear hpx
        have HCM := Lib.hid hcm; clear hcm
        go_wp2_with (first | (with_reducible refine ((HCM.out _ HBB.out).mono ?_); rintro e w' ⟨rfl, hb⟩; replace HB := Lib.hid (bch' HB.out hb); clear hb))
        go_roundw
        case rel => exact ⟨i + 1, r, by first | rfl | simp, Lib.hid (by have := hkr.out; omega), HB, HN2⟩
        case measure => first | (simp [intOf]; done) | (simp [intOf]; omega)
      · have HR : Hid (ixOf pr l = (i : Int)) := Lib.hid (ixOf_at hkl (by rw [← HXE.out]; exact hpx) (fun j hj => HN.out j (by omega) hj))
        have hcm := HCM0.out
        rw [hpx] at hcm
        clear hpx
        have HCM := Lib.hid hcm; clear hcm
        go_wp2_with (first | (with_reducible refine ((HCM.out _ HBB.out).mono ?_); rintro e w' ⟨rfl, hb⟩; replace HB := Lib.hid (bch' HB.out hb); clear hb))
        go_ret
        exact ⟨by rw [HR.out]; rfl, HB.out⟩

set_option maxRecDepth 100000 in
set_option maxHeartbeats 4000000 in
theorem cl_lplace (x : CuL) (s : Txt) (g : Nat) (w : World) (hg : g < w.heap.size) (hsc : w.cell? ⟨g, 0, none⟩ = some (.string ⟨s.toArray⟩)) :
    Calls Tryz.prog 52 #[.agg #[.string ⟨x.c.nu.toArray⟩, .string ⟨x.c.la.toArray⟩, .slice x.pm x.c.mv.length x.cm, .slice x.pp x.c.pt.length x.cp, .bool (x.c.bl), .bool (x.c.mk_), .int .i64 (x.c.fo), .string ⟨x.c.li.toArray⟩, .int .i64 (x.c.lo)], .pointer (some ⟨g, 0, none⟩)] w fun e w' => e = .returned (.bool (x.c.nu == s)) ∧ Below w.heap.size w w' := by
  have HG := Lib.hid hg; have HSC := Lib.hid hsc; clear hg hsc
  have HK := Lib.hid (Blk.new w 32 #[.string ⟨x.c.nu.toArray⟩, .string ⟨x.c.la.toArray⟩, .slice x.pm x.c.mv.length x.cm, .slice x.pp x.c.pt.length x.cp, .bool (x.c.bl), .bool (x.c.mk_), .int .i64 (x.c.fo), .string ⟨x.c.li.toArray⟩, .int .i64 (x.c.lo)])
  have HB := Lib.hid ((Below.refl w.heap.size w).alloc (Nat.le_refl _) (.cells #[.string ⟨x.c.nu.toArray⟩, .string ⟨x.c.la.toArray⟩, .slice x.pm x.c.mv.length x.cm, .slice x.pp x.c.pt.length x.cp, .bool (x.c.bl), .bool (x.c.mk_), .int .i64 (x.c.fo), .string ⟨x.c.li.toArray⟩, .int .i64 (x.c.lo)] 32))
  obtain ⟨k0, k1, k2, k3, k4, k5, k6, k7, k8, kf0, kf1, kf2, kf3, kf4, kf5, kf6, kf7, kf8⟩ := HK.out.c9
  have sc : (w.alloc (.cells #[.string ⟨x.c.nu.toArray⟩, .string ⟨x.c.la.toArray⟩, .slice x.pm x.c.mv.length x.cm, .slice x.pp x.c.pt.length x.cp, .bool (x.c.bl), .bool (x.c.mk_), .int .i64 (x.c.fo), .string ⟨x.c.li.toArray⟩, .int .i64 (x.c.lo)] 32)).cell? ⟨g, 0, none⟩ = some (.string ⟨s.toArray⟩) := (HB.out.cell (p := ⟨g, 0, none⟩) HG.out).trans HSC.out
  generalize x.c.nu = nu at *
  go_enter Tryz.func52, Tryz.ntmps52
  go_wp2_with fail
  go_ret
  exact ⟨rfl, HB.out⟩

set_option maxRecDepth 100000 in
set_option maxHeartbeats 4000000 in
theorem own_lplace (num pri : Int) (L : List CuL) (p : Option Addr) (c : Nat) (s : Txt) (i : Nat) (w : World) (hC : CusAt w p L) (hn : L.length ≤ 1000000) (hi : ixOf (fun x : CuL => x.c.nu == s) L = (i : Int)) :
    Calls Tryz.prog 36 #[.agg #[.int .i64 num, .int .i64 pri, .slice p L.length c], .string ⟨s.toArray⟩] w fun e w' => e = .returned (.int .i64 (i : Int)) ∧ Below w.heap.size w w' := by
  have hal := ((Below.refl w.heap.size w).alloc (Nat.le_refl _) (.cells #[.int .i64 num, .int .i64 pri, .slice p L.length c] 74)).alloc (by simp) (.cells #[.string ⟨s.toArray⟩] 9)
  have HB := Lib.hid hal; clear hal
  have HL := Lib.hid ((Blk.new w 74 #[.int .i64 num, .int .i64 pri, .slice p L.length c]).alloc (.cells #[.string ⟨s.toArray⟩] 9))
  have hA := Blk.new (w.alloc (.cells #[.int .i64 num, .int .i64 pri, .slice p L.length c] 74)) 9 #[.string ⟨s.toArray⟩]
  rw [World.size_alloc] at hA
  have HT := Lib.hid hA; clear hA
  obtain ⟨l0, l1, l2, lf0, lf1, lf2⟩ := HL.out.c3
  obtain ⟨t0, tf0⟩ := HT.out.c1
  have HC := Lib.hid (hC.kept HB.out); clear hC
  have hix := fun (W : World) (h1 : CusAt W p L) (h2 : Blk W (w.heap.size + 1) 9 #[.string ⟨s.toArray⟩]) => cu1_index 52 (.pointer (some ⟨w.heap.size + 1, 0, none⟩)) L (fun x => x.c.nu == s) p c W.heap.size W h1.r (Nat.le_refl _) (by omega) (enters_of Tryz.func52 (by kernel_rfl) rfl) (fun x _ W2 hW => cl_lplace x s (w.heap.size + 1) W2 (h2.keep hW).lt (h2.keep hW).c1.1)
  rw [hi] at hix
  have HIX := Lib.hid hix; clear hix
  clear hi
  go_enter Tryz.func36, Tryz.ntmps36
  go_wp2_with (first | (with_reducible refine ((HIX.out _ HC.out HT.out).mono ?_); rintro e w' ⟨rfl, hb⟩; replace HB := Lib.hid (bch' HB.out hb); clear hb))
  go_ret
  exact ⟨rfl, HB.out⟩

set_option maxRecDepth 100000 in
set_option maxHeartbeats 4000000 in
theorem own_lfind (num pri : Int) (L : List CuL) (p : Option Addr) (c : Nat) (s : Txt) (i : Nat) (w : World) (hC : CusAt w p L) (hR : LsR num pri (L.map CuL.c)) (hs : NumR s) (hi : ixOf (fun x : CuL => x.c.nu == s) L = (i : Int)) (env : Env w) :
    Calls Tryz.prog 25 #[.agg #[.int .i64 num, .int .i64 pri, .slice p L.length c], .string ⟨s.toArray⟩] w fun e w' => e = .returned (.tuple #[.int .i64 (i : Int), .bool true, .int .i64 0]) ∧ Below w.heap.size w w' := by
  have hch := fun (g : Nat) (W : World) (h1 : CusAt W p L) (h2 : Blk W g 9 #[.string ⟨s.toArray⟩]) (e : Env W) => own_lchecked num pri L p c W h1 hR s g hs h2.lt h2.c1.1 e
  have hpl := fun (W : World) (h1 : CusAt W p L) => own_lplace num pri L p c s i W h1 (by have := lsR_len hR; omega) hi
  clear hR hs hi
  have ENV := Lib.hid env; clear env
  have HL := Lib.hid (Blk.new w 24 #[.int .i64 num, .int .i64 pri, .slice p L.length c])
  have HB := Lib.hid ((Below.refl w.heap.size w).alloc (Nat.le_refl _) (.cells #[.int .i64 num, .int .i64 pri, .slice p L.length c] 24))
  obtain ⟨l0, l1, l2, lf0, lf1, lf2⟩ := HL.out.c3
  have hal := (Below.refl (w.alloc (.cells #[.int .i64 num, .int .i64 pri, .slice p L.length c] 24)).heap.size (w.alloc (.cells #[.int .i64 num, .int .i64 pri, .slice p L.length c] 24))).alloc (Nat.le_refl _) (.cells #[.string ⟨s.toArray⟩] 9)
  have HB2 := Lib.hid (bch' HB.out hal)
  have HL2 := Lib.hid (HL.out.keep hal)
  have HC2 := Lib.hid ((hC.kept HB.out).kept hal)
  have HS2 := Lib.hid (Blk.new (w.alloc (.cells #[.int .i64 num, .int .i64 pri, .slice p L.length c] 24)) 9 #[.string ⟨s.toArray⟩])
  rw [World.size_alloc] at HS2
  clear hal hC
  have HCH := Lib.hid hch; clear hch
  have HPL := Lib.hid hpl; clear hpl
  go_enter Tryz.func25, Tryz.ntmps25
  go_wp2_with fail
  with_reducible refine ((HCH.out (w.heap.size + 1) _ HC2.out HS2.out (ENV.out.below HB2.out)).mono ?_)
  rintro e w' ⟨rfl, hb⟩
  clear l0 l1 l2 lf0 lf1 lf2
  clear HL HB
  have HL := Lib.hid (HL2.out.keep hb); have HC := Lib.hid (HC2.out.kept hb); have HB := Lib.hid (bch' HB2.out hb); clear hb HL2 HC2 HB2 HS2
  obtain ⟨l0, l1, l2, lf0, lf1, lf2⟩ := HL.out.c3
  have hi0 : (0 : Int) ≤ (i : Int) := by omega
  go_wp2_with (first | (with_reducible refine ((HPL.out _ HC.out).mono ?_); rintro e w' ⟨rfl, hb⟩; replace HL := Lib.hid (HL.out.keep hb); clear l0 l1 l2 lf0 lf1 lf2; replace HC := Lib.hid (CusAt.kept HC.out hb); replace HB := Lib.hid (bch' HB.out hb); clear hb; obtain ⟨l0, l1, l2, lf0, lf1, lf2⟩ := HL.out.c3))
  go_ret3
  exact ⟨by first | rfl | simp, HB.out⟩

set_option maxRecDepth 100000 in
set_option maxHeartbeats 4000000 in
theorem own_tplace (num pri : Int) (L : List CuL) (p : Option Addr) (c : Nat) (s : Txt) (i : Nat) (w : World) (hC : CusAt w p L) (hR : LsR num pri (L.map CuL.c)) (hs : NumR s) (hi : ixOf (fun x : CuL => x.c.nu == s) L = (i : Int)) (env : Env w) :
    Calls Tryz.prog 17 #[.agg #[.int .i64 num, .int .i64 pri, .slice p L.length c], .string ⟨s.toArray⟩] w fun e w' => e = .returned (.tuple #[.int .i64 (i : Int), .int .i64 0]) ∧ Below w.heap.size w w' := by
  have hfd := fun (W : World) (h1 : CusAt W p L) (e : Env W) => own_lfind num pri L p c s i W h1 hR hs hi e
  clear hR hs hi
  have ENV := Lib.hid env; clear env
  have HL := Lib.hid (Blk.new w 24 #[.int .i64 num, .int .i64 pri, .slice p L.length c])
  have HB := Lib.hid ((Below.refl w.heap.size w).alloc (Nat.le_refl _) (.cells #[.int .i64 num, .int .i64 pri, .slice p L.length c] 24))
  obtain ⟨l0, l1, l2, lf0, lf1, lf2⟩ := HL.out.c3
  have HC := Lib.hid (hC.kept HB.out); clear hC
  have HFD := Lib.hid hfd; clear hfd
  go_enter Tryz.func17, Tryz.ntmps17
  go_wp2_with (first | (with_reducible refine ((HFD.out _ HC.out (ENV.out.below HB.out)).mono ?_); rintro e w' ⟨rfl, hb⟩; replace HL := Lib.hid (HL.out.keep hb); clear l0 l1 l2 lf0 lf1 lf2; replace HC := Lib.hid (CusAt.kept HC.out hb); replace HB := Lib.hid (bch' HB.out hb); clear hb; obtain ⟨l0, l1, l2, lf0, lf1, lf2⟩ := HL.out.c3))
  go_ret2
  exact ⟨rfl, HB.out⟩
end Go.Proofs.YtikogofioggmlaaGreatDoor

/-
  The parameters that a list moves: the walk.
-/
import Derived.Test.YtikogofioggmlaaGreatDoorLs
set_option linter.unusedVariables false
set_option linter.unusedSimpArgs false
namespace Lum
open Go Go.RowKit Go.Shelf
open Go.Lib (decDigits itoa)
/-- The moves of the first k. -/
def mvsT (L : List CuL) (k : Nat) : List (Int × Int) := (L.take k).flatMap (fun x => x.c.mv.map Mv.ky)
theorem mvsT_succ {L : List CuL} {k : Nat} (h : k < L.length) : mvsT L (k + 1) = mvsT L k ++ (L[k]'h).c.mv.map Mv.ky := by
  unfold mvsT; rw [List.take_succ_eq_append_getElem h, List.flatMap_append]; simp
theorem mvsT_all (L : List CuL) : mvsT L L.length = movesL (L.map CuL.c) := by
  unfold mvsT movesL; rw [List.take_length, List.flatMap_map]
theorem dedF_next {T : List (Int × Int)} {l : List Mv} {i : Nat} (h : i < l.length) : dedF (T ++ (l.take (i + 1)).map Mv.ky) = if (l[i]'h).ky ∈ dedF (T ++ (l.take i).map Mv.ky) then dedF (T ++ (l.take i).map Mv.ky) else dedF (T ++ (l.take i).map Mv.ky) ++ [(l[i]'h).ky] := by
  rw [List.take_succ_eq_append_getElem h, List.map_append, ← List.append_assoc]
  exact dedF_snoc _ _
theorem dedF_le {T : List (Int × Int)} {l : List Mv} {i N : Nat} (h : T.length ≤ N) (hl : l.length ≤ 128) : (dedF (T ++ (l.take i).map Mv.ky)).length ≤ N + 128 := by
  refine Nat.le_trans (dedF_len _ rfl) ?_
  rw [List.length_append, List.length_map, List.length_take]; omega
end Lum
namespace Go.Proofs.YtikogofioggmlaaGreatDoor
open Go.RowKit Go.Shelf Lum
open Go.Lib (decDigits itoa)
attribute [local go_sem] bs_get bs_extract_end bs_extract_from bs_extract bs_append

def FpJ (w : World) (T : List (Int × Int)) (l : List Mv) (s j : Value) (wr : World) : Prop := ∃ (i n : Nat) (pp : Option Addr) (cc : Nat), s = .slice pp n cc ∧ j = .int .i64 (i : Int) ∧ i ≤ l.length ∧ Hid (n = (dedF (T ++ (l.take i).map Mv.ky)).length) ∧ Hid (FpS w wr (dedF (T ++ (l.take i).map Mv.ky)) (dedF (T ++ (l.take i).map Mv.ky)) pp cc)
def FpO (w : World) (L : List CuL) (s j : Value) (wr : World) : Prop := ∃ (k n : Nat) (pp : Option Addr) (cc : Nat), s = .slice pp n cc ∧ j = .int .i64 (k : Int) ∧ k ≤ L.length ∧ Hid (n = (dedF (mvsT L k)).length) ∧ Hid ((mvsT L k).length ≤ 128 * k) ∧ Hid (FpS w wr (dedF (mvsT L k)) (dedF (mvsT L k)) pp cc)
theorem zeroB (w : World) : (zeroValue 4).run Tryz.prog w = .ok (.bool false) w := by kernel_rfl
theorem FpJ.next {w wr : World} {T : List (Int × Int)} {l : List Mv} {i n : Nat} {pp : Option Addr} {cc : Nat} (h : i < l.length) (hin : (l[i]'h).ky ∈ dedF (T ++ (l.take i).map Mv.ky)) (hn : n = (dedF (T ++ (l.take i).map Mv.ky)).length) (hF : FpS w wr (dedF (T ++ (l.take i).map Mv.ky)) (dedF (T ++ (l.take i).map Mv.ky)) pp cc) :
    n = (dedF (T ++ (l.take (i + 1)).map Mv.ky)).length ∧ FpS w wr (dedF (T ++ (l.take (i + 1)).map Mv.ky)) (dedF (T ++ (l.take (i + 1)).map Mv.ky)) pp cc := by
  rw [dedF_next h, if_pos hin]; exact ⟨hn, hF⟩
theorem FpJ.more {w wr : World} {T : List (Int × Int)} {l : List Mv} {i n : Nat} {pp : Option Addr} {cc : Nat} (h : i < l.length) (hin : ¬ (l[i]'h).ky ∈ dedF (T ++ (l.take i).map Mv.ky)) (hn : n = (dedF (T ++ (l.take i).map Mv.ky)).length) (hF : FpS w wr (dedF (T ++ (l.take i).map Mv.ky) ++ [(l[i]'h).ky]) (dedF (T ++ (l.take i).map Mv.ky) ++ [(l[i]'h).ky]) pp cc) :
    n + 1 = (dedF (T ++ (l.take (i + 1)).map Mv.ky)).length ∧ FpS w wr (dedF (T ++ (l.take (i + 1)).map Mv.ky)) (dedF (T ++ (l.take (i + 1)).map Mv.ky)) pp cc := by
  rw [dedF_next h, if_neg hin, List.length_append, ← hn]; exact ⟨rfl, hF⟩
set_option maxRecDepth 100000 in
set_option maxHeartbeats 4000000 in
theorem own_footprint (num pri : Int) (L : List CuL) (p : Option Addr) (c : Nat) (w : World) (hC : CusAt w p L) (hl : L.length ≤ 64) (hm : ∀ x ∈ L, x.c.mv.length ≤ 128) (hr : ∀ x ∈ L, ∀ m ∈ x.c.mv, Rng m.ky) :
    Calls Tryz.prog 26 #[.agg #[.int .i64 num, .int .i64 pri, .slice p L.length c]] w fun e w' => ∃ q d, e = .returned (.slice q (footL (L.map CuL.c)).length d) ∧ OwnR encPm 2 (w.heap.size + 2) 39 w' q d (footL (L.map CuL.c)) ∧ Below w.heap.size w w' ∧ (footL (L.map CuL.c)).length ≤ 8192 := by
  have HLN := Lib.hid hl; have HR := Lib.hid hr; have HFW := Lib.hid hm; have HC0 := Lib.hid hC; clear hl hr hm hC
  have hal := ((Below.refl w.heap.size w).alloc (Nat.le_refl _) (.cells #[.int .i64 num, .int .i64 pri, .slice p L.length c] 24)).alloc (by simp) (.map #[] 0)
  have HB := Lib.hid hal; clear hal
  have HL := Lib.hid ((Blk.new w 24 #[.int .i64 num, .int .i64 pri, .slice p L.length c]).alloc (.map #[] 0))
  have hA := SeenAt.made (w.alloc (.cells #[.int .i64 num, .int .i64 pri, .slice p L.length c] 24))
  rw [World.size_alloc] at hA
  have HS := Lib.hid hA; clear hA
  obtain ⟨l0, l1, l2, lf0, lf1, lf2⟩ := HL.out.c3
  obtain ⟨i0, hi, hz0, hz1, hz2⟩ := info_parts info_pm
  have hmm := @run_makeMap Tryz.prog
  go_enter Tryz.func26, Tryz.ntmps26
  go_wp2_with fail
  go_loopw [4, 13] (fun s j wr => FpO w L s j wr) (fun _ j _ => L.length - (intOf j).toNat)
  case atStart => exact ⟨0, 0, none, 0, rfl, rfl, Nat.zero_le _, Lib.hid rfl, Lib.hid (Nat.zero_le _), Lib.hid ⟨HB.out, by simp only [World.size_alloc]; omega, ⟨0, Nat.zero_le _, HS.out⟩, OwnR.nil _ _ _⟩⟩
  case round =>
    clear l0 l1 l2 lf0 lf1 lf2
    clear HL HB HS
    obtain ⟨k, n, pp, cc, rfl, rfl, hk9, HN, HTL, HF⟩ := hrel
    by_cases hkl : k < L.length
    · have hlt : (k : Int) < (L.length : Int) := by omega
      have hk0 : (0 : Int) ≤ (k : Int) := by omega
      have hlo : k * 9 < 9223372036854775807 := by have := HLN.out; omega
      have hun : IntKind.i64.wrap ((k : Int) + 1) = (k : Int) + 1 := IntWalk.i64_in _ (by have := HLN.out; omega)
      have HC := Lib.hid (HC0.out.kept HF.out.below)
      obtain ⟨b, o, hpp, hb, hC⟩ := HC.out.r (fun h => by rw [h] at hkl; exact absurd hkl (Nat.not_lt_zero _))
      obtain ⟨x, hx⟩ : ∃ x, x = L[k]'hkl := ⟨_, rfl⟩
      have hcell := hC k hkl
      rw [← hx] at hcell
      subst hpp
      have y0 : wr.cell? ⟨b, o + k * 9, none⟩ = some (.string ⟨x.c.nu.toArray⟩) := hcell 0 _ rfl
      have y1 : wr.cell? ⟨b, o + k * 9 + 1, none⟩ = some (.string ⟨x.c.la.toArray⟩) := hcell 1 _ rfl
      have y2 : wr.cell? ⟨b, o + k * 9 + 2, none⟩ = some (.slice x.pm x.c.mv.length x.cm) := hcell 2 _ rfl
      have y3 : wr.cell? ⟨b, o + k * 9 + 3, none⟩ = some (.slice x.pp x.c.pt.length x.cp) := hcell 3 _ rfl
      have y4 : wr.cell? ⟨b, o + k * 9 + 4, none⟩ = some (.bool (x.c.bl)) := hcell 4 _ rfl
      have y5 : wr.cell? ⟨b, o + k * 9 + 5, none⟩ = some (.bool (x.c.mk_)) := hcell 5 _ rfl
      have y6 : wr.cell? ⟨b, o + k * 9 + 6, none⟩ = some (.int .i64 (x.c.fo)) := hcell 6 _ rfl
      have y7 : wr.cell? ⟨b, o + k * 9 + 7, none⟩ = some (.string ⟨x.c.li.toArray⟩) := hcell 7 _ rfl
      have y8 : wr.cell? ⟨b, o + k * 9 + 8, none⟩ = some (.int .i64 (x.c.lo)) := hcell 8 _ rfl
      have hbr := hb
      obtain ⟨pm, hpm⟩ : ∃ pm, pm = x.pm := ⟨_, rfl⟩
      obtain ⟨mv, hmv⟩ : ∃ mv, mv = x.c.mv := ⟨_, rfl⟩
      rw [← hpm, ← hmv] at y2
      have HMW : Hid (RowX encMv 5 w pm mv) := Lib.hid (by rw [hpm, hmv]; exact (HC0.out.a x (by rw [hx]; exact List.getElem_mem hkl)).m)
      have HRG : Hid (∀ m ∈ mv, Rng m.ky) := Lib.hid (by rw [hmv]; exact HR.out x (by rw [hx]; exact List.getElem_mem hkl))
      have HMVL : Hid (mv.length ≤ 128) := Lib.hid (by rw [hmv]; exact HFW.out x (by rw [hx]; exact List.getElem_mem hkl))
      have HX := Lib.hid hx; have HMVE := Lib.hid hmv
      clear hcell hb hC hx hpm hmv HC
      have HB := Lib.hid HF.out.below
      go_upto_region 6 with fail
      clear y0 y1 y2 y3 y4 y5 y6 y7 y8 hbr
      have hb := (Below.refl wr.heap.size wr).alloc (Nat.le_refl _) (.cells #[.string ⟨x.c.nu.toArray⟩, .string ⟨x.c.la.toArray⟩, .slice pm mv.length x.cm, .slice x.pp x.c.pt.length x.cp, .bool (x.c.bl), .bool (x.c.mk_), .int .i64 (x.c.fo), .string ⟨x.c.li.toArray⟩, .int .i64 (x.c.lo)] 32)
      have HXB := Lib.hid (Blk.new wr 32 #[.string ⟨x.c.nu.toArray⟩, .string ⟨x.c.la.toArray⟩, .slice pm mv.length x.cm, .slice x.pp x.c.pt.length x.cp, .bool (x.c.bl), .bool (x.c.mk_), .int .i64 (x.c.fo), .string ⟨x.c.li.toArray⟩, .int .i64 (x.c.lo)])
      obtain ⟨n8, hn8⟩ : ∃ n, n = wr.heap.size := ⟨_, rfl⟩
      obtain ⟨Wa, hWWa⟩ : ∃ X, X = wr.alloc (.cells #[.string ⟨x.c.nu.toArray⟩, .string ⟨x.c.la.toArray⟩, .slice pm mv.length x.cm, .slice x.pp x.c.pt.length x.cp, .bool (x.c.bl), .bool (x.c.mk_), .int .i64 (x.c.fo), .string ⟨x.c.li.toArray⟩, .int .i64 (x.c.lo)] 32) := ⟨_, rfl⟩
      rw [← hn8] at HXB ⊢
      rw [← hWWa] at hb HXB ⊢
      replace HF := Lib.hid (FpS.kept HF.out hb); replace HB := Lib.hid (bch' HB.out hb); clear hb
      clear hWWa hn8
      obtain ⟨x0, x1, x2, x3, x4, x5, x6, x7, x8, xf0, xf1, xf2, xf3, xf4, xf5, xf6, xf7, xf8⟩ := HXB.out.c9
      go_wp2_with fail
      clear x0 x1 x2 x3 x4 x5 x6 x7 x8 xf0 xf1 xf2 xf3 xf4 xf5 xf6 xf7 xf8
      clear HXB HB
      obtain ⟨T, hT⟩ : ∃ T, T = mvsT L k := ⟨_, rfl⟩
      rw [← hT] at HN HTL HF
      have HT := Lib.hid hT; clear hT
      go_loopw [4, 20] (fun s j wr => FpJ w T mv s j wr) (fun _ j _ => mv.length - (intOf j).toNat)
      case atStart => exact ⟨0, n, pp, cc, rfl, rfl, Nat.zero_le _, Lib.hid (by rw [List.take_zero, List.map_nil, List.append_nil]; exact HN.out), Lib.hid (by rw [List.take_zero, List.map_nil, List.append_nil]; exact HF.out)⟩
      case round =>
        clear HN HF
        obtain ⟨i, n2, p2, c2, rfl, rfl, hj9, HN2, HF2⟩ := hrel
        by_cases hjl : i < mv.length
        · have hlt2 : (i : Int) < (mv.length : Int) := by omega
          have hj0 : (0 : Int) ≤ (i : Int) := by omega
          have hmvl := HMVL.out
          have hlo2 : i * 5 < 9223372036854775807 := by omega
          have hun2 : IntKind.i64.wrap ((i : Int) + 1) = (i : Int) + 1 := IntWalk.i64_in _ (by omega)
          have HM := Lib.hid (HMW.out.kept HF2.out.below)
          obtain ⟨b2, o2, hpm, hb2, hC2⟩ := HM.out (fun h => by rw [h] at hjl; exact absurd hjl (Nat.not_lt_zero _))
          subst hpm
          obtain ⟨y, hy⟩ : ∃ y, y = mv[i]'hjl := ⟨_, rfl⟩
          have hcell := hC2 i hjl
          rw [← hy] at hcell
          have HRY : Hid (Rng y.ky) := Lib.hid (by rw [hy]; exact HRG.out _ (List.getElem_mem hjl))
          have HYE := Lib.hid hy
          have z0 : wr.cell? ⟨b2, o2 + i * 5, none⟩ = some (.int .i64 (y.ch)) := hcell 0 _ rfl
          have z1 : wr.cell? ⟨b2, o2 + i * 5 + 1, none⟩ = some (.int .i64 (y.at_)) := hcell 1 _ rfl
          have z2 : wr.cell? ⟨b2, o2 + i * 5 + 2, none⟩ = some (.int .i64 (y.pa)) := hcell 2 _ rfl
          have z3 : wr.cell? ⟨b2, o2 + i * 5 + 3, none⟩ = some (.int .i64 (y.lv)) := hcell 3 _ rfl
          have z4 : wr.cell? ⟨b2, o2 + i * 5 + 4, none⟩ = some (.int .i64 (y.pt)) := hcell 4 _ rfl
          have zr := hb2
          clear hcell hb2 hC2 hy hmvl HM
          have HBIG := Lib.hid HF2.out.big
          have HB := Lib.hid HF2.out.below
          go_upto_region 9 with fail
          clear z0 z1 z2 z3 z4 zr
          have hb := (Below.refl wr.heap.size wr).alloc (Nat.le_refl _) (.cells #[.int .i64 (y.ch), .int .i64 (y.at_), .int .i64 (y.pa), .int .i64 (y.lv), .int .i64 (y.pt)] 61)
          have HY := Lib.hid (Blk.new wr 61 #[.int .i64 (y.ch), .int .i64 (y.at_), .int .i64 (y.pa), .int .i64 (y.lv), .int .i64 (y.pt)])
          obtain ⟨n9, hn9⟩ : ∃ n, n = wr.heap.size := ⟨_, rfl⟩
          obtain ⟨Wb, hWWb⟩ : ∃ X, X = wr.alloc (.cells #[.int .i64 (y.ch), .int .i64 (y.at_), .int .i64 (y.pa), .int .i64 (y.lv), .int .i64 (y.pt)] 61) := ⟨_, rfl⟩
          rw [← hn9] at HY ⊢
          rw [← hWWb] at hb HY ⊢
          replace HF2 := Lib.hid (FpS.kept HF2.out hb); replace HB := Lib.hid (bch' HB.out hb); clear hb
          have HN9 : Hid (w.heap.size + 2 ≤ n9) := Lib.hid (by rw [hn9]; exact HBIG.out)
          clear hWWb hn9
          clear HBIG HB
          obtain ⟨z0, z1, z2, z3, z4, zf0, zf1, zf2, zf3, zf4⟩ := HY.out.c5
          obtain ⟨nn, hnn, D, hd1, hd2, hd3⟩ := HF2.out.seen
          have HNN := Lib.hid hnn; have HD1 := Lib.hid hd1; have HD2 := Lib.hid hd2; have HD3 := Lib.hid hd3; clear hnn hd1 hd2 hd3
          have HKY := Lib.hid (pmK_of HRY.out)
          have hlk := HD3.out _ HRY.out
          have HLE : Hid (((dedF (T ++ (mv.take i).map Mv.ky))).length ≤ 100000) := Lib.hid (by have := dedF_le (i := i) HTL.out HMVL.out; have := HLN.out; omega)
          by_cases hin : y.ky ∈ (dedF (T ++ (mv.take i).map Mv.ky))
          · rw [decide_eq_true hin] at hlk
            have HLK := Lib.hid hlk; clear hlk
            have HX2 : Hid _ := Lib.hid (FpJ.next hjl (by rw [← HYE.out]; exact hin) HN2.out HF2.out)
            clear hin
            go_wp2_with (first | (at_lookup; refine wpList_lookup_seen _ rfl _ _ 75 rfl 39 4 (Maps.Keyed.of_law pm_law) Tryz.underlying75 Tryz.underlying4 (zeroB _) (w.heap.size + 1) nn D rfl HD1.out (pmV y.ky) (pmK y.ky) rfl HKY.out true HLK.out ?_))
            go_roundw
            case rel => exact ⟨i + 1, n2, p2, c2, by first | rfl | simp, by first | rfl | simp, by omega, Lib.hid HX2.out.1, Lib.hid HX2.out.2⟩
            case measure => first | (simp [intOf]; done) | (simp [intOf]; omega)
          · rw [decide_eq_false hin] at hlk
            have HLK := Lib.hid hlk; clear hlk
            have HIN := Lib.hid hin; clear hin
            go_wp2_with (first | (at_lookup; refine wpList_lookup_seen _ rfl _ _ 75 rfl 39 4 (Maps.Keyed.of_law pm_law) Tryz.underlying75 Tryz.underlying4 (zeroB _) (w.heap.size + 1) nn D rfl HD1.out (pmV y.ky) (pmK y.ky) rfl HKY.out false HLK.out ?_) | (at_mapUpdate; refine wpList_mapUpdate_own _ rfl _ _ _ 75 rfl 39 4 (Maps.Keyed.of_law pm_law) Tryz.underlying75 (plainElem Tryz.prog 4) (w.heap.size + 1) nn D rfl HD1.out (by unfold maxLen; have := HNN.out; have := HLE.out; omega) (pmV y.ky) _ (pmK y.ky) rfl rfl HKY.out _ [] (plainElem_bool Tryz.underlying4 true) ?_; intro w5 ho5 hg5; have HF5 := Lib.hid (HF2.out.put HNN.out HRY.out ho5 HD2.out HD3.out hg5); have HY5 := Lib.hid (HY.out.kept hg5 (fun e => by have := HN9.out; injection e with e; omega)); clear ho5 hg5 HY HF2 HD1; clear z0 z1 z2 z3 z4 zf0 zf1 zf2 zf3 zf4; have HY := HY5; clear HY5; obtain ⟨z0, z1, z2, z3, z4, zf0, zf1, zf2, zf3, zf4⟩ := HY.out.c5) | (at_builtin; refine wpList_appR3 rfl (.tmp 32) (.tmp 35) 65 rfl (w.heap.size + 2) 39 i0 (.agg #[.int .i64 0, .int .i64 0]) 16 Tryz.underlying65 hi hz0 hz1 hz2 rfl (by decide) (by decide) p2 c2 n2 (dedF (T ++ (mv.take i).map Mv.ky)) HN2.out _ (y.ky) w5.heap.size (encPm_len _) (fun j u hu => cellN _ 39 hu) (encPm_one _) rfl (HF5.out.out.keep ((Below.refl _ w5).alloc (Nat.le_refl _) _)) rfl (by have := HLE.out; omega) (by have := HF5.out.big; rw [World.size_alloc]; omega) ?_; intro p3 c3 w6 ho6 hb6 _; have HF6 := Lib.hid ((HF5.out.kept ((Below.refl _ w5).alloc (Nat.le_refl _) _)).app ho6 hb6); clear ho6 hb6 HF5))
            have HX2 : Hid _ := Lib.hid (FpJ.more hjl (by rw [← HYE.out]; exact HIN.out) HN2.out (by rw [← HYE.out]; exact HF6.out))
            go_roundw
            case rel => exact ⟨i + 1, n2 + 1, p3, c3, by first | rfl | simp, by first | rfl | simp, by omega, Lib.hid HX2.out.1, Lib.hid HX2.out.2⟩
            case measure => first | (simp [intOf]; done) | (simp [intOf]; omega)
        · have hlt2 : ¬ (i : Int) < (mv.length : Int) := by omega
          obtain rfl : i = mv.length := by omega
          have HT2 : Hid (T ++ (mv.take mv.length).map Mv.ky = mvsT L (k + 1)) := Lib.hid (by rw [List.take_length, HT.out, HMVE.out, HX.out, mvsT_succ hkl])
          have HTL2 : Hid ((mvsT L (k + 1)).length ≤ 128 * (k + 1)) := Lib.hid (by rw [← HT2.out, List.length_append, List.length_map, List.length_take]; have := HTL.out; have := HMVL.out; omega)
          rw [HT2.out] at HN2 HF2
          go_wp2_with fail
          go_roundw
          case rel => exact ⟨k + 1, n2, p2, c2, by first | rfl | simp, by first | rfl | simp, by omega, HN2, HTL2, HF2⟩
          case measure => first | (simp [intOf]; done) | (simp [intOf]; omega)
    · have hlt : ¬ (k : Int) < (L.length : Int) := by omega
      obtain rfl : k = L.length := by omega
      rw [mvsT_all] at HN HTL HF
      have hrr : ∀ x ∈ dedF (movesL (L.map CuL.c)), Rng x := fun x hx => by have h1 := (dedF_mem _ rfl x).1 hx; obtain ⟨c1, h2, h3⟩ := List.mem_flatMap.1 h1; obtain ⟨x1, h4, rfl⟩ := List.mem_map.1 h2; obtain ⟨m1, h5, rfl⟩ := List.mem_map.1 h3; exact HR.out x1 h4 m1 h5
      have hln := dedF_len _ (rfl : (movesL (L.map CuL.c)).length = _)
      have hps := own_psort (dedF (movesL (L.map CuL.c))) wr pp cc (w.heap.size + 2) HF.out.out hrr (dedF_nodup _ rfl) (by have := HTL.out; have := HLN.out; omega) HF.out.big (movesL (L.map CuL.c)) (dedF_mem _ rfl)
      have HBD : Hid ((dedF (movesL (L.map CuL.c))).length ≤ 8192) := Lib.hid (by have := HTL.out; have := HLN.out; omega)
      have hn := HN.out
      clear hrr hln HN
      subst hn
      have HPS := Lib.hid hps; clear hps
      go_wp2_with (first | (with_reducible refine (HPS.out.mono ?_); rintro e w' ⟨rfl, hlen, ho, hb⟩; have HLEN := Lib.hid hlen; have HO := Lib.hid ho; have HBB := Lib.hid hb; clear hlen ho hb))
      go_ret
      exact ⟨pp, cc, by rw [HLEN.out]; rfl, HO.out, HF.out.below.trans (HBB.out.mono (by omega)), by show (putsP _).length ≤ 8192; rw [← HLEN.out]; exact HBD.out⟩
end Go.Proofs.YtikogofioggmlaaGreatDoor

/-
  Masters: acting of the program. Masters: Sources of the program.
-/
import Derived.Test.YtkjelfmgnkkijaaGreatDoorQoMu
import Derived.Test.YtkjelfmgnkkijaaGreatDoorOo
import Derived.Test.YtkjelfmgnkkijaaGreatDoorR2
import Derived.Test.YtkjelfmgnkkijaaGreatDoorQoMw
set_option linter.unusedVariables false
set_option linter.unusedSimpArgs false
namespace Lum
open Go Go.RowKit Go.Shelf
open Go.Lib (decDigits itoa)
theorem act_len {L : List (Sb × Value)} {su : List Sb} {ch : Int} {k : Nat} {c : Bool} {s : Sb} (h : L.map (·.1) = actL (su.take k) ch ++ (if c then [s] else [])) (hk : su.length ≤ 16) : L.length ≤ 17 := by
  have h1 := congrArg List.length h
  rw [List.length_map, List.length_append] at h1
  have h2 : (actL (su.take k) ch).length ≤ 16 := by unfold actL; exact Nat.le_trans (List.length_filter_le _ _) (by rw [List.length_take]; omega)
  cases c <;> simp at h1 <;> omega
/-- Whether one of the first m gains is for the intensity of a channel. -/
def hitB (gs : List Gn) (ch : Int) (m : Nat) : Bool := (gs.take m).any fun g => g.ch == ch && g.at_ == 0
theorem hitB_zero (gs : List Gn) (ch : Int) : hitB gs ch 0 = false := rfl
theorem hitB_succ {gs : List Gn} {ch : Int} {m : Nat} (h : m < gs.length) : hitB gs ch (m + 1) = (hitB gs ch m || ((gnv gs m).ch == ch && (gnv gs m).at_ == 0)) := by
  unfold hitB
  rw [List.take_succ_eq_append_getElem h, List.any_append, gnv_at h]; simp
theorem hitB_all (gs : List Gn) (ch : Int) : hitB gs ch gs.length = (gnG gs ch 0).isSome := by
  unfold hitB gnG
  rw [List.take_length]
  cases h : gs.find? fun g => g.ch == ch && g.at_ == 0 with
  | none =>
    show _ = false
    rw [List.any_eq_false]
    exact List.find?_eq_none.1 h
  | some x =>
    show _ = true
    rw [List.any_eq_true]
    exact ⟨x, List.mem_of_find?_eq_some h, List.find?_some (p := fun g : Gn => g.ch == ch && g.at_ == 0) h⟩
theorem hitB_once {gs : List Gn} {ch : Int} {m : Nat} (hbe : ∀ j, j < gs.length → ∀ i, i < j → befP (gnv gs i).ch (gnv gs i).at_ (gnv gs j).ch (gnv gs j).at_) (h : m < gs.length) (e : (gnv gs m).ch = ch ∧ (gnv gs m).at_ = 0) : hitB gs ch m = false := by
  unfold hitB
  rw [List.any_eq_false]
  intro x hx
  obtain ⟨i, hi, rfl⟩ := List.getElem_of_mem hx
  rw [List.getElem_take]
  rw [List.length_take] at hi
  rw [gnv_at (by omega)]
  intro h2
  simp only [Bool.and_eq_true, beq_iff_eq] at h2
  have := hbe m h i (by omega)
  rw [h2.1, h2.2, e.1, e.2] at this
  unfold befP at this; omega
end Lum
namespace Go.Proofs.YtkjelfmgnkkijaaGreatDoor
open Go.RowKit Go.Shelf Lum
open Go.Lib (decDigits itoa)
attribute [local go_sem] bs_get bs_extract_end bs_extract_from bs_extract bs_append

theorem cell_new_of {cs : List Value} (w : World) (t : TypeId) {j : Nat} {u : Value} (h : cs[j]? = some u) : (w.alloc (.cells cs.toArray t)).cell? ⟨w.heap.size, j, none⟩ = some u := by
  rw [World.cell?_alloc_new]; simpa using h
theorem info_sub : (Tryz.prog.info? 58).map (fun i => (i.zero, i.size, i.bytes)) = some (some (.agg #[.int .i64 0, .int .i64 0, .bool false, .slice none 0 0]), 4, 48) := by kernel_rfl
set_option maxRecDepth 100000 in
set_option maxHeartbeats 4000000 in
theorem own_macting (tz st ti : Int) (bl : Bool) (fr : Txt) (sv fv : Value) (su : List Sb) (ch : Int) (w : World) (hs : SbsAt w sv su) (ht : TabOk su) :
    Calls Tryz.prog 87 #[.agg #[.string ⟨(fr).toArray⟩, .int .i64 tz, .int .i64 st, .int .i64 ti, .bool (bl), sv, fv], .int .i64 ch] w fun e w' => ∃ pp cc, e = .returned (.slice pp (actL su ch).length cc) ∧ SbsAt w' (.slice pp (actL su ch).length cc) (actL su ch) ∧ (∀ a, pp = some a → w.heap.size ≤ a.block) ∧ Below w.heap.size w w' := by
  have h16 := ht.few
  have hok : Hid (∀ k, k < su.length → SubOk (sbv su k)) := Lib.hid fun k hk => subOk (ht.ok k hk)
  obtain ⟨i0, hi, hz0, hz1, hz2⟩ := info_parts info_sub
  obtain ⟨p, c, rfl, -, hv1⟩ := hs
  have hv2 := Lib.hid hv1; clear hv1 ht
  have HK := Lib.hid (Blk.new w 145 #[.string ⟨(fr).toArray⟩, .int .i64 tz, .int .i64 st, .int .i64 ti, .bool (bl), .slice p su.length c, fv])
  have HB := Lib.hid ((Below.refl w.heap.size w).alloc (Nat.le_refl _) (.cells #[.string ⟨(fr).toArray⟩, .int .i64 tz, .int .i64 st, .int .i64 ti, .bool (bl), .slice p su.length c, fv] 145))
  obtain ⟨k0, k1, k2, k3, k4, k5, k6, kf0, kf1, kf2, kf3, kf4, kf5, kf6⟩ := HK.out.c7
  go_enter Tryz.func87, Tryz.ntmps87
  go_wp2_with fail
  go_loopw [5, 14] (fun s i wr => ∃ (k r : Nat) (pp : Option Addr) (cc : Nat) (L : List (Sb × Value)), i = .int .i64 (k : Int) ∧ s = .slice pp L.length cc ∧ Hid (k + r = su.length) ∧ Hid (Below w.heap.size w wr) ∧ Hid (OwnR encS 4 w.heap.size 58 wr pp cc L) ∧ Hid (∀ x ∈ L, GnsAt w x.2 x.1.gs) ∧ Hid (L.map (·.1) = actL (su.take k) ch)) (fun _ i _ => su.length - (intOf i).toNat)
  case atStart => exact ⟨0, su.length, none, 0, [], rfl, rfl, Lib.hid (by omega), HB, Lib.hid (OwnR.nil _ _ _), Lib.hid (fun x h => by cases h), Lib.hid rfl⟩
  case round =>
    obtain ⟨k, r, pp, cc, L, rfl, rfl, hkr, HB2, HO2, HGA2, HL2⟩ := hrel
    clear HB
    have HB := HB2; have HO := HO2; have HGA := HGA2; have HL := HL2; clear HB2 HO2 HGA2 HL2
    cases r with
    | zero =>
      have hlt : ¬ (k : Int) < (su.length : Int) := by have := hkr.out; omega
      have HE : Hid (L.map (·.1) = actL su ch) := by show _ = _; rw [HL.out, List.take_of_length_le (by have := hkr.out; omega)]
      have HR : Hid (SbsAt wr (.slice pp L.length cc) (actL su ch)) := by
        have h := HO.out.subs fun x hx => GnsAt.kept (HGA.out x hx) HB.out
        rw [HE.out] at h
        exact Lib.hid h
      have HLL : Hid (L.length = (actL su ch).length) := by show _ = _; rw [← HE.out, List.length_map]
      go_wp2_with fail
      go_ret
      exact ⟨pp, cc, by rw [← HLL.out]; rfl, by rw [← HLL.out]; exact HR.out, fun a ha => (HO.out.lt a ha).1, HB.out⟩
    | succ r =>
      have hkl : k < su.length := by have := hkr.out; omega
      have hlt : (k : Int) < (su.length : Int) := by omega
      have hun : IntKind.i64.wrap ((k : Int) + 1) = (k : Int) + 1 := IntWalk.i64_in _ (by omega)
      obtain ⟨b, o, rfl, hb, hC⟩ := hv2.out (fun h => by subst h; simp at hkl)
      obtain ⟨gv, gn, hgn⟩ : ∃ gv, w.cell? ⟨b, o + k * 4 + 3, none⟩ = some gv ∧ GnsAt w gv (sbv su k).gs := by obtain ⟨-, -, -, gv, h1, h2⟩ := hC k hkl; exact ⟨gv, h1, h2⟩
      obtain ⟨x1, x2, x3, -⟩ := hC.below HB.out hb k hkl
      have x4 := (HB.out.cell (p := ⟨b, o + k * 4 + 3, none⟩) hb).trans gn
      clear hC gn
      have HGN := Lib.hid hgn
      obtain ⟨pg, cg, rfl, -, hg1⟩ := hgn
      have hg2 := Lib.hid hg1; clear hg1
      have hbr : b < wr.heap.size := by have := HB.out.size; omega
      cases hinh : (sbv su k).inh
      · rw [hinh] at x3
        have HIN := Lib.hid hinh; clear hinh
        have hal := (Below.refl wr.heap.size wr).alloc (Nat.le_refl _) (.cells #[.int .i64 (sbv su k).nu, .int .i64 (sbv su k).pr, .bool false, (.slice pg (sbv su k).gs.length cg)] 58)
        have HNX : Hid (∀ a, pp = some a → wr.heap.size ≠ a.block) := Lib.hid fun a ha => Nat.ne_of_gt (HO.out.lt a ha).2
        replace HO := Lib.hid (HO.out.keep hal)
        replace HB := Lib.hid (bch' HB.out hal)
        clear hal
        have HX := Lib.hid (Blk.new wr 58 #[.int .i64 (sbv su k).nu, .int .i64 (sbv su k).pr, .bool false, (.slice pg (sbv su k).gs.length cg)])
        obtain ⟨x0, x1, x2, x3, xf0, xf1, xf2, xf3⟩ := HX.out.c4
        go_wp2_with fail
        generalize wr.alloc (.cells #[.int .i64 (sbv su k).nu, .int .i64 (sbv su k).pr, .bool false, (.slice pg (sbv su k).gs.length cg)] 58) = wo at *
        generalize wr.heap.size = X at *
        clear x1 x2 x3 x4 hbr
        go_loopw [5, 21] (fun s i wx => ∃ (m r2 : Nat) (pp : Option Addr) (cc : Nat) (L : List (Sb × Value)), i = .int .i64 (m : Int) ∧ s = .slice pp L.length cc ∧ Hid (m + r2 = (sbv su k).gs.length) ∧ Hid (Below w.heap.size w wx) ∧ Hid (OwnR encS 4 w.heap.size 58 wx pp cc L) ∧ Hid (∀ x ∈ L, GnsAt w x.2 x.1.gs) ∧ Hid (Blk wx X 58 #[.int .i64 (sbv su k).nu, .int .i64 (sbv su k).pr, .bool false, (.slice pg (sbv su k).gs.length cg)]) ∧ Hid (∀ a, pp = some a → X ≠ a.block) ∧ Hid (L.map (·.1) = actL (su.take k) ch ++ (if (sbv su k).inh && hitB (sbv su k).gs ch m then [sbv su k] else []))) (fun _ i _ => (sbv su k).gs.length - (intOf i).toNat)
        case atStart => exact ⟨0, (sbv su k).gs.length, pp, cc, L, rfl, rfl, Lib.hid (by omega), HB, HO, HGA, HX, HNX, Lib.hid (by rw [HL.out, hitB_zero]; simp)⟩
        case round =>
          obtain ⟨m, r2, pp, cc, L, rfl, rfl, hmr, HB2, HO2, HGA2, HX2, HNX2, HL2⟩ := hrel
          clear HB HO HGA HX HNX HL; clear x0 x1 x2 x3 xf0 xf1 xf2 xf3
          have HB := HB2; have HO := HO2; have HGA := HGA2; have HX := HX2; have HNX := HNX2; have HL := HL2; clear HB2 HO2 HGA2 HX2 HNX2 HL2
          cases r2 with
          | zero =>
            have hlt2 : ¬ (m : Int) < ((sbv su k).gs.length : Int) := by have := hmr.out; omega
            have HL3 : Hid (L.map (·.1) = actL (su.take (k + 1)) ch) := by show _ = _; rw [HL.out, actL_succ ch hkl, show m = (sbv su k).gs.length by have := hmr.out; omega, hitB_all]; rfl
            go_wp2_with fail
            go_roundw
            case rel => exact ⟨k + 1, r, pp, cc, L, by first | rfl | simp, rfl, Lib.hid (by have := hkr.out; omega), HB, HO, HGA, HL3⟩
            case measure => first | (simp [intOf]; done) | (simp [intOf]; omega)
          | succ r2 =>
            have h128 := (hok.out k hkl).few
            have hml : m < (sbv su k).gs.length := by have := hmr.out; omega
            have hlt2 : (m : Int) < ((sbv su k).gs.length : Int) := by omega
            have hun2 : IntKind.i64.wrap ((m : Int) + 1) = (m : Int) + 1 := IntWalk.i64_in _ (by omega)
            obtain ⟨bg, og, hpg, hbg, hCg⟩ := hg2.out (fun h => by rw [h] at hml; simp at hml)
            replace hCg : GnsC w bg og (sbv su k).gs := hCg
            subst hpg
            obtain ⟨n0, n1, n2⟩ := hCg.below HB.out hbg m hml
            clear hCg
            have hbgr : bg < wr.heap.size := by have := HB.out.size; omega
            have hal := (Below.refl wr.heap.size wr).alloc (Nat.le_refl _) (.cells #[.int .i64 (gnv (sbv su k).gs m).ch, .int .i64 (gnv (sbv su k).gs m).at_, .int .i64 (gnv (sbv su k).gs m).lev] 85)
            replace HO := Lib.hid (HO.out.keep hal)
            replace HX := Lib.hid (HX.out.keep hal)
            replace HB := Lib.hid (bch' HB.out hal)
            clear hal
            have HG := Lib.hid (Blk.new wr 85 #[.int .i64 (gnv (sbv su k).gs m).ch, .int .i64 (gnv (sbv su k).gs m).at_, .int .i64 (gnv (sbv su k).gs m).lev])
            have hn := fun W => eql_par W (gnv (sbv su k).gs m).ch (gnv (sbv su k).gs m).at_ ch 0
            have HLN : Hid (L.length ≤ 17) := act_len HL.out (by omega)
            go_upto_region 8 with fail
            generalize wr.alloc (.cells #[.int .i64 (gnv (sbv su k).gs m).ch, .int .i64 (gnv (sbv su k).gs m).at_, .int .i64 (gnv (sbv su k).gs m).lev] 85) = wy at *
            obtain ⟨x0, x1, x2, x3, xf0, xf1, xf2, xf3⟩ := HX.out.c4
            obtain ⟨g0, g1, g2, gf0, gf1, gf2⟩ := HG.out.c3
            have HL3 : Hid (L.map (·.1) = actL (su.take k) ch ++ (if (sbv su k).inh && hitB (sbv su k).gs ch (m + 1) then [sbv su k] else [])) := by show _ = _; rw [HL.out, HIN.out]; simp
            go_wp2_with fail
            go_roundw
            case rel => exact ⟨m + 1, r2, pp, cc, L, by first | rfl | simp, rfl, Lib.hid (by have := hmr.out; omega), HB, HO, HGA, HX, HNX, HL3⟩
            case measure => first | (simp [intOf]; done) | (simp [intOf]; omega)
      · rw [hinh] at x3
        have HIN := Lib.hid hinh; clear hinh
        have hal := (Below.refl wr.heap.size wr).alloc (Nat.le_refl _) (.cells #[.int .i64 (sbv su k).nu, .int .i64 (sbv su k).pr, .bool true, (.slice pg (sbv su k).gs.length cg)] 58)
        have HNX : Hid (∀ a, pp = some a → wr.heap.size ≠ a.block) := Lib.hid fun a ha => Nat.ne_of_gt (HO.out.lt a ha).2
        replace HO := Lib.hid (HO.out.keep hal)
        replace HB := Lib.hid (bch' HB.out hal)
        clear hal
        have HX := Lib.hid (Blk.new wr 58 #[.int .i64 (sbv su k).nu, .int .i64 (sbv su k).pr, .bool true, (.slice pg (sbv su k).gs.length cg)])
        obtain ⟨x0, x1, x2, x3, xf0, xf1, xf2, xf3⟩ := HX.out.c4
        go_wp2_with fail
        generalize wr.alloc (.cells #[.int .i64 (sbv su k).nu, .int .i64 (sbv su k).pr, .bool true, (.slice pg (sbv su k).gs.length cg)] 58) = wo at *
        generalize wr.heap.size = X at *
        clear x1 x2 x3 x4 hbr
        go_loopw [5, 21] (fun s i wx => ∃ (m r2 : Nat) (pp : Option Addr) (cc : Nat) (L : List (Sb × Value)), i = .int .i64 (m : Int) ∧ s = .slice pp L.length cc ∧ Hid (m + r2 = (sbv su k).gs.length) ∧ Hid (Below w.heap.size w wx) ∧ Hid (OwnR encS 4 w.heap.size 58 wx pp cc L) ∧ Hid (∀ x ∈ L, GnsAt w x.2 x.1.gs) ∧ Hid (Blk wx X 58 #[.int .i64 (sbv su k).nu, .int .i64 (sbv su k).pr, .bool true, (.slice pg (sbv su k).gs.length cg)]) ∧ Hid (∀ a, pp = some a → X ≠ a.block) ∧ Hid (L.map (·.1) = actL (su.take k) ch ++ (if (sbv su k).inh && hitB (sbv su k).gs ch m then [sbv su k] else []))) (fun _ i _ => (sbv su k).gs.length - (intOf i).toNat)
        case atStart => exact ⟨0, (sbv su k).gs.length, pp, cc, L, rfl, rfl, Lib.hid (by omega), HB, HO, HGA, HX, HNX, Lib.hid (by rw [HL.out, hitB_zero]; simp)⟩
        case round =>
          obtain ⟨m, r2, pp, cc, L, rfl, rfl, hmr, HB2, HO2, HGA2, HX2, HNX2, HL2⟩ := hrel
          clear HB HO HGA HX HNX HL; clear x0 x1 x2 x3 xf0 xf1 xf2 xf3
          have HB := HB2; have HO := HO2; have HGA := HGA2; have HX := HX2; have HNX := HNX2; have HL := HL2; clear HB2 HO2 HGA2 HX2 HNX2 HL2
          cases r2 with
          | zero =>
            have hlt2 : ¬ (m : Int) < ((sbv su k).gs.length : Int) := by have := hmr.out; omega
            have HL3 : Hid (L.map (·.1) = actL (su.take (k + 1)) ch) := by show _ = _; rw [HL.out, actL_succ ch hkl, show m = (sbv su k).gs.length by have := hmr.out; omega, hitB_all]; rfl
            go_wp2_with fail
            go_roundw
            case rel => exact ⟨k + 1, r, pp, cc, L, by first | rfl | simp, rfl, Lib.hid (by have := hkr.out; omega), HB, HO, HGA, HL3⟩
            case measure => first | (simp [intOf]; done) | (simp [intOf]; omega)
          | succ r2 =>
            have h128 := (hok.out k hkl).few
            have hml : m < (sbv su k).gs.length := by have := hmr.out; omega
            have hlt2 : (m : Int) < ((sbv su k).gs.length : Int) := by omega
            have hun2 : IntKind.i64.wrap ((m : Int) + 1) = (m : Int) + 1 := IntWalk.i64_in _ (by omega)
            obtain ⟨bg, og, hpg, hbg, hCg⟩ := hg2.out (fun h => by rw [h] at hml; simp at hml)
            replace hCg : GnsC w bg og (sbv su k).gs := hCg
            subst hpg
            obtain ⟨n0, n1, n2⟩ := hCg.below HB.out hbg m hml
            clear hCg
            have hbgr : bg < wr.heap.size := by have := HB.out.size; omega
            have hal := (Below.refl wr.heap.size wr).alloc (Nat.le_refl _) (.cells #[.int .i64 (gnv (sbv su k).gs m).ch, .int .i64 (gnv (sbv su k).gs m).at_, .int .i64 (gnv (sbv su k).gs m).lev] 85)
            replace HO := Lib.hid (HO.out.keep hal)
            replace HX := Lib.hid (HX.out.keep hal)
            replace HB := Lib.hid (bch' HB.out hal)
            clear hal
            have HG := Lib.hid (Blk.new wr 85 #[.int .i64 (gnv (sbv su k).gs m).ch, .int .i64 (gnv (sbv su k).gs m).at_, .int .i64 (gnv (sbv su k).gs m).lev])
            have hn := fun W => eql_par W (gnv (sbv su k).gs m).ch (gnv (sbv su k).gs m).at_ ch 0
            have HLN : Hid (L.length ≤ 17) := act_len HL.out (by omega)
            go_upto_region 8 with fail
            generalize wr.alloc (.cells #[.int .i64 (gnv (sbv su k).gs m).ch, .int .i64 (gnv (sbv su k).gs m).at_, .int .i64 (gnv (sbv su k).gs m).lev] 85) = wy at *
            obtain ⟨x0, x1, x2, x3, xf0, xf1, xf2, xf3⟩ := HX.out.c4
            obtain ⟨g0, g1, g2, gf0, gf1, gf2⟩ := HG.out.c3
            by_cases e : (gnv (sbv su k).gs m).ch = ch ∧ (gnv (sbv su k).gs m).at_ = 0
            · have hq : (((gnv (sbv su k).gs m).ch == ch) && ((gnv (sbv su k).gs m).at_ == 0)) = true := by simp [e.1, e.2]
              have HL3 : Hid ((L ++ [(sbv su k, (Value.slice (some ⟨bg, og, none⟩) (sbv su k).gs.length cg))]).map (·.1) = actL (su.take k) ch ++ (if (sbv su k).inh && hitB (sbv su k).gs ch (m + 1) then [sbv su k] else [])) := by show _ = _; rw [List.map_append, HL.out, hitB_succ hml, hitB_once (hok.out k hkl).bef hml e, hq, HIN.out]; simp
              rw [hq] at hn
              clear e hq
              go_wp2_with (first | (at_builtin; refine wpList_appR2 rfl _ _ 25 rfl w.heap.size 58 i0 (.agg #[.int .i64 0, .int .i64 0, .bool false, .slice none 0 0]) 48 Tryz.underlying25 hi hz0 hz1 hz2 rfl (by decide) (by decide) pp cc L.length L rfl _ (sbv su k, (Value.slice (some ⟨bg, og, none⟩) (sbv su k).gs.length cg)) wy.heap.size rfl (fun j u hu => cell_new_of wy 58 (by simpa [encS, HIN.out] using hu)) (encS_one HGN.out) rfl (HO.out.keep ((Below.refl _ wy).alloc (Nat.le_refl _) _)) rfl (by have := HLN.out; omega) (by have := HB.out.size; rw [World.size_alloc]; omega) ?_; intro p1 c1 w3 hO3 hb3 hk3; have HO3 := Lib.hid hO3; have HB3 := Lib.hid hb3; have HX3 := Lib.hid (hk3 _ _ _ (HX.out.alloc _) HNX.out); clear hO3 hb3 hk3))
              go_roundw
              case rel => exact ⟨m + 1, r2, p1, c1, L ++ [(sbv su k, (Value.slice (some ⟨bg, og, none⟩) (sbv su k).gs.length cg))], by first | rfl | simp, by simp, Lib.hid (by have := hmr.out; omega), Lib.hid (HB.out.trans (((Below.refl _ wy).alloc (by have := HB.out.size; omega) _).trans HB3.out)), HO3, Lib.hid (fun x hx => by rcases List.mem_append.1 hx with h | h; exact HGA.out x h; rw [List.mem_singleton.1 h]; exact HGN.out), Lib.hid HX3.out.1, Lib.hid HX3.out.2, HL3⟩
              case measure => first | (simp [intOf]; done) | (simp [intOf]; omega)
            · have hq : (((gnv (sbv su k).gs m).ch == ch) && ((gnv (sbv su k).gs m).at_ == 0)) = false := by
                rw [Bool.and_eq_false_iff, beq_eq_false_iff_ne, beq_eq_false_iff_ne]
                by_cases e1 : (gnv (sbv su k).gs m).ch = ch
                · exact .inr fun e2 => e ⟨e1, e2⟩
                · exact .inl e1
              have HL3 : Hid (L.map (·.1) = actL (su.take k) ch ++ (if (sbv su k).inh && hitB (sbv su k).gs ch (m + 1) then [sbv su k] else [])) := by show _ = _; rw [HL.out, hitB_succ hml, hq, Bool.or_false]
              rw [hq] at hn
              clear e hq
              go_wp2_with fail
              go_roundw
              case rel => exact ⟨m + 1, r2, pp, cc, L, by first | rfl | simp, rfl, Lib.hid (by have := hmr.out; omega), HB, HO, HGA, HX, HNX, HL3⟩
              case measure => first | (simp [intOf]; done) | (simp [intOf]; omega)
end Go.Proofs.YtkjelfmgnkkijaaGreatDoor
namespace Lum
open Go Go.RowKit Go.Shelf
open Go.Lib (decDigits itoa)
/-- A pair's cells. -/
def encP (x : Int × Int) : List Value := [.int .i64 x.1, .int .i64 x.2]
theorem encP_len (x : Int × Int) : (encP x).length = 2 := rfl
theorem encP_one (x : Int × Int) : ∀ u ∈ encP x, u.oneCell' = true := by
  intro u hu
  simp only [encP, List.mem_cons, List.not_mem_nil, or_false] at hu
  rcases hu with rfl | rfl <;> rfl
theorem OwnR.ptsP {base : Nat} {e : TypeId} {W : World} {p : Option Addr} {c : Nat} {l : List (Int × Int)} (h : OwnR encP 2 base e W p c l) : PtsAt W (.slice p l.length c) l := by
  refine ⟨p, c, rfl, fun hn => ?_⟩
  obtain ⟨b, hp, hb, hc⟩ := h.at_ encP_len hn
  refine ⟨b, 0, hp, hb, fun i hi => ?_⟩
  have hx := hc i hi
  have e1 : pX l i = (l[i]'hi).1 := by unfold pX; rw [List.getElem?_eq_getElem hi]; rfl
  have e2 : pY l i = (l[i]'hi).2 := by unfold pY; rw [List.getElem?_eq_getElem hi]; rfl
  rw [e1, e2]
  exact ⟨hx 0 _ rfl, hx 1 _ rfl⟩
/-- The submasters' own cells, in one world. -/
def SbF (W : World) (b o : Nat) (l : List Sb) : Prop := ∀ i, i < l.length → W.cell? ⟨b, o + i * 4, none⟩ = some (.int .i64 (sbv l i).nu) ∧ W.cell? ⟨b, o + i * 4 + 1, none⟩ = some (.int .i64 (sbv l i).pr) ∧ W.cell? ⟨b, o + i * 4 + 2, none⟩ = some (.bool (sbv l i).inh) ∧
  ∃ q n c, W.cell? ⟨b, o + i * 4 + 3, none⟩ = some (.slice q n c)
/-- A slice of submasters that lies beside a call's own slice at pp. -/
def SrcK (W : World) (pv pp : Option Addr) (l : List Sb) : Prop := l ≠ [] → ∃ b o, pv = some ⟨b, o, none⟩ ∧ b < W.heap.size ∧ SbF W b o l ∧ ∀ a, pp = some a → b ≠ a.block
theorem SbF.of_heap {W W' : World} {b o : Nat} {l : List Sb} (h : SbF W b o l) (e : W'.heap[b]? = W.heap[b]?) : SbF W' b o l := fun i hi => by
  obtain ⟨h1, h2, h3, q, n, c, h4⟩ := h i hi
  exact ⟨(World.cell?_of_block (w := W) (a := ⟨b, o + i * 4, none⟩) e).trans h1, (World.cell?_of_block (w := W) (a := ⟨b, o + i * 4 + 1, none⟩) e).trans h2, (World.cell?_of_block (w := W) (a := ⟨b, o + i * 4 + 2, none⟩) e).trans h3, q, n, c, (World.cell?_of_block (w := W) (a := ⟨b, o + i * 4 + 3, none⟩) e).trans h4⟩
theorem SrcK.below {W W' : World} {pv pp : Option Addr} {l : List Sb} (h : SrcK W pv pp l) (hb : Below W.heap.size W W') : SrcK W' pv pp l := fun hn => by
  obtain ⟨b, o, h1, h2, h3, h4⟩ := h hn
  exact ⟨b, o, h1, Nat.lt_of_lt_of_le h2 hb.size, h3.of_heap (hb.block b h2), h4⟩
theorem SrcK.app {W W' : World} {pv pp pp' : Option Addr} {l : List Sb} (h : SrcK W pv pp l) (hs : W.heap.size ≤ W'.heap.size) (hk : ∀ g : Nat, g < W.heap.size → (∀ a, pp = some a → g ≠ a.block) → W'.heap[g]? = W.heap[g]? ∧ ∀ a, pp' = some a → g ≠ a.block) : SrcK W' pv pp' l := fun hn => by
  obtain ⟨b, o, h1, h2, h3, h4⟩ := h hn
  obtain ⟨k1, k2⟩ := hk b h2 h4
  exact ⟨b, o, h1, Nat.lt_of_lt_of_le h2 hs, h3.of_heap k1, k2⟩
theorem SrcK.of_at {W : World} {pv pp : Option Addr} {c : Nat} {l : List Sb} (h : SbsAt W (.slice pv l.length c) l) (hne : ∀ a a2, pv = some a → pp = some a2 → a.block ≠ a2.block) : SrcK W pv pp l := fun hn => by
  obtain ⟨p, c2, e, -, h2⟩ := h
  injection e with e1 e2 e3
  subst e1
  obtain ⟨b, o, rfl, hb, hC⟩ := h2 hn
  refine ⟨b, o, rfl, hb, fun i hi => ?_, fun a ha => hne _ a rfl ha⟩
  obtain ⟨h1, h2, h3, gv, h4, q, c, rfl, -⟩ := hC i hi
  exact ⟨h1, h2, h3, q, _, c, h4⟩
theorem src_take {bl : Bool} {su : List Sb} {ch : Int} {k : Nat} (h : k < (actL su ch).length) : (actN su ch).take (k + 1) = (actN su ch).take k ++ [(sbv (actL su ch) k).nu] := by
  unfold actN
  rw [List.take_succ_eq_append_getElem (by simpa using h)]
  congr 1
  simp only [List.getElem_map, sbv_at h]
/-- The sources before those of the submasters. -/
def srcH (bl : Bool) : List (Int × Int) := (5, 0) :: (if bl then [(6, 0)] else [])
theorem srcH_all (bl : Bool) (su : List Sb) (ch : Int) : srcL bl su ch = srcH bl ++ (actN su ch).map fun n => ((7 : Int), n) := rfl
end Lum
namespace Go.Proofs.YtkjelfmgnkkijaaGreatDoor
open Go.RowKit Go.Shelf Lum
open Go.Lib (decDigits itoa)
attribute [local go_sem] bs_get bs_extract_end bs_extract_from bs_extract bs_append

theorem info_src : (Tryz.prog.info? 43).map (fun i => (i.zero, i.size, i.bytes)) = some (some (.agg #[.int .i64 0, .int .i64 0]), 2, 16) := by kernel_rfl
set_option maxRecDepth 100000 in
set_option maxHeartbeats 4000000 in
theorem own_msources_bad (tz st ti : Int) (bl : Bool) (fr : Txt) (sv fv : Value) (su : List Sb) (fd : List Fdr) (ch : Int) (w : World) (hs : SbsAt w sv su) (hf : FdsAt w fv fd) (hx : fr.length ≤ 60) (hl : ∀ i, i < fd.length → (fdv fd i).fr.length ≤ 60) (hz : ¬ onE fr tz st ti su fd ch = 0) (env : Env w) :
    Calls Tryz.prog 25 #[.agg #[.string ⟨(fr).toArray⟩, .int .i64 tz, .int .i64 st, .int .i64 ti, .bool (bl), sv, fv], .int .i64 ch] w fun e w' => e = .returned (.tuple #[.slice none 0 0, .int .i64 (onE fr tz st ti su fd ch)]) ∧ Below w.heap.size w w' := by
  have ENV := Lib.hid env; clear env
  have hon := fun W (h1 : SbsAt W sv su) (h2 : FdsAt W fv fd) (e : Env W) => own_mon tz st ti bl fr sv fv su fd ch W h1 h2 (by omega) (fun i hi => Nat.le_trans (hl i hi) (by omega)) e
  have hal := (Below.refl w.heap.size w).alloc (Nat.le_refl _) (.cells #[.string ⟨(fr).toArray⟩, .int .i64 tz, .int .i64 st, .int .i64 ti, .bool (bl), sv, fv] 28)
  have HS := Lib.hid (SbsAt.kept hs hal)
  have HF := Lib.hid (FdsAt.kept hf hal)
  have HS0 := Lib.hid hs
  have HB := Lib.hid hal; clear hal hs hf
  have HK := Lib.hid (Blk.new w 28 #[.string ⟨(fr).toArray⟩, .int .i64 tz, .int .i64 st, .int .i64 ti, .bool (bl), sv, fv])
  obtain ⟨k0, k1, k2, k3, k4, k5, k6, kf0, kf1, kf2, kf3, kf4, kf5, kf6⟩ := HK.out.c7
  have hne : ((onE fr tz st ti su fd ch : Int) != 0) = true := by simpa using hz
  clear hz
  generalize onE fr tz st ti su fd ch = m at *
  have HON := Lib.hid hon; clear hon
  go_enter Tryz.func25, Tryz.ntmps25
  go_wp2_with (first | (with_reducible refine ((HON.out _ HS.out HF.out (ENV.out.below HB.out)).mono ?_); rintro e w' ⟨rfl, hb⟩; replace HK := Lib.hid (HK.out.keep hb); clear k0 k1 k2 k3 k4 k5 k6 kf0 kf1 kf2 kf3 kf4 kf5 kf6; replace HS := Lib.hid (SbsAt.kept HS.out hb); replace HF := Lib.hid (FdsAt.kept HF.out hb); replace HB := Lib.hid (bch' HB.out hb); clear hb; obtain ⟨k0, k1, k2, k3, k4, k5, k6, kf0, kf1, kf2, kf3, kf4, kf5, kf6⟩ := HK.out.c7))
  go_ret2
  exact ⟨rfl, HB.out⟩

set_option maxRecDepth 100000 in
set_option maxHeartbeats 4000000 in
theorem own_msources_ok (tz st ti : Int) (bl : Bool) (fr : Txt) (sv fv : Value) (su : List Sb) (fd : List Fdr) (ch : Int) (w : World) (hs : SbsAt w sv su) (hf : FdsAt w fv fd) (hx : fr.length ≤ 60) (hl : ∀ i, i < fd.length → (fdv fd i).fr.length ≤ 60) (hz : onE fr tz st ti su fd ch = 0) (env : Env w) :
    Calls Tryz.prog 25 #[.agg #[.string ⟨(fr).toArray⟩, .int .i64 tz, .int .i64 st, .int .i64 ti, .bool (bl), sv, fv], .int .i64 ch] w fun e w' => ∃ pp cc, e = .returned (.tuple #[.slice pp (srcL bl su ch).length cc, .int .i64 0]) ∧ PtsAt w' (.slice pp (srcL bl su ch).length cc) (srcL bl su ch) ∧ Below w.heap.size w w' := by
  obtain ⟨ps, zs, rfl⟩ : ∃ ps zs, sv = .slice ps su.length zs := by obtain ⟨a, b, e, -⟩ := hs; exact ⟨a, b, e⟩
  obtain ⟨pf, zf, rfl⟩ : ∃ pf zf, fv = .slice pf fd.length zf := by obtain ⟨a, b, e, -⟩ := hf; exact ⟨a, b, e⟩
  have ENV := Lib.hid env; clear env
  obtain ⟨hm, hc0, hc1⟩ := onE_zero hz
  obtain ⟨m1, m2, m3⟩ := maE_zero hm
  have tok := tabOk m2
  have hfew := tok.few
  have hon := fun W (h1 : SbsAt W (.slice ps su.length zs) su) (h2 : FdsAt W (.slice pf fd.length zf) fd) (e : Env W) => own_mon tz st ti bl fr (.slice ps su.length zs) (.slice pf fd.length zf) su fd ch W h1 h2 (by omega) (fun i hi => Nat.le_trans (hl i hi) (by omega)) e
  rw [hz] at hon
  have hac := fun W (h : SbsAt W (.slice ps su.length zs) su) => own_macting tz st ti bl fr (.slice ps su.length zs) (.slice pf fd.length zf) su ch W h tok
  obtain ⟨i0, hi, hz0, hz1, hz2⟩ := info_parts info_src
  have hal := (Below.refl w.heap.size w).alloc (Nat.le_refl _) (.cells #[.string ⟨(fr).toArray⟩, .int .i64 tz, .int .i64 st, .int .i64 ti, .bool (bl), (.slice ps su.length zs), (.slice pf fd.length zf)] 28)
  have HS := Lib.hid (SbsAt.kept hs hal)
  have HF := Lib.hid (FdsAt.kept hf hal)
  have HS0 := Lib.hid hs
  have HB := Lib.hid hal; clear hal hs hf
  have HK := Lib.hid (Blk.new w 28 #[.string ⟨(fr).toArray⟩, .int .i64 tz, .int .i64 st, .int .i64 ti, .bool (bl), (.slice ps su.length zs), (.slice pf fd.length zf)])
  obtain ⟨k0, k1, k2, k3, k4, k5, k6, kf0, kf1, kf2, kf3, kf4, kf5, kf6⟩ := HK.out.c7
  clear hz hm hc0 hc1 m1 m2 m3 tok hl hx
  cases bl
  · have HON := Lib.hid hon; clear hon
    have HAC := Lib.hid hac; clear hac
    go_enter Tryz.func25, Tryz.ntmps25
    go_upto_region 4 with (first | (with_reducible refine ((HON.out _ HS.out HF.out (ENV.out.below HB.out)).mono ?_); rintro e w' ⟨rfl, hb⟩; replace HK := Lib.hid (HK.out.keep hb); clear k0 k1 k2 k3 k4 k5 k6 kf0 kf1 kf2 kf3 kf4 kf5 kf6; replace HS := Lib.hid (SbsAt.kept HS.out hb); replace HF := Lib.hid (FdsAt.kept HF.out hb); replace HB := Lib.hid (bch' HB.out hb); clear hb; obtain ⟨k0, k1, k2, k3, k4, k5, k6, kf0, kf1, kf2, kf3, kf4, kf5, kf6⟩ := HK.out.c7))
    have HK0 := HK
    have HO := Lib.hid (OwnR.one (enc := encP) (k := 2) (base := w.heap.size) (e := 43) w' ((5 : Int), (0 : Int)) rfl HB.out.size)
    have hal := (Below.refl w'.heap.size w').alloc (Nat.le_refl _) (.cells #[.int .i64 5, .int .i64 0] 43)
    replace HK := Lib.hid (HK.out.keep hal)
    clear k0 k1 k2 k3 k4 k5 k6 kf0 kf1 kf2 kf3 kf4 kf5 kf6
    replace HS := Lib.hid (SbsAt.kept HS.out hal)
    replace HB := Lib.hid (bch' HB.out hal)
    clear hal
    obtain ⟨k0, k1, k2, k3, k4, k5, k6, kf0, kf1, kf2, kf3, kf4, kf5, kf6⟩ := HK.out.c7
    go_upto_region 5 with fail
    change Hid (OwnR encP 2 w.heap.size 43 (w'.alloc (.cells #[.int .i64 5, .int .i64 0] 43)) (some ⟨w'.heap.size, 0, none⟩) 1 (srcH false)) at HO
    generalize w'.alloc (.cells #[.int .i64 5, .int .i64 0] 43) = wq at *
    go_wp2_with fail
    refine ((HAC.out _ HS.out).mono ?_)
    rintro e w5 ⟨pv, cv, rfl, hsa, hpv, hb⟩
    have HSR := Lib.hid (SrcK.of_at (pp := (some ⟨w'.heap.size, 0, none⟩)) hsa (fun a a2 ha ha2 => Nat.ne_of_gt (Nat.lt_of_lt_of_le (HO.out.lt a2 ha2).2 (hpv a ha))))
    clear hsa hpv
    replace HO := Lib.hid (HO.out.keep hb)
    replace HB := Lib.hid (bch' HB.out hb)
    clear hb HAC
    go_wp2_with fail
    go_loopw [7, 29] (fun s i wr => ∃ (k r n : Nat) (pp : Option Addr) (cc : Nat), i = .int .i64 (k : Int) ∧ s = .slice pp n cc ∧ Hid (n = (srcH false ++ ((actN su ch).take k).map (fun n => ((7 : Int), n))).length) ∧ Hid (k + r = (actL su ch).length) ∧ Hid (Below w.heap.size w wr) ∧ Hid (OwnR encP 2 w.heap.size 43 wr pp cc (srcH false ++ ((actN su ch).take k).map (fun n => ((7 : Int), n)))) ∧ Hid (SrcK wr pv pp (actL su ch))) (fun _ i _ => (actL su ch).length - (intOf i).toNat)
    case atStart => exact ⟨0, (actL su ch).length, _, (some ⟨w'.heap.size, 0, none⟩), 1, rfl, rfl, Lib.hid rfl, Lib.hid (by omega), HB, Lib.hid (by simpa using HO.out), HSR⟩
    case round =>
      obtain ⟨k, r, n, pp, cc, rfl, rfl, HN, hkr, HB2, HO2, HSR2⟩ := hrel
      clear HB HO HSR HS HF
      have HB := HB2; have HO := HO2; have HSR := HSR2; clear HB2 HO2 HSR2
      cases r with
      | zero =>
        have hlt : ¬ (k : Int) < ((actL su ch).length : Int) := by have := hkr.out; omega
        have HL : Hid (srcH false ++ ((actN su ch).take k).map (fun n => ((7 : Int), n)) = srcL false su ch) := by show _ = _; rw [List.take_of_length_le (by have := hkr.out; unfold actN; rw [List.length_map]; omega)]; rfl
        rw [HL.out] at HO
        have HNL : Hid (n = (srcL false su ch).length) := Lib.hid (HN.out.trans (congrArg List.length HL.out))
        clear HN HL
        go_wp2_with fail
        go_ret2
        exact ⟨pp, cc, by rw [← HNL.out]; rfl, HO.out.ptsP, HB.out⟩
      | succ r =>
        have hkl : k < (actL su ch).length := by have := hkr.out; omega
        have h16 : (actL su ch).length ≤ 16 := Nat.le_trans (by unfold actL; exact List.length_filter_le _ _) hfew
        have hlt : (k : Int) < ((actL su ch).length : Int) := by omega
        have hun : IntKind.i64.wrap ((k : Int) + 1) = (k : Int) + 1 := IntWalk.i64_in _ (by omega)
        obtain ⟨b, o, rfl, hb, hC, hne⟩ := HSR.out (fun h => by rw [h] at hkl; simp at hkl)
        obtain ⟨x1, x2, x3, q5, n5, c5, x4⟩ := hC k hkl
        clear hC hne
        have hal := (Below.refl wr.heap.size wr).alloc (Nat.le_refl _) (.cells #[.int .i64 (sbv (actL su ch) k).nu, .int .i64 (sbv (actL su ch) k).pr, .bool (sbv (actL su ch) k).inh, .slice q5 n5 c5] 58)
        replace HO := Lib.hid (HO.out.keep hal)
        replace HSR := Lib.hid (HSR.out.below hal)
        replace HB := Lib.hid (bch' HB.out hal)
        clear hal
        have HX := Lib.hid (Blk.new wr 58 #[.int .i64 (sbv (actL su ch) k).nu, .int .i64 (sbv (actL su ch) k).pr, .bool (sbv (actL su ch) k).inh, .slice q5 n5 c5])
        obtain ⟨y0, y1, y2, y3, yf0, yf1, yf2, yf3⟩ := HX.out.c4
        go_upto_region 10 with fail
        generalize wr.alloc (.cells #[.int .i64 (sbv (actL su ch) k).nu, .int .i64 (sbv (actL su ch) k).pr, .bool (sbv (actL su ch) k).inh, .slice q5 n5 c5] 58) = wy at *
        have HTK := Lib.hid (src_take (bl := false) hkl)
        have hpl : (srcH false ++ ((actN su ch).take k).map (fun n => ((7 : Int), n))).length ≤ 100 := by rw [List.length_append, List.length_map, List.length_take]; unfold srcH; simp; omega
        have HPL := Lib.hid hpl; clear hpl
        go_wp2_with (first | (at_builtin; refine wpList_appR3 rfl _ _ 48 rfl w.heap.size 43 i0 (.agg #[.int .i64 0, .int .i64 0]) 16 Tryz.underlying48 hi hz0 hz1 hz2 rfl (by decide) (by decide) pp cc _ (srcH false ++ ((actN su ch).take k).map (fun n => ((7 : Int), n))) (HN.out) _ (((7 : Int), (sbv (actL su ch) k).nu)) wy.heap.size rfl (fun j u hu => cell_new_of wy 43 hu) (encP_one _) rfl (HO.out.keep ((Below.refl _ wy).alloc (Nat.le_refl _) _)) rfl (by have := HPL.out; omega) (by have := HB.out.size; rw [World.size_alloc]; omega) ?_; intro p1 c1 w3 hO3 hb3 hk3; have HO3 := Lib.hid hO3; have HB3 := Lib.hid hb3; have HK3 := Lib.hid hk3; clear hO3 hb3 hk3))
        go_roundw
        case rel => exact ⟨k + 1, r, n + 1, p1, c1, by first | rfl | simp, by first | rfl | simp, Lib.hid (by rw [HTK.out, List.map_append, ← List.append_assoc, List.length_append, ← HN.out]; rfl), Lib.hid (by have := hkr.out; omega), Lib.hid (HB.out.trans (((Below.refl _ wy).alloc (by have := HB.out.size; omega) _).trans HB3.out)), Lib.hid (by rw [HTK.out, List.map_append, ← List.append_assoc]; exact HO3.out), Lib.hid ((HSR.out.below ((Below.refl _ wy).alloc (Nat.le_refl _) _)).app HB3.out.size HK3.out)⟩
        case measure => first | (simp [intOf]; done) | (simp [intOf]; omega)
  · have HON := Lib.hid hon; clear hon
    have HAC := Lib.hid hac; clear hac
    go_enter Tryz.func25, Tryz.ntmps25
    go_upto_region 4 with (first | (with_reducible refine ((HON.out _ HS.out HF.out (ENV.out.below HB.out)).mono ?_); rintro e w' ⟨rfl, hb⟩; replace HK := Lib.hid (HK.out.keep hb); clear k0 k1 k2 k3 k4 k5 k6 kf0 kf1 kf2 kf3 kf4 kf5 kf6; replace HS := Lib.hid (SbsAt.kept HS.out hb); replace HF := Lib.hid (FdsAt.kept HF.out hb); replace HB := Lib.hid (bch' HB.out hb); clear hb; obtain ⟨k0, k1, k2, k3, k4, k5, k6, kf0, kf1, kf2, kf3, kf4, kf5, kf6⟩ := HK.out.c7))
    have HK0 := HK
    have HO := Lib.hid (OwnR.one (enc := encP) (k := 2) (base := w.heap.size) (e := 43) w' ((5 : Int), (0 : Int)) rfl HB.out.size)
    have hal := (Below.refl w'.heap.size w').alloc (Nat.le_refl _) (.cells #[.int .i64 5, .int .i64 0] 43)
    replace HK := Lib.hid (HK.out.keep hal)
    clear k0 k1 k2 k3 k4 k5 k6 kf0 kf1 kf2 kf3 kf4 kf5 kf6
    replace HS := Lib.hid (SbsAt.kept HS.out hal)
    replace HB := Lib.hid (bch' HB.out hal)
    clear hal
    obtain ⟨k0, k1, k2, k3, k4, k5, k6, kf0, kf1, kf2, kf3, kf4, kf5, kf6⟩ := HK.out.c7
    go_upto_region 5 with fail
    change Hid (OwnR encP 2 w.heap.size 43 (w'.alloc (.cells #[.int .i64 5, .int .i64 0] 43)) (some ⟨w'.heap.size, 0, none⟩) 1 [((5 : Int), (0 : Int))]) at HO
    have hwq : w'.heap.size < (w'.alloc (.cells #[.int .i64 5, .int .i64 0] 43)).heap.size := by rw [World.size_alloc]; omega
    have hkk : w.heap.size < w'.heap.size := by have := HK0.out.lt; omega
    generalize w'.alloc (.cells #[.int .i64 5, .int .i64 0] 43) = wq at *
    go_upto_region 7 with (first | (at_builtin; refine wpList_appR3 rfl _ _ 48 rfl w.heap.size 43 i0 (.agg #[.int .i64 0, .int .i64 0]) 16 Tryz.underlying48 hi hz0 hz1 hz2 rfl (by decide) (by decide) (some ⟨w'.heap.size, 0, none⟩) 1 _ ([((5 : Int), (0 : Int))]) (by simp) _ (((6 : Int), (0 : Int))) wq.heap.size rfl (fun j u hu => cell_new_of wq 43 hu) (encP_one _) rfl (HO.out.keep ((Below.refl _ wq).alloc (Nat.le_refl _) _)) rfl (by simp) (by have := HB.out.size; rw [World.size_alloc]; omega) ?_; intro p0 c0 w4 hO3 hb3 hk3; have HO4 := Lib.hid hO3; have HB4 := Lib.hid hb3; have HK4 := Lib.hid hk3; clear hO3 hb3 hk3))
    have HKn : Hid (Blk w4 w.heap.size 28 #[.string ⟨(fr).toArray⟩, .int .i64 tz, .int .i64 st, .int .i64 ti, .bool true, (.slice ps su.length zs), (.slice pf fd.length zf)]) := Lib.hid (((HK4.out w.heap.size (by rw [World.size_alloc]; omega) (fun a ha => by injection ha with ha; subst ha; exact Nat.ne_of_lt hkk)).1).trans (HK.out.alloc _))
    clear k0 k1 k2 k3 k4 k5 k6 kf0 kf1 kf2 kf3 kf4 kf5 kf6
    replace HK := HKn; clear HKn
    replace HB := Lib.hid (HB.out.trans (((Below.refl _ wq).alloc (by have := HB.out.size; omega) _).trans HB4.out))
    replace HS := Lib.hid (SbsAt.kept HS0.out HB.out)
    clear HO HB4 HK4
    have HO : Hid (OwnR encP 2 w.heap.size 43 w4 p0 c0 (srcH true)) := HO4
    clear HO4
    obtain ⟨k0, k1, k2, k3, k4, k5, k6, kf0, kf1, kf2, kf3, kf4, kf5, kf6⟩ := HK.out.c7
    go_wp2_with fail
    refine ((HAC.out _ HS.out).mono ?_)
    rintro e w5 ⟨pv, cv, rfl, hsa, hpv, hb⟩
    have HSR := Lib.hid (SrcK.of_at (pp := p0) hsa (fun a a2 ha ha2 => Nat.ne_of_gt (Nat.lt_of_lt_of_le (HO.out.lt a2 ha2).2 (hpv a ha))))
    clear hsa hpv
    replace HO := Lib.hid (HO.out.keep hb)
    replace HB := Lib.hid (bch' HB.out hb)
    clear hb HAC
    go_wp2_with fail
    go_loopw [7, 29] (fun s i wr => ∃ (k r n : Nat) (pp : Option Addr) (cc : Nat), i = .int .i64 (k : Int) ∧ s = .slice pp n cc ∧ Hid (n = (srcH true ++ ((actN su ch).take k).map (fun n => ((7 : Int), n))).length) ∧ Hid (k + r = (actL su ch).length) ∧ Hid (Below w.heap.size w wr) ∧ Hid (OwnR encP 2 w.heap.size 43 wr pp cc (srcH true ++ ((actN su ch).take k).map (fun n => ((7 : Int), n)))) ∧ Hid (SrcK wr pv pp (actL su ch))) (fun _ i _ => (actL su ch).length - (intOf i).toNat)
    case atStart => exact ⟨0, (actL su ch).length, _, p0, c0, rfl, rfl, Lib.hid rfl, Lib.hid (by omega), HB, Lib.hid (by simpa using HO.out), HSR⟩
    case round =>
      obtain ⟨k, r, n, pp, cc, rfl, rfl, HN, hkr, HB2, HO2, HSR2⟩ := hrel
      clear HB HO HSR HS HF
      have HB := HB2; have HO := HO2; have HSR := HSR2; clear HB2 HO2 HSR2
      cases r with
      | zero =>
        have hlt : ¬ (k : Int) < ((actL su ch).length : Int) := by have := hkr.out; omega
        have HL : Hid (srcH true ++ ((actN su ch).take k).map (fun n => ((7 : Int), n)) = srcL true su ch) := by show _ = _; rw [List.take_of_length_le (by have := hkr.out; unfold actN; rw [List.length_map]; omega)]; rfl
        rw [HL.out] at HO
        have HNL : Hid (n = (srcL true su ch).length) := Lib.hid (HN.out.trans (congrArg List.length HL.out))
        clear HN HL
        go_wp2_with fail
        go_ret2
        exact ⟨pp, cc, by rw [← HNL.out]; rfl, HO.out.ptsP, HB.out⟩
      | succ r =>
        have hkl : k < (actL su ch).length := by have := hkr.out; omega
        have h16 : (actL su ch).length ≤ 16 := Nat.le_trans (by unfold actL; exact List.length_filter_le _ _) hfew
        have hlt : (k : Int) < ((actL su ch).length : Int) := by omega
        have hun : IntKind.i64.wrap ((k : Int) + 1) = (k : Int) + 1 := IntWalk.i64_in _ (by omega)
        obtain ⟨b, o, rfl, hb, hC, hne⟩ := HSR.out (fun h => by rw [h] at hkl; simp at hkl)
        obtain ⟨x1, x2, x3, q5, n5, c5, x4⟩ := hC k hkl
        clear hC hne
        have hal := (Below.refl wr.heap.size wr).alloc (Nat.le_refl _) (.cells #[.int .i64 (sbv (actL su ch) k).nu, .int .i64 (sbv (actL su ch) k).pr, .bool (sbv (actL su ch) k).inh, .slice q5 n5 c5] 58)
        replace HO := Lib.hid (HO.out.keep hal)
        replace HSR := Lib.hid (HSR.out.below hal)
        replace HB := Lib.hid (bch' HB.out hal)
        clear hal
        have HX := Lib.hid (Blk.new wr 58 #[.int .i64 (sbv (actL su ch) k).nu, .int .i64 (sbv (actL su ch) k).pr, .bool (sbv (actL su ch) k).inh, .slice q5 n5 c5])
        obtain ⟨y0, y1, y2, y3, yf0, yf1, yf2, yf3⟩ := HX.out.c4
        go_upto_region 10 with fail
        generalize wr.alloc (.cells #[.int .i64 (sbv (actL su ch) k).nu, .int .i64 (sbv (actL su ch) k).pr, .bool (sbv (actL su ch) k).inh, .slice q5 n5 c5] 58) = wy at *
        have HTK := Lib.hid (src_take (bl := true) hkl)
        have hpl : (srcH true ++ ((actN su ch).take k).map (fun n => ((7 : Int), n))).length ≤ 100 := by rw [List.length_append, List.length_map, List.length_take]; unfold srcH; simp; omega
        have HPL := Lib.hid hpl; clear hpl
        go_wp2_with (first | (at_builtin; refine wpList_appR3 rfl _ _ 48 rfl w.heap.size 43 i0 (.agg #[.int .i64 0, .int .i64 0]) 16 Tryz.underlying48 hi hz0 hz1 hz2 rfl (by decide) (by decide) pp cc _ (srcH true ++ ((actN su ch).take k).map (fun n => ((7 : Int), n))) (HN.out) _ (((7 : Int), (sbv (actL su ch) k).nu)) wy.heap.size rfl (fun j u hu => cell_new_of wy 43 hu) (encP_one _) rfl (HO.out.keep ((Below.refl _ wy).alloc (Nat.le_refl _) _)) rfl (by have := HPL.out; omega) (by have := HB.out.size; rw [World.size_alloc]; omega) ?_; intro p1 c1 w3 hO3 hb3 hk3; have HO3 := Lib.hid hO3; have HB3 := Lib.hid hb3; have HK3 := Lib.hid hk3; clear hO3 hb3 hk3))
        go_roundw
        case rel => exact ⟨k + 1, r, n + 1, p1, c1, by first | rfl | simp, by first | rfl | simp, Lib.hid (by rw [HTK.out, List.map_append, ← List.append_assoc, List.length_append, ← HN.out]; rfl), Lib.hid (by have := hkr.out; omega), Lib.hid (HB.out.trans (((Below.refl _ wy).alloc (by have := HB.out.size; omega) _).trans HB3.out)), Lib.hid (by rw [HTK.out, List.map_append, ← List.append_assoc]; exact HO3.out), Lib.hid ((HSR.out.below ((Below.refl _ wy).alloc (Nat.le_refl _) _)).app HB3.out.size HK3.out)⟩
        case measure => first | (simp [intOf]; done) | (simp [intOf]; omega)
end Go.Proofs.YtkjelfmgnkkijaaGreatDoor

/-
  The reference: Without of layers 26 and 30.
-/
import Derived.Test.YtkjelfmgnkkijaaGreatDoorFo
set_option linter.unusedVariables false
set_option linter.unusedSimpArgs false
namespace Lum
open Go Go.RowKit Go.Shelf
open Go.Lib (decDigits itoa)
theorem dropP_ne {n : Int} {s : Sb} (h : ¬ s.nu = n) : dropP n s = true := by unfold dropP; simp [h]
theorem dropP_eq {n : Int} {s : Sb} (h : s.nu = n) : dropP n s = false := by unfold dropP; simp [h]
theorem drop_succ {su : List Sb} {k : Nat} (n : Int) (h : k < su.length) : dropL (su.take (k + 1)) n = dropL (su.take k) n ++ (if dropP n (sbv su k) then [sbv su k] else []) := filt_succ (dropP n) h
theorem drop_few {su : List Sb} {k : Nat} (n : Int) (h : su.length ≤ 16) : (dropL (su.take k) n).length ≤ 16 := by unfold dropL; exact Nat.le_trans (List.length_filter_le _ _) (by rw [List.length_take]; omega)
theorem place_find (su : List Sb) (n : Int) : (∃ i : Nat, i < su.length ∧ ixOf (fun x => x.nu == n) su = (i : Int) ∧ (sbv su i).nu = n) ∨ (ixOf (fun x => x.nu == n) su = -1 ∧ ∀ j, j < su.length → (sbv su j).nu ≠ n) := by
  unfold ixOf
  cases h : su.findIdx? (fun x => x.nu == n) with
  | some i =>
    obtain ⟨hi, hp, hb⟩ := List.findIdx?_eq_some_iff_getElem.1 h
    exact .inl ⟨i, hi, rfl, by have := hp; rw [sbv_at hi] at this; simpa using this⟩
  | none =>
    refine .inr ⟨rfl, fun j hj => ?_⟩
    have := List.findIdx?_eq_none_iff.1 h (su[j]'hj) (List.getElem_mem hj)
    rw [sbv_at hj] at this
    simpa using this

/-- What a call between W and w' has made reads as su in all later worlds in which its blocks stand. -/
def SbsK (w W w' : World) (v : Value) (su : List Sb) : Prop := ∀ W', Below w.heap.size w W' → (∀ g, W.heap.size ≤ g → g < w'.heap.size → W'.heap[g]? = w'.heap[g]?) → SbsAt W' v su
theorem SbsK.old {w W w' : World} {v : Value} {su : List Sb} (h : SbsAt w v su) : SbsK w W w' v su := fun _ hb _ => SbsAt.kept h hb
theorem SbsK.nil {w W w' : World} : SbsK w W w' (.slice none 0 0) [] := fun _ _ _ => sbs_nil _
theorem SbsK.own {w W w' : World} {p : Option Addr} {c : Nat} {L : List (Sb × Value)} {l : List Sb} {e : TypeId} (h : OwnR encS 4 W.heap.size e w' p c L) (hg : HasG w L) (hl : L.map (·.1) = l) : SbsK w W w' (.slice p l.length c) l := fun W' hb hk => by
  subst hl
  rw [List.length_map]
  refine OwnR.subs (e := e) (base := W.heap.size) ?_ (fun x hx => GnsAt.kept (hg x hx) hb)
  obtain ⟨h1, h2⟩ := h
  refine ⟨h1, ?_⟩
  rcases h2 with h2 | ⟨g, cap, cur, hv, hg2, hh, r⟩
  · exact .inl h2
  · exact .inr ⟨g, cap, cur, hv, hg2, by rw [hk g hg2 (Array.getElem?_eq_some_iff.1 hh).1]; exact hh, r⟩
theorem free_tab {su : List Sb} (n : Int) (h : TabOk su) : TabOk (freeL su n) := tabOk (tab_filter _ h)
theorem aSu_tab (xs : List (Int × Int)) {su : List Sb} (h : TabOk su) : TabOk (aSu xs su) := tabOk (tab_filter _ h)
end Lum
namespace Go.Proofs.YtkjelfmgnkkijaaGreatDoor
open Go.RowKit Go.Shelf Lum
open Go.Lib (decDigits itoa)
attribute [local go_sem] bs_get bs_extract_end bs_extract_from bs_extract bs_append

set_option maxRecDepth 100000 in
set_option maxHeartbeats 8000000 in
theorem r26_without (su : List Sb) (sn : Int) (sv : Value) (w : World) (w0 : World) (hs : SbsAt w0 sv su) (hb0 : Below w0.heap.size w0 w) (h16 : su.length ≤ 16) :
    Calls Tryz.prog 132 #[sv, .int .i64 sn] w fun e w' => ∃ pp cc L, e = .returned (.slice pp L.length cc) ∧ OwnR encS 4 w.heap.size 58 w' pp cc L ∧ HasG w0 L ∧ L.map (·.1) = dropL su sn ∧ Below w.heap.size w w' := by
  have H16 := Lib.hid h16; clear h16
  have HB0 := Lib.hid hb0; clear hb0
  obtain ⟨i0, hi, hz0, hz1, hz2⟩ := info_parts info_sub
  obtain ⟨p, c, rfl, -, hv1⟩ := hs
  have hv2 := Lib.hid hv1; clear hv1
  have HB := Lib.hid (Below.refl w.heap.size w)
  go_enter Tryz.func132, Tryz.ntmps132
  go_wp2_with fail
  go_loopw [5, 6] (fun s i wr => ∃ (k r : Nat) (pp : Option Addr) (cc : Nat) (L : List (Sb × Value)), i = .int .i64 (k : Int) ∧ s = .slice pp L.length cc ∧ Hid (k + r = su.length) ∧ Hid (Below w.heap.size w wr) ∧ Hid (OwnR encS 4 w.heap.size 58 wr pp cc L) ∧ Hid (∀ x ∈ L, GnsAt w0 x.2 x.1.gs) ∧ Hid (L.map (·.1) = dropL (su.take k) sn)) (fun _ i _ => su.length - (intOf i).toNat)
  case atStart => exact ⟨0, su.length, none, 0, [], rfl, rfl, Lib.hid (by omega), HB, Lib.hid (OwnR.nil _ _ _), Lib.hid (fun x h => by cases h), Lib.hid rfl⟩
  case round =>
    obtain ⟨k, r, pp, cc, L, rfl, rfl, hkr, HB2, HO2, HGA2, HL2⟩ := hrel
    clear HB
    have HB := HB2; have HO := HO2; have HGA := HGA2; have HL := HL2; clear HB2 HO2 HGA2 HL2
    cases r with
    | zero =>
      have hlt : ¬ (k : Int) < (su.length : Int) := by have := hkr.out; omega
      have HE : Hid (L.map (·.1) = dropL su sn) := by show _ = _; rw [HL.out, List.take_of_length_le (by have := hkr.out; omega)]
      go_wp2_with fail
      go_ret
      exact ⟨pp, cc, L, rfl, HO.out, HGA.out, HE.out, HB.out⟩
    | succ r =>
      have hkl : k < su.length := by have := hkr.out; omega
      have h16 := H16.out
      have hlt : (k : Int) < (su.length : Int) := by omega
      have hun : IntKind.i64.wrap ((k : Int) + 1) = (k : Int) + 1 := IntWalk.i64_in _ (by omega)
      obtain ⟨b, o, rfl, hb, hC⟩ := hv2.out (fun h => by subst h; simp at hkl)
      have HBW : Hid (Below w0.heap.size w0 wr) := Lib.hid (bch' HB0.out HB.out)
      obtain ⟨gv, gn, hgn⟩ : ∃ gv, w0.cell? ⟨b, o + k * 4 + 3, none⟩ = some gv ∧ GnsAt w0 gv (sbv su k).gs := by obtain ⟨-, -, -, gv, h1, h2⟩ := hC k hkl; exact ⟨gv, h1, h2⟩
      obtain ⟨x1, x2, x3, -⟩ := hC.below HBW.out hb k hkl
      have x4 := (HBW.out.cell (p := ⟨b, o + k * 4 + 3, none⟩) hb).trans gn
      clear hC gn
      have HGN := Lib.hid hgn
      obtain ⟨pg, cg, rfl, -, -⟩ := hgn
      have hbr : b < wr.heap.size := by have := HBW.out.size; omega
      have HLN : Hid (L.length ≤ 17) := Lib.hid (by rw [maps_len HL.out]; have := drop_few (k := k) sn h16; omega)
      clear h16
      by_cases e : (sbv su k).nu = sn
      · have HL3 : Hid (L.map (·.1) = dropL (su.take (k + 1)) sn) := by show _ = _; rw [HL.out, drop_succ sn hkl, dropP_eq e]; simp
        have hq : ((((sbv su k).nu : Int)) != sn) = false := by simpa using e
        clear e
        go_wp2_with fail
        go_roundw
        case rel => exact ⟨k + 1, r, pp, cc, L, by first | rfl | simp, by first | rfl | simp, Lib.hid (by have := hkr.out; omega), HB, HO, HGA, HL3⟩
        case measure => first | (simp [intOf]; done) | (simp [intOf]; omega)
      · have HL3 : Hid ((L ++ [(sbv su k, (Value.slice pg (sbv su k).gs.length cg))]).map (·.1) = dropL (su.take (k + 1)) sn) := by show _ = _; rw [List.map_append, HL.out, drop_succ sn hkl, dropP_ne e]; rfl
        have hq : ((((sbv su k).nu : Int)) != sn) = true := by simpa using e
        clear e
        go_wp2_with (first | (at_builtin; refine wpList_appR2 rfl _ _ 25 rfl w.heap.size 58 i0 (.agg #[.int .i64 0, .int .i64 0, .bool false, .slice none 0 0]) 48 Tryz.underlying25 hi hz0 hz1 hz2 rfl (by decide) (by decide) pp cc L.length L rfl _ (sbv su k, (Value.slice pg (sbv su k).gs.length cg)) wr.heap.size rfl (fun j u hu => cell_new_of wr 58 (by simpa [encS] using hu)) (encS_one HGN.out) rfl (HO.out.keep ((Below.refl _ wr).alloc (Nat.le_refl _) _)) rfl (by have := HLN.out; omega) (by have := HB.out.size; rw [World.size_alloc]; omega) ?_; intro p1 c1 w3 hO3 hb3 hk3; have HO3 := Lib.hid hO3; have HB3 := Lib.hid hb3; clear hO3 hb3 hk3))
        go_roundw
        case rel => exact ⟨k + 1, r, p1, c1, L ++ [(sbv su k, (Value.slice pg (sbv su k).gs.length cg))], by first | rfl | simp, by simp, Lib.hid (by have := hkr.out; omega), Lib.hid (HB.out.trans (((Below.refl _ wr).alloc (by have := HB.out.size; omega) _).trans HB3.out)), HO3, Lib.hid (fun x hx => by rcases List.mem_append.1 hx with h | h; exact HGA.out x h; rw [List.mem_singleton.1 h]; exact HGN.out), HL3⟩
        case measure => first | (simp [intOf]; done) | (simp [intOf]; omega)

set_option maxRecDepth 100000 in
set_option maxHeartbeats 4000000 in
theorem r30_freed_five (tz st ti : Int) (bl : Bool) (fr : Txt) (w : World) (ps pf : Option Addr) (zs zf : Nat) (su : List Sb) (fd : List Fdr) (sn : Int) :
    Calls Tryz.prog 85 #[.agg #[.string ⟨(fr).toArray⟩, .int .i64 tz, .int .i64 st, .int .i64 ti, .bool (bl), (.slice ps su.length zs), (.slice pf fd.length zf)], .agg #[.int .i64 5, .int .i64 sn]] w fun e w' => e = .returned (.agg #[.string ⟨#[54, 53, 53, 51, 53]⟩, .int .i64 65535, .int .i64 0, .int .i64 0, .bool (bl), (.slice ps su.length zs), (.slice pf fd.length zf)]) ∧ Below w.heap.size w w' := by
  have hal := ((((Below.refl w.heap.size w).alloc (Nat.le_refl _) (.cells #[.string ⟨(fr).toArray⟩, .int .i64 tz, .int .i64 st, .int .i64 ti, .bool (bl), (.slice ps su.length zs), (.slice pf fd.length zf)] 32)).alloc (by simp) (.cells #[.int .i64 5, .int .i64 sn] 43)).alloc (by rw [World.size_alloc, World.size_alloc]; omega) (.cells #[.string ⟨#[]⟩, .int .i64 0, .int .i64 0, .int .i64 0, .bool false, .slice none 0 0, .slice none 0 0] 32))
  have HB := Lib.hid hal
  have hk := ((Blk.new (w) 32 #[.string ⟨(fr).toArray⟩, .int .i64 tz, .int .i64 st, .int .i64 ti, .bool (bl), (.slice ps su.length zs), (.slice pf fd.length zf)]).alloc (.cells #[.int .i64 5, .int .i64 sn] 43)).alloc (.cells #[.string ⟨#[]⟩, .int .i64 0, .int .i64 0, .int .i64 0, .bool false, .slice none 0 0, .slice none 0 0] 32)
  have HK := Lib.hid hk; clear hk
  have hx := (Blk.new (w.alloc (.cells #[.string ⟨(fr).toArray⟩, .int .i64 tz, .int .i64 st, .int .i64 ti, .bool (bl), (.slice ps su.length zs), (.slice pf fd.length zf)] 32)) 43 #[.int .i64 5, .int .i64 sn]).alloc (.cells #[.string ⟨#[]⟩, .int .i64 0, .int .i64 0, .int .i64 0, .bool false, .slice none 0 0, .slice none 0 0] 32)
  simp only [World.size_alloc] at hx
  have HX := Lib.hid hx; clear hx
  have hr := Blk.new ((w.alloc (.cells #[.string ⟨(fr).toArray⟩, .int .i64 tz, .int .i64 st, .int .i64 ti, .bool (bl), (.slice ps su.length zs), (.slice pf fd.length zf)] 32)).alloc (.cells #[.int .i64 5, .int .i64 sn] 43)) 32 #[.string ⟨#[]⟩, .int .i64 0, .int .i64 0, .int .i64 0, .bool false, .slice none 0 0, .slice none 0 0]
  simp only [World.size_alloc] at hr
  have HR := Lib.hid hr; clear hr
  obtain ⟨k0, k1, k2, k3, k4, k5, k6, kf0, kf1, kf2, kf3, kf4, kf5, kf6⟩ := HK.out.c7
  obtain ⟨x0, x1, xf0, xf1⟩ := HX.out.c2
  obtain ⟨r0, r1, r2, r3, r4, r5, r6, rf0, rf1, rf2, rf3, rf4, rf5, rf6⟩ := HR.out.c7
  clear hal
  have hfu := fun W => r3_full W
  have HFU := Lib.hid hfu; clear hfu
  go_enter Tryz.func85, Tryz.ntmps85
  go_upto_region 8 with (first | (with_reducible refine ((HFU.out _).mono ?_); rintro e w' ⟨rfl, hb⟩; replace HK := Lib.hid (HK.out.keep hb); clear k0 k1 k2 k3 k4 k5 k6 kf0 kf1 kf2 kf3 kf4 kf5 kf6; replace HX := Lib.hid (HX.out.keep hb); clear x0 x1 xf0 xf1; replace HR := Lib.hid (HR.out.keep hb); clear r0 r1 r2 r3 r4 r5 r6 rf0 rf1 rf2 rf3 rf4 rf5 rf6; replace HB := Lib.hid (bch' HB.out hb); clear hb; obtain ⟨k0, k1, k2, k3, k4, k5, k6, kf0, kf1, kf2, kf3, kf4, kf5, kf6⟩ := HK.out.c7; obtain ⟨x0, x1, xf0, xf1⟩ := HX.out.c2; obtain ⟨r0, r1, r2, r3, r4, r5, r6, rf0, rf1, rf2, rf3, rf4, rf5, rf6⟩ := HR.out.c7))
  have HK2 := Lib.hid (HK.out.gl7 (.string ⟨#[54, 53, 53, 51, 53]⟩) (.int .i64 65535) (.int .i64 0) (.int .i64 0))
  have HR2 := Lib.hid (Blk.far4 HR.out (show w.heap.size + 1 + 1 ≠ w.heap.size by omega) (.string ⟨#[54, 53, 53, 51, 53]⟩) (.int .i64 65535) (.int .i64 0) (.int .i64 0))
  have HB2 := Lib.hid (bset4 HB.out (Nat.le_refl _) (.string ⟨#[54, 53, 53, 51, 53]⟩) (.int .i64 65535) (.int .i64 0) (.int .i64 0))
  clear k0 k1 k2 k3 k4 k5 k6 kf0 kf1 kf2 kf3 kf4 kf5 kf6; clear x0 x1 xf0 xf1; clear r0 r1 r2 r3 r4 r5 r6 rf0 rf1 rf2 rf3 rf4 rf5 rf6
  clear HK HR HB HX
  generalize ((((w'.setCell ⟨w.heap.size, 0, none⟩ (.string ⟨#[54, 53, 53, 51, 53]⟩)).setCell ⟨w.heap.size, 1, none⟩ (.int .i64 65535)).setCell ⟨w.heap.size, 2, none⟩ (.int .i64 0)).setCell ⟨w.heap.size, 3, none⟩ (.int .i64 0)) = w6 at *
  have HK : Hid (Blk w6 w.heap.size 32 #[.string ⟨#[54, 53, 53, 51, 53]⟩, .int .i64 65535, .int .i64 0, .int .i64 0, .bool (bl), (.slice ps su.length zs), (.slice pf fd.length zf)]) := HK2; have HR := HR2; have HB := HB2; clear HK2 HR2 HB2
  obtain ⟨k0, k1, k2, k3, k4, k5, k6, kf0, kf1, kf2, kf3, kf4, kf5, kf6⟩ := HK.out.c7
  obtain ⟨r0, r1, r2, r3, r4, r5, r6, rf0, rf1, rf2, rf3, rf4, rf5, rf6⟩ := HR.out.c7
  go_wp2_with fail
  refine bodyPost_ret_by (v := .agg #[.string ⟨#[54, 53, 53, 51, 53]⟩, .int .i64 65535, .int .i64 0, .int .i64 0, .bool (bl), (.slice ps su.length zs), (.slice pf fd.length zf)]) (by simp [results, Tryz.f85, go_sem, r0, r1, r2, r3, r4, r5, r6, rf0, rf1, rf2, rf3, rf4, rf5, rf6]) rfl ⟨rfl, ?_⟩
  exact (((((((HB.out.setCell (show w.heap.size ≤ w.heap.size + 1 + 1 by omega) _).setCell (show w.heap.size ≤ w.heap.size + 1 + 1 by omega) _).setCell (show w.heap.size ≤ w.heap.size + 1 + 1 by omega) _).setCell (show w.heap.size ≤ w.heap.size + 1 + 1 by omega) _).setCell (show w.heap.size ≤ w.heap.size + 1 + 1 by omega) _).setCell (show w.heap.size ≤ w.heap.size + 1 + 1 by omega) _).setCell (show w.heap.size ≤ w.heap.size + 1 + 1 by omega) _)

set_option maxRecDepth 100000 in
set_option maxHeartbeats 4000000 in
theorem r30_freed_six (tz st ti : Int) (bl : Bool) (fr : Txt) (w : World) (ps pf : Option Addr) (zs zf : Nat) (su : List Sb) (fd : List Fdr) (sn : Int) :
    Calls Tryz.prog 85 #[.agg #[.string ⟨(fr).toArray⟩, .int .i64 tz, .int .i64 st, .int .i64 ti, .bool (bl), (.slice ps su.length zs), (.slice pf fd.length zf)], .agg #[.int .i64 6, .int .i64 sn]] w fun e w' => e = .returned (.agg #[.string ⟨(fr).toArray⟩, .int .i64 tz, .int .i64 st, .int .i64 ti, .bool false, (.slice ps su.length zs), (.slice pf fd.length zf)]) ∧ Below w.heap.size w w' := by
  have hal := ((((Below.refl w.heap.size w).alloc (Nat.le_refl _) (.cells #[.string ⟨(fr).toArray⟩, .int .i64 tz, .int .i64 st, .int .i64 ti, .bool (bl), (.slice ps su.length zs), (.slice pf fd.length zf)] 32)).alloc (by simp) (.cells #[.int .i64 6, .int .i64 sn] 43)).alloc (by rw [World.size_alloc, World.size_alloc]; omega) (.cells #[.string ⟨#[]⟩, .int .i64 0, .int .i64 0, .int .i64 0, .bool false, .slice none 0 0, .slice none 0 0] 32))
  have HB := Lib.hid hal
  have hk := ((Blk.new (w) 32 #[.string ⟨(fr).toArray⟩, .int .i64 tz, .int .i64 st, .int .i64 ti, .bool (bl), (.slice ps su.length zs), (.slice pf fd.length zf)]).alloc (.cells #[.int .i64 6, .int .i64 sn] 43)).alloc (.cells #[.string ⟨#[]⟩, .int .i64 0, .int .i64 0, .int .i64 0, .bool false, .slice none 0 0, .slice none 0 0] 32)
  have HK := Lib.hid hk; clear hk
  have hx := (Blk.new (w.alloc (.cells #[.string ⟨(fr).toArray⟩, .int .i64 tz, .int .i64 st, .int .i64 ti, .bool (bl), (.slice ps su.length zs), (.slice pf fd.length zf)] 32)) 43 #[.int .i64 6, .int .i64 sn]).alloc (.cells #[.string ⟨#[]⟩, .int .i64 0, .int .i64 0, .int .i64 0, .bool false, .slice none 0 0, .slice none 0 0] 32)
  simp only [World.size_alloc] at hx
  have HX := Lib.hid hx; clear hx
  have hr := Blk.new ((w.alloc (.cells #[.string ⟨(fr).toArray⟩, .int .i64 tz, .int .i64 st, .int .i64 ti, .bool (bl), (.slice ps su.length zs), (.slice pf fd.length zf)] 32)).alloc (.cells #[.int .i64 6, .int .i64 sn] 43)) 32 #[.string ⟨#[]⟩, .int .i64 0, .int .i64 0, .int .i64 0, .bool false, .slice none 0 0, .slice none 0 0]
  simp only [World.size_alloc] at hr
  have HR := Lib.hid hr; clear hr
  obtain ⟨k0, k1, k2, k3, k4, k5, k6, kf0, kf1, kf2, kf3, kf4, kf5, kf6⟩ := HK.out.c7
  obtain ⟨x0, x1, xf0, xf1⟩ := HX.out.c2
  obtain ⟨r0, r1, r2, r3, r4, r5, r6, rf0, rf1, rf2, rf3, rf4, rf5, rf6⟩ := HR.out.c7
  clear hal
  go_enter Tryz.func85, Tryz.ntmps85
  go_upto_region 1 with fail
  generalize ((w.alloc (.cells #[.string ⟨(fr).toArray⟩, .int .i64 tz, .int .i64 st, .int .i64 ti, .bool (bl), (.slice ps su.length zs), (.slice pf fd.length zf)] 32)).alloc (.cells #[.int .i64 6, .int .i64 sn] 43)).alloc (.cells #[.string ⟨#[]⟩, .int .i64 0, .int .i64 0, .int .i64 0, .bool false, .slice none 0 0, .slice none 0 0] 32) = w5 at *
  go_upto_region 8 with fail
  have HK2 := Lib.hid (HK.out.set_ 4 (.bool false))
  have HR2 := Lib.hid (HR.out.far (p := ⟨w.heap.size, 4, none⟩) (show w.heap.size + 1 + 1 ≠ w.heap.size by omega) (.bool false))
  have HB2 := Lib.hid (HB.out.setCell (p := ⟨w.heap.size, 4, none⟩) (Nat.le_refl _) (.bool false))
  clear k0 k1 k2 k3 k4 k5 k6 kf0 kf1 kf2 kf3 kf4 kf5 kf6; clear x0 x1 xf0 xf1; clear r0 r1 r2 r3 r4 r5 r6 rf0 rf1 rf2 rf3 rf4 rf5 rf6
  clear HK HR HB HX
  generalize w5.setCell ⟨w.heap.size, 4, none⟩ (.bool false) = w6 at *
  have HK : Hid (Blk w6 w.heap.size 32 #[.string ⟨(fr).toArray⟩, .int .i64 tz, .int .i64 st, .int .i64 ti, .bool false, (.slice ps su.length zs), (.slice pf fd.length zf)]) := HK2; have HR := HR2; have HB := HB2; clear HK2 HR2 HB2
  obtain ⟨k0, k1, k2, k3, k4, k5, k6, kf0, kf1, kf2, kf3, kf4, kf5, kf6⟩ := HK.out.c7
  obtain ⟨r0, r1, r2, r3, r4, r5, r6, rf0, rf1, rf2, rf3, rf4, rf5, rf6⟩ := HR.out.c7
  go_wp2_with fail
  refine bodyPost_ret_by (v := .agg #[.string ⟨(fr).toArray⟩, .int .i64 tz, .int .i64 st, .int .i64 ti, .bool false, (.slice ps su.length zs), (.slice pf fd.length zf)]) (by simp [results, Tryz.f85, go_sem, r0, r1, r2, r3, r4, r5, r6, rf0, rf1, rf2, rf3, rf4, rf5, rf6]) rfl ⟨rfl, ?_⟩
  exact (((((((HB.out.setCell (show w.heap.size ≤ w.heap.size + 1 + 1 by omega) _).setCell (show w.heap.size ≤ w.heap.size + 1 + 1 by omega) _).setCell (show w.heap.size ≤ w.heap.size + 1 + 1 by omega) _).setCell (show w.heap.size ≤ w.heap.size + 1 + 1 by omega) _).setCell (show w.heap.size ≤ w.heap.size + 1 + 1 by omega) _).setCell (show w.heap.size ≤ w.heap.size + 1 + 1 by omega) _).setCell (show w.heap.size ≤ w.heap.size + 1 + 1 by omega) _)

set_option maxRecDepth 100000 in
set_option maxHeartbeats 4000000 in
theorem r30_freed_seven (tz st ti : Int) (bl : Bool) (fr : Txt) (w : World) (ps pf : Option Addr) (zs zf : Nat) (su : List Sb) (fd : List Fdr) (sn : Int) (w0 : World) (hs : SbsAt w0 (.slice ps su.length zs) su) (hb0 : Below w0.heap.size w0 w) (h16 : su.length ≤ 16) :
    Calls Tryz.prog 85 #[.agg #[.string ⟨(fr).toArray⟩, .int .i64 tz, .int .i64 st, .int .i64 ti, .bool (bl), (.slice ps su.length zs), (.slice pf fd.length zf)], .agg #[.int .i64 7, .int .i64 sn]] w fun e w' => ∃ pp cc L, e = .returned (.agg #[.string ⟨(fr).toArray⟩, .int .i64 tz, .int .i64 st, .int .i64 ti, .bool (bl), .slice pp L.length cc, (.slice pf fd.length zf)]) ∧ OwnR encS 4 w.heap.size 58 w' pp cc L ∧ HasG w0 L ∧ L.map (·.1) = dropL su sn ∧ Below w.heap.size w w' := by
  have HB00 := Lib.hid hb0; clear hb0
  have HS0 := Lib.hid hs; clear hs
  have hal := ((((Below.refl w.heap.size w).alloc (Nat.le_refl _) (.cells #[.string ⟨(fr).toArray⟩, .int .i64 tz, .int .i64 st, .int .i64 ti, .bool (bl), (.slice ps su.length zs), (.slice pf fd.length zf)] 32)).alloc (by simp) (.cells #[.int .i64 7, .int .i64 sn] 43)).alloc (by rw [World.size_alloc, World.size_alloc]; omega) (.cells #[.string ⟨#[]⟩, .int .i64 0, .int .i64 0, .int .i64 0, .bool false, .slice none 0 0, .slice none 0 0] 32))
  have HB := Lib.hid hal
  have hk := ((Blk.new (w) 32 #[.string ⟨(fr).toArray⟩, .int .i64 tz, .int .i64 st, .int .i64 ti, .bool (bl), (.slice ps su.length zs), (.slice pf fd.length zf)]).alloc (.cells #[.int .i64 7, .int .i64 sn] 43)).alloc (.cells #[.string ⟨#[]⟩, .int .i64 0, .int .i64 0, .int .i64 0, .bool false, .slice none 0 0, .slice none 0 0] 32)
  have HK := Lib.hid hk; clear hk
  have hx := (Blk.new (w.alloc (.cells #[.string ⟨(fr).toArray⟩, .int .i64 tz, .int .i64 st, .int .i64 ti, .bool (bl), (.slice ps su.length zs), (.slice pf fd.length zf)] 32)) 43 #[.int .i64 7, .int .i64 sn]).alloc (.cells #[.string ⟨#[]⟩, .int .i64 0, .int .i64 0, .int .i64 0, .bool false, .slice none 0 0, .slice none 0 0] 32)
  simp only [World.size_alloc] at hx
  have HX := Lib.hid hx; clear hx
  have hr := Blk.new ((w.alloc (.cells #[.string ⟨(fr).toArray⟩, .int .i64 tz, .int .i64 st, .int .i64 ti, .bool (bl), (.slice ps su.length zs), (.slice pf fd.length zf)] 32)).alloc (.cells #[.int .i64 7, .int .i64 sn] 43)) 32 #[.string ⟨#[]⟩, .int .i64 0, .int .i64 0, .int .i64 0, .bool false, .slice none 0 0, .slice none 0 0]
  simp only [World.size_alloc] at hr
  have HR := Lib.hid hr; clear hr
  obtain ⟨k0, k1, k2, k3, k4, k5, k6, kf0, kf1, kf2, kf3, kf4, kf5, kf6⟩ := HK.out.c7
  obtain ⟨x0, x1, xf0, xf1⟩ := HX.out.c2
  obtain ⟨r0, r1, r2, r3, r4, r5, r6, rf0, rf1, rf2, rf3, rf4, rf5, rf6⟩ := HR.out.c7
  have HB0 := Lib.hid (bch' HB00.out hal)
  clear hal
  have hwo := fun W (h : Below w0.heap.size w0 W) => r26_without su sn (.slice ps su.length zs) W w0 HS0.out h h16
  have HWO := Lib.hid hwo; clear hwo
  go_enter Tryz.func85, Tryz.ntmps85
  go_wp2_with fail
  refine ((HWO.out _ HB0.out).mono ?_)
  rintro e w' ⟨pp, cc, L, rfl, hO, hga, hle, hb⟩
  have HO := Lib.hid hO; have HGA := Lib.hid hga; have HLE := Lib.hid hle; clear hO hga hle
  have HB0S : Hid (w.heap.size + 1 + 1 < (((w.alloc (.cells #[.string ⟨(fr).toArray⟩, .int .i64 tz, .int .i64 st, .int .i64 ti, .bool (bl), (.slice ps su.length zs), (.slice pf fd.length zf)] 32)).alloc (.cells #[.int .i64 7, .int .i64 sn] 43)).alloc (.cells #[.string ⟨#[]⟩, .int .i64 0, .int .i64 0, .int .i64 0, .bool false, .slice none 0 0, .slice none 0 0] 32)).heap.size) := Lib.hid (by simp)
  replace HK := Lib.hid (HK.out.keep hb); clear k0 k1 k2 k3 k4 k5 k6 kf0 kf1 kf2 kf3 kf4 kf5 kf6; replace HX := Lib.hid (HX.out.keep hb); clear x0 x1 xf0 xf1; replace HR := Lib.hid (HR.out.keep hb); clear r0 r1 r2 r3 r4 r5 r6 rf0 rf1 rf2 rf3 rf4 rf5 rf6; replace HB := Lib.hid (bch' HB.out hb); clear hb; obtain ⟨k0, k1, k2, k3, k4, k5, k6, kf0, kf1, kf2, kf3, kf4, kf5, kf6⟩ := HK.out.c7; obtain ⟨x0, x1, xf0, xf1⟩ := HX.out.c2; obtain ⟨r0, r1, r2, r3, r4, r5, r6, rf0, rf1, rf2, rf3, rf4, rf5, rf6⟩ := HR.out.c7
  generalize (((w.alloc (.cells #[.string ⟨(fr).toArray⟩, .int .i64 tz, .int .i64 st, .int .i64 ti, .bool (bl), (.slice ps su.length zs), (.slice pf fd.length zf)] 32)).alloc (.cells #[.int .i64 7, .int .i64 sn] 43)).alloc (.cells #[.string ⟨#[]⟩, .int .i64 0, .int .i64 0, .int .i64 0, .bool false, .slice none 0 0, .slice none 0 0] 32)).heap.size = B1 at HO HB0S
  go_upto_region 8 with fail
  have HN1 := Lib.hid (far_set (B := B1) (w := w') (w' := w') (fun _ _ => rfl) (p := ⟨w.heap.size, 5, none⟩) (by have := HB0S.out; show w.heap.size < _; omega) (.slice pp L.length cc))
  have HK2 := Lib.hid (HK.out.set_ 5 (.slice pp L.length cc))
  have HR2 := Lib.hid (HR.out.far (p := ⟨w.heap.size, 5, none⟩) (show w.heap.size + 1 + 1 ≠ w.heap.size by omega) (.slice pp L.length cc))
  have HB2 := Lib.hid (HB.out.setCell (p := ⟨w.heap.size, 5, none⟩) (Nat.le_refl _) (.slice pp L.length cc))
  clear k0 k1 k2 k3 k4 k5 k6 kf0 kf1 kf2 kf3 kf4 kf5 kf6; clear x0 x1 xf0 xf1; clear r0 r1 r2 r3 r4 r5 r6 rf0 rf1 rf2 rf3 rf4 rf5 rf6
  clear HK HR HB HX
  generalize w'.setCell ⟨w.heap.size, 5, none⟩ (.slice pp L.length cc) = w6 at *
  have HK : Hid (Blk w6 w.heap.size 32 #[.string ⟨(fr).toArray⟩, .int .i64 tz, .int .i64 st, .int .i64 ti, .bool (bl), .slice pp L.length cc, (.slice pf fd.length zf)]) := HK2; have HR := HR2; have HB := HB2; clear HK2 HR2 HB2
  obtain ⟨k0, k1, k2, k3, k4, k5, k6, kf0, kf1, kf2, kf3, kf4, kf5, kf6⟩ := HK.out.c7
  obtain ⟨r0, r1, r2, r3, r4, r5, r6, rf0, rf1, rf2, rf3, rf4, rf5, rf6⟩ := HR.out.c7
  go_wp2_with fail
  refine bodyPost_ret_by (v := .agg #[.string ⟨(fr).toArray⟩, .int .i64 tz, .int .i64 st, .int .i64 ti, .bool (bl), .slice pp L.length cc, (.slice pf fd.length zf)]) (by simp [results, Tryz.f85, go_sem, r0, r1, r2, r3, r4, r5, r6, rf0, rf1, rf2, rf3, rf4, rf5, rf6]) rfl ⟨pp, cc, L, rfl, ?_, HGA.out, HLE.out, ?_⟩
  · exact (HO.out.far (far_set7 HN1.out (n := w.heap.size + 1 + 1) HB0S.out (.string ⟨(fr).toArray⟩) (.int .i64 tz) (.int .i64 st) (.int .i64 ti) (.bool (bl)) (.slice pp L.length cc) ((.slice pf fd.length zf)))).base (by have := HB0S.out; omega)
  · exact (((((((HB.out.setCell (show w.heap.size ≤ w.heap.size + 1 + 1 by omega) _).setCell (show w.heap.size ≤ w.heap.size + 1 + 1 by omega) _).setCell (show w.heap.size ≤ w.heap.size + 1 + 1 by omega) _).setCell (show w.heap.size ≤ w.heap.size + 1 + 1 by omega) _).setCell (show w.heap.size ≤ w.heap.size + 1 + 1 by omega) _).setCell (show w.heap.size ≤ w.heap.size + 1 + 1 by omega) _).setCell (show w.heap.size ≤ w.heap.size + 1 + 1 by omega) _)

set_option maxRecDepth 100000 in
set_option maxHeartbeats 4000000 in
theorem r30_mwo_bad (tz st ti : Int) (bl : Bool) (fr : Txt) (sv fv : Value) (su : List Sb) (fd : List Fdr) (sk sn : Int) (w : World) (hs : SbsAt w sv su) (hf : FdsAt w fv fd) (hx : fr.length ≤ 60) (hl : ∀ i, i < fd.length → (fdv fd i).fr.length ≤ 60) (hk7 : maE fr tz st ti su fd = 0 → sk ≠ 7) (hz : ¬ wfE fr tz st ti su fd sk sn = 0) :
    Calls Tryz.prog 23 #[.agg #[.string ⟨(fr).toArray⟩, .int .i64 tz, .int .i64 st, .int .i64 ti, .bool (bl), sv, fv], .agg #[.int .i64 sk, .int .i64 sn]] w fun e w' => e = .returned (.tuple #[.agg #[.string ⟨#[]⟩, .int .i64 0, .int .i64 0, .int .i64 0, .bool false, .slice none 0 0, .slice none 0 0], .int .i64 (wfE fr tz st ti su fd sk sn)]) ∧ Below w.heap.size w w' := by
  obtain ⟨ps, zs, rfl⟩ : ∃ ps zs, sv = .slice ps su.length zs := by obtain ⟨a, b, e, -⟩ := hs; exact ⟨a, b, e⟩
  obtain ⟨pf, zf, rfl⟩ : ∃ pf zf, fv = .slice pf fd.length zf := by obtain ⟨a, b, e, -⟩ := hf; exact ⟨a, b, e⟩
  have hal := ((((Below.refl w.heap.size w).alloc (Nat.le_refl _) (.cells #[.string ⟨(fr).toArray⟩, .int .i64 tz, .int .i64 st, .int .i64 ti, .bool (bl), (.slice ps su.length zs), (.slice pf fd.length zf)] 32)).alloc (by simp) (.cells #[.int .i64 sk, .int .i64 sn] 43)).alloc (by rw [World.size_alloc, World.size_alloc]; omega) (.cells #[.string ⟨#[]⟩, .int .i64 0, .int .i64 0, .int .i64 0, .bool false, .slice none 0 0, .slice none 0 0] 32))
  have HB := Lib.hid hal
  have hk := ((Blk.new (w) 32 #[.string ⟨(fr).toArray⟩, .int .i64 tz, .int .i64 st, .int .i64 ti, .bool (bl), (.slice ps su.length zs), (.slice pf fd.length zf)]).alloc (.cells #[.int .i64 sk, .int .i64 sn] 43)).alloc (.cells #[.string ⟨#[]⟩, .int .i64 0, .int .i64 0, .int .i64 0, .bool false, .slice none 0 0, .slice none 0 0] 32)
  have HK := Lib.hid hk; clear hk
  have hx := (Blk.new (w.alloc (.cells #[.string ⟨(fr).toArray⟩, .int .i64 tz, .int .i64 st, .int .i64 ti, .bool (bl), (.slice ps su.length zs), (.slice pf fd.length zf)] 32)) 43 #[.int .i64 sk, .int .i64 sn]).alloc (.cells #[.string ⟨#[]⟩, .int .i64 0, .int .i64 0, .int .i64 0, .bool false, .slice none 0 0, .slice none 0 0] 32)
  simp only [World.size_alloc] at hx
  have HX := Lib.hid hx; clear hx
  have hr := Blk.new ((w.alloc (.cells #[.string ⟨(fr).toArray⟩, .int .i64 tz, .int .i64 st, .int .i64 ti, .bool (bl), (.slice ps su.length zs), (.slice pf fd.length zf)] 32)).alloc (.cells #[.int .i64 sk, .int .i64 sn] 43)) 32 #[.string ⟨#[]⟩, .int .i64 0, .int .i64 0, .int .i64 0, .bool false, .slice none 0 0, .slice none 0 0]
  simp only [World.size_alloc] at hr
  have HR := Lib.hid hr; clear hr
  obtain ⟨k0, k1, k2, k3, k4, k5, k6, kf0, kf1, kf2, kf3, kf4, kf5, kf6⟩ := HK.out.c7
  obtain ⟨x0, x1, xf0, xf1⟩ := HX.out.c2
  obtain ⟨r0, r1, r2, r3, r4, r5, r6, rf0, rf1, rf2, rf3, rf4, rf5, rf6⟩ := HR.out.c7
  have HS := Lib.hid (SbsAt.kept hs hal)
  have HF := Lib.hid (FdsAt.kept hf hal)
  clear hal
  clear hs hf
  have hc := fun W (h1 : SbsAt W (.slice ps su.length zs) su) (h2 : FdsAt W (.slice pf fd.length zf) fd) => r30_check tz st ti bl fr (.slice ps su.length zs) (.slice pf fd.length zf) su fd W h1 h2 (by omega) (fun i hi => Nat.le_trans (hl i hi) (by omega))
  by_cases h0 : maE fr tz st ti su fd = 0
  · rw [h0] at hc
    rw [wfE_wo h0] at hz ⊢
    have H0 := Lib.hid h0
    clear h0
    by_cases h7 : sk = 7
    · subst h7
      exact absurd rfl (hk7 H0.out)
    · by_cases h5 : sk = 5 ∨ sk = 6
      · have hn : ¬ sn = 0 := fun h => hz (woE_zero h5 h)
        rw [woE_main h5 hn]
        have hne : ((sn : Int) != 0) = true := by simpa using hn
        clear hz hn h7 hl hk7
        have HC := Lib.hid hc; clear hc
        rcases h5 with rfl | rfl
        · go_enter Tryz.func23, Tryz.ntmps23
          go_wp2_with (first | (with_reducible refine ((HC.out _ HS.out HF.out).mono ?_); rintro e w' ⟨rfl, hb⟩; replace HK := Lib.hid (HK.out.keep hb); clear k0 k1 k2 k3 k4 k5 k6 kf0 kf1 kf2 kf3 kf4 kf5 kf6; replace HX := Lib.hid (HX.out.keep hb); clear x0 x1 xf0 xf1; replace HR := Lib.hid (HR.out.keep hb); clear r0 r1 r2 r3 r4 r5 r6 rf0 rf1 rf2 rf3 rf4 rf5 rf6; replace HS := Lib.hid (SbsAt.kept HS.out hb); replace HF := Lib.hid (FdsAt.kept HF.out hb); replace HB := Lib.hid (bch' HB.out hb); clear hb; obtain ⟨k0, k1, k2, k3, k4, k5, k6, kf0, kf1, kf2, kf3, kf4, kf5, kf6⟩ := HK.out.c7; obtain ⟨x0, x1, xf0, xf1⟩ := HX.out.c2; obtain ⟨r0, r1, r2, r3, r4, r5, r6, rf0, rf1, rf2, rf3, rf4, rf5, rf6⟩ := HR.out.c7))
          refine bodyPost_ret_by (v := .tuple #[.agg #[.string ⟨#[]⟩, .int .i64 0, .int .i64 0, .int .i64 0, .bool false, .slice none 0 0, .slice none 0 0], .int .i64 2]) (by simp [results, Tryz.f23, go_sem, r0, r1, r2, r3, r4, r5, r6, rf0, rf1, rf2, rf3, rf4, rf5, rf6]) rfl ⟨rfl, ?_⟩
          exact (((((((HB.out.setCell (show w.heap.size ≤ w.heap.size + 1 + 1 by omega) _).setCell (show w.heap.size ≤ w.heap.size + 1 + 1 by omega) _).setCell (show w.heap.size ≤ w.heap.size + 1 + 1 by omega) _).setCell (show w.heap.size ≤ w.heap.size + 1 + 1 by omega) _).setCell (show w.heap.size ≤ w.heap.size + 1 + 1 by omega) _).setCell (show w.heap.size ≤ w.heap.size + 1 + 1 by omega) _).setCell (show w.heap.size ≤ w.heap.size + 1 + 1 by omega) _)
        · go_enter Tryz.func23, Tryz.ntmps23
          go_wp2_with (first | (with_reducible refine ((HC.out _ HS.out HF.out).mono ?_); rintro e w' ⟨rfl, hb⟩; replace HK := Lib.hid (HK.out.keep hb); clear k0 k1 k2 k3 k4 k5 k6 kf0 kf1 kf2 kf3 kf4 kf5 kf6; replace HX := Lib.hid (HX.out.keep hb); clear x0 x1 xf0 xf1; replace HR := Lib.hid (HR.out.keep hb); clear r0 r1 r2 r3 r4 r5 r6 rf0 rf1 rf2 rf3 rf4 rf5 rf6; replace HS := Lib.hid (SbsAt.kept HS.out hb); replace HF := Lib.hid (FdsAt.kept HF.out hb); replace HB := Lib.hid (bch' HB.out hb); clear hb; obtain ⟨k0, k1, k2, k3, k4, k5, k6, kf0, kf1, kf2, kf3, kf4, kf5, kf6⟩ := HK.out.c7; obtain ⟨x0, x1, xf0, xf1⟩ := HX.out.c2; obtain ⟨r0, r1, r2, r3, r4, r5, r6, rf0, rf1, rf2, rf3, rf4, rf5, rf6⟩ := HR.out.c7))
          refine bodyPost_ret_by (v := .tuple #[.agg #[.string ⟨#[]⟩, .int .i64 0, .int .i64 0, .int .i64 0, .bool false, .slice none 0 0, .slice none 0 0], .int .i64 2]) (by simp [results, Tryz.f23, go_sem, r0, r1, r2, r3, r4, r5, r6, rf0, rf1, rf2, rf3, rf4, rf5, rf6]) rfl ⟨rfl, ?_⟩
          exact (((((((HB.out.setCell (show w.heap.size ≤ w.heap.size + 1 + 1 by omega) _).setCell (show w.heap.size ≤ w.heap.size + 1 + 1 by omega) _).setCell (show w.heap.size ≤ w.heap.size + 1 + 1 by omega) _).setCell (show w.heap.size ≤ w.heap.size + 1 + 1 by omega) _).setCell (show w.heap.size ≤ w.heap.size + 1 + 1 by omega) _).setCell (show w.heap.size ≤ w.heap.size + 1 + 1 by omega) _).setCell (show w.heap.size ≤ w.heap.size + 1 + 1 by omega) _)
      · rw [woE_kind h5 h7]
        have q5 : ((sk : Int) != 5) = true := by simp; omega
        have q6 : ((sk : Int) != 6) = true := by simp; omega
        have q7 : ((sk : Int) != 7) = true := by simp; omega
        clear hz h5 h7 hk7 hl
        have HC := Lib.hid hc; clear hc
        go_enter Tryz.func23, Tryz.ntmps23
        go_wp2_with (first | (with_reducible refine ((HC.out _ HS.out HF.out).mono ?_); rintro e w' ⟨rfl, hb⟩; replace HK := Lib.hid (HK.out.keep hb); clear k0 k1 k2 k3 k4 k5 k6 kf0 kf1 kf2 kf3 kf4 kf5 kf6; replace HX := Lib.hid (HX.out.keep hb); clear x0 x1 xf0 xf1; replace HR := Lib.hid (HR.out.keep hb); clear r0 r1 r2 r3 r4 r5 r6 rf0 rf1 rf2 rf3 rf4 rf5 rf6; replace HS := Lib.hid (SbsAt.kept HS.out hb); replace HF := Lib.hid (FdsAt.kept HF.out hb); replace HB := Lib.hid (bch' HB.out hb); clear hb; obtain ⟨k0, k1, k2, k3, k4, k5, k6, kf0, kf1, kf2, kf3, kf4, kf5, kf6⟩ := HK.out.c7; obtain ⟨x0, x1, xf0, xf1⟩ := HX.out.c2; obtain ⟨r0, r1, r2, r3, r4, r5, r6, rf0, rf1, rf2, rf3, rf4, rf5, rf6⟩ := HR.out.c7))
        refine bodyPost_ret_by (v := .tuple #[.agg #[.string ⟨#[]⟩, .int .i64 0, .int .i64 0, .int .i64 0, .bool false, .slice none 0 0, .slice none 0 0], .int .i64 1]) (by simp [results, Tryz.f23, go_sem, r0, r1, r2, r3, r4, r5, r6, rf0, rf1, rf2, rf3, rf4, rf5, rf6]) rfl ⟨rfl, ?_⟩
        exact (((((((HB.out.setCell (show w.heap.size ≤ w.heap.size + 1 + 1 by omega) _).setCell (show w.heap.size ≤ w.heap.size + 1 + 1 by omega) _).setCell (show w.heap.size ≤ w.heap.size + 1 + 1 by omega) _).setCell (show w.heap.size ≤ w.heap.size + 1 + 1 by omega) _).setCell (show w.heap.size ≤ w.heap.size + 1 + 1 by omega) _).setCell (show w.heap.size ≤ w.heap.size + 1 + 1 by omega) _).setCell (show w.heap.size ≤ w.heap.size + 1 + 1 by omega) _)
  · rw [wfE_ma h0]
    have hne : ((maE fr tz st ti su fd : Int) != 0) = true := by simpa using h0
    clear h0 hz hl hk7
    generalize maE fr tz st ti su fd = m at *
    have HC := Lib.hid hc; clear hc
    go_enter Tryz.func23, Tryz.ntmps23
    go_wp2_with (first | (with_reducible refine ((HC.out _ HS.out HF.out).mono ?_); rintro e w' ⟨rfl, hb⟩; replace HK := Lib.hid (HK.out.keep hb); clear k0 k1 k2 k3 k4 k5 k6 kf0 kf1 kf2 kf3 kf4 kf5 kf6; replace HX := Lib.hid (HX.out.keep hb); clear x0 x1 xf0 xf1; replace HR := Lib.hid (HR.out.keep hb); clear r0 r1 r2 r3 r4 r5 r6 rf0 rf1 rf2 rf3 rf4 rf5 rf6; replace HS := Lib.hid (SbsAt.kept HS.out hb); replace HF := Lib.hid (FdsAt.kept HF.out hb); replace HB := Lib.hid (bch' HB.out hb); clear hb; obtain ⟨k0, k1, k2, k3, k4, k5, k6, kf0, kf1, kf2, kf3, kf4, kf5, kf6⟩ := HK.out.c7; obtain ⟨x0, x1, xf0, xf1⟩ := HX.out.c2; obtain ⟨r0, r1, r2, r3, r4, r5, r6, rf0, rf1, rf2, rf3, rf4, rf5, rf6⟩ := HR.out.c7))
    refine bodyPost_ret_by (v := .tuple #[.agg #[.string ⟨#[]⟩, .int .i64 0, .int .i64 0, .int .i64 0, .bool false, .slice none 0 0, .slice none 0 0], .int .i64 m]) (by simp [results, Tryz.f23, go_sem, r0, r1, r2, r3, r4, r5, r6, rf0, rf1, rf2, rf3, rf4, rf5, rf6]) rfl ⟨rfl, ?_⟩
    exact (((((((HB.out.setCell (show w.heap.size ≤ w.heap.size + 1 + 1 by omega) _).setCell (show w.heap.size ≤ w.heap.size + 1 + 1 by omega) _).setCell (show w.heap.size ≤ w.heap.size + 1 + 1 by omega) _).setCell (show w.heap.size ≤ w.heap.size + 1 + 1 by omega) _).setCell (show w.heap.size ≤ w.heap.size + 1 + 1 by omega) _).setCell (show w.heap.size ≤ w.heap.size + 1 + 1 by omega) _).setCell (show w.heap.size ≤ w.heap.size + 1 + 1 by omega) _)

set_option maxRecDepth 100000 in
set_option maxHeartbeats 4000000 in
theorem r30_mwo_five (tz st ti : Int) (bl : Bool) (fr : Txt) (sv fv : Value) (su : List Sb) (fd : List Fdr) (w : World) (hs : SbsAt w sv su) (hf : FdsAt w fv fd) (hx : fr.length ≤ 60) (hl : ∀ i, i < fd.length → (fdv fd i).fr.length ≤ 60) (h0 : maE fr tz st ti su fd = 0) :
    Calls Tryz.prog 23 #[.agg #[.string ⟨(fr).toArray⟩, .int .i64 tz, .int .i64 st, .int .i64 ti, .bool (bl), sv, fv], .agg #[.int .i64 5, .int .i64 0]] w fun e w' => e = .returned (.tuple #[.agg #[.string ⟨#[54, 53, 53, 51, 53]⟩, .int .i64 65535, .int .i64 0, .int .i64 0, .bool (bl), sv, fv], .int .i64 0]) ∧ Below w.heap.size w w' := by
  obtain ⟨ps, zs, rfl⟩ : ∃ ps zs, sv = .slice ps su.length zs := by obtain ⟨a, b, e, -⟩ := hs; exact ⟨a, b, e⟩
  obtain ⟨pf, zf, rfl⟩ : ∃ pf zf, fv = .slice pf fd.length zf := by obtain ⟨a, b, e, -⟩ := hf; exact ⟨a, b, e⟩
  have hpl := fun W (h : SbsAt W (.slice ps su.length zs) su) => r26_place su 0 (.slice ps su.length zs) W h (by have := (tabOk (maE_zero h0).2.1).few; omega)
  have hal := ((((Below.refl w.heap.size w).alloc (Nat.le_refl _) (.cells #[.string ⟨(fr).toArray⟩, .int .i64 tz, .int .i64 st, .int .i64 ti, .bool (bl), (.slice ps su.length zs), (.slice pf fd.length zf)] 32)).alloc (by simp) (.cells #[.int .i64 5, .int .i64 0] 43)).alloc (by rw [World.size_alloc, World.size_alloc]; omega) (.cells #[.string ⟨#[]⟩, .int .i64 0, .int .i64 0, .int .i64 0, .bool false, .slice none 0 0, .slice none 0 0] 32))
  have HB := Lib.hid hal
  have hk := ((Blk.new (w) 32 #[.string ⟨(fr).toArray⟩, .int .i64 tz, .int .i64 st, .int .i64 ti, .bool (bl), (.slice ps su.length zs), (.slice pf fd.length zf)]).alloc (.cells #[.int .i64 5, .int .i64 0] 43)).alloc (.cells #[.string ⟨#[]⟩, .int .i64 0, .int .i64 0, .int .i64 0, .bool false, .slice none 0 0, .slice none 0 0] 32)
  have HK := Lib.hid hk; clear hk
  have hx := (Blk.new (w.alloc (.cells #[.string ⟨(fr).toArray⟩, .int .i64 tz, .int .i64 st, .int .i64 ti, .bool (bl), (.slice ps su.length zs), (.slice pf fd.length zf)] 32)) 43 #[.int .i64 5, .int .i64 0]).alloc (.cells #[.string ⟨#[]⟩, .int .i64 0, .int .i64 0, .int .i64 0, .bool false, .slice none 0 0, .slice none 0 0] 32)
  simp only [World.size_alloc] at hx
  have HX := Lib.hid hx; clear hx
  have hr := Blk.new ((w.alloc (.cells #[.string ⟨(fr).toArray⟩, .int .i64 tz, .int .i64 st, .int .i64 ti, .bool (bl), (.slice ps su.length zs), (.slice pf fd.length zf)] 32)).alloc (.cells #[.int .i64 5, .int .i64 0] 43)) 32 #[.string ⟨#[]⟩, .int .i64 0, .int .i64 0, .int .i64 0, .bool false, .slice none 0 0, .slice none 0 0]
  simp only [World.size_alloc] at hr
  have HR := Lib.hid hr; clear hr
  obtain ⟨k0, k1, k2, k3, k4, k5, k6, kf0, kf1, kf2, kf3, kf4, kf5, kf6⟩ := HK.out.c7
  obtain ⟨x0, x1, xf0, xf1⟩ := HX.out.c2
  obtain ⟨r0, r1, r2, r3, r4, r5, r6, rf0, rf1, rf2, rf3, rf4, rf5, rf6⟩ := HR.out.c7
  have HS := Lib.hid (SbsAt.kept hs hal)
  have HF := Lib.hid (FdsAt.kept hf hal)
  clear hal
  clear hs hf
  have hc := fun W (h1 : SbsAt W (.slice ps su.length zs) su) (h2 : FdsAt W (.slice pf fd.length zf) fd) => r30_check tz st ti bl fr (.slice ps su.length zs) (.slice pf fd.length zf) su fd W h1 h2 (by omega) (fun i hi => Nat.le_trans (hl i hi) (by omega))
  have hfr := fun W => r30_freed_five tz st ti bl fr W ps pf zs zf su fd 0
  rw [h0] at hc
  clear h0 hl
  generalize ixOf (fun x : Sb => x.nu == 0) su = pl at *
  have HC := Lib.hid hc; clear hc
  have HPL := Lib.hid hpl; clear hpl
  have HFR := Lib.hid hfr; clear hfr
  go_enter Tryz.func23, Tryz.ntmps23
  go_wp2_with (first | (with_reducible refine ((HC.out _ HS.out HF.out).mono ?_); rintro e w' ⟨rfl, hb⟩; replace HK := Lib.hid (HK.out.keep hb); clear k0 k1 k2 k3 k4 k5 k6 kf0 kf1 kf2 kf3 kf4 kf5 kf6; replace HX := Lib.hid (HX.out.keep hb); clear x0 x1 xf0 xf1; replace HR := Lib.hid (HR.out.keep hb); clear r0 r1 r2 r3 r4 r5 r6 rf0 rf1 rf2 rf3 rf4 rf5 rf6; replace HS := Lib.hid (SbsAt.kept HS.out hb); replace HF := Lib.hid (FdsAt.kept HF.out hb); replace HB := Lib.hid (bch' HB.out hb); clear hb; obtain ⟨k0, k1, k2, k3, k4, k5, k6, kf0, kf1, kf2, kf3, kf4, kf5, kf6⟩ := HK.out.c7; obtain ⟨x0, x1, xf0, xf1⟩ := HX.out.c2; obtain ⟨r0, r1, r2, r3, r4, r5, r6, rf0, rf1, rf2, rf3, rf4, rf5, rf6⟩ := HR.out.c7) | (with_reducible refine ((HPL.out _ HS.out).mono ?_); rintro e w' ⟨rfl, hb⟩; replace HK := Lib.hid (HK.out.keep hb); clear k0 k1 k2 k3 k4 k5 k6 kf0 kf1 kf2 kf3 kf4 kf5 kf6; replace HX := Lib.hid (HX.out.keep hb); clear x0 x1 xf0 xf1; replace HR := Lib.hid (HR.out.keep hb); clear r0 r1 r2 r3 r4 r5 r6 rf0 rf1 rf2 rf3 rf4 rf5 rf6; replace HS := Lib.hid (SbsAt.kept HS.out hb); replace HF := Lib.hid (FdsAt.kept HF.out hb); replace HB := Lib.hid (bch' HB.out hb); clear hb; obtain ⟨k0, k1, k2, k3, k4, k5, k6, kf0, kf1, kf2, kf3, kf4, kf5, kf6⟩ := HK.out.c7; obtain ⟨x0, x1, xf0, xf1⟩ := HX.out.c2; obtain ⟨r0, r1, r2, r3, r4, r5, r6, rf0, rf1, rf2, rf3, rf4, rf5, rf6⟩ := HR.out.c7) | (with_reducible refine ((HFR.out _).mono ?_); rintro e w' ⟨rfl, hb⟩; replace HK := Lib.hid (HK.out.keep hb); clear k0 k1 k2 k3 k4 k5 k6 kf0 kf1 kf2 kf3 kf4 kf5 kf6; replace HX := Lib.hid (HX.out.keep hb); clear x0 x1 xf0 xf1; replace HR := Lib.hid (HR.out.keep hb); clear r0 r1 r2 r3 r4 r5 r6 rf0 rf1 rf2 rf3 rf4 rf5 rf6; replace HS := Lib.hid (SbsAt.kept HS.out hb); replace HF := Lib.hid (FdsAt.kept HF.out hb); replace HB := Lib.hid (bch' HB.out hb); clear hb; obtain ⟨k0, k1, k2, k3, k4, k5, k6, kf0, kf1, kf2, kf3, kf4, kf5, kf6⟩ := HK.out.c7; obtain ⟨x0, x1, xf0, xf1⟩ := HX.out.c2; obtain ⟨r0, r1, r2, r3, r4, r5, r6, rf0, rf1, rf2, rf3, rf4, rf5, rf6⟩ := HR.out.c7))
  refine bodyPost_ret_by (v := .tuple #[.agg #[.string ⟨#[54, 53, 53, 51, 53]⟩, .int .i64 65535, .int .i64 0, .int .i64 0, .bool (bl), (.slice ps su.length zs), (.slice pf fd.length zf)], .int .i64 0]) (by simp [results, Tryz.f23, go_sem, r0, r1, r2, r3, r4, r5, r6, rf0, rf1, rf2, rf3, rf4, rf5, rf6]) rfl ⟨rfl, ?_⟩
  exact (((((((HB.out.setCell (show w.heap.size ≤ w.heap.size + 1 + 1 by omega) _).setCell (show w.heap.size ≤ w.heap.size + 1 + 1 by omega) _).setCell (show w.heap.size ≤ w.heap.size + 1 + 1 by omega) _).setCell (show w.heap.size ≤ w.heap.size + 1 + 1 by omega) _).setCell (show w.heap.size ≤ w.heap.size + 1 + 1 by omega) _).setCell (show w.heap.size ≤ w.heap.size + 1 + 1 by omega) _).setCell (show w.heap.size ≤ w.heap.size + 1 + 1 by omega) _)

set_option maxRecDepth 100000 in
set_option maxHeartbeats 4000000 in
theorem r30_mwo_six (tz st ti : Int) (bl : Bool) (fr : Txt) (sv fv : Value) (su : List Sb) (fd : List Fdr) (w : World) (hs : SbsAt w sv su) (hf : FdsAt w fv fd) (hx : fr.length ≤ 60) (hl : ∀ i, i < fd.length → (fdv fd i).fr.length ≤ 60) (h0 : maE fr tz st ti su fd = 0) :
    Calls Tryz.prog 23 #[.agg #[.string ⟨(fr).toArray⟩, .int .i64 tz, .int .i64 st, .int .i64 ti, .bool (bl), sv, fv], .agg #[.int .i64 6, .int .i64 0]] w fun e w' => e = .returned (.tuple #[.agg #[.string ⟨(fr).toArray⟩, .int .i64 tz, .int .i64 st, .int .i64 ti, .bool false, sv, fv], .int .i64 0]) ∧ Below w.heap.size w w' := by
  obtain ⟨ps, zs, rfl⟩ : ∃ ps zs, sv = .slice ps su.length zs := by obtain ⟨a, b, e, -⟩ := hs; exact ⟨a, b, e⟩
  obtain ⟨pf, zf, rfl⟩ : ∃ pf zf, fv = .slice pf fd.length zf := by obtain ⟨a, b, e, -⟩ := hf; exact ⟨a, b, e⟩
  have hpl := fun W (h : SbsAt W (.slice ps su.length zs) su) => r26_place su 0 (.slice ps su.length zs) W h (by have := (tabOk (maE_zero h0).2.1).few; omega)
  have hal := ((((Below.refl w.heap.size w).alloc (Nat.le_refl _) (.cells #[.string ⟨(fr).toArray⟩, .int .i64 tz, .int .i64 st, .int .i64 ti, .bool (bl), (.slice ps su.length zs), (.slice pf fd.length zf)] 32)).alloc (by simp) (.cells #[.int .i64 6, .int .i64 0] 43)).alloc (by rw [World.size_alloc, World.size_alloc]; omega) (.cells #[.string ⟨#[]⟩, .int .i64 0, .int .i64 0, .int .i64 0, .bool false, .slice none 0 0, .slice none 0 0] 32))
  have HB := Lib.hid hal
  have hk := ((Blk.new (w) 32 #[.string ⟨(fr).toArray⟩, .int .i64 tz, .int .i64 st, .int .i64 ti, .bool (bl), (.slice ps su.length zs), (.slice pf fd.length zf)]).alloc (.cells #[.int .i64 6, .int .i64 0] 43)).alloc (.cells #[.string ⟨#[]⟩, .int .i64 0, .int .i64 0, .int .i64 0, .bool false, .slice none 0 0, .slice none 0 0] 32)
  have HK := Lib.hid hk; clear hk
  have hx := (Blk.new (w.alloc (.cells #[.string ⟨(fr).toArray⟩, .int .i64 tz, .int .i64 st, .int .i64 ti, .bool (bl), (.slice ps su.length zs), (.slice pf fd.length zf)] 32)) 43 #[.int .i64 6, .int .i64 0]).alloc (.cells #[.string ⟨#[]⟩, .int .i64 0, .int .i64 0, .int .i64 0, .bool false, .slice none 0 0, .slice none 0 0] 32)
  simp only [World.size_alloc] at hx
  have HX := Lib.hid hx; clear hx
  have hr := Blk.new ((w.alloc (.cells #[.string ⟨(fr).toArray⟩, .int .i64 tz, .int .i64 st, .int .i64 ti, .bool (bl), (.slice ps su.length zs), (.slice pf fd.length zf)] 32)).alloc (.cells #[.int .i64 6, .int .i64 0] 43)) 32 #[.string ⟨#[]⟩, .int .i64 0, .int .i64 0, .int .i64 0, .bool false, .slice none 0 0, .slice none 0 0]
  simp only [World.size_alloc] at hr
  have HR := Lib.hid hr; clear hr
  obtain ⟨k0, k1, k2, k3, k4, k5, k6, kf0, kf1, kf2, kf3, kf4, kf5, kf6⟩ := HK.out.c7
  obtain ⟨x0, x1, xf0, xf1⟩ := HX.out.c2
  obtain ⟨r0, r1, r2, r3, r4, r5, r6, rf0, rf1, rf2, rf3, rf4, rf5, rf6⟩ := HR.out.c7
  have HS := Lib.hid (SbsAt.kept hs hal)
  have HF := Lib.hid (FdsAt.kept hf hal)
  clear hal
  clear hs hf
  have hc := fun W (h1 : SbsAt W (.slice ps su.length zs) su) (h2 : FdsAt W (.slice pf fd.length zf) fd) => r30_check tz st ti bl fr (.slice ps su.length zs) (.slice pf fd.length zf) su fd W h1 h2 (by omega) (fun i hi => Nat.le_trans (hl i hi) (by omega))
  have hfr := fun W => r30_freed_six tz st ti bl fr W ps pf zs zf su fd 0
  rw [h0] at hc
  clear h0 hl
  generalize ixOf (fun x : Sb => x.nu == 0) su = pl at *
  have HC := Lib.hid hc; clear hc
  have HPL := Lib.hid hpl; clear hpl
  have HFR := Lib.hid hfr; clear hfr
  go_enter Tryz.func23, Tryz.ntmps23
  go_wp2_with (first | (with_reducible refine ((HC.out _ HS.out HF.out).mono ?_); rintro e w' ⟨rfl, hb⟩; replace HK := Lib.hid (HK.out.keep hb); clear k0 k1 k2 k3 k4 k5 k6 kf0 kf1 kf2 kf3 kf4 kf5 kf6; replace HX := Lib.hid (HX.out.keep hb); clear x0 x1 xf0 xf1; replace HR := Lib.hid (HR.out.keep hb); clear r0 r1 r2 r3 r4 r5 r6 rf0 rf1 rf2 rf3 rf4 rf5 rf6; replace HS := Lib.hid (SbsAt.kept HS.out hb); replace HF := Lib.hid (FdsAt.kept HF.out hb); replace HB := Lib.hid (bch' HB.out hb); clear hb; obtain ⟨k0, k1, k2, k3, k4, k5, k6, kf0, kf1, kf2, kf3, kf4, kf5, kf6⟩ := HK.out.c7; obtain ⟨x0, x1, xf0, xf1⟩ := HX.out.c2; obtain ⟨r0, r1, r2, r3, r4, r5, r6, rf0, rf1, rf2, rf3, rf4, rf5, rf6⟩ := HR.out.c7) | (with_reducible refine ((HPL.out _ HS.out).mono ?_); rintro e w' ⟨rfl, hb⟩; replace HK := Lib.hid (HK.out.keep hb); clear k0 k1 k2 k3 k4 k5 k6 kf0 kf1 kf2 kf3 kf4 kf5 kf6; replace HX := Lib.hid (HX.out.keep hb); clear x0 x1 xf0 xf1; replace HR := Lib.hid (HR.out.keep hb); clear r0 r1 r2 r3 r4 r5 r6 rf0 rf1 rf2 rf3 rf4 rf5 rf6; replace HS := Lib.hid (SbsAt.kept HS.out hb); replace HF := Lib.hid (FdsAt.kept HF.out hb); replace HB := Lib.hid (bch' HB.out hb); clear hb; obtain ⟨k0, k1, k2, k3, k4, k5, k6, kf0, kf1, kf2, kf3, kf4, kf5, kf6⟩ := HK.out.c7; obtain ⟨x0, x1, xf0, xf1⟩ := HX.out.c2; obtain ⟨r0, r1, r2, r3, r4, r5, r6, rf0, rf1, rf2, rf3, rf4, rf5, rf6⟩ := HR.out.c7) | (with_reducible refine ((HFR.out _).mono ?_); rintro e w' ⟨rfl, hb⟩; replace HK := Lib.hid (HK.out.keep hb); clear k0 k1 k2 k3 k4 k5 k6 kf0 kf1 kf2 kf3 kf4 kf5 kf6; replace HX := Lib.hid (HX.out.keep hb); clear x0 x1 xf0 xf1; replace HR := Lib.hid (HR.out.keep hb); clear r0 r1 r2 r3 r4 r5 r6 rf0 rf1 rf2 rf3 rf4 rf5 rf6; replace HS := Lib.hid (SbsAt.kept HS.out hb); replace HF := Lib.hid (FdsAt.kept HF.out hb); replace HB := Lib.hid (bch' HB.out hb); clear hb; obtain ⟨k0, k1, k2, k3, k4, k5, k6, kf0, kf1, kf2, kf3, kf4, kf5, kf6⟩ := HK.out.c7; obtain ⟨x0, x1, xf0, xf1⟩ := HX.out.c2; obtain ⟨r0, r1, r2, r3, r4, r5, r6, rf0, rf1, rf2, rf3, rf4, rf5, rf6⟩ := HR.out.c7))
  refine bodyPost_ret_by (v := .tuple #[.agg #[.string ⟨(fr).toArray⟩, .int .i64 tz, .int .i64 st, .int .i64 ti, .bool false, (.slice ps su.length zs), (.slice pf fd.length zf)], .int .i64 0]) (by simp [results, Tryz.f23, go_sem, r0, r1, r2, r3, r4, r5, r6, rf0, rf1, rf2, rf3, rf4, rf5, rf6]) rfl ⟨rfl, ?_⟩
  exact (((((((HB.out.setCell (show w.heap.size ≤ w.heap.size + 1 + 1 by omega) _).setCell (show w.heap.size ≤ w.heap.size + 1 + 1 by omega) _).setCell (show w.heap.size ≤ w.heap.size + 1 + 1 by omega) _).setCell (show w.heap.size ≤ w.heap.size + 1 + 1 by omega) _).setCell (show w.heap.size ≤ w.heap.size + 1 + 1 by omega) _).setCell (show w.heap.size ≤ w.heap.size + 1 + 1 by omega) _).setCell (show w.heap.size ≤ w.heap.size + 1 + 1 by omega) _)



set_option maxRecDepth 100000 in
set_option maxHeartbeats 8000000 in
theorem r30_mwo_none (tz st ti : Int) (bl : Bool) (fr : Txt) (sv fv : Value) (su : List Sb) (fd : List Fdr) (sn : Int) (w : World) (hs : SbsAt w sv su) (hf : FdsAt w fv fd) (hx : fr.length ≤ 60) (hl : ∀ i, i < fd.length → (fdv fd i).fr.length ≤ 60) (h0 : maE fr tz st ti su fd = 0) (hh : hasI su sn = false) :
    Calls Tryz.prog 23 #[.agg #[.string ⟨(fr).toArray⟩, .int .i64 tz, .int .i64 st, .int .i64 ti, .bool (bl), sv, fv], .agg #[.int .i64 7, .int .i64 sn]] w fun e w' => e = .returned (.tuple #[.agg #[.string ⟨#[]⟩, .int .i64 0, .int .i64 0, .int .i64 0, .bool false, .slice none 0 0, .slice none 0 0], .int .i64 6]) ∧ Below w.heap.size w w' := by
  obtain ⟨ps, zs, rfl⟩ : ∃ ps zs, sv = .slice ps su.length zs := by obtain ⟨a, b, e, -⟩ := hs; exact ⟨a, b, e⟩
  obtain ⟨pf, zf, rfl⟩ : ∃ pf zf, fv = .slice pf fd.length zf := by obtain ⟨a, b, e, -⟩ := hf; exact ⟨a, b, e⟩
  have hpl := fun W (h : SbsAt W (.slice ps su.length zs) su) => r26_place su sn (.slice ps su.length zs) W h (by have := (tabOk (maE_zero h0).2.1).few; omega)
  have ht := tabOk (maE_zero h0).2.1
  have H16 := Lib.hid ht.few
  have HH := Lib.hid hh
  have hv2 : Hid (su ≠ [] → ∃ b o, ps = Option.some ⟨b, o, none⟩ ∧ b < w.heap.size ∧ SbsC w b o su) := by
    obtain ⟨p, c, e, -, hv1⟩ := hs
    injection e with e1 e2 e3
    subst e1
    exact Lib.hid hv1
  have hal := ((((Below.refl w.heap.size w).alloc (Nat.le_refl _) (.cells #[.string ⟨(fr).toArray⟩, .int .i64 tz, .int .i64 st, .int .i64 ti, .bool (bl), (.slice ps su.length zs), (.slice pf fd.length zf)] 32)).alloc (by simp) (.cells #[.int .i64 7, .int .i64 sn] 43)).alloc (by rw [World.size_alloc, World.size_alloc]; omega) (.cells #[.string ⟨#[]⟩, .int .i64 0, .int .i64 0, .int .i64 0, .bool false, .slice none 0 0, .slice none 0 0] 32))
  have HB := Lib.hid hal
  have hk := ((Blk.new (w) 32 #[.string ⟨(fr).toArray⟩, .int .i64 tz, .int .i64 st, .int .i64 ti, .bool (bl), (.slice ps su.length zs), (.slice pf fd.length zf)]).alloc (.cells #[.int .i64 7, .int .i64 sn] 43)).alloc (.cells #[.string ⟨#[]⟩, .int .i64 0, .int .i64 0, .int .i64 0, .bool false, .slice none 0 0, .slice none 0 0] 32)
  have HK := Lib.hid hk; clear hk
  have hx := (Blk.new (w.alloc (.cells #[.string ⟨(fr).toArray⟩, .int .i64 tz, .int .i64 st, .int .i64 ti, .bool (bl), (.slice ps su.length zs), (.slice pf fd.length zf)] 32)) 43 #[.int .i64 7, .int .i64 sn]).alloc (.cells #[.string ⟨#[]⟩, .int .i64 0, .int .i64 0, .int .i64 0, .bool false, .slice none 0 0, .slice none 0 0] 32)
  simp only [World.size_alloc] at hx
  have HX := Lib.hid hx; clear hx
  have hr := Blk.new ((w.alloc (.cells #[.string ⟨(fr).toArray⟩, .int .i64 tz, .int .i64 st, .int .i64 ti, .bool (bl), (.slice ps su.length zs), (.slice pf fd.length zf)] 32)).alloc (.cells #[.int .i64 7, .int .i64 sn] 43)) 32 #[.string ⟨#[]⟩, .int .i64 0, .int .i64 0, .int .i64 0, .bool false, .slice none 0 0, .slice none 0 0]
  simp only [World.size_alloc] at hr
  have HR := Lib.hid hr; clear hr
  obtain ⟨k0, k1, k2, k3, k4, k5, k6, kf0, kf1, kf2, kf3, kf4, kf5, kf6⟩ := HK.out.c7
  obtain ⟨x0, x1, xf0, xf1⟩ := HX.out.c2
  obtain ⟨r0, r1, r2, r3, r4, r5, r6, rf0, rf1, rf2, rf3, rf4, rf5, rf6⟩ := HR.out.c7
  have HS := Lib.hid (SbsAt.kept hs hal)
  have HF := Lib.hid (FdsAt.kept hf hal)
  clear hal
  have HS0 := Lib.hid hs
  clear hs hf
  have hc := fun W (h1 : SbsAt W (.slice ps su.length zs) su) (h2 : FdsAt W (.slice pf fd.length zf) fd) => r30_check tz st ti bl fr (.slice ps su.length zs) (.slice pf fd.length zf) su fd W h1 h2 (by omega) (fun i hi => Nat.le_trans (hl i hi) (by omega))
  rw [h0] at hc
  clear h0 hl
  rcases place_find su sn with ⟨i, hi, e1, e2⟩ | ⟨e1, e2⟩
  · have hin : (sbv su i).inh = false := by rw [← has_place ht hi e2]; exact hh
    clear ht hh e2
    rw [e1] at hpl
    clear e1
    have h0i : ¬ (i : Int) < (0 : Int) := by omega
    have h0j : (0 : Int) ≤ (i : Int) := by omega
    have hi2 : (i : Int) < (su.length : Int) := by omega
    have HC := Lib.hid hc; clear hc
    have HPL := Lib.hid hpl; clear hpl
    go_enter Tryz.func23, Tryz.ntmps23
    go_upto_region 9 with (first | (with_reducible refine ((HC.out _ HS.out HF.out).mono ?_); rintro e w' ⟨rfl, hb⟩; replace HK := Lib.hid (HK.out.keep hb); clear k0 k1 k2 k3 k4 k5 k6 kf0 kf1 kf2 kf3 kf4 kf5 kf6; replace HX := Lib.hid (HX.out.keep hb); clear x0 x1 xf0 xf1; replace HR := Lib.hid (HR.out.keep hb); clear r0 r1 r2 r3 r4 r5 r6 rf0 rf1 rf2 rf3 rf4 rf5 rf6; replace HS := Lib.hid (SbsAt.kept HS.out hb); replace HF := Lib.hid (FdsAt.kept HF.out hb); replace HB := Lib.hid (bch' HB.out hb); clear hb; obtain ⟨k0, k1, k2, k3, k4, k5, k6, kf0, kf1, kf2, kf3, kf4, kf5, kf6⟩ := HK.out.c7; obtain ⟨x0, x1, xf0, xf1⟩ := HX.out.c2; obtain ⟨r0, r1, r2, r3, r4, r5, r6, rf0, rf1, rf2, rf3, rf4, rf5, rf6⟩ := HR.out.c7) | (with_reducible refine ((HPL.out _ HS.out).mono ?_); rintro e w' ⟨rfl, hb⟩; replace HK := Lib.hid (HK.out.keep hb); clear k0 k1 k2 k3 k4 k5 k6 kf0 kf1 kf2 kf3 kf4 kf5 kf6; replace HX := Lib.hid (HX.out.keep hb); clear x0 x1 xf0 xf1; replace HR := Lib.hid (HR.out.keep hb); clear r0 r1 r2 r3 r4 r5 r6 rf0 rf1 rf2 rf3 rf4 rf5 rf6; replace HS := Lib.hid (SbsAt.kept HS.out hb); replace HF := Lib.hid (FdsAt.kept HF.out hb); replace HB := Lib.hid (bch' HB.out hb); clear hb; obtain ⟨k0, k1, k2, k3, k4, k5, k6, kf0, kf1, kf2, kf3, kf4, kf5, kf6⟩ := HK.out.c7; obtain ⟨x0, x1, xf0, xf1⟩ := HX.out.c2; obtain ⟨r0, r1, r2, r3, r4, r5, r6, rf0, rf1, rf2, rf3, rf4, rf5, rf6⟩ := HR.out.c7))
    obtain ⟨b, o, rfl, hb, hC⟩ := hv2.out (fun h => by subst h; simp at hi)
    obtain ⟨z1, z2, z3, -⟩ := hC.below HB.out hb i hi
    clear hC
    have hbr : b < w'.heap.size := by have := HB.out.size; omega
    rw [hin] at z3
    go_wp2_with fail
    refine bodyPost_ret_by (v := .tuple #[.agg #[.string ⟨#[]⟩, .int .i64 0, .int .i64 0, .int .i64 0, .bool false, .slice none 0 0, .slice none 0 0], .int .i64 6]) (by simp [results, Tryz.f23, go_sem, r0, r1, r2, r3, r4, r5, r6, rf0, rf1, rf2, rf3, rf4, rf5, rf6]) rfl ⟨rfl, ?_⟩
    exact (((((((HB.out.setCell (show w.heap.size ≤ w.heap.size + 1 + 1 by omega) _).setCell (show w.heap.size ≤ w.heap.size + 1 + 1 by omega) _).setCell (show w.heap.size ≤ w.heap.size + 1 + 1 by omega) _).setCell (show w.heap.size ≤ w.heap.size + 1 + 1 by omega) _).setCell (show w.heap.size ≤ w.heap.size + 1 + 1 by omega) _).setCell (show w.heap.size ≤ w.heap.size + 1 + 1 by omega) _).setCell (show w.heap.size ≤ w.heap.size + 1 + 1 by omega) _)
  · clear ht hh e2
    rw [e1] at hpl
    clear e1
    have HC := Lib.hid hc; clear hc
    have HPL := Lib.hid hpl; clear hpl
    go_enter Tryz.func23, Tryz.ntmps23
    go_wp2_with (first | (with_reducible refine ((HC.out _ HS.out HF.out).mono ?_); rintro e w' ⟨rfl, hb⟩; replace HK := Lib.hid (HK.out.keep hb); clear k0 k1 k2 k3 k4 k5 k6 kf0 kf1 kf2 kf3 kf4 kf5 kf6; replace HX := Lib.hid (HX.out.keep hb); clear x0 x1 xf0 xf1; replace HR := Lib.hid (HR.out.keep hb); clear r0 r1 r2 r3 r4 r5 r6 rf0 rf1 rf2 rf3 rf4 rf5 rf6; replace HS := Lib.hid (SbsAt.kept HS.out hb); replace HF := Lib.hid (FdsAt.kept HF.out hb); replace HB := Lib.hid (bch' HB.out hb); clear hb; obtain ⟨k0, k1, k2, k3, k4, k5, k6, kf0, kf1, kf2, kf3, kf4, kf5, kf6⟩ := HK.out.c7; obtain ⟨x0, x1, xf0, xf1⟩ := HX.out.c2; obtain ⟨r0, r1, r2, r3, r4, r5, r6, rf0, rf1, rf2, rf3, rf4, rf5, rf6⟩ := HR.out.c7) | (with_reducible refine ((HPL.out _ HS.out).mono ?_); rintro e w' ⟨rfl, hb⟩; replace HK := Lib.hid (HK.out.keep hb); clear k0 k1 k2 k3 k4 k5 k6 kf0 kf1 kf2 kf3 kf4 kf5 kf6; replace HX := Lib.hid (HX.out.keep hb); clear x0 x1 xf0 xf1; replace HR := Lib.hid (HR.out.keep hb); clear r0 r1 r2 r3 r4 r5 r6 rf0 rf1 rf2 rf3 rf4 rf5 rf6; replace HS := Lib.hid (SbsAt.kept HS.out hb); replace HF := Lib.hid (FdsAt.kept HF.out hb); replace HB := Lib.hid (bch' HB.out hb); clear hb; obtain ⟨k0, k1, k2, k3, k4, k5, k6, kf0, kf1, kf2, kf3, kf4, kf5, kf6⟩ := HK.out.c7; obtain ⟨x0, x1, xf0, xf1⟩ := HX.out.c2; obtain ⟨r0, r1, r2, r3, r4, r5, r6, rf0, rf1, rf2, rf3, rf4, rf5, rf6⟩ := HR.out.c7))
    refine bodyPost_ret_by (v := .tuple #[.agg #[.string ⟨#[]⟩, .int .i64 0, .int .i64 0, .int .i64 0, .bool false, .slice none 0 0, .slice none 0 0], .int .i64 6]) (by simp [results, Tryz.f23, go_sem, r0, r1, r2, r3, r4, r5, r6, rf0, rf1, rf2, rf3, rf4, rf5, rf6]) rfl ⟨rfl, ?_⟩
    exact (((((((HB.out.setCell (show w.heap.size ≤ w.heap.size + 1 + 1 by omega) _).setCell (show w.heap.size ≤ w.heap.size + 1 + 1 by omega) _).setCell (show w.heap.size ≤ w.heap.size + 1 + 1 by omega) _).setCell (show w.heap.size ≤ w.heap.size + 1 + 1 by omega) _).setCell (show w.heap.size ≤ w.heap.size + 1 + 1 by omega) _).setCell (show w.heap.size ≤ w.heap.size + 1 + 1 by omega) _).setCell (show w.heap.size ≤ w.heap.size + 1 + 1 by omega) _)

set_option maxRecDepth 100000 in
set_option maxHeartbeats 8000000 in
theorem r30_mwo_sevenK (tz st ti : Int) (bl : Bool) (fr : Txt) (sv fv : Value) (su : List Sb) (fd : List Fdr) (sn : Int) (w : World) (w0 : World) (ha : SbsAt w0 sv su) (hb0 : Below w0.heap.size w0 w) (hf : FdsAt w fv fd) (hx : fr.length ≤ 60) (hl : ∀ i, i < fd.length → (fdv fd i).fr.length ≤ 60) (h0 : maE fr tz st ti su fd = 0) (hh : hasI su sn = true) :
    Calls Tryz.prog 23 #[.agg #[.string ⟨(fr).toArray⟩, .int .i64 tz, .int .i64 st, .int .i64 ti, .bool (bl), sv, fv], .agg #[.int .i64 7, .int .i64 sn]] w fun e w' => ∃ pp cc, e = .returned (.tuple #[.agg #[.string ⟨(fr).toArray⟩, .int .i64 tz, .int .i64 st, .int .i64 ti, .bool (bl), .slice pp (dropL su sn).length cc, fv], .int .i64 0]) ∧ SbsK w0 w w' (.slice pp (dropL su sn).length cc) (dropL su sn) ∧ Below w.heap.size w w' := by
  obtain ⟨ps, zs, rfl⟩ : ∃ ps zs, sv = .slice ps su.length zs := by obtain ⟨a, b, e, -⟩ := ha; exact ⟨a, b, e⟩
  obtain ⟨pf, zf, rfl⟩ : ∃ pf zf, fv = .slice pf fd.length zf := by obtain ⟨a, b, e, -⟩ := hf; exact ⟨a, b, e⟩
  have HB00 := Lib.hid hb0; clear hb0
  have HA := Lib.hid ha; clear ha
  have hs : SbsAt w (.slice ps su.length zs) su := SbsAt.kept HA.out HB00.out
  have hpl := fun W (h : SbsAt W (.slice ps su.length zs) su) => r26_place su sn (.slice ps su.length zs) W h (by have := (tabOk (maE_zero h0).2.1).few; omega)
  have ht := tabOk (maE_zero h0).2.1
  have H16 := Lib.hid ht.few
  have HH := Lib.hid hh
  have hv2 : Hid (su ≠ [] → ∃ b o, ps = Option.some ⟨b, o, none⟩ ∧ b < w.heap.size ∧ SbsC w b o su) := by
    obtain ⟨p, c, e, -, hv1⟩ := hs
    injection e with e1 e2 e3
    subst e1
    exact Lib.hid hv1
  have hal := ((((Below.refl w.heap.size w).alloc (Nat.le_refl _) (.cells #[.string ⟨(fr).toArray⟩, .int .i64 tz, .int .i64 st, .int .i64 ti, .bool (bl), (.slice ps su.length zs), (.slice pf fd.length zf)] 32)).alloc (by simp) (.cells #[.int .i64 7, .int .i64 sn] 43)).alloc (by rw [World.size_alloc, World.size_alloc]; omega) (.cells #[.string ⟨#[]⟩, .int .i64 0, .int .i64 0, .int .i64 0, .bool false, .slice none 0 0, .slice none 0 0] 32))
  have HB := Lib.hid hal
  have hk := ((Blk.new (w) 32 #[.string ⟨(fr).toArray⟩, .int .i64 tz, .int .i64 st, .int .i64 ti, .bool (bl), (.slice ps su.length zs), (.slice pf fd.length zf)]).alloc (.cells #[.int .i64 7, .int .i64 sn] 43)).alloc (.cells #[.string ⟨#[]⟩, .int .i64 0, .int .i64 0, .int .i64 0, .bool false, .slice none 0 0, .slice none 0 0] 32)
  have HK := Lib.hid hk; clear hk
  have hx := (Blk.new (w.alloc (.cells #[.string ⟨(fr).toArray⟩, .int .i64 tz, .int .i64 st, .int .i64 ti, .bool (bl), (.slice ps su.length zs), (.slice pf fd.length zf)] 32)) 43 #[.int .i64 7, .int .i64 sn]).alloc (.cells #[.string ⟨#[]⟩, .int .i64 0, .int .i64 0, .int .i64 0, .bool false, .slice none 0 0, .slice none 0 0] 32)
  simp only [World.size_alloc] at hx
  have HX := Lib.hid hx; clear hx
  have hr := Blk.new ((w.alloc (.cells #[.string ⟨(fr).toArray⟩, .int .i64 tz, .int .i64 st, .int .i64 ti, .bool (bl), (.slice ps su.length zs), (.slice pf fd.length zf)] 32)).alloc (.cells #[.int .i64 7, .int .i64 sn] 43)) 32 #[.string ⟨#[]⟩, .int .i64 0, .int .i64 0, .int .i64 0, .bool false, .slice none 0 0, .slice none 0 0]
  simp only [World.size_alloc] at hr
  have HR := Lib.hid hr; clear hr
  obtain ⟨k0, k1, k2, k3, k4, k5, k6, kf0, kf1, kf2, kf3, kf4, kf5, kf6⟩ := HK.out.c7
  obtain ⟨x0, x1, xf0, xf1⟩ := HX.out.c2
  obtain ⟨r0, r1, r2, r3, r4, r5, r6, rf0, rf1, rf2, rf3, rf4, rf5, rf6⟩ := HR.out.c7
  have HS := Lib.hid (SbsAt.kept hs hal)
  have HF := Lib.hid (FdsAt.kept hf hal)
  clear hal
  clear hs hf
  have hc := fun W (h1 : SbsAt W (.slice ps su.length zs) su) (h2 : FdsAt W (.slice pf fd.length zf) fd) => r30_check tz st ti bl fr (.slice ps su.length zs) (.slice pf fd.length zf) su fd W h1 h2 (by omega) (fun i hi => Nat.le_trans (hl i hi) (by omega))
  rw [h0] at hc
  clear h0 hl
  rcases place_find su sn with ⟨i, hi, e1, e2⟩ | ⟨e1, e2⟩
  · have hin : (sbv su i).inh = true := by rw [← has_place ht hi e2]; exact hh
    clear ht hh e2
    rw [e1] at hpl
    clear e1
    have h0i : ¬ (i : Int) < (0 : Int) := by omega
    have h0j : (0 : Int) ≤ (i : Int) := by omega
    have hi2 : (i : Int) < (su.length : Int) := by omega
    have HC := Lib.hid hc; clear hc
    have HPL := Lib.hid hpl; clear hpl
    go_enter Tryz.func23, Tryz.ntmps23
    go_upto_region 9 with (first | (with_reducible refine ((HC.out _ HS.out HF.out).mono ?_); rintro e w' ⟨rfl, hb⟩; replace HK := Lib.hid (HK.out.keep hb); clear k0 k1 k2 k3 k4 k5 k6 kf0 kf1 kf2 kf3 kf4 kf5 kf6; replace HX := Lib.hid (HX.out.keep hb); clear x0 x1 xf0 xf1; replace HR := Lib.hid (HR.out.keep hb); clear r0 r1 r2 r3 r4 r5 r6 rf0 rf1 rf2 rf3 rf4 rf5 rf6; replace HS := Lib.hid (SbsAt.kept HS.out hb); replace HF := Lib.hid (FdsAt.kept HF.out hb); replace HB := Lib.hid (bch' HB.out hb); clear hb; obtain ⟨k0, k1, k2, k3, k4, k5, k6, kf0, kf1, kf2, kf3, kf4, kf5, kf6⟩ := HK.out.c7; obtain ⟨x0, x1, xf0, xf1⟩ := HX.out.c2; obtain ⟨r0, r1, r2, r3, r4, r5, r6, rf0, rf1, rf2, rf3, rf4, rf5, rf6⟩ := HR.out.c7) | (with_reducible refine ((HPL.out _ HS.out).mono ?_); rintro e w' ⟨rfl, hb⟩; replace HK := Lib.hid (HK.out.keep hb); clear k0 k1 k2 k3 k4 k5 k6 kf0 kf1 kf2 kf3 kf4 kf5 kf6; replace HX := Lib.hid (HX.out.keep hb); clear x0 x1 xf0 xf1; replace HR := Lib.hid (HR.out.keep hb); clear r0 r1 r2 r3 r4 r5 r6 rf0 rf1 rf2 rf3 rf4 rf5 rf6; replace HS := Lib.hid (SbsAt.kept HS.out hb); replace HF := Lib.hid (FdsAt.kept HF.out hb); replace HB := Lib.hid (bch' HB.out hb); clear hb; obtain ⟨k0, k1, k2, k3, k4, k5, k6, kf0, kf1, kf2, kf3, kf4, kf5, kf6⟩ := HK.out.c7; obtain ⟨x0, x1, xf0, xf1⟩ := HX.out.c2; obtain ⟨r0, r1, r2, r3, r4, r5, r6, rf0, rf1, rf2, rf3, rf4, rf5, rf6⟩ := HR.out.c7))
    obtain ⟨b, o, rfl, hb, hC⟩ := hv2.out (fun h => by subst h; simp at hi)
    obtain ⟨z1, z2, z3, -⟩ := hC.below HB.out hb i hi
    clear hC
    have hbr : b < w'.heap.size := by have := HB.out.size; omega
    rw [hin] at z3
    have hfr := fun W (h : Below w0.heap.size w0 W) => r30_freed_seven tz st ti bl fr W (some ⟨b, o, none⟩) pf zs zf su fd sn w0 HA.out h H16.out
    have HFR := Lib.hid hfr; clear hfr
    go_wp2_with fail
    refine ((HFR.out _ (bch' HB00.out HB.out)).mono ?_)
    rintro e w9 ⟨pp, cc, L, rfl, hO, hga, hle, hb9⟩
    have HWL : Hid (w.heap.size ≤ w'.heap.size) := Lib.hid HB.out.size
    have HO := Lib.hid hO; have HGA := Lib.hid hga; have HLE := Lib.hid hle; clear hO hga hle
    have HRL : Hid (w.heap.size + 1 + 1 < w'.heap.size) := Lib.hid HR.out.lt
    replace HK := Lib.hid (HK.out.keep hb9); clear k0 k1 k2 k3 k4 k5 k6 kf0 kf1 kf2 kf3 kf4 kf5 kf6; replace HX := Lib.hid (HX.out.keep hb9); clear x0 x1 xf0 xf1; replace HR := Lib.hid (HR.out.keep hb9); clear r0 r1 r2 r3 r4 r5 r6 rf0 rf1 rf2 rf3 rf4 rf5 rf6; replace HB := Lib.hid (bch' HB.out hb9); clear hb9; obtain ⟨k0, k1, k2, k3, k4, k5, k6, kf0, kf1, kf2, kf3, kf4, kf5, kf6⟩ := HK.out.c7; obtain ⟨x0, x1, xf0, xf1⟩ := HX.out.c2; obtain ⟨r0, r1, r2, r3, r4, r5, r6, rf0, rf1, rf2, rf3, rf4, rf5, rf6⟩ := HR.out.c7
    clear HS HF
    go_wp2_with fail
    refine bodyPost_ret_by (v := .tuple #[.agg #[.string ⟨(fr).toArray⟩, .int .i64 tz, .int .i64 st, .int .i64 ti, .bool (bl), .slice pp L.length cc, (.slice pf fd.length zf)], .int .i64 0]) (by simp [results, Tryz.f23, go_sem, r0, r1, r2, r3, r4, r5, r6, rf0, rf1, rf2, rf3, rf4, rf5, rf6]) rfl ⟨pp, cc, ?_, ?_, ?_⟩
    · rw [← maps_len HLE.out]
    · exact SbsK.own (W := w) ((HO.out.far (far_set7 (w' := w9) (w := w9) (fun _ _ => rfl) (n := w.heap.size + 1 + 1) HRL.out (.string ⟨(fr).toArray⟩) (.int .i64 tz) (.int .i64 st) (.int .i64 ti) (.bool (bl)) (.slice pp L.length cc) ((.slice pf fd.length zf)))).base HWL.out) HGA.out HLE.out
    · exact (((((((HB.out.setCell (show w.heap.size ≤ w.heap.size + 1 + 1 by omega) _).setCell (show w.heap.size ≤ w.heap.size + 1 + 1 by omega) _).setCell (show w.heap.size ≤ w.heap.size + 1 + 1 by omega) _).setCell (show w.heap.size ≤ w.heap.size + 1 + 1 by omega) _).setCell (show w.heap.size ≤ w.heap.size + 1 + 1 by omega) _).setCell (show w.heap.size ≤ w.heap.size + 1 + 1 by omega) _).setCell (show w.heap.size ≤ w.heap.size + 1 + 1 by omega) _)
  · rw [has_no e2] at hh
    exact absurd hh (by decide)

theorem r30_mwo_ok (tz st ti : Int) (bl : Bool) (fr : Txt) (sv fv : Value) (su : List Sb) (fd : List Fdr) (sk sn : Int) (w : World) (w0 : World) (ha : SbsAt w0 sv su) (hb0 : Below w0.heap.size w0 w) (hf : FdsAt w fv fd) (hx : fr.length ≤ 60) (hl : ∀ i, i < fd.length → (fdv fd i).fr.length ≤ 60) (h0 : maE fr tz st ti su fd = 0) (hw : woE sk sn su = 0) :
    Calls Tryz.prog 23 #[.agg #[.string ⟨(fr).toArray⟩, .int .i64 tz, .int .i64 st, .int .i64 ti, .bool (bl), sv, fv], .agg #[.int .i64 sk, .int .i64 sn]] w fun e w' => ∃ pp cc, e = .returned (.tuple #[.agg #[.string ⟨(aFr [(sk, sn)] fr).toArray⟩, .int .i64 (aTo [(sk, sn)] tz), .int .i64 (aZe [(sk, sn)] st), .int .i64 (aZe [(sk, sn)] ti), .bool (aBl [(sk, sn)] bl), .slice pp (aSu [(sk, sn)] su).length cc, fv], .int .i64 0]) ∧ SbsK w0 w w' (.slice pp (aSu [(sk, sn)] su).length cc) (aSu [(sk, sn)] su) ∧ Below w.heap.size w w' := by
  obtain ⟨ps, zs, rfl⟩ : ∃ ps zs, sv = .slice ps su.length zs := by obtain ⟨a, b, e, -⟩ := ha; exact ⟨a, b, e⟩
  obtain ⟨pf, zf, rfl⟩ : ∃ pf zf, fv = .slice pf fd.length zf := by obtain ⟨a, b, e, -⟩ := hf; exact ⟨a, b, e⟩
  have hs : SbsAt w (.slice ps su.length zs) su := SbsAt.kept ha hb0
  rcases woE_cases hw with ⟨rfl, rfl⟩ | ⟨rfl, rfl⟩ | ⟨rfl, hh⟩
  · rw [aSu_other (by omega), aBl_five]
    exact (r30_mwo_five tz st ti bl fr (.slice ps su.length zs) (.slice pf fd.length zf) su fd w hs hf hx hl h0).mono fun e w' h => ⟨ps, zs, h.1, SbsK.old ha, h.2⟩
  · rw [aSu_other (by omega), aBl_six]
    exact (r30_mwo_six tz st ti bl fr (.slice ps su.length zs) (.slice pf fd.length zf) su fd w hs hf hx hl h0).mono fun e w' h => ⟨ps, zs, h.1, SbsK.old ha, h.2⟩
  · rw [aSu_seven, aBl_seven, free_drop (tabOk (maE_zero h0).2.1) hh]
    exact r30_mwo_sevenK tz st ti bl fr (.slice ps su.length zs) (.slice pf fd.length zf) su fd sn w w0 ha hb0 hf hx hl h0 hh

theorem r30_mwo_no (tz st ti : Int) (bl : Bool) (fr : Txt) (sv fv : Value) (su : List Sb) (fd : List Fdr) (sk sn : Int) (w : World) (hs : SbsAt w sv su) (hf : FdsAt w fv fd) (hx : fr.length ≤ 60) (hl : ∀ i, i < fd.length → (fdv fd i).fr.length ≤ 60) (hz : ¬ wfE fr tz st ti su fd sk sn = 0) :
    Calls Tryz.prog 23 #[.agg #[.string ⟨(fr).toArray⟩, .int .i64 tz, .int .i64 st, .int .i64 ti, .bool (bl), sv, fv], .agg #[.int .i64 sk, .int .i64 sn]] w fun e w' => e = .returned (.tuple #[.agg #[.string ⟨#[]⟩, .int .i64 0, .int .i64 0, .int .i64 0, .bool false, .slice none 0 0, .slice none 0 0], .int .i64 (wfE fr tz st ti su fd sk sn)]) ∧ Below w.heap.size w w' := by
  by_cases h : maE fr tz st ti su fd = 0 ∧ sk = 7
  · obtain ⟨h0, rfl⟩ := h
    have hh : hasI su sn = false := by
      cases g : hasI su sn
      · rfl
      · exact absurd (by rw [wfE_wo h0]; exact woE_has g) hz
    rw [wfE_wo h0, woE_no hh]
    exact r30_mwo_none tz st ti bl fr sv fv su fd sn w hs hf hx hl h0 hh
  · exact r30_mwo_bad tz st ti bl fr sv fv su fd sk sn w hs hf hx hl (fun h0 h7 => h ⟨h0, h7⟩) hz
end Go.Proofs.YtkjelfmgnkkijaaGreatDoor

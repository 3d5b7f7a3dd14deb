/-
  Submasters of the program: Move. Submasters: Amount of the program; given, Level, Given, Amount, Factor of the reference. Law 26: Front, Dim, standing; awake. Law 26: the program and the reference at once; the law SubmasterGives.
-/
import Derived.Test.YtkjelfmgnkkijaaGreatDoorQtSa
import Derived.Test.YtkjelfmgnkkijaaGreatDoorSc
import Derived.Test.YtkjelfmgnkkijaaGreatDoorQtSq
import Derived.Test.YtkjelfmgnkkijaaGreatDoorQtGk
import Derived.Outline
import Derived.Test.YtkjelfmgnkkijaaGreatDoorQtR2
import Derived.Test.YtkjelfmgnkkijaaGreatDoorQtNf
set_option linter.unusedVariables false
set_option linter.unusedSimpArgs false
namespace Lum
open Go Go.RowKit Go.Shelf
open Go.Lib (decDigits itoa)
theorem set_flat (x : Fdr) : ∀ (l : List Fdr) (i : Nat), i < l.length → (((((((l.flatMap encF).set (i * 6) (.int .i64 x.su)).set (i * 6 + 1) (.string ⟨(x.fr).toArray⟩)).set (i * 6 + 2) (.int .i64 x.tz)).set (i * 6 + 3) (.int .i64 x.st)).set (i * 6 + 4) (.int .i64 x.ti)).set (i * 6 + 5) (.int .i64 x.stp)) = (l.set i x).flatMap encF := by
  intro l
  induction l with
  | nil => intro i h; simp at h
  | cons y r ih =>
    intro i h
    cases i with
    | zero => simp [encF, List.flatMap_cons]
    | succ i =>
      have ih2 := ih i (by simpa using h)
      rw [List.set_cons_succ, List.flatMap_cons, List.flatMap_cons, ← ih2]
      have k : ∀ (t : List Value) (j : Nat) (v : Value), (encF y ++ t).set ((i + 1) * 6 + j) v = encF y ++ t.set (i * 6 + j) v := by
        intro t j v
        rw [List.set_append_right _ _ (by rw [encF_len]; omega), encF_len, show (i + 1) * 6 + j - 6 = i * 6 + j by omega]
      have k0 : ∀ (t : List Value) (v : Value), (encF y ++ t).set ((i + 1) * 6) v = encF y ++ t.set (i * 6) v := fun t v => k t 0 v
      rw [k0, k, k, k, k, k]
theorem OwnR.set6 {base : Nat} {e : TypeId} {W : World} {g c : Nat} {l : List Fdr} (h : OwnR encF 6 base e W (some ⟨g, 0, none⟩) c l) (x : Fdr) {i : Nat} (hi : i < l.length) : OwnR encF 6 base e ((((((W.setCell ⟨g, i * 6, none⟩ (.int .i64 x.su)).setCell ⟨g, i * 6 + 1, none⟩ (.string ⟨(x.fr).toArray⟩)).setCell ⟨g, i * 6 + 2, none⟩ (.int .i64 x.tz)).setCell ⟨g, i * 6 + 3, none⟩ (.int .i64 x.st)).setCell ⟨g, i * 6 + 4, none⟩ (.int .i64 x.ti)).setCell ⟨g, i * 6 + 5, none⟩ (.int .i64 x.stp)) (some ⟨g, 0, none⟩) c (l.set i x) := by
  obtain ⟨h1, h2⟩ := h
  rcases h2 with ⟨h2, -⟩ | ⟨g2, cap, cur, hv, hg, hh, h5, h6, h7, h8⟩
  · cases h2
  · injection hv with hv1 hv2 hv3
    obtain rfl : g = g2 := by have := Option.some.inj hv1; injection this
    subst hv3
    have hb : Blk W g e cur := hh
    have hc := (((((hb.set_ (i * 6) (.int .i64 x.su)).set_ (i * 6 + 1) (.string ⟨(x.fr).toArray⟩)).set_ (i * 6 + 2) (.int .i64 x.tz)).set_ (i * 6 + 3) (.int .i64 x.st)).set_ (i * 6 + 4) (.int .i64 x.ti)).set_ (i * 6 + 5) (.int .i64 x.stp)
    refine ⟨by rw [flat_len encF_len, List.length_set], .inr ⟨g, c, ((((((cur.setIfInBounds (i * 6) (.int .i64 x.su)).setIfInBounds (i * 6 + 1) (.string ⟨(x.fr).toArray⟩)).setIfInBounds (i * 6 + 2) (.int .i64 x.tz)).setIfInBounds (i * 6 + 3) (.int .i64 x.st)).setIfInBounds (i * 6 + 4) (.int .i64 x.ti)).setIfInBounds (i * 6 + 5) (.int .i64 x.stp)), by rw [List.length_set], hg, hc, by rw [List.length_set]; exact h5, h6, by simp only [Array.size_setIfInBounds]; exact h7, ?_⟩⟩
    rw [List.length_set, ← set_flat x l i hi, ← h8]
    simp only [Array.toList_setIfInBounds, List.take_set]
theorem OwnR.blk {base : Nat} {e : TypeId} {W : World} {p : Option Addr} {c : Nat} {l : List Fdr} (h : OwnR encF 6 base e W p c l) (hn : l ≠ []) : ∃ g cur, p = some ⟨g, 0, none⟩ ∧ base ≤ g ∧ Blk W g e cur ∧ l.length ≤ c ∧ c ≤ maxLen ∧ ∀ (i : Nat), i < l.length → W.cell? ⟨g, i * 6, none⟩ = some (.int .i64 (fdv l i).su) ∧ W.cell? ⟨g, i * 6 + 1, none⟩ = some (.string ⟨((fdv l i).fr).toArray⟩) ∧ W.cell? ⟨g, i * 6 + 2, none⟩ = some (.int .i64 (fdv l i).tz) ∧ W.cell? ⟨g, i * 6 + 3, none⟩ = some (.int .i64 (fdv l i).st) ∧ W.cell? ⟨g, i * 6 + 4, none⟩ = some (.int .i64 (fdv l i).ti) ∧ W.cell? ⟨g, i * 6 + 5, none⟩ = some (.int .i64 (fdv l i).stp) := by
  have hat := h.at_ encF_len hn
  have hlen : l.length ≠ 0 := fun e => hn (List.length_eq_zero_iff.1 e)
  rcases h.2 with ⟨h2, h3⟩ | ⟨g, cap, cur, hv, hg, hh, h5, h6, -⟩
  · exact absurd h3 hlen
  · injection hv with hv1 hv2 hv3
    subst hv1 hv3
    refine ⟨g, cur, rfl, hg, hh, h5, h6, fun i hi => ?_⟩
    obtain ⟨b, hp, hb, hc⟩ := hat
    obtain rfl : g = b := by have := Option.some.inj hp; injection this
    have hx := hc i hi
    rw [← fdv_at hi]
    simp only [Nat.zero_add] at hx
    exact ⟨hx 0 _ rfl, hx 1 _ rfl, hx 2 _ rfl, hx 3 _ rfl, hx 4 _ rfl, hx 5 _ rfl⟩
end Lum
namespace Go.Proofs.YtkjelfmgnkkijaaGreatDoor
open Go.RowKit Go.Shelf Lum
open Go.Lib (decDigits itoa)
attribute [local go_sem] bs_get bs_extract_end bs_extract_from bs_extract bs_append

set_option maxRecDepth 100000 in
set_option maxHeartbeats 8000000 in
theorem own_smove_zero (nu pr t xo xi : Int) (inh : Bool) (gs : List Gn) (l : List Fdr) (gv lv : Value) (i : Nat) (w : World) (hv : GnsAt w gv gs) (hl : FdsAt w lv l) (hs : sbE ⟨nu, pr, inh, gs⟩ = 0) (hf : facE l = 0) (hlen : ∀ i, i < l.length → (fdv l i).fr.length ≤ 1000) (hm : mvIn t xo xi) (hb9 : Belongs (fun k => (fdv l k).su) l.length nu i true) (hz : lvlQ nu inh l t = 0) (env : Env w) :
    Calls Tryz.prog 32 #[.agg #[.int .i64 nu, .int .i64 pr, .bool (inh), gv], lv, .int .i64 t, .int .i64 xo, .int .i64 xi] w fun e w' => ∃ pp cc, e = .returned (.tuple #[.slice pp (insL l i true (mvF nu inh l t xo xi true)).length cc, .int .i64 0]) ∧ OwnR encF 6 w.heap.size 108 w' pp cc (insL l i true (mvF nu inh l t xo xi true)) ∧ Below w.heap.size w w' := by
  obtain ⟨pg, cg, rfl⟩ : ∃ pg cg, gv = .slice pg gs.length cg := by obtain ⟨pg, cg, e, -⟩ := hv; exact ⟨pg, cg, e⟩
  have ENV := Lib.hid env; clear env
  have hok : SubOk ⟨nu, pr, inh, gs⟩ := subOk hs
  have fok := facOk hf
  have hnew := fun W (h1 : GnsAt W (.slice pg gs.length cg) gs) (h2 : FdsAt W lv l) (e : Env W) => own_snew nu pr inh gs l (.slice pg gs.length cg) lv W h1 h2 hs hf hlen e
  have hg := fadG_fg (nu := nu) (inh := inh) fok
  have hx := fadG_lenK (nu := nu) (inh := inh) hlen
  unfold fgE at hg
  have hlv : ∀ (at_ : Int) (mv : Bool) W, Env W → Calls Tryz.prog 98 #[.agg #[.int .i64 nu, .int .i64 pr, .bool (inh), (.slice pg gs.length cg), .int .i64 ((fadG nu inh l).su), .string ⟨((fadG nu inh l).fr).toArray⟩, .int .i64 ((fadG nu inh l).tz), .int .i64 ((fadG nu inh l).st), .int .i64 ((fadG nu inh l).ti), .int .i64 ((fadG nu inh l).stp), .int .i64 at_, .bool (mv)], .int .i64 t] W fun e w' => e = .returned (.tuple #[.string ⟨(showR (lvlQ nu inh l t)).toArray⟩, .int .i64 0]) ∧ Below W.heap.size W w' := fun at_ mv W e => own_slevel nu pr inh (.slice pg gs.length cg) _ _ _ _ _ at_ t _ mv W hg (by omega) e
  have hgo := fun W (e : Env W) => own_ggo_ok (fadG nu inh l).fr (fadG nu inh l).tz (fadG nu inh l).st (fadG nu inh l).ti t xo xi W (by omega) (by rw [goE_in hg hm]) e
  have hcl := fun W (h : FdsAt W lv l) => own_fclone l lv W h (by have := fok.few; omega)
  have hnw : ∀ W, GnsAt W (.slice pg gs.length cg) gs → FdsAt W lv l → Env W → Calls Tryz.prog 97 #[.agg #[.int .i64 nu, .int .i64 pr, .bool (inh), (.slice pg gs.length cg)], lv] W fun e w' => e = .returned (.tuple #[.agg #[.int .i64 nu, .int .i64 pr, .bool (inh), (.slice pg gs.length cg), .int .i64 ((fadG nu inh l).su), .string ⟨((fadG nu inh l).fr).toArray⟩, .int .i64 ((fadG nu inh l).tz), .int .i64 ((fadG nu inh l).st), .int .i64 ((fadG nu inh l).ti), .int .i64 ((fadG nu inh l).stp), .int .i64 ((i : Int)), .bool (true)], .int .i64 0]) ∧ Below W.heap.size W w' := fun W a b c => (hnew W a b c).mono fun e w' ⟨i2, hh, he, hb'⟩ => by
    obtain ⟨rfl, h2⟩ := (halved_belongs fok.ord hh).uniq hb9
    rw [h2] at he
    exact ⟨he, hb'⟩
  clear hnew
  change ∀ W, Env W → Calls _ _ _ W (fun e w' => e = .returned (.tuple #[.agg #[.string ⟨(showR (lvlQ nu inh l t)).toArray⟩, .int .i64 xo, .int .i64 t, .int .i64 xi], .int .i64 0]) ∧ _) at hgo
  have hsu := fadG_su nu inh l
  have HFEW := Lib.hid fok.few
  have HIN := Lib.hid hb9
  have hil := hb9.le
  have HL0 := Lib.hid hl
  have HW := Lib.hid (Nat.le_refl w.heap.size)
  have hal := (Below.refl w.heap.size w).alloc (Nat.le_refl _) (.cells #[.int .i64 nu, .int .i64 pr, .bool (inh), (.slice pg gs.length cg)] 58)
  have HV := Lib.hid (GnsAt.kept hv hal)
  have HL := Lib.hid (FdsAt.kept hl hal)
  have HB := Lib.hid hal; clear hal
  have HK := Lib.hid (Blk.new w 58 #[.int .i64 nu, .int .i64 pr, .bool (inh), (.slice pg gs.length cg)])
  obtain ⟨k0, k1, k2, k3, kf0, kf1, kf2, kf3⟩ := HK.out.c4
  clear hs hf hv hl hlen hok fok hg hx hm hb9
  have hl0 : (showR (lvlQ nu inh l t) == [48]) = true := by rw [hz, showR_zero]; rfl
  have HZ := Lib.hid hz; clear hz
  generalize htl : showR (lvlQ nu inh l t) = tl at *
  have HTL := Lib.hid htl; clear htl
  have HSU := Lib.hid hsu; clear hsu
  have HNW := Lib.hid hnw; clear hnw
  have HLV := Lib.hid hlv; clear hlv
  have HGO := Lib.hid hgo; clear hgo
  have HCL := Lib.hid hcl; clear hcl
  go_enter Tryz.func32, Tryz.ntmps32
  go_wp2_with fail
  refine ((HNW.out _ HV.out HL.out (ENV.out.below HB.out)).mono ?_)
  rintro e w2 ⟨rfl, hb⟩
  have hal := (Below.refl w2.heap.size w2).alloc (Nat.le_refl _) (.cells #[.int .i64 nu, .int .i64 pr, .bool (inh), (.slice pg gs.length cg), .int .i64 ((fadG nu inh l).su), .string ⟨((fadG nu inh l).fr).toArray⟩, .int .i64 ((fadG nu inh l).tz), .int .i64 ((fadG nu inh l).st), .int .i64 ((fadG nu inh l).ti), .int .i64 ((fadG nu inh l).stp), .int .i64 ((i : Int)), .bool (true)] 157)
  replace HK := Lib.hid ((HK.out.keep hb).keep hal)
  replace HV := Lib.hid (GnsAt.kept (GnsAt.kept HV.out hb) hal)
  replace HL := Lib.hid (FdsAt.kept (FdsAt.kept HL.out hb) hal)
  have HX0 : Hid (w.heap.size + 1 ≤ w2.heap.size) := Lib.hid (by have := (HK.out.lt); have h2 := hb.size; have h3 := HB.out.size; simp at *; omega)
  replace HB := Lib.hid (bch' (bch' HB.out hb) hal)
  clear hb hal HNW
  clear k0 k1 k2 k3 kf0 kf1 kf2 kf3
  have HX := Lib.hid (Blk.new w2 157 #[.int .i64 nu, .int .i64 pr, .bool (inh), (.slice pg gs.length cg), .int .i64 ((fadG nu inh l).su), .string ⟨((fadG nu inh l).fr).toArray⟩, .int .i64 ((fadG nu inh l).tz), .int .i64 ((fadG nu inh l).st), .int .i64 ((fadG nu inh l).ti), .int .i64 ((fadG nu inh l).stp), .int .i64 ((i : Int)), .bool (true)])
  obtain ⟨x0, x1, x2, x3, x4, x5, x6, x7, x8, x9, x10, x11, xf0, xf1, xf2, xf3, xf4, xf5, xf6, xf7, xf8, xf9, xf10, xf11⟩ := HX.out.c12
  go_upto_region 10 with (first | (with_reducible refine ((HLV.out _ _ _ (ENV.out.below HB.out)).mono ?_); rintro e w' ⟨rfl, hb⟩; replace HX := Lib.hid (HX.out.keep hb); clear x0 x1 x2 x3 x4 x5 x6 x7 x8 x9 x10 x11 xf0 xf1 xf2 xf3 xf4 xf5 xf6 xf7 xf8 xf9 xf10 xf11; replace HV := Lib.hid (GnsAt.kept HV.out hb); replace HL := Lib.hid (FdsAt.kept HL.out hb); replace HB := Lib.hid (bch' HB.out hb); clear hb; obtain ⟨x0, x1, x2, x3, x4, x5, x6, x7, x8, x9, x10, x11, xf0, xf1, xf2, xf3, xf4, xf5, xf6, xf7, xf8, xf9, xf10, xf11⟩ := HX.out.c12) | (with_reducible refine ((HGO.out _ (ENV.out.below HB.out)).mono ?_); rintro e w' ⟨rfl, hb⟩; replace HX := Lib.hid (HX.out.keep hb); clear x0 x1 x2 x3 x4 x5 x6 x7 x8 x9 x10 x11 xf0 xf1 xf2 xf3 xf4 xf5 xf6 xf7 xf8 xf9 xf10 xf11; replace HV := Lib.hid (GnsAt.kept HV.out hb); replace HL := Lib.hid (FdsAt.kept HL.out hb); replace HB := Lib.hid (bch' HB.out hb); clear hb; obtain ⟨x0, x1, x2, x3, x4, x5, x6, x7, x8, x9, x10, x11, xf0, xf1, xf2, xf3, xf4, xf5, xf6, xf7, xf8, xf9, xf10, xf11⟩ := HX.out.c12))
  have hal := (Below.refl w'.heap.size w').alloc (Nat.le_refl _) (.cells #[.string ⟨(tl).toArray⟩, .int .i64 xo, .int .i64 t, .int .i64 xi] 24)
  have HG := Lib.hid (Blk.new w' 24 #[.string ⟨(tl).toArray⟩, .int .i64 xo, .int .i64 t, .int .i64 xi])
  have hgx : w'.heap.size ≠ w2.heap.size := by have := HX.out.lt; omega
  replace HX := Lib.hid (HX.out.keep hal)
  replace HB := Lib.hid (bch' HB.out hal)
  clear hal HV HK HL
  clear x0 x1 x2 x3 x4 x5 x6 x7 x8 x9 x10 x11 xf0 xf1 xf2 xf3 xf4 xf5 xf6 xf7 xf8 xf9 xf10 xf11
  generalize w'.alloc (.cells #[.string ⟨(tl).toArray⟩, .int .i64 xo, .int .i64 t, .int .i64 xi] 24) = w5 at *
  generalize w'.heap.size = G at *
  obtain ⟨x0, x1, x2, x3, x4, x5, x6, x7, x8, x9, x10, x11, xf0, xf1, xf2, xf3, xf4, xf5, xf6, xf7, xf8, xf9, xf10, xf11⟩ := HX.out.c12
  obtain ⟨g0, g1, g2, g3, gf0, gf1, gf2, gf3⟩ := HG.out.c4
  have hle : w.heap.size ≤ w2.heap.size := by have := HX0.out; omega
  go_upto_region 12 with fail
  have HX2 : Hid (Blk (w5.setCell ⟨w2.heap.size, 9, none⟩ (.int .i64 t)) w2.heap.size 157 #[.int .i64 nu, .int .i64 pr, .bool (inh), (.slice pg gs.length cg), .int .i64 ((fadG nu inh l).su), .string ⟨((fadG nu inh l).fr).toArray⟩, .int .i64 ((fadG nu inh l).tz), .int .i64 ((fadG nu inh l).st), .int .i64 ((fadG nu inh l).ti), .int .i64 t, .int .i64 ((i : Int)), .bool (true)]) := Lib.hid (HX.out.set_ 9 (.int .i64 t))
  have HG2 := Lib.hid (HG.out.far (p := ⟨w2.heap.size, 9, none⟩) hgx (.int .i64 t))
  have HB2 := Lib.hid (HB.out.setCell (p := ⟨w2.heap.size, 9, none⟩) hle (.int .i64 t))
  clear x0 x1 x2 x3 x4 x5 x6 x7 x8 x9 x10 x11 xf0 xf1 xf2 xf3 xf4 xf5 xf6 xf7 xf8 xf9 xf10 xf11
  clear g0 g1 g2 g3 gf0 gf1 gf2 gf3
  clear HX HG HB
  generalize w5.setCell ⟨w2.heap.size, 9, none⟩ (.int .i64 t) = w6 at *
  have HX := HX2; have HG := HG2; have HB := HB2; clear HX2 HG2 HB2
  obtain ⟨x0, x1, x2, x3, x4, x5, x6, x7, x8, x9, x10, x11, xf0, xf1, xf2, xf3, xf4, xf5, xf6, xf7, xf8, xf9, xf10, xf11⟩ := HX.out.c12
  obtain ⟨g0, g1, g2, g3, gf0, gf1, gf2, gf3⟩ := HG.out.c4
  go_upto_region 13 with fail
  have HX2 : Hid (Blk ((((w6.setCell ⟨w2.heap.size, 5, none⟩ (.string ⟨(tl).toArray⟩)).setCell ⟨w2.heap.size, 6, none⟩ (.int .i64 xo)).setCell ⟨w2.heap.size, 7, none⟩ (.int .i64 t)).setCell ⟨w2.heap.size, 8, none⟩ (.int .i64 xi)) w2.heap.size 157 #[.int .i64 nu, .int .i64 pr, .bool (inh), (.slice pg gs.length cg), .int .i64 ((fadG nu inh l).su), .string ⟨(tl).toArray⟩, .int .i64 xo, .int .i64 t, .int .i64 xi, .int .i64 t, .int .i64 ((i : Int)), .bool (true)]) := Lib.hid (HX.out.gl12 (.string ⟨(tl).toArray⟩) (.int .i64 xo) (.int .i64 t) (.int .i64 xi))
  have HB2 := Lib.hid ((((HB.out.setCell (p := ⟨w2.heap.size, 5, none⟩) hle (.string ⟨(tl).toArray⟩)).setCell (p := ⟨w2.heap.size, 6, none⟩) hle (.int .i64 xo)).setCell (p := ⟨w2.heap.size, 7, none⟩) hle (.int .i64 t)).setCell (p := ⟨w2.heap.size, 8, none⟩) hle (.int .i64 xi))
  clear x0 x1 x2 x3 x4 x5 x6 x7 x8 x9 x10 x11 xf0 xf1 xf2 xf3 xf4 xf5 xf6 xf7 xf8 xf9 xf10 xf11
  clear g0 g1 g2 g3 gf0 gf1 gf2 gf3
  clear HX HG HB
  generalize ((((w6.setCell ⟨w2.heap.size, 5, none⟩ (.string ⟨(tl).toArray⟩)).setCell ⟨w2.heap.size, 6, none⟩ (.int .i64 xo)).setCell ⟨w2.heap.size, 7, none⟩ (.int .i64 t)).setCell ⟨w2.heap.size, 8, none⟩ (.int .i64 xi)) = w7 at *
  have HX := HX2; have HB := HB2; clear HX2 HB2
  have HL := Lib.hid (FdsAt.kept HL0.out HB.out)
  obtain ⟨x0, x1, x2, x3, x4, x5, x6, x7, x8, x9, x10, x11, xf0, xf1, xf2, xf3, xf4, xf5, xf6, xf7, xf8, xf9, xf10, xf11⟩ := HX.out.c12
  go_wp2_with fail
  refine ((HCL.out _ HL.out).mono ?_)
  rintro e w3 ⟨pp, cc, rfl, ho, hb⟩
  have HO := Lib.hid ho; clear ho
  have HB7 : Hid (w.heap.size ≤ w7.heap.size) := Lib.hid HB.out.size
  have HH : Hid (w7.heap.size ≤ w3.heap.size) := Lib.hid hb.size
  have HX7 : Hid (w2.heap.size < w7.heap.size) := Lib.hid HX.out.lt
  replace HX := Lib.hid (HX.out.keep hb)
  clear x0 x1 x2 x3 x4 x5 x6 x7 x8 x9 x10 x11 xf0 xf1 xf2 xf3 xf4 xf5 xf6 xf7 xf8 xf9 xf10 xf11
  replace HB := Lib.hid (bch' HB.out hb)
  clear hb HCL
  obtain ⟨x0, x1, x2, x3, x4, x5, x6, x7, x8, x9, x10, x11, xf0, xf1, xf2, xf3, xf4, xf5, xf6, xf7, xf8, xf9, xf10, xf11⟩ := HX.out.c12
  obtain ⟨hi, -⟩ := HIN.out.yes rfl
  have hi0 : (0 : Int) ≤ (i : Int) := by omega
  have hi1 : (i : Int) < (l.length : Int) := by omega
  obtain ⟨g, cur, hpp, hg, hcur, hlc, hcm, hcells⟩ := HO.out.blk (fun h => by subst h; simp at hi)
  subst hpp
  obtain ⟨z0, z1, z2, z3, z4, z5⟩ := hcells i hi
  clear hcells
  have zf0 := hcur.frozen (i * 6)
  have zf1 := hcur.frozen (i * 6 + 1)
  have zf2 := hcur.frozen (i * 6 + 2)
  have zf3 := hcur.frozen (i * 6 + 3)
  have zf4 := hcur.frozen (i * 6 + 4)
  have zf5 := hcur.frozen (i * 6 + 5)
  have hgl := hcur.lt
  have hgx2 : g ≠ w2.heap.size := by have := HX.out.lt; have := HO.out.lt _ rfl; have h7 := HX7.out; dsimp only at *; omega
  have hgx3 : w2.heap.size ≠ g := fun h => hgx2 h.symm
  clear hcur hcm
  have HGB : Hid (w.heap.size ≤ g) := Lib.hid (Nat.le_trans HB7.out hg)
  clear hg
  go_wp2_with fail
  go_ret2
  have hmv : mvF nu inh l t xo xi true = (⟨(fadG nu inh l).su, tl, xo, t, xi, t⟩ : Fdr) := by rw [mvF_zero HZ.out, HTL.out]
  refine ⟨some ⟨g, 0, none⟩, cc, by first | (rw [insL_len_hit hi]; done) | (rw [insL_len_hit hi]; rfl), ?_, ?_⟩
  · rw [hmv, insL_set hi]
    exact (OwnR.set6 HO.out (⟨(fadG nu inh l).su, tl, xo, t, xi, t⟩ : Fdr) hi).lower HB7.out
  · exact (((((HB.out.setCell HGB.out _).setCell HGB.out _).setCell HGB.out _).setCell HGB.out _).setCell HGB.out _).setCell HGB.out _

set_option maxRecDepth 100000 in
set_option maxHeartbeats 8000000 in
theorem own_smove_on (nu pr t xo xi : Int) (inh : Bool) (gs : List Gn) (l : List Fdr) (gv lv : Value) (i : Nat) (w : World) (hv : GnsAt w gv gs) (hl : FdsAt w lv l) (hs : sbE ⟨nu, pr, inh, gs⟩ = 0) (hf : facE l = 0) (hlen : ∀ i, i < l.length → (fdv l i).fr.length ≤ 1000) (hm : mvIn t xo xi) (hb9 : Belongs (fun k => (fdv l k).su) l.length nu i true) (hz : ¬ lvlQ nu inh l t = 0) (env : Env w) :
    Calls Tryz.prog 32 #[.agg #[.int .i64 nu, .int .i64 pr, .bool (inh), gv], lv, .int .i64 t, .int .i64 xo, .int .i64 xi] w fun e w' => ∃ pp cc, e = .returned (.tuple #[.slice pp (insL l i true (mvF nu inh l t xo xi true)).length cc, .int .i64 0]) ∧ OwnR encF 6 w.heap.size 108 w' pp cc (insL l i true (mvF nu inh l t xo xi true)) ∧ Below w.heap.size w w' := by
  obtain ⟨pg, cg, rfl⟩ : ∃ pg cg, gv = .slice pg gs.length cg := by obtain ⟨pg, cg, e, -⟩ := hv; exact ⟨pg, cg, e⟩
  have ENV := Lib.hid env; clear env
  have hok : SubOk ⟨nu, pr, inh, gs⟩ := subOk hs
  have fok := facOk hf
  have hnew := fun W (h1 : GnsAt W (.slice pg gs.length cg) gs) (h2 : FdsAt W lv l) (e : Env W) => own_snew nu pr inh gs l (.slice pg gs.length cg) lv W h1 h2 hs hf hlen e
  have hg := fadG_fg (nu := nu) (inh := inh) fok
  have hx := fadG_lenK (nu := nu) (inh := inh) hlen
  unfold fgE at hg
  have hlv : ∀ (at_ : Int) (mv : Bool) W, Env W → Calls Tryz.prog 98 #[.agg #[.int .i64 nu, .int .i64 pr, .bool (inh), (.slice pg gs.length cg), .int .i64 ((fadG nu inh l).su), .string ⟨((fadG nu inh l).fr).toArray⟩, .int .i64 ((fadG nu inh l).tz), .int .i64 ((fadG nu inh l).st), .int .i64 ((fadG nu inh l).ti), .int .i64 ((fadG nu inh l).stp), .int .i64 at_, .bool (mv)], .int .i64 t] W fun e w' => e = .returned (.tuple #[.string ⟨(showR (lvlQ nu inh l t)).toArray⟩, .int .i64 0]) ∧ Below W.heap.size W w' := fun at_ mv W e => own_slevel nu pr inh (.slice pg gs.length cg) _ _ _ _ _ at_ t _ mv W hg (by omega) e
  have hgo := fun W (e : Env W) => own_ggo_ok (fadG nu inh l).fr (fadG nu inh l).tz (fadG nu inh l).st (fadG nu inh l).ti t xo xi W (by omega) (by rw [goE_in hg hm]) e
  have hcl := fun W (h : FdsAt W lv l) => own_fclone l lv W h (by have := fok.few; omega)
  have hnw : ∀ W, GnsAt W (.slice pg gs.length cg) gs → FdsAt W lv l → Env W → Calls Tryz.prog 97 #[.agg #[.int .i64 nu, .int .i64 pr, .bool (inh), (.slice pg gs.length cg)], lv] W fun e w' => e = .returned (.tuple #[.agg #[.int .i64 nu, .int .i64 pr, .bool (inh), (.slice pg gs.length cg), .int .i64 ((fadG nu inh l).su), .string ⟨((fadG nu inh l).fr).toArray⟩, .int .i64 ((fadG nu inh l).tz), .int .i64 ((fadG nu inh l).st), .int .i64 ((fadG nu inh l).ti), .int .i64 ((fadG nu inh l).stp), .int .i64 ((i : Int)), .bool (true)], .int .i64 0]) ∧ Below W.heap.size W w' := fun W a b c => (hnew W a b c).mono fun e w' ⟨i2, hh, he, hb'⟩ => by
    obtain ⟨rfl, h2⟩ := (halved_belongs fok.ord hh).uniq hb9
    rw [h2] at he
    exact ⟨he, hb'⟩
  clear hnew
  change ∀ W, Env W → Calls _ _ _ W (fun e w' => e = .returned (.tuple #[.agg #[.string ⟨(showR (lvlQ nu inh l t)).toArray⟩, .int .i64 xo, .int .i64 t, .int .i64 xi], .int .i64 0]) ∧ _) at hgo
  have hsu := fadG_su nu inh l
  have HFEW := Lib.hid fok.few
  have HIN := Lib.hid hb9
  have hil := hb9.le
  have HL0 := Lib.hid hl
  have HW := Lib.hid (Nat.le_refl w.heap.size)
  have hal := (Below.refl w.heap.size w).alloc (Nat.le_refl _) (.cells #[.int .i64 nu, .int .i64 pr, .bool (inh), (.slice pg gs.length cg)] 58)
  have HV := Lib.hid (GnsAt.kept hv hal)
  have HL := Lib.hid (FdsAt.kept hl hal)
  have HB := Lib.hid hal; clear hal
  have HK := Lib.hid (Blk.new w 58 #[.int .i64 nu, .int .i64 pr, .bool (inh), (.slice pg gs.length cg)])
  obtain ⟨k0, k1, k2, k3, kf0, kf1, kf2, kf3⟩ := HK.out.c4
  clear hs hf hv hl hlen hok fok hg hx hm hb9
  have hl0 : (showR (lvlQ nu inh l t) == [48]) = false := by rw [beq_eq_false_iff_ne]; exact fun h => hz (show_zero.1 h)
  have HZ := Lib.hid hz; clear hz
  generalize htl : showR (lvlQ nu inh l t) = tl at *
  have HTL := Lib.hid htl; clear htl
  have HSU := Lib.hid hsu; clear hsu
  have HNW := Lib.hid hnw; clear hnw
  have HLV := Lib.hid hlv; clear hlv
  have HGO := Lib.hid hgo; clear hgo
  have HCL := Lib.hid hcl; clear hcl
  go_enter Tryz.func32, Tryz.ntmps32
  go_wp2_with fail
  refine ((HNW.out _ HV.out HL.out (ENV.out.below HB.out)).mono ?_)
  rintro e w2 ⟨rfl, hb⟩
  have hal := (Below.refl w2.heap.size w2).alloc (Nat.le_refl _) (.cells #[.int .i64 nu, .int .i64 pr, .bool (inh), (.slice pg gs.length cg), .int .i64 ((fadG nu inh l).su), .string ⟨((fadG nu inh l).fr).toArray⟩, .int .i64 ((fadG nu inh l).tz), .int .i64 ((fadG nu inh l).st), .int .i64 ((fadG nu inh l).ti), .int .i64 ((fadG nu inh l).stp), .int .i64 ((i : Int)), .bool (true)] 157)
  replace HK := Lib.hid ((HK.out.keep hb).keep hal)
  replace HV := Lib.hid (GnsAt.kept (GnsAt.kept HV.out hb) hal)
  replace HL := Lib.hid (FdsAt.kept (FdsAt.kept HL.out hb) hal)
  have HX0 : Hid (w.heap.size + 1 ≤ w2.heap.size) := Lib.hid (by have := (HK.out.lt); have h2 := hb.size; have h3 := HB.out.size; simp at *; omega)
  replace HB := Lib.hid (bch' (bch' HB.out hb) hal)
  clear hb hal HNW
  clear k0 k1 k2 k3 kf0 kf1 kf2 kf3
  have HX := Lib.hid (Blk.new w2 157 #[.int .i64 nu, .int .i64 pr, .bool (inh), (.slice pg gs.length cg), .int .i64 ((fadG nu inh l).su), .string ⟨((fadG nu inh l).fr).toArray⟩, .int .i64 ((fadG nu inh l).tz), .int .i64 ((fadG nu inh l).st), .int .i64 ((fadG nu inh l).ti), .int .i64 ((fadG nu inh l).stp), .int .i64 ((i : Int)), .bool (true)])
  obtain ⟨x0, x1, x2, x3, x4, x5, x6, x7, x8, x9, x10, x11, xf0, xf1, xf2, xf3, xf4, xf5, xf6, xf7, xf8, xf9, xf10, xf11⟩ := HX.out.c12
  go_upto_region 10 with (first | (with_reducible refine ((HLV.out _ _ _ (ENV.out.below HB.out)).mono ?_); rintro e w' ⟨rfl, hb⟩; replace HX := Lib.hid (HX.out.keep hb); clear x0 x1 x2 x3 x4 x5 x6 x7 x8 x9 x10 x11 xf0 xf1 xf2 xf3 xf4 xf5 xf6 xf7 xf8 xf9 xf10 xf11; replace HV := Lib.hid (GnsAt.kept HV.out hb); replace HL := Lib.hid (FdsAt.kept HL.out hb); replace HB := Lib.hid (bch' HB.out hb); clear hb; obtain ⟨x0, x1, x2, x3, x4, x5, x6, x7, x8, x9, x10, x11, xf0, xf1, xf2, xf3, xf4, xf5, xf6, xf7, xf8, xf9, xf10, xf11⟩ := HX.out.c12) | (with_reducible refine ((HGO.out _ (ENV.out.below HB.out)).mono ?_); rintro e w' ⟨rfl, hb⟩; replace HX := Lib.hid (HX.out.keep hb); clear x0 x1 x2 x3 x4 x5 x6 x7 x8 x9 x10 x11 xf0 xf1 xf2 xf3 xf4 xf5 xf6 xf7 xf8 xf9 xf10 xf11; replace HV := Lib.hid (GnsAt.kept HV.out hb); replace HL := Lib.hid (FdsAt.kept HL.out hb); replace HB := Lib.hid (bch' HB.out hb); clear hb; obtain ⟨x0, x1, x2, x3, x4, x5, x6, x7, x8, x9, x10, x11, xf0, xf1, xf2, xf3, xf4, xf5, xf6, xf7, xf8, xf9, xf10, xf11⟩ := HX.out.c12))
  have hal := (Below.refl w'.heap.size w').alloc (Nat.le_refl _) (.cells #[.string ⟨(tl).toArray⟩, .int .i64 xo, .int .i64 t, .int .i64 xi] 24)
  have HG := Lib.hid (Blk.new w' 24 #[.string ⟨(tl).toArray⟩, .int .i64 xo, .int .i64 t, .int .i64 xi])
  have hgx : w'.heap.size ≠ w2.heap.size := by have := HX.out.lt; omega
  replace HX := Lib.hid (HX.out.keep hal)
  replace HB := Lib.hid (bch' HB.out hal)
  clear hal HV HK HL
  clear x0 x1 x2 x3 x4 x5 x6 x7 x8 x9 x10 x11 xf0 xf1 xf2 xf3 xf4 xf5 xf6 xf7 xf8 xf9 xf10 xf11
  generalize w'.alloc (.cells #[.string ⟨(tl).toArray⟩, .int .i64 xo, .int .i64 t, .int .i64 xi] 24) = w5 at *
  generalize w'.heap.size = G at *
  obtain ⟨x0, x1, x2, x3, x4, x5, x6, x7, x8, x9, x10, x11, xf0, xf1, xf2, xf3, xf4, xf5, xf6, xf7, xf8, xf9, xf10, xf11⟩ := HX.out.c12
  obtain ⟨g0, g1, g2, g3, gf0, gf1, gf2, gf3⟩ := HG.out.c4
  have hle : w.heap.size ≤ w2.heap.size := by have := HX0.out; omega
  go_upto_region 13 with fail
  have HX2 : Hid (Blk ((((w5.setCell ⟨w2.heap.size, 5, none⟩ (.string ⟨(tl).toArray⟩)).setCell ⟨w2.heap.size, 6, none⟩ (.int .i64 xo)).setCell ⟨w2.heap.size, 7, none⟩ (.int .i64 t)).setCell ⟨w2.heap.size, 8, none⟩ (.int .i64 xi)) w2.heap.size 157 #[.int .i64 nu, .int .i64 pr, .bool (inh), (.slice pg gs.length cg), .int .i64 ((fadG nu inh l).su), .string ⟨(tl).toArray⟩, .int .i64 xo, .int .i64 t, .int .i64 xi, .int .i64 ((fadG nu inh l).stp), .int .i64 ((i : Int)), .bool (true)]) := Lib.hid (HX.out.gl12 (.string ⟨(tl).toArray⟩) (.int .i64 xo) (.int .i64 t) (.int .i64 xi))
  have HB2 := Lib.hid ((((HB.out.setCell (p := ⟨w2.heap.size, 5, none⟩) hle (.string ⟨(tl).toArray⟩)).setCell (p := ⟨w2.heap.size, 6, none⟩) hle (.int .i64 xo)).setCell (p := ⟨w2.heap.size, 7, none⟩) hle (.int .i64 t)).setCell (p := ⟨w2.heap.size, 8, none⟩) hle (.int .i64 xi))
  clear x0 x1 x2 x3 x4 x5 x6 x7 x8 x9 x10 x11 xf0 xf1 xf2 xf3 xf4 xf5 xf6 xf7 xf8 xf9 xf10 xf11
  clear g0 g1 g2 g3 gf0 gf1 gf2 gf3
  clear HX HG HB
  generalize ((((w5.setCell ⟨w2.heap.size, 5, none⟩ (.string ⟨(tl).toArray⟩)).setCell ⟨w2.heap.size, 6, none⟩ (.int .i64 xo)).setCell ⟨w2.heap.size, 7, none⟩ (.int .i64 t)).setCell ⟨w2.heap.size, 8, none⟩ (.int .i64 xi)) = w7 at *
  have HX := HX2; have HB := HB2; clear HX2 HB2
  have HL := Lib.hid (FdsAt.kept HL0.out HB.out)
  obtain ⟨x0, x1, x2, x3, x4, x5, x6, x7, x8, x9, x10, x11, xf0, xf1, xf2, xf3, xf4, xf5, xf6, xf7, xf8, xf9, xf10, xf11⟩ := HX.out.c12
  go_wp2_with fail
  refine ((HCL.out _ HL.out).mono ?_)
  rintro e w3 ⟨pp, cc, rfl, ho, hb⟩
  have HO := Lib.hid ho; clear ho
  have HB7 : Hid (w.heap.size ≤ w7.heap.size) := Lib.hid HB.out.size
  have HH : Hid (w7.heap.size ≤ w3.heap.size) := Lib.hid hb.size
  have HX7 : Hid (w2.heap.size < w7.heap.size) := Lib.hid HX.out.lt
  replace HX := Lib.hid (HX.out.keep hb)
  clear x0 x1 x2 x3 x4 x5 x6 x7 x8 x9 x10 x11 xf0 xf1 xf2 xf3 xf4 xf5 xf6 xf7 xf8 xf9 xf10 xf11
  replace HB := Lib.hid (bch' HB.out hb)
  clear hb HCL
  obtain ⟨x0, x1, x2, x3, x4, x5, x6, x7, x8, x9, x10, x11, xf0, xf1, xf2, xf3, xf4, xf5, xf6, xf7, xf8, xf9, xf10, xf11⟩ := HX.out.c12
  obtain ⟨hi, -⟩ := HIN.out.yes rfl
  have hi0 : (0 : Int) ≤ (i : Int) := by omega
  have hi1 : (i : Int) < (l.length : Int) := by omega
  obtain ⟨g, cur, hpp, hg, hcur, hlc, hcm, hcells⟩ := HO.out.blk (fun h => by subst h; simp at hi)
  subst hpp
  obtain ⟨z0, z1, z2, z3, z4, z5⟩ := hcells i hi
  clear hcells
  have zf0 := hcur.frozen (i * 6)
  have zf1 := hcur.frozen (i * 6 + 1)
  have zf2 := hcur.frozen (i * 6 + 2)
  have zf3 := hcur.frozen (i * 6 + 3)
  have zf4 := hcur.frozen (i * 6 + 4)
  have zf5 := hcur.frozen (i * 6 + 5)
  have hgl := hcur.lt
  have hgx2 : g ≠ w2.heap.size := by have := HX.out.lt; have := HO.out.lt _ rfl; have h7 := HX7.out; dsimp only at *; omega
  have hgx3 : w2.heap.size ≠ g := fun h => hgx2 h.symm
  clear hcur hcm
  have HGB : Hid (w.heap.size ≤ g) := Lib.hid (Nat.le_trans HB7.out hg)
  clear hg
  go_wp2_with fail
  go_ret2
  have hmv : mvF nu inh l t xo xi true = (⟨(fadG nu inh l).su, tl, xo, t, xi, (fadG nu inh l).stp⟩ : Fdr) := by rw [mvF_on HZ.out, HTL.out]
  refine ⟨some ⟨g, 0, none⟩, cc, by first | (rw [insL_len_hit hi]; done) | (rw [insL_len_hit hi]; rfl), ?_, ?_⟩
  · rw [hmv, insL_set hi]
    exact (OwnR.set6 HO.out (⟨(fadG nu inh l).su, tl, xo, t, xi, (fadG nu inh l).stp⟩ : Fdr) hi).lower HB7.out
  · exact (((((HB.out.setCell HGB.out _).setCell HGB.out _).setCell HGB.out _).setCell HGB.out _).setCell HGB.out _).setCell HGB.out _

set_option maxRecDepth 100000 in
set_option maxHeartbeats 8000000 in
theorem own_smove_new (nu pr t xo xi : Int) (inh : Bool) (gs : List Gn) (l : List Fdr) (gv lv : Value) (i : Nat) (w : World) (hv : GnsAt w gv gs) (hl : FdsAt w lv l) (hs : sbE ⟨nu, pr, inh, gs⟩ = 0) (hf : facE l = 0) (hlen : ∀ i, i < l.length → (fdv l i).fr.length ≤ 1000) (hm : mvIn t xo xi) (hb9 : Belongs (fun k => (fdv l k).su) l.length nu i false) (hM : ¬ l.length = 16) (env : Env w) :
    Calls Tryz.prog 32 #[.agg #[.int .i64 nu, .int .i64 pr, .bool (inh), gv], lv, .int .i64 t, .int .i64 xo, .int .i64 xi] w fun e w' => ∃ pp cc, e = .returned (.tuple #[.slice pp (insL l i false (mvF nu inh l t xo xi false)).length cc, .int .i64 0]) ∧ OwnR encF 6 w.heap.size 108 w' pp cc (insL l i false (mvF nu inh l t xo xi false)) ∧ Below w.heap.size w w' := by
  obtain ⟨pg, cg, rfl⟩ : ∃ pg cg, gv = .slice pg gs.length cg := by obtain ⟨pg, cg, e, -⟩ := hv; exact ⟨pg, cg, e⟩
  have ENV := Lib.hid env; clear env
  have hok : SubOk ⟨nu, pr, inh, gs⟩ := subOk hs
  have fok := facOk hf
  have hnew := fun W (h1 : GnsAt W (.slice pg gs.length cg) gs) (h2 : FdsAt W lv l) (e : Env W) => own_snew nu pr inh gs l (.slice pg gs.length cg) lv W h1 h2 hs hf hlen e
  have hg := fadG_fg (nu := nu) (inh := inh) fok
  have hx := fadG_lenK (nu := nu) (inh := inh) hlen
  unfold fgE at hg
  have hlv : ∀ (at_ : Int) (mv : Bool) W, Env W → Calls Tryz.prog 98 #[.agg #[.int .i64 nu, .int .i64 pr, .bool (inh), (.slice pg gs.length cg), .int .i64 ((fadG nu inh l).su), .string ⟨((fadG nu inh l).fr).toArray⟩, .int .i64 ((fadG nu inh l).tz), .int .i64 ((fadG nu inh l).st), .int .i64 ((fadG nu inh l).ti), .int .i64 ((fadG nu inh l).stp), .int .i64 at_, .bool (mv)], .int .i64 t] W fun e w' => e = .returned (.tuple #[.string ⟨(showR (lvlQ nu inh l t)).toArray⟩, .int .i64 0]) ∧ Below W.heap.size W w' := fun at_ mv W e => own_slevel nu pr inh (.slice pg gs.length cg) _ _ _ _ _ at_ t _ mv W hg (by omega) e
  have hgo := fun W (e : Env W) => own_ggo_ok (fadG nu inh l).fr (fadG nu inh l).tz (fadG nu inh l).st (fadG nu inh l).ti t xo xi W (by omega) (by rw [goE_in hg hm]) e
  have hcl := fun W (h : FdsAt W lv l) => own_fclone l lv W h (by have := fok.few; omega)
  have hnw : ∀ W, GnsAt W (.slice pg gs.length cg) gs → FdsAt W lv l → Env W → Calls Tryz.prog 97 #[.agg #[.int .i64 nu, .int .i64 pr, .bool (inh), (.slice pg gs.length cg)], lv] W fun e w' => e = .returned (.tuple #[.agg #[.int .i64 nu, .int .i64 pr, .bool (inh), (.slice pg gs.length cg), .int .i64 ((fadG nu inh l).su), .string ⟨((fadG nu inh l).fr).toArray⟩, .int .i64 ((fadG nu inh l).tz), .int .i64 ((fadG nu inh l).st), .int .i64 ((fadG nu inh l).ti), .int .i64 ((fadG nu inh l).stp), .int .i64 ((i : Int)), .bool (false)], .int .i64 0]) ∧ Below W.heap.size W w' := fun W a b c => (hnew W a b c).mono fun e w' ⟨i2, hh, he, hb'⟩ => by
    obtain ⟨rfl, h2⟩ := (halved_belongs fok.ord hh).uniq hb9
    rw [h2] at he
    exact ⟨he, hb'⟩
  clear hnew
  change ∀ W, Env W → Calls _ _ _ W (fun e w' => e = .returned (.tuple #[.agg #[.string ⟨(showR (lvlQ nu inh l t)).toArray⟩, .int .i64 xo, .int .i64 t, .int .i64 xi], .int .i64 0]) ∧ _) at hgo
  have hsu := fadG_su nu inh l
  have HFEW := Lib.hid fok.few
  have HM := Lib.hid hM; clear hM
  have HIN := Lib.hid hb9
  have hil := hb9.le
  have HL0 := Lib.hid hl
  have HW := Lib.hid (Nat.le_refl w.heap.size)
  have hal := (Below.refl w.heap.size w).alloc (Nat.le_refl _) (.cells #[.int .i64 nu, .int .i64 pr, .bool (inh), (.slice pg gs.length cg)] 58)
  have HV := Lib.hid (GnsAt.kept hv hal)
  have HL := Lib.hid (FdsAt.kept hl hal)
  have HB := Lib.hid hal; clear hal
  have HK := Lib.hid (Blk.new w 58 #[.int .i64 nu, .int .i64 pr, .bool (inh), (.slice pg gs.length cg)])
  obtain ⟨k0, k1, k2, k3, kf0, kf1, kf2, kf3⟩ := HK.out.c4
  clear hs hf hv hl hlen hok fok hg hx hm hb9
  generalize htl : showR (lvlQ nu inh l t) = tl at *
  have HTL := Lib.hid htl; clear htl
  have HSU := Lib.hid hsu; clear hsu
  have HNW := Lib.hid hnw; clear hnw
  have HLV := Lib.hid hlv; clear hlv
  have HGO := Lib.hid hgo; clear hgo
  have HCL := Lib.hid hcl; clear hcl
  go_enter Tryz.func32, Tryz.ntmps32
  go_wp2_with fail
  refine ((HNW.out _ HV.out HL.out (ENV.out.below HB.out)).mono ?_)
  rintro e w2 ⟨rfl, hb⟩
  have hal := (Below.refl w2.heap.size w2).alloc (Nat.le_refl _) (.cells #[.int .i64 nu, .int .i64 pr, .bool (inh), (.slice pg gs.length cg), .int .i64 ((fadG nu inh l).su), .string ⟨((fadG nu inh l).fr).toArray⟩, .int .i64 ((fadG nu inh l).tz), .int .i64 ((fadG nu inh l).st), .int .i64 ((fadG nu inh l).ti), .int .i64 ((fadG nu inh l).stp), .int .i64 ((i : Int)), .bool (false)] 157)
  replace HK := Lib.hid ((HK.out.keep hb).keep hal)
  replace HV := Lib.hid (GnsAt.kept (GnsAt.kept HV.out hb) hal)
  replace HL := Lib.hid (FdsAt.kept (FdsAt.kept HL.out hb) hal)
  have HX0 : Hid (w.heap.size + 1 ≤ w2.heap.size) := Lib.hid (by have := (HK.out.lt); have h2 := hb.size; have h3 := HB.out.size; simp at *; omega)
  replace HB := Lib.hid (bch' (bch' HB.out hb) hal)
  clear hb hal HNW
  clear k0 k1 k2 k3 kf0 kf1 kf2 kf3
  have HX := Lib.hid (Blk.new w2 157 #[.int .i64 nu, .int .i64 pr, .bool (inh), (.slice pg gs.length cg), .int .i64 ((fadG nu inh l).su), .string ⟨((fadG nu inh l).fr).toArray⟩, .int .i64 ((fadG nu inh l).tz), .int .i64 ((fadG nu inh l).st), .int .i64 ((fadG nu inh l).ti), .int .i64 ((fadG nu inh l).stp), .int .i64 ((i : Int)), .bool (false)])
  obtain ⟨x0, x1, x2, x3, x4, x5, x6, x7, x8, x9, x10, x11, xf0, xf1, xf2, xf3, xf4, xf5, xf6, xf7, xf8, xf9, xf10, xf11⟩ := HX.out.c12
  go_upto_region 10 with (first | (with_reducible refine ((HLV.out _ _ _ (ENV.out.below HB.out)).mono ?_); rintro e w' ⟨rfl, hb⟩; replace HX := Lib.hid (HX.out.keep hb); clear x0 x1 x2 x3 x4 x5 x6 x7 x8 x9 x10 x11 xf0 xf1 xf2 xf3 xf4 xf5 xf6 xf7 xf8 xf9 xf10 xf11; replace HV := Lib.hid (GnsAt.kept HV.out hb); replace HL := Lib.hid (FdsAt.kept HL.out hb); replace HB := Lib.hid (bch' HB.out hb); clear hb; obtain ⟨x0, x1, x2, x3, x4, x5, x6, x7, x8, x9, x10, x11, xf0, xf1, xf2, xf3, xf4, xf5, xf6, xf7, xf8, xf9, xf10, xf11⟩ := HX.out.c12) | (with_reducible refine ((HGO.out _ (ENV.out.below HB.out)).mono ?_); rintro e w' ⟨rfl, hb⟩; replace HX := Lib.hid (HX.out.keep hb); clear x0 x1 x2 x3 x4 x5 x6 x7 x8 x9 x10 x11 xf0 xf1 xf2 xf3 xf4 xf5 xf6 xf7 xf8 xf9 xf10 xf11; replace HV := Lib.hid (GnsAt.kept HV.out hb); replace HL := Lib.hid (FdsAt.kept HL.out hb); replace HB := Lib.hid (bch' HB.out hb); clear hb; obtain ⟨x0, x1, x2, x3, x4, x5, x6, x7, x8, x9, x10, x11, xf0, xf1, xf2, xf3, xf4, xf5, xf6, xf7, xf8, xf9, xf10, xf11⟩ := HX.out.c12))
  have hal := (Below.refl w'.heap.size w').alloc (Nat.le_refl _) (.cells #[.string ⟨(tl).toArray⟩, .int .i64 xo, .int .i64 t, .int .i64 xi] 24)
  have HG := Lib.hid (Blk.new w' 24 #[.string ⟨(tl).toArray⟩, .int .i64 xo, .int .i64 t, .int .i64 xi])
  have hgx : w'.heap.size ≠ w2.heap.size := by have := HX.out.lt; omega
  replace HX := Lib.hid (HX.out.keep hal)
  replace HB := Lib.hid (bch' HB.out hal)
  clear hal HV HK HL
  clear x0 x1 x2 x3 x4 x5 x6 x7 x8 x9 x10 x11 xf0 xf1 xf2 xf3 xf4 xf5 xf6 xf7 xf8 xf9 xf10 xf11
  generalize w'.alloc (.cells #[.string ⟨(tl).toArray⟩, .int .i64 xo, .int .i64 t, .int .i64 xi] 24) = w5 at *
  generalize w'.heap.size = G at *
  obtain ⟨x0, x1, x2, x3, x4, x5, x6, x7, x8, x9, x10, x11, xf0, xf1, xf2, xf3, xf4, xf5, xf6, xf7, xf8, xf9, xf10, xf11⟩ := HX.out.c12
  obtain ⟨g0, g1, g2, g3, gf0, gf1, gf2, gf3⟩ := HG.out.c4
  have hle : w.heap.size ≤ w2.heap.size := by have := HX0.out; omega
  go_upto_region 12 with fail
  have HX2 : Hid (Blk (w5.setCell ⟨w2.heap.size, 9, none⟩ (.int .i64 t)) w2.heap.size 157 #[.int .i64 nu, .int .i64 pr, .bool (inh), (.slice pg gs.length cg), .int .i64 ((fadG nu inh l).su), .string ⟨((fadG nu inh l).fr).toArray⟩, .int .i64 ((fadG nu inh l).tz), .int .i64 ((fadG nu inh l).st), .int .i64 ((fadG nu inh l).ti), .int .i64 t, .int .i64 ((i : Int)), .bool (false)]) := Lib.hid (HX.out.set_ 9 (.int .i64 t))
  have HG2 := Lib.hid (HG.out.far (p := ⟨w2.heap.size, 9, none⟩) hgx (.int .i64 t))
  have HB2 := Lib.hid (HB.out.setCell (p := ⟨w2.heap.size, 9, none⟩) hle (.int .i64 t))
  clear x0 x1 x2 x3 x4 x5 x6 x7 x8 x9 x10 x11 xf0 xf1 xf2 xf3 xf4 xf5 xf6 xf7 xf8 xf9 xf10 xf11
  clear g0 g1 g2 g3 gf0 gf1 gf2 gf3
  clear HX HG HB
  generalize w5.setCell ⟨w2.heap.size, 9, none⟩ (.int .i64 t) = w6 at *
  have HX := HX2; have HG := HG2; have HB := HB2; clear HX2 HG2 HB2
  obtain ⟨x0, x1, x2, x3, x4, x5, x6, x7, x8, x9, x10, x11, xf0, xf1, xf2, xf3, xf4, xf5, xf6, xf7, xf8, xf9, xf10, xf11⟩ := HX.out.c12
  obtain ⟨g0, g1, g2, g3, gf0, gf1, gf2, gf3⟩ := HG.out.c4
  go_upto_region 13 with fail
  have HX2 : Hid (Blk ((((w6.setCell ⟨w2.heap.size, 5, none⟩ (.string ⟨(tl).toArray⟩)).setCell ⟨w2.heap.size, 6, none⟩ (.int .i64 xo)).setCell ⟨w2.heap.size, 7, none⟩ (.int .i64 t)).setCell ⟨w2.heap.size, 8, none⟩ (.int .i64 xi)) w2.heap.size 157 #[.int .i64 nu, .int .i64 pr, .bool (inh), (.slice pg gs.length cg), .int .i64 ((fadG nu inh l).su), .string ⟨(tl).toArray⟩, .int .i64 xo, .int .i64 t, .int .i64 xi, .int .i64 t, .int .i64 ((i : Int)), .bool (false)]) := Lib.hid (HX.out.gl12 (.string ⟨(tl).toArray⟩) (.int .i64 xo) (.int .i64 t) (.int .i64 xi))
  have HB2 := Lib.hid ((((HB.out.setCell (p := ⟨w2.heap.size, 5, none⟩) hle (.string ⟨(tl).toArray⟩)).setCell (p := ⟨w2.heap.size, 6, none⟩) hle (.int .i64 xo)).setCell (p := ⟨w2.heap.size, 7, none⟩) hle (.int .i64 t)).setCell (p := ⟨w2.heap.size, 8, none⟩) hle (.int .i64 xi))
  clear x0 x1 x2 x3 x4 x5 x6 x7 x8 x9 x10 x11 xf0 xf1 xf2 xf3 xf4 xf5 xf6 xf7 xf8 xf9 xf10 xf11
  clear g0 g1 g2 g3 gf0 gf1 gf2 gf3
  clear HX HG HB
  generalize ((((w6.setCell ⟨w2.heap.size, 5, none⟩ (.string ⟨(tl).toArray⟩)).setCell ⟨w2.heap.size, 6, none⟩ (.int .i64 xo)).setCell ⟨w2.heap.size, 7, none⟩ (.int .i64 t)).setCell ⟨w2.heap.size, 8, none⟩ (.int .i64 xi)) = w7 at *
  have HX := HX2; have HB := HB2; clear HX2 HB2
  have HL := Lib.hid (FdsAt.kept HL0.out HB.out)
  obtain ⟨x0, x1, x2, x3, x4, x5, x6, x7, x8, x9, x10, x11, xf0, xf1, xf2, xf3, xf4, xf5, xf6, xf7, xf8, xf9, xf10, xf11⟩ := HX.out.c12
  go_wp2_with fail
  refine ((HCL.out _ HL.out).mono ?_)
  rintro e w3 ⟨pp, cc, rfl, ho, hb⟩
  have HO := Lib.hid ho; clear ho
  have HB7 : Hid (w.heap.size ≤ w7.heap.size) := Lib.hid HB.out.size
  have HH : Hid (w7.heap.size ≤ w3.heap.size) := Lib.hid hb.size
  have HX7 : Hid (w2.heap.size < w7.heap.size) := Lib.hid HX.out.lt
  replace HX := Lib.hid (HX.out.keep hb)
  clear x0 x1 x2 x3 x4 x5 x6 x7 x8 x9 x10 x11 xf0 xf1 xf2 xf3 xf4 xf5 xf6 xf7 xf8 xf9 xf10 xf11
  replace HB := Lib.hid (bch' HB.out hb)
  clear hb HCL
  obtain ⟨x0, x1, x2, x3, x4, x5, x6, x7, x8, x9, x10, x11, xf0, xf1, xf2, xf3, xf4, xf5, xf6, xf7, xf8, xf9, xf10, xf11⟩ := HX.out.c12
  have hq : ((l.length : Int) == 16) = false := by rw [beq_eq_false_iff_ne]; have := HM.out; omega
  have hlt := HX.out.lt
  go_wp2_with fail
  have hal := (Below.refl w3.heap.size w3).alloc (Nat.le_refl _) (.cells #[.int .i64 ((fadG nu inh l).su), .string ⟨(tl).toArray⟩, .int .i64 xo, .int .i64 t, .int .i64 xi, .int .i64 t] 108)
  refine ((own_finsert l _ (⟨(fadG nu inh l).su, tl, xo, t, xi, t⟩ : Fdr) pp cc w7.heap.size w3.heap.size i (HO.out.keep hal) (Blk.new w3 108 _) (fun a ha => by have := (HO.out.lt a ha).2; omega) hil (by have := HFEW.out; omega) (by rw [World.size_alloc]; have := HH.out; omega)).mono ?_)
  rintro e w4 ⟨p1, c1, rfl, ho, hb⟩
  have HO2 := Lib.hid ho; clear ho
  have HB3 := Lib.hid ((HB.out.trans (hal.mono (Nat.le_trans HB7.out HH.out))).trans (hb.mono HB7.out))
  clear hal hb
  go_wp2_with fail
  go_ret2
  have hmv : mvF nu inh l t xo xi false = (⟨(fadG nu inh l).su, tl, xo, t, xi, t⟩ : Fdr) := by rw [mvF_new, HTL.out]
  refine ⟨p1, c1, by first | (rw [insL_len_miss hil]; done) | (rw [insL_len_miss hil]; rfl), ?_, HB3.out⟩
  rw [hmv]
  exact HO2.out.lower HB7.out
end Go.Proofs.YtkjelfmgnkkijaaGreatDoor
namespace Go.Proofs.YtkjelfmgnkkijaaGreatDoor
open Go.RowKit Go.Shelf Lum
open Go.Lib (decDigits itoa)
attribute [local go_sem] bs_get bs_extract_end bs_extract_from bs_extract bs_append

set_option maxRecDepth 100000 in
set_option maxHeartbeats 8000000 in
theorem own_samount_ok (nu pr ch a t : Int) (inh : Bool) (gs : List Gn) (l : List Fdr) (gv lv : Value) (w : World) (hv : GnsAt w gv gs) (hl : FdsAt w lv l) (hs : sbE ⟨nu, pr, inh, gs⟩ = 0) (hf : facE l = 0) (hlen : ∀ i, i < l.length → (fdv l i).fr.length ≤ 60) (hp : parE ch a = 0) (env : Env w) :
    Calls Tryz.prog 37 #[.agg #[.int .i64 nu, .int .i64 pr, .bool (inh), gv], lv, .agg #[.int .i64 ch, .int .i64 a], .int .i64 t] w fun e w' => e = .returned (.tuple #[.string ⟨((amT nu inh gs l ch a t).1).toArray⟩, .bool ((amT nu inh gs l ch a t).2), .int .i64 0]) ∧ Below w.heap.size w w' := by
  obtain ⟨pg, cg, rfl⟩ : ∃ pg cg, gv = .slice pg gs.length cg := by obtain ⟨pg, cg, e, -⟩ := hv; exact ⟨pg, cg, e⟩
  have ENV := Lib.hid env; clear env
  have hok : SubOk ⟨nu, pr, inh, gs⟩ := subOk hs
  have fok := facOk hf
  have hnew := fun W (h1 : GnsAt W (.slice pg gs.length cg) gs) (h2 : FdsAt W lv l) (e : Env W) => own_snew nu pr inh gs l (.slice pg gs.length cg) lv W h1 h2 hs hf (fun i hi => Nat.le_trans (hlen i hi) (by omega)) e
  have hg := fadG_fg (nu := nu) (inh := inh) fok
  have hx := fadG_len (nu := nu) (inh := inh) hlen
  unfold fgE at hg
  have hlv : ∀ (at_ : Int) (mv : Bool) W, Env W → Calls Tryz.prog 98 #[.agg #[.int .i64 nu, .int .i64 pr, .bool (inh), (.slice pg gs.length cg), .int .i64 ((fadG nu inh l).su), .string ⟨((fadG nu inh l).fr).toArray⟩, .int .i64 ((fadG nu inh l).tz), .int .i64 ((fadG nu inh l).st), .int .i64 ((fadG nu inh l).ti), .int .i64 ((fadG nu inh l).stp), .int .i64 at_, .bool (mv)], .int .i64 t] W fun e w' => e = .returned (.tuple #[.string ⟨(showR (lvlQ nu inh l t)).toArray⟩, .int .i64 0]) ∧ Below W.heap.size W w' := fun at_ mv W e => own_slevel nu pr inh (.slice pg gs.length cg) _ _ _ _ _ at_ t _ mv W hg (by omega) e
  clear hg hx
  have hpa := fun W => own_sparam ch a W
  rw [hp] at hpa
  have hga := fun (at_ : Int) (mv : Bool) W (h : GnsAt W (.slice pg gs.length cg) gs) => own_sgain nu pr inh gs (.slice pg gs.length cg) (fadG nu inh l).su (fadG nu inh l).tz (fadG nu inh l).st (fadG nu inh l).ti (fadG nu inh l).stp at_ ch a (fadG nu inh l).fr mv W h hok.few hok.par hok.bef hp
  have fl : Fits 182 (lvlQ nu inh l t) := fadL_fits t (fadG_fg fok) (fadG_len hlen)
  cases hgn : gnG gs ch a with
  | none =>
    rw [hgn] at hga
    simp only [Option.getD_none, Option.isSome_none] at hga
    rw [amT_none hgn]
    have hal := ((Below.refl w.heap.size w).alloc (Nat.le_refl _) (.cells #[.int .i64 nu, .int .i64 pr, .bool (inh), (.slice pg gs.length cg)] 58)).alloc (by simp) (.cells #[.int .i64 ch, .int .i64 a] 72)
    have HV := Lib.hid (GnsAt.kept hv hal)
    have HL := Lib.hid (FdsAt.kept hl hal)
    have HB := Lib.hid hal; clear hal
    have HK := Lib.hid ((Blk.new w 58 #[.int .i64 nu, .int .i64 pr, .bool (inh), (.slice pg gs.length cg)]).alloc (.cells #[.int .i64 ch, .int .i64 a] 72))
    have hR := Blk.new (w.alloc (.cells #[.int .i64 nu, .int .i64 pr, .bool (inh), (.slice pg gs.length cg)] 58)) 72 #[.int .i64 ch, .int .i64 a]
    rw [World.size_alloc] at hR
    have HP := Lib.hid hR; clear hR
    obtain ⟨k0, k1, k2, k3, kf0, kf1, kf2, kf3⟩ := HK.out.c4
    obtain ⟨p0, p1, pf0, pf1⟩ := HP.out.c2
    clear hs hf hv hl hlen fok fl hok hp
    generalize showR (lvlQ nu inh l t) = tl at *
    have HPA := Lib.hid hpa; clear hpa
    have HLV := Lib.hid hlv; clear hlv
    have HGA := Lib.hid hga; clear hga
    have HNEW := Lib.hid hnew; clear hnew
    go_enter Tryz.func37, Tryz.ntmps37
    go_wp2_with fail
    refine ((HNEW.out _ HV.out HL.out (ENV.out.below HB.out)).mono ?_)
    rintro e w2 ⟨i, -, rfl, hb⟩
    generalize decide (i < l.length ∧ (fdv l i).su - nu = 0) = mv at *
    have hal := (Below.refl w2.heap.size w2).alloc (Nat.le_refl _) (.cells #[.int .i64 nu, .int .i64 pr, .bool (inh), (.slice pg gs.length cg), .int .i64 ((fadG nu inh l).su), .string ⟨((fadG nu inh l).fr).toArray⟩, .int .i64 ((fadG nu inh l).tz), .int .i64 ((fadG nu inh l).st), .int .i64 ((fadG nu inh l).ti), .int .i64 ((fadG nu inh l).stp), .int .i64 ((i : Int)), .bool (mv)] 157)
    replace HK := Lib.hid ((HK.out.keep hb).keep hal)
    replace HP := Lib.hid ((HP.out.keep hb).keep hal)
    replace HV := Lib.hid (GnsAt.kept (GnsAt.kept HV.out hb) hal)
    replace HL := Lib.hid (FdsAt.kept (FdsAt.kept HL.out hb) hal)
    replace HB := Lib.hid (bch' (bch' HB.out hb) hal)
    clear hb hal HNEW
    clear k0 k1 k2 k3 kf0 kf1 kf2 kf3; clear p0 p1 pf0 pf1
    obtain ⟨k0, k1, k2, k3, kf0, kf1, kf2, kf3⟩ := HK.out.c4
    obtain ⟨p0, p1, pf0, pf1⟩ := HP.out.c2
    have HX := Lib.hid (Blk.new w2 157 #[.int .i64 nu, .int .i64 pr, .bool (inh), (.slice pg gs.length cg), .int .i64 ((fadG nu inh l).su), .string ⟨((fadG nu inh l).fr).toArray⟩, .int .i64 ((fadG nu inh l).tz), .int .i64 ((fadG nu inh l).st), .int .i64 ((fadG nu inh l).ti), .int .i64 ((fadG nu inh l).stp), .int .i64 ((i : Int)), .bool (mv)])
    obtain ⟨x0, x1, x2, x3, x4, x5, x6, x7, x8, x9, x10, x11, xf0, xf1, xf2, xf3, xf4, xf5, xf6, xf7, xf8, xf9, xf10, xf11⟩ := HX.out.c12
    go_wp2_with (first | (with_reducible refine ((HPA.out _).mono ?_); rintro e w' ⟨rfl, hb⟩; replace HK := Lib.hid (HK.out.keep hb); clear k0 k1 k2 k3 kf0 kf1 kf2 kf3; replace HP := Lib.hid (HP.out.keep hb); clear p0 p1 pf0 pf1; replace HX := Lib.hid (HX.out.keep hb); clear x0 x1 x2 x3 x4 x5 x6 x7 x8 x9 x10 x11 xf0 xf1 xf2 xf3 xf4 xf5 xf6 xf7 xf8 xf9 xf10 xf11; replace HV := Lib.hid (GnsAt.kept HV.out hb); replace HL := Lib.hid (FdsAt.kept HL.out hb); replace HB := Lib.hid (bch' HB.out hb); clear hb; obtain ⟨k0, k1, k2, k3, kf0, kf1, kf2, kf3⟩ := HK.out.c4; obtain ⟨p0, p1, pf0, pf1⟩ := HP.out.c2; obtain ⟨x0, x1, x2, x3, x4, x5, x6, x7, x8, x9, x10, x11, xf0, xf1, xf2, xf3, xf4, xf5, xf6, xf7, xf8, xf9, xf10, xf11⟩ := HX.out.c12) | (with_reducible refine ((HLV.out _ _ _ (ENV.out.below HB.out)).mono ?_); rintro e w' ⟨rfl, hb⟩; replace HK := Lib.hid (HK.out.keep hb); clear k0 k1 k2 k3 kf0 kf1 kf2 kf3; replace HP := Lib.hid (HP.out.keep hb); clear p0 p1 pf0 pf1; replace HX := Lib.hid (HX.out.keep hb); clear x0 x1 x2 x3 x4 x5 x6 x7 x8 x9 x10 x11 xf0 xf1 xf2 xf3 xf4 xf5 xf6 xf7 xf8 xf9 xf10 xf11; replace HV := Lib.hid (GnsAt.kept HV.out hb); replace HL := Lib.hid (FdsAt.kept HL.out hb); replace HB := Lib.hid (bch' HB.out hb); clear hb; obtain ⟨k0, k1, k2, k3, kf0, kf1, kf2, kf3⟩ := HK.out.c4; obtain ⟨p0, p1, pf0, pf1⟩ := HP.out.c2; obtain ⟨x0, x1, x2, x3, x4, x5, x6, x7, x8, x9, x10, x11, xf0, xf1, xf2, xf3, xf4, xf5, xf6, xf7, xf8, xf9, xf10, xf11⟩ := HX.out.c12) | (with_reducible refine ((HGA.out _ _ _ HV.out).mono ?_); rintro e w' ⟨rfl, hb⟩; replace HK := Lib.hid (HK.out.keep hb); clear k0 k1 k2 k3 kf0 kf1 kf2 kf3; replace HP := Lib.hid (HP.out.keep hb); clear p0 p1 pf0 pf1; replace HX := Lib.hid (HX.out.keep hb); clear x0 x1 x2 x3 x4 x5 x6 x7 x8 x9 x10 x11 xf0 xf1 xf2 xf3 xf4 xf5 xf6 xf7 xf8 xf9 xf10 xf11; replace HV := Lib.hid (GnsAt.kept HV.out hb); replace HL := Lib.hid (FdsAt.kept HL.out hb); replace HB := Lib.hid (bch' HB.out hb); clear hb; obtain ⟨k0, k1, k2, k3, kf0, kf1, kf2, kf3⟩ := HK.out.c4; obtain ⟨p0, p1, pf0, pf1⟩ := HP.out.c2; obtain ⟨x0, x1, x2, x3, x4, x5, x6, x7, x8, x9, x10, x11, xf0, xf1, xf2, xf3, xf4, xf5, xf6, xf7, xf8, xf9, xf10, xf11⟩ := HX.out.c12))
    go_ret3
    exact ⟨rfl, HB.out⟩
  | some g =>
    rw [hgn] at hga
    simp only [Option.getD_some, Option.isSome_some] at hga
    cases inh
    · by_cases hz : lvlQ nu false l t = 0
      · rw [amT_zero hgn (.inr hz)]
        rw [hz, showR_zero] at hlv
        clear hz
        have hal := ((Below.refl w.heap.size w).alloc (Nat.le_refl _) (.cells #[.int .i64 nu, .int .i64 pr, .bool false, (.slice pg gs.length cg)] 58)).alloc (by simp) (.cells #[.int .i64 ch, .int .i64 a] 72)
        have HV := Lib.hid (GnsAt.kept hv hal)
        have HL := Lib.hid (FdsAt.kept hl hal)
        have HB := Lib.hid hal; clear hal
        have HK := Lib.hid ((Blk.new w 58 #[.int .i64 nu, .int .i64 pr, .bool false, (.slice pg gs.length cg)]).alloc (.cells #[.int .i64 ch, .int .i64 a] 72))
        have hR := Blk.new (w.alloc (.cells #[.int .i64 nu, .int .i64 pr, .bool false, (.slice pg gs.length cg)] 58)) 72 #[.int .i64 ch, .int .i64 a]
        rw [World.size_alloc] at hR
        have HP := Lib.hid hR; clear hR
        obtain ⟨k0, k1, k2, k3, kf0, kf1, kf2, kf3⟩ := HK.out.c4
        obtain ⟨p0, p1, pf0, pf1⟩ := HP.out.c2
        clear hs hf hv hl hlen fok fl hok hp
        have HPA := Lib.hid hpa; clear hpa
        have HLV := Lib.hid hlv; clear hlv
        have HGA := Lib.hid hga; clear hga
        have HNEW := Lib.hid hnew; clear hnew
        go_enter Tryz.func37, Tryz.ntmps37
        go_wp2_with fail
        refine ((HNEW.out _ HV.out HL.out (ENV.out.below HB.out)).mono ?_)
        rintro e w2 ⟨i, -, rfl, hb⟩
        generalize decide (i < l.length ∧ (fdv l i).su - nu = 0) = mv at *
        have hal := (Below.refl w2.heap.size w2).alloc (Nat.le_refl _) (.cells #[.int .i64 nu, .int .i64 pr, .bool (false), (.slice pg gs.length cg), .int .i64 ((fadG nu false l).su), .string ⟨((fadG nu false l).fr).toArray⟩, .int .i64 ((fadG nu false l).tz), .int .i64 ((fadG nu false l).st), .int .i64 ((fadG nu false l).ti), .int .i64 ((fadG nu false l).stp), .int .i64 ((i : Int)), .bool (mv)] 157)
        replace HK := Lib.hid ((HK.out.keep hb).keep hal)
        replace HP := Lib.hid ((HP.out.keep hb).keep hal)
        replace HV := Lib.hid (GnsAt.kept (GnsAt.kept HV.out hb) hal)
        replace HL := Lib.hid (FdsAt.kept (FdsAt.kept HL.out hb) hal)
        replace HB := Lib.hid (bch' (bch' HB.out hb) hal)
        clear hb hal HNEW
        clear k0 k1 k2 k3 kf0 kf1 kf2 kf3; clear p0 p1 pf0 pf1
        obtain ⟨k0, k1, k2, k3, kf0, kf1, kf2, kf3⟩ := HK.out.c4
        obtain ⟨p0, p1, pf0, pf1⟩ := HP.out.c2
        have HX := Lib.hid (Blk.new w2 157 #[.int .i64 nu, .int .i64 pr, .bool (false), (.slice pg gs.length cg), .int .i64 ((fadG nu false l).su), .string ⟨((fadG nu false l).fr).toArray⟩, .int .i64 ((fadG nu false l).tz), .int .i64 ((fadG nu false l).st), .int .i64 ((fadG nu false l).ti), .int .i64 ((fadG nu false l).stp), .int .i64 ((i : Int)), .bool (mv)])
        obtain ⟨x0, x1, x2, x3, x4, x5, x6, x7, x8, x9, x10, x11, xf0, xf1, xf2, xf3, xf4, xf5, xf6, xf7, xf8, xf9, xf10, xf11⟩ := HX.out.c12
        go_wp2_with (first | (with_reducible refine ((HPA.out _).mono ?_); rintro e w' ⟨rfl, hb⟩; replace HK := Lib.hid (HK.out.keep hb); clear k0 k1 k2 k3 kf0 kf1 kf2 kf3; replace HP := Lib.hid (HP.out.keep hb); clear p0 p1 pf0 pf1; replace HX := Lib.hid (HX.out.keep hb); clear x0 x1 x2 x3 x4 x5 x6 x7 x8 x9 x10 x11 xf0 xf1 xf2 xf3 xf4 xf5 xf6 xf7 xf8 xf9 xf10 xf11; replace HV := Lib.hid (GnsAt.kept HV.out hb); replace HL := Lib.hid (FdsAt.kept HL.out hb); replace HB := Lib.hid (bch' HB.out hb); clear hb; obtain ⟨k0, k1, k2, k3, kf0, kf1, kf2, kf3⟩ := HK.out.c4; obtain ⟨p0, p1, pf0, pf1⟩ := HP.out.c2; obtain ⟨x0, x1, x2, x3, x4, x5, x6, x7, x8, x9, x10, x11, xf0, xf1, xf2, xf3, xf4, xf5, xf6, xf7, xf8, xf9, xf10, xf11⟩ := HX.out.c12) | (with_reducible refine ((HLV.out _ _ _ (ENV.out.below HB.out)).mono ?_); rintro e w' ⟨rfl, hb⟩; replace HK := Lib.hid (HK.out.keep hb); clear k0 k1 k2 k3 kf0 kf1 kf2 kf3; replace HP := Lib.hid (HP.out.keep hb); clear p0 p1 pf0 pf1; replace HX := Lib.hid (HX.out.keep hb); clear x0 x1 x2 x3 x4 x5 x6 x7 x8 x9 x10 x11 xf0 xf1 xf2 xf3 xf4 xf5 xf6 xf7 xf8 xf9 xf10 xf11; replace HV := Lib.hid (GnsAt.kept HV.out hb); replace HL := Lib.hid (FdsAt.kept HL.out hb); replace HB := Lib.hid (bch' HB.out hb); clear hb; obtain ⟨k0, k1, k2, k3, kf0, kf1, kf2, kf3⟩ := HK.out.c4; obtain ⟨p0, p1, pf0, pf1⟩ := HP.out.c2; obtain ⟨x0, x1, x2, x3, x4, x5, x6, x7, x8, x9, x10, x11, xf0, xf1, xf2, xf3, xf4, xf5, xf6, xf7, xf8, xf9, xf10, xf11⟩ := HX.out.c12) | (with_reducible refine ((HGA.out _ _ _ HV.out).mono ?_); rintro e w' ⟨rfl, hb⟩; replace HK := Lib.hid (HK.out.keep hb); clear k0 k1 k2 k3 kf0 kf1 kf2 kf3; replace HP := Lib.hid (HP.out.keep hb); clear p0 p1 pf0 pf1; replace HX := Lib.hid (HX.out.keep hb); clear x0 x1 x2 x3 x4 x5 x6 x7 x8 x9 x10 x11 xf0 xf1 xf2 xf3 xf4 xf5 xf6 xf7 xf8 xf9 xf10 xf11; replace HV := Lib.hid (GnsAt.kept HV.out hb); replace HL := Lib.hid (FdsAt.kept HL.out hb); replace HB := Lib.hid (bch' HB.out hb); clear hb; obtain ⟨k0, k1, k2, k3, kf0, kf1, kf2, kf3⟩ := HK.out.c4; obtain ⟨p0, p1, pf0, pf1⟩ := HP.out.c2; obtain ⟨x0, x1, x2, x3, x4, x5, x6, x7, x8, x9, x10, x11, xf0, xf1, xf2, xf3, xf4, xf5, xf6, xf7, xf8, xf9, xf10, xf11⟩ := HX.out.c12))
        go_ret3
        exact ⟨rfl, HB.out⟩
      · obtain ⟨g0, g1⟩ := gnG_range (s := ⟨nu, pr, false, gs⟩) hok hgn
        have hnz : ¬ (false = true ∨ lvlQ nu false l t = 0) := fun h => h.elim (fun h => absurd h (by decide)) hz
        have htl : (showR (lvlQ nu false l t) == [48]) = false := by rw [beq_eq_false_iff_ne]; exact fun h => hz (show_zero.1 h)
        clear hz
        by_cases ha : a = 0
        · rw [amT_int hgn hnz ha]
          have ham := fun (at_ : Int) (mv : Bool) W (e : Env W) => own_samt_int nu pr (fadG nu false l).su (fadG nu false l).tz (fadG nu false l).st (fadG nu false l).ti (fadG nu false l).stp at_ ch a g false mv (.slice pg gs.length cg) (fadG nu false l).fr (lvlQ nu false l t) W g0 g1 (fl.mono (by omega)) ha e
          have hal := ((Below.refl w.heap.size w).alloc (Nat.le_refl _) (.cells #[.int .i64 nu, .int .i64 pr, .bool false, (.slice pg gs.length cg)] 58)).alloc (by simp) (.cells #[.int .i64 ch, .int .i64 a] 72)
          have HV := Lib.hid (GnsAt.kept hv hal)
          have HL := Lib.hid (FdsAt.kept hl hal)
          have HB := Lib.hid hal; clear hal
          have HK := Lib.hid ((Blk.new w 58 #[.int .i64 nu, .int .i64 pr, .bool false, (.slice pg gs.length cg)]).alloc (.cells #[.int .i64 ch, .int .i64 a] 72))
          have hR := Blk.new (w.alloc (.cells #[.int .i64 nu, .int .i64 pr, .bool false, (.slice pg gs.length cg)] 58)) 72 #[.int .i64 ch, .int .i64 a]
          rw [World.size_alloc] at hR
          have HP := Lib.hid hR; clear hR
          obtain ⟨k0, k1, k2, k3, kf0, kf1, kf2, kf3⟩ := HK.out.c4
          obtain ⟨p0, p1, pf0, pf1⟩ := HP.out.c2
          clear hs hf hv hl hlen fok fl hok hp
          clear g0 g1 hnz ha
          generalize showR (lvlQ nu false l t * Rat.divInt g 65535) = t2 at *
          generalize showR (lvlQ nu false l t) = tl at *
          have HPA := Lib.hid hpa; clear hpa
          have HLV := Lib.hid hlv; clear hlv
          have HGA := Lib.hid hga; clear hga
          have HAM := Lib.hid ham; clear ham
          have HNEW := Lib.hid hnew; clear hnew
          go_enter Tryz.func37, Tryz.ntmps37
          go_wp2_with fail
          refine ((HNEW.out _ HV.out HL.out (ENV.out.below HB.out)).mono ?_)
          rintro e w2 ⟨i, -, rfl, hb⟩
          generalize decide (i < l.length ∧ (fdv l i).su - nu = 0) = mv at *
          have hal := (Below.refl w2.heap.size w2).alloc (Nat.le_refl _) (.cells #[.int .i64 nu, .int .i64 pr, .bool (false), (.slice pg gs.length cg), .int .i64 ((fadG nu false l).su), .string ⟨((fadG nu false l).fr).toArray⟩, .int .i64 ((fadG nu false l).tz), .int .i64 ((fadG nu false l).st), .int .i64 ((fadG nu false l).ti), .int .i64 ((fadG nu false l).stp), .int .i64 ((i : Int)), .bool (mv)] 157)
          replace HK := Lib.hid ((HK.out.keep hb).keep hal)
          replace HP := Lib.hid ((HP.out.keep hb).keep hal)
          replace HV := Lib.hid (GnsAt.kept (GnsAt.kept HV.out hb) hal)
          replace HL := Lib.hid (FdsAt.kept (FdsAt.kept HL.out hb) hal)
          replace HB := Lib.hid (bch' (bch' HB.out hb) hal)
          clear hb hal HNEW
          clear k0 k1 k2 k3 kf0 kf1 kf2 kf3; clear p0 p1 pf0 pf1
          obtain ⟨k0, k1, k2, k3, kf0, kf1, kf2, kf3⟩ := HK.out.c4
          obtain ⟨p0, p1, pf0, pf1⟩ := HP.out.c2
          have HX := Lib.hid (Blk.new w2 157 #[.int .i64 nu, .int .i64 pr, .bool (false), (.slice pg gs.length cg), .int .i64 ((fadG nu false l).su), .string ⟨((fadG nu false l).fr).toArray⟩, .int .i64 ((fadG nu false l).tz), .int .i64 ((fadG nu false l).st), .int .i64 ((fadG nu false l).ti), .int .i64 ((fadG nu false l).stp), .int .i64 ((i : Int)), .bool (mv)])
          obtain ⟨x0, x1, x2, x3, x4, x5, x6, x7, x8, x9, x10, x11, xf0, xf1, xf2, xf3, xf4, xf5, xf6, xf7, xf8, xf9, xf10, xf11⟩ := HX.out.c12
          go_wp2_with (first | (with_reducible refine ((HPA.out _).mono ?_); rintro e w' ⟨rfl, hb⟩; replace HK := Lib.hid (HK.out.keep hb); clear k0 k1 k2 k3 kf0 kf1 kf2 kf3; replace HP := Lib.hid (HP.out.keep hb); clear p0 p1 pf0 pf1; replace HX := Lib.hid (HX.out.keep hb); clear x0 x1 x2 x3 x4 x5 x6 x7 x8 x9 x10 x11 xf0 xf1 xf2 xf3 xf4 xf5 xf6 xf7 xf8 xf9 xf10 xf11; replace HV := Lib.hid (GnsAt.kept HV.out hb); replace HL := Lib.hid (FdsAt.kept HL.out hb); replace HB := Lib.hid (bch' HB.out hb); clear hb; obtain ⟨k0, k1, k2, k3, kf0, kf1, kf2, kf3⟩ := HK.out.c4; obtain ⟨p0, p1, pf0, pf1⟩ := HP.out.c2; obtain ⟨x0, x1, x2, x3, x4, x5, x6, x7, x8, x9, x10, x11, xf0, xf1, xf2, xf3, xf4, xf5, xf6, xf7, xf8, xf9, xf10, xf11⟩ := HX.out.c12) | (with_reducible refine ((HLV.out _ _ _ (ENV.out.below HB.out)).mono ?_); rintro e w' ⟨rfl, hb⟩; replace HK := Lib.hid (HK.out.keep hb); clear k0 k1 k2 k3 kf0 kf1 kf2 kf3; replace HP := Lib.hid (HP.out.keep hb); clear p0 p1 pf0 pf1; replace HX := Lib.hid (HX.out.keep hb); clear x0 x1 x2 x3 x4 x5 x6 x7 x8 x9 x10 x11 xf0 xf1 xf2 xf3 xf4 xf5 xf6 xf7 xf8 xf9 xf10 xf11; replace HV := Lib.hid (GnsAt.kept HV.out hb); replace HL := Lib.hid (FdsAt.kept HL.out hb); replace HB := Lib.hid (bch' HB.out hb); clear hb; obtain ⟨k0, k1, k2, k3, kf0, kf1, kf2, kf3⟩ := HK.out.c4; obtain ⟨p0, p1, pf0, pf1⟩ := HP.out.c2; obtain ⟨x0, x1, x2, x3, x4, x5, x6, x7, x8, x9, x10, x11, xf0, xf1, xf2, xf3, xf4, xf5, xf6, xf7, xf8, xf9, xf10, xf11⟩ := HX.out.c12) | (with_reducible refine ((HGA.out _ _ _ HV.out).mono ?_); rintro e w' ⟨rfl, hb⟩; replace HK := Lib.hid (HK.out.keep hb); clear k0 k1 k2 k3 kf0 kf1 kf2 kf3; replace HP := Lib.hid (HP.out.keep hb); clear p0 p1 pf0 pf1; replace HX := Lib.hid (HX.out.keep hb); clear x0 x1 x2 x3 x4 x5 x6 x7 x8 x9 x10 x11 xf0 xf1 xf2 xf3 xf4 xf5 xf6 xf7 xf8 xf9 xf10 xf11; replace HV := Lib.hid (GnsAt.kept HV.out hb); replace HL := Lib.hid (FdsAt.kept HL.out hb); replace HB := Lib.hid (bch' HB.out hb); clear hb; obtain ⟨k0, k1, k2, k3, kf0, kf1, kf2, kf3⟩ := HK.out.c4; obtain ⟨p0, p1, pf0, pf1⟩ := HP.out.c2; obtain ⟨x0, x1, x2, x3, x4, x5, x6, x7, x8, x9, x10, x11, xf0, xf1, xf2, xf3, xf4, xf5, xf6, xf7, xf8, xf9, xf10, xf11⟩ := HX.out.c12) | (with_reducible refine ((HAM.out _ _ _ (ENV.out.below HB.out)).mono ?_); rintro e w' ⟨rfl, hb⟩; replace HK := Lib.hid (HK.out.keep hb); clear k0 k1 k2 k3 kf0 kf1 kf2 kf3; replace HP := Lib.hid (HP.out.keep hb); clear p0 p1 pf0 pf1; replace HX := Lib.hid (HX.out.keep hb); clear x0 x1 x2 x3 x4 x5 x6 x7 x8 x9 x10 x11 xf0 xf1 xf2 xf3 xf4 xf5 xf6 xf7 xf8 xf9 xf10 xf11; replace HV := Lib.hid (GnsAt.kept HV.out hb); replace HL := Lib.hid (FdsAt.kept HL.out hb); replace HB := Lib.hid (bch' HB.out hb); clear hb; obtain ⟨k0, k1, k2, k3, kf0, kf1, kf2, kf3⟩ := HK.out.c4; obtain ⟨p0, p1, pf0, pf1⟩ := HP.out.c2; obtain ⟨x0, x1, x2, x3, x4, x5, x6, x7, x8, x9, x10, x11, xf0, xf1, xf2, xf3, xf4, xf5, xf6, xf7, xf8, xf9, xf10, xf11⟩ := HX.out.c12))
          go_ret3
          exact ⟨rfl, HB.out⟩
        · rw [amT_other hgn hnz ha]
          have ham := fun (at_ : Int) (mv : Bool) W (e : Env W) => own_samt_other nu pr (fadG nu false l).su (fadG nu false l).tz (fadG nu false l).st (fadG nu false l).ti (fadG nu false l).stp at_ ch a g false mv (.slice pg gs.length cg) (fadG nu false l).fr (lvlQ nu false l t) W g0 g1 (fl.mono (by omega)) ha e
          have hal := ((Below.refl w.heap.size w).alloc (Nat.le_refl _) (.cells #[.int .i64 nu, .int .i64 pr, .bool false, (.slice pg gs.length cg)] 58)).alloc (by simp) (.cells #[.int .i64 ch, .int .i64 a] 72)
          have HV := Lib.hid (GnsAt.kept hv hal)
          have HL := Lib.hid (FdsAt.kept hl hal)
          have HB := Lib.hid hal; clear hal
          have HK := Lib.hid ((Blk.new w 58 #[.int .i64 nu, .int .i64 pr, .bool false, (.slice pg gs.length cg)]).alloc (.cells #[.int .i64 ch, .int .i64 a] 72))
          have hR := Blk.new (w.alloc (.cells #[.int .i64 nu, .int .i64 pr, .bool false, (.slice pg gs.length cg)] 58)) 72 #[.int .i64 ch, .int .i64 a]
          rw [World.size_alloc] at hR
          have HP := Lib.hid hR; clear hR
          obtain ⟨k0, k1, k2, k3, kf0, kf1, kf2, kf3⟩ := HK.out.c4
          obtain ⟨p0, p1, pf0, pf1⟩ := HP.out.c2
          clear hs hf hv hl hlen fok fl hok hp
          clear g0 g1 hnz ha
          generalize showR ((g : Int) : Rat) = t2 at *
          generalize showR (lvlQ nu false l t) = tl at *
          have HPA := Lib.hid hpa; clear hpa
          have HLV := Lib.hid hlv; clear hlv
          have HGA := Lib.hid hga; clear hga
          have HAM := Lib.hid ham; clear ham
          have HNEW := Lib.hid hnew; clear hnew
          go_enter Tryz.func37, Tryz.ntmps37
          go_wp2_with fail
          refine ((HNEW.out _ HV.out HL.out (ENV.out.below HB.out)).mono ?_)
          rintro e w2 ⟨i, -, rfl, hb⟩
          generalize decide (i < l.length ∧ (fdv l i).su - nu = 0) = mv at *
          have hal := (Below.refl w2.heap.size w2).alloc (Nat.le_refl _) (.cells #[.int .i64 nu, .int .i64 pr, .bool (false), (.slice pg gs.length cg), .int .i64 ((fadG nu false l).su), .string ⟨((fadG nu false l).fr).toArray⟩, .int .i64 ((fadG nu false l).tz), .int .i64 ((fadG nu false l).st), .int .i64 ((fadG nu false l).ti), .int .i64 ((fadG nu false l).stp), .int .i64 ((i : Int)), .bool (mv)] 157)
          replace HK := Lib.hid ((HK.out.keep hb).keep hal)
          replace HP := Lib.hid ((HP.out.keep hb).keep hal)
          replace HV := Lib.hid (GnsAt.kept (GnsAt.kept HV.out hb) hal)
          replace HL := Lib.hid (FdsAt.kept (FdsAt.kept HL.out hb) hal)
          replace HB := Lib.hid (bch' (bch' HB.out hb) hal)
          clear hb hal HNEW
          clear k0 k1 k2 k3 kf0 kf1 kf2 kf3; clear p0 p1 pf0 pf1
          obtain ⟨k0, k1, k2, k3, kf0, kf1, kf2, kf3⟩ := HK.out.c4
          obtain ⟨p0, p1, pf0, pf1⟩ := HP.out.c2
          have HX := Lib.hid (Blk.new w2 157 #[.int .i64 nu, .int .i64 pr, .bool (false), (.slice pg gs.length cg), .int .i64 ((fadG nu false l).su), .string ⟨((fadG nu false l).fr).toArray⟩, .int .i64 ((fadG nu false l).tz), .int .i64 ((fadG nu false l).st), .int .i64 ((fadG nu false l).ti), .int .i64 ((fadG nu false l).stp), .int .i64 ((i : Int)), .bool (mv)])
          obtain ⟨x0, x1, x2, x3, x4, x5, x6, x7, x8, x9, x10, x11, xf0, xf1, xf2, xf3, xf4, xf5, xf6, xf7, xf8, xf9, xf10, xf11⟩ := HX.out.c12
          go_wp2_with (first | (with_reducible refine ((HPA.out _).mono ?_); rintro e w' ⟨rfl, hb⟩; replace HK := Lib.hid (HK.out.keep hb); clear k0 k1 k2 k3 kf0 kf1 kf2 kf3; replace HP := Lib.hid (HP.out.keep hb); clear p0 p1 pf0 pf1; replace HX := Lib.hid (HX.out.keep hb); clear x0 x1 x2 x3 x4 x5 x6 x7 x8 x9 x10 x11 xf0 xf1 xf2 xf3 xf4 xf5 xf6 xf7 xf8 xf9 xf10 xf11; replace HV := Lib.hid (GnsAt.kept HV.out hb); replace HL := Lib.hid (FdsAt.kept HL.out hb); replace HB := Lib.hid (bch' HB.out hb); clear hb; obtain ⟨k0, k1, k2, k3, kf0, kf1, kf2, kf3⟩ := HK.out.c4; obtain ⟨p0, p1, pf0, pf1⟩ := HP.out.c2; obtain ⟨x0, x1, x2, x3, x4, x5, x6, x7, x8, x9, x10, x11, xf0, xf1, xf2, xf3, xf4, xf5, xf6, xf7, xf8, xf9, xf10, xf11⟩ := HX.out.c12) | (with_reducible refine ((HLV.out _ _ _ (ENV.out.below HB.out)).mono ?_); rintro e w' ⟨rfl, hb⟩; replace HK := Lib.hid (HK.out.keep hb); clear k0 k1 k2 k3 kf0 kf1 kf2 kf3; replace HP := Lib.hid (HP.out.keep hb); clear p0 p1 pf0 pf1; replace HX := Lib.hid (HX.out.keep hb); clear x0 x1 x2 x3 x4 x5 x6 x7 x8 x9 x10 x11 xf0 xf1 xf2 xf3 xf4 xf5 xf6 xf7 xf8 xf9 xf10 xf11; replace HV := Lib.hid (GnsAt.kept HV.out hb); replace HL := Lib.hid (FdsAt.kept HL.out hb); replace HB := Lib.hid (bch' HB.out hb); clear hb; obtain ⟨k0, k1, k2, k3, kf0, kf1, kf2, kf3⟩ := HK.out.c4; obtain ⟨p0, p1, pf0, pf1⟩ := HP.out.c2; obtain ⟨x0, x1, x2, x3, x4, x5, x6, x7, x8, x9, x10, x11, xf0, xf1, xf2, xf3, xf4, xf5, xf6, xf7, xf8, xf9, xf10, xf11⟩ := HX.out.c12) | (with_reducible refine ((HGA.out _ _ _ HV.out).mono ?_); rintro e w' ⟨rfl, hb⟩; replace HK := Lib.hid (HK.out.keep hb); clear k0 k1 k2 k3 kf0 kf1 kf2 kf3; replace HP := Lib.hid (HP.out.keep hb); clear p0 p1 pf0 pf1; replace HX := Lib.hid (HX.out.keep hb); clear x0 x1 x2 x3 x4 x5 x6 x7 x8 x9 x10 x11 xf0 xf1 xf2 xf3 xf4 xf5 xf6 xf7 xf8 xf9 xf10 xf11; replace HV := Lib.hid (GnsAt.kept HV.out hb); replace HL := Lib.hid (FdsAt.kept HL.out hb); replace HB := Lib.hid (bch' HB.out hb); clear hb; obtain ⟨k0, k1, k2, k3, kf0, kf1, kf2, kf3⟩ := HK.out.c4; obtain ⟨p0, p1, pf0, pf1⟩ := HP.out.c2; obtain ⟨x0, x1, x2, x3, x4, x5, x6, x7, x8, x9, x10, x11, xf0, xf1, xf2, xf3, xf4, xf5, xf6, xf7, xf8, xf9, xf10, xf11⟩ := HX.out.c12) | (with_reducible refine ((HAM.out _ _ _ (ENV.out.below HB.out)).mono ?_); rintro e w' ⟨rfl, hb⟩; replace HK := Lib.hid (HK.out.keep hb); clear k0 k1 k2 k3 kf0 kf1 kf2 kf3; replace HP := Lib.hid (HP.out.keep hb); clear p0 p1 pf0 pf1; replace HX := Lib.hid (HX.out.keep hb); clear x0 x1 x2 x3 x4 x5 x6 x7 x8 x9 x10 x11 xf0 xf1 xf2 xf3 xf4 xf5 xf6 xf7 xf8 xf9 xf10 xf11; replace HV := Lib.hid (GnsAt.kept HV.out hb); replace HL := Lib.hid (FdsAt.kept HL.out hb); replace HB := Lib.hid (bch' HB.out hb); clear hb; obtain ⟨k0, k1, k2, k3, kf0, kf1, kf2, kf3⟩ := HK.out.c4; obtain ⟨p0, p1, pf0, pf1⟩ := HP.out.c2; obtain ⟨x0, x1, x2, x3, x4, x5, x6, x7, x8, x9, x10, x11, xf0, xf1, xf2, xf3, xf4, xf5, xf6, xf7, xf8, xf9, xf10, xf11⟩ := HX.out.c12))
          go_ret3
          exact ⟨rfl, HB.out⟩
    · rw [amT_zero hgn (.inl rfl)]
      have hal := ((Below.refl w.heap.size w).alloc (Nat.le_refl _) (.cells #[.int .i64 nu, .int .i64 pr, .bool true, (.slice pg gs.length cg)] 58)).alloc (by simp) (.cells #[.int .i64 ch, .int .i64 a] 72)
      have HV := Lib.hid (GnsAt.kept hv hal)
      have HL := Lib.hid (FdsAt.kept hl hal)
      have HB := Lib.hid hal; clear hal
      have HK := Lib.hid ((Blk.new w 58 #[.int .i64 nu, .int .i64 pr, .bool true, (.slice pg gs.length cg)]).alloc (.cells #[.int .i64 ch, .int .i64 a] 72))
      have hR := Blk.new (w.alloc (.cells #[.int .i64 nu, .int .i64 pr, .bool true, (.slice pg gs.length cg)] 58)) 72 #[.int .i64 ch, .int .i64 a]
      rw [World.size_alloc] at hR
      have HP := Lib.hid hR; clear hR
      obtain ⟨k0, k1, k2, k3, kf0, kf1, kf2, kf3⟩ := HK.out.c4
      obtain ⟨p0, p1, pf0, pf1⟩ := HP.out.c2
      clear hs hf hv hl hlen fok fl hok hp
      generalize showR (lvlQ nu true l t) = tl at *
      have HPA := Lib.hid hpa; clear hpa
      have HLV := Lib.hid hlv; clear hlv
      have HGA := Lib.hid hga; clear hga
      have HNEW := Lib.hid hnew; clear hnew
      go_enter Tryz.func37, Tryz.ntmps37
      go_wp2_with fail
      refine ((HNEW.out _ HV.out HL.out (ENV.out.below HB.out)).mono ?_)
      rintro e w2 ⟨i, -, rfl, hb⟩
      generalize decide (i < l.length ∧ (fdv l i).su - nu = 0) = mv at *
      have hal := (Below.refl w2.heap.size w2).alloc (Nat.le_refl _) (.cells #[.int .i64 nu, .int .i64 pr, .bool (true), (.slice pg gs.length cg), .int .i64 ((fadG nu true l).su), .string ⟨((fadG nu true l).fr).toArray⟩, .int .i64 ((fadG nu true l).tz), .int .i64 ((fadG nu true l).st), .int .i64 ((fadG nu true l).ti), .int .i64 ((fadG nu true l).stp), .int .i64 ((i : Int)), .bool (mv)] 157)
      replace HK := Lib.hid ((HK.out.keep hb).keep hal)
      replace HP := Lib.hid ((HP.out.keep hb).keep hal)
      replace HV := Lib.hid (GnsAt.kept (GnsAt.kept HV.out hb) hal)
      replace HL := Lib.hid (FdsAt.kept (FdsAt.kept HL.out hb) hal)
      replace HB := Lib.hid (bch' (bch' HB.out hb) hal)
      clear hb hal HNEW
      clear k0 k1 k2 k3 kf0 kf1 kf2 kf3; clear p0 p1 pf0 pf1
      obtain ⟨k0, k1, k2, k3, kf0, kf1, kf2, kf3⟩ := HK.out.c4
      obtain ⟨p0, p1, pf0, pf1⟩ := HP.out.c2
      have HX := Lib.hid (Blk.new w2 157 #[.int .i64 nu, .int .i64 pr, .bool (true), (.slice pg gs.length cg), .int .i64 ((fadG nu true l).su), .string ⟨((fadG nu true l).fr).toArray⟩, .int .i64 ((fadG nu true l).tz), .int .i64 ((fadG nu true l).st), .int .i64 ((fadG nu true l).ti), .int .i64 ((fadG nu true l).stp), .int .i64 ((i : Int)), .bool (mv)])
      obtain ⟨x0, x1, x2, x3, x4, x5, x6, x7, x8, x9, x10, x11, xf0, xf1, xf2, xf3, xf4, xf5, xf6, xf7, xf8, xf9, xf10, xf11⟩ := HX.out.c12
      go_wp2_with (first | (with_reducible refine ((HPA.out _).mono ?_); rintro e w' ⟨rfl, hb⟩; replace HK := Lib.hid (HK.out.keep hb); clear k0 k1 k2 k3 kf0 kf1 kf2 kf3; replace HP := Lib.hid (HP.out.keep hb); clear p0 p1 pf0 pf1; replace HX := Lib.hid (HX.out.keep hb); clear x0 x1 x2 x3 x4 x5 x6 x7 x8 x9 x10 x11 xf0 xf1 xf2 xf3 xf4 xf5 xf6 xf7 xf8 xf9 xf10 xf11; replace HV := Lib.hid (GnsAt.kept HV.out hb); replace HL := Lib.hid (FdsAt.kept HL.out hb); replace HB := Lib.hid (bch' HB.out hb); clear hb; obtain ⟨k0, k1, k2, k3, kf0, kf1, kf2, kf3⟩ := HK.out.c4; obtain ⟨p0, p1, pf0, pf1⟩ := HP.out.c2; obtain ⟨x0, x1, x2, x3, x4, x5, x6, x7, x8, x9, x10, x11, xf0, xf1, xf2, xf3, xf4, xf5, xf6, xf7, xf8, xf9, xf10, xf11⟩ := HX.out.c12) | (with_reducible refine ((HLV.out _ _ _ (ENV.out.below HB.out)).mono ?_); rintro e w' ⟨rfl, hb⟩; replace HK := Lib.hid (HK.out.keep hb); clear k0 k1 k2 k3 kf0 kf1 kf2 kf3; replace HP := Lib.hid (HP.out.keep hb); clear p0 p1 pf0 pf1; replace HX := Lib.hid (HX.out.keep hb); clear x0 x1 x2 x3 x4 x5 x6 x7 x8 x9 x10 x11 xf0 xf1 xf2 xf3 xf4 xf5 xf6 xf7 xf8 xf9 xf10 xf11; replace HV := Lib.hid (GnsAt.kept HV.out hb); replace HL := Lib.hid (FdsAt.kept HL.out hb); replace HB := Lib.hid (bch' HB.out hb); clear hb; obtain ⟨k0, k1, k2, k3, kf0, kf1, kf2, kf3⟩ := HK.out.c4; obtain ⟨p0, p1, pf0, pf1⟩ := HP.out.c2; obtain ⟨x0, x1, x2, x3, x4, x5, x6, x7, x8, x9, x10, x11, xf0, xf1, xf2, xf3, xf4, xf5, xf6, xf7, xf8, xf9, xf10, xf11⟩ := HX.out.c12) | (with_reducible refine ((HGA.out _ _ _ HV.out).mono ?_); rintro e w' ⟨rfl, hb⟩; replace HK := Lib.hid (HK.out.keep hb); clear k0 k1 k2 k3 kf0 kf1 kf2 kf3; replace HP := Lib.hid (HP.out.keep hb); clear p0 p1 pf0 pf1; replace HX := Lib.hid (HX.out.keep hb); clear x0 x1 x2 x3 x4 x5 x6 x7 x8 x9 x10 x11 xf0 xf1 xf2 xf3 xf4 xf5 xf6 xf7 xf8 xf9 xf10 xf11; replace HV := Lib.hid (GnsAt.kept HV.out hb); replace HL := Lib.hid (FdsAt.kept HL.out hb); replace HB := Lib.hid (bch' HB.out hb); clear hb; obtain ⟨k0, k1, k2, k3, kf0, kf1, kf2, kf3⟩ := HK.out.c4; obtain ⟨p0, p1, pf0, pf1⟩ := HP.out.c2; obtain ⟨x0, x1, x2, x3, x4, x5, x6, x7, x8, x9, x10, x11, xf0, xf1, xf2, xf3, xf4, xf5, xf6, xf7, xf8, xf9, xf10, xf11⟩ := HX.out.c12))
      go_ret3
      exact ⟨rfl, HB.out⟩

end Go.Proofs.YtkjelfmgnkkijaaGreatDoor
namespace Lum
open Go Go.RowKit Go.Shelf
open Go.Lib (decDigits itoa)
theorem blkN1 (w : World) (o : Obj) (t : TypeId) (cs : Array Value) : Blk ((w.alloc o).alloc (.cells cs t)) (w.heap.size + 1) t cs := by
  have h := Blk.new (w.alloc o) t cs
  rwa [World.size_alloc] at h
def frontG : List Gn := [⟨1, 0, 40000⟩, ⟨1, 1, 500⟩]
theorem gns_front {W : World} {g : Nat} {t : TypeId} (h : Blk W g t #[.int .i64 1, .int .i64 0, .int .i64 40000, .int .i64 1, .int .i64 1, .int .i64 500]) : GnsAt W (.slice (some ⟨g, 0, none⟩) 2 2) frontG := by
  refine ⟨_, _, rfl, Nat.le_refl _, fun _ => ⟨g, 0, rfl, h.lt, fun i hi => ?_⟩⟩
  match i, hi with
  | 0, _ => exact ⟨h.c6.1, h.c6.2.1, h.c6.2.2.1⟩
  | 1, _ => exact ⟨h.c6.2.2.2.1, h.c6.2.2.2.2.1, h.c6.2.2.2.2.2.1⟩
theorem gns_one {W : World} {g : Nat} {t : TypeId} {v : Int} (h : Blk W g t #[.int .i64 1, .int .i64 0, .int .i64 v]) : GnsAt W (.slice (some ⟨g, 0, none⟩) 1 1) [⟨1, 0, v⟩] := by
  refine ⟨_, _, rfl, Nat.le_refl _, fun _ => ⟨g, 0, rfl, h.lt, fun i hi => ?_⟩⟩
  match i, hi with
  | 0, _ => exact ⟨h.c3.1, h.c3.2.1, h.c3.2.2.1⟩
theorem belongs_nil {nu : Int} : Belongs (fun k => (fdv [] k).su) ([] : List Fdr).length nu 0 false := ⟨Nat.le_refl _, fun _ h => absurd h (Nat.not_lt_zero _), (fun h => by cases h), fun _ _ _ h => absurd h (Nat.not_lt_zero _), fun _ _ h => absurd h (Nat.not_lt_zero _)⟩
theorem belongs_hit (x : Fdr) {nu : Int} (h : x.su = nu) : Belongs (fun k => (fdv [x] k).su) [x].length nu 0 true := ⟨by simp, fun _ h => absurd h (Nat.not_lt_zero _), fun _ => ⟨by simp, h⟩, (fun h => by cases h), fun j h1 h2 => by simp at h2; omega⟩
theorem len_one {x : Fdr} (h : x.fr.length ≤ 1000) : ∀ i, i < [x].length → (fdv [x] i).fr.length ≤ 1000 := fun i hi => by
  obtain rfl : i = 0 := by simpa using hi
  exact h
end Lum
namespace Go.Proofs.YtkjelfmgnkkijaaGreatDoor
open Go.RowKit Go.Shelf Lum
open Go.Lib (decDigits itoa)
attribute [local go_sem] bs_get bs_extract_end bs_extract_from bs_extract bs_append

set_option maxRecDepth 100000 in
set_option maxHeartbeats 2000000 in
theorem l26_front (w : World) :
    Calls Tryz.prog 95 #[] w fun e w' => ∃ gv, e = .returned (.agg #[.int .i64 3, .int .i64 0, .bool false, gv]) ∧ GnsAt w' gv frontG ∧ Below w.heap.size w w' := by
  go_enter Tryz.func95, Tryz.ntmps95
  go_wp2
  refine bodyPost_ret_by (v := .agg #[.int .i64 3, .int .i64 0, .bool false, .slice (some ⟨w.heap.size + 1, 0, none⟩) 2 2]) (by simp [results, Tryz.f95, go_sem]) rfl ⟨_, rfl, gns_front (blkN1 w _ 85 _), ((Below.refl _ _).alloc (Nat.le_refl _) _).alloc (by simp) _⟩

set_option maxRecDepth 100000 in
set_option maxHeartbeats 2000000 in
theorem l26_dim (v : Int) (w : World) :
    Calls Tryz.prog 96 #[.int .i64 v] w fun e w' => ∃ gv, e = .returned (.agg #[.int .i64 4, .int .i64 0, .bool true, gv]) ∧ GnsAt w' gv [⟨1, 0, v⟩] ∧ Below w.heap.size w w' := by
  go_enter Tryz.func96, Tryz.ntmps96
  go_wp2
  refine bodyPost_ret_by (v := .agg #[.int .i64 4, .int .i64 0, .bool true, .slice (some ⟨w.heap.size + 1, 0, none⟩) 1 1]) (by simp [results, Tryz.f96, go_sem]) rfl ⟨_, rfl, gns_one (blkN1 w _ 85 _), ((Below.refl _ _).alloc (Nat.le_refl _) _).alloc (by simp) _⟩

set_option maxRecDepth 100000 in
set_option maxHeartbeats 2000000 in
theorem l26_standing (n v : Int) (w : World) :
    Calls Tryz.prog 45 #[.int .i64 n, .int .i64 v] w fun e w' => ∃ lv, e = .returned lv ∧ FdsAt w' lv [fdN n v] ∧ Below w.heap.size w w' := by
  go_enter Tryz.func45, Tryz.ntmps45
  go_wp2
  go_ret
  exact ⟨_, rfl, fds_one (Blk.new w _ _), (Below.refl _ _).alloc (Nat.le_refl _) _⟩

set_option maxRecDepth 100000 in
set_option maxHeartbeats 16000000 in
theorem l26_awake (w : World) (env : Env w) :
    Calls Tryz.prog 31 #[] w fun e w' => e = .returned (.bool (true)) ∧ Below w.heap.size w w' := by
  have ENV := Lib.hid env; clear env
  have HB := Lib.hid (Below.refl w.heap.size w)
  have hfr := fun W => l26_front W
  have hdi := fun v W => l26_dim v W
  have hst := fun n v W => l26_standing n v W
  have HFR := Lib.hid hfr; clear hfr
  have HDI := Lib.hid hdi; clear hdi
  have HST := Lib.hid hst; clear hst
  go_enter Tryz.func31, Tryz.ntmps31
  go_wp2_with fail
  refine ((HFR.out _).mono ?_)
  rintro e w1 ⟨gv1, rfl, hg1, hb⟩
  have HG1 := Lib.hid hg1; clear hg1
  replace HB := Lib.hid (bch' HB.out hb); clear hb
  go_wp2_with fail
  refine ((HST.out 3 13107 _).mono ?_)
  rintro e w2 ⟨lv2, rfl, hl2, hb⟩
  replace HG1 := Lib.hid (GnsAt.kept HG1.out hb)
  have HL2 := Lib.hid hl2; clear hl2
  replace HB := Lib.hid (bch' HB.out hb); clear hb
  go_wp2_with fail
  refine ((own_samount_ok 3 0 1 0 0 false frontG [fdN 3 13107] gv1 (lv2) _ HG1.out HL2.out (by decide +kernel) (by decide +kernel) (fdN_len (.inr (.inl ⟨_, _, rfl⟩))) (by decide) (ENV.out.below HB.out)).mono ?_)
  rw [show amT 3 false frontG [fdN 3 13107] 1 0 0 = ([56, 48, 48, 48], true) by decide +kernel]
  dsimp only
  rintro e w3 ⟨rfl, hb⟩
  replace HG1 := Lib.hid (GnsAt.kept HG1.out hb)
  replace HL2 := Lib.hid (FdsAt.kept HL2.out hb)
  replace HB := Lib.hid (bch' HB.out hb); clear hb
  go_wp2_with fail
  clear HG1 HL2
  refine ((HFR.out _).mono ?_)
  rintro e w4 ⟨gv4, rfl, hg4, hb⟩
  have HG4 := Lib.hid hg4; clear hg4
  replace HB := Lib.hid (bch' HB.out hb); clear hb
  go_wp2_with fail
  refine ((HST.out 3 13107 _).mono ?_)
  rintro e w5 ⟨lv5, rfl, hl5, hb⟩
  replace HG4 := Lib.hid (GnsAt.kept HG4.out hb)
  have HL5 := Lib.hid hl5; clear hl5
  replace HB := Lib.hid (bch' HB.out hb); clear hb
  go_wp2_with fail
  refine ((own_samount_ok 3 0 1 1 0 false frontG [fdN 3 13107] gv4 (lv5) _ HG4.out HL5.out (by decide +kernel) (by decide +kernel) (fdN_len (.inr (.inl ⟨_, _, rfl⟩))) (by decide) (ENV.out.below HB.out)).mono ?_)
  rw [show amT 3 false frontG [fdN 3 13107] 1 1 0 = ([53, 48, 48], true) by decide +kernel]
  dsimp only
  rintro e w6 ⟨rfl, hb⟩
  replace HG4 := Lib.hid (GnsAt.kept HG4.out hb)
  replace HL5 := Lib.hid (FdsAt.kept HL5.out hb)
  replace HB := Lib.hid (bch' HB.out hb); clear hb
  go_wp2_with fail
  clear HG4 HL5
  refine ((HFR.out _).mono ?_)
  rintro e w7 ⟨gv7, rfl, hg7, hb⟩
  have HG7 := Lib.hid hg7; clear hg7
  replace HB := Lib.hid (bch' HB.out hb); clear hb
  go_wp2_with fail
  refine ((own_samount_ok 3 0 1 0 0 false frontG [] gv7 (.slice none 0 0) _ HG7.out (fds_nil _) (by decide +kernel) (by decide +kernel) (fdN_len (.inl rfl)) (by decide) (ENV.out.below HB.out)).mono ?_)
  rw [show amT 3 false frontG [] 1 0 0 = ([], false) by decide +kernel]
  dsimp only
  rintro e w8 ⟨rfl, hb⟩
  replace HG7 := Lib.hid (GnsAt.kept HG7.out hb)
  replace HB := Lib.hid (bch' HB.out hb); clear hb
  go_wp2_with fail
  clear HG7
  refine ((HDI.out 65535 _).mono ?_)
  rintro e w9 ⟨gv9, rfl, hg9, hb⟩
  have HG9 := Lib.hid hg9; clear hg9
  replace HB := Lib.hid (bch' HB.out hb); clear hb
  go_wp2_with fail
  refine ((own_sfactor 4 0 1 0 true [⟨1, 0, 65535⟩] [] gv9 (.slice none 0 0) _ HG9.out (fds_nil _) (by decide +kernel) (by decide +kernel) (fdN_len (.inl rfl)) (by decide) (ENV.out.below HB.out)).mono ?_)
  rw [show showR (sclQ ⟨4, 0, true, [⟨1, 0, 65535⟩]⟩ [] 1 0) = [49] by decide +kernel]
  rintro e w10 ⟨rfl, hb⟩
  replace HG9 := Lib.hid (GnsAt.kept HG9.out hb)
  replace HB := Lib.hid (bch' HB.out hb); clear hb
  go_wp2_with fail
  clear HG9
  refine ((HDI.out 65535 _).mono ?_)
  rintro e w11 ⟨gv11, rfl, hg11, hb⟩
  have HG11 := Lib.hid hg11; clear hg11
  replace HB := Lib.hid (bch' HB.out hb); clear hb
  go_wp2_with fail
  refine ((HST.out 4 13107 _).mono ?_)
  rintro e w12 ⟨lv12, rfl, hl12, hb⟩
  replace HG11 := Lib.hid (GnsAt.kept HG11.out hb)
  have HL12 := Lib.hid hl12; clear hl12
  replace HB := Lib.hid (bch' HB.out hb); clear hb
  go_wp2_with fail
  refine ((own_sfactor 4 0 1 0 true [⟨1, 0, 65535⟩] [fdN 4 13107] gv11 (lv12) _ HG11.out HL12.out (by decide +kernel) (by decide +kernel) (fdN_len (.inr (.inl ⟨_, _, rfl⟩))) (by decide) (ENV.out.below HB.out)).mono ?_)
  rw [show showR (sclQ ⟨4, 0, true, [⟨1, 0, 65535⟩]⟩ [fdN 4 13107] 1 0) = [49, 47, 53] by decide +kernel]
  rintro e w13 ⟨rfl, hb⟩
  replace HG11 := Lib.hid (GnsAt.kept HG11.out hb)
  replace HL12 := Lib.hid (FdsAt.kept HL12.out hb)
  replace HB := Lib.hid (bch' HB.out hb); clear hb
  go_wp2_with fail
  clear HG11 HL12
  refine ((HDI.out 13107 _).mono ?_)
  rintro e w14 ⟨gv14, rfl, hg14, hb⟩
  have HG14 := Lib.hid hg14; clear hg14
  replace HB := Lib.hid (bch' HB.out hb); clear hb
  go_wp2_with fail
  refine ((HST.out 4 0 _).mono ?_)
  rintro e w15 ⟨lv15, rfl, hl15, hb⟩
  replace HG14 := Lib.hid (GnsAt.kept HG14.out hb)
  have HL15 := Lib.hid hl15; clear hl15
  replace HB := Lib.hid (bch' HB.out hb); clear hb
  go_wp2_with fail
  refine ((own_sfactor 4 0 1 0 true [⟨1, 0, 13107⟩] [fdN 4 0] gv14 (lv15) _ HG14.out HL15.out (by decide +kernel) (by decide +kernel) (fdN_len (.inr (.inl ⟨_, _, rfl⟩))) (by decide) (ENV.out.below HB.out)).mono ?_)
  rw [show showR (sclQ ⟨4, 0, true, [⟨1, 0, 13107⟩]⟩ [fdN 4 0] 1 0) = [52, 47, 53] by decide +kernel]
  rintro e w16 ⟨rfl, hb⟩
  replace HG14 := Lib.hid (GnsAt.kept HG14.out hb)
  replace HL15 := Lib.hid (FdsAt.kept HL15.out hb)
  replace HB := Lib.hid (bch' HB.out hb); clear hb
  go_wp2_with fail
  clear HG14 HL15
  refine ((HFR.out _).mono ?_)
  rintro e w17 ⟨gv17, rfl, hg17, hb⟩
  have HG17 := Lib.hid hg17; clear hg17
  replace HB := Lib.hid (bch' HB.out hb); clear hb
  go_wp2_with fail
  refine ((own_smove_new 3 0 1000 65535 500 false frontG [] gv17 (.slice none 0 0) 0 _ HG17.out (fds_nil _) (by decide +kernel) (by decide +kernel) (fun i h => absurd h (Nat.not_lt_zero i)) (by decide) belongs_nil (by decide) (ENV.out.below HB.out)).mono ?_)
  rw [show insL [] 0 false (mvF 3 false [] 1000 65535 500 false) = [⟨3, [48], 65535, 1000, 500, 1000⟩] by decide +kernel]
  rintro e w18 ⟨pp18, cc18, rfl, ho18, hb⟩
  have HL18 := Lib.hid (OwnR.fds ho18); clear ho18
  replace HG17 := Lib.hid (GnsAt.kept HG17.out hb)
  replace HB := Lib.hid (bch' HB.out hb); clear hb
  go_wp2_with fail
  clear HG17
  refine ((HFR.out _).mono ?_)
  rintro e w19 ⟨gv19, rfl, hg19, hb⟩
  replace HL18 := Lib.hid (FdsAt.kept HL18.out hb)
  have HG19 := Lib.hid hg19; clear hg19
  replace HB := Lib.hid (bch' HB.out hb); clear hb
  go_wp2_with fail
  refine ((own_smove_on 3 0 1250 0 0 false frontG [⟨3, [48], 65535, 1000, 500, 1000⟩] gv19 (.slice pp18 1 cc18) 0 _ HG19.out HL18.out (by decide +kernel) (by decide +kernel) (len_one (by decide)) (by decide) (belongs_hit _ (by decide)) (by decide +kernel) (ENV.out.below HB.out)).mono ?_)
  rw [show insL [⟨3, [48], 65535, 1000, 500, 1000⟩] 0 true (mvF 3 false [⟨3, [48], 65535, 1000, 500, 1000⟩] 1250 0 0 true) = [⟨3, [54, 53, 53, 51, 53, 47, 50], 0, 1250, 0, 1000⟩] by decide +kernel]
  rintro e w20 ⟨pp20, cc20, rfl, ho20, hb⟩
  have HL20 := Lib.hid (OwnR.fds ho20); clear ho20
  replace HL18 := Lib.hid (FdsAt.kept HL18.out hb)
  replace HG19 := Lib.hid (GnsAt.kept HG19.out hb)
  replace HB := Lib.hid (bch' HB.out hb); clear hb
  go_wp2_with fail
  clear HG19
  clear HL18
  refine ((HFR.out _).mono ?_)
  rintro e w21 ⟨gv21, rfl, hg21, hb⟩
  replace HL20 := Lib.hid (FdsAt.kept HL20.out hb)
  have HG21 := Lib.hid hg21; clear hg21
  replace HB := Lib.hid (bch' HB.out hb); clear hb
  go_wp2_with fail
  refine ((own_slev_ok 3 0 1250 false frontG [⟨3, [54, 53, 53, 51, 53, 47, 50], 0, 1250, 0, 1000⟩] gv21 (.slice pp20 1 cc20) _ HG21.out HL20.out (by decide +kernel) (by decide +kernel) (len_one (by decide)) (ENV.out.below HB.out)).mono ?_)
  rw [show showR (lvlQ 3 false [⟨3, [54, 53, 53, 51, 53, 47, 50], 0, 1250, 0, 1000⟩] 1250) = [48] by decide +kernel]
  rintro e w22 ⟨rfl, hb⟩
  replace HL20 := Lib.hid (FdsAt.kept HL20.out hb)
  replace HG21 := Lib.hid (GnsAt.kept HG21.out hb)
  replace HB := Lib.hid (bch' HB.out hb); clear hb
  go_wp2_with fail
  clear HG21
  refine ((HFR.out _).mono ?_)
  rintro e w23 ⟨gv23, rfl, hg23, hb⟩
  replace HL20 := Lib.hid (FdsAt.kept HL20.out hb)
  have HG23 := Lib.hid hg23; clear hg23
  replace HB := Lib.hid (bch' HB.out hb); clear hb
  go_wp2_with fail
  refine ((own_smove_zero 3 0 2000 9 0 false frontG [⟨3, [54, 53, 53, 51, 53, 47, 50], 0, 1250, 0, 1000⟩] gv23 (.slice pp20 1 cc20) 0 _ HG23.out HL20.out (by decide +kernel) (by decide +kernel) (len_one (by decide)) (by decide) (belongs_hit _ (by decide)) (by decide +kernel) (ENV.out.below HB.out)).mono ?_)
  rw [show insL [⟨3, [54, 53, 53, 51, 53, 47, 50], 0, 1250, 0, 1000⟩] 0 true (mvF 3 false [⟨3, [54, 53, 53, 51, 53, 47, 50], 0, 1250, 0, 1000⟩] 2000 9 0 true) = [⟨3, [48], 9, 2000, 0, 2000⟩] by decide +kernel]
  rintro e w24 ⟨pp24, cc24, rfl, ho24, hb⟩
  have HL24 := Lib.hid (OwnR.fds ho24); clear ho24
  replace HL20 := Lib.hid (FdsAt.kept HL20.out hb)
  replace HG23 := Lib.hid (GnsAt.kept HG23.out hb)
  replace HB := Lib.hid (bch' HB.out hb); clear hb
  clear HG23
  obtain ⟨b2, o2, rfl, hb2, hC2⟩ := (by obtain ⟨p, c, e, -, h⟩ := HL20.out; injection e with e1 e2 e3; subst e1; exact h (by simp) : ∃ b o, pp20 = some ⟨b, o, none⟩ ∧ b < w24.heap.size ∧ FdsC w24 b o [⟨3, [54, 53, 53, 51, 53, 47, 50], 0, 1250, 0, 1000⟩])
  obtain ⟨b3, o3, rfl, hb3, hC3⟩ := (by obtain ⟨p, c, e, -, h⟩ := HL24.out; injection e with e1 e2 e3; subst e1; exact h (by simp) : ∃ b o, pp24 = some ⟨b, o, none⟩ ∧ b < w24.heap.size ∧ FdsC w24 b o [⟨3, [48], 9, 2000, 0, 2000⟩])
  obtain ⟨x0, x1, x2, x3, x4, x5⟩ := hC2 0 (by decide)
  obtain ⟨y0, y1, y2, y3, y4, y5⟩ := hC3 0 (by decide)
  simp only [Nat.zero_mul, Nat.add_zero] at x0 x1 x2 x3 x4 x5 y0 y1 y2 y3 y4 y5
  clear hC2 hC3
  change _ = some (Value.string ⟨#[54, 53, 53, 51, 53, 47, 50]⟩) at x1
  change _ = some (Value.int .i64 1000) at x5
  change _ = some (Value.int .i64 2000) at y5
  go_wp2_with fail
  go_ret
  exact ⟨rfl, HB.out⟩
end Go.Proofs.YtkjelfmgnkkijaaGreatDoor
namespace Lum
open Go Go.RowKit Go.Shelf
open Go.Lib (decDigits itoa)
theorem sbs_one {W : World} {g : Nat} {t : TypeId} {nu pr : Int} {inh : Bool} {gv : Value} {gs : List Gn} (h : Blk W g t #[.int .i64 nu, .int .i64 pr, .bool inh, gv]) (hg : GnsAt W gv gs) : SbsAt W (.slice (some ⟨g, 0, none⟩) 1 1) [⟨nu, pr, inh, gs⟩] := by
  refine ⟨_, _, rfl, Nat.le_refl _, fun _ => ⟨g, 0, rfl, h.lt, fun i hi => ?_⟩⟩
  match i, hi with
  | 0, _ => exact ⟨h.c4.1, h.c4.2.1, h.c4.2.2.1, gv, h.c4.2.2.2.1, hg⟩
end Lum
namespace Go.Proofs.YtkjelfmgnkkijaaGreatDoor
open Go.RowKit Go.Shelf Lum
open Go.Lib (decDigits itoa)
attribute [local go_sem] bs_get bs_extract_end bs_extract_from bs_extract bs_append

end Go.Proofs.YtkjelfmgnkkijaaGreatDoor

/-
  Waves: At with errors.
-/
import Derived.Test.YtbamcfhmkohbmaaGreatDoorWv4
import Derived.Test.YtbamcfhmkohbmaaGreatDoorWv6
set_option linter.unusedVariables false
set_option linter.unusedSimpArgs false
namespace Lum
open Go Go.RowKit Go.Shelf
open Go.Lib (decDigits itoa)
theorem atT_wave {l : List (Int × Int)} {x : Txt} (h : ¬ wvE l = 0) : atT l x = ([], wvE l) := by unfold atT; rw [if_pos h]
theorem atT_rat {l : List (Int × Int)} {x : Txt} (h : wvE l = 0) (h2 : ¬ ratCheck x = 0) : atT l x = ([], ratCheck x) := by unfold atT; rw [if_neg (by simpa using h), if_pos h2]
theorem atT_ok {l : List (Int × Int)} {q : Rat} (h : wvE l = 0) (h2 : ratCheck (showR q) = 0) : atT l (showR q) = (showR (hgtW l q), 0) := by unfold atT; rw [if_neg (by simpa using h), if_neg (by simpa using h2), valR_showR]
end Lum
namespace Go.Proofs.YtbamcfhmkohbmaaGreatDoor
open Go.RowKit Go.Shelf Lum
open Go.Lib (decDigits itoa)
attribute [local go_sem] bs_get bs_extract_end bs_extract_from bs_extract bs_append

set_option maxRecDepth 100000 in
set_option maxHeartbeats 4000000 in
theorem own_at_bad (l : List (Int × Int)) (v : Value) (x : Txt) (w : World) (hv : PtsAt w v l) (hn : l.length ≤ 1000000000) (hx : x.length ≤ 100000) (hz : ¬ (wvE l = 0 ∧ ratCheck x = 0)) (env : Env w) :
    Calls Tryz.prog 17 #[v, .string ⟨x.toArray⟩] w fun e w' => e = .returned (.tuple #[.string ⟨((atT l x).1).toArray⟩, .int .i64 (atT l x).2]) ∧ Below w.heap.size w w' := by
  have hk := fun W (h : PtsAt W v l) => own_wcheck l v W h hn
  have hr := fun W (e : Env W) => own_rcheck x W hx e
  have hb0 := (((Below.refl w.heap.size w).alloc (Nat.le_refl _) (.cells #[.string ⟨x.toArray⟩] 23)).alloc (by simp) (.cells #[.string ⟨#[]⟩] 23)).alloc (by simp; omega) (.cells #[.int .i64 0] 26)
  have h3 := ((Blk.new w 23 #[.string ⟨x.toArray⟩]).alloc (.cells #[.string ⟨#[]⟩] 23)).alloc (.cells #[.int .i64 0] 26)
  have h4 := (Blk.new (w.alloc (.cells #[.string ⟨x.toArray⟩] 23)) 23 #[.string ⟨#[]⟩]).alloc (.cells #[.int .i64 0] 26)
  have h5 := Blk.new ((w.alloc (.cells #[.string ⟨x.toArray⟩] 23)).alloc (.cells #[.string ⟨#[]⟩] 23)) 26 #[.int .i64 0]
  simp only [World.size_alloc] at h4 h5
  have hv0 := PtsAt.below hv ((((Below.refl w.heap.size w).alloc (Nat.le_refl _) (.cells #[.string ⟨x.toArray⟩] 23)).alloc (by simp) (.cells #[.string ⟨#[]⟩] 23)).alloc (by simp; omega) (.cells #[.int .i64 0] 26))
  have HV := Lib.hid hv0; clear hv0 hv
  have HB := Lib.hid hb0; clear hb0
  have H3 := Lib.hid h3; clear h3
  have H4 := Lib.hid h4; clear h4
  have H5 := Lib.hid h5; clear h5
  have ENV := Lib.hid env; clear env
  obtain ⟨p3, q3⟩ := H3.out.c1
  obtain ⟨p4, q4⟩ := H4.out.c1
  obtain ⟨p5, q5⟩ := H5.out.c1
  by_cases h1 : wvE l = 0
  · have h2 : ¬ ratCheck x = 0 := fun h => hz ⟨h1, h⟩
    rw [atT_rat h1 h2]
    rw [h1] at hk
    dsimp only
    have hne : ((ratCheck x : Int) != 0) = true := by simpa using h2
    clear h1 h2 hz hx
    generalize ratCheck x = m at *
    have HK := Lib.hid hk; clear hk
    have HR := Lib.hid hr; clear hr
    go_enter Tryz.func17, Tryz.ntmps17
    go_wp2_with (first | (with_reducible refine ((HK.out _ HV.out).mono ?_); rintro e w' ⟨rfl, hb⟩; replace H3 := Lib.hid (H3.out.keep hb); replace H4 := Lib.hid (H4.out.keep hb); replace H5 := Lib.hid (H5.out.keep hb); replace HB := Lib.hid (bch' HB.out hb); clear hb p3 p4 p5 q3 q4 q5; obtain ⟨p3, q3⟩ := H3.out.c1; obtain ⟨p4, q4⟩ := H4.out.c1; obtain ⟨p5, q5⟩ := H5.out.c1) | (with_reducible refine ((HR.out _ (ENV.out.below HB.out)).mono ?_); rintro e w' ⟨rfl, hb⟩; replace H3 := Lib.hid (H3.out.keep hb); replace H4 := Lib.hid (H4.out.keep hb); replace H5 := Lib.hid (H5.out.keep hb); replace HB := Lib.hid (bch' HB.out hb); clear hb p3 p4 p5 q3 q4 q5; obtain ⟨p3, q3⟩ := H3.out.c1; obtain ⟨p4, q4⟩ := H4.out.c1; obtain ⟨p5, q5⟩ := H5.out.c1))
    refine bodyPost_ret_by (v := .tuple #[.string ⟨#[]⟩, .int .i64 m]) (by simp [results, Tryz.f17, go_sem, p4, p5, q4, q5]) rfl ⟨rfl, ?_⟩
    exact (HB.out.setCell (p := ⟨w.heap.size + 1, 0, none⟩) (by simp; try omega) _).setCell (p := ⟨w.heap.size + 1 + 1, 0, none⟩) (by simp; try omega) _
  · rw [atT_wave h1]
    dsimp only
    have hne : ((wvE l : Int) != 0) = true := by simpa using h1
    clear h1 hz hx
    generalize wvE l = m at *
    have HK := Lib.hid hk; clear hk
    have HR := Lib.hid hr; clear hr
    go_enter Tryz.func17, Tryz.ntmps17
    go_wp2_with ((with_reducible refine ((HK.out _ HV.out).mono ?_); rintro e w' ⟨rfl, hb⟩; replace H3 := Lib.hid (H3.out.keep hb); replace H4 := Lib.hid (H4.out.keep hb); replace H5 := Lib.hid (H5.out.keep hb); replace HB := Lib.hid (bch' HB.out hb); clear hb p3 p4 p5 q3 q4 q5; obtain ⟨p3, q3⟩ := H3.out.c1; obtain ⟨p4, q4⟩ := H4.out.c1; obtain ⟨p5, q5⟩ := H5.out.c1))
    refine bodyPost_ret_by (v := .tuple #[.string ⟨#[]⟩, .int .i64 m]) (by simp [results, Tryz.f17, go_sem, p4, p5, q4, q5]) rfl ⟨rfl, ?_⟩
    exact (HB.out.setCell (p := ⟨w.heap.size + 1, 0, none⟩) (by simp; try omega) _).setCell (p := ⟨w.heap.size + 1 + 1, 0, none⟩) (by simp; try omega) _

theorem own_at (l : List (Int × Int)) (v : Value) (x : Txt) (w : World) (hv : PtsAt w v l) (hn : l.length ≤ 1000000000) (hx : x.length ≤ 399) (env : Env w) :
    Calls Tryz.prog 17 #[v, .string ⟨x.toArray⟩] w fun e w' => e = .returned (.tuple #[.string ⟨((atT l x).1).toArray⟩, .int .i64 (atT l x).2]) ∧ Below w.heap.size w w' := by
  by_cases h : wvE l = 0 ∧ ratCheck x = 0
  · obtain ⟨h1, h2⟩ := h
    obtain ⟨q, rfl, fx⟩ := ratCheck_zero x h2
    rw [atT_ok h1 h2]
    exact own_at_ok l v q w hv hn h1 (fits_of_len hx) env
  · exact own_at_bad l v x w hv hn (by omega) h env
end Go.Proofs.YtbamcfhmkohbmaaGreatDoor

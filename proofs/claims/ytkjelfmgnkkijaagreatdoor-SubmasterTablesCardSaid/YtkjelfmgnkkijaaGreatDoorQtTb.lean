/-
  slices.BinarySearchFunc at submasters. Submasters of the program: place; slices.Clone and Insert at submasters. Submasters of the reference: With. Submasters: Put of the program and of the reference.
-/
import Derived.Test.YtkjelfmgnkkijaaGreatDoorQtDl
import Derived.Test.YtkjelfmgnkkijaaGreatDoorSp
import Derived.Test.YtkjelfmgnkkijaaGreatDoorQq
import Derived.Deep.LoopGhost
import Derived.Test.YtkjelfmgnkkijaaGreatDoorQtSq
import Derived.Test.YtkjelfmgnkkijaaGreatDoorSc
import Derived.Test.YtkjelfmgnkkijaaGreatDoorQtMu
import Derived.WalkSpells
import Derived.Lib.SliceRun
import Derived.Lib.Overlaps
import Derived.Outline
set_option linter.unusedVariables false
set_option linter.unusedSimpArgs false
namespace Lum
open Go Go.RowKit Go.Shelf
open Go.Lib (decDigits itoa)
abbrev Sl3 := Option Addr × Nat × Nat
/-- A submaster with its gains' slice. -/
def encT (x : Sb × Sl3) : List Value := [.int .i64 x.1.nu, .int .i64 x.1.pr, .bool x.1.inh, .slice x.2.1 x.2.2.1 x.2.2.2]
theorem encT_len (x : Sb × Sl3) : (encT x).length = 4 := rfl
theorem encT_one (x : Sb × Sl3) : ∀ u ∈ encT x, u.oneCell' = true := by
  intro u hu
  simp only [encT, List.mem_cons, List.not_mem_nil, or_false] at hu
  rcases hu with rfl | rfl | rfl | rfl <;> rfl
end Lum
namespace Go.Proofs.YtkjelfmgnkkijaaGreatDoor
open Go.RowKit Go.Shelf Lum
open Go.Lib (decDigits itoa)
attribute [local go_sem] bs_get bs_extract_end bs_extract_from bs_extract bs_append

set_option maxRecDepth 100000 in
set_option maxHeartbeats 4000000 in
theorem bs_sub (M : FuncId) (l : List (Sb × Sl3)) (pp : Option Addr) (cc : Nat) (tv : Value) (c : Nat → Int) (w : World) (hR : RowX encT 4 w pp l) (hn0 : l.length ≤ 1000000) (hF : ∀ args w, (callFunc M args).run Tryz.prog w = .ok (.enter M args) w)
    (hcm : ∀ i (hi : i < l.length), ∀ W, Below w.heap.size w W → Calls Tryz.prog M #[.agg #[.int .i64 (l[i]'hi).1.nu, .int .i64 (l[i]'hi).1.pr, .bool (l[i]'hi).1.inh, .slice (l[i]'hi).2.1 (l[i]'hi).2.2.1 (l[i]'hi).2.2.2], tv] W fun e w' => e = .returned (.int .i64 (c i)) ∧ Below W.heap.size W w') :
    Calls Tryz.prog 166 #[.slice pp l.length cc, tv, .func (.func M) #[] #[]] w fun e w' => ∃ i : Nat, Halved c l.length i ∧ e = .returned (.tuple #[.int .i64 (i : Int), .bool (decide (i < l.length ∧ c i = 0))]) ∧ Below w.heap.size w w' := by
  have hv2 := Lib.hid hR; clear hR
  have hcc := Lib.hid hcm; clear hcm
  have HB := Lib.hid (Below.refl w.heap.size w)
  go_enter Tryz.func166, Tryz.ntmps166
  go_wp2_with fail
  go_loopg [9, 10] l.length (fun kx s9 s10 wr => ∃ lo hi : Nat, s9 = .int .i64 (lo : Int) ∧ s10 = .int .i64 (hi : Int) ∧ lo ≤ hi ∧ hi ≤ l.length ∧ hi - lo ≤ kx ∧ Hid (Below w.heap.size w wr) ∧ Hid (0 < lo → c (lo - 1) < 0) ∧ Hid (hi < l.length → 0 ≤ c hi))
  case atStart => exact ⟨0, l.length, rfl, rfl, Nat.zero_le _, Nat.le_refl _, by omega, HB, Lib.hid (fun h => absurd h (Nat.lt_irrefl 0)), Lib.hid (fun h => absurd h (Nat.lt_irrefl _))⟩
  case round =>
    clear HB
    obtain ⟨lo, hi, rfl, rfl, hlh, hin, hg, HB, H1, H2⟩ := hrel
    by_cases hlt : lo < hi
    · have hml : (lo + hi) / 2 < l.length := by omega
      have hlo : (lo + hi) / 2 * 4 < 9223372036854775807 := by omega
      obtain ⟨b, o, rfl, hb, hC⟩ := hv2.out (fun h => by subst h; exact absurd hml (Nat.not_lt_zero _))
      obtain ⟨x, hx⟩ : ∃ x, x = l[((lo + hi) / 2)]'hml := ⟨_, rfl⟩
      have hcell := hC ((lo + hi) / 2) hml
      have hcm := hcc.out ((lo + hi) / 2) hml
      rw [← hx] at hcell hcm
      have x0 : wr.cell? ⟨b, o + ((lo + hi) / 2) * 4, none⟩ = some (.int .i64 x.1.nu) := (HB.out.cell (p := ⟨b, o + ((lo + hi) / 2) * 4 + 0, none⟩) hb).trans (hcell 0 _ rfl)
      have x1 : wr.cell? ⟨b, o + ((lo + hi) / 2) * 4 + 1, none⟩ = some (.int .i64 x.1.pr) := (HB.out.cell (p := ⟨b, o + ((lo + hi) / 2) * 4 + 1, none⟩) hb).trans (hcell 1 _ rfl)
      have x2 : wr.cell? ⟨b, o + ((lo + hi) / 2) * 4 + 2, none⟩ = some (.bool x.1.inh) := (HB.out.cell (p := ⟨b, o + ((lo + hi) / 2) * 4 + 2, none⟩) hb).trans (hcell 2 _ rfl)
      have x3 : wr.cell? ⟨b, o + ((lo + hi) / 2) * 4 + 3, none⟩ = some (.slice x.2.1 x.2.2.1 x.2.2.2) := (HB.out.cell (p := ⟨b, o + ((lo + hi) / 2) * 4 + 3, none⟩) hb).trans (hcell 3 _ rfl)
      have hbr : b < wr.heap.size := by have := HB.out.size; omega
      clear hC hcell hb hx
      have HCM := Lib.hid hcm; clear hcm
      by_cases hc : c ((lo + hi) / 2) < 0
      · have K1 : Hid (0 < (lo + hi) / 2 + 1 → c ((lo + hi) / 2 + 1 - 1) < 0) := Lib.hid fun _ => by rw [Nat.add_sub_cancel]; exact hc
        generalize c ((lo + hi) / 2) = cv at *
        go_wp2_with (first | (with_reducible refine ((HCM.out _ HB.out).mono ?_); rintro e w' ⟨rfl, hb⟩; replace HB := Lib.hid (bch' HB.out hb); clear hb))
        go_roundg (hi - ((lo + hi) / 2 + 1))
        case measure => omega
        case rel => exact ⟨(lo + hi) / 2 + 1, hi, by rw [show ((lo : Int) + (hi : Int)) / 2 + 1 = (((lo + hi) / 2 + 1 : Nat) : Int) by omega], rfl, by omega, hin, Nat.le_refl _, HB, K1, H2⟩
      · have K2 : Hid ((lo + hi) / 2 < l.length → 0 ≤ c ((lo + hi) / 2)) := Lib.hid fun _ => by omega
        generalize hcv : c ((lo + hi) / 2) = cv at hc HCM
        clear hcv
        go_wp2_with (first | (with_reducible refine ((HCM.out _ HB.out).mono ?_); rintro e w' ⟨rfl, hb⟩; replace HB := Lib.hid (bch' HB.out hb); clear hb))
        go_roundg ((lo + hi) / 2 - lo)
        case measure => omega
        case rel => exact ⟨lo, (lo + hi) / 2, rfl, by rw [show ((lo : Int) + (hi : Int)) / 2 = (((lo + hi) / 2 : Nat) : Int) by omega], by omega, by omega, Nat.le_refl _, HB, H1, K2⟩
    · obtain rfl : hi = lo := by omega
      have HV : Hid (Halved c l.length hi) := Lib.hid ⟨hin, H1.out, H2.out⟩
      by_cases hn : hi < l.length
      · obtain ⟨b, o, rfl, hb, hC⟩ := hv2.out (fun h => by subst h; exact absurd hn (Nat.not_lt_zero _))
        obtain ⟨x, hx⟩ : ∃ x, x = l[hi]'hn := ⟨_, rfl⟩
        have hcell := hC hi hn
        have hcm := hcc.out hi hn
        rw [← hx] at hcell hcm
        have x0 : wr.cell? ⟨b, o + hi * 4, none⟩ = some (.int .i64 x.1.nu) := (HB.out.cell (p := ⟨b, o + hi * 4 + 0, none⟩) hb).trans (hcell 0 _ rfl)
        have x1 : wr.cell? ⟨b, o + hi * 4 + 1, none⟩ = some (.int .i64 x.1.pr) := (HB.out.cell (p := ⟨b, o + hi * 4 + 1, none⟩) hb).trans (hcell 1 _ rfl)
        have x2 : wr.cell? ⟨b, o + hi * 4 + 2, none⟩ = some (.bool x.1.inh) := (HB.out.cell (p := ⟨b, o + hi * 4 + 2, none⟩) hb).trans (hcell 2 _ rfl)
        have x3 : wr.cell? ⟨b, o + hi * 4 + 3, none⟩ = some (.slice x.2.1 x.2.2.1 x.2.2.2) := (HB.out.cell (p := ⟨b, o + hi * 4 + 3, none⟩) hb).trans (hcell 3 _ rfl)
        have hbr : b < wr.heap.size := by have := HB.out.size; omega
        clear hC hcell hb hx
        have HCM := Lib.hid hcm; clear hcm
        by_cases hc : c hi = 0
        · have HR : Hid (decide (hi < l.length ∧ c hi = 0) = true) := Lib.hid (decide_eq_true ⟨hn, hc⟩)
          rw [hc] at HCM
          clear hc H1 H2
          go_wp2_with (first | (with_reducible refine ((HCM.out _ HB.out).mono ?_); rintro e w' ⟨rfl, hb⟩; replace HB := Lib.hid (bch' HB.out hb); clear hb))
          go_ret2
          exact ⟨hi, HV.out, by rw [HR.out]; rfl, HB.out⟩
        · have HR : Hid (decide (hi < l.length ∧ c hi = 0) = false) := Lib.hid (decide_eq_false fun h => hc h.2)
          have hcb : ((c hi : Int) == 0) = false := by simpa using hc
          clear hc H1 H2
          generalize hcv : c hi = cv at hcb HCM
          clear hcv
          go_wp2_with (first | (with_reducible refine ((HCM.out _ HB.out).mono ?_); rintro e w' ⟨rfl, hb⟩; replace HB := Lib.hid (bch' HB.out hb); clear hb))
          go_ret2
          exact ⟨hi, HV.out, by rw [HR.out]; rfl, HB.out⟩
      · have HR : Hid (decide (hi < l.length ∧ c hi = 0) = false) := Lib.hid (decide_eq_false fun h => hn h.1)
        clear H1 H2
        go_wp2
        go_ret2
        exact ⟨hi, HV.out, by rw [HR.out]; rfl, HB.out⟩
end Go.Proofs.YtkjelfmgnkkijaaGreatDoor
namespace Lum
open Go Go.RowKit Go.Shelf
open Go.Lib (decDigits itoa)
abbrev SbT := Sb × Sl3
def HasG3 (W : World) (L : List (Sb × Sl3)) : Prop := ∀ x ∈ L, GnsAt W (.slice x.2.1 x.2.2.1 x.2.2.2) x.1.gs
theorem HasG3.kept {W W' : World} {L : List (Sb × Sl3)} (h : HasG3 W L) (hb : Below W.heap.size W W') : HasG3 W' L := fun x hx => (h x hx).kept hb
theorem subs_rows3 {W : World} {ps : Option Addr} {zs : Nat} {su : List Sb} (h : SbsAt W (.slice ps su.length zs) su) : ∃ L : List (Sb × Sl3), L.map (·.1) = su ∧ HasG3 W L ∧ RowX encT 4 W ps L := by
  obtain ⟨p, c, e, -, h2⟩ := h
  injection e with e1 e2 e3
  subst e1
  by_cases hn : su = []
  · subst hn
    exact ⟨[], rfl, (fun x hx => by cases hx), fun h => absurd rfl h⟩
  obtain ⟨b, o, hp, hb, hC⟩ := h2 hn
  have ch : ∀ i : Fin su.length, ∃ s : Sl3, W.cell? ⟨b, o + i.1 * 4 + 3, none⟩ = some (.slice s.1 s.2.1 s.2.2) ∧ GnsAt W (.slice s.1 s.2.1 s.2.2) (sbv su i.1).gs := fun i => by
    obtain ⟨gv, h3, h4⟩ := (hC i.1 i.2).2.2.2
    obtain ⟨p, c, rfl, h5⟩ := h4
    exact ⟨(p, (sbv su i.1).gs.length, c), h3, p, c, rfl, h5⟩
  have hL : (List.ofFn fun i : Fin su.length => (sbv su i.1, Classical.choose (ch i))).length = su.length := List.length_ofFn
  refine ⟨List.ofFn fun i : Fin su.length => (sbv su i.1, Classical.choose (ch i)), ?_, ?_, ?_⟩
  · refine List.ext_getElem (by rw [List.length_map, hL]) fun i h1 h3 => ?_
    rw [List.getElem_map, List.getElem_ofFn, sbv_at h3]
  · intro x hx
    obtain ⟨i, rfl⟩ := List.mem_ofFn.1 hx
    exact (Classical.choose_spec (ch i)).2
  · intro _
    refine ⟨b, o, hp, hb, fun i hi j u hu => ?_⟩
    rw [hL] at hi
    rw [List.getElem_ofFn] at hu
    obtain ⟨c0, c1, c2, -⟩ := hC i hi
    have c3 := (Classical.choose_spec (ch ⟨i, hi⟩)).1
    have hj : j < 4 := (List.getElem?_eq_some_iff.1 hu).1
    match j, hj with
    | 0, _ => rw [← Option.some.inj hu]; exact c0
    | 1, _ => rw [← Option.some.inj hu]; exact c1
    | 2, _ => rw [← Option.some.inj hu]; exact c2
    | 3, _ => rw [← Option.some.inj hu]; exact c3
theorem map3_len {L : List (Sb × Sl3)} {l : List Sb} (h : L.map (·.1) = l) : L.length = l.length := by rw [← h, List.length_map]
theorem map3_at {L : List (Sb × Sl3)} {l : List Sb} (h : L.map (·.1) = l) {i : Nat} (hi : i < L.length) : (L[i]'hi).1 = sbv l i := by
  subst h
  rw [← sbv_at (by rw [List.length_map]; exact hi), List.getElem_map]
theorem OwnR.subs3 {base : Nat} {e : TypeId} {W : World} {p : Option Addr} {c : Nat} {L : List (Sb × Sl3)} {l : List Sb} (h : OwnR encT 4 base e W p c L) (hg : HasG3 W L) (hl : L.map (·.1) = l) : SbsAt W (.slice p l.length c) l := by
  subst hl
  rw [List.length_map]
  refine ⟨p, c, by rw [List.length_map], by rw [List.length_map]; exact h.cap, fun hn => ?_⟩
  obtain ⟨b, hp, hb, hc⟩ := h.at_ encT_len (fun e => hn (by rw [e]; rfl))
  refine ⟨b, 0, hp, hb, fun i hi => ?_⟩
  have hi2 : i < L.length := by simpa using hi
  have hs : sbv (L.map (·.1)) i = (L[i]'hi2).1 := by rw [← sbv_at hi]; simp
  rw [hs]
  have hx := hc i hi2
  exact ⟨hx 0 _ rfl, hx 1 _ rfl, hx 2 _ rfl, _, hx 3 _ rfl, hg _ (List.getElem_mem hi2)⟩
theorem wrap_zero {a n : Int} (ha : 1 ≤ a ∧ a ≤ 1048576) (n0 : -9223372036854775808 ≤ n) (n1 : n ≤ 9223372036854775807) (h : IntKind.i64.wrap (a - n) = 0) : a = n := by
  rw [IntWalk.i64_left] at h
  unfold wrap64 at h
  omega
/-- What place finds. -/
def PlcR (su : List Sb) (n : Int) (W : World) (e : Ending) (w' : World) : Prop := ∃ (i : Nat) (hit : Bool), e = .returned (.tuple #[.int .i64 (i : Int), .bool hit]) ∧ Below W.heap.size W w' ∧ i ≤ su.length ∧ (hit = true → i < su.length ∧ (sbv su i).nu = n) ∧ (hit = false → ∀ j, j < su.length → (sbv su j).nu ≠ n) ∧ ((1 ≤ n ∧ n ≤ 1048576) → Belongs (fun k => (sbv su k).nu) su.length n i hit)
theorem tab_nu {su : List Sb} (h : TabOk su) {j : Nat} (hj : j < su.length) : 1 ≤ (sbv su j).nu ∧ (sbv su j).nu ≤ 1048576 := by
  have := subOk (h.ok j hj)
  exact ⟨this.nu0, this.nu1⟩
theorem plc_of {su : List Sb} {n : Int} {W w' : World} {e : Ending} (ht : TabOk su) (n0 : -9223372036854775808 ≤ n) (n1 : n ≤ 9223372036854775807) {i : Nat} (hv : Halved (fun k => IntKind.i64.wrap ((sbv su k).nu - n)) su.length i)
    (he : e = .returned (.tuple #[.int .i64 (i : Int), .bool (decide (i < su.length ∧ IntKind.i64.wrap ((sbv su i).nu - n) = 0))])) (hb : Below W.heap.size W w') : PlcR su n W e w' := by
  refine ⟨i, _, he, hb, hv.1, fun h => ?_, fun h j hj => ?_, fun hn => ?_⟩
  · obtain ⟨h1, h2⟩ := of_decide_eq_true h
    exact ⟨h1, wrap_zero (tab_nu ht h1) n0 n1 h2⟩
  · by_cases hn : 1 ≤ n ∧ n ≤ 1048576
    · have hw : ∀ k, k < su.length → IntKind.i64.wrap ((sbv su k).nu - n) = (sbv su k).nu - n := fun k hk => by have := tab_nu ht hk; exact IntWalk.i64_in _ (by omega)
      have h2 : Halved (fun k => (sbv su k).nu - n) su.length i := ⟨hv.1, fun g => by have := hv.2.1 g; (try dsimp only at this ⊢); rw [hw _ (by have := hv.1; omega)] at this; exact this, fun g => by have := hv.2.2 g; (try dsimp only at this ⊢); rw [hw _ g] at this; exact this⟩
      have hB := halved_belongs ht.ord h2
      have hd : decide (i < su.length ∧ (sbv su i).nu - n = 0) = false := by
        refine decide_eq_false fun g => ?_
        have h3 := of_decide_eq_false h
        exact h3 ⟨g.1, by rw [hw _ g.1]; exact g.2⟩
      rw [hd] at hB
      by_cases g : j < i
      · have := hB.bef j g; (try dsimp only at this); omega
      · have := hB.no rfl j (by omega) hj; (try dsimp only at this); omega
    · have := tab_nu ht hj; omega
  · have hw : ∀ k, k < su.length → IntKind.i64.wrap ((sbv su k).nu - n) = (sbv su k).nu - n := fun k hk => by have := tab_nu ht hk; exact IntWalk.i64_in _ (by omega)
    have h2 : Halved (fun k => (sbv su k).nu - n) su.length i := ⟨hv.1, fun g => by have := hv.2.1 g; (try dsimp only at this ⊢); rw [hw _ (by have := hv.1; omega)] at this; exact this, fun g => by have := hv.2.2 g; (try dsimp only at this ⊢); rw [hw _ g] at this; exact this⟩
    have hB := halved_belongs ht.ord h2
    have e2 : decide (i < su.length ∧ (sbv su i).nu - n = 0) = decide (i < su.length ∧ IntKind.i64.wrap ((sbv su i).nu - n) = 0) := by
      by_cases g : i < su.length
      · rw [hw i g]
      · rw [decide_eq_false (fun h => g h.1), decide_eq_false (fun h => g h.1)]
    rw [e2] at hB
    exact hB
end Lum
namespace Go.Proofs.YtkjelfmgnkkijaaGreatDoor
open Go.RowKit Go.Shelf Lum
open Go.Lib (decDigits itoa)
attribute [local go_sem] bs_get bs_extract_end bs_extract_from bs_extract bs_append

set_option maxRecDepth 100000 in
set_option maxHeartbeats 2000000 in
theorem cl_splace (nu pr n : Int) (inh : Bool) (w : World) (xp : Option Addr) (xn xc : Nat) :
    Calls Tryz.prog 167 #[.agg #[.int .i64 nu, .int .i64 pr, .bool (inh), .slice xp xn xc], .int .i64 n] w fun e w' => e = .returned (.int .i64 (IntKind.i64.wrap (nu - n))) ∧ Below w.heap.size w w' := by
  have HB := Lib.hid ((Below.refl w.heap.size w).alloc (Nat.le_refl _) (.cells #[.int .i64 nu, .int .i64 pr, .bool (inh), .slice xp xn xc] 58))
  have HX := Lib.hid (Blk.new w 58 #[.int .i64 nu, .int .i64 pr, .bool (inh), .slice xp xn xc])
  obtain ⟨x0, x1, x2, x3, xf0, xf1, xf2, xf3⟩ := HX.out.c4
  go_enter Tryz.func167, Tryz.ntmps167
  go_wp2_with fail
  go_ret
  exact ⟨by first | rfl | (rw [IntWalk.i64_left]; rfl), HB.out⟩

set_option maxRecDepth 100000 in
set_option maxHeartbeats 2000000 in
theorem own_splace (n : Int) (su : List Sb) (w : World) (L : List (Sb × Sl3)) (pp : Option Addr) (cc : Nat) (hL : L.map (·.1) = su) (hR : RowX encT 4 w pp L) (ht : TabOk su) (n0 : -9223372036854775808 ≤ n) (n1 : n ≤ 9223372036854775807) :
    Calls Tryz.prog 128 #[.slice pp su.length cc, .int .i64 n] w (PlcR su n w) := by
  have hl := map3_len hL
  have h16 := ht.few
  have hbs := bs_sub 167 L pp cc (.int .i64 n) (fun i => IntKind.i64.wrap ((sbv su i).nu - n)) w hR (by omega) (enters_of Tryz.func167 (by kernel_rfl) rfl) (fun i hi W _ => by rw [← map3_at hL hi]; exact cl_splace _ _ n _ W _ _ _)
  rw [hl] at hbs
  have HBS := Lib.hid (hbs.mono (R' := fun e w' => ∃ (i : Nat) (hit : Bool), hit = decide (i < su.length ∧ IntKind.i64.wrap ((sbv su i).nu - n) = 0) ∧ Halved (fun k => IntKind.i64.wrap ((sbv su k).nu - n)) su.length i ∧ e = .returned (.tuple #[.int .i64 (i : Int), .bool hit]) ∧ Below w.heap.size w w') (fun e w' h => by obtain ⟨i, h1, h2, h3⟩ := h; exact ⟨i, _, rfl, h1, h2, h3⟩)); clear hbs
  have HT := Lib.hid ht; clear ht hL hR hl h16
  go_enter Tryz.func128, Tryz.ntmps128
  go_wp2_with ((with_reducible refine (HBS.out.mono ?_)); rintro e w' ⟨i, hit, heq, hv, rfl, hb⟩; have HE := Lib.hid heq; have HV := Lib.hid hv; have HB := Lib.hid hb; clear heq hv hb)
  go_ret2
  exact plc_of HT.out n0 n1 HV.out (by rw [HE.out]; rfl) HB.out

set_option maxRecDepth 100000 in
set_option maxHeartbeats 4000000 in
theorem own_tclone (w : World) (l : List SbT) (p : Option Addr) (c : Nat) (hv1 : RowX encT 4 w p l) (hn : l.length ≤ 1000000) :
    Calls Tryz.prog 53 #[.slice p l.length c] w fun e w' => ∃ pp cc, e = .returned (.slice pp l.length cc) ∧ OwnR encT 4 w.heap.size 58 w' pp cc l ∧ Below w.heap.size w w' := by
  have hq : ∀ (w : World) (a : Option Addr) (n c n2 c2 : Nat), (binOp .eql 25 (.slice a n c) (.slice none n2 c2)).run Tryz.prog w = .ok (.bool a.isNone) w := fun w a n c n2 c2 => Lib.run_eql_slice_nil w _ _ a n c n2 c2 Tryz.underlying25
  obtain ⟨i0, hi, hz0, hz1, hz2⟩ := info_parts info_sub
  have HN := Lib.hid hn; clear hn
  cases p with
  | none =>
    have h0 : l = [] := by
      by_cases h : l = []
      · exact h
      · obtain ⟨b, o, e, -⟩ := hv1 h; cases e
    clear hv1
    subst h0
    dsimp only [List.length_nil]
    go_enter Tryz.func53, Tryz.ntmps53
    go_wp2_with fail
    go_ret
    exact ⟨none, 0, rfl, OwnR.nil _ _ _, Below.refl _ _⟩
  | some ad =>
    by_cases hl0 : l = []
    · subst hl0
      clear hv1
      dsimp only [List.length_nil]
      go_enter Tryz.func53, Tryz.ntmps53
      have HA : Hid (∀ (j : Nat) (u : Value), (([] : List SbT).flatMap encT)[j]? = some u → w.cell? (ad.add j) = some u) := Lib.hid (fun j u h => by simp at h)
      go_wp2_with fail
      go_ret
      exact ⟨_, _, rfl, OwnR.made w 58, (Below.refl w.heap.size w).alloc (Nat.le_refl _) _⟩
    obtain ⟨b, off, had, -, hC⟩ := hv1 hl0
    obtain rfl := Option.some.inj had
    have HA : Hid (∀ (j : Nat) (u : Value), (l.flatMap encT)[j]? = some u → w.cell? ⟨b, off + j, none⟩ = some u) := Lib.hid (flat_cell encT_len l (fun j => w.cell? ⟨b, off + j, none⟩) (fun i hi j v hv => by have := hC i hi j v hv; rwa [Nat.add_assoc] at this))
    clear hv1 hC
    go_enter Tryz.func53, Tryz.ntmps53
    go_wp2_with (first | (at_builtin; refine wpList_appL rfl _ _ 25 rfl w.heap.size 58 i0 (.agg #[.int .i64 0, .int .i64 0, .bool false, .slice none 0 0]) 48 Tryz.underlying25 hi hz0 hz1 hz2 rfl (by decide) (by decide) (some ⟨w.heap.size, 0, none⟩) 0 0 [] rfl _ l b off c encT_len (fun j u hu => Lib.cell?_alloc_some _ (HA.out j u hu)) (fun y _ => encT_one y) rfl (OwnR.made w 58) rfl (by have := HN.out; simp; omega) (by simp) ?_; intro p1 c1 w3 hO3 hb3; have HO3 := Lib.hid hO3; have HB3 := Lib.hid hb3; clear hO3 hb3))
    go_ret
    refine ⟨p1, c1, by simp, by simpa using HO3.out, ?_⟩
    exact ((Below.refl w.heap.size w).alloc (Nat.le_refl _) _).trans HB3.out

set_option maxRecDepth 100000 in
set_option maxHeartbeats 4000000 in
theorem own_tinsert_grow (l : List SbT) (w : World) (x : SbT) (g b base i : Nat) (cur : Array Value) (hcur : Blk w g 58 cur) (ht : cur.toList.take (l.length * 4) = l.flatMap encT) (hx : Blk w b 58 (encT x).toArray) (hi9 : i < l.length) (hn : l.length ≤ 1000000) (hbase : base ≤ w.heap.size) :
    Calls Tryz.prog 129 #[.slice (some ⟨g, 0, none⟩) l.length l.length, .int .i64 (i : Int), .slice (some ⟨b, 0, none⟩) 1 1] w fun e w' => ∃ p' c', e = .returned (.slice p' (l.length + 1) c') ∧ OwnR encT 4 base 58 w' p' c' (insL l i false x) ∧ Below base w w' := by
  have hcs : ∀ j u, (l.flatMap encT)[j]? = some u → w.cell? ⟨g, j, none⟩ = some u := fun j u h => by rw [← ht, List.getElem?_take] at h; split at h; (rw [hcur.cell]; simpa using h); cases h
  obtain ⟨i0, hi, hz0, hz1, hz2⟩ := info_parts info_sub
  have hsz6 : (Tryz.prog.info? 58).map (·.size) = some 4 := by rw [hi]; simp [hz1]
  have hlt := hcur.lt
  have hbl := hx.lt
  have hA : ∀ j v, ((l.take i).flatMap encT)[j]? = some v → w.cell? ((⟨g, 0, none⟩ : Addr).add j) = some v := fun j v h => by rw [addr_add, Nat.zero_add]; exact hcs j v (flat_take_get h)
  have hD : ∀ j v, ((l.drop i).flatMap encT)[j]? = some v → w.cell? ((⟨g, i * 4, none⟩ : Addr).add j) = some v := fun j v h => by rw [addr_add]; exact hcs _ v (flat_drop_get encT_len h)
  have hlA : ((l.take i).flatMap encT).length = i * 4 := by rw [flat_len encT_len, List.length_take, Nat.min_eq_left (by omega)]
  have hlD : ((l.drop i).flatMap encT).length = (l.length - i) * 4 := by rw [flat_len encT_len, List.length_drop]
  have HCS := Lib.hid hcs; have HA := Lib.hid hA; have HD := Lib.hid hD; have HLA := Lib.hid hlA; have HLD := Lib.hid hlD; have HX := Lib.hid hx; clear hcs hA hD hlA hlD hx hcur ht
  have HN := Lib.hid hn; have HBS := Lib.hid hbase; clear hbase
  have hq3 : (l.length : Int) < (l.length : Int) + 1 := by omega
  have hq2 : ((i : Int) == (l.length : Int)) = false := by simp; omega
  have hci : ¬ (l.length = i) := by omega
  have hi0 : (0 : Int) ≤ (i : Int) := by omega
  have hi1 : (i : Int) ≤ (l.length : Int) := by omega
  go_enter Tryz.func129, Tryz.ntmps129
  go_wp2_with (first | (at_builtin; (refine wpList_appZ (k := 4) rfl (.tmp 34) (.tmp 39) 25 3 rfl 58 i0 (.agg #[.int .i64 0, .int .i64 0, .bool false, .slice none 0 0]) 48 Tryz.underlying25 Tryz.underlying3 hi hz0 hz1 hz2 rfl (by decide) (by decide) w ⟨g, 0, none⟩ i l.length ((l.take i).flatMap encT) HLA.out HA.out (l.length + 1 - i) (by omega) (by omega) (by omega) ((l.length : Int) + 1 - (i : Int)) (by omega) (l.length + 1) (by omega) rfl rfl ?_; intro G cs w1 hG hGm hGs hGt hgk hgb; have HGS := Lib.hid hGs; have HGT := Lib.hid hGt; have HGK := Lib.hid hgk; have HGB := Lib.hid hgb; clear hGs hGt hgk hgb)) | (refine wpList_copyK rfl (.tmp 43) (.tmp 44) 25 25 rfl 58 4 Tryz.underlying25 hsz6 w.heap.size (i * 4) (l.length + 1 - i) (G - i) ⟨b, 0, none⟩ (1) (1) rfl rfl cs HGK.out (encT x) (by rw [encT_len]; have : Nat.min 1 (l.length + 1 - i) = 1 := Nat.min_eq_left (by omega); rw [this]) (fun j v hj => by rw [addr_add, Nat.zero_add, (HX.out.keep HGB.out).cell]; simpa using hj) (by rw [encT_len, HGS.out]; omega) (encT_one x) ?_; intro w2 h2 hb2 ho2; have H2 := Lib.hid h2; have HB2 := Lib.hid hb2; have HO2 := Lib.hid ho2; clear h2 hb2 ho2))
  have hs1 : ((l.drop i).flatMap encT).length = Nat.min (l.length - i) (l.length + 1 - (i + 1)) * 4 := by rw [HLD.out, show Nat.min (l.length - i) (l.length + 1 - (i + 1)) = l.length - i from Nat.min_eq_left (by omega)]
  have hs2 : ∀ j v, ((l.drop i).flatMap encT)[j]? = some v → w2.drew.cell? ((⟨g, i * 4, none⟩ : Addr).add j) = some v := fun j v hj => by rw [addr_add]; refine (World.cell?_of_block (w := w) (w' := w2.drew) (a := ⟨g, i * 4 + j, none⟩) ?_).trans ?_; exact (HO2.out g (Nat.ne_of_lt hlt)).trans (HGB.out.block g hlt); have h1 := HD.out j v hj; rw [addr_add] at h1; exact h1
  have hs3 : (i + 1) * 4 + ((l.drop i).flatMap encT).length ≤ (rowC cs (i * 4) (encT x)).size := by rw [HLD.out, rowC_size (by rw [encT_len, HGS.out]; omega), HGS.out]; omega
  have HS1 := Lib.hid hs1; have HS2 := Lib.hid hs2; have HS3 := Lib.hid hs3; clear hs1 hs2 hs3
  have hGi : ¬ (G = i + 1) := by omega
  have hb1 : (0 : Int) ≤ (i : Int) + 1 := by omega
  have hb3 : (i : Int) + 1 ≤ (l.length : Int) + 1 := by omega
  have htn : ((i : Int) + 1).toNat = i + 1 := by omega
  have hw1 : IntKind.i64.wrap ((i : Int) + 1) = (i : Int) + 1 := IntWalk.i64_in _ (by omega)
  go_region_law (refine step_copyK rfl (.tmp 50) (.tmp 53) 25 25 rfl 58 4 Tryz.underlying25 hsz6 w.heap.size ((i + 1) * 4) (l.length + 1 - (i + 1)) (G - (i + 1)) ⟨g, i * 4, none⟩ (l.length - i) (l.length - i) (by simp [Act.eval, Act.put]) (by simp [Act.eval, Act.put]) (rowC cs (i * 4) (encT x)) H2.out.drew (((l.drop i).flatMap encT)) (HS1.out) (HS2.out) (HS3.out) (fun v hv => by obtain ⟨y, hy, hu⟩ := List.mem_flatMap.1 hv; exact encT_one y v hu) ?_; intro w3 h3 hb3 ho3; have H3 := Lib.hid h3; have HB3 := Lib.hid hb3; clear h3 hb3 ho3)
  go_wp2
  go_ret
  exact ⟨some ⟨w.heap.size, 0, none⟩, G, rfl, OwnR.ins_grow encT_len (by omega) HBS.out hG hGm HGS.out HGT.out H3.out, (HGB.out.mono HBS.out).trans (((HB2.out base HBS.out).drew).trans (HB3.out base HBS.out))⟩

set_option maxRecDepth 100000 in
set_option maxHeartbeats 4000000 in
theorem own_tinsert_room (l : List SbT) (w : World) (x : SbT) (g b base i c : Nat) (cur : Array Value) (hcur : Blk w g 58 cur) (hsz : cur.size = c * 4) (ht : cur.toList.take (l.length * 4) = l.flatMap encT) (hx : Blk w b 58 (encT x).toArray) (hbg : b ≠ g) (hi9 : i < l.length) (hn : l.length ≤ 1000000) (hbase : base ≤ g) (hc : l.length + 1 ≤ c) (hcm : c ≤ maxLen) :
    Calls Tryz.prog 129 #[.slice (some ⟨g, 0, none⟩) l.length c, .int .i64 (i : Int), .slice (some ⟨b, 0, none⟩) 1 1] w fun e w' => ∃ p' c', e = .returned (.slice p' (l.length + 1) c') ∧ OwnR encT 4 base 58 w' p' c' (insL l i false x) ∧ Below base w w' := by
  obtain ⟨i0, hi, hz0, hz1, hz2⟩ := info_parts info_sub
  have hsz6 : (Tryz.prog.info? 58).map (·.size) = some 4 := by rw [hi]; simp [hz1]
  have hlt := hcur.lt
  have hbl := hx.lt
  have hcs0 : cur.size ≠ 0 := by rw [hsz]; omega
  have hcs : ∀ j u, (l.flatMap encT)[j]? = some u → w.cell? ⟨g, j, none⟩ = some u := fun j u h => by rw [← ht, List.getElem?_take] at h; split at h; (rw [hcur.cell]; simpa using h); cases h
  have hlD : ((l.drop i).flatMap encT).length = (l.length - i) * 4 := by rw [flat_len encT_len, List.length_drop]
  have hsl : (l.length + 1) * 4 ≤ cur.size := by rw [hsz]; exact Nat.mul_le_mul_right 4 hc
  have hs1 : ((l.drop i).flatMap encT).length = Nat.min (l.length + 1 - i) (l.length + 1 - (i + 1)) * 4 := by rw [hlD, show Nat.min (l.length + 1 - i) (l.length + 1 - (i + 1)) = l.length - i from (Nat.min_eq_right (by omega)).trans (by omega)]
  have hs2 : ∀ j v, ((l.drop i).flatMap encT)[j]? = some v → w.drew.cell? ((⟨g, i * 4, none⟩ : Addr).add j) = some v := fun j v hj => by rw [addr_add]; exact hcs _ v (flat_drop_get encT_len hj)
  have hs3 : (i + 1) * 4 + ((l.drop i).flatMap encT).length ≤ cur.size := by rw [hlD]; omega
  have hs4 : (encT x).length = Nat.min 1 (l.length + 1 - i) * 4 := by rw [encT_len, show Nat.min 1 (l.length + 1 - i) = 1 from Nat.min_eq_left (by omega)]
  have hs6 : i * 4 + (encT x).length ≤ (rowC cur ((i + 1) * 4) ((l.drop i).flatMap encT)).size := by rw [rowC_size hs3, encT_len]; omega
  have HS1 := Lib.hid hs1; have HS2 := Lib.hid hs2; have HS3 := Lib.hid hs3; have HS4 := Lib.hid hs4; have HS6 := Lib.hid hs6; have HC := Lib.hid hcur; have HX := Lib.hid hx; have HSZ := Lib.hid hsz; have HT := Lib.hid ht; have HCC := Lib.hid hc; have HCM := Lib.hid hcm; clear hs1 hs2 hs3 hs4 hs6 hlD hcs
  have hov : ∀ lb cb, (callFunc 168 #[.slice (some ⟨b, 0, none⟩) 1 1, .slice (some ⟨g, (i + 1) * 4, none⟩) lb cb]).run Tryz.prog w = .ok (.value (.bool false)) w := fun lb cb => by
    rw [run_callFunc_extern Tryz.func168 (by kernel_rfl) (by kernel_rfl) (by kernel_rfl) (e := Extern.SlicesOverlaps.overlaps #[25, 25] #[4]) (by kernel_rfl), Lib.run_overlaps_apart w 25 4 58 Tryz.underlying25 4 (fun w => by simp [Go.sizeOf, typeInfo, hi, hz1]) ⟨b, 0, none⟩ ⟨g, (i + 1) * 4, none⟩ 1 1 lb cb hbg 58 58 4 cur.size (by unfold World.shape?; rw [show w.heap[b]? = _ from hx]; simp [encT_len]) (by unfold World.shape?; rw [show w.heap[g]? = _ from hcur]) hcs0 (hx.frozen 0) (hx.frozen 4)]
    rfl
  clear hcur hx hsz ht hcs0 hsl
  unfold maxLen at hcm
  have hq2 : ((i : Int) == (l.length : Int)) = false := by simp; omega
  have hq3 : ¬ (c : Int) < (l.length : Int) + 1 := by omega
  have hci : ¬ (c = i) := by omega
  have hci1 : ¬ (c = i + 1) := by omega
  have hi0 : (0 : Int) ≤ (i : Int) := by omega
  have hi1 : (i : Int) ≤ (l.length : Int) := by omega
  have hi2 : (i : Int) ≤ (l.length : Int) + 1 := by omega
  have hi3 : (l.length : Int) + 1 ≤ (c : Int) := by omega
  have hcb : (c : Int) ≤ 9223372036854775807 := by omega
  have hn1 : ((l.length : Int) + 1).toNat = l.length + 1 := by omega
  have hb1 : (0 : Int) ≤ (i : Int) + 1 := by omega
  have hb3 : (i : Int) + 1 ≤ (l.length : Int) + 1 := by omega
  have htn : ((i : Int) + 1).toNat = i + 1 := by omega
  clear hcm
  have hw1 : IntKind.i64.wrap ((i : Int) + 1) = (i : Int) + 1 := IntWalk.i64_in _ (by omega)
  go_enter Tryz.func129, Tryz.ntmps129
  go_wp2_with (simp only [hov])
  go_region_law (refine step_copyK rfl (.tmp 73) (.tmp 76) 25 25 rfl 58 4 Tryz.underlying25 hsz6 g ((i + 1) * 4) (l.length + 1 - (i + 1)) (c - (i + 1)) ⟨g, i * 4, none⟩ (l.length + 1 - i) (c - i) (by simp [Act.eval, Act.put]) (by simp [Act.eval, Act.put]) cur HC.out.drew (((l.drop i).flatMap encT)) (HS1.out) (HS2.out) (HS3.out) (fun v hv => by obtain ⟨y, hy, hu⟩ := List.mem_flatMap.1 hv; exact encT_one y v hu) ?_; intro w2 h2 hb2 ho2; have H2 := Lib.hid h2; have HB2 := Lib.hid hb2; have HO2 := Lib.hid ho2; clear h2 hb2 ho2)
  have hs5 : ∀ j v, (encT x)[j]? = some v → w2.cell? ((⟨b, 0, none⟩ : Addr).add j) = some v := fun j v hj => by rw [addr_add, Nat.zero_add]; refine (World.cell?_of_block (w := w) (w' := w2) (a := ⟨b, j, none⟩) ?_).trans ?_; exact HO2.out b hbg; rw [HX.out.cell]; simpa using hj
  have HS5 := Lib.hid hs5; clear hs5
  go_wp2_with (first | (refine wpList_copyK rfl (.tmp 80) (.tmp 81) 25 25 rfl 58 4 Tryz.underlying25 hsz6 g (i * 4) (l.length + 1 - i) (c - i) ⟨b, 0, none⟩ (1) (1) rfl rfl (rowC cur ((i + 1) * 4) ((l.drop i).flatMap encT)) H2.out (encT x) (HS4.out) (HS5.out) (HS6.out) (encT_one x) ?_; intro w3 h3 hb3 ho3; have H3 := Lib.hid h3; have HB3 := Lib.hid hb3; clear h3 hb3 ho3))
  go_ret
  exact ⟨some ⟨g, 0, none⟩, c, rfl, OwnR.ins_room encT_len (by omega) hbase HCC.out HCM.out HSZ.out HT.out H3.out, ((Below.refl base w).drew.trans (HB2.out base hbase)).trans (HB3.out base hbase)⟩

set_option maxRecDepth 100000 in
set_option maxHeartbeats 4000000 in
theorem own_tinsert_end (l : List SbT) (w : World) (x : SbT) (pp : Option Addr) (cc base b : Nat) (hO : OwnR encT 4 base 58 w pp cc l) (hc : ∀ j u, (encT x)[j]? = some u → w.cell? ⟨b, j, none⟩ = some u) (hn : l.length ≤ 1000000) (hbase : base ≤ w.heap.size) :
    Calls Tryz.prog 129 #[.slice pp l.length cc, .int .i64 (l.length : Int), .slice (some ⟨b, 0, none⟩) 1 1] w fun e w' => ∃ p' c', e = .returned (.slice p' (l.length + 1) c') ∧ OwnR encT 4 base 58 w' p' c' (l ++ [x]) ∧ Below base w w' := by
  obtain ⟨i0, hi, hz0, hz1, hz2⟩ := info_parts info_sub
  have HN := Lib.hid hn; have HC := Lib.hid hc; have HO := Lib.hid hO; have HBS := Lib.hid hbase; clear hn hc hbase
  have hcap := hO.cap
  rcases hO.2 with ⟨h1, h2⟩ | ⟨g, cap, cur, h1, -, -, -, h4, -⟩
  · obtain rfl : l = [] := List.length_eq_zero_iff.1 h2
    injection h1 with h1 h3 h4
    subst h1 h4
    clear hO hcap h2 h3
    dsimp only [List.length_nil]
    go_enter Tryz.func129, Tryz.ntmps129
    go_wp2_with (first | (at_builtin; refine wpList_appR3 rfl _ _ 25 rfl base 58 i0 (.agg #[.int .i64 0, .int .i64 0, .bool false, .slice none 0 0]) 48 Tryz.underlying25 hi hz0 hz1 hz2 rfl (by decide) (by decide) none 0 _ [] rfl _ x b (encT_len x) HC.out (encT_one x) rfl HO.out rfl (by have := HN.out; omega) HBS.out ?_; intro p1 c1 w3 hO3 hb3 _; have HO3 := Lib.hid hO3; have HB3 := Lib.hid hb3; clear hO3 hb3))
    go_ret
    exact ⟨p1, c1, by simp, HO3.out, HB3.out⟩
  · injection h1 with h1 h3 h5
    subst h1 h5
    clear hO h3
    unfold maxLen at h4
    have hk0 : (0 : Int) ≤ (l.length : Int) := by omega
    have hk1 : (l.length : Int) ≤ (cc : Int) := by omega
    by_cases hcl : cc = l.length
    · subst hcl
      go_enter Tryz.func129, Tryz.ntmps129
      go_wp2_with (first | (at_builtin; refine wpList_appR3 rfl _ _ 25 rfl base 58 i0 (.agg #[.int .i64 0, .int .i64 0, .bool false, .slice none 0 0]) 48 Tryz.underlying25 hi hz0 hz1 hz2 rfl (by decide) (by decide) (some ⟨g, 0, none⟩) l.length _ l rfl _ x b (encT_len x) HC.out (encT_one x) rfl HO.out rfl (by have := HN.out; omega) HBS.out ?_; intro p1 c1 w3 hO3 hb3 _; have HO3 := Lib.hid hO3; have HB3 := Lib.hid hb3; clear hO3 hb3))
      go_ret
      exact ⟨p1, c1, by simp, HO3.out, HB3.out⟩
    · have hcl2 : ¬ l.length = cc := fun h => hcl h.symm
      go_enter Tryz.func129, Tryz.ntmps129
      go_wp2_with (first | (at_builtin; refine wpList_appR3 rfl _ _ 25 rfl base 58 i0 (.agg #[.int .i64 0, .int .i64 0, .bool false, .slice none 0 0]) 48 Tryz.underlying25 hi hz0 hz1 hz2 rfl (by decide) (by decide) (some ⟨g, 0, none⟩) cc _ l rfl _ x b (encT_len x) HC.out (encT_one x) rfl HO.out rfl (by have := HN.out; omega) HBS.out ?_; intro p1 c1 w3 hO3 hb3 _; have HO3 := Lib.hid hO3; have HB3 := Lib.hid hb3; clear hO3 hb3))
      go_ret
      exact ⟨p1, c1, by simp, HO3.out, HB3.out⟩

set_option maxRecDepth 100000 in
theorem own_tinsert (l : List SbT) (w : World) (x : SbT) (pp : Option Addr) (cc base b i : Nat) (hO : OwnR encT 4 base 58 w pp cc l) (hx : Blk w b 58 (encT x).toArray) (hne : ∀ a, pp = some a → b ≠ a.block) (hi : i ≤ l.length) (hn : l.length ≤ 1000000) (hbase : base ≤ w.heap.size) :
    Calls Tryz.prog 129 #[.slice pp l.length cc, .int .i64 (i : Int), .slice (some ⟨b, 0, none⟩) 1 1] w fun e w' => ∃ p' c', e = .returned (.slice p' (l.length + 1) c') ∧ OwnR encT 4 base 58 w' p' c' (insL l i false x) ∧ Below base w w' := by
  by_cases e : i = l.length
  · subst e
    rw [insL_end]
    exact own_tinsert_end l w x pp cc base b hO (fun j u hu => by rw [hx.cell]; simpa using hu) hn hbase
  · obtain ⟨g, cur, rfl, hg, hcur, h1, h2, h3, h4⟩ := hO.to_blk (fun h => by subst h; simp at hi; exact e hi)
    by_cases c : cc = l.length
    · subst c
      exact own_tinsert_grow l w x g b base i cur hcur h4 hx (by omega) hn hbase
    · exact own_tinsert_room l w x g b base i cc cur hcur h3 h4 hx (hne _ rfl) (by omega) hn hg (by omega) h2
end Go.Proofs.YtkjelfmgnkkijaaGreatDoor
namespace Go.Proofs.YtkjelfmgnkkijaaGreatDoor
open Go.RowKit Go.Shelf Lum
open Go.Lib (decDigits itoa)
attribute [local go_sem] bs_get bs_extract_end bs_extract_from bs_extract bs_append

set_option maxRecDepth 100000 in
set_option maxHeartbeats 8000000 in
theorem r26_with_new (w : World) (l : List SbT) (x0 : SbT) (p : Option Addr) (c : Nat) (cN : Nat → Int) (i : Nat) (hR : RowX encT 4 w p l) (h16 : l.length ≤ 16) (hcn : ∀ k (hk : k < l.length), (l[k]'hk).1.nu = cN k) (hb9 : Belongs cN l.length x0.1.nu i false) :
    Calls Tryz.prog 130 #[.slice p l.length c, .agg #[.int .i64 (x0.1.nu), .int .i64 (x0.1.pr), .bool (x0.1.inh), .slice x0.2.1 x0.2.2.1 x0.2.2.2]] w fun e w' => ∃ pp cc, e = .returned (.slice pp (insL l i false x0).length cc) ∧ OwnR encT 4 w.heap.size 58 w' pp cc (insL l i false x0) ∧ Below w.heap.size w w' := by
  have hal := (Below.refl w.heap.size w).alloc (Nat.le_refl _) (.cells #[.int .i64 (x0.1.nu), .int .i64 (x0.1.pr), .bool (x0.1.inh), .slice x0.2.1 x0.2.2.1 x0.2.2.2] 58)
  have HB0 := Lib.hid hal; clear hal
  have HK1 := Lib.hid (Blk.new w 58 #[.int .i64 (x0.1.nu), .int .i64 (x0.1.pr), .bool (x0.1.inh), .slice x0.2.1 x0.2.2.1 x0.2.2.2])
  have HK := HK1
  obtain ⟨k0, k1, k2, k3, kf0, kf1, kf2, kf3⟩ := HK.out.c4
  have HIN := Lib.hid hb9; have HFEW := Lib.hid h16; have HCN := Lib.hid hcn; have hv2 := Lib.hid hR; clear hb9 h16 hcn hR
  obtain ⟨i0, hi, hz0, hz1, hz2⟩ := info_parts info_sub
  go_enter Tryz.func130, Tryz.ntmps130
  go_upto_region 1 with fail
  generalize w.alloc (.cells #[.int .i64 (x0.1.nu), .int .i64 (x0.1.pr), .bool (x0.1.inh), .slice x0.2.1 x0.2.2.1 x0.2.2.2] 58) = w3 at *
  have HB := Lib.hid (Below.refl w3.heap.size w3)
  go_wp2_with fail
  go_loopw [5, 6, 7] (fun s d j wr => ∃ (k r n : Nat) (pp : Option Addr) (cc : Nat), s = .slice pp n cc ∧ d = .bool (decide (i < k)) ∧ j = .int .i64 (k : Int) ∧ Hid (n = (insK l i false x0 k).length) ∧ Hid (k + r = l.length) ∧ Hid (Below w3.heap.size w3 wr) ∧ Hid (OwnR encT 4 w3.heap.size 58 wr pp cc (insK l i false x0 k))) (fun _ _ j _ => l.length - (intOf j).toNat)
  case atStart => exact ⟨0, l.length, 0, none, 0, rfl, by rw [decide_eq_false (Nat.not_lt_zero _)], rfl, Lib.hid (by rw [insK_zero]; rfl), Lib.hid (by omega), HB, Lib.hid (by rw [insK_zero]; exact OwnR.nil _ _ _)⟩
  case round =>
    obtain ⟨k, r, n, pp, cc, rfl, rfl, rfl, HN, hkr, HB2, HO2⟩ := hrel
    clear HB
    have HB := HB2; have HO := HO2; clear HB2 HO2
    clear k0 k1 k2 k3 kf0 kf1 kf2 kf3
    clear HK
    have HK := Lib.hid (HK1.out.keep HB.out)
    have HBW : Hid (Below w.heap.size w wr) := Lib.hid (bch' HB0.out HB.out)
    obtain ⟨k0, k1, k2, k3, kf0, kf1, kf2, kf3⟩ := HK.out.c4
    cases r with
    | zero =>
      have hlt : ¬ (k : Int) < (l.length : Int) := by have := hkr.out; omega
      obtain rfl : k = l.length := by have := hkr.out; omega
      by_cases hil2 : i < l.length
      · have hd : decide (i < l.length) = true := decide_eq_true hil2
        rw [hd]
        have HE : Hid ((insK l i false x0 l.length) = insL l i false x0) := Lib.hid (insK_end hil2)
        rw [HE.out] at HN HO
        have HN2 := HN
        clear HN
        go_wp2_with fail
        go_ret
        obtain rfl := HN2.out
        exact ⟨_, _, rfl, HO.out.lower (by have := HB0.out.size; omega), HBW.out⟩
      · have hil3 : i = l.length := by have := HIN.out.le; omega
        have hd : decide (i < l.length) = false := decide_eq_false hil2
        rw [hd]
        have HE : Hid ((insK l i false x0 l.length) ++ [x0] = insL l i false x0) := Lib.hid (by rw [hil3]; exact insK_last)
        clear hil3
        go_wp2_with (first | (at_builtin; refine wpList_appR3 rfl (.tmp 47) (.tmp 49) 25 rfl w3.heap.size 58 i0 (.agg #[.int .i64 0, .int .i64 0, .bool false, .slice none 0 0]) 48 Tryz.underlying25 hi hz0 hz1 hz2 rfl (by decide) (by decide) pp cc n ((insK l i false x0 l.length)) (HN.out) _ (x0) wr.heap.size (encT_len _) (fun j u hu => cellN _ 58 hu) (encT_one _) rfl (HO.out.keep ((Below.refl _ wr).alloc (Nat.le_refl _) _)) rfl (by have := insK_len l i false x0 l.length; have := HFEW.out; omega) (by have := HB.out.size; rw [World.size_alloc]; omega) ?_; intro p1 c1 w4 hO3 hb3 _; have HO3 := Lib.hid hO3; have HB3 := Lib.hid (HB.out.trans (((Below.refl _ wr).alloc (by have := HB.out.size; omega) _).trans hb3)); clear hO3 hb3))
        go_ret
        rw [HE.out] at HO3
        have HN3 : Hid (n + 1 = (insL l i false x0).length) := Lib.hid (by rw [← HE.out, List.length_append, ← HN.out]; rfl)
        rw [HN3.out]
        exact ⟨_, _, rfl, HO3.out.lower (by have := HB0.out.size; omega), bch' HB0.out HB3.out⟩
    | succ r =>
      have hkl : k < l.length := by have := hkr.out; omega
      have hlt : (k : Int) < (l.length : Int) := by omega
      have hk9 : l.length ≤ 16 := HFEW.out
      have hun : IntKind.i64.wrap ((k : Int) + 1) = (k : Int) + 1 := IntWalk.i64_in _ (by omega)
      obtain ⟨b, o, rfl, hb, hC⟩ := hv2.out (fun h => by subst h; simp at hkl)
      obtain ⟨x, hx⟩ : ∃ x, x = l[k]'hkl := ⟨_, rfl⟩
      have hcell := hC k hkl
      have hcx := HCN.out k hkl
      rw [← hx] at hcell hcx
      have HCE := Lib.hid hcell; have HX := Lib.hid hx; clear hcell hC hx
      have y0 : wr.cell? ⟨b, o + k * 4, none⟩ = some (.int .i64 (x.1.nu)) := (HBW.out.cell (p := ⟨b, o + k * 4 + 0, none⟩) hb).trans (HCE.out 0 _ rfl)
      have y1 : wr.cell? ⟨b, o + k * 4 + 1, none⟩ = some (.int .i64 (x.1.pr)) := (HBW.out.cell (p := ⟨b, o + k * 4 + 1, none⟩) hb).trans (HCE.out 1 _ rfl)
      have y2 : wr.cell? ⟨b, o + k * 4 + 2, none⟩ = some (.bool (x.1.inh)) := (HBW.out.cell (p := ⟨b, o + k * 4 + 2, none⟩) hb).trans (HCE.out 2 _ rfl)
      have y3 : wr.cell? ⟨b, o + k * 4 + 3, none⟩ = some (.slice x.2.1 x.2.2.1 x.2.2.2) := (HBW.out.cell (p := ⟨b, o + k * 4 + 3, none⟩) hb).trans (HCE.out 3 _ rfl)
      have hbr : b < wr.heap.size := by have := HBW.out.size; omega
      have hk0 : (0 : Int) ≤ (k : Int) := by omega
      rcases Nat.lt_trichotomy k i with hki | hki | hki
      · have hge : ¬ x0.1.nu ≤ x.1.nu := by have := HIN.out.bef k hki; omega
        have hne : ((x.1.nu : Int) != x0.1.nu) = true := by rw [bne_iff_ne]; have := HIN.out.bef k hki; omega
        clear hcx
        have hd : decide (i < k) = false := decide_eq_false (by omega)
        rw [hd]
        have HD : Hid (decide (i < k + 1) = false) := Lib.hid (decide_eq_false (by omega))
        have HT : Hid ((insK l i false x0 (k + 1)) = (insK l i false x0 k) ++ [x]) := Lib.hid ((insK_lt hki hkl).trans (by rw [HX.out]))
        go_wp2_with fail
        have f0 := fun p : BelowOf _ => (HK.out.keep p.h).c4.1
        have g0 := fun p : BelowOf _ => BelowOf.cell hbr y0 p
        refine wp_region_WQ (by kernel_rfl) (by kernel_rfl) ?_
        repeat (refine WQ.step (fun K hK => ?_); go_simp; first | (refine hK.out _ ?_; clear hK K) | (apply Exists.intro; refine ⟨fun _ => ?_, hK.out _ ?_⟩; (first | rfl); clear hK K))
        refine WQ.nil ?_
        intro Wq hw'
        obtain ⟨⟨wq, hbq⟩, hw2⟩ := hw'
        subst hw2
        replace HO := Lib.hid (HO.out.keep hbq)
        replace HB := Lib.hid (bch' HB.out hbq)
        clear f0 g0
        clear k0 k1 k2 k3 kf0 kf1 kf2 kf3
        clear HK HBW
        clear y0 y1 y2 y3 hbr
        have HK := Lib.hid (HK1.out.keep HB.out)
        have HBW : Hid (Below w.heap.size w Wq) := Lib.hid (bch' HB0.out HB.out)
        obtain ⟨k0, k1, k2, k3, kf0, kf1, kf2, kf3⟩ := HK.out.c4
        have y0 : Wq.cell? ⟨b, o + k * 4, none⟩ = some (.int .i64 (x.1.nu)) := (HBW.out.cell (p := ⟨b, o + k * 4 + 0, none⟩) hb).trans (HCE.out 0 _ rfl)
        have y1 : Wq.cell? ⟨b, o + k * 4 + 1, none⟩ = some (.int .i64 (x.1.pr)) := (HBW.out.cell (p := ⟨b, o + k * 4 + 1, none⟩) hb).trans (HCE.out 1 _ rfl)
        have y2 : Wq.cell? ⟨b, o + k * 4 + 2, none⟩ = some (.bool (x.1.inh)) := (HBW.out.cell (p := ⟨b, o + k * 4 + 2, none⟩) hb).trans (HCE.out 2 _ rfl)
        have y3 : Wq.cell? ⟨b, o + k * 4 + 3, none⟩ = some (.slice x.2.1 x.2.2.1 x.2.2.2) := (HBW.out.cell (p := ⟨b, o + k * 4 + 3, none⟩) hb).trans (HCE.out 3 _ rfl)
        have hbr : b < Wq.heap.size := by have := HBW.out.size; omega
        go_wp2_with fail
        have f0 := fun p : BelowOf _ => (HK.out.keep p.h).c4.1
        have g0 := fun p : BelowOf _ => BelowOf.cell hbr y0 p
        refine wp_region_WQ (by kernel_rfl) (by kernel_rfl) ?_
        repeat (refine WQ.step (fun K hK => ?_); go_simp; first | (refine hK.out _ ?_; clear hK K) | (apply Exists.intro; refine ⟨fun _ => ?_, hK.out _ ?_⟩; (first | rfl); clear hK K))
        refine WQ.nil ?_
        intro Wr hw'
        obtain ⟨⟨wr2, hbr2⟩, hw2⟩ := hw'
        subst hw2
        replace HO := Lib.hid (HO.out.keep hbr2)
        replace HB := Lib.hid (bch' HB.out hbr2)
        clear f0 g0
        clear k0 k1 k2 k3 kf0 kf1 kf2 kf3
        clear HK HBW
        clear y0 y1 y2 y3 hbr
        have HK := Lib.hid (HK1.out.keep HB.out)
        have HBW : Hid (Below w.heap.size w Wr) := Lib.hid (bch' HB0.out HB.out)
        obtain ⟨k0, k1, k2, k3, kf0, kf1, kf2, kf3⟩ := HK.out.c4
        have y0 : Wr.cell? ⟨b, o + k * 4, none⟩ = some (.int .i64 (x.1.nu)) := (HBW.out.cell (p := ⟨b, o + k * 4 + 0, none⟩) hb).trans (HCE.out 0 _ rfl)
        have y1 : Wr.cell? ⟨b, o + k * 4 + 1, none⟩ = some (.int .i64 (x.1.pr)) := (HBW.out.cell (p := ⟨b, o + k * 4 + 1, none⟩) hb).trans (HCE.out 1 _ rfl)
        have y2 : Wr.cell? ⟨b, o + k * 4 + 2, none⟩ = some (.bool (x.1.inh)) := (HBW.out.cell (p := ⟨b, o + k * 4 + 2, none⟩) hb).trans (HCE.out 2 _ rfl)
        have y3 : Wr.cell? ⟨b, o + k * 4 + 3, none⟩ = some (.slice x.2.1 x.2.2.1 x.2.2.2) := (HBW.out.cell (p := ⟨b, o + k * 4 + 3, none⟩) hb).trans (HCE.out 3 _ rfl)
        have hbr : b < Wr.heap.size := by have := HBW.out.size; omega
        go_wp2_with (first | (at_builtin; refine wpList_appR3 rfl (.tmp 38) (.tmp 43) 25 rfl w3.heap.size 58 i0 (.agg #[.int .i64 0, .int .i64 0, .bool false, .slice none 0 0]) 48 Tryz.underlying25 hi hz0 hz1 hz2 rfl (by decide) (by decide) pp cc n ((insK l i false x0 k)) (HN.out) _ (x) Wr.heap.size (encT_len _) (fun j u hu => cellN _ 58 hu) (encT_one _) rfl (HO.out.keep ((Below.refl _ Wr).alloc (Nat.le_refl _) _)) rfl (by have := insK_len l i false x0 k; have := HFEW.out; omega) (by have := HB.out.size; rw [World.size_alloc]; omega) ?_; intro p1 c1 w4 hO3 hb3 _; have HO3 := Lib.hid hO3; have HB3 := Lib.hid (HB.out.trans (((Below.refl _ Wr).alloc (by have := HB.out.size; omega) _).trans hb3)); clear hO3 hb3))
        clear HB
        have HB := HB3; clear HB3
        go_roundw
        case rel => exact ⟨k + 1, r, n + 1, p1, c1, by first | rfl | simp, by rw [HD.out], by first | rfl | simp, Lib.hid (by rw [HT.out, List.length_append, ← HN.out]; rfl), Lib.hid (by have := hkr.out; omega), HB, Lib.hid (by rw [HT.out]; exact HO3.out)⟩
        case measure => first | (simp [intOf]; done) | (simp [intOf]; omega)
      · obtain rfl : i = k := by omega
        have hd : decide (i < i) = false := decide_eq_false (Nat.lt_irrefl _)
        rw [hd]
        have HD : Hid (decide (i < i + 1) = true) := Lib.hid (decide_eq_true (Nat.lt_succ_self _))
        have hge : x0.1.nu ≤ x.1.nu := by have := HIN.out.no rfl i (Nat.le_refl _) hkl; omega
        have hne : ((x.1.nu : Int) != x0.1.nu) = true := by have := HIN.out.no rfl i (Nat.le_refl _) hkl; rw [bne_iff_ne]; omega
        have HT : Hid ((insK l i false x0 (i + 1)) = ((insK l i false x0 i) ++ [x0]) ++ [x]) := Lib.hid ((insK_miss hkl).trans (by rw [HX.out]))
        clear hcx
        go_wp2_with fail
        have f0 := fun p : BelowOf _ => (HK.out.keep p.h).c4.1
        have g0 := fun p : BelowOf _ => BelowOf.cell hbr y0 p
        refine wp_region_WQ (by kernel_rfl) (by kernel_rfl) ?_
        repeat (refine WQ.step (fun K hK => ?_); go_simp; first | (refine hK.out _ ?_; clear hK K) | (apply Exists.intro; refine ⟨fun _ => ?_, hK.out _ ?_⟩; (first | rfl); clear hK K))
        refine WQ.nil ?_
        intro Wq hw'
        obtain ⟨⟨wq, hbq⟩, hw2⟩ := hw'
        subst hw2
        replace HO := Lib.hid (HO.out.keep hbq)
        replace HB := Lib.hid (bch' HB.out hbq)
        clear f0 g0
        clear k0 k1 k2 k3 kf0 kf1 kf2 kf3
        clear HK HBW
        clear y0 y1 y2 y3 hbr
        have HK := Lib.hid (HK1.out.keep HB.out)
        have HBW : Hid (Below w.heap.size w Wq) := Lib.hid (bch' HB0.out HB.out)
        obtain ⟨k0, k1, k2, k3, kf0, kf1, kf2, kf3⟩ := HK.out.c4
        have y0 : Wq.cell? ⟨b, o + i * 4, none⟩ = some (.int .i64 (x.1.nu)) := (HBW.out.cell (p := ⟨b, o + i * 4 + 0, none⟩) hb).trans (HCE.out 0 _ rfl)
        have y1 : Wq.cell? ⟨b, o + i * 4 + 1, none⟩ = some (.int .i64 (x.1.pr)) := (HBW.out.cell (p := ⟨b, o + i * 4 + 1, none⟩) hb).trans (HCE.out 1 _ rfl)
        have y2 : Wq.cell? ⟨b, o + i * 4 + 2, none⟩ = some (.bool (x.1.inh)) := (HBW.out.cell (p := ⟨b, o + i * 4 + 2, none⟩) hb).trans (HCE.out 2 _ rfl)
        have y3 : Wq.cell? ⟨b, o + i * 4 + 3, none⟩ = some (.slice x.2.1 x.2.2.1 x.2.2.2) := (HBW.out.cell (p := ⟨b, o + i * 4 + 3, none⟩) hb).trans (HCE.out 3 _ rfl)
        have hbr : b < Wq.heap.size := by have := HBW.out.size; omega
        go_wp2_with (first | (at_builtin; refine wpList_appR3 rfl (.tmp 26) (.tmp 28) 25 rfl w3.heap.size 58 i0 (.agg #[.int .i64 0, .int .i64 0, .bool false, .slice none 0 0]) 48 Tryz.underlying25 hi hz0 hz1 hz2 rfl (by decide) (by decide) pp cc n ((insK l i false x0 i)) (HN.out) _ (x0) Wq.heap.size (encT_len _) (fun j u hu => cellN _ 58 hu) (encT_one _) rfl (HO.out.keep ((Below.refl _ Wq).alloc (Nat.le_refl _) _)) rfl (by have := insK_len l i false x0 i; have := HFEW.out; omega) (by have := HB.out.size; rw [World.size_alloc]; omega) ?_; intro p1 c1 w4 hO3 hb3 _; have HO3 := Lib.hid hO3; have HB3 := Lib.hid (HB.out.trans (((Below.refl _ Wq).alloc (by have := HB.out.size; omega) _).trans hb3)); clear hO3 hb3))
        clear k0 k1 k2 k3 kf0 kf1 kf2 kf3
        clear HK HBW
        clear y0 y1 y2 y3 hbr
        clear HB HO
        have HB := HB3; have HO := HO3; clear HB3 HO3
        have HN1 : Hid (n + 1 = ((insK l i false x0 i) ++ [x0]).length) := Lib.hid (by rw [List.length_append, ← HN.out]; rfl)
        have HK := Lib.hid (HK1.out.keep HB.out)
        have HBW : Hid (Below w.heap.size w w4) := Lib.hid (bch' HB0.out HB.out)
        obtain ⟨k0, k1, k2, k3, kf0, kf1, kf2, kf3⟩ := HK.out.c4
        have y0 : w4.cell? ⟨b, o + i * 4, none⟩ = some (.int .i64 (x.1.nu)) := (HBW.out.cell (p := ⟨b, o + i * 4 + 0, none⟩) hb).trans (HCE.out 0 _ rfl)
        have y1 : w4.cell? ⟨b, o + i * 4 + 1, none⟩ = some (.int .i64 (x.1.pr)) := (HBW.out.cell (p := ⟨b, o + i * 4 + 1, none⟩) hb).trans (HCE.out 1 _ rfl)
        have y2 : w4.cell? ⟨b, o + i * 4 + 2, none⟩ = some (.bool (x.1.inh)) := (HBW.out.cell (p := ⟨b, o + i * 4 + 2, none⟩) hb).trans (HCE.out 2 _ rfl)
        have y3 : w4.cell? ⟨b, o + i * 4 + 3, none⟩ = some (.slice x.2.1 x.2.2.1 x.2.2.2) := (HBW.out.cell (p := ⟨b, o + i * 4 + 3, none⟩) hb).trans (HCE.out 3 _ rfl)
        have hbr : b < w4.heap.size := by have := HBW.out.size; omega
        have f0 := fun p : BelowOf _ => (HK.out.keep p.h).c4.1
        have g0 := fun p : BelowOf _ => BelowOf.cell hbr y0 p
        refine wp_region_WQ (by kernel_rfl) (by kernel_rfl) ?_
        repeat (refine WQ.step (fun K hK => ?_); go_simp; first | (refine hK.out _ ?_; clear hK K) | (apply Exists.intro; refine ⟨fun _ => ?_, hK.out _ ?_⟩; (first | rfl); clear hK K))
        refine WQ.nil ?_
        intro Wr hw'
        obtain ⟨⟨wr2, hbr2⟩, hw2⟩ := hw'
        subst hw2
        replace HO := Lib.hid (HO.out.keep hbr2)
        replace HB := Lib.hid (bch' HB.out hbr2)
        clear f0 g0
        clear k0 k1 k2 k3 kf0 kf1 kf2 kf3
        clear HK HBW
        clear y0 y1 y2 y3 hbr
        have HK := Lib.hid (HK1.out.keep HB.out)
        have HBW : Hid (Below w.heap.size w Wr) := Lib.hid (bch' HB0.out HB.out)
        obtain ⟨k0, k1, k2, k3, kf0, kf1, kf2, kf3⟩ := HK.out.c4
        have y0 : Wr.cell? ⟨b, o + i * 4, none⟩ = some (.int .i64 (x.1.nu)) := (HBW.out.cell (p := ⟨b, o + i * 4 + 0, none⟩) hb).trans (HCE.out 0 _ rfl)
        have y1 : Wr.cell? ⟨b, o + i * 4 + 1, none⟩ = some (.int .i64 (x.1.pr)) := (HBW.out.cell (p := ⟨b, o + i * 4 + 1, none⟩) hb).trans (HCE.out 1 _ rfl)
        have y2 : Wr.cell? ⟨b, o + i * 4 + 2, none⟩ = some (.bool (x.1.inh)) := (HBW.out.cell (p := ⟨b, o + i * 4 + 2, none⟩) hb).trans (HCE.out 2 _ rfl)
        have y3 : Wr.cell? ⟨b, o + i * 4 + 3, none⟩ = some (.slice x.2.1 x.2.2.1 x.2.2.2) := (HBW.out.cell (p := ⟨b, o + i * 4 + 3, none⟩) hb).trans (HCE.out 3 _ rfl)
        have hbr : b < Wr.heap.size := by have := HBW.out.size; omega
        go_wp2_with (first | (at_builtin; refine wpList_appR3 rfl (.tmp 38) (.tmp 43) 25 rfl w3.heap.size 58 i0 (.agg #[.int .i64 0, .int .i64 0, .bool false, .slice none 0 0]) 48 Tryz.underlying25 hi hz0 hz1 hz2 rfl (by decide) (by decide) p1 c1 (n + 1) (((insK l i false x0 i) ++ [x0])) (HN1.out) _ (x) Wr.heap.size (encT_len _) (fun j u hu => cellN _ 58 hu) (encT_one _) rfl (HO.out.keep ((Below.refl _ Wr).alloc (Nat.le_refl _) _)) rfl (by have := insK_len l i false x0 i; have := HFEW.out; rw [List.length_append]; simp; omega) (by have := HB.out.size; rw [World.size_alloc]; omega) ?_; intro p2 c2 w5 hO3 hb3 _; have HO3 := Lib.hid hO3; have HB3 := Lib.hid (HB.out.trans (((Below.refl _ Wr).alloc (by have := HB.out.size; omega) _).trans hb3)); clear hO3 hb3))
        clear HB
        have HB := HB3; clear HB3
        go_roundw
        case rel => exact ⟨i + 1, r, n + 1 + 1, p2, c2, by first | rfl | simp, by rw [HD.out], by first | rfl | simp, Lib.hid (by rw [HT.out, List.length_append, ← HN1.out]; rfl), Lib.hid (by have := hkr.out; omega), HB, Lib.hid (by rw [HT.out]; exact HO3.out)⟩
        case measure => first | (simp [intOf]; done) | (simp [intOf]; omega)
      · have hge : x0.1.nu < x.1.nu := by have := HIN.out.aft k hki hkl; omega
        have hne : ((x.1.nu : Int) != x0.1.nu) = true := by rw [bne_iff_ne]; omega
        clear hcx
        have hd : decide (i < k) = true := decide_eq_true hki
        rw [hd]
        have HD : Hid (decide (i < k + 1) = true) := Lib.hid (decide_eq_true (by omega))
        have HT : Hid ((insK l i false x0 (k + 1)) = (insK l i false x0 k) ++ [x]) := Lib.hid ((insK_gt hki hkl).trans (by rw [HX.out]))
        go_wp2_with fail
        have f0 := fun p : BelowOf _ => (HK.out.keep p.h).c4.1
        have g0 := fun p : BelowOf _ => BelowOf.cell hbr y0 p
        refine wp_region_WQ (by kernel_rfl) (by kernel_rfl) ?_
        repeat (refine WQ.step (fun K hK => ?_); go_simp; first | (refine hK.out _ ?_; clear hK K) | (apply Exists.intro; refine ⟨fun _ => ?_, hK.out _ ?_⟩; (first | rfl); clear hK K))
        refine WQ.nil ?_
        intro Wq hw'
        obtain ⟨⟨wq, hbq⟩, hw2⟩ := hw'
        subst hw2
        replace HO := Lib.hid (HO.out.keep hbq)
        replace HB := Lib.hid (bch' HB.out hbq)
        clear f0 g0
        clear k0 k1 k2 k3 kf0 kf1 kf2 kf3
        clear HK HBW
        clear y0 y1 y2 y3 hbr
        have HK := Lib.hid (HK1.out.keep HB.out)
        have HBW : Hid (Below w.heap.size w Wq) := Lib.hid (bch' HB0.out HB.out)
        obtain ⟨k0, k1, k2, k3, kf0, kf1, kf2, kf3⟩ := HK.out.c4
        have y0 : Wq.cell? ⟨b, o + k * 4, none⟩ = some (.int .i64 (x.1.nu)) := (HBW.out.cell (p := ⟨b, o + k * 4 + 0, none⟩) hb).trans (HCE.out 0 _ rfl)
        have y1 : Wq.cell? ⟨b, o + k * 4 + 1, none⟩ = some (.int .i64 (x.1.pr)) := (HBW.out.cell (p := ⟨b, o + k * 4 + 1, none⟩) hb).trans (HCE.out 1 _ rfl)
        have y2 : Wq.cell? ⟨b, o + k * 4 + 2, none⟩ = some (.bool (x.1.inh)) := (HBW.out.cell (p := ⟨b, o + k * 4 + 2, none⟩) hb).trans (HCE.out 2 _ rfl)
        have y3 : Wq.cell? ⟨b, o + k * 4 + 3, none⟩ = some (.slice x.2.1 x.2.2.1 x.2.2.2) := (HBW.out.cell (p := ⟨b, o + k * 4 + 3, none⟩) hb).trans (HCE.out 3 _ rfl)
        have hbr : b < Wq.heap.size := by have := HBW.out.size; omega
        go_wp2_with fail
        have f0 := fun p : BelowOf _ => (HK.out.keep p.h).c4.1
        have g0 := fun p : BelowOf _ => BelowOf.cell hbr y0 p
        refine wp_region_WQ (by kernel_rfl) (by kernel_rfl) ?_
        repeat (refine WQ.step (fun K hK => ?_); go_simp; first | (refine hK.out _ ?_; clear hK K) | (apply Exists.intro; refine ⟨fun _ => ?_, hK.out _ ?_⟩; (first | rfl); clear hK K))
        refine WQ.nil ?_
        intro Wr hw'
        obtain ⟨⟨wr2, hbr2⟩, hw2⟩ := hw'
        subst hw2
        replace HO := Lib.hid (HO.out.keep hbr2)
        replace HB := Lib.hid (bch' HB.out hbr2)
        clear f0 g0
        clear k0 k1 k2 k3 kf0 kf1 kf2 kf3
        clear HK HBW
        clear y0 y1 y2 y3 hbr
        have HK := Lib.hid (HK1.out.keep HB.out)
        have HBW : Hid (Below w.heap.size w Wr) := Lib.hid (bch' HB0.out HB.out)
        obtain ⟨k0, k1, k2, k3, kf0, kf1, kf2, kf3⟩ := HK.out.c4
        have y0 : Wr.cell? ⟨b, o + k * 4, none⟩ = some (.int .i64 (x.1.nu)) := (HBW.out.cell (p := ⟨b, o + k * 4 + 0, none⟩) hb).trans (HCE.out 0 _ rfl)
        have y1 : Wr.cell? ⟨b, o + k * 4 + 1, none⟩ = some (.int .i64 (x.1.pr)) := (HBW.out.cell (p := ⟨b, o + k * 4 + 1, none⟩) hb).trans (HCE.out 1 _ rfl)
        have y2 : Wr.cell? ⟨b, o + k * 4 + 2, none⟩ = some (.bool (x.1.inh)) := (HBW.out.cell (p := ⟨b, o + k * 4 + 2, none⟩) hb).trans (HCE.out 2 _ rfl)
        have y3 : Wr.cell? ⟨b, o + k * 4 + 3, none⟩ = some (.slice x.2.1 x.2.2.1 x.2.2.2) := (HBW.out.cell (p := ⟨b, o + k * 4 + 3, none⟩) hb).trans (HCE.out 3 _ rfl)
        have hbr : b < Wr.heap.size := by have := HBW.out.size; omega
        go_wp2_with (first | (at_builtin; refine wpList_appR3 rfl (.tmp 38) (.tmp 43) 25 rfl w3.heap.size 58 i0 (.agg #[.int .i64 0, .int .i64 0, .bool false, .slice none 0 0]) 48 Tryz.underlying25 hi hz0 hz1 hz2 rfl (by decide) (by decide) pp cc n ((insK l i false x0 k)) (HN.out) _ (x) Wr.heap.size (encT_len _) (fun j u hu => cellN _ 58 hu) (encT_one _) rfl (HO.out.keep ((Below.refl _ Wr).alloc (Nat.le_refl _) _)) rfl (by have := insK_len l i false x0 k; have := HFEW.out; omega) (by have := HB.out.size; rw [World.size_alloc]; omega) ?_; intro p1 c1 w4 hO3 hb3 _; have HO3 := Lib.hid hO3; have HB3 := Lib.hid (HB.out.trans (((Below.refl _ Wr).alloc (by have := HB.out.size; omega) _).trans hb3)); clear hO3 hb3))
        clear HB
        have HB := HB3; clear HB3
        go_roundw
        case rel => exact ⟨k + 1, r, n + 1, p1, c1, by first | rfl | simp, by rw [HD.out], by first | rfl | simp, Lib.hid (by rw [HT.out, List.length_append, ← HN.out]; rfl), Lib.hid (by have := hkr.out; omega), HB, Lib.hid (by rw [HT.out]; exact HO3.out)⟩
        case measure => first | (simp [intOf]; done) | (simp [intOf]; omega)

set_option maxRecDepth 100000 in
set_option maxHeartbeats 8000000 in
theorem r26_with_hit (w : World) (l : List SbT) (x0 : SbT) (p : Option Addr) (c : Nat) (cN : Nat → Int) (i : Nat) (hR : RowX encT 4 w p l) (h16 : l.length ≤ 16) (hcn : ∀ k (hk : k < l.length), (l[k]'hk).1.nu = cN k) (hb9 : Belongs cN l.length x0.1.nu i true) :
    Calls Tryz.prog 130 #[.slice p l.length c, .agg #[.int .i64 (x0.1.nu), .int .i64 (x0.1.pr), .bool (x0.1.inh), .slice x0.2.1 x0.2.2.1 x0.2.2.2]] w fun e w' => ∃ pp cc, e = .returned (.slice pp (insL l i true x0).length cc) ∧ OwnR encT 4 w.heap.size 58 w' pp cc (insL l i true x0) ∧ Below w.heap.size w w' := by
  have hal := (Below.refl w.heap.size w).alloc (Nat.le_refl _) (.cells #[.int .i64 (x0.1.nu), .int .i64 (x0.1.pr), .bool (x0.1.inh), .slice x0.2.1 x0.2.2.1 x0.2.2.2] 58)
  have HB0 := Lib.hid hal; clear hal
  have HK1 := Lib.hid (Blk.new w 58 #[.int .i64 (x0.1.nu), .int .i64 (x0.1.pr), .bool (x0.1.inh), .slice x0.2.1 x0.2.2.1 x0.2.2.2])
  have HK := HK1
  obtain ⟨k0, k1, k2, k3, kf0, kf1, kf2, kf3⟩ := HK.out.c4
  have HIN := Lib.hid hb9; have HFEW := Lib.hid h16; have HCN := Lib.hid hcn; have hv2 := Lib.hid hR; clear hb9 h16 hcn hR
  obtain ⟨i0, hi, hz0, hz1, hz2⟩ := info_parts info_sub
  go_enter Tryz.func130, Tryz.ntmps130
  go_upto_region 1 with fail
  generalize w.alloc (.cells #[.int .i64 (x0.1.nu), .int .i64 (x0.1.pr), .bool (x0.1.inh), .slice x0.2.1 x0.2.2.1 x0.2.2.2] 58) = w3 at *
  have HB := Lib.hid (Below.refl w3.heap.size w3)
  go_wp2_with fail
  go_loopw [5, 6, 7] (fun s d j wr => ∃ (k r n : Nat) (pp : Option Addr) (cc : Nat), s = .slice pp n cc ∧ d = .bool (decide (i < k)) ∧ j = .int .i64 (k : Int) ∧ Hid (n = (insK l i true x0 k).length) ∧ Hid (k + r = l.length) ∧ Hid (Below w3.heap.size w3 wr) ∧ Hid (OwnR encT 4 w3.heap.size 58 wr pp cc (insK l i true x0 k))) (fun _ _ j _ => l.length - (intOf j).toNat)
  case atStart => exact ⟨0, l.length, 0, none, 0, rfl, by rw [decide_eq_false (Nat.not_lt_zero _)], rfl, Lib.hid (by rw [insK_zero]; rfl), Lib.hid (by omega), HB, Lib.hid (by rw [insK_zero]; exact OwnR.nil _ _ _)⟩
  case round =>
    obtain ⟨k, r, n, pp, cc, rfl, rfl, rfl, HN, hkr, HB2, HO2⟩ := hrel
    clear HB
    have HB := HB2; have HO := HO2; clear HB2 HO2
    clear k0 k1 k2 k3 kf0 kf1 kf2 kf3
    clear HK
    have HK := Lib.hid (HK1.out.keep HB.out)
    have HBW : Hid (Below w.heap.size w wr) := Lib.hid (bch' HB0.out HB.out)
    obtain ⟨k0, k1, k2, k3, kf0, kf1, kf2, kf3⟩ := HK.out.c4
    cases r with
    | zero =>
      have hlt : ¬ (k : Int) < (l.length : Int) := by have := hkr.out; omega
      obtain rfl : k = l.length := by have := hkr.out; omega
      have hil2 : i < l.length := (HIN.out.yes rfl).1
      have hd : decide (i < l.length) = true := decide_eq_true hil2
      rw [hd]
      have HE : Hid ((insK l i true x0 l.length) = insL l i true x0) := Lib.hid (insK_end hil2)
      rw [HE.out] at HN HO
      have HN2 := HN
      clear HN
      go_wp2_with fail
      go_ret
      obtain rfl := HN2.out
      exact ⟨_, _, rfl, HO.out.lower (by have := HB0.out.size; omega), HBW.out⟩
    | succ r =>
      have hkl : k < l.length := by have := hkr.out; omega
      have hlt : (k : Int) < (l.length : Int) := by omega
      have hk9 : l.length ≤ 16 := HFEW.out
      have hun : IntKind.i64.wrap ((k : Int) + 1) = (k : Int) + 1 := IntWalk.i64_in _ (by omega)
      obtain ⟨b, o, rfl, hb, hC⟩ := hv2.out (fun h => by subst h; simp at hkl)
      obtain ⟨x, hx⟩ : ∃ x, x = l[k]'hkl := ⟨_, rfl⟩
      have hcell := hC k hkl
      have hcx := HCN.out k hkl
      rw [← hx] at hcell hcx
      have HCE := Lib.hid hcell; have HX := Lib.hid hx; clear hcell hC hx
      have y0 : wr.cell? ⟨b, o + k * 4, none⟩ = some (.int .i64 (x.1.nu)) := (HBW.out.cell (p := ⟨b, o + k * 4 + 0, none⟩) hb).trans (HCE.out 0 _ rfl)
      have y1 : wr.cell? ⟨b, o + k * 4 + 1, none⟩ = some (.int .i64 (x.1.pr)) := (HBW.out.cell (p := ⟨b, o + k * 4 + 1, none⟩) hb).trans (HCE.out 1 _ rfl)
      have y2 : wr.cell? ⟨b, o + k * 4 + 2, none⟩ = some (.bool (x.1.inh)) := (HBW.out.cell (p := ⟨b, o + k * 4 + 2, none⟩) hb).trans (HCE.out 2 _ rfl)
      have y3 : wr.cell? ⟨b, o + k * 4 + 3, none⟩ = some (.slice x.2.1 x.2.2.1 x.2.2.2) := (HBW.out.cell (p := ⟨b, o + k * 4 + 3, none⟩) hb).trans (HCE.out 3 _ rfl)
      have hbr : b < wr.heap.size := by have := HBW.out.size; omega
      have hk0 : (0 : Int) ≤ (k : Int) := by omega
      rcases Nat.lt_trichotomy k i with hki | hki | hki
      · have hge : ¬ x0.1.nu ≤ x.1.nu := by have := HIN.out.bef k hki; omega
        have hne : ((x.1.nu : Int) != x0.1.nu) = true := by rw [bne_iff_ne]; have := HIN.out.bef k hki; omega
        clear hcx
        have hd : decide (i < k) = false := decide_eq_false (by omega)
        rw [hd]
        have HD : Hid (decide (i < k + 1) = false) := Lib.hid (decide_eq_false (by omega))
        have HT : Hid ((insK l i true x0 (k + 1)) = (insK l i true x0 k) ++ [x]) := Lib.hid ((insK_lt hki hkl).trans (by rw [HX.out]))
        go_wp2_with fail
        have f0 := fun p : BelowOf _ => (HK.out.keep p.h).c4.1
        have g0 := fun p : BelowOf _ => BelowOf.cell hbr y0 p
        refine wp_region_WQ (by kernel_rfl) (by kernel_rfl) ?_
        repeat (refine WQ.step (fun K hK => ?_); go_simp; first | (refine hK.out _ ?_; clear hK K) | (apply Exists.intro; refine ⟨fun _ => ?_, hK.out _ ?_⟩; (first | rfl); clear hK K))
        refine WQ.nil ?_
        intro Wq hw'
        obtain ⟨⟨wq, hbq⟩, hw2⟩ := hw'
        subst hw2
        replace HO := Lib.hid (HO.out.keep hbq)
        replace HB := Lib.hid (bch' HB.out hbq)
        clear f0 g0
        clear k0 k1 k2 k3 kf0 kf1 kf2 kf3
        clear HK HBW
        clear y0 y1 y2 y3 hbr
        have HK := Lib.hid (HK1.out.keep HB.out)
        have HBW : Hid (Below w.heap.size w Wq) := Lib.hid (bch' HB0.out HB.out)
        obtain ⟨k0, k1, k2, k3, kf0, kf1, kf2, kf3⟩ := HK.out.c4
        have y0 : Wq.cell? ⟨b, o + k * 4, none⟩ = some (.int .i64 (x.1.nu)) := (HBW.out.cell (p := ⟨b, o + k * 4 + 0, none⟩) hb).trans (HCE.out 0 _ rfl)
        have y1 : Wq.cell? ⟨b, o + k * 4 + 1, none⟩ = some (.int .i64 (x.1.pr)) := (HBW.out.cell (p := ⟨b, o + k * 4 + 1, none⟩) hb).trans (HCE.out 1 _ rfl)
        have y2 : Wq.cell? ⟨b, o + k * 4 + 2, none⟩ = some (.bool (x.1.inh)) := (HBW.out.cell (p := ⟨b, o + k * 4 + 2, none⟩) hb).trans (HCE.out 2 _ rfl)
        have y3 : Wq.cell? ⟨b, o + k * 4 + 3, none⟩ = some (.slice x.2.1 x.2.2.1 x.2.2.2) := (HBW.out.cell (p := ⟨b, o + k * 4 + 3, none⟩) hb).trans (HCE.out 3 _ rfl)
        have hbr : b < Wq.heap.size := by have := HBW.out.size; omega
        go_wp2_with fail
        have f0 := fun p : BelowOf _ => (HK.out.keep p.h).c4.1
        have g0 := fun p : BelowOf _ => BelowOf.cell hbr y0 p
        refine wp_region_WQ (by kernel_rfl) (by kernel_rfl) ?_
        repeat (refine WQ.step (fun K hK => ?_); go_simp; first | (refine hK.out _ ?_; clear hK K) | (apply Exists.intro; refine ⟨fun _ => ?_, hK.out _ ?_⟩; (first | rfl); clear hK K))
        refine WQ.nil ?_
        intro Wr hw'
        obtain ⟨⟨wr2, hbr2⟩, hw2⟩ := hw'
        subst hw2
        replace HO := Lib.hid (HO.out.keep hbr2)
        replace HB := Lib.hid (bch' HB.out hbr2)
        clear f0 g0
        clear k0 k1 k2 k3 kf0 kf1 kf2 kf3
        clear HK HBW
        clear y0 y1 y2 y3 hbr
        have HK := Lib.hid (HK1.out.keep HB.out)
        have HBW : Hid (Below w.heap.size w Wr) := Lib.hid (bch' HB0.out HB.out)
        obtain ⟨k0, k1, k2, k3, kf0, kf1, kf2, kf3⟩ := HK.out.c4
        have y0 : Wr.cell? ⟨b, o + k * 4, none⟩ = some (.int .i64 (x.1.nu)) := (HBW.out.cell (p := ⟨b, o + k * 4 + 0, none⟩) hb).trans (HCE.out 0 _ rfl)
        have y1 : Wr.cell? ⟨b, o + k * 4 + 1, none⟩ = some (.int .i64 (x.1.pr)) := (HBW.out.cell (p := ⟨b, o + k * 4 + 1, none⟩) hb).trans (HCE.out 1 _ rfl)
        have y2 : Wr.cell? ⟨b, o + k * 4 + 2, none⟩ = some (.bool (x.1.inh)) := (HBW.out.cell (p := ⟨b, o + k * 4 + 2, none⟩) hb).trans (HCE.out 2 _ rfl)
        have y3 : Wr.cell? ⟨b, o + k * 4 + 3, none⟩ = some (.slice x.2.1 x.2.2.1 x.2.2.2) := (HBW.out.cell (p := ⟨b, o + k * 4 + 3, none⟩) hb).trans (HCE.out 3 _ rfl)
        have hbr : b < Wr.heap.size := by have := HBW.out.size; omega
        go_wp2_with (first | (at_builtin; refine wpList_appR3 rfl (.tmp 38) (.tmp 43) 25 rfl w3.heap.size 58 i0 (.agg #[.int .i64 0, .int .i64 0, .bool false, .slice none 0 0]) 48 Tryz.underlying25 hi hz0 hz1 hz2 rfl (by decide) (by decide) pp cc n ((insK l i true x0 k)) (HN.out) _ (x) Wr.heap.size (encT_len _) (fun j u hu => cellN _ 58 hu) (encT_one _) rfl (HO.out.keep ((Below.refl _ Wr).alloc (Nat.le_refl _) _)) rfl (by have := insK_len l i true x0 k; have := HFEW.out; omega) (by have := HB.out.size; rw [World.size_alloc]; omega) ?_; intro p1 c1 w4 hO3 hb3 _; have HO3 := Lib.hid hO3; have HB3 := Lib.hid (HB.out.trans (((Below.refl _ Wr).alloc (by have := HB.out.size; omega) _).trans hb3)); clear hO3 hb3))
        clear HB
        have HB := HB3; clear HB3
        go_roundw
        case rel => exact ⟨k + 1, r, n + 1, p1, c1, by first | rfl | simp, by rw [HD.out], by first | rfl | simp, Lib.hid (by rw [HT.out, List.length_append, ← HN.out]; rfl), Lib.hid (by have := hkr.out; omega), HB, Lib.hid (by rw [HT.out]; exact HO3.out)⟩
        case measure => first | (simp [intOf]; done) | (simp [intOf]; omega)
      · obtain rfl : i = k := by omega
        have hd : decide (i < i) = false := decide_eq_false (Nat.lt_irrefl _)
        rw [hd]
        have HD : Hid (decide (i < i + 1) = true) := Lib.hid (decide_eq_true (Nat.lt_succ_self _))
        have hge : x0.1.nu ≤ x.1.nu := by have := (HIN.out.yes rfl).2; omega
        have hne : ((x.1.nu : Int) != x0.1.nu) = false := by have := (HIN.out.yes rfl).2; rw [bne_eq_false_iff_eq]; omega
        have HT : Hid ((insK l i true x0 (i + 1)) = (insK l i true x0 i) ++ [x0]) := Lib.hid (insK_hit hkl)
        clear hcx
        go_wp2_with fail
        have f0 := fun p : BelowOf _ => (HK.out.keep p.h).c4.1
        have g0 := fun p : BelowOf _ => BelowOf.cell hbr y0 p
        refine wp_region_WQ (by kernel_rfl) (by kernel_rfl) ?_
        repeat (refine WQ.step (fun K hK => ?_); go_simp; first | (refine hK.out _ ?_; clear hK K) | (apply Exists.intro; refine ⟨fun _ => ?_, hK.out _ ?_⟩; (first | rfl); clear hK K))
        refine WQ.nil ?_
        intro Wq hw'
        obtain ⟨⟨wq, hbq⟩, hw2⟩ := hw'
        subst hw2
        replace HO := Lib.hid (HO.out.keep hbq)
        replace HB := Lib.hid (bch' HB.out hbq)
        clear f0 g0
        clear k0 k1 k2 k3 kf0 kf1 kf2 kf3
        clear HK HBW
        clear y0 y1 y2 y3 hbr
        have HK := Lib.hid (HK1.out.keep HB.out)
        have HBW : Hid (Below w.heap.size w Wq) := Lib.hid (bch' HB0.out HB.out)
        obtain ⟨k0, k1, k2, k3, kf0, kf1, kf2, kf3⟩ := HK.out.c4
        have y0 : Wq.cell? ⟨b, o + i * 4, none⟩ = some (.int .i64 (x.1.nu)) := (HBW.out.cell (p := ⟨b, o + i * 4 + 0, none⟩) hb).trans (HCE.out 0 _ rfl)
        have y1 : Wq.cell? ⟨b, o + i * 4 + 1, none⟩ = some (.int .i64 (x.1.pr)) := (HBW.out.cell (p := ⟨b, o + i * 4 + 1, none⟩) hb).trans (HCE.out 1 _ rfl)
        have y2 : Wq.cell? ⟨b, o + i * 4 + 2, none⟩ = some (.bool (x.1.inh)) := (HBW.out.cell (p := ⟨b, o + i * 4 + 2, none⟩) hb).trans (HCE.out 2 _ rfl)
        have y3 : Wq.cell? ⟨b, o + i * 4 + 3, none⟩ = some (.slice x.2.1 x.2.2.1 x.2.2.2) := (HBW.out.cell (p := ⟨b, o + i * 4 + 3, none⟩) hb).trans (HCE.out 3 _ rfl)
        have hbr : b < Wq.heap.size := by have := HBW.out.size; omega
        go_wp2_with (first | (at_builtin; refine wpList_appR3 rfl (.tmp 26) (.tmp 28) 25 rfl w3.heap.size 58 i0 (.agg #[.int .i64 0, .int .i64 0, .bool false, .slice none 0 0]) 48 Tryz.underlying25 hi hz0 hz1 hz2 rfl (by decide) (by decide) pp cc n ((insK l i true x0 i)) (HN.out) _ (x0) Wq.heap.size (encT_len _) (fun j u hu => cellN _ 58 hu) (encT_one _) rfl (HO.out.keep ((Below.refl _ Wq).alloc (Nat.le_refl _) _)) rfl (by have := insK_len l i true x0 i; have := HFEW.out; omega) (by have := HB.out.size; rw [World.size_alloc]; omega) ?_; intro p1 c1 w4 hO3 hb3 _; have HO3 := Lib.hid hO3; have HB3 := Lib.hid (HB.out.trans (((Below.refl _ Wq).alloc (by have := HB.out.size; omega) _).trans hb3)); clear hO3 hb3))
        clear k0 k1 k2 k3 kf0 kf1 kf2 kf3
        clear HK HBW
        clear y0 y1 y2 y3 hbr
        clear HB HO
        have HB := HB3; have HO := HO3; clear HB3 HO3
        have HN1 : Hid (n + 1 = ((insK l i true x0 i) ++ [x0]).length) := Lib.hid (by rw [List.length_append, ← HN.out]; rfl)
        have HK := Lib.hid (HK1.out.keep HB.out)
        have HBW : Hid (Below w.heap.size w w4) := Lib.hid (bch' HB0.out HB.out)
        obtain ⟨k0, k1, k2, k3, kf0, kf1, kf2, kf3⟩ := HK.out.c4
        have y0 : w4.cell? ⟨b, o + i * 4, none⟩ = some (.int .i64 (x.1.nu)) := (HBW.out.cell (p := ⟨b, o + i * 4 + 0, none⟩) hb).trans (HCE.out 0 _ rfl)
        have y1 : w4.cell? ⟨b, o + i * 4 + 1, none⟩ = some (.int .i64 (x.1.pr)) := (HBW.out.cell (p := ⟨b, o + i * 4 + 1, none⟩) hb).trans (HCE.out 1 _ rfl)
        have y2 : w4.cell? ⟨b, o + i * 4 + 2, none⟩ = some (.bool (x.1.inh)) := (HBW.out.cell (p := ⟨b, o + i * 4 + 2, none⟩) hb).trans (HCE.out 2 _ rfl)
        have y3 : w4.cell? ⟨b, o + i * 4 + 3, none⟩ = some (.slice x.2.1 x.2.2.1 x.2.2.2) := (HBW.out.cell (p := ⟨b, o + i * 4 + 3, none⟩) hb).trans (HCE.out 3 _ rfl)
        have hbr : b < w4.heap.size := by have := HBW.out.size; omega
        have f0 := fun p : BelowOf _ => (HK.out.keep p.h).c4.1
        have g0 := fun p : BelowOf _ => BelowOf.cell hbr y0 p
        refine wp_region_WQ (by kernel_rfl) (by kernel_rfl) ?_
        repeat (refine WQ.step (fun K hK => ?_); go_simp; first | (refine hK.out _ ?_; clear hK K) | (apply Exists.intro; refine ⟨fun _ => ?_, hK.out _ ?_⟩; (first | rfl); clear hK K))
        refine WQ.nil ?_
        intro Wr hw'
        obtain ⟨⟨wr2, hbr2⟩, hw2⟩ := hw'
        subst hw2
        replace HO := Lib.hid (HO.out.keep hbr2)
        replace HB := Lib.hid (bch' HB.out hbr2)
        clear f0 g0
        clear k0 k1 k2 k3 kf0 kf1 kf2 kf3
        clear HK HBW
        clear y0 y1 y2 y3 hbr
        have HK := Lib.hid (HK1.out.keep HB.out)
        have HBW : Hid (Below w.heap.size w Wr) := Lib.hid (bch' HB0.out HB.out)
        obtain ⟨k0, k1, k2, k3, kf0, kf1, kf2, kf3⟩ := HK.out.c4
        have y0 : Wr.cell? ⟨b, o + i * 4, none⟩ = some (.int .i64 (x.1.nu)) := (HBW.out.cell (p := ⟨b, o + i * 4 + 0, none⟩) hb).trans (HCE.out 0 _ rfl)
        have y1 : Wr.cell? ⟨b, o + i * 4 + 1, none⟩ = some (.int .i64 (x.1.pr)) := (HBW.out.cell (p := ⟨b, o + i * 4 + 1, none⟩) hb).trans (HCE.out 1 _ rfl)
        have y2 : Wr.cell? ⟨b, o + i * 4 + 2, none⟩ = some (.bool (x.1.inh)) := (HBW.out.cell (p := ⟨b, o + i * 4 + 2, none⟩) hb).trans (HCE.out 2 _ rfl)
        have y3 : Wr.cell? ⟨b, o + i * 4 + 3, none⟩ = some (.slice x.2.1 x.2.2.1 x.2.2.2) := (HBW.out.cell (p := ⟨b, o + i * 4 + 3, none⟩) hb).trans (HCE.out 3 _ rfl)
        have hbr : b < Wr.heap.size := by have := HBW.out.size; omega
        go_wp2_with fail
        go_roundw
        case rel => exact ⟨i + 1, r, n + 1, p1, c1, by first | rfl | simp, by rw [HD.out], by first | rfl | simp, Lib.hid (by rw [HT.out]; exact HN1.out), Lib.hid (by have := hkr.out; omega), HB, Lib.hid (by rw [HT.out]; exact HO.out)⟩
        case measure => first | (simp [intOf]; done) | (simp [intOf]; omega)
      · have hge : x0.1.nu < x.1.nu := by have := HIN.out.aft k hki hkl; omega
        have hne : ((x.1.nu : Int) != x0.1.nu) = true := by rw [bne_iff_ne]; omega
        clear hcx
        have hd : decide (i < k) = true := decide_eq_true hki
        rw [hd]
        have HD : Hid (decide (i < k + 1) = true) := Lib.hid (decide_eq_true (by omega))
        have HT : Hid ((insK l i true x0 (k + 1)) = (insK l i true x0 k) ++ [x]) := Lib.hid ((insK_gt hki hkl).trans (by rw [HX.out]))
        go_wp2_with fail
        have f0 := fun p : BelowOf _ => (HK.out.keep p.h).c4.1
        have g0 := fun p : BelowOf _ => BelowOf.cell hbr y0 p
        refine wp_region_WQ (by kernel_rfl) (by kernel_rfl) ?_
        repeat (refine WQ.step (fun K hK => ?_); go_simp; first | (refine hK.out _ ?_; clear hK K) | (apply Exists.intro; refine ⟨fun _ => ?_, hK.out _ ?_⟩; (first | rfl); clear hK K))
        refine WQ.nil ?_
        intro Wq hw'
        obtain ⟨⟨wq, hbq⟩, hw2⟩ := hw'
        subst hw2
        replace HO := Lib.hid (HO.out.keep hbq)
        replace HB := Lib.hid (bch' HB.out hbq)
        clear f0 g0
        clear k0 k1 k2 k3 kf0 kf1 kf2 kf3
        clear HK HBW
        clear y0 y1 y2 y3 hbr
        have HK := Lib.hid (HK1.out.keep HB.out)
        have HBW : Hid (Below w.heap.size w Wq) := Lib.hid (bch' HB0.out HB.out)
        obtain ⟨k0, k1, k2, k3, kf0, kf1, kf2, kf3⟩ := HK.out.c4
        have y0 : Wq.cell? ⟨b, o + k * 4, none⟩ = some (.int .i64 (x.1.nu)) := (HBW.out.cell (p := ⟨b, o + k * 4 + 0, none⟩) hb).trans (HCE.out 0 _ rfl)
        have y1 : Wq.cell? ⟨b, o + k * 4 + 1, none⟩ = some (.int .i64 (x.1.pr)) := (HBW.out.cell (p := ⟨b, o + k * 4 + 1, none⟩) hb).trans (HCE.out 1 _ rfl)
        have y2 : Wq.cell? ⟨b, o + k * 4 + 2, none⟩ = some (.bool (x.1.inh)) := (HBW.out.cell (p := ⟨b, o + k * 4 + 2, none⟩) hb).trans (HCE.out 2 _ rfl)
        have y3 : Wq.cell? ⟨b, o + k * 4 + 3, none⟩ = some (.slice x.2.1 x.2.2.1 x.2.2.2) := (HBW.out.cell (p := ⟨b, o + k * 4 + 3, none⟩) hb).trans (HCE.out 3 _ rfl)
        have hbr : b < Wq.heap.size := by have := HBW.out.size; omega
        go_wp2_with fail
        have f0 := fun p : BelowOf _ => (HK.out.keep p.h).c4.1
        have g0 := fun p : BelowOf _ => BelowOf.cell hbr y0 p
        refine wp_region_WQ (by kernel_rfl) (by kernel_rfl) ?_
        repeat (refine WQ.step (fun K hK => ?_); go_simp; first | (refine hK.out _ ?_; clear hK K) | (apply Exists.intro; refine ⟨fun _ => ?_, hK.out _ ?_⟩; (first | rfl); clear hK K))
        refine WQ.nil ?_
        intro Wr hw'
        obtain ⟨⟨wr2, hbr2⟩, hw2⟩ := hw'
        subst hw2
        replace HO := Lib.hid (HO.out.keep hbr2)
        replace HB := Lib.hid (bch' HB.out hbr2)
        clear f0 g0
        clear k0 k1 k2 k3 kf0 kf1 kf2 kf3
        clear HK HBW
        clear y0 y1 y2 y3 hbr
        have HK := Lib.hid (HK1.out.keep HB.out)
        have HBW : Hid (Below w.heap.size w Wr) := Lib.hid (bch' HB0.out HB.out)
        obtain ⟨k0, k1, k2, k3, kf0, kf1, kf2, kf3⟩ := HK.out.c4
        have y0 : Wr.cell? ⟨b, o + k * 4, none⟩ = some (.int .i64 (x.1.nu)) := (HBW.out.cell (p := ⟨b, o + k * 4 + 0, none⟩) hb).trans (HCE.out 0 _ rfl)
        have y1 : Wr.cell? ⟨b, o + k * 4 + 1, none⟩ = some (.int .i64 (x.1.pr)) := (HBW.out.cell (p := ⟨b, o + k * 4 + 1, none⟩) hb).trans (HCE.out 1 _ rfl)
        have y2 : Wr.cell? ⟨b, o + k * 4 + 2, none⟩ = some (.bool (x.1.inh)) := (HBW.out.cell (p := ⟨b, o + k * 4 + 2, none⟩) hb).trans (HCE.out 2 _ rfl)
        have y3 : Wr.cell? ⟨b, o + k * 4 + 3, none⟩ = some (.slice x.2.1 x.2.2.1 x.2.2.2) := (HBW.out.cell (p := ⟨b, o + k * 4 + 3, none⟩) hb).trans (HCE.out 3 _ rfl)
        have hbr : b < Wr.heap.size := by have := HBW.out.size; omega
        go_wp2_with (first | (at_builtin; refine wpList_appR3 rfl (.tmp 38) (.tmp 43) 25 rfl w3.heap.size 58 i0 (.agg #[.int .i64 0, .int .i64 0, .bool false, .slice none 0 0]) 48 Tryz.underlying25 hi hz0 hz1 hz2 rfl (by decide) (by decide) pp cc n ((insK l i true x0 k)) (HN.out) _ (x) Wr.heap.size (encT_len _) (fun j u hu => cellN _ 58 hu) (encT_one _) rfl (HO.out.keep ((Below.refl _ Wr).alloc (Nat.le_refl _) _)) rfl (by have := insK_len l i true x0 k; have := HFEW.out; omega) (by have := HB.out.size; rw [World.size_alloc]; omega) ?_; intro p1 c1 w4 hO3 hb3 _; have HO3 := Lib.hid hO3; have HB3 := Lib.hid (HB.out.trans (((Below.refl _ Wr).alloc (by have := HB.out.size; omega) _).trans hb3)); clear hO3 hb3))
        clear HB
        have HB := HB3; clear HB3
        go_roundw
        case rel => exact ⟨k + 1, r, n + 1, p1, c1, by first | rfl | simp, by rw [HD.out], by first | rfl | simp, Lib.hid (by rw [HT.out, List.length_append, ← HN.out]; rfl), Lib.hid (by have := hkr.out; omega), HB, Lib.hid (by rw [HT.out]; exact HO3.out)⟩
        case measure => first | (simp [intOf]; done) | (simp [intOf]; omega)
end Go.Proofs.YtkjelfmgnkkijaaGreatDoor
namespace Lum
open Go Go.RowKit Go.Shelf
open Go.Lib (decDigits itoa)
theorem own_some {β : Type} {enc : β → List Value} {k base : Nat} {e : TypeId} {W : World} {p : Option Addr} {c : Nat} {l : List β} (h : OwnR enc k base e W p c l) (hn : l ≠ []) : ∃ g, p = some ⟨g, 0, none⟩ ∧ base ≤ g := by
  obtain ⟨g, cur, h1, h2, -⟩ := h.to_blk hn
  exact ⟨g, h1, h2⟩
theorem belongs_tab {l : List Sb} (h : TabOk l) (nu : Int) : ∃ i hit, Belongs (fun k => (sbv l k).nu) l.length nu i hit := by
  obtain ⟨i, h1, h2, h3⟩ := sorted_cut (fun k => (sbv l k).nu) nu l.length
  exact ⟨i, _, halved_belongs h.ord ⟨h1, fun g => by have := h2 (i - 1) (by omega); (try dsimp only at this ⊢); omega, fun g => by have := h3 g; (try dsimp only at this ⊢); omega⟩⟩
end Lum
namespace Go.Proofs.YtkjelfmgnkkijaaGreatDoor
open Go.RowKit Go.Shelf Lum
open Go.Lib (decDigits itoa)
attribute [local go_sem] bs_get bs_extract_end bs_extract_from bs_extract bs_append

set_option maxRecDepth 100000 in
set_option maxHeartbeats 8000000 in
theorem own_tput_tab (w : World) (l : List SbT) (x0 : SbT) (pp : Option Addr) (cc : Nat) (hs : SbsAt w (.slice pp l.length cc) (l.map (·.1))) (hg : GnsAt w (.slice x0.2.1 x0.2.2.1 x0.2.2.2) x0.1.gs) (hz : ¬ tabE (l.map (·.1)) = 0) :
    Calls Tryz.prog 65 #[.slice pp l.length cc, .agg #[.int .i64 (x0.1.nu), .int .i64 (x0.1.pr), .bool (x0.1.inh), .slice x0.2.1 x0.2.2.1 x0.2.2.2]] w fun e w' => e = .returned (.tuple #[.slice none 0 0, .int .i64 (tabE (l.map (·.1)))]) ∧ Below w.heap.size w w' := by
  have ht := fun W (h : SbsAt W (.slice pp l.length cc) (l.map (·.1))) => own_stable (l.map (·.1)) (.slice pp l.length cc) W h
  have hal := (Below.refl w.heap.size w).alloc (Nat.le_refl _) (.cells #[.int .i64 (x0.1.nu), .int .i64 (x0.1.pr), .bool (x0.1.inh), .slice x0.2.1 x0.2.2.1 x0.2.2.2] 58)
  have HS := Lib.hid (SbsAt.kept hs hal)
  have HG := Lib.hid (GnsAt.kept hg hal)
  have HB := Lib.hid hal; clear hal
  have HK := Lib.hid (Blk.new w 58 #[.int .i64 (x0.1.nu), .int .i64 (x0.1.pr), .bool (x0.1.inh), .slice x0.2.1 x0.2.2.1 x0.2.2.2])
  obtain ⟨k0, k1, k2, k3, kf0, kf1, kf2, kf3⟩ := HK.out.c4
  have hne : ((tabE (l.map (·.1)) : Int) != 0) = true := by simpa using hz
  generalize tabE (l.map (·.1)) = m at *
  clear hz hs hg
  have HT := Lib.hid ht; clear ht
  go_enter Tryz.func65, Tryz.ntmps65
  go_wp2_with (first | (with_reducible refine ((HT.out _ HS.out).mono ?_); rintro e w' ⟨rfl, hb⟩; replace HK := Lib.hid (HK.out.keep hb); clear k0 k1 k2 k3 kf0 kf1 kf2 kf3; replace HS := Lib.hid (SbsAt.kept HS.out hb); replace HG := Lib.hid (GnsAt.kept HG.out hb); replace HB := Lib.hid (bch' HB.out hb); clear hb; obtain ⟨k0, k1, k2, k3, kf0, kf1, kf2, kf3⟩ := HK.out.c4))
  go_ret2
  exact ⟨rfl, HB.out⟩

set_option maxRecDepth 100000 in
set_option maxHeartbeats 8000000 in
theorem own_tput_sub (w : World) (l : List SbT) (x0 : SbT) (pp : Option Addr) (cc : Nat) (hs : SbsAt w (.slice pp l.length cc) (l.map (·.1))) (hg : GnsAt w (.slice x0.2.1 x0.2.2.1 x0.2.2.2) x0.1.gs) (hz : tabE (l.map (·.1)) = 0) (hx : ¬ (subE x0.1.nu x0.1.pr x0.1.inh x0.1.gs) = 0) :
    Calls Tryz.prog 65 #[.slice pp l.length cc, .agg #[.int .i64 (x0.1.nu), .int .i64 (x0.1.pr), .bool (x0.1.inh), .slice x0.2.1 x0.2.2.1 x0.2.2.2]] w fun e w' => e = .returned (.tuple #[.slice none 0 0, .int .i64 ((subE x0.1.nu x0.1.pr x0.1.inh x0.1.gs))]) ∧ Below w.heap.size w w' := by
  have ht := fun W (h : SbsAt W (.slice pp l.length cc) (l.map (·.1))) => own_stable (l.map (·.1)) (.slice pp l.length cc) W h
  have hc := fun W (h : GnsAt W (.slice x0.2.1 x0.2.2.1 x0.2.2.2) x0.1.gs) => own_scheck x0.1.nu x0.1.pr x0.1.inh x0.1.gs (.slice x0.2.1 x0.2.2.1 x0.2.2.2) W h
  rw [hz] at ht
  have hal := (Below.refl w.heap.size w).alloc (Nat.le_refl _) (.cells #[.int .i64 (x0.1.nu), .int .i64 (x0.1.pr), .bool (x0.1.inh), .slice x0.2.1 x0.2.2.1 x0.2.2.2] 58)
  have HS := Lib.hid (SbsAt.kept hs hal)
  have HG := Lib.hid (GnsAt.kept hg hal)
  have HB := Lib.hid hal; clear hal
  have HK := Lib.hid (Blk.new w 58 #[.int .i64 (x0.1.nu), .int .i64 (x0.1.pr), .bool (x0.1.inh), .slice x0.2.1 x0.2.2.1 x0.2.2.2])
  obtain ⟨k0, k1, k2, k3, kf0, kf1, kf2, kf3⟩ := HK.out.c4
  have hne : (((subE x0.1.nu x0.1.pr x0.1.inh x0.1.gs) : Int) != 0) = true := by simpa using hx
  generalize (subE x0.1.nu x0.1.pr x0.1.inh x0.1.gs) = m at *
  clear hz hx hs hg
  have HT := Lib.hid ht; clear ht
  have HC := Lib.hid hc; clear hc
  go_enter Tryz.func65, Tryz.ntmps65
  go_wp2_with (first | (with_reducible refine ((HT.out _ HS.out).mono ?_); rintro e w' ⟨rfl, hb⟩; replace HK := Lib.hid (HK.out.keep hb); clear k0 k1 k2 k3 kf0 kf1 kf2 kf3; replace HS := Lib.hid (SbsAt.kept HS.out hb); replace HG := Lib.hid (GnsAt.kept HG.out hb); replace HB := Lib.hid (bch' HB.out hb); clear hb; obtain ⟨k0, k1, k2, k3, kf0, kf1, kf2, kf3⟩ := HK.out.c4) | (with_reducible refine ((HC.out _ HG.out).mono ?_); rintro e w' ⟨rfl, hb⟩; replace HK := Lib.hid (HK.out.keep hb); clear k0 k1 k2 k3 kf0 kf1 kf2 kf3; replace HS := Lib.hid (SbsAt.kept HS.out hb); replace HG := Lib.hid (GnsAt.kept HG.out hb); replace HB := Lib.hid (bch' HB.out hb); clear hb; obtain ⟨k0, k1, k2, k3, kf0, kf1, kf2, kf3⟩ := HK.out.c4))
  go_ret2
  exact ⟨rfl, HB.out⟩

set_option maxRecDepth 100000 in
set_option maxHeartbeats 8000000 in
theorem own_tput_hit (w : World) (l : List SbT) (x0 : SbT) (pp : Option Addr) (cc : Nat) (hs : SbsAt w (.slice pp l.length cc) (l.map (·.1))) (hg : GnsAt w (.slice x0.2.1 x0.2.2.1 x0.2.2.2) x0.1.gs) (hR : RowX encT 4 w pp l) (hz : tabE (l.map (·.1)) = 0) (hx : (subE x0.1.nu x0.1.pr x0.1.inh x0.1.gs) = 0) (i : Nat) (hb9 : Belongs (fun k => (sbv (l.map (·.1)) k).nu) l.length x0.1.nu i true) :
    Calls Tryz.prog 65 #[.slice pp l.length cc, .agg #[.int .i64 (x0.1.nu), .int .i64 (x0.1.pr), .bool (x0.1.inh), .slice x0.2.1 x0.2.2.1 x0.2.2.2]] w fun e w' => ∃ pp cc, e = .returned (.tuple #[.slice pp (insL l i true x0).length cc, .int .i64 0]) ∧ OwnR encT 4 w.heap.size 58 w' pp cc (insL l i true x0) ∧ Below w.heap.size w w' := by
  have hT := tabOk hz
  have hX := subOk hx
  have h16 : l.length ≤ 16 := by have := hT.few; rwa [List.length_map] at this
  have ht := fun W (h : SbsAt W (.slice pp l.length cc) (l.map (·.1))) => own_stable (l.map (·.1)) (.slice pp l.length cc) W h
  have hc := fun W (h : GnsAt W (.slice x0.2.1 x0.2.2.1 x0.2.2.2) x0.1.gs) => own_scheck x0.1.nu x0.1.pr x0.1.inh x0.1.gs (.slice x0.2.1 x0.2.2.1 x0.2.2.2) W h
  rw [hz] at ht
  change ∀ W, _ → Calls _ _ _ W (fun e w' => e = .returned (.int .i64 0) ∧ _) at ht
  have hpl : ∀ (W : World) (p : Option Addr) (c : Nat), RowX encT 4 W p l → Calls Tryz.prog 128 #[.slice p l.length c, .int .i64 x0.1.nu] W fun e w' => e = .returned (.tuple #[.int .i64 (i : Int), .bool true]) ∧ Below W.heap.size W w' := fun W p c hr => by
    have h := own_splace x0.1.nu (l.map (·.1)) W l p c rfl hr hT (by have := hX.nu0; omega) (by have := hX.nu1; omega)
    rw [List.length_map] at h
    refine h.mono fun e w' ⟨i2, hit2, he, hb, h1, h2, h3, h4⟩ => ?_
    have hb8 := h4 ⟨hX.nu0, hX.nu1⟩
    rw [List.length_map] at hb8
    obtain ⟨rfl, rfl⟩ := hb8.uniq hb9
    exact ⟨he, hb⟩
  have hcl := fun W (h : RowX encT 4 W pp l) => own_tclone W l pp cc h (by omega)
  have HR := Lib.hid (RowX.kept hR ((Below.refl w.heap.size w).alloc (Nat.le_refl _) (.cells #[.int .i64 (x0.1.nu), .int .i64 (x0.1.pr), .bool (x0.1.inh), .slice x0.2.1 x0.2.2.1 x0.2.2.2] 58)))
  have hal := (Below.refl w.heap.size w).alloc (Nat.le_refl _) (.cells #[.int .i64 (x0.1.nu), .int .i64 (x0.1.pr), .bool (x0.1.inh), .slice x0.2.1 x0.2.2.1 x0.2.2.2] 58)
  have HS := Lib.hid (SbsAt.kept hs hal)
  have HG := Lib.hid (GnsAt.kept hg hal)
  have HB := Lib.hid hal; clear hal
  have HK := Lib.hid (Blk.new w 58 #[.int .i64 (x0.1.nu), .int .i64 (x0.1.pr), .bool (x0.1.inh), .slice x0.2.1 x0.2.2.1 x0.2.2.2])
  obtain ⟨k0, k1, k2, k3, kf0, kf1, kf2, kf3⟩ := HK.out.c4
  have HT0 := Lib.hid hT
  have hx9 := hx
  rw [hx] at hc
  have HIN := Lib.hid hb9
  have HFEW := Lib.hid h16
  clear hT hX hz hx hx9 h16 hs hg hR hb9
  have HT := Lib.hid ht; clear ht
  have HC := Lib.hid hc; clear hc
  have HPL := Lib.hid hpl; clear hpl
  have HCL := Lib.hid hcl; clear hcl
  go_enter Tryz.func65, Tryz.ntmps65
  go_wp2_with (first | (with_reducible refine ((HT.out _ HS.out).mono ?_); rintro e w' ⟨rfl, hb⟩; replace HK := Lib.hid (HK.out.keep hb); clear k0 k1 k2 k3 kf0 kf1 kf2 kf3; replace HS := Lib.hid (SbsAt.kept HS.out hb); replace HG := Lib.hid (GnsAt.kept HG.out hb); replace HR := Lib.hid (RowX.kept HR.out hb); replace HB := Lib.hid (bch' HB.out hb); clear hb; obtain ⟨k0, k1, k2, k3, kf0, kf1, kf2, kf3⟩ := HK.out.c4) | (with_reducible refine ((HC.out _ HG.out).mono ?_); rintro e w' ⟨rfl, hb⟩; replace HK := Lib.hid (HK.out.keep hb); clear k0 k1 k2 k3 kf0 kf1 kf2 kf3; replace HS := Lib.hid (SbsAt.kept HS.out hb); replace HG := Lib.hid (GnsAt.kept HG.out hb); replace HR := Lib.hid (RowX.kept HR.out hb); replace HB := Lib.hid (bch' HB.out hb); clear hb; obtain ⟨k0, k1, k2, k3, kf0, kf1, kf2, kf3⟩ := HK.out.c4))
  refine ((HCL.out _ HR.out).mono ?_)
  rintro e w3 ⟨p1, c1, rfl, ho, hb⟩
  have HO := Lib.hid ho; clear ho
  have HW : Hid (w.heap.size ≤ w'.heap.size) := Lib.hid HB.out.size
  have HH : Hid (w'.heap.size ≤ w3.heap.size) := Lib.hid hb.size
  have HX7 : Hid (w.heap.size < w'.heap.size) := Lib.hid HK.out.lt
  replace HK := Lib.hid (HK.out.keep hb); clear k0 k1 k2 k3 kf0 kf1 kf2 kf3; replace HS := Lib.hid (SbsAt.kept HS.out hb); replace HG := Lib.hid (GnsAt.kept HG.out hb); replace HR := Lib.hid (RowX.kept HR.out hb); replace HB := Lib.hid (bch' HB.out hb); clear hb; obtain ⟨k0, k1, k2, k3, kf0, kf1, kf2, kf3⟩ := HK.out.c4
  clear HCL
  obtain ⟨hi, -⟩ := HIN.out.yes rfl
  have hi0 : (0 : Int) ≤ (i : Int) := by omega
  have hi1 : (i : Int) < (l.length : Int) := by omega
  have h16 := HFEW.out
  obtain ⟨g, rfl, hg⟩ := own_some HO.out (fun h => by subst h; simp at hi)
  have hg2 : w.heap.size ≤ g := by have := HW.out; omega
  have hgk : g ≠ w.heap.size := by have := HX7.out; omega
  have hgk2 : w.heap.size ≠ g := fun h => hgk h.symm
  go_upto_region 10 with (first | ((with_reducible refine ((HPL.out _ _ _ (HO.out.row encT_len)).mono ?_)); rintro e w4 ⟨rfl, hb⟩; replace HO := Lib.hid (HO.out.keep hb); have HH4 : Hid (w3.heap.size ≤ w4.heap.size) := Lib.hid hb.size; replace HK := Lib.hid (HK.out.keep hb); clear k0 k1 k2 k3 kf0 kf1 kf2 kf3; replace HS := Lib.hid (SbsAt.kept HS.out hb); replace HG := Lib.hid (GnsAt.kept HG.out hb); replace HR := Lib.hid (RowX.kept HR.out hb); replace HB := Lib.hid (bch' HB.out hb); clear hb; obtain ⟨k0, k1, k2, k3, kf0, kf1, kf2, kf3⟩ := HK.out.c4))
  obtain ⟨y, hy⟩ : ∃ y, y = l[i]'hi := ⟨_, rfl⟩
  have hca := HO.out.cellsAt encT_len (show l[i]? = some y by rw [hy]; exact List.getElem?_eq_getElem hi)
  have z0 : w4.cell? ⟨g, i * 4, none⟩ = some (.int .i64 (y.1.nu)) := hca 0 _ rfl
  have z1 : w4.cell? ⟨g, i * 4 + 1, none⟩ = some (.int .i64 (y.1.pr)) := hca 1 _ rfl
  have z2 : w4.cell? ⟨g, i * 4 + 2, none⟩ = some (.bool (y.1.inh)) := hca 2 _ rfl
  have z3 : w4.cell? ⟨g, i * 4 + 3, none⟩ = some (.slice y.2.1 y.2.2.1 y.2.2.2) := hca 3 _ rfl
  have zf0 : w4.frozen? ⟨g, i * 4, none⟩ = false := HO.out.frozenAt (fun h => by subst h; simp at hi) _
  have zf1 : w4.frozen? ⟨g, i * 4 + 1, none⟩ = false := HO.out.frozenAt (fun h => by subst h; simp at hi) _
  have zf2 : w4.frozen? ⟨g, i * 4 + 2, none⟩ = false := HO.out.frozenAt (fun h => by subst h; simp at hi) _
  have zf3 : w4.frozen? ⟨g, i * 4 + 3, none⟩ = false := HO.out.frozenAt (fun h => by subst h; simp at hi) _
  clear hca hy
  go_wp2_with fail
  go_ret2
  refine ⟨some ⟨g, 0, none⟩, c1, by first | (rw [insL_len_hit hi]; done) | (rw [insL_len_hit hi]; rfl), ?_, ?_⟩
  · rw [insL_set hi]
    exact (OwnR.setk encT_len HO.out hi x0).lower HW.out
  · exact (((HB.out.setCell hg2 _).setCell hg2 _).setCell hg2 _).setCell hg2 _

set_option maxRecDepth 100000 in
set_option maxHeartbeats 8000000 in
theorem own_tput_new (w : World) (l : List SbT) (x0 : SbT) (pp : Option Addr) (cc : Nat) (hs : SbsAt w (.slice pp l.length cc) (l.map (·.1))) (hg : GnsAt w (.slice x0.2.1 x0.2.2.1 x0.2.2.2) x0.1.gs) (hR : RowX encT 4 w pp l) (hz : tabE (l.map (·.1)) = 0) (hx : (subE x0.1.nu x0.1.pr x0.1.inh x0.1.gs) = 0) (i : Nat) (hb9 : Belongs (fun k => (sbv (l.map (·.1)) k).nu) l.length x0.1.nu i false) (hM : ¬ l.length = 16) :
    Calls Tryz.prog 65 #[.slice pp l.length cc, .agg #[.int .i64 (x0.1.nu), .int .i64 (x0.1.pr), .bool (x0.1.inh), .slice x0.2.1 x0.2.2.1 x0.2.2.2]] w fun e w' => ∃ pp cc, e = .returned (.tuple #[.slice pp (insL l i false x0).length cc, .int .i64 0]) ∧ OwnR encT 4 w.heap.size 58 w' pp cc (insL l i false x0) ∧ Below w.heap.size w w' := by
  have hT := tabOk hz
  have hX := subOk hx
  have h16 : l.length ≤ 16 := by have := hT.few; rwa [List.length_map] at this
  have ht := fun W (h : SbsAt W (.slice pp l.length cc) (l.map (·.1))) => own_stable (l.map (·.1)) (.slice pp l.length cc) W h
  have hc := fun W (h : GnsAt W (.slice x0.2.1 x0.2.2.1 x0.2.2.2) x0.1.gs) => own_scheck x0.1.nu x0.1.pr x0.1.inh x0.1.gs (.slice x0.2.1 x0.2.2.1 x0.2.2.2) W h
  rw [hz] at ht
  change ∀ W, _ → Calls _ _ _ W (fun e w' => e = .returned (.int .i64 0) ∧ _) at ht
  have hpl : ∀ (W : World) (p : Option Addr) (c : Nat), RowX encT 4 W p l → Calls Tryz.prog 128 #[.slice p l.length c, .int .i64 x0.1.nu] W fun e w' => e = .returned (.tuple #[.int .i64 (i : Int), .bool false]) ∧ Below W.heap.size W w' := fun W p c hr => by
    have h := own_splace x0.1.nu (l.map (·.1)) W l p c rfl hr hT (by have := hX.nu0; omega) (by have := hX.nu1; omega)
    rw [List.length_map] at h
    refine h.mono fun e w' ⟨i2, hit2, he, hb, h1, h2, h3, h4⟩ => ?_
    have hb8 := h4 ⟨hX.nu0, hX.nu1⟩
    rw [List.length_map] at hb8
    obtain ⟨rfl, rfl⟩ := hb8.uniq hb9
    exact ⟨he, hb⟩
  have hcl := fun W (h : RowX encT 4 W pp l) => own_tclone W l pp cc h (by omega)
  have HR := Lib.hid (RowX.kept hR ((Below.refl w.heap.size w).alloc (Nat.le_refl _) (.cells #[.int .i64 (x0.1.nu), .int .i64 (x0.1.pr), .bool (x0.1.inh), .slice x0.2.1 x0.2.2.1 x0.2.2.2] 58)))
  have hal := (Below.refl w.heap.size w).alloc (Nat.le_refl _) (.cells #[.int .i64 (x0.1.nu), .int .i64 (x0.1.pr), .bool (x0.1.inh), .slice x0.2.1 x0.2.2.1 x0.2.2.2] 58)
  have HS := Lib.hid (SbsAt.kept hs hal)
  have HG := Lib.hid (GnsAt.kept hg hal)
  have HB := Lib.hid hal; clear hal
  have HK := Lib.hid (Blk.new w 58 #[.int .i64 (x0.1.nu), .int .i64 (x0.1.pr), .bool (x0.1.inh), .slice x0.2.1 x0.2.2.1 x0.2.2.2])
  obtain ⟨k0, k1, k2, k3, kf0, kf1, kf2, kf3⟩ := HK.out.c4
  have HT0 := Lib.hid hT
  have hx9 := hx
  rw [hx] at hc
  have HIN := Lib.hid hb9
  have HFEW := Lib.hid h16
  have HM := Lib.hid hM; clear hM
  clear hT hX hz hx hx9 h16 hs hg hR hb9
  have HT := Lib.hid ht; clear ht
  have HC := Lib.hid hc; clear hc
  have HPL := Lib.hid hpl; clear hpl
  have HCL := Lib.hid hcl; clear hcl
  go_enter Tryz.func65, Tryz.ntmps65
  go_wp2_with (first | (with_reducible refine ((HT.out _ HS.out).mono ?_); rintro e w' ⟨rfl, hb⟩; replace HK := Lib.hid (HK.out.keep hb); clear k0 k1 k2 k3 kf0 kf1 kf2 kf3; replace HS := Lib.hid (SbsAt.kept HS.out hb); replace HG := Lib.hid (GnsAt.kept HG.out hb); replace HR := Lib.hid (RowX.kept HR.out hb); replace HB := Lib.hid (bch' HB.out hb); clear hb; obtain ⟨k0, k1, k2, k3, kf0, kf1, kf2, kf3⟩ := HK.out.c4) | (with_reducible refine ((HC.out _ HG.out).mono ?_); rintro e w' ⟨rfl, hb⟩; replace HK := Lib.hid (HK.out.keep hb); clear k0 k1 k2 k3 kf0 kf1 kf2 kf3; replace HS := Lib.hid (SbsAt.kept HS.out hb); replace HG := Lib.hid (GnsAt.kept HG.out hb); replace HR := Lib.hid (RowX.kept HR.out hb); replace HB := Lib.hid (bch' HB.out hb); clear hb; obtain ⟨k0, k1, k2, k3, kf0, kf1, kf2, kf3⟩ := HK.out.c4))
  refine ((HCL.out _ HR.out).mono ?_)
  rintro e w3 ⟨p1, c1, rfl, ho, hb⟩
  have HO := Lib.hid ho; clear ho
  have HW : Hid (w.heap.size ≤ w'.heap.size) := Lib.hid HB.out.size
  have HH : Hid (w'.heap.size ≤ w3.heap.size) := Lib.hid hb.size
  have HX7 : Hid (w.heap.size < w'.heap.size) := Lib.hid HK.out.lt
  replace HK := Lib.hid (HK.out.keep hb); clear k0 k1 k2 k3 kf0 kf1 kf2 kf3; replace HS := Lib.hid (SbsAt.kept HS.out hb); replace HG := Lib.hid (GnsAt.kept HG.out hb); replace HR := Lib.hid (RowX.kept HR.out hb); replace HB := Lib.hid (bch' HB.out hb); clear hb; obtain ⟨k0, k1, k2, k3, kf0, kf1, kf2, kf3⟩ := HK.out.c4
  clear HCL
  have hq : ((l.length : Int) == 16) = false := by rw [beq_eq_false_iff_ne]; have := HM.out; omega
  go_wp2_with (first | ((with_reducible refine ((HPL.out _ _ _ (HO.out.row encT_len)).mono ?_)); rintro e w4 ⟨rfl, hb⟩; replace HO := Lib.hid (HO.out.keep hb); have HH4 : Hid (w3.heap.size ≤ w4.heap.size) := Lib.hid hb.size; replace HK := Lib.hid (HK.out.keep hb); clear k0 k1 k2 k3 kf0 kf1 kf2 kf3; replace HS := Lib.hid (SbsAt.kept HS.out hb); replace HG := Lib.hid (GnsAt.kept HG.out hb); replace HR := Lib.hid (RowX.kept HR.out hb); replace HB := Lib.hid (bch' HB.out hb); clear hb; obtain ⟨k0, k1, k2, k3, kf0, kf1, kf2, kf3⟩ := HK.out.c4))
  have hal := (Below.refl w4.heap.size w4).alloc (Nat.le_refl _) (.cells #[.int .i64 (x0.1.nu), .int .i64 (x0.1.pr), .bool (x0.1.inh), .slice x0.2.1 x0.2.2.1 x0.2.2.2] 58)
  refine ((own_tinsert l _ x0 p1 c1 w'.heap.size w4.heap.size i (HO.out.keep hal) (Blk.new w4 58 _) (fun a ha => by have := (HO.out.lt a ha).2; omega) HIN.out.le (by have := HFEW.out; omega) (by rw [World.size_alloc]; have := HH.out; have := HH4.out; omega)).mono ?_)
  rintro e w5 ⟨p2, c2, rfl, ho, hb⟩
  have HO2 := Lib.hid ho; clear ho
  have HB3 := Lib.hid ((HB.out.trans (hal.mono (by have := HW.out; have := HH.out; have := HH4.out; omega))).trans (hb.mono HW.out))
  clear hal hb
  go_wp2_with fail
  go_ret2
  have hil := HIN.out.le
  refine ⟨p2, c2, by first | (rw [insL_len_miss hil]; done) | (rw [insL_len_miss hil]; rfl), ?_, HB3.out⟩
  exact HO2.out.lower HW.out

set_option maxRecDepth 100000 in
set_option maxHeartbeats 8000000 in
theorem own_tput_many (w : World) (l : List SbT) (x0 : SbT) (pp : Option Addr) (cc : Nat) (hs : SbsAt w (.slice pp l.length cc) (l.map (·.1))) (hg : GnsAt w (.slice x0.2.1 x0.2.2.1 x0.2.2.2) x0.1.gs) (hR : RowX encT 4 w pp l) (hz : tabE (l.map (·.1)) = 0) (hx : (subE x0.1.nu x0.1.pr x0.1.inh x0.1.gs) = 0) (i : Nat) (hb9 : Belongs (fun k => (sbv (l.map (·.1)) k).nu) l.length x0.1.nu i false) (hM : l.length = 16) :
    Calls Tryz.prog 65 #[.slice pp l.length cc, .agg #[.int .i64 (x0.1.nu), .int .i64 (x0.1.pr), .bool (x0.1.inh), .slice x0.2.1 x0.2.2.1 x0.2.2.2]] w fun e w' => e = .returned (.tuple #[.slice none 0 0, .int .i64 (5)]) ∧ Below w.heap.size w w' := by
  have hT := tabOk hz
  have hX := subOk hx
  have h16 : l.length ≤ 16 := by have := hT.few; rwa [List.length_map] at this
  have ht := fun W (h : SbsAt W (.slice pp l.length cc) (l.map (·.1))) => own_stable (l.map (·.1)) (.slice pp l.length cc) W h
  have hc := fun W (h : GnsAt W (.slice x0.2.1 x0.2.2.1 x0.2.2.2) x0.1.gs) => own_scheck x0.1.nu x0.1.pr x0.1.inh x0.1.gs (.slice x0.2.1 x0.2.2.1 x0.2.2.2) W h
  rw [hz] at ht
  change ∀ W, _ → Calls _ _ _ W (fun e w' => e = .returned (.int .i64 0) ∧ _) at ht
  have hpl : ∀ (W : World) (p : Option Addr) (c : Nat), RowX encT 4 W p l → Calls Tryz.prog 128 #[.slice p l.length c, .int .i64 x0.1.nu] W fun e w' => e = .returned (.tuple #[.int .i64 (i : Int), .bool false]) ∧ Below W.heap.size W w' := fun W p c hr => by
    have h := own_splace x0.1.nu (l.map (·.1)) W l p c rfl hr hT (by have := hX.nu0; omega) (by have := hX.nu1; omega)
    rw [List.length_map] at h
    refine h.mono fun e w' ⟨i2, hit2, he, hb, h1, h2, h3, h4⟩ => ?_
    have hb8 := h4 ⟨hX.nu0, hX.nu1⟩
    rw [List.length_map] at hb8
    obtain ⟨rfl, rfl⟩ := hb8.uniq hb9
    exact ⟨he, hb⟩
  have hcl := fun W (h : RowX encT 4 W pp l) => own_tclone W l pp cc h (by omega)
  have HR := Lib.hid (RowX.kept hR ((Below.refl w.heap.size w).alloc (Nat.le_refl _) (.cells #[.int .i64 (x0.1.nu), .int .i64 (x0.1.pr), .bool (x0.1.inh), .slice x0.2.1 x0.2.2.1 x0.2.2.2] 58)))
  have hal := (Below.refl w.heap.size w).alloc (Nat.le_refl _) (.cells #[.int .i64 (x0.1.nu), .int .i64 (x0.1.pr), .bool (x0.1.inh), .slice x0.2.1 x0.2.2.1 x0.2.2.2] 58)
  have HS := Lib.hid (SbsAt.kept hs hal)
  have HG := Lib.hid (GnsAt.kept hg hal)
  have HB := Lib.hid hal; clear hal
  have HK := Lib.hid (Blk.new w 58 #[.int .i64 (x0.1.nu), .int .i64 (x0.1.pr), .bool (x0.1.inh), .slice x0.2.1 x0.2.2.1 x0.2.2.2])
  obtain ⟨k0, k1, k2, k3, kf0, kf1, kf2, kf3⟩ := HK.out.c4
  have HT0 := Lib.hid hT
  have hx9 := hx
  rw [hx] at hc
  have HIN := Lib.hid hb9
  have HFEW := Lib.hid h16
  have HM := Lib.hid hM; clear hM
  clear hT hX hz hx hx9 h16 hs hg hR hb9
  have HT := Lib.hid ht; clear ht
  have HC := Lib.hid hc; clear hc
  have HPL := Lib.hid hpl; clear hpl
  have HCL := Lib.hid hcl; clear hcl
  go_enter Tryz.func65, Tryz.ntmps65
  go_wp2_with (first | (with_reducible refine ((HT.out _ HS.out).mono ?_); rintro e w' ⟨rfl, hb⟩; replace HK := Lib.hid (HK.out.keep hb); clear k0 k1 k2 k3 kf0 kf1 kf2 kf3; replace HS := Lib.hid (SbsAt.kept HS.out hb); replace HG := Lib.hid (GnsAt.kept HG.out hb); replace HR := Lib.hid (RowX.kept HR.out hb); replace HB := Lib.hid (bch' HB.out hb); clear hb; obtain ⟨k0, k1, k2, k3, kf0, kf1, kf2, kf3⟩ := HK.out.c4) | (with_reducible refine ((HC.out _ HG.out).mono ?_); rintro e w' ⟨rfl, hb⟩; replace HK := Lib.hid (HK.out.keep hb); clear k0 k1 k2 k3 kf0 kf1 kf2 kf3; replace HS := Lib.hid (SbsAt.kept HS.out hb); replace HG := Lib.hid (GnsAt.kept HG.out hb); replace HR := Lib.hid (RowX.kept HR.out hb); replace HB := Lib.hid (bch' HB.out hb); clear hb; obtain ⟨k0, k1, k2, k3, kf0, kf1, kf2, kf3⟩ := HK.out.c4))
  refine ((HCL.out _ HR.out).mono ?_)
  rintro e w3 ⟨p1, c1, rfl, ho, hb⟩
  have HO := Lib.hid ho; clear ho
  have HW : Hid (w.heap.size ≤ w'.heap.size) := Lib.hid HB.out.size
  have HH : Hid (w'.heap.size ≤ w3.heap.size) := Lib.hid hb.size
  have HX7 : Hid (w.heap.size < w'.heap.size) := Lib.hid HK.out.lt
  replace HK := Lib.hid (HK.out.keep hb); clear k0 k1 k2 k3 kf0 kf1 kf2 kf3; replace HS := Lib.hid (SbsAt.kept HS.out hb); replace HG := Lib.hid (GnsAt.kept HG.out hb); replace HR := Lib.hid (RowX.kept HR.out hb); replace HB := Lib.hid (bch' HB.out hb); clear hb; obtain ⟨k0, k1, k2, k3, kf0, kf1, kf2, kf3⟩ := HK.out.c4
  clear HCL
  have hq : ((l.length : Int) == 16) = true := by rw [beq_iff_eq]; have := HM.out; omega
  go_wp2_with (first | ((with_reducible refine ((HPL.out _ _ _ (HO.out.row encT_len)).mono ?_)); rintro e w4 ⟨rfl, hb⟩; replace HO := Lib.hid (HO.out.keep hb); have HH4 : Hid (w3.heap.size ≤ w4.heap.size) := Lib.hid hb.size; replace HK := Lib.hid (HK.out.keep hb); clear k0 k1 k2 k3 kf0 kf1 kf2 kf3; replace HS := Lib.hid (SbsAt.kept HS.out hb); replace HG := Lib.hid (GnsAt.kept HG.out hb); replace HR := Lib.hid (RowX.kept HR.out hb); replace HB := Lib.hid (bch' HB.out hb); clear hb; obtain ⟨k0, k1, k2, k3, kf0, kf1, kf2, kf3⟩ := HK.out.c4))
  go_ret2
  exact ⟨rfl, HB.out⟩

set_option maxRecDepth 100000 in
set_option maxHeartbeats 8000000 in
theorem r26_put_tab (w : World) (l : List SbT) (x0 : SbT) (pp : Option Addr) (cc : Nat) (hs : SbsAt w (.slice pp l.length cc) (l.map (·.1))) (hg : GnsAt w (.slice x0.2.1 x0.2.2.1 x0.2.2.2) x0.1.gs) (hz : ¬ tabE (l.map (·.1)) = 0) :
    Calls Tryz.prog 66 #[.slice pp l.length cc, .agg #[.int .i64 (x0.1.nu), .int .i64 (x0.1.pr), .bool (x0.1.inh), .slice x0.2.1 x0.2.2.1 x0.2.2.2]] w fun e w' => e = .returned (.tuple #[.slice none 0 0, .int .i64 (tabE (l.map (·.1)))]) ∧ Below w.heap.size w w' := by
  have ht := fun W (h : SbsAt W (.slice pp l.length cc) (l.map (·.1))) => r26_table (l.map (·.1)) (.slice pp l.length cc) W h
  have hal := (Below.refl w.heap.size w).alloc (Nat.le_refl _) (.cells #[.int .i64 (x0.1.nu), .int .i64 (x0.1.pr), .bool (x0.1.inh), .slice x0.2.1 x0.2.2.1 x0.2.2.2] 58)
  have HS := Lib.hid (SbsAt.kept hs hal)
  have HG := Lib.hid (GnsAt.kept hg hal)
  have HB := Lib.hid hal; clear hal
  have HK := Lib.hid (Blk.new w 58 #[.int .i64 (x0.1.nu), .int .i64 (x0.1.pr), .bool (x0.1.inh), .slice x0.2.1 x0.2.2.1 x0.2.2.2])
  obtain ⟨k0, k1, k2, k3, kf0, kf1, kf2, kf3⟩ := HK.out.c4
  have hne : ((tabE (l.map (·.1)) : Int) != 0) = true := by simpa using hz
  generalize tabE (l.map (·.1)) = m at *
  clear hz hs hg
  have HT := Lib.hid ht; clear ht
  go_enter Tryz.func66, Tryz.ntmps66
  go_wp2_with (first | (with_reducible refine ((HT.out _ HS.out).mono ?_); rintro e w' ⟨rfl, hb⟩; replace HK := Lib.hid (HK.out.keep hb); clear k0 k1 k2 k3 kf0 kf1 kf2 kf3; replace HS := Lib.hid (SbsAt.kept HS.out hb); replace HG := Lib.hid (GnsAt.kept HG.out hb); replace HB := Lib.hid (bch' HB.out hb); clear hb; obtain ⟨k0, k1, k2, k3, kf0, kf1, kf2, kf3⟩ := HK.out.c4))
  go_ret2
  exact ⟨rfl, HB.out⟩

set_option maxRecDepth 100000 in
set_option maxHeartbeats 8000000 in
theorem r26_put_sub (w : World) (l : List SbT) (x0 : SbT) (pp : Option Addr) (cc : Nat) (hs : SbsAt w (.slice pp l.length cc) (l.map (·.1))) (hg : GnsAt w (.slice x0.2.1 x0.2.2.1 x0.2.2.2) x0.1.gs) (hz : tabE (l.map (·.1)) = 0) (hx : ¬ (subE x0.1.nu x0.1.pr x0.1.inh x0.1.gs) = 0) :
    Calls Tryz.prog 66 #[.slice pp l.length cc, .agg #[.int .i64 (x0.1.nu), .int .i64 (x0.1.pr), .bool (x0.1.inh), .slice x0.2.1 x0.2.2.1 x0.2.2.2]] w fun e w' => e = .returned (.tuple #[.slice none 0 0, .int .i64 ((subE x0.1.nu x0.1.pr x0.1.inh x0.1.gs))]) ∧ Below w.heap.size w w' := by
  have ht := fun W (h : SbsAt W (.slice pp l.length cc) (l.map (·.1))) => r26_table (l.map (·.1)) (.slice pp l.length cc) W h
  have hc := fun W (h : GnsAt W (.slice x0.2.1 x0.2.2.1 x0.2.2.2) x0.1.gs) => r26_check x0.1.nu x0.1.pr x0.1.inh x0.1.gs (.slice x0.2.1 x0.2.2.1 x0.2.2.2) W h
  rw [hz] at ht
  have hal := (Below.refl w.heap.size w).alloc (Nat.le_refl _) (.cells #[.int .i64 (x0.1.nu), .int .i64 (x0.1.pr), .bool (x0.1.inh), .slice x0.2.1 x0.2.2.1 x0.2.2.2] 58)
  have HS := Lib.hid (SbsAt.kept hs hal)
  have HG := Lib.hid (GnsAt.kept hg hal)
  have HB := Lib.hid hal; clear hal
  have HK := Lib.hid (Blk.new w 58 #[.int .i64 (x0.1.nu), .int .i64 (x0.1.pr), .bool (x0.1.inh), .slice x0.2.1 x0.2.2.1 x0.2.2.2])
  obtain ⟨k0, k1, k2, k3, kf0, kf1, kf2, kf3⟩ := HK.out.c4
  have hne : (((subE x0.1.nu x0.1.pr x0.1.inh x0.1.gs) : Int) != 0) = true := by simpa using hx
  generalize (subE x0.1.nu x0.1.pr x0.1.inh x0.1.gs) = m at *
  clear hz hx hs hg
  have HT := Lib.hid ht; clear ht
  have HC := Lib.hid hc; clear hc
  go_enter Tryz.func66, Tryz.ntmps66
  go_wp2_with (first | (with_reducible refine ((HT.out _ HS.out).mono ?_); rintro e w' ⟨rfl, hb⟩; replace HK := Lib.hid (HK.out.keep hb); clear k0 k1 k2 k3 kf0 kf1 kf2 kf3; replace HS := Lib.hid (SbsAt.kept HS.out hb); replace HG := Lib.hid (GnsAt.kept HG.out hb); replace HB := Lib.hid (bch' HB.out hb); clear hb; obtain ⟨k0, k1, k2, k3, kf0, kf1, kf2, kf3⟩ := HK.out.c4) | (with_reducible refine ((HC.out _ HG.out).mono ?_); rintro e w' ⟨rfl, hb⟩; replace HK := Lib.hid (HK.out.keep hb); clear k0 k1 k2 k3 kf0 kf1 kf2 kf3; replace HS := Lib.hid (SbsAt.kept HS.out hb); replace HG := Lib.hid (GnsAt.kept HG.out hb); replace HB := Lib.hid (bch' HB.out hb); clear hb; obtain ⟨k0, k1, k2, k3, kf0, kf1, kf2, kf3⟩ := HK.out.c4))
  go_ret2
  exact ⟨rfl, HB.out⟩

set_option maxRecDepth 100000 in
set_option maxHeartbeats 8000000 in
theorem r26_put_hit (w : World) (l : List SbT) (x0 : SbT) (pp : Option Addr) (cc : Nat) (hs : SbsAt w (.slice pp l.length cc) (l.map (·.1))) (hg : GnsAt w (.slice x0.2.1 x0.2.2.1 x0.2.2.2) x0.1.gs) (hR : RowX encT 4 w pp l) (hz : tabE (l.map (·.1)) = 0) (hx : (subE x0.1.nu x0.1.pr x0.1.inh x0.1.gs) = 0) (i : Nat) (hb9 : Belongs (fun k => (sbv (l.map (·.1)) k).nu) l.length x0.1.nu i true) :
    Calls Tryz.prog 66 #[.slice pp l.length cc, .agg #[.int .i64 (x0.1.nu), .int .i64 (x0.1.pr), .bool (x0.1.inh), .slice x0.2.1 x0.2.2.1 x0.2.2.2]] w fun e w' => ∃ pp cc, e = .returned (.tuple #[.slice pp (insL l i true x0).length cc, .int .i64 0]) ∧ OwnR encT 4 w.heap.size 58 w' pp cc (insL l i true x0) ∧ Below w.heap.size w w' := by
  have hT := tabOk hz
  have hX := subOk hx
  have h16 : l.length ≤ 16 := by have := hT.few; rwa [List.length_map] at this
  have ht := fun W (h : SbsAt W (.slice pp l.length cc) (l.map (·.1))) => r26_table (l.map (·.1)) (.slice pp l.length cc) W h
  have hc := fun W (h : GnsAt W (.slice x0.2.1 x0.2.2.1 x0.2.2.2) x0.1.gs) => r26_check x0.1.nu x0.1.pr x0.1.inh x0.1.gs (.slice x0.2.1 x0.2.2.1 x0.2.2.2) W h
  rw [hz] at ht
  change ∀ W, _ → Calls _ _ _ W (fun e w' => e = .returned (.int .i64 0) ∧ _) at ht
  have hwi := fun W (h : RowX encT 4 W pp l) => r26_with_hit W l x0 pp cc _ i h h16 (fun k hk => by rw [← map3_at rfl hk]) hb9
  have hil := hb9.le
  have HIN := Lib.hid hb9
  have HR := Lib.hid (RowX.kept hR ((Below.refl w.heap.size w).alloc (Nat.le_refl _) (.cells #[.int .i64 (x0.1.nu), .int .i64 (x0.1.pr), .bool (x0.1.inh), .slice x0.2.1 x0.2.2.1 x0.2.2.2] 58)))
  have hal := (Below.refl w.heap.size w).alloc (Nat.le_refl _) (.cells #[.int .i64 (x0.1.nu), .int .i64 (x0.1.pr), .bool (x0.1.inh), .slice x0.2.1 x0.2.2.1 x0.2.2.2] 58)
  have HS := Lib.hid (SbsAt.kept hs hal)
  have HG := Lib.hid (GnsAt.kept hg hal)
  have HB := Lib.hid hal; clear hal
  have HK := Lib.hid (Blk.new w 58 #[.int .i64 (x0.1.nu), .int .i64 (x0.1.pr), .bool (x0.1.inh), .slice x0.2.1 x0.2.2.1 x0.2.2.2])
  obtain ⟨k0, k1, k2, k3, kf0, kf1, kf2, kf3⟩ := HK.out.c4
  rw [hx] at hc
  have HFEW := Lib.hid h16
  have hq : ¬ (16 : Int) < (((insL l i true x0).length : Nat) : Int) := by rw [insL_len_hit (hb9.yes rfl).1]; omega
  have HW : Hid (w.heap.size ≤ (w.alloc (.cells #[.int .i64 (x0.1.nu), .int .i64 (x0.1.pr), .bool (x0.1.inh), .slice x0.2.1 x0.2.2.1 x0.2.2.2] 58)).heap.size) := Lib.hid HB.out.size
  clear hT hX hz hx h16 hs hg hR hb9 hil
  have HT := Lib.hid ht; clear ht
  have HC := Lib.hid hc; clear hc
  have HWI := Lib.hid hwi; clear hwi
  go_enter Tryz.func66, Tryz.ntmps66
  go_wp2_with (first | (with_reducible refine ((HT.out _ HS.out).mono ?_); rintro e w' ⟨rfl, hb⟩; replace HK := Lib.hid (HK.out.keep hb); clear k0 k1 k2 k3 kf0 kf1 kf2 kf3; replace HS := Lib.hid (SbsAt.kept HS.out hb); replace HG := Lib.hid (GnsAt.kept HG.out hb); replace HR := Lib.hid (RowX.kept HR.out hb); replace HB := Lib.hid (bch' HB.out hb); clear hb; obtain ⟨k0, k1, k2, k3, kf0, kf1, kf2, kf3⟩ := HK.out.c4) | (with_reducible refine ((HC.out _ HG.out).mono ?_); rintro e w' ⟨rfl, hb⟩; replace HK := Lib.hid (HK.out.keep hb); clear k0 k1 k2 k3 kf0 kf1 kf2 kf3; replace HS := Lib.hid (SbsAt.kept HS.out hb); replace HG := Lib.hid (GnsAt.kept HG.out hb); replace HR := Lib.hid (RowX.kept HR.out hb); replace HB := Lib.hid (bch' HB.out hb); clear hb; obtain ⟨k0, k1, k2, k3, kf0, kf1, kf2, kf3⟩ := HK.out.c4))
  have HW2 : Hid (w.heap.size ≤ w'.heap.size) := Lib.hid HB.out.size
  go_wp2_with (first | ((with_reducible refine ((HWI.out _ HR.out).mono ?_)); rintro e w3 ⟨p1, c1, rfl, ho, hb⟩; have HO := Lib.hid ho; clear ho; replace HK := Lib.hid (HK.out.keep hb); clear k0 k1 k2 k3 kf0 kf1 kf2 kf3; replace HS := Lib.hid (SbsAt.kept HS.out hb); replace HG := Lib.hid (GnsAt.kept HG.out hb); replace HR := Lib.hid (RowX.kept HR.out hb); replace HB := Lib.hid (bch' HB.out hb); clear hb; obtain ⟨k0, k1, k2, k3, kf0, kf1, kf2, kf3⟩ := HK.out.c4))
  go_ret2
  exact ⟨p1, c1, rfl, HO.out.lower HW2.out, HB.out⟩

set_option maxRecDepth 100000 in
set_option maxHeartbeats 8000000 in
theorem r26_put_new (w : World) (l : List SbT) (x0 : SbT) (pp : Option Addr) (cc : Nat) (hs : SbsAt w (.slice pp l.length cc) (l.map (·.1))) (hg : GnsAt w (.slice x0.2.1 x0.2.2.1 x0.2.2.2) x0.1.gs) (hR : RowX encT 4 w pp l) (hz : tabE (l.map (·.1)) = 0) (hx : (subE x0.1.nu x0.1.pr x0.1.inh x0.1.gs) = 0) (i : Nat) (hb9 : Belongs (fun k => (sbv (l.map (·.1)) k).nu) l.length x0.1.nu i false) (hM : ¬ l.length = 16) :
    Calls Tryz.prog 66 #[.slice pp l.length cc, .agg #[.int .i64 (x0.1.nu), .int .i64 (x0.1.pr), .bool (x0.1.inh), .slice x0.2.1 x0.2.2.1 x0.2.2.2]] w fun e w' => ∃ pp cc, e = .returned (.tuple #[.slice pp (insL l i false x0).length cc, .int .i64 0]) ∧ OwnR encT 4 w.heap.size 58 w' pp cc (insL l i false x0) ∧ Below w.heap.size w w' := by
  have hT := tabOk hz
  have hX := subOk hx
  have h16 : l.length ≤ 16 := by have := hT.few; rwa [List.length_map] at this
  have ht := fun W (h : SbsAt W (.slice pp l.length cc) (l.map (·.1))) => r26_table (l.map (·.1)) (.slice pp l.length cc) W h
  have hc := fun W (h : GnsAt W (.slice x0.2.1 x0.2.2.1 x0.2.2.2) x0.1.gs) => r26_check x0.1.nu x0.1.pr x0.1.inh x0.1.gs (.slice x0.2.1 x0.2.2.1 x0.2.2.2) W h
  rw [hz] at ht
  change ∀ W, _ → Calls _ _ _ W (fun e w' => e = .returned (.int .i64 0) ∧ _) at ht
  have hwi := fun W (h : RowX encT 4 W pp l) => r26_with_new W l x0 pp cc _ i h h16 (fun k hk => by rw [← map3_at rfl hk]) hb9
  have hil := hb9.le
  have HIN := Lib.hid hb9
  have HR := Lib.hid (RowX.kept hR ((Below.refl w.heap.size w).alloc (Nat.le_refl _) (.cells #[.int .i64 (x0.1.nu), .int .i64 (x0.1.pr), .bool (x0.1.inh), .slice x0.2.1 x0.2.2.1 x0.2.2.2] 58)))
  have hal := (Below.refl w.heap.size w).alloc (Nat.le_refl _) (.cells #[.int .i64 (x0.1.nu), .int .i64 (x0.1.pr), .bool (x0.1.inh), .slice x0.2.1 x0.2.2.1 x0.2.2.2] 58)
  have HS := Lib.hid (SbsAt.kept hs hal)
  have HG := Lib.hid (GnsAt.kept hg hal)
  have HB := Lib.hid hal; clear hal
  have HK := Lib.hid (Blk.new w 58 #[.int .i64 (x0.1.nu), .int .i64 (x0.1.pr), .bool (x0.1.inh), .slice x0.2.1 x0.2.2.1 x0.2.2.2])
  obtain ⟨k0, k1, k2, k3, kf0, kf1, kf2, kf3⟩ := HK.out.c4
  rw [hx] at hc
  have HFEW := Lib.hid h16
  have hq : ¬ (16 : Int) < (((insL l i false x0).length : Nat) : Int) := by rw [insL_len_miss hil]; omega
  have HW : Hid (w.heap.size ≤ (w.alloc (.cells #[.int .i64 (x0.1.nu), .int .i64 (x0.1.pr), .bool (x0.1.inh), .slice x0.2.1 x0.2.2.1 x0.2.2.2] 58)).heap.size) := Lib.hid HB.out.size
  clear hT hX hz hx h16 hs hg hR hb9 hil hM
  have HT := Lib.hid ht; clear ht
  have HC := Lib.hid hc; clear hc
  have HWI := Lib.hid hwi; clear hwi
  go_enter Tryz.func66, Tryz.ntmps66
  go_wp2_with (first | (with_reducible refine ((HT.out _ HS.out).mono ?_); rintro e w' ⟨rfl, hb⟩; replace HK := Lib.hid (HK.out.keep hb); clear k0 k1 k2 k3 kf0 kf1 kf2 kf3; replace HS := Lib.hid (SbsAt.kept HS.out hb); replace HG := Lib.hid (GnsAt.kept HG.out hb); replace HR := Lib.hid (RowX.kept HR.out hb); replace HB := Lib.hid (bch' HB.out hb); clear hb; obtain ⟨k0, k1, k2, k3, kf0, kf1, kf2, kf3⟩ := HK.out.c4) | (with_reducible refine ((HC.out _ HG.out).mono ?_); rintro e w' ⟨rfl, hb⟩; replace HK := Lib.hid (HK.out.keep hb); clear k0 k1 k2 k3 kf0 kf1 kf2 kf3; replace HS := Lib.hid (SbsAt.kept HS.out hb); replace HG := Lib.hid (GnsAt.kept HG.out hb); replace HR := Lib.hid (RowX.kept HR.out hb); replace HB := Lib.hid (bch' HB.out hb); clear hb; obtain ⟨k0, k1, k2, k3, kf0, kf1, kf2, kf3⟩ := HK.out.c4))
  have HW2 : Hid (w.heap.size ≤ w'.heap.size) := Lib.hid HB.out.size
  go_wp2_with (first | ((with_reducible refine ((HWI.out _ HR.out).mono ?_)); rintro e w3 ⟨p1, c1, rfl, ho, hb⟩; have HO := Lib.hid ho; clear ho; replace HK := Lib.hid (HK.out.keep hb); clear k0 k1 k2 k3 kf0 kf1 kf2 kf3; replace HS := Lib.hid (SbsAt.kept HS.out hb); replace HG := Lib.hid (GnsAt.kept HG.out hb); replace HR := Lib.hid (RowX.kept HR.out hb); replace HB := Lib.hid (bch' HB.out hb); clear hb; obtain ⟨k0, k1, k2, k3, kf0, kf1, kf2, kf3⟩ := HK.out.c4))
  go_ret2
  exact ⟨p1, c1, rfl, HO.out.lower HW2.out, HB.out⟩

set_option maxRecDepth 100000 in
set_option maxHeartbeats 8000000 in
theorem r26_put_many (w : World) (l : List SbT) (x0 : SbT) (pp : Option Addr) (cc : Nat) (hs : SbsAt w (.slice pp l.length cc) (l.map (·.1))) (hg : GnsAt w (.slice x0.2.1 x0.2.2.1 x0.2.2.2) x0.1.gs) (hR : RowX encT 4 w pp l) (hz : tabE (l.map (·.1)) = 0) (hx : (subE x0.1.nu x0.1.pr x0.1.inh x0.1.gs) = 0) (i : Nat) (hb9 : Belongs (fun k => (sbv (l.map (·.1)) k).nu) l.length x0.1.nu i false) (hM : l.length = 16) :
    Calls Tryz.prog 66 #[.slice pp l.length cc, .agg #[.int .i64 (x0.1.nu), .int .i64 (x0.1.pr), .bool (x0.1.inh), .slice x0.2.1 x0.2.2.1 x0.2.2.2]] w fun e w' => e = .returned (.tuple #[.slice none 0 0, .int .i64 (5)]) ∧ Below w.heap.size w w' := by
  have hT := tabOk hz
  have hX := subOk hx
  have h16 : l.length ≤ 16 := by have := hT.few; rwa [List.length_map] at this
  have ht := fun W (h : SbsAt W (.slice pp l.length cc) (l.map (·.1))) => r26_table (l.map (·.1)) (.slice pp l.length cc) W h
  have hc := fun W (h : GnsAt W (.slice x0.2.1 x0.2.2.1 x0.2.2.2) x0.1.gs) => r26_check x0.1.nu x0.1.pr x0.1.inh x0.1.gs (.slice x0.2.1 x0.2.2.1 x0.2.2.2) W h
  rw [hz] at ht
  change ∀ W, _ → Calls _ _ _ W (fun e w' => e = .returned (.int .i64 0) ∧ _) at ht
  have hwi := fun W (h : RowX encT 4 W pp l) => r26_with_new W l x0 pp cc _ i h h16 (fun k hk => by rw [← map3_at rfl hk]) hb9
  have hil := hb9.le
  have HIN := Lib.hid hb9
  have HR := Lib.hid (RowX.kept hR ((Below.refl w.heap.size w).alloc (Nat.le_refl _) (.cells #[.int .i64 (x0.1.nu), .int .i64 (x0.1.pr), .bool (x0.1.inh), .slice x0.2.1 x0.2.2.1 x0.2.2.2] 58)))
  have hal := (Below.refl w.heap.size w).alloc (Nat.le_refl _) (.cells #[.int .i64 (x0.1.nu), .int .i64 (x0.1.pr), .bool (x0.1.inh), .slice x0.2.1 x0.2.2.1 x0.2.2.2] 58)
  have HS := Lib.hid (SbsAt.kept hs hal)
  have HG := Lib.hid (GnsAt.kept hg hal)
  have HB := Lib.hid hal; clear hal
  have HK := Lib.hid (Blk.new w 58 #[.int .i64 (x0.1.nu), .int .i64 (x0.1.pr), .bool (x0.1.inh), .slice x0.2.1 x0.2.2.1 x0.2.2.2])
  obtain ⟨k0, k1, k2, k3, kf0, kf1, kf2, kf3⟩ := HK.out.c4
  rw [hx] at hc
  have HFEW := Lib.hid h16
  have hq : (16 : Int) < (((insL l i false x0).length : Nat) : Int) := by rw [insL_len_miss hil]; omega
  have HW : Hid (w.heap.size ≤ (w.alloc (.cells #[.int .i64 (x0.1.nu), .int .i64 (x0.1.pr), .bool (x0.1.inh), .slice x0.2.1 x0.2.2.1 x0.2.2.2] 58)).heap.size) := Lib.hid HB.out.size
  clear hT hX hz hx h16 hs hg hR hb9 hil hM
  have HT := Lib.hid ht; clear ht
  have HC := Lib.hid hc; clear hc
  have HWI := Lib.hid hwi; clear hwi
  go_enter Tryz.func66, Tryz.ntmps66
  go_wp2_with (first | (with_reducible refine ((HT.out _ HS.out).mono ?_); rintro e w' ⟨rfl, hb⟩; replace HK := Lib.hid (HK.out.keep hb); clear k0 k1 k2 k3 kf0 kf1 kf2 kf3; replace HS := Lib.hid (SbsAt.kept HS.out hb); replace HG := Lib.hid (GnsAt.kept HG.out hb); replace HR := Lib.hid (RowX.kept HR.out hb); replace HB := Lib.hid (bch' HB.out hb); clear hb; obtain ⟨k0, k1, k2, k3, kf0, kf1, kf2, kf3⟩ := HK.out.c4) | (with_reducible refine ((HC.out _ HG.out).mono ?_); rintro e w' ⟨rfl, hb⟩; replace HK := Lib.hid (HK.out.keep hb); clear k0 k1 k2 k3 kf0 kf1 kf2 kf3; replace HS := Lib.hid (SbsAt.kept HS.out hb); replace HG := Lib.hid (GnsAt.kept HG.out hb); replace HR := Lib.hid (RowX.kept HR.out hb); replace HB := Lib.hid (bch' HB.out hb); clear hb; obtain ⟨k0, k1, k2, k3, kf0, kf1, kf2, kf3⟩ := HK.out.c4))
  have HW2 : Hid (w.heap.size ≤ w'.heap.size) := Lib.hid HB.out.size
  go_wp2_with (first | ((with_reducible refine ((HWI.out _ HR.out).mono ?_)); rintro e w3 ⟨p1, c1, rfl, ho, hb⟩; have HO := Lib.hid ho; clear ho; replace HK := Lib.hid (HK.out.keep hb); clear k0 k1 k2 k3 kf0 kf1 kf2 kf3; replace HS := Lib.hid (SbsAt.kept HS.out hb); replace HG := Lib.hid (GnsAt.kept HG.out hb); replace HR := Lib.hid (RowX.kept HR.out hb); replace HB := Lib.hid (bch' HB.out hb); clear hb; obtain ⟨k0, k1, k2, k3, kf0, kf1, kf2, kf3⟩ := HK.out.c4))
  go_ret2
  exact ⟨rfl, HB.out⟩
end Go.Proofs.YtkjelfmgnkkijaaGreatDoor

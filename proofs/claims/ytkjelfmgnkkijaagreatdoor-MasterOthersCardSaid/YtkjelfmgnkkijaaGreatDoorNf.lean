/-
  A fader that stands; Few at submasters and faders.
-/
import Derived.Test.YtkjelfmgnkkijaaGreatDoorSp
import Derived.Test.YtkjelfmgnkkijaaGreatDoorQq
import Derived.Laws.StructEq
set_option linter.unusedVariables false
set_option linter.unusedSimpArgs false
namespace Lum
open Go Go.RowKit Go.Shelf
open Go.Lib (decDigits itoa)
/-- Rational bounds. -/
theorem mul_01 {a b : Rat} (a0 : 0 ≤ a) (a1 : a ≤ 1) (b0 : 0 ≤ b) (b1 : b ≤ 1) : 0 ≤ a * b ∧ a * b ≤ 1 := by
  refine ⟨Rat.mul_nonneg a0 b0, ?_⟩
  have h := Rat.mul_nonneg (show 0 ≤ 1 - a by grind) b0
  grind
theorem mul_le_of {a b : Rat} (a0 : 0 ≤ a) (b1 : b ≤ 1) : a * b ≤ a := by
  have h := Rat.mul_nonneg a0 (show 0 ≤ 1 - b by grind)
  grind
theorem mul_le_r {a b c : Rat} (h : a ≤ b) (c0 : 0 ≤ c) : a * c ≤ b * c := by
  have h := Rat.mul_nonneg (show 0 ≤ b - a by grind) c0
  grind
theorem part_01 {a b : Int} (h0 : 0 ≤ a) (h1 : a ≤ b) (h2 : 0 < b) : 0 ≤ Rat.divInt a b ∧ Rat.divInt a b ≤ 1 := by
  have hb : (0 : Rat) < ((b : Int) : Rat) := by rw [show (0 : Rat) = ((0 : Int) : Rat) from rfl]; exact Rat.intCast_lt_intCast.2 h2
  have ha : (0 : Rat) ≤ ((a : Int) : Rat) := by rw [show (0 : Rat) = ((0 : Int) : Rat) from rfl]; exact Rat.intCast_le_intCast.2 h0
  have hc : ((a : Int) : Rat) ≤ ((b : Int) : Rat) := Rat.intCast_le_intCast.2 h1
  rw [Rat.divInt_eq_div]
  refine ⟨Rat.not_lt.1 fun g => ?_, Rat.not_lt.1 fun g => ?_⟩
  · rw [Rat.div_lt_iff hb] at g; grind
  · rw [Rat.lt_div_iff hb] at g; grind
theorem glV_range {q : Rat} {tz st ti : Int} (t : Int) (q0 : 0 ≤ q) (q1 : q ≤ ((65535 : Int) : Rat)) (h0 : 0 ≤ tz ∧ tz ≤ 65535) (t0 : 0 ≤ ti) : 0 ≤ glV q tz st ti t ∧ glV q tz st ti t ≤ ((65535 : Int) : Rat) := by
  have o0 : (0 : Rat) ≤ ((tz : Int) : Rat) := by rw [show (0 : Rat) = ((0 : Int) : Rat) from rfl]; exact Rat.intCast_le_intCast.2 h0.1
  have o1 : ((tz : Int) : Rat) ≤ ((65535 : Int) : Rat) := Rat.intCast_le_intCast.2 h0.2
  unfold glV
  split
  · exact ⟨q0, q1⟩
  split
  · exact ⟨o0, o1⟩
  · rename_i g1 g2
    obtain ⟨r0, r1⟩ := part_01 (a := t - st) (b := ti) (by omega) (by omega) (by omega)
    generalize Rat.divInt (t - st) ti = r at *
    generalize ((tz : Int) : Rat) = z at *
    generalize ((65535 : Int) : Rat) = m at *
    have e0 := Rat.mul_nonneg q0 (show 0 ≤ 1 - r by grind)
    have e1 := Rat.mul_nonneg o0 r0
    have e2 := Rat.mul_nonneg (show 0 ≤ m - q by grind) (show 0 ≤ 1 - r by grind)
    have e3 := Rat.mul_nonneg (show 0 ≤ m - z by grind) r0
    exact ⟨by grind, by grind⟩
theorem over_01 {x : Rat} (h0 : 0 ≤ x) (h1 : x ≤ ((65535 : Int) : Rat)) : 0 ≤ x / ((65535 : Int) : Rat) ∧ x / ((65535 : Int) : Rat) ≤ 1 := by
  have hm : (0 : Rat) < ((65535 : Int) : Rat) := by decide +kernel
  generalize ((65535 : Int) : Rat) = m at *
  refine ⟨Rat.not_lt.1 fun g => ?_, Rat.not_lt.1 fun g => ?_⟩
  · rw [Rat.div_lt_iff hm] at g; grind
  · rw [Rat.lt_div_iff hm] at g; grind
theorem losQ_01 {g : Int} {q : Rat} (h0 : 0 ≤ g) (h1 : g ≤ 65535) (q0 : 0 ≤ q) (q1 : q ≤ ((65535 : Int) : Rat)) : 0 ≤ losQ g q ∧ losQ g q ≤ 1 := by
  obtain ⟨r0, r1⟩ := part_01 (a := g) (b := 65535) h0 h1 (by decide)
  unfold losQ
  generalize hr : Rat.divInt g 65535 = r at *
  have e0 := Rat.mul_nonneg (show 0 ≤ ((65535 : Int) : Rat) - q by grind) r0
  have e1 := mul_le_of (show 0 ≤ ((65535 : Int) : Rat) - q by grind) r1
  obtain ⟨o0, o1⟩ := over_01 e0 (Rat.le_trans e1 (by grind))
  generalize ((((65535 : Int) : Rat) - q) * r) / ((65535 : Int) : Rat) = y at *
  exact ⟨by grind, by grind⟩
theorem fadL_range {f : Fdr} (t : Int) (h : fgE f = 0) : 0 ≤ fadL f t ∧ fadL f t ≤ ((65535 : Int) : Rat) := by
  unfold fgE at h
  obtain ⟨q, -, e2, hq, h2, -, h4⟩ := glq h
  unfold fadL
  rw [e2]
  exact glV_range t hq.1 hq.2 h2 h4.1
theorem sclQ_01 {s : Sb} {l : List Fdr} (ch t : Int) (hs : SubOk s) (hl : FacOk l) : 0 ≤ sclQ s l ch t ∧ sclQ s l ch t ≤ 1 := by
  unfold sclQ
  have one : (0 : Rat) ≤ 1 ∧ (1 : Rat) ≤ 1 := by decide +kernel
  split
  · rename_i g hg
    split
    · obtain ⟨a, b⟩ := gnG_range hs hg
      obtain ⟨c, d⟩ := fadL_range t (fadG_fg (nu := s.nu) (inh := s.inh) hl)
      exact losQ_01 a b c d
    · exact one
  · exact one
end Lum
namespace Lum
open Go Go.RowKit Go.Shelf
open Go.Lib (decDigits itoa)
def fdN (n v : Int) : Fdr := ⟨n, [48], v, 0, 0, 0⟩
theorem fds_nil (W : World) : FdsAt W (.slice none 0 0) [] := ⟨none, 0, rfl, Nat.le_refl _, fun h => absurd rfl h⟩
theorem fds_one {W : World} {g : Nat} {t : TypeId} {n v : Int} (h : Blk W g t #[.int .i64 n, .string ⟨#[48]⟩, .int .i64 v, .int .i64 0, .int .i64 0, .int .i64 0]) : FdsAt W (.slice (some ⟨g, 0, none⟩) 1 1) [fdN n v] := by
  refine ⟨_, _, rfl, Nat.le_refl _, fun _ => ⟨g, 0, rfl, h.lt, fun i hi => ?_⟩⟩
  match i, hi with
  | 0, _ => exact ⟨h.c6.1, h.c6.2.1, h.c6.2.2.1, h.c6.2.2.2.1, h.c6.2.2.2.2.1, h.c6.2.2.2.2.2.1⟩
theorem fdN_len {l : List Fdr} (h : l = [] ∨ (∃ n v, l = [fdN n v]) ∨ ∃ n v m u, l = [fdN n v, fdN m u]) : ∀ i, i < l.length → (fdv l i).fr.length ≤ 60 := by
  intro i hi
  rcases h with rfl | ⟨n, v, rfl⟩ | ⟨n, v, m, u, rfl⟩
  · simp at hi
  · match i, hi with
    | 0, _ => show List.length [48] ≤ 60; decide
  · match i, hi with
    | 0, _ => show List.length [48] ≤ 60; decide
    | 1, _ => show List.length [48] ≤ 60; decide
/-- A call that says whether something is few; if it says so, p. -/
def FewB (p : Prop) (w : World) (e : Ending) (w' : World) : Prop := ∃ b, e = .returned (.bool b) ∧ (b = true → p) ∧ Below w.heap.size w w'
end Lum
namespace Go.Proofs.YtkjelfmgnkkijaaGreatDoor
open Go.RowKit Go.Shelf Lum
open Go.Lib (decDigits itoa)
attribute [local go_sem] bs_get bs_extract_end bs_extract_from bs_extract bs_append

set_option maxRecDepth 100000 in
set_option maxHeartbeats 4000000 in
theorem r26_few (su : List Sb) (sv : Value) (w : World) (hv : SbsAt w sv su) :
    Calls Tryz.prog 29 #[sv] w fun e w' => FewB True w e w' := by
  obtain ⟨p, c, rfl, -, hv1⟩ := hv
  have hv2 := Lib.hid hv1; clear hv1
  have HB := Lib.hid (Below.refl w.heap.size w)
  go_enter Tryz.func29, Tryz.ntmps29
  go_wp2_with fail
  go_loopw [3] (fun i wr => ∃ k r : Nat, i = .int .i64 (k : Int) ∧ Hid (k + r = su.length) ∧ Hid (Below w.heap.size w wr)) (fun i _ => su.length - (intOf i).toNat)
  case atStart => exact ⟨0, su.length, rfl, Lib.hid (by omega), HB⟩
  case round =>
    obtain ⟨k, r, rfl, hkr, HB2⟩ := hrel
    clear HB
    have HB := HB2; clear HB2
    cases r with
    | zero =>
      have hlt : ¬ (k : Int) < (su.length : Int) := by have := hkr.out; omega
      go_wp2
      go_ret
      exact ⟨_, rfl, fun _ => trivial, HB.out⟩
    | succ r =>
      have hkl : k < su.length := by have := hkr.out; omega
      have hlt : (k : Int) < (su.length : Int) := by omega
      by_cases h40 : (k : Int) < 40
      · obtain ⟨b, o, rfl, hb, hC⟩ := hv2.out (fun h => by subst h; simp at hkl)
        obtain ⟨x1, x2, x3, gv, x4, hgn⟩ := hC.below HB.out hb k hkl
        obtain ⟨pg, cg, rfl, -⟩ := hgn
        clear hC
        have hbr : b < wr.heap.size := by have := HB.out.size; omega
        have hun : IntKind.i64.wrap ((k : Int) + 1) = (k : Int) + 1 := IntWalk.i64_in _ (by omega)
        by_cases h30 : (30 : Int) < ((sbv su k).gs.length : Int)
        · by_cases h128 : ((sbv su k).gs.length : Int) ≤ 128
          · go_wp2
            go_ret
            exact ⟨_, rfl, fun _ => trivial, HB.out⟩
          · go_wp2
            go_roundw
            case rel => exact ⟨k + 1, r, by first | rfl | simp, Lib.hid (by have := hkr.out; omega), HB⟩
            case measure => first | (simp [intOf]; done) | (simp [intOf]; omega)
        · go_wp2
          go_roundw
          case rel => exact ⟨k + 1, r, by first | rfl | simp, Lib.hid (by have := hkr.out; omega), HB⟩
          case measure => first | (simp [intOf]; done) | (simp [intOf]; omega)
      · go_wp2
        go_ret
        exact ⟨_, rfl, fun _ => trivial, HB.out⟩

set_option maxRecDepth 100000 in
set_option maxHeartbeats 4000000 in
theorem r26_fewfaders (fd : List Fdr) (fv : Value) (w : World) (hv : FdsAt w fv fd) :
    Calls Tryz.prog 30 #[fv] w fun e w' => FewB (∀ i, i < fd.length → (fdv fd i).fr.length ≤ 60) w e w' := by
  obtain ⟨p, c, rfl, -, hv1⟩ := hv
  have hv2 := Lib.hid hv1; clear hv1
  have HB := Lib.hid (Below.refl w.heap.size w)
  go_enter Tryz.func30, Tryz.ntmps30
  go_wp2_with fail
  go_loopw [3] (fun i wr => ∃ k r : Nat, i = .int .i64 (k : Int) ∧ Hid (k + r = fd.length) ∧ Hid (Below w.heap.size w wr) ∧ Hid (∀ j, j < k → (fdv fd j).fr.length ≤ 60)) (fun i _ => fd.length - (intOf i).toNat)
  case atStart => exact ⟨0, fd.length, rfl, Lib.hid (by omega), HB, Lib.hid (fun j h => absurd h (Nat.not_lt_zero j))⟩
  case round =>
    obtain ⟨k, r, rfl, hkr, HB2, HN⟩ := hrel
    clear HB
    have HB := HB2; clear HB2
    cases r with
    | zero =>
      have hlt : ¬ (k : Int) < (fd.length : Int) := by have := hkr.out; omega
      go_wp2
      go_ret
      exact ⟨_, rfl, fun _ i hi => HN.out i (by have := hkr.out; omega), HB.out⟩
    | succ r =>
      have hkl : k < fd.length := by have := hkr.out; omega
      have hlt : (k : Int) < (fd.length : Int) := by omega
      by_cases h40 : (k : Int) < 40
      · obtain ⟨b, o, rfl, hb, hC⟩ := hv2.out (fun h => by subst h; simp at hkl)
        replace hC : FdsC w b o fd := hC
        obtain ⟨x1, x2, x3, x4, x5, x6⟩ := hC.below HB.out hb k hkl
        clear hC
        have hbr : b < wr.heap.size := by have := HB.out.size; omega
        have hun : IntKind.i64.wrap ((k : Int) + 1) = (k : Int) + 1 := IntWalk.i64_in _ (by omega)
        by_cases h60 : (60 : Int) < ((fdv fd k).fr.length : Int)
        · go_wp2
          go_ret
          exact ⟨_, rfl, fun h => absurd h (by decide), HB.out⟩
        · have HN2 : Hid (∀ j, j < k + 1 → (fdv fd j).fr.length ≤ 60) := fun j hj => by
            by_cases g : j = k
            · subst g; omega
            · exact HN.out j (by omega)
          go_wp2
          go_roundw
          case rel => exact ⟨k + 1, r, by first | rfl | simp, Lib.hid (by have := hkr.out; omega), HB, HN2⟩
          case measure => first | (simp [intOf]; done) | (simp [intOf]; omega)
      · have h41 : ¬ (fd.length : Int) ≤ 40 := by omega
        go_wp2
        go_ret
        exact ⟨_, rfl, fun h => absurd h (by decide), HB.out⟩
theorem neq_fader0 (W : World) (a b c d e : Int) (x : Txt) : (binOp .neq 108 (.agg #[.int .i64 a, .string ⟨(x).toArray⟩, .int .i64 b, .int .i64 c, .int .i64 d, .int .i64 e]) (.agg #[.int .i64 a, .string ⟨(x).toArray⟩, .int .i64 b, .int .i64 c, .int .i64 d, .int .i64 e])).run Tryz.prog W = .ok (.bool false) W := by
  have h1 : Tryz.prog.underlying 108 = some (.struct (Tryz.prog.fieldsOf 108)) := by kernel_rfl
  have h2 : Tryz.prog.stoodInHeld 108 = false := by kernel_rfl
  rw [run_neq_struct, run_equalIn_agg W 9999 _ _ _ h1 h2]
  have hf := TypeDesc.struct.inj (Option.some.inj (h1.symm.trans Tryz.underlying108))
  rw [hf]
  simp [Op.eqFields, go_sem, Tryz.underlying3, Tryz.underlying24, Tryz.underlying22]

set_option maxRecDepth 100000 in
set_option maxHeartbeats 4000000 in
theorem r26_samefaders (fd : List Fdr) (va vb : Value) (w : World) (ha : FdsAt w va fd) (hb : FdsAt w vb fd) (hn0 : fd.length ≤ 1000000) :
    Calls Tryz.prog 36 #[va, vb] w fun e w' => e = .returned (.bool (true)) ∧ Below w.heap.size w w' := by
  obtain ⟨p1, c1, rfl, -, h1⟩ := ha
  obtain ⟨p2, c2, rfl, -, h2⟩ := hb
  have ha1 := Lib.hid h1; have ha2 := Lib.hid h2; clear h1 h2
  have HB := Lib.hid (Below.refl w.heap.size w)
  go_enter Tryz.func36, Tryz.ntmps36
  go_wp2_with fail
  go_loopw [5] (fun i wr => ∃ k r : Nat, i = .int .i64 (k : Int) ∧ Hid (k + r = fd.length) ∧ Hid (Below w.heap.size w wr)) (fun i _ => fd.length - (intOf i).toNat)
  case atStart => exact ⟨0, fd.length, rfl, Lib.hid (by omega), HB⟩
  case round =>
    obtain ⟨k, r, rfl, hkr, HB2⟩ := hrel
    clear HB
    have HB := HB2; clear HB2
    cases r with
    | zero =>
      have hlt : ¬ (k : Int) < (fd.length : Int) := by have := hkr.out; omega
      go_wp2
      go_ret
      exact ⟨rfl, HB.out⟩
    | succ r =>
      have hkl : k < fd.length := by have := hkr.out; omega
      have hlt : (k : Int) < (fd.length : Int) := by omega
      have hun : IntKind.i64.wrap ((k : Int) + 1) = (k : Int) + 1 := IntWalk.i64_in _ (by omega)
      obtain ⟨b, o, rfl, hb, h1⟩ := ha1.out (fun h => by subst h; simp at hkl)
      obtain ⟨d, u, rfl, hd, h2⟩ := ha2.out (fun h => by subst h; simp at hkl)
      replace h1 : FdsC w b o fd := h1
      replace h2 : FdsC w d u fd := h2
      obtain ⟨a1, a2, a3, a4, a5, a6⟩ := h1.below HB.out hb k hkl
      obtain ⟨b1, b2, b3, b4, b5, b6⟩ := h2.below HB.out hd k hkl
      clear h1 h2
      have hbr1 : b < wr.heap.size := by have := HB.out.size; omega
      have hbr2 : d < wr.heap.size := by have := HB.out.size; omega
      have hn := fun W => neq_fader0 W (fdv fd k).su (fdv fd k).tz (fdv fd k).st (fdv fd k).ti (fdv fd k).stp (fdv fd k).fr
      go_wp2_with fail
      have x1 := fun p : BelowOf _ => BelowOf.cell hbr1 a1 p
      have x2 := fun p : BelowOf _ => BelowOf.cell hbr1 a2 p
      have x3 := fun p : BelowOf _ => BelowOf.cell hbr1 a3 p
      have x4 := fun p : BelowOf _ => BelowOf.cell hbr1 a4 p
      have x5 := fun p : BelowOf _ => BelowOf.cell hbr1 a5 p
      have x6 := fun p : BelowOf _ => BelowOf.cell hbr1 a6 p
      have y1 := fun p : BelowOf _ => BelowOf.cell hbr2 b1 p
      have y2 := fun p : BelowOf _ => BelowOf.cell hbr2 b2 p
      have y3 := fun p : BelowOf _ => BelowOf.cell hbr2 b3 p
      have y4 := fun p : BelowOf _ => BelowOf.cell hbr2 b4 p
      have y5 := fun p : BelowOf _ => BelowOf.cell hbr2 b5 p
      have y6 := fun p : BelowOf _ => BelowOf.cell hbr2 b6 p
      refine wp_region_WQ (by kernel_rfl) (by kernel_rfl) ?_
      repeat (refine WQ.step (fun K hK => ?_); go_simp; first | (refine hK.out _ ?_; clear hK K) | (apply Exists.intro; refine ⟨fun _ => ?_, hK.out _ ?_⟩; (first | rfl); clear hK K))
      refine WQ.nil ?_
      intro _ hw'
      obtain ⟨⟨wq, hbq⟩, hw2⟩ := hw'
      subst hw2
      replace HB := Lib.hid (bch' HB.out hbq)
      clear x1 x2 x3 x4 x5 x6 y1 y2 y3 y4 y5 y6
      go_wp2_with fail
      go_roundw
      case rel => exact ⟨k + 1, r, by first | rfl | simp, Lib.hid (by have := hkr.out; omega), HB⟩
      case measure => first | (simp [intOf]; done) | (simp [intOf]; omega)
end Go.Proofs.YtkjelfmgnkkijaaGreatDoor

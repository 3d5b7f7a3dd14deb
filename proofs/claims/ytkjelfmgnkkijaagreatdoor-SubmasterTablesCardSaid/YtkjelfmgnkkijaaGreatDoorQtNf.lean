/-
  A fader that stands; Few at submasters and faders.
-/
import Derived.Test.YtkjelfmgnkkijaaGreatDoorSp
import Derived.Test.YtkjelfmgnkkijaaGreatDoorQq
import Derived.Laws.StructEq
set_option linter.unusedVariables false
set_option linter.unusedSimpArgs false
namespace Lum
open Go Go.RowKit Go.Shelf
open Go.Lib (decDigits itoa)
end Lum
namespace Lum
open Go Go.RowKit Go.Shelf
open Go.Lib (decDigits itoa)
def fdN (n v : Int) : Fdr := ⟨n, [48], v, 0, 0, 0⟩
theorem fds_nil (W : World) : FdsAt W (.slice none 0 0) [] := ⟨none, 0, rfl, Nat.le_refl _, fun h => absurd rfl h⟩
theorem fds_one {W : World} {g : Nat} {t : TypeId} {n v : Int} (h : Blk W g t #[.int .i64 n, .string ⟨#[48]⟩, .int .i64 v, .int .i64 0, .int .i64 0, .int .i64 0]) : FdsAt W (.slice (some ⟨g, 0, none⟩) 1 1) [fdN n v] := by
  refine ⟨_, _, rfl, Nat.le_refl _, fun _ => ⟨g, 0, rfl, h.lt, fun i hi => ?_⟩⟩
  match i, hi with
  | 0, _ => exact ⟨h.c6.1, h.c6.2.1, h.c6.2.2.1, h.c6.2.2.2.1, h.c6.2.2.2.2.1, h.c6.2.2.2.2.2.1⟩
theorem fdN_len {l : List Fdr} (h : l = [] ∨ (∃ n v, l = [fdN n v]) ∨ ∃ n v m u, l = [fdN n v, fdN m u]) : ∀ i, i < l.length → (fdv l i).fr.length ≤ 60 := by
  intro i hi
  rcases h with rfl | ⟨n, v, rfl⟩ | ⟨n, v, m, u, rfl⟩
  · simp at hi
  · match i, hi with
    | 0, _ => show List.length [48] ≤ 60; decide
  · match i, hi with
    | 0, _ => show List.length [48] ≤ 60; decide
    | 1, _ => show List.length [48] ≤ 60; decide
/-- A call that says whether something is few; if it says so, p. -/
def FewB (p : Prop) (w : World) (e : Ending) (w' : World) : Prop := ∃ b, e = .returned (.bool b) ∧ (b = true → p) ∧ Below w.heap.size w w'
end Lum
namespace Go.Proofs.YtkjelfmgnkkijaaGreatDoor
open Go.RowKit Go.Shelf Lum
open Go.Lib (decDigits itoa)
attribute [local go_sem] bs_get bs_extract_end bs_extract_from bs_extract bs_append

set_option maxRecDepth 100000 in
set_option maxHeartbeats 4000000 in
theorem r26_few (su : List Sb) (sv : Value) (w : World) (hv : SbsAt w sv su) :
    Calls Tryz.prog 29 #[sv] w fun e w' => FewB True w e w' := by
  obtain ⟨p, c, rfl, -, hv1⟩ := hv
  have hv2 := Lib.hid hv1; clear hv1
  have HB := Lib.hid (Below.refl w.heap.size w)
  go_enter Tryz.func29, Tryz.ntmps29
  go_wp2_with fail
  go_loopw [3] (fun i wr => ∃ k r : Nat, i = .int .i64 (k : Int) ∧ Hid (k + r = su.length) ∧ Hid (Below w.heap.size w wr)) (fun i _ => su.length - (intOf i).toNat)
  case atStart => exact ⟨0, su.length, rfl, Lib.hid (by omega), HB⟩
  case round =>
    obtain ⟨k, r, rfl, hkr, HB2⟩ := hrel
    clear HB
    have HB := HB2; clear HB2
    cases r with
    | zero =>
      have hlt : ¬ (k : Int) < (su.length : Int) := by have := hkr.out; omega
      go_wp2
      go_ret
      exact ⟨_, rfl, fun _ => trivial, HB.out⟩
    | succ r =>
      have hkl : k < su.length := by have := hkr.out; omega
      have hlt : (k : Int) < (su.length : Int) := by omega
      by_cases h40 : (k : Int) < 40
      · obtain ⟨b, o, rfl, hb, hC⟩ := hv2.out (fun h => by subst h; simp at hkl)
        obtain ⟨x1, x2, x3, gv, x4, hgn⟩ := hC.below HB.out hb k hkl
        obtain ⟨pg, cg, rfl, -⟩ := hgn
        clear hC
        have hbr : b < wr.heap.size := by have := HB.out.size; omega
        have hun : IntKind.i64.wrap ((k : Int) + 1) = (k : Int) + 1 := IntWalk.i64_in _ (by omega)
        by_cases h30 : (30 : Int) < ((sbv su k).gs.length : Int)
        · by_cases h128 : ((sbv su k).gs.length : Int) ≤ 128
          · go_wp2
            go_ret
            exact ⟨_, rfl, fun _ => trivial, HB.out⟩
          · go_wp2
            go_roundw
            case rel => exact ⟨k + 1, r, by first | rfl | simp, Lib.hid (by have := hkr.out; omega), HB⟩
            case measure => first | (simp [intOf]; done) | (simp [intOf]; omega)
        · go_wp2
          go_roundw
          case rel => exact ⟨k + 1, r, by first | rfl | simp, Lib.hid (by have := hkr.out; omega), HB⟩
          case measure => first | (simp [intOf]; done) | (simp [intOf]; omega)
      · go_wp2
        go_ret
        exact ⟨_, rfl, fun _ => trivial, HB.out⟩

end Go.Proofs.YtkjelfmgnkkijaaGreatDoor

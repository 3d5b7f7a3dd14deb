/-
  Numbers: quotient, the plain laws; a number in a box.
-/
import Derived.Test.YtnjaikomoljmjaaGreatDoorNum4
import Derived.Test.YtnjaikomoljmjaaGreatDoorRef10
set_option linter.unusedVariables false
set_option linter.unusedSimpArgs false
namespace Lum
open Go Go.RowKit Go.Shelf
theorem quot_all (x y : Int) (hy : y ≠ 0) :
    (decide (x < 0) = decide (y < 0) → (x.fdiv y).natAbs = x.natAbs / y.natAbs ∧ ¬ x.fdiv y < 0 ∧ (x.fmod y).natAbs = x.natAbs % y.natAbs ∧ (x.fmod y < 0 ↔ y < 0 ∧ x.natAbs % y.natAbs ≠ 0)) ∧
    (decide (x < 0) ≠ decide (y < 0) → x.natAbs % y.natAbs = 0 → (x.fdiv y).natAbs = x.natAbs / y.natAbs ∧ (x.fdiv y < 0 ↔ x.natAbs / y.natAbs ≠ 0) ∧ (x.fmod y).natAbs = x.natAbs % y.natAbs ∧ ¬ x.fmod y < 0) ∧
    (decide (x < 0) ≠ decide (y < 0) → x.natAbs % y.natAbs ≠ 0 → (x.fdiv y).natAbs = x.natAbs / y.natAbs + 1 ∧ x.fdiv y < 0 ∧ (x.fmod y).natAbs = y.natAbs - x.natAbs % y.natAbs ∧ (x.fmod y < 0 ↔ y < 0)) := by
  have hf := fdiv_abs x y hy
  have hm := Int.fmod_def x y
  have hd := Nat.div_add_mod x.natAbs y.natAbs
  have hl := Nat.mod_lt x.natAbs (show y.natAbs > 0 by omega)
  have hd' : ((y.natAbs : Int)) * ((x.natAbs / y.natAbs : Nat) : Int) + ((x.natAbs % y.natAbs : Nat) : Int) = (x.natAbs : Int) := by exact_mod_cast hd
  clear hd
  generalize x.natAbs / y.natAbs = q at *
  generalize x.natAbs % y.natAbs = r at *
  have hys : y = (y.natAbs : Int) ∧ 0 < y ∨ y = -(y.natAbs : Int) ∧ y < 0 := by omega
  have hxs : x = (x.natAbs : Int) ∧ 0 ≤ x ∨ x = -(x.natAbs : Int) ∧ x < 0 := by omega
  have key : ∀ F : Int, x.fdiv y = F → x.fmod y = x - y * F := fun F h => by rw [hm, h]
  clear hm
  refine ⟨fun hs => ?_, fun hs h0 => ?_, fun hs h0 => ?_⟩
  · rw [if_neg (by simp [hs])] at hf
    have hk := key _ hf
    rw [hf]
    have hs' : x < 0 ↔ y < 0 := by rwa [decide_eq_decide] at hs
    rcases hys with ⟨h1, h2⟩ | ⟨h1, h2⟩
    · have e := congrArg (· * (q : Int)) h1
      omega
    · have e := congrArg (· * (q : Int)) h1
      rw [Int.neg_mul] at e
      omega
  · rw [if_pos (by simpa using hs), if_pos h0] at hf
    have hs' : ¬ (x < 0 ↔ y < 0) := by rwa [ne_eq, decide_eq_decide] at hs
    have hf2 : x.fdiv y = -(q : Int) := by rw [hf]; omega
    have hk := key _ hf2
    rw [hf2]
    rw [Int.mul_neg] at hk
    rcases hys with ⟨h1, h2⟩ | ⟨h1, h2⟩
    · have e := congrArg (· * (q : Int)) h1
      omega
    · have e := congrArg (· * (q : Int)) h1
      rw [Int.neg_mul] at e
      omega
  · rw [if_pos (by simpa using hs), if_neg h0] at hf
    have hs' : ¬ (x < 0 ↔ y < 0) := by rwa [ne_eq, decide_eq_decide] at hs
    have hk := key _ hf
    rw [hf]
    rw [Int.mul_neg, Int.mul_add, Int.mul_one] at hk
    rcases hys with ⟨h1, h2⟩ | ⟨h1, h2⟩
    · have e := congrArg (· * (q : Int)) h1
      omega
    · have e := congrArg (· * (q : Int)) h1
      rw [Int.neg_mul] at e
      omega

/-- A number's two cells. -/
structure NBox (W : World) (B : Nat) (b : Bool) (p : Option Addr) (n c : Nat) : Prop where
  a0 : W.cell? ⟨B, 0, none⟩ = some (.bool b)
  a1 : W.cell? ⟨B, 1, none⟩ = some (.slice p n c)
  f0 : W.frozen? ⟨B, 0, none⟩ = false
  f1 : W.frozen? ⟨B, 1, none⟩ = false
  lt : B < W.heap.size
theorem NBox.below {W W' : World} {B : Nat} {b : Bool} {p : Option Addr} {n c : Nat} (h : NBox W B b p n c) {m : Nat} (hb : Below m W W') (hm : B < m) : NBox W' B b p n c :=
  ⟨(hb.cell (p := ⟨B, 0, none⟩) hm).trans h.a0, (hb.cell (p := ⟨B, 1, none⟩) hm).trans h.a1, (hb.frozen (p := ⟨B, 0, none⟩) hm).trans h.f0, (hb.frozen (p := ⟨B, 1, none⟩) hm).trans h.f1, Nat.lt_of_lt_of_le h.lt hb.size⟩
theorem NBox.keep {W W' : World} {B : Nat} {b : Bool} {p : Option Addr} {n c : Nat} (h : NBox W B b p n c) (hb : Below W.heap.size W W') : NBox W' B b p n c := h.below hb h.lt
theorem NBox.new (W : World) (t : TypeId) (b : Bool) (p : Option Addr) (n c : Nat) : NBox (W.alloc (.cells #[.bool b, .slice p n c] t)) W.heap.size b p n c := by
  constructor <;> simp [go_sem]
theorem NBox.alloc {W : World} {B : Nat} {b : Bool} {p : Option Addr} {n c : Nat} (h : NBox W B b p n c) (o : Obj) : NBox (W.alloc o) B b p n c := h.keep ((Below.refl _ W).alloc (Nat.le_refl _) o)
theorem NBox.other {W : World} {B : Nat} {b : Bool} {p : Option Addr} {n c : Nat} (h : NBox W B b p n c) {a : Addr} (ha : a.block ≠ B) (v : Value) : NBox (W.setCell a v) B b p n c := by
  have hne : ∀ o : Nat, a ≠ ⟨B, o, none⟩ := fun o e => ha (by rw [e])
  exact ⟨(World.cell?_setCell_other (w := W) (h := hne 0) (v := v)).trans h.a0, (World.cell?_setCell_other (w := W) (h := hne 1) (v := v)).trans h.a1, by rw [World.frozen?_setCell]; exact h.f0, by rw [World.frozen?_setCell]; exact h.f1, by simpa [World.setCell] using h.lt⟩
theorem NBox.set {W : World} {B : Nat} {b : Bool} {p : Option Addr} {n c : Nat} (h : NBox W B b p n c) (b' : Bool) (p' : Option Addr) (n' c' : Nat) : NBox ((W.setCell ⟨B, 0, none⟩ (.bool b')).setCell ⟨B, 1, none⟩ (.slice p' n' c')) B b' p' n' c' := by
  obtain ⟨a0, a1, f0, f1, lt⟩ := h
  constructor <;> simp [go_sem, *]
/-- Both results are written. -/
theorem quot_post {w w6 : World} {B2 B3 : Nat} {q r : Int} {pq pr : Option Addr} {nq cq nr cr : Nat} (hB : Below w.heap.size w w6) (h2 : NBox w6 B2 false none 0 0) (h3 : NBox w6 B3 false none 0 0) (hne : B2 ≠ B3) (l2 : w.heap.size ≤ B2) (l3 : w.heap.size ≤ B3)
    (hq : MagAt w6 pq nq cq q.natAbs) (hr : MagAt w6 pr nr cr r.natAbs) (bq br : Bool) (eq : bq = true ↔ q < 0) (er : br = true ↔ r < 0) :
    NumAt ((((w6.setCell ⟨B2, 0, none⟩ (.bool bq)).setCell ⟨B2, 1, none⟩ (.slice pq nq cq)).setCell ⟨B3, 0, none⟩ (.bool br)).setCell ⟨B3, 1, none⟩ (.slice pr nr cr)) bq pq nq cq q ∧
    NumAt ((((w6.setCell ⟨B2, 0, none⟩ (.bool bq)).setCell ⟨B2, 1, none⟩ (.slice pq nq cq)).setCell ⟨B3, 0, none⟩ (.bool br)).setCell ⟨B3, 1, none⟩ (.slice pr nr cr)) br pr nr cr r ∧
    Below w.heap.size w ((((w6.setCell ⟨B2, 0, none⟩ (.bool bq)).setCell ⟨B2, 1, none⟩ (.slice pq nq cq)).setCell ⟨B3, 0, none⟩ (.bool br)).setCell ⟨B3, 1, none⟩ (.slice pr nr cr)) := by
  have h3' := (h3.other (a := ⟨B2, 0, none⟩) hne (.bool bq)).other (a := ⟨B2, 1, none⟩) hne (.slice pq nq cq)
  refine ⟨⟨by rw [Bool.eq_iff_iff, eq]; simp, magSet2 (magSet2 hq h2.a0 h2.a1 _ _) h3'.a0 h3'.a1 _ _⟩, ⟨by rw [Bool.eq_iff_iff, er]; simp, magSet2 (magSet2 hr h2.a0 h2.a1 _ _) h3'.a0 h3'.a1 _ _⟩, ?_⟩
  exact (((hB.setCell (p := ⟨B2, 0, none⟩) l2 _).setCell (p := ⟨B2, 1, none⟩) l2 _).setCell (p := ⟨B3, 0, none⟩) l3 _).setCell (p := ⟨B3, 1, none⟩) l3 _
end Lum

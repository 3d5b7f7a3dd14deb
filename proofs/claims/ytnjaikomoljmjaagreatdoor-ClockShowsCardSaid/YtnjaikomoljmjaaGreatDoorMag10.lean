/-
  Magnitudes: the division.
-/
import Derived.Test.YtnjaikomoljmjaaGreatDoorMag9
set_option linter.unusedVariables false
set_option linter.unusedSimpArgs false
namespace Go.Proofs.YtnjaikomoljmjaaGreatDoor
open Go.RowKit Go.Shelf Lum
theorem mag_divided (p1 p2 : Option Addr) (n1 c1 n2 c2 m d : Nat) (w : World) (h1 : MagAt w p1 n1 c1 m) (h2 : MagAt w p2 n2 c2 d) (hn1 : n1 ≤ 20000) (hn2 : n2 ≤ 20000) (hd : d ≠ 0) :
    Calls Tryz.prog 195 #[.slice p1 n1 c1, .slice p2 n2 c2] w fun e w' => ∃ pq nq cq pr nr cr, e = .returned (.tuple #[.slice pq nq cq, .slice pr nr cr]) ∧ MagAt w' pq nq cq (m / d) ∧ MagAt w' pr nr cr (m % d) ∧ Below w.heap.size w w' := by
  by_cases hs : m < d ∨ n2 = 1
  · exact mag_divided_small p1 p2 n1 c1 n2 c2 m d w h1 h2 hn1 hn2 hd hs
  · have : 0 < n2 := by rw [h2.n]; exact magL_ne d hd
    exact mag_divided_long p1 p2 n1 c1 n2 c2 m d w h1 h2 hn1 hn2 (by omega) (by omega)
end Go.Proofs.YtnjaikomoljmjaaGreatDoor

/-
  Numbers of cues: the reference: Check.
-/
import Derived.Test.YtikogofioggmlaaGreatDoorLc
set_option linter.unusedVariables false
set_option linter.unusedSimpArgs false
namespace Go.Proofs.YtikogofioggmlaaGreatDoor
open Go.RowKit Go.Shelf Lum
open Go.Lib (decDigits itoa)
attribute [local go_sem] bs_get bs_extract_end bs_extract_from bs_extract bs_append

set_option maxRecDepth 100000 in
set_option maxHeartbeats 4000000 in
theorem r5_check (l : Txt) (w : World) (hl : l.length ≤ 1000000) :
    Calls Tryz.prog 29 #[.string ⟨l.toArray⟩] w fun e w' => ∃ n : Int, e = .returned (.int .i64 n) ∧ (n = 0 → NumR l) ∧ Below w.heap.size w w' := by
  have hs := fun W => r5_split l W hl
  have hpl := pre5_len l; have hrl := post5_len l
  have hd1 := fun W => r5_digits (pre5 l) W (by omega)
  have hd2 := fun W => r5_digits (post5 l) W (by omega)
  have HNR : Hid (dig5B (pre5 l) = true → (has5 l = true → dig5B (post5 l) = true) → ¬ (1 < (pre5 l).length ∧ (pre5 l).head? = some 48) → (has5 l = true → (post5 l).getLast? ≠ some 48) → l ≠ [48] → (pre5 l).length ≤ 4 → (post5 l).length ≤ 3 → NumR l) := Lib.hid numR_of
  generalize post5 l = r at *
  generalize pre5 l = p at *
  generalize has5 l = b at *
  have HB := Lib.hid (Below.refl w.heap.size w)
  by_cases g1 : dig5B p = true
  · rw [g1] at hd1
    have HR1 := Lib.hid g1
    have hp0 := (dig5B_yes g1).2
    clear g1
    cases b with
    | false =>
      by_cases c1 : (1 : Int) < (p.length : Int)
      · by_cases c2 : ((p[0]'hp0).toNat : Int) = 48
        · have h48 : (((p[0]'hp0).toNat : Int) == 48) = true := by simpa using c2
          clear c2
          have HS := Lib.hid hs; clear hs
          have HD1 := Lib.hid hd1; clear hd1
          have HD2 := Lib.hid hd2; clear hd2
          go_enter Tryz.func29, Tryz.ntmps29
          go_wp2_with (first | (with_reducible refine ((HS.out _).mono ?_); rintro e w' ⟨rfl, hb⟩; replace HB := Lib.hid (bch' HB.out hb); clear hb) | (with_reducible refine ((HD1.out _).mono ?_); rintro e w' ⟨rfl, rfl⟩) | (with_reducible refine ((HD2.out _).mono ?_); rintro e w' ⟨rfl, rfl⟩))
          go_ret
          exact ⟨3, rfl, fun h => absurd h (by decide), HB.out⟩
        · have h48 : (((p[0]'hp0).toNat : Int) == 48) = false := by simpa using c2
          have HR3 : Hid (¬ (1 < p.length ∧ p.head? = some 48)) := Lib.hid (by rw [head5 hp0]; rintro ⟨-, e⟩; exact c2 (by rw [Option.some.inj e]; rfl))
          clear c2
          by_cases q1 : l = [48]
          · have hq1 : (l == [48]) = true := by simpa using q1
            clear q1
            have HS := Lib.hid hs; clear hs
            have HD1 := Lib.hid hd1; clear hd1
            have HD2 := Lib.hid hd2; clear hd2
            go_enter Tryz.func29, Tryz.ntmps29
            go_wp2_with (first | (with_reducible refine ((HS.out _).mono ?_); rintro e w' ⟨rfl, hb⟩; replace HB := Lib.hid (bch' HB.out hb); clear hb) | (with_reducible refine ((HD1.out _).mono ?_); rintro e w' ⟨rfl, rfl⟩) | (with_reducible refine ((HD2.out _).mono ?_); rintro e w' ⟨rfl, rfl⟩))
            go_ret
            exact ⟨2, rfl, fun h => absurd h (by decide), HB.out⟩
          · have hq1 : (l == [48]) = false := by simpa using q1
            have HR5 : Hid (l ≠ [48]) := Lib.hid q1
            clear q1
            by_cases q2 : (4 : Int) < (p.length : Int)
            · have HS := Lib.hid hs; clear hs
              have HD1 := Lib.hid hd1; clear hd1
              have HD2 := Lib.hid hd2; clear hd2
              go_enter Tryz.func29, Tryz.ntmps29
              go_wp2_with (first | (with_reducible refine ((HS.out _).mono ?_); rintro e w' ⟨rfl, hb⟩; replace HB := Lib.hid (bch' HB.out hb); clear hb) | (with_reducible refine ((HD1.out _).mono ?_); rintro e w' ⟨rfl, rfl⟩) | (with_reducible refine ((HD2.out _).mono ?_); rintro e w' ⟨rfl, rfl⟩))
              go_ret
              exact ⟨2, rfl, fun h => absurd h (by decide), HB.out⟩
            · by_cases q3 : (3 : Int) < (r.length : Int)
              · have HS := Lib.hid hs; clear hs
                have HD1 := Lib.hid hd1; clear hd1
                have HD2 := Lib.hid hd2; clear hd2
                go_enter Tryz.func29, Tryz.ntmps29
                go_wp2_with (first | (with_reducible refine ((HS.out _).mono ?_); rintro e w' ⟨rfl, hb⟩; replace HB := Lib.hid (bch' HB.out hb); clear hb) | (with_reducible refine ((HD1.out _).mono ?_); rintro e w' ⟨rfl, rfl⟩) | (with_reducible refine ((HD2.out _).mono ?_); rintro e w' ⟨rfl, rfl⟩))
                go_ret
                exact ⟨2, rfl, fun h => absurd h (by decide), HB.out⟩
              · have HR6 : Hid (p.length ≤ 4) := Lib.hid (by omega)
                have HR7 : Hid (r.length ≤ 3) := Lib.hid (by omega)
                have HS := Lib.hid hs; clear hs
                have HD1 := Lib.hid hd1; clear hd1
                have HD2 := Lib.hid hd2; clear hd2
                go_enter Tryz.func29, Tryz.ntmps29
                go_wp2_with (first | (with_reducible refine ((HS.out _).mono ?_); rintro e w' ⟨rfl, hb⟩; replace HB := Lib.hid (bch' HB.out hb); clear hb) | (with_reducible refine ((HD1.out _).mono ?_); rintro e w' ⟨rfl, rfl⟩) | (with_reducible refine ((HD2.out _).mono ?_); rintro e w' ⟨rfl, rfl⟩))
                go_ret
                exact ⟨0, rfl, fun _ => HNR.out HR1.out (fun h => by cases h) HR3.out (fun h => by cases h) HR5.out HR6.out HR7.out, HB.out⟩
      · have HR3 : Hid (¬ (1 < p.length ∧ p.head? = some 48)) := Lib.hid (fun h => c1 (by omega))
        by_cases q1 : l = [48]
        · have hq1 : (l == [48]) = true := by simpa using q1
          clear q1
          have HS := Lib.hid hs; clear hs
          have HD1 := Lib.hid hd1; clear hd1
          have HD2 := Lib.hid hd2; clear hd2
          go_enter Tryz.func29, Tryz.ntmps29
          go_wp2_with (first | (with_reducible refine ((HS.out _).mono ?_); rintro e w' ⟨rfl, hb⟩; replace HB := Lib.hid (bch' HB.out hb); clear hb) | (with_reducible refine ((HD1.out _).mono ?_); rintro e w' ⟨rfl, rfl⟩) | (with_reducible refine ((HD2.out _).mono ?_); rintro e w' ⟨rfl, rfl⟩))
          go_ret
          exact ⟨2, rfl, fun h => absurd h (by decide), HB.out⟩
        · have hq1 : (l == [48]) = false := by simpa using q1
          have HR5 : Hid (l ≠ [48]) := Lib.hid q1
          clear q1
          have q2 : ¬ (4 : Int) < (p.length : Int) := by omega
          by_cases q3 : (3 : Int) < (r.length : Int)
          · have HS := Lib.hid hs; clear hs
            have HD1 := Lib.hid hd1; clear hd1
            have HD2 := Lib.hid hd2; clear hd2
            go_enter Tryz.func29, Tryz.ntmps29
            go_wp2_with (first | (with_reducible refine ((HS.out _).mono ?_); rintro e w' ⟨rfl, hb⟩; replace HB := Lib.hid (bch' HB.out hb); clear hb) | (with_reducible refine ((HD1.out _).mono ?_); rintro e w' ⟨rfl, rfl⟩) | (with_reducible refine ((HD2.out _).mono ?_); rintro e w' ⟨rfl, rfl⟩))
            go_ret
            exact ⟨2, rfl, fun h => absurd h (by decide), HB.out⟩
          · have HR6 : Hid (p.length ≤ 4) := Lib.hid (by omega)
            have HR7 : Hid (r.length ≤ 3) := Lib.hid (by omega)
            have HS := Lib.hid hs; clear hs
            have HD1 := Lib.hid hd1; clear hd1
            have HD2 := Lib.hid hd2; clear hd2
            go_enter Tryz.func29, Tryz.ntmps29
            go_wp2_with (first | (with_reducible refine ((HS.out _).mono ?_); rintro e w' ⟨rfl, hb⟩; replace HB := Lib.hid (bch' HB.out hb); clear hb) | (with_reducible refine ((HD1.out _).mono ?_); rintro e w' ⟨rfl, rfl⟩) | (with_reducible refine ((HD2.out _).mono ?_); rintro e w' ⟨rfl, rfl⟩))
            go_ret
            exact ⟨0, rfl, fun _ => HNR.out HR1.out (fun h => by cases h) HR3.out (fun h => by cases h) HR5.out HR6.out HR7.out, HB.out⟩
    | true =>
      by_cases g2 : dig5B r = true
      · rw [g2] at hd2
        have HR2 := Lib.hid g2
        have hr0 := (dig5B_yes g2).2
        clear g2
        by_cases c1 : (1 : Int) < (p.length : Int)
        · by_cases c2 : ((p[0]'hp0).toNat : Int) = 48
          · have h48 : (((p[0]'hp0).toNat : Int) == 48) = true := by simpa using c2
            clear c2
            have HS := Lib.hid hs; clear hs
            have HD1 := Lib.hid hd1; clear hd1
            have HD2 := Lib.hid hd2; clear hd2
            go_enter Tryz.func29, Tryz.ntmps29
            go_wp2_with (first | (with_reducible refine ((HS.out _).mono ?_); rintro e w' ⟨rfl, hb⟩; replace HB := Lib.hid (bch' HB.out hb); clear hb) | (with_reducible refine ((HD1.out _).mono ?_); rintro e w' ⟨rfl, rfl⟩) | (with_reducible refine ((HD2.out _).mono ?_); rintro e w' ⟨rfl, rfl⟩))
            go_ret
            exact ⟨3, rfl, fun h => absurd h (by decide), HB.out⟩
          · have h48 : (((p[0]'hp0).toNat : Int) == 48) = false := by simpa using c2
            have HR3 : Hid (¬ (1 < p.length ∧ p.head? = some 48)) := Lib.hid (by rw [head5 hp0]; rintro ⟨-, e⟩; exact c2 (by rw [Option.some.inj e]; rfl))
            clear c2
            obtain ⟨m, hm⟩ : ∃ m, r.length = m + 1 := ⟨r.length - 1, by omega⟩
            have hla := last5 hm
            have hwr : IntKind.i64.wrap ((r.length : Int) - 1) = (m : Int) := by rw [IntWalk.i64_in _ (by omega)]; omega
            have hml : m < r.length := by omega
            by_cases z : ((r[m]'hml).toNat : Int) = 48
            · have hz : (((r[m]'hml).toNat : Int) == 48) = true := by simpa using z
              clear z hla hm
              have HS := Lib.hid hs; clear hs
              have HD1 := Lib.hid hd1; clear hd1
              have HD2 := Lib.hid hd2; clear hd2
              go_enter Tryz.func29, Tryz.ntmps29
              go_wp2_with (first | (with_reducible refine ((HS.out _).mono ?_); rintro e w' ⟨rfl, hb⟩; replace HB := Lib.hid (bch' HB.out hb); clear hb) | (with_reducible refine ((HD1.out _).mono ?_); rintro e w' ⟨rfl, rfl⟩) | (with_reducible refine ((HD2.out _).mono ?_); rintro e w' ⟨rfl, rfl⟩))
              go_ret
              exact ⟨3, rfl, fun h => absurd h (by decide), HB.out⟩
            · have hz : (((r[m]'hml).toNat : Int) == 48) = false := by simpa using z
              have HR4 : Hid (r.getLast? ≠ some 48) := Lib.hid (by rw [hla]; intro e; exact z (by rw [Option.some.inj e]; rfl))
              clear z hla hm
              by_cases q1 : l = [48]
              · have hq1 : (l == [48]) = true := by simpa using q1
                clear q1
                have HS := Lib.hid hs; clear hs
                have HD1 := Lib.hid hd1; clear hd1
                have HD2 := Lib.hid hd2; clear hd2
                go_enter Tryz.func29, Tryz.ntmps29
                go_wp2_with (first | (with_reducible refine ((HS.out _).mono ?_); rintro e w' ⟨rfl, hb⟩; replace HB := Lib.hid (bch' HB.out hb); clear hb) | (with_reducible refine ((HD1.out _).mono ?_); rintro e w' ⟨rfl, rfl⟩) | (with_reducible refine ((HD2.out _).mono ?_); rintro e w' ⟨rfl, rfl⟩))
                go_ret
                exact ⟨2, rfl, fun h => absurd h (by decide), HB.out⟩
              · have hq1 : (l == [48]) = false := by simpa using q1
                have HR5 : Hid (l ≠ [48]) := Lib.hid q1
                clear q1
                by_cases q2 : (4 : Int) < (p.length : Int)
                · have HS := Lib.hid hs; clear hs
                  have HD1 := Lib.hid hd1; clear hd1
                  have HD2 := Lib.hid hd2; clear hd2
                  go_enter Tryz.func29, Tryz.ntmps29
                  go_wp2_with (first | (with_reducible refine ((HS.out _).mono ?_); rintro e w' ⟨rfl, hb⟩; replace HB := Lib.hid (bch' HB.out hb); clear hb) | (with_reducible refine ((HD1.out _).mono ?_); rintro e w' ⟨rfl, rfl⟩) | (with_reducible refine ((HD2.out _).mono ?_); rintro e w' ⟨rfl, rfl⟩))
                  go_ret
                  exact ⟨2, rfl, fun h => absurd h (by decide), HB.out⟩
                · by_cases q3 : (3 : Int) < (r.length : Int)
                  · have HS := Lib.hid hs; clear hs
                    have HD1 := Lib.hid hd1; clear hd1
                    have HD2 := Lib.hid hd2; clear hd2
                    go_enter Tryz.func29, Tryz.ntmps29
                    go_wp2_with (first | (with_reducible refine ((HS.out _).mono ?_); rintro e w' ⟨rfl, hb⟩; replace HB := Lib.hid (bch' HB.out hb); clear hb) | (with_reducible refine ((HD1.out _).mono ?_); rintro e w' ⟨rfl, rfl⟩) | (with_reducible refine ((HD2.out _).mono ?_); rintro e w' ⟨rfl, rfl⟩))
                    go_ret
                    exact ⟨2, rfl, fun h => absurd h (by decide), HB.out⟩
                  · have HR6 : Hid (p.length ≤ 4) := Lib.hid (by omega)
                    have HR7 : Hid (r.length ≤ 3) := Lib.hid (by omega)
                    have HS := Lib.hid hs; clear hs
                    have HD1 := Lib.hid hd1; clear hd1
                    have HD2 := Lib.hid hd2; clear hd2
                    go_enter Tryz.func29, Tryz.ntmps29
                    go_wp2_with (first | (with_reducible refine ((HS.out _).mono ?_); rintro e w' ⟨rfl, hb⟩; replace HB := Lib.hid (bch' HB.out hb); clear hb) | (with_reducible refine ((HD1.out _).mono ?_); rintro e w' ⟨rfl, rfl⟩) | (with_reducible refine ((HD2.out _).mono ?_); rintro e w' ⟨rfl, rfl⟩))
                    go_ret
                    exact ⟨0, rfl, fun _ => HNR.out HR1.out (fun _ => HR2.out) HR3.out (fun _ => HR4.out) HR5.out HR6.out HR7.out, HB.out⟩
        · have HR3 : Hid (¬ (1 < p.length ∧ p.head? = some 48)) := Lib.hid (fun h => c1 (by omega))
          obtain ⟨m, hm⟩ : ∃ m, r.length = m + 1 := ⟨r.length - 1, by omega⟩
          have hla := last5 hm
          have hwr : IntKind.i64.wrap ((r.length : Int) - 1) = (m : Int) := by rw [IntWalk.i64_in _ (by omega)]; omega
          have hml : m < r.length := by omega
          by_cases z : ((r[m]'hml).toNat : Int) = 48
          · have hz : (((r[m]'hml).toNat : Int) == 48) = true := by simpa using z
            clear z hla hm
            have HS := Lib.hid hs; clear hs
            have HD1 := Lib.hid hd1; clear hd1
            have HD2 := Lib.hid hd2; clear hd2
            go_enter Tryz.func29, Tryz.ntmps29
            go_wp2_with (first | (with_reducible refine ((HS.out _).mono ?_); rintro e w' ⟨rfl, hb⟩; replace HB := Lib.hid (bch' HB.out hb); clear hb) | (with_reducible refine ((HD1.out _).mono ?_); rintro e w' ⟨rfl, rfl⟩) | (with_reducible refine ((HD2.out _).mono ?_); rintro e w' ⟨rfl, rfl⟩))
            go_ret
            exact ⟨3, rfl, fun h => absurd h (by decide), HB.out⟩
          · have hz : (((r[m]'hml).toNat : Int) == 48) = false := by simpa using z
            have HR4 : Hid (r.getLast? ≠ some 48) := Lib.hid (by rw [hla]; intro e; exact z (by rw [Option.some.inj e]; rfl))
            clear z hla hm
            by_cases q1 : l = [48]
            · have hq1 : (l == [48]) = true := by simpa using q1
              clear q1
              have HS := Lib.hid hs; clear hs
              have HD1 := Lib.hid hd1; clear hd1
              have HD2 := Lib.hid hd2; clear hd2
              go_enter Tryz.func29, Tryz.ntmps29
              go_wp2_with (first | (with_reducible refine ((HS.out _).mono ?_); rintro e w' ⟨rfl, hb⟩; replace HB := Lib.hid (bch' HB.out hb); clear hb) | (with_reducible refine ((HD1.out _).mono ?_); rintro e w' ⟨rfl, rfl⟩) | (with_reducible refine ((HD2.out _).mono ?_); rintro e w' ⟨rfl, rfl⟩))
              go_ret
              exact ⟨2, rfl, fun h => absurd h (by decide), HB.out⟩
            · have hq1 : (l == [48]) = false := by simpa using q1
              have HR5 : Hid (l ≠ [48]) := Lib.hid q1
              clear q1
              have q2 : ¬ (4 : Int) < (p.length : Int) := by omega
              by_cases q3 : (3 : Int) < (r.length : Int)
              · have HS := Lib.hid hs; clear hs
                have HD1 := Lib.hid hd1; clear hd1
                have HD2 := Lib.hid hd2; clear hd2
                go_enter Tryz.func29, Tryz.ntmps29
                go_wp2_with (first | (with_reducible refine ((HS.out _).mono ?_); rintro e w' ⟨rfl, hb⟩; replace HB := Lib.hid (bch' HB.out hb); clear hb) | (with_reducible refine ((HD1.out _).mono ?_); rintro e w' ⟨rfl, rfl⟩) | (with_reducible refine ((HD2.out _).mono ?_); rintro e w' ⟨rfl, rfl⟩))
                go_ret
                exact ⟨2, rfl, fun h => absurd h (by decide), HB.out⟩
              · have HR6 : Hid (p.length ≤ 4) := Lib.hid (by omega)
                have HR7 : Hid (r.length ≤ 3) := Lib.hid (by omega)
                have HS := Lib.hid hs; clear hs
                have HD1 := Lib.hid hd1; clear hd1
                have HD2 := Lib.hid hd2; clear hd2
                go_enter Tryz.func29, Tryz.ntmps29
                go_wp2_with (first | (with_reducible refine ((HS.out _).mono ?_); rintro e w' ⟨rfl, hb⟩; replace HB := Lib.hid (bch' HB.out hb); clear hb) | (with_reducible refine ((HD1.out _).mono ?_); rintro e w' ⟨rfl, rfl⟩) | (with_reducible refine ((HD2.out _).mono ?_); rintro e w' ⟨rfl, rfl⟩))
                go_ret
                exact ⟨0, rfl, fun _ => HNR.out HR1.out (fun _ => HR2.out) HR3.out (fun _ => HR4.out) HR5.out HR6.out HR7.out, HB.out⟩
      · have g2 : dig5B r = false := by simpa using g2
        rw [g2] at hd2
        clear g2
        have HS := Lib.hid hs; clear hs
        have HD1 := Lib.hid hd1; clear hd1
        have HD2 := Lib.hid hd2; clear hd2
        go_enter Tryz.func29, Tryz.ntmps29
        go_wp2_with (first | (with_reducible refine ((HS.out _).mono ?_); rintro e w' ⟨rfl, hb⟩; replace HB := Lib.hid (bch' HB.out hb); clear hb) | (with_reducible refine ((HD1.out _).mono ?_); rintro e w' ⟨rfl, rfl⟩) | (with_reducible refine ((HD2.out _).mono ?_); rintro e w' ⟨rfl, rfl⟩))
        go_ret
        exact ⟨3, rfl, fun h => absurd h (by decide), HB.out⟩
  · have g1 : dig5B p = false := by simpa using g1
    rw [g1] at hd1
    clear g1
    have HS := Lib.hid hs; clear hs
    have HD1 := Lib.hid hd1; clear hd1
    have HD2 := Lib.hid hd2; clear hd2
    go_enter Tryz.func29, Tryz.ntmps29
    go_wp2_with (first | (with_reducible refine ((HS.out _).mono ?_); rintro e w' ⟨rfl, hb⟩; replace HB := Lib.hid (bch' HB.out hb); clear hb) | (with_reducible refine ((HD1.out _).mono ?_); rintro e w' ⟨rfl, rfl⟩) | (with_reducible refine ((HD2.out _).mono ?_); rintro e w' ⟨rfl, rfl⟩))
    go_ret
    exact ⟨3, rfl, fun h => absurd h (by decide), HB.out⟩
end Go.Proofs.YtikogofioggmlaaGreatDoor

/-
  The reference of layer 1 (integer): Rest, Common.
-/
import Derived.Test.YtnjaikomoljmjaaGreatDoorRef10
set_option linter.unusedVariables false
set_option linter.unusedSimpArgs false
namespace Lum
open Go
/-- The number in a slot that holds digits: a loop's measure. -/
def strNat : Value → Nat | .string s => natOf s.data.toList | _ => 0
theorem strNat_dec (n : Nat) : strNat (.string ⟨(Go.Lib.decDigits n).toArray⟩) = n := by
  show natOf _ = _
  simp [natOf_dec]
end Lum
namespace Go.Proofs.YtnjaikomoljmjaaGreatDoor
open Go.RowKit Lum
open Go.Lib (decDigits itoa)
attribute [local go_sem] bs_get bs_extract_end bs_extract_from bs_extract bs_append

set_option maxHeartbeats 1000000 in
theorem r1_rest (m n : Nat) (w : World) (hm : (decDigits m).length ≤ 19000) (hn : (decDigits n).length ≤ 19000) (hn0 : 0 < n) :
    Calls Tryz.prog 144 #[.string ⟨(decDigits m).toArray⟩, .string ⟨(decDigits n).toArray⟩] w fun e w' => e = .returned (.string ⟨(decDigits (m % n)).toArray⟩) ∧ Below w.heap.size w w' := by
  have e1 : Int.fdiv (m : Int) n = (m / n : Nat) := by rw [Int.fdiv_eq_ediv_of_nonneg _ (by omega)]; simp
  have d1 : ∀ k : Nat, dl (k : Int) = (decDigits k).length := fun k => by unfold dl; simp
  have q1 := dec_len_mono (Nat.div_le_self m n)
  have hle : n * (m / n) ≤ m := Nat.mul_div_le m n
  have q2 := dec_len_mono hle
  have hf := fun W => r1_floor m n W (by rw [d1]; omega) (by rw [d1]; omega) (by omega)
  have hp := fun W => r1_product n (m / n : Nat) W (by rw [d1]; omega) (by rw [d1]; omega)
  have hd := fun W => r1_diff m (n * (m / n) : Nat) W (by rw [d1]; omega) (by rw [d1]; omega)
  have e2 : ((n : Int) * ((m / n : Nat) : Int)) = (n * (m / n) : Nat) := by simp
  have e3 : (m : Int) - ((n * (m / n) : Nat) : Int) = (m % n : Nat) := by have := Nat.div_add_mod m n; omega
  rw [e2] at hp
  simp only [e1, e3, itoa_nat] at hf hp hd
  have HF := Lib.hid hf
  have HP := Lib.hid hp
  have HD := Lib.hid hd
  clear hf hp hd e1 e2 e3 d1 q1 q2 hle
  go_enter Tryz.func144, Tryz.ntmps144
  go_wp2_with fail
  refine (HF.out _).mono ?_; rintro e w1 ⟨rfl, hb1⟩
  go_wp2_with fail
  refine (HP.out _).mono ?_; rintro e w2 ⟨rfl, hb2⟩
  go_wp2_with fail
  refine (HD.out _).mono ?_; rintro e w3 ⟨rfl, hb3⟩
  go_wp2_with fail
  go_ret
  exact ⟨rfl, (hb1.trans (hb2.mono hb1.size)).trans (hb3.mono (Nat.le_trans hb1.size hb2.size))⟩

set_option maxHeartbeats 1000000 in
theorem r1_common (x y : Int) (w : World) (hx : dl x ≤ 19000) (hy : dl y ≤ 19000) :
    Calls Tryz.prog 102 #[.string ⟨(itoa x).toArray⟩, .string ⟨(itoa y).toArray⟩] w fun e w' => e = .returned (.string ⟨(decDigits (Nat.gcd x.natAbs y.natAbs)).toArray⟩) ∧ Below w.heap.size w w' := by
  have hdx : (decDigits x.natAbs).length ≤ 19000 := hx
  have hdy : (decDigits y.natAbs).length ≤ 19000 := hy
  have bx := r1_magnitude_z x
  have b_y := r1_magnitude_z y
  go_enter Tryz.func102, Tryz.ntmps102
  go_wp2_with fail
  refine (bx _).mono ?_; rintro e w' ⟨rfl, rfl⟩
  go_wp2_with fail
  refine (b_y _).mono ?_; rintro e w' ⟨rfl, rfl⟩
  go_wp2_with fail
  go_loopw [0, 1] (fun u v wr => ∃ m n : Nat, u = .string ⟨(decDigits m).toArray⟩ ∧ v = .string ⟨(decDigits n).toArray⟩ ∧ Hid (Nat.gcd m n = Nat.gcd x.natAbs y.natAbs) ∧ (decDigits m).length ≤ 19000 ∧ (decDigits n).length ≤ 19000 ∧ Below w.heap.size w wr) (fun _ v _ => strNat v)
  case atStart => exact ⟨_, _, rfl, rfl, rfl, hdx, hdy, Below.refl _ _⟩
  case round =>
    obtain ⟨m, n, rfl, rfl, HG, hm, hn, hb⟩ := hrel
    by_cases h0 : n = 0
    · subst h0
      have hz : (decDigits 0 == [48]) = true := by rw [dec_zero]; rfl
      have hg : m = Nat.gcd x.natAbs y.natAbs := by have := HG.out; rwa [Nat.gcd_zero_right] at this
      have HM := Lib.hid hg; clear hg
      go_wp2_with fail
      go_ret
      exact ⟨ret_str (congrArg decDigits HM.out), hb⟩
    · have hz : (decDigits n == [48]) = false := by rw [beq_eq_false_iff_ne]; exact mt (dec_eq_zero _).1 h0
      have hr := fun W => r1_rest m n W hm hn (by omega)
      have HR := Lib.hid hr; clear hr
      have hlt := Nat.mod_lt m (show n > 0 by omega)
      go_wp2_with (go_at_call 144; refine (HR.out _).mono ?_; rintro e w1 ⟨rfl, hb1⟩)
      go_roundw
      case rel =>
        exact ⟨n, m % n, rfl, rfl, (show _ = _ by rw [← HG.out, Nat.gcd_comm m n, Nat.gcd_rec n m, Nat.gcd_comm]), hn, Nat.le_trans (dec_len_mono (Nat.le_of_lt hlt)) hn, hb.trans (hb1.mono hb.size)⟩
      case measure => rw [strNat_dec, strNat_dec]; exact hlt
end Go.Proofs.YtnjaikomoljmjaaGreatDoor

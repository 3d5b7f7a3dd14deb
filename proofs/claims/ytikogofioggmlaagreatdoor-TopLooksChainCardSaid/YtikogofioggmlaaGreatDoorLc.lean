/-
  Numbers of cues: the reference (layer 5).
-/
import Derived.Test.YtikogofioggmlaaGreatDoorLb
import Derived.Test.YtikogofioggmlaaGreatDoorMb
import Derived.Test.YtikogofioggmlaaGreatDoorQq
import Derived.Deep.RegionHeld3
import Derived.Deep.Cut
import Derived.BigRegion
set_option linter.unusedVariables false
set_option linter.unusedSimpArgs false
namespace Lum
open Go Go.RowKit Go.Shelf
open Go.Lib (decDigits itoa)
theorem take_dig5 {l : Txt} {k : Nat} (h : k < l.length) (ha : (l.take k).all isDig = true) (hd : isDig (l[k]'h) = true) : (l.take (k + 1)).all isDig = true := by
  rw [List.take_succ_eq_append_getElem h, List.all_append, ha]; simpa using hd
theorem nall_dig5 {l : Txt} {k : Nat} (h : k < l.length) (hd : ¬ isDig (l[k]'h) = true) : l.all isDig = false := by
  rw [List.all_eq_false]; exact ⟨l[k], List.getElem_mem h, hd⟩
def dig5B (l : Txt) : Bool := l.all isDig && decide (0 < l.length)
theorem dig5B_yes {l : Txt} (h : dig5B l = true) : l.all isDig = true ∧ 0 < l.length := by
  unfold dig5B at h; simpa using h
theorem dig5B_no {l : Txt} (h : l.all isDig = false) : dig5B l = false := by unfold dig5B; rw [h]; rfl
theorem cut5_at : ∀ {l : Txt} {k : Nat} (h : k < l.length), l[k]'h = 46 → (46 : UInt8) ∉ l.take k → pre5 l = l.take k ∧ post5 l = l.drop (k + 1) ∧ has5 l = true
  | [], k, h, _, _ => absurd h (Nat.not_lt_zero _)
  | c :: r, 0, _, hc, _ => by
    have hc : c = 46 := hc
    subst hc
    refine ⟨by simp [pre5], by simp [post5], by simp [has5]⟩
  | c :: r, k + 1, h, hc, hn => by
    rw [List.take_succ_cons] at hn
    have h1 : c ≠ 46 := fun e => hn (by rw [e]; exact List.mem_cons_self)
    obtain ⟨e1, e2, e3⟩ := cut5_at (l := r) (k := k) (by simpa using h) hc (fun h => hn (List.mem_cons_of_mem _ h))
    have h' : (46 : UInt8) ≠ c := fun e => h1 e.symm
    refine ⟨?_, ?_, ?_⟩
    · have : pre5 (c :: r) = c :: pre5 r := by simp [pre5, h1]
      rw [this, e1, List.take_succ_cons]
    · have : post5 (c :: r) = post5 r := by simp [post5, h1]
      rw [this, e2, List.drop_succ_cons]
    · have : has5 (c :: r) = has5 r := by simp [has5, h']
      rw [this, e3]
theorem has5_no {l : Txt} (h : (46 : UInt8) ∉ l) : has5 l = false := by
  unfold has5; simpa using h
theorem pre5_len (l : Txt) : (pre5 l).length ≤ l.length := by
  unfold pre5; exact (List.takeWhile_sublist _).length_le
theorem post5_len (l : Txt) : (post5 l).length ≤ l.length := by
  unfold post5
  rw [List.length_tail]
  have := (List.dropWhile_sublist (l := l) (· != (46 : UInt8))).length_le
  omega
theorem num_len {l : Txt} (h : NumR l) : l.length ≤ 8 := by
  have h1 := h.l1; have h2 := h.l2
  cases hb : has5 l with
  | true => have := congrArg List.length (split5 l hb); rw [List.length_append, List.length_cons] at this; omega
  | false => rw [pre5_no hb] at h1; omega
def ordI (a b : Nat) : Int := if a < b then -1 else if b < a then 1 else 0
theorem numR_of {l : Txt} (h1 : dig5B (pre5 l) = true) (h2 : has5 l = true → dig5B (post5 l) = true) (h3 : ¬ (1 < (pre5 l).length ∧ (pre5 l).head? = some 48)) (h4 : has5 l = true → (post5 l).getLast? ≠ some 48) (h5 : l ≠ [48]) (h6 : (pre5 l).length ≤ 4) (h7 : (post5 l).length ≤ 3) : NumR l :=
  ⟨(dig5B_yes h1).1, (dig5B_yes h1).2, fun h => (dig5B_yes (h2 h)).1, fun h => (dig5B_yes (h2 h)).2, h4, h3, h5, h6, h7⟩
theorem head5 {l : Txt} (h : 0 < l.length) : l.head? = some (l[0]'h) := by
  cases l with
  | nil => exact absurd h (Nat.lt_irrefl 0)
  | cons c r => rfl
theorem last5 {l : Txt} {m : Nat} (h : l.length = m + 1) : l.getLast? = some (l[m]'(by omega)) := by
  rw [List.getLast?_eq_getElem?, show l.length - 1 = m by omega, List.getElem?_eq_getElem (by omega)]
theorem natOf_takeL (l : Txt) {k : Nat} (h : k < l.length) : natOf (l.take (k + 1)) = 10 * natOf (l.take k) + ((l[k]'h).toNat - 48) := by
  rw [List.take_succ_eq_append_getElem h, natOf_snoc]
theorem natOf_lt4 {l : Txt} (h : l.all isDig = true) {k : Nat} (hk : k ≤ 7) : natOf (l.take k) < 10000000 := by
  have h1 : (l.take k).all isDig = true := by
    rw [List.all_eq_true] at h ⊢
    exact fun c hc => h c (List.mem_of_mem_take hc)
  refine Nat.lt_of_lt_of_le (natOf_lt _ h1) (Nat.le_trans (Nat.pow_le_pow_right (by omega) (show (l.take k).length ≤ 7 by rw [List.length_take]; omega)) (by decide))
theorem dig5_len {l : Txt} (h : NumR l) : (dig5 l).length = (pre5 l).length + 3 := by
  unfold dig5
  rw [List.length_append, List.length_take, List.length_append]
  have : ([48, 48, 48] : Txt).length = 3 := rfl
  omega
theorem dig5_all {l : Txt} (h : NumR l) : (dig5 l).all isDig = true := by
  have h2 : (post5 l).all isDig = true := by
    cases hb : has5 l with
    | true => exact h.d2 hb
    | false => rw [post5_no hb]; rfl
  unfold dig5
  rw [List.all_append, h.d1, Bool.true_and, List.all_eq_true]
  intro c hc
  rcases List.mem_append.1 (List.mem_of_mem_take hc) with h3 | h3
  · exact List.all_eq_true.1 h2 c h3
  · simp only [List.mem_cons, List.not_mem_nil, or_false, or_self] at h3; subst h3; decide
theorem dig5_at {l : Txt} (h : NumR l) : ∀ k (hk : k < 3), (pre5 l).length + k < (dig5 l).length ∧ (dig5 l).take (pre5 l).length = pre5 l ∧ (∀ h : k < (post5 l).length, (dig5 l)[(pre5 l).length + k]? = some ((post5 l)[k]'h)) ∧ (¬ k < (post5 l).length → (dig5 l)[(pre5 l).length + k]? = some 48) := by
  intro k hk
  have hl := h.l2
  refine ⟨by rw [dig5_len h]; omega, by unfold dig5; exact List.take_left, fun g => ?_, fun g => ?_⟩
  · unfold dig5
    rw [List.getElem?_append_right (by omega), Nat.add_sub_cancel_left, List.getElem?_take, if_pos hk, List.getElem?_append_left g, List.getElem?_eq_getElem g]
  · unfold dig5
    rw [List.getElem?_append_right (by omega), Nat.add_sub_cancel_left, List.getElem?_take, if_pos hk, List.getElem?_append_right (by omega)]
    have : k - (post5 l).length < 3 := by omega
    generalize k - (post5 l).length = q at *
    match q, this with
    | 0, _ => rfl
    | 1, _ => rfl
    | 2, _ => rfl
end Lum
namespace Go.Proofs.YtikogofioggmlaaGreatDoor
open Go.RowKit Go.Shelf Lum
open Go.Lib (decDigits itoa)
attribute [local go_sem] bs_get bs_extract_end bs_extract_from bs_extract bs_append

set_option maxHeartbeats 400000 in
theorem r5_digits (l : Txt) (w : World) (hl : l.length ≤ 1000000) :
    Calls Tryz.prog 44 #[.string ⟨l.toArray⟩] w fun e w' => e = .returned (.bool (dig5B l)) ∧ w = w' := by
  go_enter Tryz.func44, Tryz.ntmps44
  go_wp2
  go_loop [3] (fun i => ∃ k : Nat, k ≤ l.length ∧ i = .int .i64 k ∧ (l.take k).all isDig = true) (fun i => l.length - (intOf i).toNat)
  case atStart => exact ⟨0, Nat.zero_le _, rfl, by simp⟩
  case round =>
    obtain ⟨k, hk, rfl, ha⟩ := hrel
    have HA := Lib.hid ha; clear ha
    by_cases hlt : k < l.length
    · by_cases hdg : isDig l[k] = true
      · have hx := (isDig_iff _).1 hdg
        have HD := Lib.hid hdg; clear hdg
        go_wp2
        go_round
        case rel => exact ⟨k + 1, by omega, by go_num, take_dig5 hlt HA.out HD.out⟩
        case measure => simp [intOf]; omega
      · have hx : ¬ (48 ≤ l[k].toNat ∧ l[k].toNat ≤ 57) := fun h => hdg ((isDig_iff _).2 h)
        have HN := Lib.hid (dig5B_no (nall_dig5 hlt hdg))
        clear hdg
        go_wp2
        all_goals go_ret
        all_goals exact ⟨ret_bool HN.out.symm, rfl⟩
    · have hall : l.all isDig = true := by rw [← List.take_of_length_le (show l.length ≤ k by omega)]; exact HA.out
      have HL : Hid (dig5B l = decide (0 < l.length)) := Lib.hid (by unfold dig5B; rw [hall]; rfl)
      clear hall
      go_wp2
      all_goals go_ret
      all_goals exact ⟨ret_bool (by rw [HL.out]), rfl⟩

set_option maxHeartbeats 1000000 in
theorem r5_split (l : Txt) (w : World) (hl : l.length ≤ 1000000) :
    Calls Tryz.prog 43 #[.string ⟨l.toArray⟩] w fun e w' => e = .returned (.tuple #[.string ⟨(pre5 l).toArray⟩, .string ⟨(post5 l).toArray⟩, .bool (has5 l)]) ∧ Below w.heap.size w w' := by
  go_enter Tryz.func43, Tryz.ntmps43
  go_wp2
  go_loop [5] (fun i => ∃ k : Nat, k ≤ l.length ∧ i = .int .i64 k ∧ (46 : UInt8) ∉ l.take k) (fun i => l.length - (intOf i).toNat)
  case atStart => exact ⟨0, Nat.zero_le _, rfl, by simp⟩
  case round =>
    obtain ⟨k, hk, rfl, ha⟩ := hrel
    have HA := Lib.hid ha; clear ha
    by_cases hlt : k < l.length
    · by_cases h46 : (l[k].toNat : Int) = 46
      · have hc : l[k] = 46 := by apply UInt8.toNat_inj.1; show l[k].toNat = 46; omega
        obtain ⟨e1, e2, e3⟩ := cut5_at hlt hc HA.out
        have H1 := Lib.hid e1; have H3 := Lib.hid e3
        have H2 : Hid (post5 l = (l.drop (k + 1)).take (l.length - (k + 1))) := Lib.hid (by rw [e2, List.take_of_length_le (by rw [List.length_drop]; exact Nat.le_refl _)])
        clear e1 e2 e3 hc
        have hne : ¬ l.length < k + 1 := by omega
        go_upto_region 5 with fail
        go_region
        go_wp2
        go_ret3
        exact ⟨by rw [H1.out, H2.out, H3.out]; rfl, (Below.refl _ w).drew⟩
      · have h46' : ((l[k].toNat : Int) == 46) = false := by simpa using h46
        have hn : (46 : UInt8) ∉ l.take (k + 1) := by
          rw [List.take_succ_eq_append_getElem hlt]
          intro h
          rcases List.mem_append.1 h with h | h
          · exact HA.out h
          · simp at h; rw [← h] at h46; exact h46 rfl
        have HN := Lib.hid hn; clear hn h46
        go_wp2
        go_round
        case rel => exact ⟨k + 1, by omega, by go_num, HN.out⟩
        case measure => simp [intOf]; omega
    · have hn : has5 l = false := has5_no (by rw [← List.take_of_length_le (show l.length ≤ k by omega)]; exact HA.out)
      have H1 := Lib.hid (pre5_no hn); have H2 := Lib.hid (post5_no hn); have H3 := Lib.hid hn; clear hn
      go_wp2
      go_ret3
      exact ⟨by rw [H1.out, H2.out, H3.out]; rfl, Below.refl _ w⟩

set_option maxRecDepth 100000 in
set_option maxHeartbeats 1000000 in
theorem r5_value (l : Txt) (w : World) (hn : NumR l) :
    Calls Tryz.prog 34 #[.string ⟨l.toArray⟩] w fun e w' => e = .returned (.int .i64 (val5 l : Int)) ∧ Below w.heap.size w w' := by
  have hll : l.length ≤ 8 := num_len hn
  have hs := fun W => r5_split l W (by omega)
  have HD := Lib.hid (dig5_all hn)
  have HP := Lib.hid hn.d1
  have hpl := hn.l1
  have hrl := hn.l2
  have HDL := Lib.hid (dig5_len hn)
  have HV : Hid (val5 l = natOf (dig5 l)) := Lib.hid rfl
  have HR : Hid (∀ k (hk : k < 3), (pre5 l).length + k < (dig5 l).length ∧ (dig5 l).take (pre5 l).length = pre5 l ∧ (∀ h : k < (post5 l).length, (dig5 l)[(pre5 l).length + k]? = some ((post5 l)[k]'h)) ∧ (¬ k < (post5 l).length → (dig5 l)[(pre5 l).length + k]? = some 48)) := Lib.hid (dig5_at hn)
  generalize val5 l = V at *
  generalize dig5 l = D at *
  generalize post5 l = r at *
  generalize pre5 l = p at *
  generalize has5 l = b at *
  have HS := Lib.hid hs; clear hs hn
  have HB := Lib.hid (Below.refl w.heap.size w)
  go_enter Tryz.func34, Tryz.ntmps34
  go_wp2_with (with_reducible refine ((HS.out _).mono ?_); rintro e w' ⟨rfl, hb⟩; replace HB := Lib.hid (bch' HB.out hb); clear hb)
  go_loopw [6, 7] (fun n i wr => ∃ k : Nat, k ≤ p.length ∧ i = .int .i64 k ∧ n = .int .i64 (natOf (p.take k) : Nat) ∧ Hid (Below w.heap.size w wr)) (fun _ i _ => p.length - (intOf i).toNat)
  case atStart => exact ⟨0, Nat.zero_le _, rfl, rfl, HB⟩
  case round =>
    obtain ⟨k, hk, rfl, rfl, HB2⟩ := hrel
    clear HB
    have HB := HB2; clear HB2
    by_cases hlt : k < p.length
    · have h1 := natOf_takeL p hlt
      have h2 := natOf_lt4 HP.out (k := k) (by omega)
      have h3 := (isDig_iff (p[k]'hlt)).1 (by have := HP.out; rw [List.all_eq_true] at this; exact this _ (List.getElem_mem hlt))
      have H1 := Lib.hid h1; clear h1
      go_wp2_with fail
      go_roundw
      case rel => exact ⟨k + 1, by omega, by first | rfl | simp, val_int (by rw [H1.out]; omega), HB⟩
      case measure => first | (simp [intOf]; done) | (simp [intOf]; omega)
    · obtain rfl : k = p.length := by omega
      have h0 : p.take p.length = D.take (p.length + 0) := by rw [Nat.add_zero, (HR.out 0 (by omega)).2.1, List.take_length]
      rw [h0]
      clear h0
      go_wp2_with fail
      go_loopw [6, 8] (fun n i wr => ∃ k : Nat, k ≤ 3 ∧ i = .int .i64 k ∧ n = .int .i64 (natOf (D.take (p.length + k)) : Nat) ∧ Hid (Below w.heap.size w wr)) (fun _ i _ => 3 - (intOf i).toNat)
      case atStart => exact ⟨0, Nat.zero_le _, rfl, rfl, HB⟩
      case round =>
        obtain ⟨k, hk, rfl, rfl, HB2⟩ := hrel
        clear HB
        have HB := HB2; clear HB2
        by_cases hlt : k < 3
        · obtain ⟨hq, -, ha, hz⟩ := HR.out k hlt
          have h1 := natOf_takeL D hq
          have h2 := natOf_lt4 HD.out (k := p.length + k) (by omega)
          have h3 := (isDig_iff (D[p.length + k]'hq)).1 (by have := HD.out; rw [List.all_eq_true] at this; exact this _ (List.getElem_mem hq))
          rw [List.getElem?_eq_getElem hq] at ha hz
          have hlt3 : (k : Int) < 3 := by omega
          by_cases hr : k < r.length
          · have e := Option.some.inj (ha hr)
            rw [e] at h1 h3
            have H1 := Lib.hid h1
            clear h1 ha hz e
            go_wp2_with fail
            go_roundw
            case rel => exact ⟨k + 1, by omega, by first | rfl | simp, val_int (by rw [← Nat.add_assoc, H1.out]; omega), HB⟩
            case measure => first | (simp [intOf]; done) | (simp [intOf]; omega)
          · have e := Option.some.inj (hz hr)
            rw [e] at h1
            have H1 := Lib.hid h1
            clear h1 ha hz e h3
            go_wp2_with fail
            go_roundw
            case rel => exact ⟨k + 1, by omega, by first | rfl | simp, val_int (by rw [← Nat.add_assoc, H1.out]; have : (48 : UInt8).toNat = 48 := rfl; omega), HB⟩
            case measure => first | (simp [intOf]; done) | (simp [intOf]; omega)
        · obtain rfl : k = 3 := by omega
          have HE : Hid (natOf (D.take (p.length + 3)) = V) := Lib.hid (by rw [HV.out, ← HDL.out, List.take_length])
          go_wp2_with fail
          go_ret
          exact ⟨ret_int (by rw [HE.out]), HB.out⟩

set_option maxRecDepth 100000 in
set_option maxHeartbeats 1000000 in
theorem r5_order (a b : Txt) (w : World) (ha : NumR a) (hb : NumR b) :
    Calls Tryz.prog 22 #[.string ⟨a.toArray⟩, .string ⟨b.toArray⟩] w fun e w' => e = .returned (.int .i64 (ordI (val5 a) (val5 b))) ∧ Below w.heap.size w w' := by
  have h1 := fun W => r5_value a W ha
  have h2 := fun W => r5_value b W hb
  clear ha hb
  generalize val5 a = m at *
  generalize val5 b = n at *
  have H1 := Lib.hid h1; have H2 := Lib.hid h2; clear h1 h2
  have HB := Lib.hid (Below.refl w.heap.size w)
  have hcases : ((m : Int) < (n : Int) ∧ ordI m n = -1) ∨ (¬ (m : Int) < (n : Int) ∧ (n : Int) < (m : Int) ∧ ordI m n = 1) ∨ (¬ (m : Int) < (n : Int) ∧ ¬ (n : Int) < (m : Int) ∧ ordI m n = 0) := by
    unfold ordI
    by_cases g1 : m < n
    · exact .inl ⟨by omega, by rw [if_pos g1]⟩
    · by_cases g2 : n < m
      · exact .inr (.inl ⟨by omega, by omega, by rw [if_neg g1, if_pos g2]⟩)
      · exact .inr (.inr ⟨by omega, by omega, by rw [if_neg g1, if_neg g2]⟩)
  rcases hcases with ⟨g1, g3⟩ | ⟨g1, g2, g3⟩ | ⟨g1, g2, g3⟩
  all_goals
    rw [g3]
    clear g3
    go_enter Tryz.func22, Tryz.ntmps22
    go_wp2_with (first | (with_reducible refine ((H1.out _).mono ?_); rintro e w' ⟨rfl, hb⟩; replace HB := Lib.hid (bch' HB.out hb); clear hb) | (with_reducible refine ((H2.out _).mono ?_); rintro e w' ⟨rfl, hb⟩; replace HB := Lib.hid (bch' HB.out hb); clear hb))
    go_ret
    exact ⟨rfl, HB.out⟩
end Go.Proofs.YtikogofioggmlaaGreatDoor

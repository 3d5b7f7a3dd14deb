/-
  The reference of layer 1 (integer): words and text.
-/
import Derived.Test.YtnjaikomoljmjaaGreatDoorRef3
import Derived.Test.YtnjaikomoljmjaaGreatDoorOwn
set_option linter.unusedVariables false
set_option linter.unusedSimpArgs false
namespace Lum
open Go.Lib (decDigits itoa)
/-- What the digits from place a up to, and without, place m spell. -/
def seg (l : Txt) (a m : Nat) : Nat := natOf ((l.drop a).take (m - a))
theorem seg_zero (l : Txt) (a : Nat) : seg l a a = 0 := by simp [seg, natOf]
theorem seg_succ (l : Txt) (a m : Nat) (h : a ≤ m) (hm : m < l.length) : seg l a (m + 1) = 10 * seg l a m + (l[m].toNat - 48) := by
  unfold seg
  rw [show m + 1 - a = (m - a) + 1 by omega, List.take_succ_eq_append_getElem (by simp; omega), natOf_snoc]
  congr 3; rw [List.getElem_drop]; congr 2; omega
theorem seg_lt (l : Txt) (ha : l.all isDig = true) (a m : Nat) (h : m ≤ a + 4) : seg l a m < 10000 := by
  have h1 : ((l.drop a).take (m - a)).all isDig = true := by
    rw [List.all_eq_true] at ha ⊢
    exact fun c hc => ha c (List.mem_of_mem_drop (List.mem_of_mem_take hc))
  have := natOf_lt _ h1
  have h2 : ((l.drop a).take (m - a)).length ≤ 4 := by simp; omega
  exact Nat.lt_of_lt_of_le this (Nat.le_trans (Nat.pow_le_pow_right (by omega) h2) (by decide))
theorem seg_take (l : Txt) (a m : Nat) (h : a ≤ m) (hm : m ≤ l.length) : natOf (l.take m) = natOf (l.take a) * 10 ^ (m - a) + seg l a m := by
  have e : l.take m = l.take a ++ (l.drop a).take (m - a) := by
    rw [← List.take_append_drop a (l.take m), List.take_take, Nat.min_eq_left h, List.drop_take]
  rw [e, natOf_append, seg]
  congr 3; simp; omega
/-- Words of four digits: what has been gathered, and what is left. -/
def Worded (b : Nat) (n : Nat) (l : Txt) (q : Int) (ws : List Nat) : Prop := mv b ws + b ^ ws.length * natOf (l.take q.toNat) = n ∧ ∀ d ∈ ws, d < b
theorem worded_step (b s n : Nat) (l : Txt) (q : Int) (ws : List Nat) (hb : b = 10 ^ s) (hs : 1 ≤ s) (h : Worded b n l q ws) (hq : 0 < q) (hl : q ≤ l.length) (hd : seg l (q.toNat - s) q.toNat < b) :
    Worded b n l (q - s) (ws ++ [seg l (q.toNat - s) q.toNat]) := by
  obtain ⟨h1, h2⟩ := h
  refine ⟨?_, fun d hm => ?_⟩
  · rw [mv_snoc, List.length_append, List.length_singleton, Nat.pow_succ, ← h1]
    have h3 := seg_take l (q.toNat - s) q.toNat (by omega) (by omega)
    rcases Int.lt_or_le q s with h4 | h4
    · have e1 : (q - s).toNat = 0 := by omega
      have e2 : q.toNat - s = 0 := by omega
      rw [e1]; rw [e2] at h3 ⊢
      rw [h3]; simp [natOf]
    · have e1 : (q - s).toNat = q.toNat - s := by omega
      rw [e1, h3, show q.toNat - (q.toNat - s) = s by omega, ← hb]
      grind
  · rcases List.mem_append.1 hm with h | h
    · exact h2 d h
    · simp at h; subst h; exact hd
end Lum
namespace Go.Proofs.YtnjaikomoljmjaaGreatDoor
open Go.RowKit Lum
open Go.Lib (decDigits itoa)
attribute [local go_sem] bs_get bs_extract_end bs_extract_from bs_extract bs_append
theorem info_int : (Tryz.prog.info? 3).map (fun i => (i.zero, i.size, i.bytes)) = some (some (.int .i64 0), 1, 8) := by kernel_rfl
theorem info_u8 : (Tryz.prog.info? 5).map (fun i => (i.zero, i.size, i.bytes)) = some (some (.int .u8 0), 1, 1) := by kernel_rfl
theorem info_u64 : (Tryz.prog.info? 182).map (fun i => (i.zero, i.size, i.bytes)) = some (some (.int .u64 0), 1, 8) := by kernel_rfl

set_option maxHeartbeats 1000000 in
set_option maxRecDepth 20000 in
theorem r1_words (l : Txt) (w : World) (hd : l.all isDig = true) (hne : l ≠ []) (hl : l.length ≤ 100000) :
    Calls Tryz.prog 169 #[.string ⟨l.toArray⟩] w fun e w' => ∃ b o c ws, e = .returned (.slice (some ⟨b, o, none⟩) ws.length c) ∧
      mv 10000 ws = natOf l ∧ (∀ d ∈ ws, d < 10000) ∧ 0 < ws.length ∧ ws.length ≤ l.length ∧ NatsAt .i64 w' (.slice (some ⟨b, o, none⟩) ws.length c) ws ∧ Below w.heap.size w w' := by
  have hl0 : 0 < l.length := by cases l with
    | nil => exact absurd rfl hne
    | cons => simp
  clear hne
  obtain ⟨i0, hi, hz0, hz1, hz2⟩ := info_parts info_int
  have HD := Lib.hid hd; clear hd
  go_enter Tryz.func169, Tryz.ntmps169
  go_wp2
  go_loopw [3, 4, 5, 6] (fun v q _ _ wr => ∃ (p : Option Addr) (c : Nat) (ws : List Nat) (i : Int), v = .slice p ws.length c ∧ q = .int .i64 i ∧ i ≤ l.length ∧ -3 ≤ i ∧ Hid (Worded 10000 (natOf l) l i ws) ∧ 
    Hid (4 * (ws.length : Int) + i = l.length) ∧ Hid (OwnN .i64 w.heap.size 3 wr p c ws) ∧ Below w.heap.size w wr) (fun _ q _ _ _ => (intOf q).toNat)
  case atStart =>
    exact ⟨none, 0, [], l.length, rfl, rfl, by omega, by omega, ⟨by simp [mv], by simp⟩, (show _ = _ by simp), OwnN.nil _ _ _ _, Below.refl _ _⟩
  case round =>
    obtain ⟨p, c, ws, i, rfl, rfl, hi1, hi2, HW, HS, HO, hb⟩ := hrel
    by_cases hq : 0 < i
    · obtain ⟨I, rfl⟩ : ∃ I : Nat, i = I := ⟨i.toNat, by omega⟩
      obtain ⟨a, ha⟩ : ∃ a : Nat, a = I - 4 := ⟨_, rfl⟩
      have a1 : a ≤ I := by omega
      have a2 : I ≤ a + 4 := by omega
      have HA := Lib.hid ha; clear ha
      by_cases hq4 : (I : Int) ≤ 4
      all_goals
        go_wp2
        go_loop [5, 6] (fun n k => ∃ m : Nat, a ≤ m ∧ m ≤ I ∧ k = .int .i64 m ∧ n = .int .i64 (seg l a m)) (fun _ k => I - (intOf k).toNat)
        case atStart => exact ⟨a, by omega, by omega, val_int (by have := HA.out; omega), val_int (by rw [seg_zero]; rfl)⟩
        case round =>
          obtain ⟨m, hm1, hm2, rfl, rfl⟩ := hrel
          by_cases hlt : m < I
          · have hml : m < l.length := by omega
            have h1 := seg_succ l a m hm1 hml
            have h2 := seg_lt l HD.out a m (by omega)
            have h3 := (isDig_iff l[m]).1 (by have := HD.out; rw [List.all_eq_true] at this; exact this _ (List.getElem_mem hml))
            have H1 := Lib.hid h1; clear h1
            go_wp2
            go_round
            case rel => exact ⟨m + 1, by omega, by omega, by go_num, val_int (by rw [H1.out]; omega)⟩
            case measure => simp [intOf]; omega
          · obtain rfl : m = I := by omega
            have h2 := seg_lt l HD.out a m (by omega)
            have hstep := worded_step 10000 4 (natOf l) l m ws (by decide) (by omega) HW.out hq hi1
            rw [Int.toNat_natCast, ← HA.out] at hstep
            have hstep := hstep h2
            obtain ⟨d, hdd⟩ : ∃ d, d = seg l a m := ⟨_, rfl⟩
            rw [← hdd] at h2 hstep ⊢
            clear hdd
            have HST := Lib.hid hstep; clear hstep
            have hO := HO.out
            have hwl : ws.length < 1000000000 := by have := HS.out; omega
            have hbs := hb.size
            go_wp2_with (at_builtin; refine wpList_appN rfl _ _ 171 rfl .i64 w.heap.size 3 i0 (.int .i64 0) 8 Tryz.underlying171 hi hz0 hz1 hz2 rfl (by decide) p c ws _ d _ rfl rfl hO rfl hwl hbs ?_; rintro p1 c1 w1 hO1 hb1)
            go_roundw
            case rel => exact ⟨p1, c1, ws ++ [d], m - 4, by simp, rfl, by omega, by omega, HST.out, (show _ = _ by have := HS.out; simp; omega), hO1, hb.trans hb1⟩
            case measure => simp [intOf]; omega
    · go_wp2
      go_ret
      have h1 := HW.out.1
      rw [show i.toNat = 0 by omega] at h1
      have h2 := HS.out
      obtain ⟨b, o, rfl⟩ := (OwnN.nats HO.out).some (by omega)
      refine ⟨b, o, c, ws, rfl, by simpa [natOf] using h1, HW.out.2, by omega, ?_, OwnN.nats HO.out, hb⟩
      omega
end Go.Proofs.YtnjaikomoljmjaaGreatDoor

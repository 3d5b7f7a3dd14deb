/-
  Numbers of cues: the program.
-/
import Derived.Test.YtikogofioggmlaaGreatDoorLc
import Derived.Test.YtikogofioggmlaaGreatDoorShelfC
import Derived.Test.YtikogofioggmlaaGreatDoorEnv
import Derived.Shelf.Strings.FuncGrows
import Derived.Shelf.Strings.Prefix
import Derived.Shelf.Strconv.Atoi
import Derived.Laws.RangeString
set_option linter.unusedVariables false
set_option linter.unusedSimpArgs false
namespace Lum
open Go Go.RowKit Go.Shelf
open Go.Lib (decDigits itoa)
/-- A rune that is no digit. -/
def noDig (x : Nat) : Bool := decide (x < 48) || decide (57 < x)
theorem idx_digits {s : Txt} (h : s.all isDig = true) : Lib.idxFunc noDig true ⟨s.toArray⟩ = -1 := by
  have key : ∀ (f pos : Nat), Lib.idxFuncFrom noDig true ⟨s.toArray⟩ f pos = -1 := by
    intro f
    induction f with
    | zero => intro pos; rfl
    | succ f ih =>
      intro pos
      unfold Lib.idxFuncFrom
      by_cases hp : pos < (⟨s.toArray⟩ : ByteArray).size
      · rw [if_pos hp]
        have hp2 : pos < s.length := by simpa [ByteArray.size] using hp
        have hd := (isDig_iff (s[pos]'hp2)).1 (List.all_eq_true.1 h _ (List.getElem_mem hp2))
        have hg : (⟨s.toArray⟩ : ByteArray)[pos]'hp = s[pos]'hp2 := rfl
        have e := decode_ascii (⟨s.toArray⟩ : ByteArray) pos hp (by rw [hg]; omega)
        rw [e, hg]
        have hn : noDig (s[pos]'hp2).toNat = false := by unfold noDig; simp; omega
        rw [hn, if_neg (by decide)]
        exact ih _
      · rw [if_neg hp]
  exact key _ _
theorem digit_w {c : UInt8} (h : isDig c = true) : 48 ≤ c.toNat ∧ c.toNat ≤ 57 := (isDig_iff c).1 h

theorem suffix48 {l : Txt} (h : l.getLast? ≠ some 48) : Lib.hasSuffix l [48] = false := by
  unfold Lib.hasSuffix
  rw [Bool.eq_false_iff]
  intro g
  have h1 : [48] <:+ l := by simpa using g
  obtain ⟨t, ht⟩ := h1
  exact h (by rw [← ht]; simp)

theorem decFrom_fold : ∀ (l : Txt) (acc : Nat), l.all isDig = true → Lib.decFrom acc l = some (l.foldl (fun n c => 10 * n + (c.toNat - 48)) acc)
  | [], acc, _ => rfl
  | c :: r, acc, h => by
    rw [List.all_cons, Bool.and_eq_true] at h
    have hd := (isDig_iff c).1 h.1
    have h1 : Lib.digitVal c = some (c.toNat - 48) := by unfold Lib.digitVal; rw [if_pos hd]
    rw [Lib.decFrom, h1]
    show Lib.decFrom (acc * 10 + (c.toNat - 48)) r = _
    rw [decFrom_fold r _ h.2, List.foldl_cons, Nat.mul_comm acc 10]
theorem atoi_digits {l : Txt} (h : l.all isDig = true) (h0 : 0 < l.length) : Lib.atoi l = some ((natOf l : Nat) : Int) := by
  cases l with
  | nil => exact absurd h0 (Nat.lt_irrefl 0)
  | cons c r =>
    have h2 := h
    rw [List.all_cons, Bool.and_eq_true] at h2
    have hd := (isDig_iff c).1 h2.1
    have n1 : (c == 45) = false := by rw [beq_eq_false_iff_ne]; intro e; subst e; exact absurd hd.1 (by decide)
    have n2 : (c == 43) = false := by rw [beq_eq_false_iff_ne]; intro e; subst e; exact absurd hd.1 (by decide)
    have e : Lib.decNat (c :: r) = some (natOf (c :: r)) := by unfold Lib.decNat; exact decFrom_fold (c :: r) 0 h
    rw [show Lib.atoi (c :: r) = (if (c == 45) = true then (Lib.decNat r).map (fun (m : Nat) => -(m : Int)) else if (c == 43) = true then (Lib.decNat r).map (fun (m : Nat) => (m : Int)) else (Lib.decNat (c :: r)).map (fun (m : Nat) => (m : Int))) from rfl, n1, n2, e]
    rfl

theorem ordI_cases (m n : Nat) : ((m : Int) < (n : Int) ∧ ordI m n = -1) ∨ (¬ (m : Int) < (n : Int) ∧ (n : Int) < (m : Int) ∧ ordI m n = 1) ∨ (¬ (m : Int) < (n : Int) ∧ ¬ (n : Int) < (m : Int) ∧ ordI m n = 0) := by
  unfold ordI
  by_cases g1 : m < n
  · exact .inl ⟨by omega, by rw [if_pos g1]⟩
  · by_cases g2 : n < m
    · exact .inr (.inl ⟨by omega, by omega, by rw [if_neg g1, if_pos g2]⟩)
    · exact .inr (.inr ⟨by omega, by omega, by rw [if_neg g1, if_neg g2]⟩)
end Lum
namespace Go.Proofs.YtikogofioggmlaaGreatDoor
open Go.RowKit Go.Shelf Lum
open Go.Lib (decDigits itoa)
attribute [local go_sem] bs_get bs_extract_end bs_extract_from bs_extract bs_append

theorem sh_cut5 (l : Txt) (w : World) (h : Env w) (hl : l.length ≤ 1000000) :
    Calls Tryz.prog 61 #[.string ⟨l.toArray⟩, .string ⟨#[46]⟩] w fun e w' => e = .returned (.tuple #[.string ⟨(pre5 l).toArray⟩, .string ⟨(post5 l).toArray⟩, .bool (has5 l)]) ∧ Below w.heap.size w w' := by
  have h1 := sh_cut ⟨l.toArray⟩ ⟨#[46]⟩ w h (by simp [ByteArray.size]; omega)
  have e1 : (⟨l.toArray⟩ : ByteArray).data.toList = l := by simp
  have e2 : (⟨#[46]⟩ : ByteArray).data.toList = [46] := by simp
  rw [e1, e2, cut5] at h1
  exact h1
theorem sh_suffix (l : Txt) (w : World) (hl : l.length ≤ 1000000) :
    Calls Tryz.prog 65 #[.string ⟨l.toArray⟩, .string ⟨#[48]⟩] w fun e w' => e = .returned (.bool (Lib.hasSuffix l [48])) ∧ w = w' := by
  have h1 := Any.strings_HasSuffix Tryz.lays100 ⟨l.toArray⟩ ⟨#[48]⟩ w (by simp [ByteArray.size]; omega)
  have e1 : (⟨l.toArray⟩ : ByteArray).data.toList = l := by simp
  have e2 : (⟨#[48]⟩ : ByteArray).data.toList = [48] := by simp
  rw [e1, e2] at h1
  exact h1.mono fun e w' ⟨h1, h2⟩ => ⟨h1, h2.symm⟩
set_option maxRecDepth 100000 in
set_option maxHeartbeats 4000000 in
theorem own_ndg1 (x : Nat) (w : World) (hx : x ≤ 1114111) :
    Calls Tryz.prog 87 #[.int .i32 (x : Int)] w fun e w' => e = .returned (.bool (noDig x)) ∧ Below w.heap.size w w' := by
  have HB := Lib.hid (Below.refl w.heap.size w)
  by_cases h1 : (x : Int) < 48
  · rw [show noDig x = true by unfold noDig; simp; omega]
    go_enter Tryz.func87, Tryz.ntmps87
    go_wp2
    go_ret
    exact ⟨rfl, HB.out⟩
  · by_cases h2 : (57 : Int) < (x : Int)
    · rw [show noDig x = true by unfold noDig; simp; omega]
      go_enter Tryz.func87, Tryz.ntmps87
      go_wp2
      go_ret
      exact ⟨rfl, HB.out⟩
    · rw [show noDig x = false by unfold noDig; simp; omega]
      go_enter Tryz.func87, Tryz.ntmps87
      go_wp2
      go_ret
      exact ⟨rfl, HB.out⟩

theorem sh_nodig (l : Txt) (w : World) (h : l.all isDig = true) :
    Calls Tryz.prog 86 #[.string ⟨l.toArray⟩, .func (.func 87) #[] #[]] w fun e w' => e = .returned (.bool false) ∧ Below w.heap.size w w' := by
  have h1 := Any.strings_ContainsFunc_grows Tryz.laysGw17 87 #[] (enters_of Tryz.func87 (by kernel_rfl) rfl) noDig ⟨l.toArray⟩ w (fun W x hx _ => own_ndg1 x W hx)
  rw [idx_digits h] at h1
  exact h1
set_option maxRecDepth 100000 in
set_option maxHeartbeats 4000000 in
theorem own_ndig (l : Txt) (w : World) (h : dig5B l = true) :
    Calls Tryz.prog 63 #[.string ⟨l.toArray⟩] w fun e w' => e = .returned (.bool true) ∧ Below w.heap.size w w' := by
  obtain ⟨h1, h2⟩ := dig5B_yes h
  have hcf := fun W => sh_nodig l W h1
  clear h h1
  have HB := Lib.hid (Below.refl w.heap.size w)
  cases l with
  | nil => exact absurd h2 (Nat.lt_irrefl 0)
  | cons c r =>
    have hli : ((c :: r : Txt) != []) = true := rfl
    have hli2 : ((c :: r : Txt) == []) = false := rfl
    have HCF := Lib.hid hcf; clear hcf
    go_enter Tryz.func63, Tryz.ntmps63
    go_wp2_with (first | (with_reducible refine ((HCF.out _).mono ?_); rintro e w' ⟨rfl, hb⟩; replace HB := Lib.hid (bch' HB.out hb); clear hb))
    go_ret
    exact ⟨rfl, HB.out⟩

set_option maxRecDepth 100000 in
set_option maxHeartbeats 4000000 in
theorem own_nck1 (l : Txt) (g : Nat) (w : World) (hn : NumR l) (ht : Blk w g 105 #[.string ⟨(pre5 l).toArray⟩, .string ⟨(post5 l).toArray⟩, .bool (has5 l)]) :
    Calls Tryz.prog 62 #[.pointer (some ⟨g, 0, none⟩)] w fun e w' => e = .returned (.bool true) ∧ Below w.heap.size w w' := by
  have HT := Lib.hid ht; clear ht
  have HB := Lib.hid (Below.refl w.heap.size w)
  obtain ⟨t0, t1, t2, tf0, tf1, tf2⟩ := HT.out.c3
  have hdg := fun W => own_ndig (pre5 l) W (by unfold dig5B; rw [hn.d1]; exact decide_eq_true hn.n1)
  clear hn
  have HDG := Lib.hid hdg; clear hdg
  generalize pre5 l = p at *
  go_enter Tryz.func62, Tryz.ntmps62
  go_wp2_with (first | (with_reducible refine ((HDG.out _).mono ?_); rintro e w' ⟨rfl, hb⟩; replace HT := Lib.hid (HT.out.keep hb); clear t0 t1 t2 tf0 tf1 tf2; replace HB := Lib.hid (bch' HB.out hb); clear hb; obtain ⟨t0, t1, t2, tf0, tf1, tf2⟩ := HT.out.c3))
  go_ret
  exact ⟨rfl, HB.out⟩

set_option maxRecDepth 100000 in
set_option maxHeartbeats 4000000 in
theorem own_nck2 (l : Txt) (g : Nat) (w : World) (hn : NumR l) (ht : Blk w g 105 #[.string ⟨(pre5 l).toArray⟩, .string ⟨(post5 l).toArray⟩, .bool (has5 l)]) (hl : l.length ≤ 1000000) :
    Calls Tryz.prog 64 #[.pointer (some ⟨g, 0, none⟩)] w fun e w' => e = .returned (.bool true) ∧ Below w.heap.size w w' := by
  have HT := Lib.hid ht; clear ht
  have HB := Lib.hid (Below.refl w.heap.size w)
  obtain ⟨t0, t1, t2, tf0, tf1, tf2⟩ := HT.out.c3
  have hsl := post5_len l
  cases hh : has5 l with
  | false =>
    rw [hh] at HT
    clear hn hsl hh
    clear t0 t1 t2 tf0 tf1 tf2
    obtain ⟨t0, t1, t2, tf0, tf1, tf2⟩ := HT.out.c3
    go_enter Tryz.func64, Tryz.ntmps64
    go_wp2_with fail
    go_ret
    exact ⟨rfl, HB.out⟩
  | true =>
    rw [hh] at HT
    clear t0 t1 t2 tf0 tf1 tf2
    have hdg := fun W => own_ndig (post5 l) W (by unfold dig5B; rw [hn.d2 hh]; exact decide_eq_true (hn.n2 hh))
    have hsf := fun W => sh_suffix (post5 l) W (by omega)
    rw [suffix48 (hn.z2 hh)] at hsf
    clear hn hh hsl
    have HDG := Lib.hid hdg; clear hdg
    have HSF := Lib.hid hsf; clear hsf
    obtain ⟨t0, t1, t2, tf0, tf1, tf2⟩ := HT.out.c3
    go_enter Tryz.func64, Tryz.ntmps64
    go_wp2_with (first | (with_reducible refine ((HDG.out _).mono ?_); rintro e w' ⟨rfl, hb⟩; replace HT := Lib.hid (HT.out.keep hb); clear t0 t1 t2 tf0 tf1 tf2; replace HB := Lib.hid (bch' HB.out hb); clear hb; obtain ⟨t0, t1, t2, tf0, tf1, tf2⟩ := HT.out.c3) | (with_reducible refine ((HSF.out _).mono ?_); rintro e w' ⟨rfl, rfl⟩))
    go_ret
    exact ⟨rfl, HB.out⟩

set_option maxRecDepth 100000 in
set_option maxHeartbeats 4000000 in
theorem own_nck3 (l : Txt) (g : Nat) (w : World) (hn : NumR l) (ht : Blk w g 105 #[.string ⟨(pre5 l).toArray⟩, .string ⟨(post5 l).toArray⟩, .bool (has5 l)]) :
    Calls Tryz.prog 66 #[.pointer (some ⟨g, 0, none⟩)] w fun e w' => e = .returned (.bool true) ∧ Below w.heap.size w w' := by
  have HT := Lib.hid ht; clear ht
  have HB := Lib.hid (Below.refl w.heap.size w)
  obtain ⟨t0, t1, t2, tf0, tf1, tf2⟩ := HT.out.c3
  have h1 := hn.n1
  have h2 := hn.z1
  rw [head5 h1] at h2
  clear hn
  generalize pre5 l = p at *
  by_cases hl1 : p.length = 1
  · have heq : ((p.length : Int) == 1) = true := by rw [beq_iff_eq]; omega
    clear h2 hl1
    go_enter Tryz.func66, Tryz.ntmps66
    go_wp2_with fail
    go_ret
    exact ⟨rfl, HB.out⟩
  · have heq : ((p.length : Int) == 1) = false := by rw [beq_eq_false_iff_ne]; omega
    have hne : ((p[0].toNat : Int) != 48) = true := by rw [bne_iff_ne]; intro e; exact h2 ⟨by omega, by congr 1; apply UInt8.toNat_inj.1; show p[0].toNat = 48; omega⟩
    clear h2 hl1
    go_enter Tryz.func66, Tryz.ntmps66
    go_wp2_with fail
    go_ret
    exact ⟨rfl, HB.out⟩

set_option maxRecDepth 100000 in
set_option maxHeartbeats 4000000 in
theorem own_ncheck (l : Txt) (w : World) (hn : NumR l) (env : Env w) :
    Calls Tryz.prog 50 #[.string ⟨l.toArray⟩] w fun e w' => e = .returned (.int .i64 0) ∧ Below w.heap.size w w' := by
  have hll : l.length ≤ 8 := num_len hn
  have hcu := fun W (e : Env W) => sh_cut5 l W e (by omega)
  have ENV := Lib.hid env; clear env
  have hb := (Below.refl w.heap.size w).alloc (Nat.le_refl _) (.cells #[.string ⟨#[]⟩, .string ⟨#[]⟩, .bool false] 105)
  have HT := Lib.hid (Blk.new w 105 #[.string ⟨#[]⟩, .string ⟨#[]⟩, .bool false])
  have HB := Lib.hid hb; clear hb
  obtain ⟨t0, t1, t2, tf0, tf1, tf2⟩ := HT.out.c3
  have HCU := Lib.hid hcu; clear hcu
  go_enter Tryz.func50, Tryz.ntmps50
  go_upto_region 2 with fail
  obtain ⟨g, hg⟩ : ∃ g, g = w.heap.size := ⟨_, rfl⟩
  obtain ⟨W0, hW0⟩ : ∃ X, X = w.alloc (.cells #[.string ⟨#[]⟩, .string ⟨#[]⟩, .bool false] 105) := ⟨_, rfl⟩
  have HGW : Hid (w.heap.size ≤ g) := Lib.hid (by omega)
  clear t0 t1 t2 tf0 tf1 tf2
  rw [← hW0] at HT HB ⊢
  rw [← hg] at HT ⊢
  clear hW0 hg
  obtain ⟨t0, t1, t2, tf0, tf1, tf2⟩ := HT.out.c3
  go_upto_region 3 with (first | (with_reducible refine ((HCU.out _ (ENV.out.below HB.out)).mono ?_); rintro e w' ⟨rfl, hb⟩; replace HT := Lib.hid (HT.out.keep hb); clear t0 t1 t2 tf0 tf1 tf2; replace HB := Lib.hid (bch' HB.out hb); clear hb; obtain ⟨t0, t1, t2, tf0, tf1, tf2⟩ := HT.out.c3))
  have HBs : Hid (Below w.heap.size w (((w'.setCell ⟨g, 0, none⟩ (.string ⟨(pre5 l).toArray⟩)).setCell ⟨g, 1, none⟩ (.string ⟨(post5 l).toArray⟩)).setCell ⟨g, 2, none⟩ (.bool (has5 l)))) := Lib.hid (((HB.out.setCell (p := ⟨g, 0, none⟩) HGW.out _).setCell (p := ⟨g, 1, none⟩) HGW.out _).setCell (p := ⟨g, 2, none⟩) HGW.out _)
  have HTs : Hid (Blk (((w'.setCell ⟨g, 0, none⟩ (.string ⟨(pre5 l).toArray⟩)).setCell ⟨g, 1, none⟩ (.string ⟨(post5 l).toArray⟩)).setCell ⟨g, 2, none⟩ (.bool (has5 l))) g 105 #[.string ⟨(pre5 l).toArray⟩, .string ⟨(post5 l).toArray⟩, .bool (has5 l)]) := Lib.hid (by simpa using ((HT.out.set_ 0 (.string ⟨(pre5 l).toArray⟩)).set_ 1 (.string ⟨(post5 l).toArray⟩)).set_ 2 (.bool (has5 l)))
  clear t0 t1 t2 tf0 tf1 tf2
  clear HT HB
  have HB := HBs; have HT := HTs; clear HBs HTs
  generalize ((w'.setCell ⟨g, 0, none⟩ (.string ⟨(pre5 l).toArray⟩)).setCell ⟨g, 1, none⟩ (.string ⟨(post5 l).toArray⟩)).setCell ⟨g, 2, none⟩ (.bool (has5 l)) = W7 at *
  obtain ⟨t0, t1, t2, tf0, tf1, tf2⟩ := HT.out.c3
  have hc1 := fun W h => own_nck1 l g W hn h
  have hc2 := fun W h => own_nck2 l g W hn h (by omega)
  have hc3 := fun W h => own_nck3 l g W hn h
  have hm1 := hn.l1; have hm2 := hn.l2
  have hne : (l == [48]) = false := by have := hn.ne; simpa using this
  clear hn
  have HC1 := Lib.hid hc1; clear hc1
  have HC2 := Lib.hid hc2; clear hc2
  have HC3 := Lib.hid hc3; clear hc3
  go_wp2_with fail
  have hb := (Below.refl W7.heap.size W7).alloc (Nat.le_refl _) (.cells #[.func (.func 62) #[] #[.pointer (some ⟨g, 0, none⟩)], .func (.func 64) #[] #[.pointer (some ⟨g, 0, none⟩)], .func (.func 66) #[] #[.pointer (some ⟨g, 0, none⟩)]] 27)
  have HQ := Lib.hid (Blk.new W7 27 #[.func (.func 62) #[] #[.pointer (some ⟨g, 0, none⟩)], .func (.func 64) #[] #[.pointer (some ⟨g, 0, none⟩)], .func (.func 66) #[] #[.pointer (some ⟨g, 0, none⟩)]])
  obtain ⟨q, hq⟩ : ∃ q, q = W7.heap.size := ⟨_, rfl⟩
  obtain ⟨W8, hW8⟩ : ∃ X, X = W7.alloc (.cells #[.func (.func 62) #[] #[.pointer (some ⟨g, 0, none⟩)], .func (.func 64) #[] #[.pointer (some ⟨g, 0, none⟩)], .func (.func 66) #[] #[.pointer (some ⟨g, 0, none⟩)]] 27) := ⟨_, rfl⟩
  rw [← hW8] at hb HQ ⊢
  rw [← hq] at HQ ⊢
  clear hW8 hq
  replace HT := Lib.hid (HT.out.keep hb); clear t0 t1 t2 tf0 tf1 tf2; replace HB := Lib.hid (bch' HB.out hb); clear hb; obtain ⟨t0, t1, t2, tf0, tf1, tf2⟩ := HT.out.c3
  obtain ⟨q0, q1, q2, qf0, qf1, qf2⟩ := HQ.out.c3
  have hl1 : ¬ (4 : Int) < ((pre5 l).length : Int) := by omega
  have hl2 : ¬ (3 : Int) < ((post5 l).length : Int) := by omega
  refine wp_loop_rounds 4 ?_
  rw [rounds_succ]
  go_wp2_with (first | (with_reducible refine ((HC1.out _ HT.out).mono ?_); rintro e w' ⟨rfl, hb⟩; replace HT := Lib.hid (HT.out.keep hb); clear t0 t1 t2 tf0 tf1 tf2; replace HQ := Lib.hid (HQ.out.keep hb); clear q0 q1 q2 qf0 qf1 qf2; replace HB := Lib.hid (bch' HB.out hb); clear hb; obtain ⟨t0, t1, t2, tf0, tf1, tf2⟩ := HT.out.c3; obtain ⟨q0, q1, q2, qf0, qf1, qf2⟩ := HQ.out.c3) | (with_reducible refine ((HC2.out _ HT.out).mono ?_); rintro e w' ⟨rfl, hb⟩; replace HT := Lib.hid (HT.out.keep hb); clear t0 t1 t2 tf0 tf1 tf2; replace HQ := Lib.hid (HQ.out.keep hb); clear q0 q1 q2 qf0 qf1 qf2; replace HB := Lib.hid (bch' HB.out hb); clear hb; obtain ⟨t0, t1, t2, tf0, tf1, tf2⟩ := HT.out.c3; obtain ⟨q0, q1, q2, qf0, qf1, qf2⟩ := HQ.out.c3) | (with_reducible refine ((HC3.out _ HT.out).mono ?_); rintro e w' ⟨rfl, hb⟩; replace HT := Lib.hid (HT.out.keep hb); clear t0 t1 t2 tf0 tf1 tf2; replace HQ := Lib.hid (HQ.out.keep hb); clear q0 q1 q2 qf0 qf1 qf2; replace HB := Lib.hid (bch' HB.out hb); clear hb; obtain ⟨t0, t1, t2, tf0, tf1, tf2⟩ := HT.out.c3; obtain ⟨q0, q1, q2, qf0, qf1, qf2⟩ := HQ.out.c3))
  rw [rounds_succ]
  go_wp2_with (first | (with_reducible refine ((HC1.out _ HT.out).mono ?_); rintro e w' ⟨rfl, hb⟩; replace HT := Lib.hid (HT.out.keep hb); clear t0 t1 t2 tf0 tf1 tf2; replace HQ := Lib.hid (HQ.out.keep hb); clear q0 q1 q2 qf0 qf1 qf2; replace HB := Lib.hid (bch' HB.out hb); clear hb; obtain ⟨t0, t1, t2, tf0, tf1, tf2⟩ := HT.out.c3; obtain ⟨q0, q1, q2, qf0, qf1, qf2⟩ := HQ.out.c3) | (with_reducible refine ((HC2.out _ HT.out).mono ?_); rintro e w' ⟨rfl, hb⟩; replace HT := Lib.hid (HT.out.keep hb); clear t0 t1 t2 tf0 tf1 tf2; replace HQ := Lib.hid (HQ.out.keep hb); clear q0 q1 q2 qf0 qf1 qf2; replace HB := Lib.hid (bch' HB.out hb); clear hb; obtain ⟨t0, t1, t2, tf0, tf1, tf2⟩ := HT.out.c3; obtain ⟨q0, q1, q2, qf0, qf1, qf2⟩ := HQ.out.c3) | (with_reducible refine ((HC3.out _ HT.out).mono ?_); rintro e w' ⟨rfl, hb⟩; replace HT := Lib.hid (HT.out.keep hb); clear t0 t1 t2 tf0 tf1 tf2; replace HQ := Lib.hid (HQ.out.keep hb); clear q0 q1 q2 qf0 qf1 qf2; replace HB := Lib.hid (bch' HB.out hb); clear hb; obtain ⟨t0, t1, t2, tf0, tf1, tf2⟩ := HT.out.c3; obtain ⟨q0, q1, q2, qf0, qf1, qf2⟩ := HQ.out.c3))
  rw [rounds_succ]
  go_wp2_with (first | (with_reducible refine ((HC1.out _ HT.out).mono ?_); rintro e w' ⟨rfl, hb⟩; replace HT := Lib.hid (HT.out.keep hb); clear t0 t1 t2 tf0 tf1 tf2; replace HQ := Lib.hid (HQ.out.keep hb); clear q0 q1 q2 qf0 qf1 qf2; replace HB := Lib.hid (bch' HB.out hb); clear hb; obtain ⟨t0, t1, t2, tf0, tf1, tf2⟩ := HT.out.c3; obtain ⟨q0, q1, q2, qf0, qf1, qf2⟩ := HQ.out.c3) | (with_reducible refine ((HC2.out _ HT.out).mono ?_); rintro e w' ⟨rfl, hb⟩; replace HT := Lib.hid (HT.out.keep hb); clear t0 t1 t2 tf0 tf1 tf2; replace HQ := Lib.hid (HQ.out.keep hb); clear q0 q1 q2 qf0 qf1 qf2; replace HB := Lib.hid (bch' HB.out hb); clear hb; obtain ⟨t0, t1, t2, tf0, tf1, tf2⟩ := HT.out.c3; obtain ⟨q0, q1, q2, qf0, qf1, qf2⟩ := HQ.out.c3) | (with_reducible refine ((HC3.out _ HT.out).mono ?_); rintro e w' ⟨rfl, hb⟩; replace HT := Lib.hid (HT.out.keep hb); clear t0 t1 t2 tf0 tf1 tf2; replace HQ := Lib.hid (HQ.out.keep hb); clear q0 q1 q2 qf0 qf1 qf2; replace HB := Lib.hid (bch' HB.out hb); clear hb; obtain ⟨t0, t1, t2, tf0, tf1, tf2⟩ := HT.out.c3; obtain ⟨q0, q1, q2, qf0, qf1, qf2⟩ := HQ.out.c3))
  rw [rounds_succ]
  go_wp2_with (first | (with_reducible refine ((HC1.out _ HT.out).mono ?_); rintro e w' ⟨rfl, hb⟩; replace HT := Lib.hid (HT.out.keep hb); clear t0 t1 t2 tf0 tf1 tf2; replace HQ := Lib.hid (HQ.out.keep hb); clear q0 q1 q2 qf0 qf1 qf2; replace HB := Lib.hid (bch' HB.out hb); clear hb; obtain ⟨t0, t1, t2, tf0, tf1, tf2⟩ := HT.out.c3; obtain ⟨q0, q1, q2, qf0, qf1, qf2⟩ := HQ.out.c3) | (with_reducible refine ((HC2.out _ HT.out).mono ?_); rintro e w' ⟨rfl, hb⟩; replace HT := Lib.hid (HT.out.keep hb); clear t0 t1 t2 tf0 tf1 tf2; replace HQ := Lib.hid (HQ.out.keep hb); clear q0 q1 q2 qf0 qf1 qf2; replace HB := Lib.hid (bch' HB.out hb); clear hb; obtain ⟨t0, t1, t2, tf0, tf1, tf2⟩ := HT.out.c3; obtain ⟨q0, q1, q2, qf0, qf1, qf2⟩ := HQ.out.c3) | (with_reducible refine ((HC3.out _ HT.out).mono ?_); rintro e w' ⟨rfl, hb⟩; replace HT := Lib.hid (HT.out.keep hb); clear t0 t1 t2 tf0 tf1 tf2; replace HQ := Lib.hid (HQ.out.keep hb); clear q0 q1 q2 qf0 qf1 qf2; replace HB := Lib.hid (bch' HB.out hb); clear hb; obtain ⟨t0, t1, t2, tf0, tf1, tf2⟩ := HT.out.c3; obtain ⟨q0, q1, q2, qf0, qf1, qf2⟩ := HQ.out.c3))
  go_ret
  exact ⟨rfl, HB.out⟩

theorem sh_atoi5 (l : Txt) (w : World) (hn : NumR l) :
    Calls Tryz.prog 115 #[.string ⟨(pre5 l ++ (post5 l ++ [48, 48, 48]).take 3).toArray⟩] w fun e w' => e = .returned (.tuple #[.int .i64 (val5 l : Int), .nilIface]) ∧ Below w.heap.size w w' := by
  have h1 := hn.l1
  have hsz : (⟨(dig5 l).toArray⟩ : ByteArray).size ≤ 18 := by show (dig5 l).toArray.size ≤ 18; rw [List.size_toArray, dig5_len hn]; omega
  have h := Any.strconv_Atoi Tryz.lays172 ⟨(dig5 l).toArray⟩ (val5 l : Int) hsz (atoi_digits (dig5_all hn) (by rw [dig5_len hn]; omega)) w
  refine h.mono fun e w' ⟨h1, t, h2⟩ => ⟨h1, ?_⟩
  rw [h2]
  exact Lib.bytesWorld_below _ _ _
set_option maxRecDepth 100000 in
set_option maxHeartbeats 4000000 in
theorem own_nvalue (l : Txt) (w : World) (hn : NumR l) (env : Env w) :
    Calls Tryz.prog 112 #[.string ⟨l.toArray⟩] w fun e w' => e = .returned (.int .i64 (val5 l : Int)) ∧ Below w.heap.size w w' := by
  have hll : l.length ≤ 8 := num_len hn
  have hcu := fun W (e : Env W) => sh_cut5 l W e (by omega)
  have hat := fun W => sh_atoi5 l W hn
  have ENV := Lib.hid env; clear env
  have HB := Lib.hid (Below.refl w.heap.size w)
  have hpl := pre5_len l; have hrl := post5_len l
  generalize val5 l = V at *
  clear hn
  generalize post5 l = r at *
  generalize pre5 l = p at *
  generalize has5 l = b at *
  have h3 : ¬ r.length + 3 < 3 := by omega
  have HCU := Lib.hid hcu; clear hcu
  have HAT := Lib.hid hat; clear hat
  go_enter Tryz.func112, Tryz.ntmps112
  go_wp2_with (first | (with_reducible refine ((HCU.out _ (ENV.out.below HB.out)).mono ?_); rintro e w' ⟨rfl, hb⟩; replace HB := Lib.hid (bch' HB.out hb); clear hb) | (with_reducible refine ((HAT.out _).mono ?_); rintro e w' ⟨rfl, hb⟩; replace HB := Lib.hid (bch' HB.out hb); clear hb))
  go_ret
  exact ⟨rfl, HB.out⟩

set_option maxRecDepth 100000 in
set_option maxHeartbeats 4000000 in
theorem own_nthou (l : Txt) (w : World) (hn : NumR l) (env : Env w) :
    Calls Tryz.prog 105 #[.string ⟨l.toArray⟩] w fun e w' => e = .returned (.tuple #[.int .i64 (val5 l : Int), .int .i64 0]) ∧ Below w.heap.size w w' := by
  have hnc := fun W (e : Env W) => own_ncheck l W hn e
  have hnv := fun W (e : Env W) => own_nvalue l W hn e
  clear hn
  generalize val5 l = V at *
  have ENV := Lib.hid env; clear env
  have HB := Lib.hid (Below.refl w.heap.size w)
  have HNC := Lib.hid hnc; clear hnc
  have HNV := Lib.hid hnv; clear hnv
  go_enter Tryz.func105, Tryz.ntmps105
  go_wp2_with (first | (with_reducible refine ((HNC.out _ (ENV.out.below HB.out)).mono ?_); rintro e w' ⟨rfl, hb⟩; replace HB := Lib.hid (bch' HB.out hb); clear hb) | (with_reducible refine ((HNV.out _ (ENV.out.below HB.out)).mono ?_); rintro e w' ⟨rfl, hb⟩; replace HB := Lib.hid (bch' HB.out hb); clear hb))
  go_ret2
  exact ⟨rfl, HB.out⟩

set_option maxRecDepth 100000 in
set_option maxHeartbeats 4000000 in
theorem own_nvalues (a b : Txt) (w : World) (ha : NumR a) (hb : NumR b) (env : Env w) :
    Calls Tryz.prog 97 #[.string ⟨a.toArray⟩, .string ⟨b.toArray⟩] w fun e w' => e = .returned (.tuple #[.int .i64 (val5 a : Int), .int .i64 (val5 b : Int), .int .i64 0]) ∧ Below w.heap.size w w' := by
  have hta := fun W (e : Env W) => own_nthou a W ha e
  have htb := fun W (e : Env W) => own_nthou b W hb e
  clear ha hb
  generalize val5 a = V at *
  generalize val5 b = U at *
  have ENV := Lib.hid env; clear env
  have HB := Lib.hid (Below.refl w.heap.size w)
  have HTA := Lib.hid hta; clear hta
  have HTB := Lib.hid htb; clear htb
  go_enter Tryz.func97, Tryz.ntmps97
  go_wp2_with (first | (with_reducible refine ((HTA.out _ (ENV.out.below HB.out)).mono ?_); rintro e w' ⟨rfl, hb⟩; replace HB := Lib.hid (bch' HB.out hb); clear hb) | (with_reducible refine ((HTB.out _ (ENV.out.below HB.out)).mono ?_); rintro e w' ⟨rfl, hb⟩; replace HB := Lib.hid (bch' HB.out hb); clear hb))
  go_ret3
  exact ⟨rfl, HB.out⟩

set_option maxRecDepth 100000 in
set_option maxHeartbeats 4000000 in
theorem own_ncompare (a b : Txt) (w : World) (ha : NumR a) (hb : NumR b) (env : Env w) :
    Calls Tryz.prog 84 #[.string ⟨a.toArray⟩, .string ⟨b.toArray⟩] w fun e w' => e = .returned (.tuple #[.int .i64 (ordI (val5 a) (val5 b)), .int .i64 0]) ∧ Below w.heap.size w w' := by
  have hvs := fun W (e : Env W) => own_nvalues a b W ha hb e
  clear ha hb
  generalize val5 a = m at *
  generalize val5 b = n at *
  have ENV := Lib.hid env; clear env
  have HB := Lib.hid (Below.refl w.heap.size w)
  have HVS := Lib.hid hvs; clear hvs
  rcases ordI_cases m n with ⟨g1, g3⟩ | ⟨g1, g2, g3⟩ | ⟨g1, g2, g3⟩
  all_goals
    rw [g3]
    clear g3
    go_enter Tryz.func84, Tryz.ntmps84
    go_wp2_with (first | (with_reducible refine ((HVS.out _ (ENV.out.below HB.out)).mono ?_); rintro e w' ⟨rfl, hb⟩; replace HB := Lib.hid (bch' HB.out hb); clear hb))
    go_ret2
    exact ⟨rfl, HB.out⟩

set_option maxRecDepth 100000 in
set_option maxHeartbeats 4000000 in
theorem own_clcompare (a b : Txt) (w : World) (ha : NumR a) (hb : NumR b) (env : Env w) :
    Calls Tryz.prog 60 #[.string ⟨a.toArray⟩, .string ⟨b.toArray⟩] w fun e w' => e = .returned (.int .i64 (ordI (val5 a) (val5 b))) ∧ Below w.heap.size w w' := by
  have hcp := fun W (e : Env W) => own_ncompare a b W ha hb e
  clear ha hb
  generalize ordI (val5 a) (val5 b) = z at *
  have ENV := Lib.hid env; clear env
  have HB := Lib.hid (Below.refl w.heap.size w)
  have HCP := Lib.hid hcp; clear hcp
  go_enter Tryz.func60, Tryz.ntmps60
  go_wp2_with (first | (with_reducible refine ((HCP.out _ (ENV.out.below HB.out)).mono ?_); rintro e w' ⟨rfl, hb⟩; replace HB := Lib.hid (bch' HB.out hb); clear hb))
  go_ret
  exact ⟨rfl, HB.out⟩
end Go.Proofs.YtikogofioggmlaaGreatDoor

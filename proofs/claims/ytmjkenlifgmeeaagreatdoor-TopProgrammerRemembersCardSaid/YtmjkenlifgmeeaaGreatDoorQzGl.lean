import Derived.Test.YtmjkenlifgmeeaaGreatDoorQzWc
import Derived.Test.YtmjkenlifgmeeaaGreatDoorQzWa
import Derived.Test.YtmjkenlifgmeeaaGreatDoorQzQq
set_option maxHeartbeats 4000000
set_option maxRecDepth 100000
set_option linter.unusedVariables false
set_option linter.unusedSimpArgs false
namespace Lum
open Go Go.RowKit Go.Shelf
open Go.Lib (decDigits itoa)
def levE (x:Txt):Int:=if ratCheck x ≠ 0 then ratCheck x else if valR x < 0 ∨ ((65535:Int):Rat) < valR x then 2 else 0
def glE (fr:Txt) (tz st ti:Int):Int:=if levE fr ≠ 0 then levE fr else if ¬ ((0 ≤ tz ∧ tz ≤ 65535) ∧ ((0 ≤ st ∧ st ≤ 10000000) ∧ (0 ≤ ti ∧ ti ≤ 10000000))) then 2 else 0
theorem levE_bad {x:Txt} (h:¬ ratCheck x = 0):levE x = ratCheck x:=by unfold levE;rw [if_pos h]
theorem levE_out {q:Rat} (h:ratCheck (showR q) = 0) (h2:q < 0 ∨ ((65535:Int):Rat) < q):levE (showR q) = 2:=by unfold levE;rw [if_neg (by simpa using h),valR_showR,if_pos h2]
theorem levE_in {q:Rat} (h:ratCheck (showR q) = 0) (h2:¬ (q < 0 ∨ ((65535:Int):Rat) < q)):levE (showR q) = 0:=by unfold levE;rw [if_neg (by simpa using h),valR_showR,if_neg h2]
theorem glE_lev {fr:Txt} {tz st ti:Int} (h:¬ levE fr = 0):glE fr tz st ti = levE fr:=by unfold glE;rw [if_pos h]
theorem glE_out {fr:Txt} {tz st ti:Int} (h:levE fr = 0) (h2:¬ ((0 ≤ tz ∧ tz ≤ 65535) ∧ ((0 ≤ st ∧ st ≤ 10000000) ∧ (0 ≤ ti ∧ ti ≤ 10000000)))):glE fr tz st ti = 2:=by unfold glE;rw [if_neg (by simpa using h),if_pos h2]
theorem glE_in {fr:Txt} {tz st ti:Int} (h:levE fr = 0) (h2:(0 ≤ tz ∧ tz ≤ 65535) ∧ ((0 ≤ st ∧ st ≤ 10000000) ∧ (0 ≤ ti ∧ ti ≤ 10000000))):glE fr tz st ti = 0:=by unfold glE;rw [if_neg (by simpa using h),if_neg (fun g => g h2)]
theorem levE_zero {x:Txt} (h:levE x = 0):∃ q,x = showR q ∧ 0 ≤ q ∧ q ≤ ((65535:Int):Rat):=by
  by_cases h1:ratCheck x = 0
  · obtain ⟨q,rfl,-⟩:=ratCheck_zero x h1
    by_cases h2:q < 0 ∨ ((65535:Int):Rat) < q
    · rw [levE_out h1 h2] at h;cases h
    · exact ⟨q,rfl,Rat.not_lt.1 fun g => h2 (.inl g),Rat.not_lt.1 fun g => h2 (.inr g)⟩
  · rw [levE_bad h1] at h;exact absurd h h1
theorem glE_zero {fr:Txt} {tz st ti:Int} (h:glE fr tz st ti = 0):levE fr = 0 ∧ (0 ≤ tz ∧ tz ≤ 65535) ∧ ((0 ≤ st ∧ st ≤ 10000000) ∧ (0 ≤ ti ∧ ti ≤ 10000000)):=by
  by_cases h1:levE fr = 0
  · by_cases h2:(0 ≤ tz ∧ tz ≤ 65535) ∧ ((0 ≤ st ∧ st ≤ 10000000) ∧ (0 ≤ ti ∧ ti ≤ 10000000))
    · exact ⟨h1,h2⟩
    · rw [glE_out h1 h2] at h;cases h
  · rw [glE_lev h1] at h;exact absurd h h1
def glV (q:Rat) (tz st ti t:Int):Rat:=if t < st then q else if st + ti ≤ t then (tz:Rat) else q + ((tz:Rat) - q) * Rat.divInt (t - st) ti
def glT (fr:Txt) (tz st ti t:Int):Txt:=showR (glV (valR fr) tz st ti t)
theorem k65:showR ((65535:Int):Rat) = [54,53,53,51,53]:=by decide +kernel
theorem f65:Fits 5 ((65535:Int):Rat):=by unfold Fits;decide +kernel
theorem divI_fits (m R:Int) (hm0:-9223372036854775808 ≤ m) (hm1:m ≤ 9223372036854775807) (hR0:1 ≤ R) (hR1:R ≤ 9223372036854775807):Fits 19 (Rat.divInt m R) :=
  divInt_fits m R (by omega) 19 (dl_i64 m hm0 hm1) (dl_i64 R (by omega) hR1)
theorem glV_fits {k:Nat} {q:Rat} {tz st ti:Int} (t:Int) (hq:Fits k q) (h0:0 ≤ tz) (h1:tz ≤ 65535) (s0:0 ≤ st) (s1:st ≤ 10000000) (t1:ti ≤ 10000000):Fits (2 * k + 60) (glV q tz st ti t):=by
  have ft:=fits_i64 tz (by omega) (by omega)
  unfold glV
  split
  · exact hq.mono (by omega)
  · split
    · exact ft.mono (by omega)
    · have hd:=divI_fits (t - st) ti (by omega) (by omega) (by omega) (by omega)
      exact (fits_mix2 hq ft hd).mono (by omega)
def inAll1 (hi x:Int):Bool:=decide (0 ≤ x ∧ x ≤ hi)
def inAll2 (hi x y:Int):Bool:=decide ((0 ≤ x ∧ x ≤ hi) ∧ (0 ≤ y ∧ y ≤ hi))
end Lum
namespace Go.Proofs.YtmjkenlifgmeeaaGreatDoor
open Go.RowKit Go.Shelf Lum
open Go.Lib (decDigits itoa)
attribute [local go_sem] bs_get bs_extract_end bs_extract_from bs_extract bs_append
theorem own_gwithin1 (hi x : Int) (b c : Nat) (w : World) (c0 : w.cell? ⟨b, 0, none⟩ = some (.int .i64 x)) :
    Calls Tryz.prog 96 #[.int .i64 hi,.slice (some ⟨b,0,none⟩) 1 c] w fun e w' => e = .returned (.bool (inAll1 hi x)) ∧ w = w':=by
  unfold inAll1
  by_cases l0:0 ≤ x
  · by_cases g0:x ≤ hi
    · rw [decide_eq_true ⟨l0,g0⟩]
      have hl0:¬ x < 0:=by omega
      have hg0:¬ hi < x:=by omega
      clear l0 g0
      go_enter Tryz.func96,Tryz.ntmps96
      go_wp2
      refine wp_loop_rounds 2 ?_
      rw [rounds_succ]
      go_wp2
      rw [rounds_succ]
      go_wp2
      go_ret
      exact ⟨rfl,rfl⟩
    · rw [decide_eq_false (fun h => g0 h.2)]
      have hl0:¬ x < 0:=by omega
      have hb0:hi < x:=by omega
      go_enter Tryz.func96,Tryz.ntmps96
      go_wp2
      refine wp_loop_rounds 2 ?_
      rw [rounds_succ]
      go_wp2
      go_ret
      exact ⟨rfl,rfl⟩
  · rw [decide_eq_false (fun h => l0 h.1)]
    have hb0:x < 0:=by omega
    go_enter Tryz.func96,Tryz.ntmps96
    go_wp2
    refine wp_loop_rounds 2 ?_
    rw [rounds_succ]
    go_wp2
    go_ret
    exact ⟨rfl,rfl⟩
theorem own_gwithin2 (hi x y : Int) (b c : Nat) (w : World) (c0 : w.cell? ⟨b, 0, none⟩ = some (.int .i64 x)) (c1 : w.cell? ⟨b, 1, none⟩ = some (.int .i64 y)) :
    Calls Tryz.prog 96 #[.int .i64 hi,.slice (some ⟨b,0,none⟩) 2 c] w fun e w' => e = .returned (.bool (inAll2 hi x y)) ∧ w = w':=by
  unfold inAll2
  by_cases l0:0 ≤ x
  · by_cases g0:x ≤ hi
    · by_cases l1:0 ≤ y
      · by_cases g1:y ≤ hi
        · rw [decide_eq_true ⟨⟨l0,g0⟩,⟨l1,g1⟩⟩]
          have hl0:¬ x < 0:=by omega
          have hl1:¬ y < 0:=by omega
          have hg0:¬ hi < x:=by omega
          have hg1:¬ hi < y:=by omega
          clear l0 g0 l1 g1
          go_enter Tryz.func96,Tryz.ntmps96
          go_wp2
          refine wp_loop_rounds 3 ?_
          rw [rounds_succ]
          go_wp2
          rw [rounds_succ]
          go_wp2
          rw [rounds_succ]
          go_wp2
          go_ret
          exact ⟨rfl,rfl⟩
        · rw [decide_eq_false (fun h => g1 h.2.2)]
          have hl0:¬ x < 0:=by omega
          have hl1:¬ y < 0:=by omega
          have hg0:¬ hi < x:=by omega
          have hb1:hi < y:=by omega
          go_enter Tryz.func96,Tryz.ntmps96
          go_wp2
          refine wp_loop_rounds 3 ?_
          rw [rounds_succ]
          go_wp2
          rw [rounds_succ]
          go_wp2
          go_ret
          exact ⟨rfl,rfl⟩
      · rw [decide_eq_false (fun h => l1 h.2.1)]
        have hl0:¬ x < 0:=by omega
        have hg0:¬ hi < x:=by omega
        have hb1:y < 0:=by omega
        go_enter Tryz.func96,Tryz.ntmps96
        go_wp2
        refine wp_loop_rounds 3 ?_
        rw [rounds_succ]
        go_wp2
        rw [rounds_succ]
        go_wp2
        go_ret
        exact ⟨rfl,rfl⟩
    · rw [decide_eq_false (fun h => g0 h.1.2)]
      have hl0:¬ x < 0:=by omega
      have hb0:hi < x:=by omega
      go_enter Tryz.func96,Tryz.ntmps96
      go_wp2
      refine wp_loop_rounds 3 ?_
      rw [rounds_succ]
      go_wp2
      go_ret
      exact ⟨rfl,rfl⟩
  · rw [decide_eq_false (fun h => l0 h.1.1)]
    have hb0:x < 0:=by omega
    go_enter Tryz.func96,Tryz.ntmps96
    go_wp2
    refine wp_loop_rounds 3 ?_
    rw [rounds_succ]
    go_wp2
    go_ret
    exact ⟨rfl,rfl⟩
theorem own_glevel (x : Txt) (w : World) (hx : x.length ≤ 1000) (env : Env w) :
    Calls Tryz.prog 111 #[.string ⟨(x).toArray⟩] w fun e w' => e = .returned (.int .i64 (levE x)) ∧ Below w.heap.size w w':=by
  have ENV:=Lib.hid env;clear env
  have HB:=Lib.hid (Below.refl w.heap.size w)
  have hw0:=fun W (e:Env W) => own_whole 0 W (by omega) (by omega) e
  have hw1:=fun W (e:Env W) => own_whole 65535 W (by omega) (by omega) e
  have hc:=fun W (e:Env W) => own_rcheck x W (by omega) e
  have e0:itoa 0 = [48]:=by decide +kernel
  have e1:itoa 65535 = [54,53,53,51,53]:=by decide +kernel
  rw [e0] at hw0
  rw [e1] at hw1
  clear e0 e1
  by_cases hz:ratCheck x = 0
  · obtain ⟨q,rfl,-⟩:=ratCheck_zero x hz
    have fq:=fits_of_len hx
    have c1:=fun W (e:Env W) => own_rcompare (showR 0) (showR q) W e (len_ok fits_0 (by omega)) (len_ok fq (by omega))
    have c2:=fun W (e:Env W) => own_rcompare (showR q) (showR ((65535:Int):Rat)) W e (len_ok fq (by omega)) (len_ok f65 (by omega))
    rw [cmp_gen fits_0 fq (by omega),showR_zero] at c1
    rw [cmp_gen fq f65 (by omega),k65] at c2
    dsimp only at c1 c2
    obtain ⟨s1,hs1⟩:∃ s,s = sgn 0 q:=⟨_,rfl⟩
    obtain ⟨s2,hs2⟩:∃ s,s = sgn q ((65535:Int):Rat):=⟨_,rfl⟩
    rw [← hs1] at c1
    rw [← hs2] at c2
    have HS1:=Lib.hid hs1;have HS2:=Lib.hid hs2;clear hs1 hs2
    rw [hz] at hc
    by_cases h1:q < 0
    · rw [levE_out hz (.inl h1)]
      have g1:0 < s1:=by rw [HS1.out];exact (sgn_gt _ _).2 h1
      clear h1
      have HC:=Lib.hid hc;clear hc
      have HW0:=Lib.hid hw0;clear hw0
      have HW1:=Lib.hid hw1;clear hw1
      have HC1:=Lib.hid c1;clear c1
      have HC2:=Lib.hid c2;clear c2
      clear hz fq
      generalize showR q = tq at *
      have i0:∀ w:World,(Instr.index 206 (.agg #[.string ⟨#[48]⟩,.string ⟨tq.toArray⟩,.string ⟨tq.toArray⟩,.string ⟨#[54,53,53,51,53]⟩]) (.int .i64 0)).run Tryz.prog w = .ok (.agg #[.string ⟨#[48]⟩,.string ⟨tq.toArray⟩]) w:=fun _ => by kernel_rfl
      have i1:∀ w:World,(Instr.index 206 (.agg #[.string ⟨#[48]⟩,.string ⟨tq.toArray⟩,.string ⟨tq.toArray⟩,.string ⟨#[54,53,53,51,53]⟩]) (.int .i64 1)).run Tryz.prog w = .ok (.agg #[.string ⟨tq.toArray⟩,.string ⟨#[54,53,53,51,53]⟩]) w:=fun _ => by kernel_rfl
      go_enter Tryz.func111,Tryz.ntmps111
      go_wp2_with (first | (with_reducible refine ((HC.out _ (ENV.out.below HB.out)).mono ?_);rintro e w' ⟨rfl,hb⟩;replace HB:=Lib.hid (bch' HB.out hb);clear hb) | (with_reducible refine ((HW0.out _ (ENV.out.below HB.out)).mono ?_);rintro e w' ⟨rfl,hb⟩;replace HB:=Lib.hid (bch' HB.out hb);clear hb) | (with_reducible refine ((HW1.out _ (ENV.out.below HB.out)).mono ?_);rintro e w' ⟨rfl,hb⟩;replace HB:=Lib.hid (bch' HB.out hb);clear hb) | (with_reducible refine ((HC1.out _ (ENV.out.below (HB.out.alloc HB.out.size _))).mono ?_);rintro e w' ⟨rfl,hb⟩;replace HB:=Lib.hid (bch' (HB.out.alloc HB.out.size _) hb);clear hb) | (with_reducible refine ((HC2.out _ (ENV.out.below (HB.out.alloc HB.out.size _))).mono ?_);rintro e w' ⟨rfl,hb⟩;replace HB:=Lib.hid (bch' (HB.out.alloc HB.out.size _) hb);clear hb))
      refine wp_loop_rounds 3 ?_
      rw [rounds_succ]
      go_wp2_with (first | (with_reducible refine ((HC.out _ (ENV.out.below HB.out)).mono ?_);rintro e w' ⟨rfl,hb⟩;replace HB:=Lib.hid (bch' HB.out hb);clear hb) | (with_reducible refine ((HW0.out _ (ENV.out.below HB.out)).mono ?_);rintro e w' ⟨rfl,hb⟩;replace HB:=Lib.hid (bch' HB.out hb);clear hb) | (with_reducible refine ((HW1.out _ (ENV.out.below HB.out)).mono ?_);rintro e w' ⟨rfl,hb⟩;replace HB:=Lib.hid (bch' HB.out hb);clear hb) | (with_reducible refine ((HC1.out _ (ENV.out.below (HB.out.alloc HB.out.size _))).mono ?_);rintro e w' ⟨rfl,hb⟩;replace HB:=Lib.hid (bch' (HB.out.alloc HB.out.size _) hb);clear hb) | (with_reducible refine ((HC2.out _ (ENV.out.below (HB.out.alloc HB.out.size _))).mono ?_);rintro e w' ⟨rfl,hb⟩;replace HB:=Lib.hid (bch' (HB.out.alloc HB.out.size _) hb);clear hb))
      go_ret
      exact ⟨rfl,HB.out⟩
    have g1:¬ 0 < s1:=by rw [HS1.out];exact mt (sgn_gt _ _).1 h1
    by_cases h2:((65535:Int):Rat) < q
    · rw [levE_out hz (.inr h2)]
      have g2:0 < s2:=by rw [HS2.out];exact (sgn_gt _ _).2 h2
      clear h1 h2
      have HC:=Lib.hid hc;clear hc
      have HW0:=Lib.hid hw0;clear hw0
      have HW1:=Lib.hid hw1;clear hw1
      have HC1:=Lib.hid c1;clear c1
      have HC2:=Lib.hid c2;clear c2
      clear hz fq
      generalize showR q = tq at *
      have i0:∀ w:World,(Instr.index 206 (.agg #[.string ⟨#[48]⟩,.string ⟨tq.toArray⟩,.string ⟨tq.toArray⟩,.string ⟨#[54,53,53,51,53]⟩]) (.int .i64 0)).run Tryz.prog w = .ok (.agg #[.string ⟨#[48]⟩,.string ⟨tq.toArray⟩]) w:=fun _ => by kernel_rfl
      have i1:∀ w:World,(Instr.index 206 (.agg #[.string ⟨#[48]⟩,.string ⟨tq.toArray⟩,.string ⟨tq.toArray⟩,.string ⟨#[54,53,53,51,53]⟩]) (.int .i64 1)).run Tryz.prog w = .ok (.agg #[.string ⟨tq.toArray⟩,.string ⟨#[54,53,53,51,53]⟩]) w:=fun _ => by kernel_rfl
      go_enter Tryz.func111,Tryz.ntmps111
      go_wp2_with (first | (with_reducible refine ((HC.out _ (ENV.out.below HB.out)).mono ?_);rintro e w' ⟨rfl,hb⟩;replace HB:=Lib.hid (bch' HB.out hb);clear hb) | (with_reducible refine ((HW0.out _ (ENV.out.below HB.out)).mono ?_);rintro e w' ⟨rfl,hb⟩;replace HB:=Lib.hid (bch' HB.out hb);clear hb) | (with_reducible refine ((HW1.out _ (ENV.out.below HB.out)).mono ?_);rintro e w' ⟨rfl,hb⟩;replace HB:=Lib.hid (bch' HB.out hb);clear hb) | (with_reducible refine ((HC1.out _ (ENV.out.below (HB.out.alloc HB.out.size _))).mono ?_);rintro e w' ⟨rfl,hb⟩;replace HB:=Lib.hid (bch' (HB.out.alloc HB.out.size _) hb);clear hb) | (with_reducible refine ((HC2.out _ (ENV.out.below (HB.out.alloc HB.out.size _))).mono ?_);rintro e w' ⟨rfl,hb⟩;replace HB:=Lib.hid (bch' (HB.out.alloc HB.out.size _) hb);clear hb))
      refine wp_loop_rounds 3 ?_
      rw [rounds_succ]
      go_wp2_with (first | (with_reducible refine ((HC.out _ (ENV.out.below HB.out)).mono ?_);rintro e w' ⟨rfl,hb⟩;replace HB:=Lib.hid (bch' HB.out hb);clear hb) | (with_reducible refine ((HW0.out _ (ENV.out.below HB.out)).mono ?_);rintro e w' ⟨rfl,hb⟩;replace HB:=Lib.hid (bch' HB.out hb);clear hb) | (with_reducible refine ((HW1.out _ (ENV.out.below HB.out)).mono ?_);rintro e w' ⟨rfl,hb⟩;replace HB:=Lib.hid (bch' HB.out hb);clear hb) | (with_reducible refine ((HC1.out _ (ENV.out.below (HB.out.alloc HB.out.size _))).mono ?_);rintro e w' ⟨rfl,hb⟩;replace HB:=Lib.hid (bch' (HB.out.alloc HB.out.size _) hb);clear hb) | (with_reducible refine ((HC2.out _ (ENV.out.below (HB.out.alloc HB.out.size _))).mono ?_);rintro e w' ⟨rfl,hb⟩;replace HB:=Lib.hid (bch' (HB.out.alloc HB.out.size _) hb);clear hb))
      rw [rounds_succ]
      go_wp2_with (first | (with_reducible refine ((HC.out _ (ENV.out.below HB.out)).mono ?_);rintro e w' ⟨rfl,hb⟩;replace HB:=Lib.hid (bch' HB.out hb);clear hb) | (with_reducible refine ((HW0.out _ (ENV.out.below HB.out)).mono ?_);rintro e w' ⟨rfl,hb⟩;replace HB:=Lib.hid (bch' HB.out hb);clear hb) | (with_reducible refine ((HW1.out _ (ENV.out.below HB.out)).mono ?_);rintro e w' ⟨rfl,hb⟩;replace HB:=Lib.hid (bch' HB.out hb);clear hb) | (with_reducible refine ((HC1.out _ (ENV.out.below (HB.out.alloc HB.out.size _))).mono ?_);rintro e w' ⟨rfl,hb⟩;replace HB:=Lib.hid (bch' (HB.out.alloc HB.out.size _) hb);clear hb) | (with_reducible refine ((HC2.out _ (ENV.out.below (HB.out.alloc HB.out.size _))).mono ?_);rintro e w' ⟨rfl,hb⟩;replace HB:=Lib.hid (bch' (HB.out.alloc HB.out.size _) hb);clear hb))
      go_ret
      exact ⟨rfl,HB.out⟩
    have g2:¬ 0 < s2:=by rw [HS2.out];exact mt (sgn_gt _ _).1 h2
    rw [levE_in hz (fun h => h.elim h1 h2)]
    clear h1 h2
    have HC:=Lib.hid hc;clear hc
    have HW0:=Lib.hid hw0;clear hw0
    have HW1:=Lib.hid hw1;clear hw1
    have HC1:=Lib.hid c1;clear c1
    have HC2:=Lib.hid c2;clear c2
    clear hz fq
    generalize showR q = tq at *
    have i0:∀ w:World,(Instr.index 206 (.agg #[.string ⟨#[48]⟩,.string ⟨tq.toArray⟩,.string ⟨tq.toArray⟩,.string ⟨#[54,53,53,51,53]⟩]) (.int .i64 0)).run Tryz.prog w = .ok (.agg #[.string ⟨#[48]⟩,.string ⟨tq.toArray⟩]) w:=fun _ => by kernel_rfl
    have i1:∀ w:World,(Instr.index 206 (.agg #[.string ⟨#[48]⟩,.string ⟨tq.toArray⟩,.string ⟨tq.toArray⟩,.string ⟨#[54,53,53,51,53]⟩]) (.int .i64 1)).run Tryz.prog w = .ok (.agg #[.string ⟨tq.toArray⟩,.string ⟨#[54,53,53,51,53]⟩]) w:=fun _ => by kernel_rfl
    go_enter Tryz.func111,Tryz.ntmps111
    go_wp2_with (first | (with_reducible refine ((HC.out _ (ENV.out.below HB.out)).mono ?_);rintro e w' ⟨rfl,hb⟩;replace HB:=Lib.hid (bch' HB.out hb);clear hb) | (with_reducible refine ((HW0.out _ (ENV.out.below HB.out)).mono ?_);rintro e w' ⟨rfl,hb⟩;replace HB:=Lib.hid (bch' HB.out hb);clear hb) | (with_reducible refine ((HW1.out _ (ENV.out.below HB.out)).mono ?_);rintro e w' ⟨rfl,hb⟩;replace HB:=Lib.hid (bch' HB.out hb);clear hb) | (with_reducible refine ((HC1.out _ (ENV.out.below (HB.out.alloc HB.out.size _))).mono ?_);rintro e w' ⟨rfl,hb⟩;replace HB:=Lib.hid (bch' (HB.out.alloc HB.out.size _) hb);clear hb) | (with_reducible refine ((HC2.out _ (ENV.out.below (HB.out.alloc HB.out.size _))).mono ?_);rintro e w' ⟨rfl,hb⟩;replace HB:=Lib.hid (bch' (HB.out.alloc HB.out.size _) hb);clear hb))
    refine wp_loop_rounds 3 ?_
    rw [rounds_succ]
    go_wp2_with (first | (with_reducible refine ((HC.out _ (ENV.out.below HB.out)).mono ?_);rintro e w' ⟨rfl,hb⟩;replace HB:=Lib.hid (bch' HB.out hb);clear hb) | (with_reducible refine ((HW0.out _ (ENV.out.below HB.out)).mono ?_);rintro e w' ⟨rfl,hb⟩;replace HB:=Lib.hid (bch' HB.out hb);clear hb) | (with_reducible refine ((HW1.out _ (ENV.out.below HB.out)).mono ?_);rintro e w' ⟨rfl,hb⟩;replace HB:=Lib.hid (bch' HB.out hb);clear hb) | (with_reducible refine ((HC1.out _ (ENV.out.below (HB.out.alloc HB.out.size _))).mono ?_);rintro e w' ⟨rfl,hb⟩;replace HB:=Lib.hid (bch' (HB.out.alloc HB.out.size _) hb);clear hb) | (with_reducible refine ((HC2.out _ (ENV.out.below (HB.out.alloc HB.out.size _))).mono ?_);rintro e w' ⟨rfl,hb⟩;replace HB:=Lib.hid (bch' (HB.out.alloc HB.out.size _) hb);clear hb))
    rw [rounds_succ]
    go_wp2_with (first | (with_reducible refine ((HC.out _ (ENV.out.below HB.out)).mono ?_);rintro e w' ⟨rfl,hb⟩;replace HB:=Lib.hid (bch' HB.out hb);clear hb) | (with_reducible refine ((HW0.out _ (ENV.out.below HB.out)).mono ?_);rintro e w' ⟨rfl,hb⟩;replace HB:=Lib.hid (bch' HB.out hb);clear hb) | (with_reducible refine ((HW1.out _ (ENV.out.below HB.out)).mono ?_);rintro e w' ⟨rfl,hb⟩;replace HB:=Lib.hid (bch' HB.out hb);clear hb) | (with_reducible refine ((HC1.out _ (ENV.out.below (HB.out.alloc HB.out.size _))).mono ?_);rintro e w' ⟨rfl,hb⟩;replace HB:=Lib.hid (bch' (HB.out.alloc HB.out.size _) hb);clear hb) | (with_reducible refine ((HC2.out _ (ENV.out.below (HB.out.alloc HB.out.size _))).mono ?_);rintro e w' ⟨rfl,hb⟩;replace HB:=Lib.hid (bch' (HB.out.alloc HB.out.size _) hb);clear hb))
    rw [rounds_succ]
    go_wp2_with (first | (with_reducible refine ((HC.out _ (ENV.out.below HB.out)).mono ?_);rintro e w' ⟨rfl,hb⟩;replace HB:=Lib.hid (bch' HB.out hb);clear hb) | (with_reducible refine ((HW0.out _ (ENV.out.below HB.out)).mono ?_);rintro e w' ⟨rfl,hb⟩;replace HB:=Lib.hid (bch' HB.out hb);clear hb) | (with_reducible refine ((HW1.out _ (ENV.out.below HB.out)).mono ?_);rintro e w' ⟨rfl,hb⟩;replace HB:=Lib.hid (bch' HB.out hb);clear hb) | (with_reducible refine ((HC1.out _ (ENV.out.below (HB.out.alloc HB.out.size _))).mono ?_);rintro e w' ⟨rfl,hb⟩;replace HB:=Lib.hid (bch' (HB.out.alloc HB.out.size _) hb);clear hb) | (with_reducible refine ((HC2.out _ (ENV.out.below (HB.out.alloc HB.out.size _))).mono ?_);rintro e w' ⟨rfl,hb⟩;replace HB:=Lib.hid (bch' (HB.out.alloc HB.out.size _) hb);clear hb))
    go_ret
    exact ⟨rfl,HB.out⟩
  · rw [levE_bad hz]
    have hne:((ratCheck x:Int) != 0) = true:=by simpa using hz
    clear hz
    generalize ratCheck x = m at *
    have HC:=Lib.hid hc;clear hc
    have HW0:=Lib.hid hw0;clear hw0
    have HW1:=Lib.hid hw1;clear hw1
    go_enter Tryz.func111,Tryz.ntmps111
    go_wp2_with (first | (with_reducible refine ((HC.out _ (ENV.out.below HB.out)).mono ?_);rintro e w' ⟨rfl,hb⟩;replace HB:=Lib.hid (bch' HB.out hb);clear hb))
    go_ret
    exact ⟨rfl,HB.out⟩
theorem own_gcheck (fr : Txt) (tz st ti : Int) (w : World) (hx : fr.length ≤ 1000) (env : Env w) :
    Calls Tryz.prog 63 #[.agg #[.string ⟨fr.toArray⟩,.int .i64 tz,.int .i64 st,.int .i64 ti]] w fun e w' => e = .returned (.int .i64 (glE fr tz st ti)) ∧ Below w.heap.size w w':=by
  have ENV:=Lib.hid env;clear env
  have HK:=Lib.hid (Blk.new w 93 #[.string ⟨fr.toArray⟩,.int .i64 tz,.int .i64 st,.int .i64 ti])
  have HB:=Lib.hid ((Below.refl w.heap.size w).alloc (Nat.le_refl _) (.cells #[.string ⟨fr.toArray⟩,.int .i64 tz,.int .i64 st,.int .i64 ti] 93))
  obtain ⟨k0,k1,k2,k3,kf0,kf1,kf2,kf3⟩:=HK.out.c4
  have hc:=fun W (e:Env W) => own_glevel fr W hx e
  by_cases hz:levE fr = 0
  · rw [hz] at hc
    have HC:=Lib.hid hc;clear hc
    have hi1:∀ W:World,Calls Tryz.prog 96 #[.int .i64 65535,.slice (some ⟨W.heap.size,0,none⟩) 1 1] (W.alloc (.cells #[.int .i64 tz] 3)) fun e w' => e = .returned (.bool (inAll1 65535 tz)) ∧ Below W.heap.size W w':=fun W => (own_gwithin1 65535 tz _ _ _ (by rw [World.cell?_alloc_new];rfl)).mono fun e w2 h => ⟨h.1,by rw [← h.2];exact (Below.refl _ _).alloc (Nat.le_refl _) _⟩
    have hi2:∀ W:World,Calls Tryz.prog 96 #[.int .i64 10000000,.slice (some ⟨W.heap.size,0,none⟩) 2 2] (W.alloc (.cells #[.int .i64 st,.int .i64 ti] 3)) fun e w' => e = .returned (.bool (inAll2 10000000 st ti)) ∧ Below W.heap.size W w':=fun W => (own_gwithin2 10000000 st ti _ _ _ (by rw [World.cell?_alloc_new];rfl) (by rw [World.cell?_alloc_new];rfl)).mono fun e w2 h => ⟨h.1,by rw [← h.2];exact (Below.refl _ _).alloc (Nat.le_refl _) _⟩
    have f1:inAll1 65535 tz = decide (0 ≤ tz ∧ tz ≤ 65535):=rfl
    have f2:inAll2 10000000 st ti = decide ((0 ≤ st ∧ st ≤ 10000000) ∧ (0 ≤ ti ∧ ti ≤ 10000000)):=rfl
    by_cases h1:0 ≤ tz ∧ tz ≤ 65535
    · rw [decide_eq_true h1] at f1
      rw [f1] at hi1
      by_cases h2:(0 ≤ st ∧ st ≤ 10000000) ∧ (0 ≤ ti ∧ ti ≤ 10000000)
      · rw [glE_in hz ⟨h1,h2⟩]
        rw [decide_eq_true h2] at f2
        rw [f2] at hi2
        have HI1:=Lib.hid hi1;clear hi1
        have HI2:=Lib.hid hi2;clear hi2
        clear h1 h2 hz f1 f2
        go_enter Tryz.func63,Tryz.ntmps63
        go_wp2_with (first | (with_reducible refine ((HC.out _ (ENV.out.below HB.out)).mono ?_);rintro e w' ⟨rfl,hb⟩;replace HK:=Lib.hid (HK.out.keep hb);clear k0 k1 k2 k3 kf0 kf1 kf2 kf3;replace HB:=Lib.hid (bch' HB.out hb);clear hb;obtain ⟨k0,k1,k2,k3,kf0,kf1,kf2,kf3⟩:=HK.out.c4) | (with_reducible refine ((HI1.out _).mono ?_);rintro e w' ⟨rfl,hb⟩;replace HK:=Lib.hid (HK.out.keep hb);clear k0 k1 k2 k3 kf0 kf1 kf2 kf3;replace HB:=Lib.hid (bch' HB.out hb);clear hb;obtain ⟨k0,k1,k2,k3,kf0,kf1,kf2,kf3⟩:=HK.out.c4) | (with_reducible refine ((HI2.out _).mono ?_);rintro e w' ⟨rfl,hb⟩;replace HK:=Lib.hid (HK.out.keep hb);clear k0 k1 k2 k3 kf0 kf1 kf2 kf3;replace HB:=Lib.hid (bch' HB.out hb);clear hb;obtain ⟨k0,k1,k2,k3,kf0,kf1,kf2,kf3⟩:=HK.out.c4))
        go_ret
        exact ⟨rfl,HB.out⟩
      · rw [glE_out hz (fun h => h2 h.2)]
        rw [decide_eq_false h2] at f2
        rw [f2] at hi2
        have HI1:=Lib.hid hi1;clear hi1
        have HI2:=Lib.hid hi2;clear hi2
        clear h1 h2 hz f1 f2
        go_enter Tryz.func63,Tryz.ntmps63
        go_wp2_with (first | (with_reducible refine ((HC.out _ (ENV.out.below HB.out)).mono ?_);rintro e w' ⟨rfl,hb⟩;replace HK:=Lib.hid (HK.out.keep hb);clear k0 k1 k2 k3 kf0 kf1 kf2 kf3;replace HB:=Lib.hid (bch' HB.out hb);clear hb;obtain ⟨k0,k1,k2,k3,kf0,kf1,kf2,kf3⟩:=HK.out.c4) | (with_reducible refine ((HI1.out _).mono ?_);rintro e w' ⟨rfl,hb⟩;replace HK:=Lib.hid (HK.out.keep hb);clear k0 k1 k2 k3 kf0 kf1 kf2 kf3;replace HB:=Lib.hid (bch' HB.out hb);clear hb;obtain ⟨k0,k1,k2,k3,kf0,kf1,kf2,kf3⟩:=HK.out.c4) | (with_reducible refine ((HI2.out _).mono ?_);rintro e w' ⟨rfl,hb⟩;replace HK:=Lib.hid (HK.out.keep hb);clear k0 k1 k2 k3 kf0 kf1 kf2 kf3;replace HB:=Lib.hid (bch' HB.out hb);clear hb;obtain ⟨k0,k1,k2,k3,kf0,kf1,kf2,kf3⟩:=HK.out.c4))
        go_ret
        exact ⟨rfl,HB.out⟩
    · rw [glE_out hz (fun h => h1 h.1)]
      rw [decide_eq_false h1] at f1
      rw [f1] at hi1
      have HI1:=Lib.hid hi1;clear hi1
      have HI2:=Lib.hid hi2;clear hi2
      clear h1 hz f1 f2
      go_enter Tryz.func63,Tryz.ntmps63
      go_wp2_with (first | (with_reducible refine ((HC.out _ (ENV.out.below HB.out)).mono ?_);rintro e w' ⟨rfl,hb⟩;replace HK:=Lib.hid (HK.out.keep hb);clear k0 k1 k2 k3 kf0 kf1 kf2 kf3;replace HB:=Lib.hid (bch' HB.out hb);clear hb;obtain ⟨k0,k1,k2,k3,kf0,kf1,kf2,kf3⟩:=HK.out.c4) | (with_reducible refine ((HI1.out _).mono ?_);rintro e w' ⟨rfl,hb⟩;replace HK:=Lib.hid (HK.out.keep hb);clear k0 k1 k2 k3 kf0 kf1 kf2 kf3;replace HB:=Lib.hid (bch' HB.out hb);clear hb;obtain ⟨k0,k1,k2,k3,kf0,kf1,kf2,kf3⟩:=HK.out.c4) | (with_reducible refine ((HI2.out _).mono ?_);rintro e w' ⟨rfl,hb⟩;replace HK:=Lib.hid (HK.out.keep hb);clear k0 k1 k2 k3 kf0 kf1 kf2 kf3;replace HB:=Lib.hid (bch' HB.out hb);clear hb;obtain ⟨k0,k1,k2,k3,kf0,kf1,kf2,kf3⟩:=HK.out.c4))
      go_ret
      exact ⟨rfl,HB.out⟩
  · rw [glE_lev hz]
    have hne:((levE fr:Int) != 0) = true:=by simpa using hz
    clear hz
    generalize levE fr = m at *
    have HC:=Lib.hid hc;clear hc
    go_enter Tryz.func63,Tryz.ntmps63
    go_wp2_with (first | (with_reducible refine ((HC.out _ (ENV.out.below HB.out)).mono ?_);rintro e w' ⟨rfl,hb⟩;replace HK:=Lib.hid (HK.out.keep hb);clear k0 k1 k2 k3 kf0 kf1 kf2 kf3;replace HB:=Lib.hid (bch' HB.out hb);clear hb;obtain ⟨k0,k1,k2,k3,kf0,kf1,kf2,kf3⟩:=HK.out.c4))
    go_ret
    exact ⟨rfl,HB.out⟩
theorem own_gfull (w : World) (env : Env w) :
    Calls Tryz.prog 92 #[] w fun e w' => e = .returned (.agg #[.string ⟨#[54,53,53,51,53]⟩,.int .i64 65535,.int .i64 0,.int .i64 0]) ∧ Below w.heap.size w w':=by
  have ENV:=Lib.hid env;clear env
  have HK:=Lib.hid (Blk.new w 93 #[.string ⟨#[]⟩,.int .i64 0,.int .i64 0,.int .i64 0])
  have HB:=Lib.hid ((Below.refl w.heap.size w).alloc (Nat.le_refl _) (.cells #[.string ⟨#[]⟩,.int .i64 0,.int .i64 0,.int .i64 0] 93))
  obtain ⟨k0,k1,k2,k3,kf0,kf1,kf2,kf3⟩:=HK.out.c4
  have hw0:=fun W (e:Env W) => own_whole 65535 W (by omega) (by omega) e
  rw [show itoa 65535 = [54,53,53,51,53] by decide +kernel] at hw0
  have HW0:=Lib.hid hw0;clear hw0
  go_enter Tryz.func92,Tryz.ntmps92
  go_wp2_with (first | (with_reducible refine ((HW0.out _ (ENV.out.below HB.out)).mono ?_);rintro e w' ⟨rfl,hb⟩;replace HK:=Lib.hid (HK.out.keep hb);clear k0 k1 k2 k3 kf0 kf1 kf2 kf3;replace HB:=Lib.hid (bch' HB.out hb);clear hb;obtain ⟨k0,k1,k2,k3,kf0,kf1,kf2,kf3⟩:=HK.out.c4))
  refine bodyPost_ret_by (v:=.agg #[.string ⟨#[54,53,53,51,53]⟩,.int .i64 65535,.int .i64 0,.int .i64 0]) (by simp [results,Tryz.f92,go_sem,k0,k1,k2,k3,kf0,kf1,kf2,kf3]) rfl ⟨rfl,?_⟩
  exact (((HB.out.setCell (Nat.le_refl _) _).setCell (Nat.le_refl _) _).setCell (Nat.le_refl _) _).setCell (Nat.le_refl _) _
theorem own_gzero (w : World) (env : Env w) :
    Calls Tryz.prog 91 #[] w fun e w' => e = .returned (.agg #[.string ⟨#[48]⟩,.int .i64 0,.int .i64 0,.int .i64 0]) ∧ Below w.heap.size w w':=by
  have ENV:=Lib.hid env;clear env
  have HK:=Lib.hid (Blk.new w 93 #[.string ⟨#[]⟩,.int .i64 0,.int .i64 0,.int .i64 0])
  have HB:=Lib.hid ((Below.refl w.heap.size w).alloc (Nat.le_refl _) (.cells #[.string ⟨#[]⟩,.int .i64 0,.int .i64 0,.int .i64 0] 93))
  obtain ⟨k0,k1,k2,k3,kf0,kf1,kf2,kf3⟩:=HK.out.c4
  have hw0:=fun W (e:Env W) => own_whole 0 W (by omega) (by omega) e
  rw [show itoa 0 = [48] by decide +kernel] at hw0
  have HW0:=Lib.hid hw0;clear hw0
  go_enter Tryz.func91,Tryz.ntmps91
  go_wp2_with (first | (with_reducible refine ((HW0.out _ (ENV.out.below HB.out)).mono ?_);rintro e w' ⟨rfl,hb⟩;replace HK:=Lib.hid (HK.out.keep hb);clear k0 k1 k2 k3 kf0 kf1 kf2 kf3;replace HB:=Lib.hid (bch' HB.out hb);clear hb;obtain ⟨k0,k1,k2,k3,kf0,kf1,kf2,kf3⟩:=HK.out.c4))
  refine bodyPost_ret_by (v:=.agg #[.string ⟨#[48]⟩,.int .i64 0,.int .i64 0,.int .i64 0]) (by simp [results,Tryz.f91,go_sem,k0,k1,k2,k3,kf0,kf1,kf2,kf3]) rfl ⟨rfl,?_⟩
  exact (((HB.out.setCell (Nat.le_refl _) _).setCell (Nat.le_refl _) _).setCell (Nat.le_refl _) _).setCell (Nat.le_refl _) _
theorem own_gbetween (x y : Rat) (p d : Int) (w : World) (fx : Fits 1001 x) (fy : Fits 19 y) (p0 : -9223372036854775808 ≤ p) (p1 : p ≤ 9223372036854775807) (d0 : 1 ≤ d) (d1 : d ≤ 9223372036854775807) (env : Env w) :
    Calls Tryz.prog 131 #[.string ⟨(showR x).toArray⟩,.string ⟨(showR y).toArray⟩,.int .i64 p,.int .i64 d] w fun e w' => e = .returned (.tuple #[.string ⟨(showR (x + (y - x) * Rat.divInt p d)).toArray⟩,.int .i64 0]) ∧ Below w.heap.size w w':=by
  have ENV:=Lib.hid env;clear env
  have HB:=Lib.hid (Below.refl w.heap.size w)
  have hp:=fun W (e:Env W) => own_part p d W p0 p1 (by omega) d1 e
  rw [show partT p d = (showR (Rat.divInt p d),0) by unfold partT;rw [if_neg (by omega)]] at hp
  have fd:=divI_fits p d p0 p1 d0 d1
  have hm:=fun W (e:Env W) => own_mix (showR x) (showR y) (showR (Rat.divInt p d)) W (len_ok fx (by omega)) (len_ok fy (by omega)) (len_ok fd (by omega)) e
  rw [mix_gen fx fy fd (by omega)] at hm
  dsimp only at hp hm
  clear fx fy fd p0 p1 d0 d1
  generalize showR (x + (y - x) * Rat.divInt p d) = tr at *
  generalize showR (Rat.divInt p d) = tp at *
  generalize showR x = tx at *
  generalize showR y = ty at *
  have HP:=Lib.hid hp;clear hp
  have HM:=Lib.hid hm;clear hm
  go_enter Tryz.func131,Tryz.ntmps131
  go_wp2_with (first | (with_reducible refine ((HP.out _ (ENV.out.below HB.out)).mono ?_);rintro e w' ⟨rfl,hb⟩;replace HB:=Lib.hid (bch' HB.out hb);clear hb) | (with_reducible refine ((HM.out _ (ENV.out.below HB.out)).mono ?_);rintro e w' ⟨rfl,hb⟩;replace HB:=Lib.hid (bch' HB.out hb);clear hb))
  go_ret2
  exact ⟨rfl,HB.out⟩
end Go.Proofs.YtmjkenlifgmeeaaGreatDoor
namespace Lum
open Go Go.RowKit Go.Shelf
open Go.Lib (decDigits itoa)
theorem glE_ok {q:Rat} {tz st ti:Int} (hx:(showR q).length ≤ 1000) (q0:0 ≤ q) (q1:q ≤ ((65535:Int):Rat)) (h0:0 ≤ tz ∧ tz ≤ 65535) (h1:0 ≤ st ∧ st ≤ 10000000) (h2:0 ≤ ti ∧ ti ≤ 10000000):glE (showR q) tz st ti = 0 :=
  glE_in (levE_in (check_gen (fits_of_len hx) (by omega)) (fun h => h.elim (fun g => absurd g (Rat.not_lt.2 q0)) (fun g => absurd g (Rat.not_lt.2 q1)))) ⟨h0,h1,h2⟩
theorem glV_before {q:Rat} {tz st ti t:Int} (h:t < st):glV q tz st ti t = q:=by unfold glV;rw [if_pos h]
theorem glV_behind {q:Rat} {tz st ti t:Int} (h1:¬ t < st) (h:st + ti ≤ t):glV q tz st ti t = (tz:Rat):=by unfold glV;rw [if_neg h1,if_pos h]
theorem glV_mid {q:Rat} {tz st ti t:Int} (h1:¬ t < st) (h:¬ st + ti ≤ t):glV q tz st ti t = q + ((tz:Rat) - q) * Rat.divInt (t - st) ti:=by unfold glV;rw [if_neg h1,if_neg h]
end Lum
namespace Go.Proofs.YtmjkenlifgmeeaaGreatDoor
open Go.RowKit Go.Shelf Lum
open Go.Lib (decDigits itoa)
attribute [local go_sem] bs_get bs_extract_end bs_extract_from bs_extract bs_append
theorem own_gat_ok (q : Rat) (tz st ti t : Int) (w : World) (hx : (showR q).length ≤ 1000) (q0 : 0 ≤ q) (q1 : q ≤ ((65535 : Int) : Rat)) (h0 : 0 ≤ tz ∧ tz ≤ 65535) (h1 : 0 ≤ st ∧ st ≤ 10000000) (h2 : 0 ≤ ti ∧ ti ≤ 10000000) (env : Env w) :
    Calls Tryz.prog 95 #[.agg #[.string ⟨(showR q).toArray⟩,.int .i64 tz,.int .i64 st,.int .i64 ti],.int .i64 t] w fun e w' => e = .returned (.tuple #[.string ⟨(showR (glV q tz st ti t)).toArray⟩,.int .i64 0]) ∧ Below w.heap.size w w':=by
  have ENV:=Lib.hid env;clear env
  have HK:=Lib.hid (Blk.new w 93 #[.string ⟨(showR q).toArray⟩,.int .i64 tz,.int .i64 st,.int .i64 ti])
  have HB:=Lib.hid ((Below.refl w.heap.size w).alloc (Nat.le_refl _) (.cells #[.string ⟨(showR q).toArray⟩,.int .i64 tz,.int .i64 st,.int .i64 ti] 93))
  obtain ⟨k0,k1,k2,k3,kf0,kf1,kf2,kf3⟩:=HK.out.c4
  have hc:=fun W (e:Env W) => own_gcheck (showR q) tz st ti W hx e
  rw [glE_ok hx q0 q1 h0 h1 h2] at hc
  have fq:=fits_of_len hx
  have ft:=fits_i64 tz (by omega) (by omega)
  have e1:IntKind.i64.wrap (st + ti) = st + ti:=IntWalk.i64_in _ (by omega)
  by_cases g1:t < st
  · rw [glV_before g1]
    clear fq ft hx q0 q1
    generalize showR q = tq at *
    have HC:=Lib.hid hc;clear hc
    go_enter Tryz.func95,Tryz.ntmps95
    go_wp2_with (first | (with_reducible refine ((HC.out _ (ENV.out.below HB.out)).mono ?_);rintro e w' ⟨rfl,hb⟩;replace HK:=Lib.hid (HK.out.keep hb);clear k0 k1 k2 k3 kf0 kf1 kf2 kf3;replace HB:=Lib.hid (bch' HB.out hb);clear hb;obtain ⟨k0,k1,k2,k3,kf0,kf1,kf2,kf3⟩:=HK.out.c4))
    go_ret2
    exact ⟨rfl,HB.out⟩
  · by_cases g2:st + ti ≤ t
    · rw [glV_behind g1 g2,showR_int]
      have hw:=fun W (e:Env W) => own_whole tz W (by omega) (by omega) e
      clear fq ft hx q0 q1
      generalize showR q = tq at *
      have HC:=Lib.hid hc;clear hc
      have HW:=Lib.hid hw;clear hw
      go_enter Tryz.func95,Tryz.ntmps95
      go_wp2_with (first | (with_reducible refine ((HC.out _ (ENV.out.below HB.out)).mono ?_);rintro e w' ⟨rfl,hb⟩;replace HK:=Lib.hid (HK.out.keep hb);clear k0 k1 k2 k3 kf0 kf1 kf2 kf3;replace HB:=Lib.hid (bch' HB.out hb);clear hb;obtain ⟨k0,k1,k2,k3,kf0,kf1,kf2,kf3⟩:=HK.out.c4) | (with_reducible refine ((HW.out _ (ENV.out.below HB.out)).mono ?_);rintro e w' ⟨rfl,hb⟩;replace HK:=Lib.hid (HK.out.keep hb);clear k0 k1 k2 k3 kf0 kf1 kf2 kf3;replace HB:=Lib.hid (bch' HB.out hb);clear hb;obtain ⟨k0,k1,k2,k3,kf0,kf1,kf2,kf3⟩:=HK.out.c4))
      go_ret2
      exact ⟨rfl,HB.out⟩
    · rw [glV_mid g1 g2]
      have hw:=fun W (e:Env W) => own_whole tz W (by omega) (by omega) e
      rw [← showR_int] at hw
      have hbt:=fun W (e:Env W) => own_gbetween q (tz:Rat) (t - st) ti W fq ft (by omega) (by omega) (by omega) (by omega) e
      have e2:IntKind.i64.wrap (t - st) = t - st:=IntWalk.i64_in _ (by omega)
      clear fq ft hx q0 q1
      generalize showR (q + ((tz:Rat) - q) * Rat.divInt (t - st) ti) = tr at *
      generalize showR (tz:Rat) = tt at *
      generalize showR q = tq at *
      have HC:=Lib.hid hc;clear hc
      have HW:=Lib.hid hw;clear hw
      have HBT:=Lib.hid hbt;clear hbt
      go_enter Tryz.func95,Tryz.ntmps95
      go_wp2_with (first | (with_reducible refine ((HC.out _ (ENV.out.below HB.out)).mono ?_);rintro e w' ⟨rfl,hb⟩;replace HK:=Lib.hid (HK.out.keep hb);clear k0 k1 k2 k3 kf0 kf1 kf2 kf3;replace HB:=Lib.hid (bch' HB.out hb);clear hb;obtain ⟨k0,k1,k2,k3,kf0,kf1,kf2,kf3⟩:=HK.out.c4))
      have f0:=fun p:BelowOf _ => (HK.out.keep p.h).c4.1
      have f1:=fun p:BelowOf _ => (HK.out.keep p.h).c4.2.1
      have f2:=fun p:BelowOf _ => (HK.out.keep p.h).c4.2.2.1
      have f3:=fun p:BelowOf _ => (HK.out.keep p.h).c4.2.2.2.1
      refine wp_region_quiet_below (by kernel_rfl) (by kernel_rfl) ?_
      repeat (quiet_step (first | rfl | (go_at_call 103;exact calls_below_of _ (HW.out _ (ENV.out.below (bch' HB.out (BelowOf.h _))))) | (go_at_call 131;exact calls_below_of _ (HBT.out _ (ENV.out.below (bch' HB.out (BelowOf.h _)))))))
      refine wpQuiet_nil ?_
      intro _ hw'
      obtain ⟨⟨wq,hbq⟩,hw2⟩:=hw'
      subst hw2
      replace HB:=Lib.hid (bch' HB.out hbq)
      clear f0 f1 f2 f3
      go_wp2_with fail
      go_ret2
      exact ⟨rfl,HB.out⟩
theorem r3_time (v : Int) (w : World) :
    Calls Tryz.prog 78 #[.int .i64 v] w fun e w' => e = .returned (.bool (decide (0 ≤ v ∧ v ≤ 10000000))) ∧ w = w':=by
  by_cases h1:0 ≤ v
  · by_cases h2:v ≤ 10000000
    · rw [decide_eq_true (⟨h1,h2⟩:0 ≤ v ∧ v ≤ 10000000)]
      go_enter Tryz.func78,Tryz.ntmps78
      go_wp2
      go_ret
      exact ⟨rfl,rfl⟩
    · rw [decide_eq_false (fun h => h2 h.2:¬ (0 ≤ v ∧ v ≤ 10000000))]
      go_enter Tryz.func78,Tryz.ntmps78
      go_wp2
      go_ret
      exact ⟨rfl,rfl⟩
  · rw [decide_eq_false (fun h => h1 h.1:¬ (0 ≤ v ∧ v ≤ 10000000))]
    go_enter Tryz.func78,Tryz.ntmps78
    go_wp2
    go_ret
    exact ⟨rfl,rfl⟩
theorem r3_level (x : Txt) (w : World) (hx : x.length ≤ 1000) :
    Calls Tryz.prog 77 #[.string ⟨(x).toArray⟩] w fun e w' => e = .returned (.int .i64 (levE x)) ∧ Below w.heap.size w w':=by
  have HB:=Lib.hid (Below.refl w.heap.size w)
  have hc:=fun W => r2_check x W (by omega)
  have hw:=fun W => r2_whole 65535 W (by omega) (by omega)
  rw [show itoa 65535 = [54,53,53,51,53] by decide +kernel] at hw
  by_cases hz:ratCheck x = 0
  · obtain ⟨q,rfl,-⟩:=ratCheck_zero x hz
    have fq:=fits_of_len hx
    have o1:=fun W => r2_order q 0 W (fq.mono (by omega)) (fits_0.mono (by omega))
    rw [showR_zero] at o1
    have o2:=fun W => r2_order q ((65535:Int):Rat) W (fq.mono (by omega)) (f65.mono (by omega))
    rw [k65] at o2
    obtain ⟨s1,hs1⟩:∃ s,s = sgn q 0:=⟨_,rfl⟩
    obtain ⟨s2,hs2⟩:∃ s,s = sgn q ((65535:Int):Rat):=⟨_,rfl⟩
    rw [← hs1] at o1
    rw [← hs2] at o2
    have HS1:=Lib.hid hs1;have HS2:=Lib.hid hs2;clear hs1 hs2
    rw [hz] at hc
    by_cases h1:q < 0
    · rw [levE_out hz (.inl h1)]
      have g1:s1 < 0:=by rw [HS1.out];exact (sgn_lt _ _).2 h1
      clear h1
      have HC:=Lib.hid hc;clear hc
      have HW:=Lib.hid hw;clear hw
      have HO1:=Lib.hid o1;clear o1
      have HO2:=Lib.hid o2;clear o2
      clear hz fq
      generalize showR q = tq at *
      go_enter Tryz.func77,Tryz.ntmps77
      go_wp2_with (first | (with_reducible refine ((HC.out _).mono ?_);rintro e w' ⟨rfl,hb⟩;replace HB:=Lib.hid (bch' HB.out hb);clear hb) | (with_reducible refine ((HO1.out _).mono ?_);rintro e w' ⟨rfl,hb⟩;replace HB:=Lib.hid (bch' HB.out hb);clear hb) | (with_reducible refine ((HW.out _).mono ?_);rintro e w' ⟨rfl,hb⟩;replace HB:=Lib.hid (bch' HB.out hb);clear hb) | (with_reducible refine ((HO2.out _).mono ?_);rintro e w' ⟨rfl,hb⟩;replace HB:=Lib.hid (bch' HB.out hb);clear hb))
      go_ret
      exact ⟨rfl,HB.out⟩
    have g1:¬ s1 < 0:=by rw [HS1.out];exact mt (sgn_lt _ _).1 h1
    by_cases h2:((65535:Int):Rat) < q
    · rw [levE_out hz (.inr h2)]
      have g2:0 < s2:=by rw [HS2.out];exact (sgn_gt _ _).2 h2
      clear h1 h2
      have HC:=Lib.hid hc;clear hc
      have HW:=Lib.hid hw;clear hw
      have HO1:=Lib.hid o1;clear o1
      have HO2:=Lib.hid o2;clear o2
      clear hz fq
      generalize showR q = tq at *
      go_enter Tryz.func77,Tryz.ntmps77
      go_wp2_with (first | (with_reducible refine ((HC.out _).mono ?_);rintro e w' ⟨rfl,hb⟩;replace HB:=Lib.hid (bch' HB.out hb);clear hb) | (with_reducible refine ((HO1.out _).mono ?_);rintro e w' ⟨rfl,hb⟩;replace HB:=Lib.hid (bch' HB.out hb);clear hb) | (with_reducible refine ((HW.out _).mono ?_);rintro e w' ⟨rfl,hb⟩;replace HB:=Lib.hid (bch' HB.out hb);clear hb) | (with_reducible refine ((HO2.out _).mono ?_);rintro e w' ⟨rfl,hb⟩;replace HB:=Lib.hid (bch' HB.out hb);clear hb))
      go_ret
      exact ⟨rfl,HB.out⟩
    have g2:¬ 0 < s2:=by rw [HS2.out];exact mt (sgn_gt _ _).1 h2
    rw [levE_in hz (fun h => h.elim h1 h2)]
    clear h1 h2
    have HC:=Lib.hid hc;clear hc
    have HW:=Lib.hid hw;clear hw
    have HO1:=Lib.hid o1;clear o1
    have HO2:=Lib.hid o2;clear o2
    clear hz fq
    generalize showR q = tq at *
    go_enter Tryz.func77,Tryz.ntmps77
    go_wp2_with (first | (with_reducible refine ((HC.out _).mono ?_);rintro e w' ⟨rfl,hb⟩;replace HB:=Lib.hid (bch' HB.out hb);clear hb) | (with_reducible refine ((HO1.out _).mono ?_);rintro e w' ⟨rfl,hb⟩;replace HB:=Lib.hid (bch' HB.out hb);clear hb) | (with_reducible refine ((HW.out _).mono ?_);rintro e w' ⟨rfl,hb⟩;replace HB:=Lib.hid (bch' HB.out hb);clear hb) | (with_reducible refine ((HO2.out _).mono ?_);rintro e w' ⟨rfl,hb⟩;replace HB:=Lib.hid (bch' HB.out hb);clear hb))
    go_ret
    exact ⟨rfl,HB.out⟩
  · rw [levE_bad hz]
    have hne:((ratCheck x:Int) != 0) = true:=by simpa using hz
    clear hz
    generalize ratCheck x = m at *
    have HC:=Lib.hid hc;clear hc
    have HW:=Lib.hid hw;clear hw
    go_enter Tryz.func77,Tryz.ntmps77
    go_wp2_with (first | (with_reducible refine ((HC.out _).mono ?_);rintro e w' ⟨rfl,hb⟩;replace HB:=Lib.hid (bch' HB.out hb);clear hb))
    go_ret
    exact ⟨rfl,HB.out⟩
end Go.Proofs.YtmjkenlifgmeeaaGreatDoor

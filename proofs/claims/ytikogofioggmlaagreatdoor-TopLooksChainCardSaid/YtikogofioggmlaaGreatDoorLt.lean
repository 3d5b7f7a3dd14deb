/-
  Looks and changes.
-/
import Derived.Test.YtikogofioggmlaaGreatDoorLr
set_option linter.unusedVariables false
set_option linter.unusedSimpArgs false
namespace Lum
open Go Go.RowKit Go.Shelf
open Go.Lib (decDigits itoa)
theorem lsR_mvs {num pri : Int} {L : List CuL} (h : LsR num pri (L.map CuL.c)) : ∀ x ∈ L, MvsR x.c.mv := fun x hx => (h.ok _ (List.mem_map.2 ⟨x, hx, rfl⟩)).mv
theorem lsR_rng {num pri : Int} {L : List CuL} (h : LsR num pri (L.map CuL.c)) : ∀ x ∈ L, ∀ m ∈ x.c.mv, Rng m.ky := fun x hx m hm => paE_zero ((lsR_mvs h x hx).par m hm)
end Lum
namespace Go.Proofs.YtikogofioggmlaaGreatDoor
open Go.RowKit Go.Shelf Lum
open Go.Lib (decDigits itoa)
attribute [local go_sem] bs_get bs_extract_end bs_extract_from bs_extract bs_append

set_option maxRecDepth 100000 in
set_option maxHeartbeats 4000000 in
theorem own_Look (num pri : Int) (L : List CuL) (p : Option Addr) (c : Nat) (s1 : Txt) (i1 : Nat) (w : World) (hC : CusAt w p L) (hR : LsR num pri (L.map CuL.c)) (hs1 : NumR s1) (hi1 : ixOf (fun x : CuL => x.c.nu == s1) L = (i1 : Int)) (hN1 : i1 < L.length) (env : Env w) :
    Calls Tryz.prog 6 #[.agg #[.int .i64 num, .int .i64 pri, .slice p L.length c], .string ⟨s1.toArray⟩] w fun e w' => ∃ q d, e = .returned (.tuple #[.slice q (lookL (L.map CuL.c) (i1 + 1)).length d, .int .i64 0]) ∧ OwnR encEn 4 w.heap.size 43 w' q d (lookL (L.map CuL.c) (i1 + 1)) ∧ Below w.heap.size w w' := by
  have hpl1 := fun W (h : CusAt W p L) (e : Env W) => own_tplace num pri L p c s1 i1 W h hR hs1 hi1 e
  have hlk1 := fun W (h : CusAt W p L) => own_look num pri L p c i1 W h hN1 (lsR_len hR) (lsR_mvs hR) (lsR_rng hR)
  clear hR hs1 hi1 hN1
  have ENV := Lib.hid env; clear env
  have HPL1 := Lib.hid hpl1; clear hpl1
  have HLK1 := Lib.hid hlk1; clear hlk1
  have HL := Lib.hid (Blk.new w 24 #[.int .i64 num, .int .i64 pri, .slice p L.length c])
  have HB := Lib.hid ((Below.refl w.heap.size w).alloc (Nat.le_refl _) (.cells #[.int .i64 num, .int .i64 pri, .slice p L.length c] 24))
  obtain ⟨l0, l1, l2, lf0, lf1, lf2⟩ := HL.out.c3
  have HC := Lib.hid (hC.kept HB.out); clear hC
  have hsz := HB.out.size
  go_enter Tryz.func6, Tryz.ntmps6
  go_upto_region 2 with (first | (with_reducible refine ((HPL1.out _ HC.out (ENV.out.below HB.out)).mono ?_); rintro e w' ⟨rfl, hb⟩; replace HL := Lib.hid (HL.out.keep hb); clear l0 l1 l2 lf0 lf1 lf2; replace HC := Lib.hid (CusAt.kept HC.out hb); replace HB := Lib.hid (bch' HB.out hb); clear hb; obtain ⟨l0, l1, l2, lf0, lf1, lf2⟩ := HL.out.c3))
  go_wp2_with (first | (with_reducible refine ((HLK1.out _ HC.out).mono ?_); rintro e w3 ⟨q, d, rfl, ho, hb, hbd⟩; have HO := Lib.hid ho; have HB3 := Lib.hid (bch' HB.out hb); clear ho hbd hb))
  go_ret2
  exact ⟨q, d, rfl, HO.out.lower HB.out.size, HB3.out⟩

set_option maxRecDepth 100000 in
set_option maxHeartbeats 4000000 in
theorem own_Changes (num pri : Int) (L : List CuL) (p : Option Addr) (c : Nat) (s1 s2 : Txt) (i1 i2 : Nat) (w : World) (hC : CusAt w p L) (hR : LsR num pri (L.map CuL.c)) (hs1 : NumR s1) (hi1 : ixOf (fun x : CuL => x.c.nu == s1) L = (i1 : Int)) (hN1 : i1 < L.length) (hs2 : NumR s2) (hi2 : ixOf (fun x : CuL => x.c.nu == s2) L = (i2 : Int)) (hN2 : i2 < L.length) (env : Env w) :
    Calls Tryz.prog 8 #[.agg #[.int .i64 num, .int .i64 pri, .slice p L.length c], .string ⟨s1.toArray⟩, .string ⟨s2.toArray⟩] w fun e w' => ∃ q d, e = .returned (.tuple #[.slice q (difL (lookL (L.map CuL.c) (i1 + 1)) (lookL (L.map CuL.c) (i2 + 1))).length d, .int .i64 0]) ∧ OwnR encEn 4 w.heap.size 43 w' q d (difL (lookL (L.map CuL.c) (i1 + 1)) (lookL (L.map CuL.c) (i2 + 1))) ∧ Below w.heap.size w w' := by
  have hpl1 := fun W (h : CusAt W p L) (e : Env W) => own_tplace num pri L p c s1 i1 W h hR hs1 hi1 e
  have hlk1 := fun W (h : CusAt W p L) => own_look num pri L p c i1 W h hN1 (lsR_len hR) (lsR_mvs hR) (lsR_rng hR)
  have hpl2 := fun W (h : CusAt W p L) (e : Env W) => own_tplace num pri L p c s2 i2 W h hR hs2 hi2 e
  have hlk2 := fun W (h : CusAt W p L) => own_look num pri L p c i2 W h hN2 (lsR_len hR) (lsR_mvs hR) (lsR_rng hR)
  clear hR hs1 hi1 hN1 hs2 hi2 hN2
  have ENV := Lib.hid env; clear env
  have HPL1 := Lib.hid hpl1; clear hpl1
  have HLK1 := Lib.hid hlk1; clear hlk1
  have HPL2 := Lib.hid hpl2; clear hpl2
  have HLK2 := Lib.hid hlk2; clear hlk2
  have HL := Lib.hid (Blk.new w 24 #[.int .i64 num, .int .i64 pri, .slice p L.length c])
  have HB := Lib.hid ((Below.refl w.heap.size w).alloc (Nat.le_refl _) (.cells #[.int .i64 num, .int .i64 pri, .slice p L.length c] 24))
  obtain ⟨l0, l1, l2, lf0, lf1, lf2⟩ := HL.out.c3
  have HC := Lib.hid (hC.kept HB.out); clear hC
  go_enter Tryz.func8, Tryz.ntmps8
  go_upto_region 2 with (first | (with_reducible refine ((HPL1.out _ HC.out (ENV.out.below HB.out)).mono ?_); rintro e w' ⟨rfl, hb⟩; replace HL := Lib.hid (HL.out.keep hb); clear l0 l1 l2 lf0 lf1 lf2; replace HC := Lib.hid (CusAt.kept HC.out hb); replace HB := Lib.hid (bch' HB.out hb); clear hb; obtain ⟨l0, l1, l2, lf0, lf1, lf2⟩ := HL.out.c3))
  go_upto_region 5 with (first | (with_reducible refine ((HPL2.out _ HC.out (ENV.out.below HB.out)).mono ?_); rintro e w' ⟨rfl, hb⟩; replace HL := Lib.hid (HL.out.keep hb); clear l0 l1 l2 lf0 lf1 lf2; replace HC := Lib.hid (CusAt.kept HC.out hb); replace HB := Lib.hid (bch' HB.out hb); clear hb; obtain ⟨l0, l1, l2, lf0, lf1, lf2⟩ := HL.out.c3))
  go_upto_region 7 with fail
  obtain ⟨SS, hSS⟩ : ∃ SS : World → Prop, ∀ W', SS W' ↔ Below w'.heap.size w' W' := ⟨fun W' => Below w'.heap.size w' W', fun _ => Iff.rfl⟩
  have HBO : Hid (∀ W', SS W' → (W'.cell? ⟨w.heap.size, 0, none⟩ = some (.int .i64 num) ∧ W'.cell? ⟨w.heap.size, 1, none⟩ = some (.int .i64 pri) ∧ W'.cell? ⟨w.heap.size, 2, none⟩ = some (.slice p L.length c) ∧ SS W')) := Lib.hid fun W' hs => by have h1 := (hSS W').1 hs; have h3 := (HL.out.keep h1).c3; exact ⟨h3.1, h3.2.1, h3.2.2.1, hs⟩
  have HS1 : Hid (SS w') := Lib.hid ((hSS _).2 (Below.refl _ _))
  have HKA : Hid (∀ A c, SS A → SS (A.alloc c)) := Lib.hid fun A c hs => (hSS _).2 (bch' ((hSS A).1 hs) ((Below.refl _ _).alloc (Nat.le_refl _) _))
  have HKD : Hid (∀ A, SS A → SS A.drew) := Lib.hid fun A hs => (hSS _).2 (((hSS A).1 hs).drew)
  have HKC : Hid (∀ A B, SS A → Below A.heap.size A B → SS B) := Lib.hid fun A B hs hb => (hSS _).2 (bch' ((hSS A).1 hs) hb)
  have HFC : Hid (∀ A, SS A → CusAt A p L) := Lib.hid fun A hs => HC.out.kept ((hSS A).1 hs)
  have HFI : Hid (∀ A, SS A → Below w.heap.size w A) := Lib.hid fun A hs => bch' HB.out ((hSS A).1 hs)
  clear hSS HB HC HL l0 l1 l2 lf0 lf1 lf2
  go_region_held3 (fun W' => W'.cell? ⟨w.heap.size, 0, none⟩ = some (.int .i64 num) ∧ W'.cell? ⟨w.heap.size, 1, none⟩ = some (.int .i64 pri) ∧ W'.cell? ⟨w.heap.size, 2, none⟩ = some (.slice p L.length c) ∧ SS W') (with_reducible refine HBO.out _ ?_; ((repeat (first | with_reducible refine HKA.out _ _ ?_ | with_reducible refine HKD.out _ ?_ | with_reducible refine HKC.out _ _ ?_ (by assumption))); with_reducible exact HS1.out)) (first | (go_at_call 18; with_reducible refine (HLK1.out _ (HFC.out _ (by ((repeat (first | with_reducible refine HKA.out _ _ ?_ | with_reducible refine HKD.out _ ?_ | with_reducible refine HKC.out _ _ ?_ (by assumption))); with_reducible exact HS1.out)))).mono ?_; rintro e w1 ⟨q1, d1, rfl, ho1, hb1, hbd1⟩) | (go_at_call 18; with_reducible refine (HLK2.out _ (HFC.out _ (by ((repeat (first | with_reducible refine HKA.out _ _ ?_ | with_reducible refine HKD.out _ ?_ | with_reducible refine HKC.out _ _ ?_ (by assumption))); with_reducible exact HS1.out)))).mono ?_; rintro e w2 ⟨q2, d2, rfl, ho2, hb2, hbd2⟩) | (go_at_call 19; first | (refine (own_different (lookL (L.map CuL.c) (i1 + 1)) (lookL (L.map CuL.c) (i2 + 1)) q1 q2 d1 d2 _ ((ho1.keep hb2).row encEn_len) (ho2.row encEn_len) (by rw [lookL_len, lookL_len]) (by rw [lookL_len]; omega)).mono ?_; rintro e w5 ⟨q5, d5, rfl, ho5, hb5⟩) | (refine (own_different (lookL (L.map CuL.c) (i1 + 1)) (lookL (L.map CuL.c) (i2 + 1)) q1 q2 d1 d2 _ (ho1.row encEn_len) ((ho2.keep hb1).row encEn_len) (by rw [lookL_len, lookL_len]) (by rw [lookL_len]; omega)).mono ?_; rintro e w5 ⟨q5, d5, rfl, ho5, hb5⟩)))
  all_goals (have HB5 := Lib.hid (HFI.out _ (show SS w5 by ((repeat (first | with_reducible refine HKA.out _ _ ?_ | with_reducible refine HKD.out _ ?_ | with_reducible refine HKC.out _ _ ?_ (by assumption))); with_reducible exact HS1.out))); have HO5 := Lib.hid ho5; clear ho5; go_wp2_with fail; go_ret2)
  all_goals exact ⟨q5, d5, rfl, HO5.out.lower (HFI.out _ (by ((repeat (first | with_reducible refine HKA.out _ _ ?_ | with_reducible refine HKD.out _ ?_ | with_reducible refine HKC.out _ _ ?_ (by assumption))); with_reducible exact HS1.out))).size, HB5.out⟩
end Go.Proofs.YtikogofioggmlaaGreatDoor

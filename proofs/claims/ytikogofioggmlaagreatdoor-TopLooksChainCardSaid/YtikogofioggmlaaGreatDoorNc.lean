/-
  TopLooksChain: the walk.
-/
import Derived.Test.YtikogofioggmlaaGreatDoorNb
set_option linter.unusedVariables false
set_option linter.unusedSimpArgs false
namespace Lum
open Go Go.RowKit Go.Shelf
open Go.Lib (decDigits itoa)
theorem OwnR.afar {β : Type} {enc : β → List Value} {k base : Nat} {e : TypeId} {W W' : World} {p : Option Addr} {c : Nat} {l : List β} (h : OwnR enc k base e W p c l) (hk : ∀ g, base ≤ g → W'.heap[g]? = W.heap[g]?) : OwnR enc k base e W' p c l := by
  obtain ⟨h1, h2⟩ := h
  refine ⟨h1, ?_⟩
  rcases h2 with h2 | ⟨g, cap, cur, hv, hg, hh, r⟩
  · exact .inl h2
  · exact .inr ⟨g, cap, cur, hv, hg, by rw [hk g hg]; exact hh, r⟩
theorem putP_few (l : List (Int × Int)) (p : Int × Int) : (putP l p).length ≤ l.length + 1 := by
  induction l with
  | nil => simp [putP]
  | cons x r ih => rw [putP]; split; (· simpa using ih); split <;> simp
theorem putsP_few (l : List (Int × Int)) : (putsP l).length ≤ l.length := by
  unfold putsP
  suffices h : ∀ (l a : List (Int × Int)), (l.foldl putP a).length ≤ a.length + l.length by simpa using h l []
  intro l
  induction l with
  | nil => intro a; simp
  | cons x r ih => intro a; have h1 := ih (putP a x); have h2 := putP_few a x; rw [List.foldl_cons, List.length_cons]; omega
theorem moves_few : ∀ {cs : List Cu} (h : ∀ c ∈ cs, c.mv.length ≤ 128), (movesL cs).length ≤ 128 * cs.length
  | [], _ => by simp [movesL]
  | c :: r, h => by
    have h1 := moves_few (cs := r) (fun x hx => h x (List.mem_cons_of_mem _ hx))
    have h2 := h c List.mem_cons_self
    unfold movesL at h1 ⊢
    rw [List.flatMap_cons, List.length_append, List.length_map, List.length_cons]
    omega
theorem foot_few {num pri : Int} {cs : List Cu} (h : LsR num pri cs) : (footL cs).length ≤ 8192 := by
  have h1 := putsP_few (movesL cs)
  have h2 := moves_few (cs := cs) (fun c hc => (h.ok c hc).mv.few)
  have h3 := h.few
  unfold footL
  omega
end Lum
namespace Go.Proofs.YtikogofioggmlaaGreatDoor
open Go.RowKit Go.Shelf Lum
open Go.Lib (decDigits itoa)
attribute [local go_sem] bs_get bs_extract_end bs_extract_from bs_extract bs_append

set_option maxRecDepth 100000 in
set_option maxHeartbeats 4000000 in
theorem law_lchain (num pri : Int) (L : List CuL) (p : Option Addr) (c : Nat) (a0 a1 a2 : Int) (w : World) (hC : CusAt w p L) (h0 : 0 ≤ a0 ∧ a0 ≤ 255) (h1 : 0 ≤ a1 ∧ a1 ≤ 255) (h2 : 0 ≤ a2 ∧ a2 ≤ 255) (env : Env w) :
    Calls Tryz.prog 3 #[.agg #[.int .i64 num, .int .i64 pri, .slice p L.length c], .agg #[.int .u8 a0, .int .u8 a1, .int .u8 a2]] w fun e w' => e = .returned (.bool true) ∧ Below w.heap.size w w' := by
  have ENV := Lib.hid env; clear env
  have hal := ((Below.refl w.heap.size w).alloc (Nat.le_refl _) (.cells #[.int .i64 num, .int .i64 pri, .slice p L.length c] 24)).alloc (by simp) (.cells #[.int .u8 a0, .int .u8 a1, .int .u8 a2] 25)
  have HB := Lib.hid hal; clear hal
  have HL := Lib.hid ((Blk.new w 24 #[.int .i64 num, .int .i64 pri, .slice p L.length c]).alloc (.cells #[.int .u8 a0, .int .u8 a1, .int .u8 a2] 25))
  have hA := Blk.new (w.alloc (.cells #[.int .i64 num, .int .i64 pri, .slice p L.length c] 24)) 25 #[.int .u8 a0, .int .u8 a1, .int .u8 a2]
  rw [World.size_alloc] at hA
  have HA := Lib.hid hA; clear hA
  obtain ⟨l0, l1, l2, lf0, lf1, lf2⟩ := HL.out.c3
  obtain ⟨g0, g1, g2, gf0, gf1, gf2⟩ := HA.out.c3
  have HC0 := Lib.hid hC
  have HC := Lib.hid (hC.kept HB.out); clear hC
  have hcl := fun W (h : CusAt W p L) => caseList num pri L p c W h
  have HCL := Lib.hid hcl; clear hcl
  go_enter Tryz.func3, Tryz.ntmps3
  go_wp2_with fail
  with_reducible refine ((HCL.out _ HC.out).mono ?_)
  rintro e w1 ⟨b, rfl, hb1, hb⟩
  have HB1 := Lib.hid hb1; clear hb1
  replace HL := Lib.hid (HL.out.keep hb); clear l0 l1 l2 lf0 lf1 lf2; replace HA := Lib.hid (HA.out.keep hb); clear g0 g1 g2 gf0 gf1 gf2; replace HC := Lib.hid (CusAt.kept HC.out hb); replace HB := Lib.hid (bch' HB.out hb); clear hb; obtain ⟨l0, l1, l2, lf0, lf1, lf2⟩ := HL.out.c3; obtain ⟨g0, g1, g2, gf0, gf1, gf2⟩ := HA.out.c3
  clear HCL
  cases b
  · clear HB1
    go_wp2_with fail
    with_reducible refine ((case_looks _ (ENV.out.below HB.out)).mono ?_)
    rintro e w' ⟨rfl, hb⟩
    replace HB := Lib.hid (bch' HB.out hb); clear hb
    go_wp2_with fail
    go_ret
    exact ⟨rfl, HB.out⟩
  · have HR := Lib.hid (HB1.out rfl)
    clear HB1
    by_cases hl0 : L = []
    · have hl1 : ((L.length : Int) == 0) = true := by rw [hl0]; rfl
      have HX := Lib.hid hl0; clear hl0
      go_wp2_with fail
      with_reducible refine ((case_looks _ (ENV.out.below HB.out)).mono ?_)
      rintro e w' ⟨rfl, hb⟩
      replace HB := Lib.hid (bch' HB.out hb); clear hb
      go_wp2_with fail
      go_ret
      exact ⟨rfl, HB.out⟩
    · have hl1 : ((L.length : Int) == 0) = false := by rw [beq_eq_false_iff_ne]; have := List.length_pos_iff.2 hl0; omega
      go_upto_region 4 with fail
      have HNE : Hid (w.heap.size + 1 < w1.heap.size) := Lib.hid HA.out.lt
      clear HC
      have hb := (Below.refl w1.heap.size w1).alloc (Nat.le_refl _) (.cells #[.string ⟨#[]⟩, .string ⟨#[]⟩, .string ⟨#[]⟩] 28)
      have HN := Lib.hid (Blk.new w1 28 #[.string ⟨#[]⟩, .string ⟨#[]⟩, .string ⟨#[]⟩])
      obtain ⟨n5, hn5⟩ : ∃ n, n = w1.heap.size := ⟨_, rfl⟩
      obtain ⟨W5, hWW5⟩ : ∃ X, X = w1.alloc (.cells #[.string ⟨#[]⟩, .string ⟨#[]⟩, .string ⟨#[]⟩] 28) := ⟨_, rfl⟩
      rw [← hn5] at HN HNE ⊢
      rw [← hWW5] at hb HN ⊢
      replace HL := Lib.hid (HL.out.keep hb); clear l0 l1 l2 lf0 lf1 lf2; replace HA := Lib.hid (HA.out.keep hb); clear g0 g1 g2 gf0 gf1 gf2; replace HB := Lib.hid (bch' HB.out hb); clear hb; obtain ⟨l0, l1, l2, lf0, lf1, lf2⟩ := HL.out.c3; obtain ⟨g0, g1, g2, gf0, gf1, gf2⟩ := HA.out.c3
      clear hWW5 hn5
      obtain ⟨n0, n1, n2, nf0, nf1, nf2⟩ := HN.out.c3
      obtain ⟨b, o, hpp, hbs, hCC⟩ := HC0.out.r hl0
      subst hpp
      have hlp : 0 < L.length := List.length_pos_iff.2 hl0
      have j0 : ∀ w, (Instr.index 25 (.agg #[.int .u8 a0, .int .u8 a1, .int .u8 a2]) (.int .i64 0)).run Tryz.prog w = .ok (.int .u8 a0) w := fun _ => by kernel_rfl
      have j1 : ∀ w, (Instr.index 25 (.agg #[.int .u8 a0, .int .u8 a1, .int .u8 a2]) (.int .i64 1)).run Tryz.prog w = .ok (.int .u8 a1) w := fun _ => by kernel_rfl
      have j2 : ∀ w, (Instr.index 25 (.agg #[.int .u8 a0, .int .u8 a1, .int .u8 a2]) (.int .i64 2)).run Tryz.prog w = .ok (.int .u8 a2) w := fun _ => by kernel_rfl
      obtain ⟨k0, hk0, hr0⟩ : ∃ k : Nat, k < L.length ∧ a0 % (L.length : Int) = (k : Int) := ⟨(a0 % (L.length : Int)).toNat, by have := Int.emod_lt_of_pos a0 (b := (L.length : Int)) (by omega); have := Int.emod_nonneg a0 (b := (L.length : Int)) (by omega); omega, by have := Int.emod_nonneg a0 (b := (L.length : Int)) (by omega); omega⟩
      have ht0 : IntKind.i64.wrap (Int.tmod a0 (L.length : Int)) = (k0 : Int) := by rw [Int.tmod_eq_emod_of_nonneg h0.1, hr0]; exact IntWalk.i64_in _ (by have := lsR_len HR.out; omega)
      have hu0 : IntKind.i64.wrap a0 = a0 := IntWalk.i64_in _ (by omega)
      have HK0 : Hid (w.cell? ⟨b, o + k0 * 9, none⟩ = some (.string ⟨(L[k0]'hk0).c.nu.toArray⟩)) := Lib.hid (hCC k0 hk0 0 _ rfl)
      have hs0 : k0 * 9 < 9223372036854775807 := by have := lsR_len HR.out; omega
      have hn0 : (0 : Int) ≤ (k0 : Int) := by omega
      have hm0 : (k0 : Int) < (L.length : Int) := by omega
      obtain ⟨k1, hk1, hr1⟩ : ∃ k : Nat, k < L.length ∧ a1 % (L.length : Int) = (k : Int) := ⟨(a1 % (L.length : Int)).toNat, by have := Int.emod_lt_of_pos a1 (b := (L.length : Int)) (by omega); have := Int.emod_nonneg a1 (b := (L.length : Int)) (by omega); omega, by have := Int.emod_nonneg a1 (b := (L.length : Int)) (by omega); omega⟩
      have ht1 : IntKind.i64.wrap (Int.tmod a1 (L.length : Int)) = (k1 : Int) := by rw [Int.tmod_eq_emod_of_nonneg h1.1, hr1]; exact IntWalk.i64_in _ (by have := lsR_len HR.out; omega)
      have hu1 : IntKind.i64.wrap a1 = a1 := IntWalk.i64_in _ (by omega)
      have HK1 : Hid (w.cell? ⟨b, o + k1 * 9, none⟩ = some (.string ⟨(L[k1]'hk1).c.nu.toArray⟩)) := Lib.hid (hCC k1 hk1 0 _ rfl)
      have hs1 : k1 * 9 < 9223372036854775807 := by have := lsR_len HR.out; omega
      have hn1 : (0 : Int) ≤ (k1 : Int) := by omega
      have hm1 : (k1 : Int) < (L.length : Int) := by omega
      obtain ⟨k2, hk2, hr2⟩ : ∃ k : Nat, k < L.length ∧ a2 % (L.length : Int) = (k : Int) := ⟨(a2 % (L.length : Int)).toNat, by have := Int.emod_lt_of_pos a2 (b := (L.length : Int)) (by omega); have := Int.emod_nonneg a2 (b := (L.length : Int)) (by omega); omega, by have := Int.emod_nonneg a2 (b := (L.length : Int)) (by omega); omega⟩
      have ht2 : IntKind.i64.wrap (Int.tmod a2 (L.length : Int)) = (k2 : Int) := by rw [Int.tmod_eq_emod_of_nonneg h2.1, hr2]; exact IntWalk.i64_in _ (by have := lsR_len HR.out; omega)
      have hu2 : IntKind.i64.wrap a2 = a2 := IntWalk.i64_in _ (by omega)
      have HK2 : Hid (w.cell? ⟨b, o + k2 * 9, none⟩ = some (.string ⟨(L[k2]'hk2).c.nu.toArray⟩)) := Lib.hid (hCC k2 hk2 0 _ rfl)
      have hs2 : k2 * 9 < 9223372036854775807 := by have := lsR_len HR.out; omega
      have hn2 : (0 : Int) ≤ (k2 : Int) := by omega
      have hm2 : (k2 : Int) < (L.length : Int) := by omega
      have HBS := Lib.hid hbs; clear hbs hCC
      have c0 : W5.cell? ⟨b, o + k0 * 9, none⟩ = some (.string ⟨(L[k0]'hk0).c.nu.toArray⟩) := (HB.out.cell (p := ⟨b, o + k0 * 9, none⟩) HBS.out).trans HK0.out
      have c1 : W5.cell? ⟨b, o + k1 * 9, none⟩ = some (.string ⟨(L[k1]'hk1).c.nu.toArray⟩) := (HB.out.cell (p := ⟨b, o + k1 * 9, none⟩) HBS.out).trans HK1.out
      have c2 : W5.cell? ⟨b, o + k2 * 9, none⟩ = some (.string ⟨(L[k2]'hk2).c.nu.toArray⟩) := (HB.out.cell (p := ⟨b, o + k2 * 9, none⟩) HBS.out).trans HK2.out
      have hbw : b < W5.heap.size := Nat.lt_of_lt_of_le HBS.out HB.out.size
      go_wp2_with fail
      refine wp_loop_rounds 4 ?_
      rw [rounds_succ]
      go_wp2_with fail
      go_region
      have HB2 : Hid (Below w.heap.size w ((W5.setCell ⟨n5, 0, none⟩ (.string ⟨(L[k0]'hk0).c.nu.toArray⟩)).drew)) := Lib.hid (HB.out.setCell (p := ⟨n5, 0, none⟩) (by have := HNE.out; show w.heap.size ≤ n5; omega) _).drew
      have HL2 : Hid (Blk ((W5.setCell ⟨n5, 0, none⟩ (.string ⟨(L[k0]'hk0).c.nu.toArray⟩)).drew) w.heap.size 24 #[.int .i64 num, .int .i64 pri, .slice (some ⟨b, o, none⟩) L.length c]) := Lib.hid (HL.out.far (p := ⟨n5, 0, none⟩) (by have := HNE.out; show w.heap.size ≠ n5; omega) _).drew
      have HA2 : Hid (Blk ((W5.setCell ⟨n5, 0, none⟩ (.string ⟨(L[k0]'hk0).c.nu.toArray⟩)).drew) (w.heap.size + 1) 25 #[.int .u8 a0, .int .u8 a1, .int .u8 a2]) := Lib.hid (HA.out.far (p := ⟨n5, 0, none⟩) (by have := HNE.out; show w.heap.size + 1 ≠ n5; omega) _).drew
      have HN2 : Hid (Blk ((W5.setCell ⟨n5, 0, none⟩ (.string ⟨(L[k0]'hk0).c.nu.toArray⟩)).drew) n5 28 #[.string ⟨(L[k0]'hk0).c.nu.toArray⟩, .string ⟨#[]⟩, .string ⟨#[]⟩]) := Lib.hid (Blk.drew (by simpa using HN.out.set_ 0 (.string ⟨(L[k0]'hk0).c.nu.toArray⟩)))
      obtain ⟨W6, hWW⟩ : ∃ X, X = (W5.setCell ⟨n5, 0, none⟩ (.string ⟨(L[k0]'hk0).c.nu.toArray⟩)).drew := ⟨_, rfl⟩
      rw [← hWW] at HB2 HL2 HA2 HN2 ⊢
      clear l0 l1 l2 lf0 lf1 lf2
      clear g0 g1 g2 gf0 gf1 gf2
      clear n0 n1 n2 nf0 nf1 nf2
      clear c0 c1 c2 hbw hWW HB HL HA HN
      have HB := HB2; have HL := HL2; have HA := HA2; have HN := HN2; clear HB2 HL2 HA2 HN2
      obtain ⟨l0, l1, l2, lf0, lf1, lf2⟩ := HL.out.c3
      obtain ⟨g0, g1, g2, gf0, gf1, gf2⟩ := HA.out.c3
      obtain ⟨n0, n1, n2, nf0, nf1, nf2⟩ := HN.out.c3
      have c0 : W6.cell? ⟨b, o + k0 * 9, none⟩ = some (.string ⟨(L[k0]'hk0).c.nu.toArray⟩) := (HB.out.cell (p := ⟨b, o + k0 * 9, none⟩) HBS.out).trans HK0.out
      have c1 : W6.cell? ⟨b, o + k1 * 9, none⟩ = some (.string ⟨(L[k1]'hk1).c.nu.toArray⟩) := (HB.out.cell (p := ⟨b, o + k1 * 9, none⟩) HBS.out).trans HK1.out
      have c2 : W6.cell? ⟨b, o + k2 * 9, none⟩ = some (.string ⟨(L[k2]'hk2).c.nu.toArray⟩) := (HB.out.cell (p := ⟨b, o + k2 * 9, none⟩) HBS.out).trans HK2.out
      have hbw : b < W6.heap.size := Nat.lt_of_lt_of_le HBS.out HB.out.size
      go_wp2_with fail
      rw [rounds_succ]
      go_wp2_with fail
      go_region
      have HB2 : Hid (Below w.heap.size w ((W6.setCell ⟨n5, 1, none⟩ (.string ⟨(L[k1]'hk1).c.nu.toArray⟩)).drew)) := Lib.hid (HB.out.setCell (p := ⟨n5, 1, none⟩) (by have := HNE.out; show w.heap.size ≤ n5; omega) _).drew
      have HL2 : Hid (Blk ((W6.setCell ⟨n5, 1, none⟩ (.string ⟨(L[k1]'hk1).c.nu.toArray⟩)).drew) w.heap.size 24 #[.int .i64 num, .int .i64 pri, .slice (some ⟨b, o, none⟩) L.length c]) := Lib.hid (HL.out.far (p := ⟨n5, 1, none⟩) (by have := HNE.out; show w.heap.size ≠ n5; omega) _).drew
      have HA2 : Hid (Blk ((W6.setCell ⟨n5, 1, none⟩ (.string ⟨(L[k1]'hk1).c.nu.toArray⟩)).drew) (w.heap.size + 1) 25 #[.int .u8 a0, .int .u8 a1, .int .u8 a2]) := Lib.hid (HA.out.far (p := ⟨n5, 1, none⟩) (by have := HNE.out; show w.heap.size + 1 ≠ n5; omega) _).drew
      have HN2 : Hid (Blk ((W6.setCell ⟨n5, 1, none⟩ (.string ⟨(L[k1]'hk1).c.nu.toArray⟩)).drew) n5 28 #[.string ⟨(L[k0]'hk0).c.nu.toArray⟩, .string ⟨(L[k1]'hk1).c.nu.toArray⟩, .string ⟨#[]⟩]) := Lib.hid (Blk.drew (by simpa using HN.out.set_ 1 (.string ⟨(L[k1]'hk1).c.nu.toArray⟩)))
      obtain ⟨W7, hWW⟩ : ∃ X, X = (W6.setCell ⟨n5, 1, none⟩ (.string ⟨(L[k1]'hk1).c.nu.toArray⟩)).drew := ⟨_, rfl⟩
      rw [← hWW] at HB2 HL2 HA2 HN2 ⊢
      clear l0 l1 l2 lf0 lf1 lf2
      clear g0 g1 g2 gf0 gf1 gf2
      clear n0 n1 n2 nf0 nf1 nf2
      clear c0 c1 c2 hbw hWW HB HL HA HN
      have HB := HB2; have HL := HL2; have HA := HA2; have HN := HN2; clear HB2 HL2 HA2 HN2
      obtain ⟨l0, l1, l2, lf0, lf1, lf2⟩ := HL.out.c3
      obtain ⟨g0, g1, g2, gf0, gf1, gf2⟩ := HA.out.c3
      obtain ⟨n0, n1, n2, nf0, nf1, nf2⟩ := HN.out.c3
      have c0 : W7.cell? ⟨b, o + k0 * 9, none⟩ = some (.string ⟨(L[k0]'hk0).c.nu.toArray⟩) := (HB.out.cell (p := ⟨b, o + k0 * 9, none⟩) HBS.out).trans HK0.out
      have c1 : W7.cell? ⟨b, o + k1 * 9, none⟩ = some (.string ⟨(L[k1]'hk1).c.nu.toArray⟩) := (HB.out.cell (p := ⟨b, o + k1 * 9, none⟩) HBS.out).trans HK1.out
      have c2 : W7.cell? ⟨b, o + k2 * 9, none⟩ = some (.string ⟨(L[k2]'hk2).c.nu.toArray⟩) := (HB.out.cell (p := ⟨b, o + k2 * 9, none⟩) HBS.out).trans HK2.out
      have hbw : b < W7.heap.size := Nat.lt_of_lt_of_le HBS.out HB.out.size
      go_wp2_with fail
      rw [rounds_succ]
      go_wp2_with fail
      go_region
      have HB2 : Hid (Below w.heap.size w ((W7.setCell ⟨n5, 2, none⟩ (.string ⟨(L[k2]'hk2).c.nu.toArray⟩)).drew)) := Lib.hid (HB.out.setCell (p := ⟨n5, 2, none⟩) (by have := HNE.out; show w.heap.size ≤ n5; omega) _).drew
      have HL2 : Hid (Blk ((W7.setCell ⟨n5, 2, none⟩ (.string ⟨(L[k2]'hk2).c.nu.toArray⟩)).drew) w.heap.size 24 #[.int .i64 num, .int .i64 pri, .slice (some ⟨b, o, none⟩) L.length c]) := Lib.hid (HL.out.far (p := ⟨n5, 2, none⟩) (by have := HNE.out; show w.heap.size ≠ n5; omega) _).drew
      have HA2 : Hid (Blk ((W7.setCell ⟨n5, 2, none⟩ (.string ⟨(L[k2]'hk2).c.nu.toArray⟩)).drew) (w.heap.size + 1) 25 #[.int .u8 a0, .int .u8 a1, .int .u8 a2]) := Lib.hid (HA.out.far (p := ⟨n5, 2, none⟩) (by have := HNE.out; show w.heap.size + 1 ≠ n5; omega) _).drew
      have HN2 : Hid (Blk ((W7.setCell ⟨n5, 2, none⟩ (.string ⟨(L[k2]'hk2).c.nu.toArray⟩)).drew) n5 28 #[.string ⟨(L[k0]'hk0).c.nu.toArray⟩, .string ⟨(L[k1]'hk1).c.nu.toArray⟩, .string ⟨(L[k2]'hk2).c.nu.toArray⟩]) := Lib.hid (Blk.drew (by simpa using HN.out.set_ 2 (.string ⟨(L[k2]'hk2).c.nu.toArray⟩)))
      obtain ⟨W8, hWW⟩ : ∃ X, X = (W7.setCell ⟨n5, 2, none⟩ (.string ⟨(L[k2]'hk2).c.nu.toArray⟩)).drew := ⟨_, rfl⟩
      rw [← hWW] at HB2 HL2 HA2 HN2 ⊢
      clear l0 l1 l2 lf0 lf1 lf2
      clear g0 g1 g2 gf0 gf1 gf2
      clear n0 n1 n2 nf0 nf1 nf2
      clear c0 c1 c2 hbw hWW HB HL HA HN
      have HB := HB2; have HL := HL2; have HA := HA2; have HN := HN2; clear HB2 HL2 HA2 HN2
      obtain ⟨l0, l1, l2, lf0, lf1, lf2⟩ := HL.out.c3
      obtain ⟨g0, g1, g2, gf0, gf1, gf2⟩ := HA.out.c3
      obtain ⟨n0, n1, n2, nf0, nf1, nf2⟩ := HN.out.c3
      have c0 : W8.cell? ⟨b, o + k0 * 9, none⟩ = some (.string ⟨(L[k0]'hk0).c.nu.toArray⟩) := (HB.out.cell (p := ⟨b, o + k0 * 9, none⟩) HBS.out).trans HK0.out
      have c1 : W8.cell? ⟨b, o + k1 * 9, none⟩ = some (.string ⟨(L[k1]'hk1).c.nu.toArray⟩) := (HB.out.cell (p := ⟨b, o + k1 * 9, none⟩) HBS.out).trans HK1.out
      have c2 : W8.cell? ⟨b, o + k2 * 9, none⟩ = some (.string ⟨(L[k2]'hk2).c.nu.toArray⟩) := (HB.out.cell (p := ⟨b, o + k2 * 9, none⟩) HBS.out).trans HK2.out
      have hbw : b < W8.heap.size := Nat.lt_of_lt_of_le HBS.out HB.out.size
      go_wp2_with fail
      rw [rounds_succ]
      have hlk0 := fun W (h : CusAt W (some ⟨b, o, none⟩) L) (e : Env W) => own_Look num pri L (some ⟨b, o, none⟩) c _ k0 W h HR.out (lsR_at HR.out hk0).nu (ix_at HR.out hk0) hk0 e
      have hlk2 := fun W (h : CusAt W (some ⟨b, o, none⟩) L) (e : Env W) => own_Look num pri L (some ⟨b, o, none⟩) c _ k2 W h HR.out (lsR_at HR.out hk2).nu (ix_at HR.out hk2) hk2 e
      have hch0 := fun W (h : CusAt W (some ⟨b, o, none⟩) L) (e : Env W) => own_Changes num pri L (some ⟨b, o, none⟩) c _ _ k0 k1 W h HR.out (lsR_at HR.out hk0).nu (ix_at HR.out hk0) hk0 (lsR_at HR.out hk1).nu (ix_at HR.out hk1) hk1 e
      have hch1 := fun W (h : CusAt W (some ⟨b, o, none⟩) L) (e : Env W) => own_Changes num pri L (some ⟨b, o, none⟩) c _ _ k1 k2 W h HR.out (lsR_at HR.out hk1).nu (ix_at HR.out hk1) hk1 (lsR_at HR.out hk2).nu (ix_at HR.out hk2) hk2 e
      have HLK0 := Lib.hid hlk0; clear hlk0
      have HLK2 := Lib.hid hlk2; clear hlk2
      have HCH0 := Lib.hid hch0; clear hch0
      have HCH1 := Lib.hid hch1; clear hch1
      have HFEW : Hid ((footL (L.map CuL.c)).length ≤ 8192) := Lib.hid (foot_few HR.out)
      clear c0 c1 c2 hbw HK0 HK1 HK2
      clear g0 g1 g2 gf0 gf1 gf2
      clear HA
      clear hr0 hr1 hr2 ht0 ht1 ht2 hu0 hu1 hu2 hs0 hs1 hs2 hn0 hn1 hn2 hm0 hm1 hm2
      go_wp2_with fail
      have HC := Lib.hid (HC0.out.kept HB.out)
      with_reducible refine ((HLK0.out _ HC.out (ENV.out.below HB.out)).mono ?_)
      rintro e w2 ⟨q0, d0, rfl, ho, hb⟩
      have HO0 := Lib.hid ho; clear ho HC
      replace HL := Lib.hid (HL.out.keep hb); clear l0 l1 l2 lf0 lf1 lf2; replace HN := Lib.hid (HN.out.keep hb); clear n0 n1 n2 nf0 nf1 nf2; replace HB := Lib.hid (bch' HB.out hb); clear hb; obtain ⟨l0, l1, l2, lf0, lf1, lf2⟩ := HL.out.c3; obtain ⟨n0, n1, n2, nf0, nf1, nf2⟩ := HN.out.c3
      go_wp2_with fail
      have HC := Lib.hid (HC0.out.kept HB.out)
      with_reducible refine ((HLK2.out _ HC.out (ENV.out.below HB.out)).mono ?_)
      rintro e w3 ⟨q2, d2, rfl, ho, hb⟩
      have HO2 := Lib.hid ho; clear ho HC
      replace HL := Lib.hid (HL.out.keep hb); clear l0 l1 l2 lf0 lf1 lf2; replace HN := Lib.hid (HN.out.keep hb); clear n0 n1 n2 nf0 nf1 nf2; replace HO0 := Lib.hid (OwnR.keep HO0.out hb); replace HB := Lib.hid (bch' HB.out hb); clear hb; obtain ⟨l0, l1, l2, lf0, lf1, lf2⟩ := HL.out.c3; obtain ⟨n0, n1, n2, nf0, nf1, nf2⟩ := HN.out.c3
      have hcl := own_eclone w3 (lookL (L.map CuL.c) (k0 + 1)) q0 d0 (HO0.out.row encEn_len) (by rw [lookL_len]; have := HFEW.out; omega)
      have HCL := Lib.hid hcl; clear hcl
      go_wp2_with fail
      with_reducible refine (HCL.out.mono ?_)
      rintro e w4 ⟨p8, c8, rfl, ho, hb⟩
      clear HCL HO0
      have HO8 := Lib.hid ho; clear ho
      have HQ2 := Lib.hid (HO2.out.row encEn_len); clear HO2
      have HBA := HB; clear HB
      have HB := Lib.hid hb; clear hb
      clear l0 l1 l2 lf0 lf1 lf2
      clear n0 n1 n2 nf0 nf1 nf2
      rw [lookL_len, lookL_len]
      obtain ⟨nF, hnF⟩ : ∃ n, n = (footL (L.map CuL.c)).length := ⟨_, rfl⟩
      rw [← hnF]
      have HNF := Lib.hid hnF; clear hnF
      go_wp2_with fail
      refine wp_loop_rounds 3 ?_
      obtain ⟨D, hD⟩ : ∃ D, D = difL (lookL (L.map CuL.c) (k0 + 1)) (lookL (L.map CuL.c) (k1 + 1)) := ⟨_, rfl⟩
      obtain ⟨N, hN⟩ : ∃ N : Nat → List Ent, N = chN (L.map CuL.c) (k0 + 1) (k1 + 1) := ⟨_, rfl⟩
      have HST : Hid (∀ k (hk : k < D.length), ∃ j, ∃ hj : j < (N k).length, ixOf (fun y : Ent => y.ky == (D[k]'hk).ky) (N k) = (j : Int) ∧ (N k)[j]'hj ≠ D[k]'hk ∧ (N k).set j (D[k]'hk) = N (k + 1)) := Lib.hid (by subst hD; subst hN; exact fun k hk => chN_step hk)
      have HDL : Hid (D.length ≤ 8192) := Lib.hid (by rw [hD, difL_len]; have := chD_len (L.map CuL.c) (k0 + 1) (k1 + 1); have := HFEW.out; omega)
      have HN0 : Hid (N 0 = (lookL (L.map CuL.c) (k0 + 1))) := Lib.hid (by rw [hN]; exact (chN_start _ _ _).symm)
      have HN1 : Hid (N D.length = (lookL (L.map CuL.c) (k1 + 1))) := Lib.hid (by rw [hN, hD, difL_len]; exact chN_end _ _ _)
      have HNL : Hid (∀ k, (N k).length = nF) := Lib.hid (fun k => by rw [hN, chN_len]; exact HNF.out.symm)
      rw [← hD] at HCH0
      rw [← HN0.out] at HO8
      clear hD hN
      obtain ⟨l0, l1, l2, lf0, lf1, lf2⟩ := (HL.out.keep HB.out).c3
      obtain ⟨n0, n1, n2, nf0, nf1, nf2⟩ := (HN.out.keep HB.out).c3
      rw [rounds_succ]
      go_wp2_with fail
      obtain ⟨SS, hSS⟩ : ∃ SS : World → Prop, ∀ W', SS W' ↔ Below w4.heap.size w4 W' := ⟨fun W' => Below w4.heap.size w4 W', fun _ => Iff.rfl⟩
      have HBO : Hid (∀ W', SS W' → (W'.cell? ⟨w.heap.size, 0, none⟩ = some (.int .i64 num) ∧ W'.cell? ⟨w.heap.size, 1, none⟩ = some (.int .i64 pri) ∧ W'.cell? ⟨w.heap.size, 2, none⟩ = some (.slice (some ⟨b, o, none⟩) L.length c) ∧ W'.cell? ⟨n5, 0, none⟩ = some (.string ⟨(L[k0]'hk0).c.nu.toArray⟩) ∧ W'.cell? ⟨n5, 1, none⟩ = some (.string ⟨(L[k1]'hk1).c.nu.toArray⟩) ∧ W'.cell? ⟨n5, 2, none⟩ = some (.string ⟨(L[k2]'hk2).c.nu.toArray⟩) ∧ SS W')) := Lib.hid fun W' hs => by have h1 := (hSS W').1 hs; have h3 := ((HL.out.keep HB.out).keep h1).c3; have h4 := ((HN.out.keep HB.out).keep h1).c3; exact ⟨h3.1, h3.2.1, h3.2.2.1, h4.1, h4.2.1, h4.2.2.1, hs⟩
      have HS1 : Hid (SS w4) := Lib.hid ((hSS _).2 (Below.refl _ _))
      have HKA : Hid (∀ A c, SS A → SS (A.alloc c)) := Lib.hid fun A c hs => (hSS _).2 (bch' ((hSS A).1 hs) ((Below.refl _ _).alloc (Nat.le_refl _) _))
      have HKD : Hid (∀ A, SS A → SS A.drew) := Lib.hid fun A hs => (hSS _).2 (((hSS A).1 hs).drew)
      have HKC : Hid (∀ A B, SS A → Below A.heap.size A B → SS B) := Lib.hid fun A B hs hb => (hSS _).2 (bch' ((hSS A).1 hs) hb)
      have HFB : Hid (∀ A, SS A → Below w4.heap.size w4 A) := Lib.hid fun A hs => (hSS A).1 hs
      have HFI : Hid (∀ A, SS A → Below w3.heap.size w3 A) := Lib.hid fun A hs => bch' HB.out ((hSS A).1 hs)
      have HFC : Hid (∀ A, SS A → CusAt A (some ⟨b, o, none⟩) L) := Lib.hid fun A hs => HC0.out.kept (bch' HBA.out (HFI.out A hs))
      have HFE : Hid (∀ A, SS A → Env A) := Lib.hid fun A hs => ENV.out.below (bch' HBA.out (HFI.out A hs))
      clear hSS l0 l1 l2 lf0 lf1 lf2 n0 n1 n2 nf0 nf1 nf2
      have hw1 : IntKind.i64.wrap (0 + 1) = 1 := by decide
      have hw2 : IntKind.i64.wrap 1 = 1 := by decide
      go_region_held3 (fun W' => W'.cell? ⟨w.heap.size, 0, none⟩ = some (.int .i64 num) ∧ W'.cell? ⟨w.heap.size, 1, none⟩ = some (.int .i64 pri) ∧ W'.cell? ⟨w.heap.size, 2, none⟩ = some (.slice (some ⟨b, o, none⟩) L.length c) ∧ W'.cell? ⟨n5, 0, none⟩ = some (.string ⟨(L[k0]'hk0).c.nu.toArray⟩) ∧ W'.cell? ⟨n5, 1, none⟩ = some (.string ⟨(L[k1]'hk1).c.nu.toArray⟩) ∧ W'.cell? ⟨n5, 2, none⟩ = some (.string ⟨(L[k2]'hk2).c.nu.toArray⟩) ∧ SS W') (with_reducible refine HBO.out _ ?_; ((repeat (first | with_reducible refine HKA.out _ _ ?_ | with_reducible refine HKD.out _ ?_ | with_reducible refine HKC.out _ _ ?_ (by assumption))); with_reducible exact HS1.out)) (first | (go_at_call 8; with_reducible refine (HCH0.out _ (HFC.out _ (by ((repeat (first | with_reducible refine HKA.out _ _ ?_ | with_reducible refine HKD.out _ ?_ | with_reducible refine HKC.out _ _ ?_ (by assumption))); with_reducible exact HS1.out))) (HFE.out _ (by ((repeat (first | with_reducible refine HKA.out _ _ ?_ | with_reducible refine HKD.out _ ?_ | with_reducible refine HKC.out _ _ ?_ (by assumption))); with_reducible exact HS1.out)))).mono ?_; rintro e w5 ⟨q5, d5, rfl, ho5, hb5⟩))
      have HB5 := Lib.hid (HFB.out _ (show SS w5 by ((repeat (first | with_reducible refine HKA.out _ _ ?_ | with_reducible refine HKD.out _ ?_ | with_reducible refine HKC.out _ _ ?_ (by assumption))); with_reducible exact HS1.out)))
      have HD := Lib.hid (ho5.lower (HFB.out _ (by ((repeat (first | with_reducible refine HKA.out _ _ ?_ | with_reducible refine HKD.out _ ?_ | with_reducible refine HKC.out _ _ ?_ (by assumption))); with_reducible exact HS1.out))).size)
      have HG8 : Hid (∀ ad, p8 = some ad → w3.heap.size ≤ ad.block ∧ ad.block < w4.heap.size) := Lib.hid (HO8.out.lt)
      replace HO8 := Lib.hid (HO8.out.keep HB5.out)
      replace HB := Lib.hid (bch' HB.out HB5.out)
      clear hw1 hw2 HBO HS1 HKA HKD HKC HFB HFI HFC HFE ho5 hb5 HB5 HCH0
      go_wp2_with fail
      go_loopw [88] (fun s wr => ∃ k : Nat, s = .int .i64 (k : Int) ∧ k ≤ D.length ∧ Hid (Below w3.heap.size w3 wr) ∧ Hid (OwnR encEn 4 w3.heap.size 43 wr p8 c8 (N k)) ∧ Hid (OwnR encEn 4 w4.heap.size 43 wr q5 d5 D)) (fun s _ => D.length - (intOf s).toNat)
      case atStart => exact ⟨0, rfl, Nat.zero_le _, HB, HO8, HD⟩
      case round =>
        obtain ⟨k, rfl, hk9, HB2, HO82, HD2⟩ := hrel
        clear HB HO8 HD
        have HB := HB2; have HO8 := HO82; have HD := HD2; clear HB2 HO82 HD2
        by_cases hkl : k < D.length
        · have hlt : (k : Int) < (D.length : Int) := by omega
          have hk0 : (0 : Int) ≤ (k : Int) := by omega
          have hlo : k * 4 < 9223372036854775807 := by have := HDL.out; omega
          have hun : IntKind.i64.wrap ((k : Int) + 1) = (k : Int) + 1 := IntWalk.i64_in _ (by have := HDL.out; omega)
          obtain ⟨j, hj, hix, hne, hset⟩ := HST.out k hkl
          have hjF : j < nF := by rw [HNL.out] at hj; exact hj
          have hjl : ¬ (j : Int) < 0 := by omega
          have hj0 : (0 : Int) ≤ (j : Int) := by omega
          have hjn : (j : Int) < (nF : Int) := by omega
          have hlj : j * 4 < 9223372036854775807 := by have := HFEW.out; have := HNF.out; omega
          obtain ⟨x, hx⟩ : ∃ x, x = D[k]'hkl := ⟨_, rfl⟩
          obtain ⟨u, hu⟩ : ∃ u, u = (N k)[j]'hj := ⟨_, rfl⟩
          rw [← hx] at hix hne hset
          rw [← hu] at hne
          obtain ⟨g8, cur, hp8, -⟩ := HO8.out.to_blk (fun e => by rw [e] at hj; exact absurd hj (Nat.not_lt_zero _))
          subst hp8
          obtain ⟨b5, cu5, hq5, -⟩ := HD.out.to_blk (fun e => by rw [e] at hkl; exact absurd hkl (Nat.not_lt_zero _))
          subst hq5
          have hcell := HD.out.cellsAt encEn_len (i := k) (x := x) (by rw [hx]; exact List.getElem?_eq_getElem hkl)
          have y0 : wr.cell? ⟨b5, k * 4, none⟩ = some (.int .i64 (x.ch)) := hcell 0 _ rfl
          have y1 : wr.cell? ⟨b5, k * 4 + 1, none⟩ = some (.int .i64 (x.at_)) := hcell 1 _ rfl
          have y2 : wr.cell? ⟨b5, k * 4 + 2, none⟩ = some (.int .i64 (x.pa)) := hcell 2 _ rfl
          have y3 : wr.cell? ⟨b5, k * 4 + 3, none⟩ = some (.int .i64 (x.lv)) := hcell 3 _ rfl
          have hbr : b5 < wr.heap.size := (HD.out.lt _ rfl).2
          have HU : Hid ((N k)[j]? = some u) := Lib.hid (by rw [hu]; exact List.getElem?_eq_getElem hj)
          have HNE := Lib.hid hne; have HSET := Lib.hid hset; have HIXE := Lib.hid hix; have HJ := Lib.hid hj
          clear hcell hu hx hne hset hix hj
          go_upto_region 23 with fail
          clear y0 y1 y2 y3 hbr
          have hb := (Below.refl wr.heap.size wr).alloc (Nat.le_refl _) (.cells #[.int .i64 (x.ch), .int .i64 (x.at_), .int .i64 (x.pa), .int .i64 (x.lv)] 43)
          have HX := Lib.hid (Blk.new wr 43 #[.int .i64 (x.ch), .int .i64 (x.at_), .int .i64 (x.pa), .int .i64 (x.lv)])
          obtain ⟨n16, hn16⟩ : ∃ n, n = wr.heap.size := ⟨_, rfl⟩
          obtain ⟨Wa, hWWa⟩ : ∃ X, X = wr.alloc (.cells #[.int .i64 (x.ch), .int .i64 (x.at_), .int .i64 (x.pa), .int .i64 (x.lv)] 43) := ⟨_, rfl⟩
          rw [← hn16] at HX ⊢
          rw [← hWWa] at hb HX ⊢
          replace HO8 := Lib.hid (OwnR.keep HO8.out hb); replace HD := Lib.hid (OwnR.keep HD.out hb); replace HB := Lib.hid (bch' HB.out hb); clear hb
          clear hWWa hn16
          obtain ⟨x0, x1, x2, x3, xf0, xf1, xf2, xf3⟩ := HX.out.c4
          have hix := fun (V : World) (h1 : RowX encEn 4 V (some ⟨g8, 0, none⟩) (N k)) (h2 : Blk V n16 43 #[.int .i64 (x.ch), .int .i64 (x.at_), .int .i64 (x.pa), .int .i64 (x.lv)]) => en1_index 10 (.pointer (some ⟨n16, 0, none⟩)) (N k) (fun y => y.ky == x.ky) (some ⟨g8, 0, none⟩) c8 V.heap.size V h1 (Nat.le_refl _) (by rw [HNL.out]; have := HFEW.out; have := HNF.out; omega) (enters_of Tryz.func10 (by kernel_rfl) rfl) (fun y _ W2 hW => cl_tchain y x n16 W2 (h2.keep hW))
          rw [HIXE.out, HNL.out] at hix
          have HIX := Lib.hid hix; clear hix
          clear HIXE
          go_upto_region 24 with (first | (with_reducible refine ((HIX.out _ (HO8.out.row encEn_len) HX.out).mono ?_); rintro e w6 ⟨rfl, hb⟩; replace HX := Lib.hid (HX.out.keep hb); clear x0 x1 x2 x3 xf0 xf1 xf2 xf3; replace HO8 := Lib.hid (OwnR.keep HO8.out hb); replace HD := Lib.hid (OwnR.keep HD.out hb); replace HB := Lib.hid (bch' HB.out hb); clear hb; obtain ⟨x0, x1, x2, x3, xf0, xf1, xf2, xf3⟩ := HX.out.c4))
          clear HIX
          clear x0 x1 x2 x3 xf0 xf1 xf2 xf3
          have HU0 : Hid (w6.cell? ⟨g8, j * 4, none⟩ = some (.int .i64 (u.ch))) := Lib.hid (HO8.out.cellsAt encEn_len HU.out 0 _ rfl)
          have HU1 : Hid (w6.cell? ⟨g8, j * 4 + 1, none⟩ = some (.int .i64 (u.at_))) := Lib.hid (HO8.out.cellsAt encEn_len HU.out 1 _ rfl)
          have HU2 : Hid (w6.cell? ⟨g8, j * 4 + 2, none⟩ = some (.int .i64 (u.pa))) := Lib.hid (HO8.out.cellsAt encEn_len HU.out 2 _ rfl)
          have HU3 : Hid (w6.cell? ⟨g8, j * 4 + 3, none⟩ = some (.int .i64 (u.lv))) := Lib.hid (HO8.out.cellsAt encEn_len HU.out 3 _ rfl)
          have HG := Lib.hid (HO8.out.lt _ rfl).2
          have heq := fun V => en_eql_f V u x HNE.out
          have q0 := fun p : BelowOf _ => (HX.out.keep p.h).c4.1
          have q1 := fun p : BelowOf _ => (HX.out.keep p.h).c4.2.1
          have q2 := fun p : BelowOf _ => (HX.out.keep p.h).c4.2.2.1
          have q3 := fun p : BelowOf _ => (HX.out.keep p.h).c4.2.2.2.1
          have v0 := fun p : BelowOf _ => (p.h.cell (p := ⟨g8, j * 4, none⟩) HG.out).trans HU0.out
          have v1 := fun p : BelowOf _ => (p.h.cell (p := ⟨g8, j * 4 + 1, none⟩) HG.out).trans HU1.out
          have v2 := fun p : BelowOf _ => (p.h.cell (p := ⟨g8, j * 4 + 2, none⟩) HG.out).trans HU2.out
          have v3 := fun p : BelowOf _ => (p.h.cell (p := ⟨g8, j * 4 + 3, none⟩) HG.out).trans HU3.out
          have zz := fun p : BelowOf _ => Nat.lt_of_lt_of_le HG.out p.h.size
          refine wp_region_WQ (by kernel_rfl) (by kernel_rfl) ?_
          repeat (refine WQ.step (fun K hK => ?_); go_simp; first | (refine hK.out _ ?_; clear hK K) | (apply Exists.intro; refine ⟨fun _ => ?_, hK.out _ ?_⟩; (first | rfl); clear hK K))
          refine WQ.nil ?_
          intro wz hw'
          obtain ⟨⟨wq, hbq⟩, hw2⟩ := hw'
          subst hw2
          replace HX := Lib.hid (HX.out.keep hbq); replace HO8 := Lib.hid (HO8.out.keep hbq); replace HD := Lib.hid (HD.out.keep hbq)
          replace HB := Lib.hid (bch' HB.out hbq)
          clear q0 q1 q2 q3 v0 v1 v2 v3 zz
          clear heq HU0 HU1 HU2 HU3 HG
          obtain ⟨x0, x1, x2, x3, xf0, xf1, xf2, xf3⟩ := HX.out.c4
          have hcell := HO8.out.cellsAt encEn_len HU.out
          have hfr := HO8.out.frozenAt (fun e => by have := HJ.out; rw [e] at this; exact absurd this (Nat.not_lt_zero _))
          have c0 : wz.cell? ⟨g8, j * 4, none⟩ = some (.int .i64 (u.ch)) := hcell 0 _ rfl
          have c1 : wz.cell? ⟨g8, j * 4 + 1, none⟩ = some (.int .i64 (u.at_)) := hcell 1 _ rfl
          have c2 : wz.cell? ⟨g8, j * 4 + 2, none⟩ = some (.int .i64 (u.pa)) := hcell 2 _ rfl
          have c3 : wz.cell? ⟨g8, j * 4 + 3, none⟩ = some (.int .i64 (u.lv)) := hcell 3 _ rfl
          have e0 : wz.frozen? ⟨g8, j * 4, none⟩ = false := hfr _
          have e1 : wz.frozen? ⟨g8, j * 4 + 1, none⟩ = false := hfr _
          have e2 : wz.frozen? ⟨g8, j * 4 + 2, none⟩ = false := hfr _
          have e3 : wz.frozen? ⟨g8, j * 4 + 3, none⟩ = false := hfr _
          have hbr : g8 < wz.heap.size := (HO8.out.lt _ rfl).2
          clear hcell hfr
          have HBs : Hid (Below w3.heap.size w3 ((((wz.setCell ⟨g8, j * 4, none⟩ (.int .i64 x.ch)).setCell ⟨g8, j * 4 + 1, none⟩ (.int .i64 x.at_)).setCell ⟨g8, j * 4 + 2, none⟩ (.int .i64 x.pa)).setCell ⟨g8, j * 4 + 3, none⟩ (.int .i64 x.lv))) := Lib.hid (below_storeAll (HG8.out _ rfl).1 (encEn x) wz (j * 4) HB.out)
          have HOs : Hid (OwnR encEn 4 w3.heap.size 43 ((((wz.setCell ⟨g8, j * 4, none⟩ (.int .i64 x.ch)).setCell ⟨g8, j * 4 + 1, none⟩ (.int .i64 x.at_)).setCell ⟨g8, j * 4 + 2, none⟩ (.int .i64 x.pa)).setCell ⟨g8, j * 4 + 3, none⟩ (.int .i64 x.lv)) (some ⟨g8, 0, none⟩) c8 (N (k + 1))) := Lib.hid (by rw [← HSET.out]; exact HO8.out.setk encEn_len HJ.out x)
          have HDs : Hid (OwnR encEn 4 w4.heap.size 43 ((((wz.setCell ⟨g8, j * 4, none⟩ (.int .i64 x.ch)).setCell ⟨g8, j * 4 + 1, none⟩ (.int .i64 x.at_)).setCell ⟨g8, j * 4 + 2, none⟩ (.int .i64 x.pa)).setCell ⟨g8, j * 4 + 3, none⟩ (.int .i64 x.lv)) (some ⟨b5, 0, none⟩) d5 D) := Lib.hid (HD.out.afar (fun g hg => storeAll_far (encEn x) wz (j * 4) g (by have h2 : g8 < w4.heap.size := (HG8.out _ rfl).2; show g ≠ g8; omega)))
          clear HX HB HO8 HD
          go_wp2_with fail
          go_roundw
          case rel => exact ⟨k + 1, by first | rfl | simp, by omega, HBs, HOs, HDs⟩
          case measure => first | (simp [intOf]; done) | (simp [intOf]; omega)
        · have hlt : ¬ (k : Int) < (D.length : Int) := by omega
          obtain rfl : k = D.length := by omega
          rw [HN1.out] at HO8
          clear HD hkl
          go_wp2_with fail
          obtain ⟨wo, rfl⟩ : ∃ X, X = wr := ⟨_, rfl⟩
          obtain ⟨D, hD⟩ : ∃ D, D = difL (lookL (L.map CuL.c) (k1 + 1)) (lookL (L.map CuL.c) (k2 + 1)) := ⟨_, rfl⟩
          obtain ⟨N, hN⟩ : ∃ N : Nat → List Ent, N = chN (L.map CuL.c) (k1 + 1) (k2 + 1) := ⟨_, rfl⟩
          have HST : Hid (∀ k (hk : k < D.length), ∃ j, ∃ hj : j < (N k).length, ixOf (fun y : Ent => y.ky == (D[k]'hk).ky) (N k) = (j : Int) ∧ (N k)[j]'hj ≠ D[k]'hk ∧ (N k).set j (D[k]'hk) = N (k + 1)) := Lib.hid (by subst hD; subst hN; exact fun k hk => chN_step hk)
          have HDL : Hid (D.length ≤ 8192) := Lib.hid (by rw [hD, difL_len]; have := chD_len (L.map CuL.c) (k1 + 1) (k2 + 1); have := HFEW.out; omega)
          have HN0 : Hid (N 0 = (lookL (L.map CuL.c) (k1 + 1))) := Lib.hid (by rw [hN]; exact (chN_start _ _ _).symm)
          have HN1 : Hid (N D.length = (lookL (L.map CuL.c) (k2 + 1))) := Lib.hid (by rw [hN, hD, difL_len]; exact chN_end _ _ _)
          have HNL : Hid (∀ k, (N k).length = nF) := Lib.hid (fun k => by rw [hN, chN_len]; exact HNF.out.symm)
          rw [← hD] at HCH1
          rw [← HN0.out] at HO8
          clear hD hN
          obtain ⟨l0, l1, l2, lf0, lf1, lf2⟩ := (HL.out.keep HB.out).c3
          obtain ⟨n0, n1, n2, nf0, nf1, nf2⟩ := (HN.out.keep HB.out).c3
          rw [rounds_succ]
          go_wp2_with fail
          obtain ⟨SS, hSS⟩ : ∃ SS : World → Prop, ∀ W', SS W' ↔ Below wo.heap.size wo W' := ⟨fun W' => Below wo.heap.size wo W', fun _ => Iff.rfl⟩
          have HBO : Hid (∀ W', SS W' → (W'.cell? ⟨w.heap.size, 0, none⟩ = some (.int .i64 num) ∧ W'.cell? ⟨w.heap.size, 1, none⟩ = some (.int .i64 pri) ∧ W'.cell? ⟨w.heap.size, 2, none⟩ = some (.slice (some ⟨b, o, none⟩) L.length c) ∧ W'.cell? ⟨n5, 0, none⟩ = some (.string ⟨(L[k0]'hk0).c.nu.toArray⟩) ∧ W'.cell? ⟨n5, 1, none⟩ = some (.string ⟨(L[k1]'hk1).c.nu.toArray⟩) ∧ W'.cell? ⟨n5, 2, none⟩ = some (.string ⟨(L[k2]'hk2).c.nu.toArray⟩) ∧ SS W')) := Lib.hid fun W' hs => by have h1 := (hSS W').1 hs; have h3 := ((HL.out.keep HB.out).keep h1).c3; have h4 := ((HN.out.keep HB.out).keep h1).c3; exact ⟨h3.1, h3.2.1, h3.2.2.1, h4.1, h4.2.1, h4.2.2.1, hs⟩
          have HS1 : Hid (SS wo) := Lib.hid ((hSS _).2 (Below.refl _ _))
          have HKA : Hid (∀ A c, SS A → SS (A.alloc c)) := Lib.hid fun A c hs => (hSS _).2 (bch' ((hSS A).1 hs) ((Below.refl _ _).alloc (Nat.le_refl _) _))
          have HKD : Hid (∀ A, SS A → SS A.drew) := Lib.hid fun A hs => (hSS _).2 (((hSS A).1 hs).drew)
          have HKC : Hid (∀ A B, SS A → Below A.heap.size A B → SS B) := Lib.hid fun A B hs hb => (hSS _).2 (bch' ((hSS A).1 hs) hb)
          have HFB : Hid (∀ A, SS A → Below wo.heap.size wo A) := Lib.hid fun A hs => (hSS A).1 hs
          have HFI : Hid (∀ A, SS A → Below w3.heap.size w3 A) := Lib.hid fun A hs => bch' HB.out ((hSS A).1 hs)
          have HFC : Hid (∀ A, SS A → CusAt A (some ⟨b, o, none⟩) L) := Lib.hid fun A hs => HC0.out.kept (bch' HBA.out (HFI.out A hs))
          have HFE : Hid (∀ A, SS A → Env A) := Lib.hid fun A hs => ENV.out.below (bch' HBA.out (HFI.out A hs))
          clear hSS l0 l1 l2 lf0 lf1 lf2 n0 n1 n2 nf0 nf1 nf2
          have hw1 : IntKind.i64.wrap (1 + 1) = 2 := by decide
          have hw2 : IntKind.i64.wrap 2 = 2 := by decide
          go_region_held3 (fun W' => W'.cell? ⟨w.heap.size, 0, none⟩ = some (.int .i64 num) ∧ W'.cell? ⟨w.heap.size, 1, none⟩ = some (.int .i64 pri) ∧ W'.cell? ⟨w.heap.size, 2, none⟩ = some (.slice (some ⟨b, o, none⟩) L.length c) ∧ W'.cell? ⟨n5, 0, none⟩ = some (.string ⟨(L[k0]'hk0).c.nu.toArray⟩) ∧ W'.cell? ⟨n5, 1, none⟩ = some (.string ⟨(L[k1]'hk1).c.nu.toArray⟩) ∧ W'.cell? ⟨n5, 2, none⟩ = some (.string ⟨(L[k2]'hk2).c.nu.toArray⟩) ∧ SS W') (with_reducible refine HBO.out _ ?_; ((repeat (first | with_reducible refine HKA.out _ _ ?_ | with_reducible refine HKD.out _ ?_ | with_reducible refine HKC.out _ _ ?_ (by assumption))); with_reducible exact HS1.out)) (first | (go_at_call 8; with_reducible refine (HCH1.out _ (HFC.out _ (by ((repeat (first | with_reducible refine HKA.out _ _ ?_ | with_reducible refine HKD.out _ ?_ | with_reducible refine HKC.out _ _ ?_ (by assumption))); with_reducible exact HS1.out))) (HFE.out _ (by ((repeat (first | with_reducible refine HKA.out _ _ ?_ | with_reducible refine HKD.out _ ?_ | with_reducible refine HKC.out _ _ ?_ (by assumption))); with_reducible exact HS1.out)))).mono ?_; rintro e w5 ⟨q5, d5, rfl, ho5, hb5⟩))
          have HB5 := Lib.hid (HFB.out _ (show SS w5 by ((repeat (first | with_reducible refine HKA.out _ _ ?_ | with_reducible refine HKD.out _ ?_ | with_reducible refine HKC.out _ _ ?_ (by assumption))); with_reducible exact HS1.out)))
          have HD := Lib.hid (ho5.lower (HFB.out _ (by ((repeat (first | with_reducible refine HKA.out _ _ ?_ | with_reducible refine HKD.out _ ?_ | with_reducible refine HKC.out _ _ ?_ (by assumption))); with_reducible exact HS1.out))).size)
          have HG8 : Hid (∀ ad, p8 = some ad → w3.heap.size ≤ ad.block ∧ ad.block < wo.heap.size) := Lib.hid (HO8.out.lt)
          replace HO8 := Lib.hid (HO8.out.keep HB5.out)
          replace HB := Lib.hid (bch' HB.out HB5.out)
          clear hw1 hw2 HBO HS1 HKA HKD HKC HFB HFI HFC HFE ho5 hb5 HB5 HCH1
          go_wp2_with fail
          go_loopw [88] (fun s wr => ∃ k : Nat, s = .int .i64 (k : Int) ∧ k ≤ D.length ∧ Hid (Below w3.heap.size w3 wr) ∧ Hid (OwnR encEn 4 w3.heap.size 43 wr p8 c8 (N k)) ∧ Hid (OwnR encEn 4 wo.heap.size 43 wr q5 d5 D)) (fun s _ => D.length - (intOf s).toNat)
          case atStart => exact ⟨0, rfl, Nat.zero_le _, HB, HO8, HD⟩
          case round =>
            obtain ⟨k, rfl, hk9, HB2, HO82, HD2⟩ := hrel
            clear HB HO8 HD
            have HB := HB2; have HO8 := HO82; have HD := HD2; clear HB2 HO82 HD2
            by_cases hkl : k < D.length
            · have hlt : (k : Int) < (D.length : Int) := by omega
              have hk0 : (0 : Int) ≤ (k : Int) := by omega
              have hlo : k * 4 < 9223372036854775807 := by have := HDL.out; omega
              have hun : IntKind.i64.wrap ((k : Int) + 1) = (k : Int) + 1 := IntWalk.i64_in _ (by have := HDL.out; omega)
              obtain ⟨j, hj, hix, hne, hset⟩ := HST.out k hkl
              have hjF : j < nF := by rw [HNL.out] at hj; exact hj
              have hjl : ¬ (j : Int) < 0 := by omega
              have hj0 : (0 : Int) ≤ (j : Int) := by omega
              have hjn : (j : Int) < (nF : Int) := by omega
              have hlj : j * 4 < 9223372036854775807 := by have := HFEW.out; have := HNF.out; omega
              obtain ⟨x, hx⟩ : ∃ x, x = D[k]'hkl := ⟨_, rfl⟩
              obtain ⟨u, hu⟩ : ∃ u, u = (N k)[j]'hj := ⟨_, rfl⟩
              rw [← hx] at hix hne hset
              rw [← hu] at hne
              obtain ⟨g8, cur, hp8, -⟩ := HO8.out.to_blk (fun e => by rw [e] at hj; exact absurd hj (Nat.not_lt_zero _))
              subst hp8
              obtain ⟨b5, cu5, hq5, -⟩ := HD.out.to_blk (fun e => by rw [e] at hkl; exact absurd hkl (Nat.not_lt_zero _))
              subst hq5
              have hcell := HD.out.cellsAt encEn_len (i := k) (x := x) (by rw [hx]; exact List.getElem?_eq_getElem hkl)
              have y0 : wr.cell? ⟨b5, k * 4, none⟩ = some (.int .i64 (x.ch)) := hcell 0 _ rfl
              have y1 : wr.cell? ⟨b5, k * 4 + 1, none⟩ = some (.int .i64 (x.at_)) := hcell 1 _ rfl
              have y2 : wr.cell? ⟨b5, k * 4 + 2, none⟩ = some (.int .i64 (x.pa)) := hcell 2 _ rfl
              have y3 : wr.cell? ⟨b5, k * 4 + 3, none⟩ = some (.int .i64 (x.lv)) := hcell 3 _ rfl
              have hbr : b5 < wr.heap.size := (HD.out.lt _ rfl).2
              have HU : Hid ((N k)[j]? = some u) := Lib.hid (by rw [hu]; exact List.getElem?_eq_getElem hj)
              have HNE := Lib.hid hne; have HSET := Lib.hid hset; have HIXE := Lib.hid hix; have HJ := Lib.hid hj
              clear hcell hu hx hne hset hix hj
              go_upto_region 23 with fail
              clear y0 y1 y2 y3 hbr
              have hb := (Below.refl wr.heap.size wr).alloc (Nat.le_refl _) (.cells #[.int .i64 (x.ch), .int .i64 (x.at_), .int .i64 (x.pa), .int .i64 (x.lv)] 43)
              have HX := Lib.hid (Blk.new wr 43 #[.int .i64 (x.ch), .int .i64 (x.at_), .int .i64 (x.pa), .int .i64 (x.lv)])
              obtain ⟨n16, hn16⟩ : ∃ n, n = wr.heap.size := ⟨_, rfl⟩
              obtain ⟨Wa, hWWa⟩ : ∃ X, X = wr.alloc (.cells #[.int .i64 (x.ch), .int .i64 (x.at_), .int .i64 (x.pa), .int .i64 (x.lv)] 43) := ⟨_, rfl⟩
              rw [← hn16] at HX ⊢
              rw [← hWWa] at hb HX ⊢
              replace HO8 := Lib.hid (OwnR.keep HO8.out hb); replace HD := Lib.hid (OwnR.keep HD.out hb); replace HB := Lib.hid (bch' HB.out hb); clear hb
              clear hWWa hn16
              obtain ⟨x0, x1, x2, x3, xf0, xf1, xf2, xf3⟩ := HX.out.c4
              have hix := fun (V : World) (h1 : RowX encEn 4 V (some ⟨g8, 0, none⟩) (N k)) (h2 : Blk V n16 43 #[.int .i64 (x.ch), .int .i64 (x.at_), .int .i64 (x.pa), .int .i64 (x.lv)]) => en1_index 10 (.pointer (some ⟨n16, 0, none⟩)) (N k) (fun y => y.ky == x.ky) (some ⟨g8, 0, none⟩) c8 V.heap.size V h1 (Nat.le_refl _) (by rw [HNL.out]; have := HFEW.out; have := HNF.out; omega) (enters_of Tryz.func10 (by kernel_rfl) rfl) (fun y _ W2 hW => cl_tchain y x n16 W2 (h2.keep hW))
              rw [HIXE.out, HNL.out] at hix
              have HIX := Lib.hid hix; clear hix
              clear HIXE
              go_upto_region 24 with (first | (with_reducible refine ((HIX.out _ (HO8.out.row encEn_len) HX.out).mono ?_); rintro e w6 ⟨rfl, hb⟩; replace HX := Lib.hid (HX.out.keep hb); clear x0 x1 x2 x3 xf0 xf1 xf2 xf3; replace HO8 := Lib.hid (OwnR.keep HO8.out hb); replace HD := Lib.hid (OwnR.keep HD.out hb); replace HB := Lib.hid (bch' HB.out hb); clear hb; obtain ⟨x0, x1, x2, x3, xf0, xf1, xf2, xf3⟩ := HX.out.c4))
              clear HIX
              clear x0 x1 x2 x3 xf0 xf1 xf2 xf3
              have HU0 : Hid (w6.cell? ⟨g8, j * 4, none⟩ = some (.int .i64 (u.ch))) := Lib.hid (HO8.out.cellsAt encEn_len HU.out 0 _ rfl)
              have HU1 : Hid (w6.cell? ⟨g8, j * 4 + 1, none⟩ = some (.int .i64 (u.at_))) := Lib.hid (HO8.out.cellsAt encEn_len HU.out 1 _ rfl)
              have HU2 : Hid (w6.cell? ⟨g8, j * 4 + 2, none⟩ = some (.int .i64 (u.pa))) := Lib.hid (HO8.out.cellsAt encEn_len HU.out 2 _ rfl)
              have HU3 : Hid (w6.cell? ⟨g8, j * 4 + 3, none⟩ = some (.int .i64 (u.lv))) := Lib.hid (HO8.out.cellsAt encEn_len HU.out 3 _ rfl)
              have HG := Lib.hid (HO8.out.lt _ rfl).2
              have heq := fun V => en_eql_f V u x HNE.out
              have q0 := fun p : BelowOf _ => (HX.out.keep p.h).c4.1
              have q1 := fun p : BelowOf _ => (HX.out.keep p.h).c4.2.1
              have q2 := fun p : BelowOf _ => (HX.out.keep p.h).c4.2.2.1
              have q3 := fun p : BelowOf _ => (HX.out.keep p.h).c4.2.2.2.1
              have v0 := fun p : BelowOf _ => (p.h.cell (p := ⟨g8, j * 4, none⟩) HG.out).trans HU0.out
              have v1 := fun p : BelowOf _ => (p.h.cell (p := ⟨g8, j * 4 + 1, none⟩) HG.out).trans HU1.out
              have v2 := fun p : BelowOf _ => (p.h.cell (p := ⟨g8, j * 4 + 2, none⟩) HG.out).trans HU2.out
              have v3 := fun p : BelowOf _ => (p.h.cell (p := ⟨g8, j * 4 + 3, none⟩) HG.out).trans HU3.out
              have zz := fun p : BelowOf _ => Nat.lt_of_lt_of_le HG.out p.h.size
              refine wp_region_WQ (by kernel_rfl) (by kernel_rfl) ?_
              repeat (refine WQ.step (fun K hK => ?_); go_simp; first | (refine hK.out _ ?_; clear hK K) | (apply Exists.intro; refine ⟨fun _ => ?_, hK.out _ ?_⟩; (first | rfl); clear hK K))
              refine WQ.nil ?_
              intro wz hw'
              obtain ⟨⟨wq, hbq⟩, hw2⟩ := hw'
              subst hw2
              replace HX := Lib.hid (HX.out.keep hbq); replace HO8 := Lib.hid (HO8.out.keep hbq); replace HD := Lib.hid (HD.out.keep hbq)
              replace HB := Lib.hid (bch' HB.out hbq)
              clear q0 q1 q2 q3 v0 v1 v2 v3 zz
              clear heq HU0 HU1 HU2 HU3 HG
              obtain ⟨x0, x1, x2, x3, xf0, xf1, xf2, xf3⟩ := HX.out.c4
              have hcell := HO8.out.cellsAt encEn_len HU.out
              have hfr := HO8.out.frozenAt (fun e => by have := HJ.out; rw [e] at this; exact absurd this (Nat.not_lt_zero _))
              have c0 : wz.cell? ⟨g8, j * 4, none⟩ = some (.int .i64 (u.ch)) := hcell 0 _ rfl
              have c1 : wz.cell? ⟨g8, j * 4 + 1, none⟩ = some (.int .i64 (u.at_)) := hcell 1 _ rfl
              have c2 : wz.cell? ⟨g8, j * 4 + 2, none⟩ = some (.int .i64 (u.pa)) := hcell 2 _ rfl
              have c3 : wz.cell? ⟨g8, j * 4 + 3, none⟩ = some (.int .i64 (u.lv)) := hcell 3 _ rfl
              have e0 : wz.frozen? ⟨g8, j * 4, none⟩ = false := hfr _
              have e1 : wz.frozen? ⟨g8, j * 4 + 1, none⟩ = false := hfr _
              have e2 : wz.frozen? ⟨g8, j * 4 + 2, none⟩ = false := hfr _
              have e3 : wz.frozen? ⟨g8, j * 4 + 3, none⟩ = false := hfr _
              have hbr : g8 < wz.heap.size := (HO8.out.lt _ rfl).2
              clear hcell hfr
              have HBs : Hid (Below w3.heap.size w3 ((((wz.setCell ⟨g8, j * 4, none⟩ (.int .i64 x.ch)).setCell ⟨g8, j * 4 + 1, none⟩ (.int .i64 x.at_)).setCell ⟨g8, j * 4 + 2, none⟩ (.int .i64 x.pa)).setCell ⟨g8, j * 4 + 3, none⟩ (.int .i64 x.lv))) := Lib.hid (below_storeAll (HG8.out _ rfl).1 (encEn x) wz (j * 4) HB.out)
              have HOs : Hid (OwnR encEn 4 w3.heap.size 43 ((((wz.setCell ⟨g8, j * 4, none⟩ (.int .i64 x.ch)).setCell ⟨g8, j * 4 + 1, none⟩ (.int .i64 x.at_)).setCell ⟨g8, j * 4 + 2, none⟩ (.int .i64 x.pa)).setCell ⟨g8, j * 4 + 3, none⟩ (.int .i64 x.lv)) (some ⟨g8, 0, none⟩) c8 (N (k + 1))) := Lib.hid (by rw [← HSET.out]; exact HO8.out.setk encEn_len HJ.out x)
              have HDs : Hid (OwnR encEn 4 wo.heap.size 43 ((((wz.setCell ⟨g8, j * 4, none⟩ (.int .i64 x.ch)).setCell ⟨g8, j * 4 + 1, none⟩ (.int .i64 x.at_)).setCell ⟨g8, j * 4 + 2, none⟩ (.int .i64 x.pa)).setCell ⟨g8, j * 4 + 3, none⟩ (.int .i64 x.lv)) (some ⟨b5, 0, none⟩) d5 D) := Lib.hid (HD.out.afar (fun g hg => storeAll_far (encEn x) wz (j * 4) g (by have h2 : g8 < wo.heap.size := (HG8.out _ rfl).2; show g ≠ g8; omega)))
              clear HX HB HO8 HD
              go_wp2_with fail
              go_roundw
              case rel => exact ⟨k + 1, by first | rfl | simp, by omega, HBs, HOs, HDs⟩
              case measure => first | (simp [intOf]; done) | (simp [intOf]; omega)
            · have hlt : ¬ (k : Int) < (D.length : Int) := by omega
              obtain rfl : k = D.length := by omega
              rw [HN1.out] at HO8
              clear HD hkl
              go_wp2_with fail
              have hse := fun V (h1 : RowX encEn 4 V p8 (lookL (L.map CuL.c) (k2 + 1))) (h2 : RowX encEn 4 V q2 (lookL (L.map CuL.c) (k2 + 1))) => r15_sameents (lookL (L.map CuL.c) (k2 + 1)) (lookL (L.map CuL.c) (k2 + 1)) (.slice p8 nF c8) (.slice q2 nF d2) V ⟨p8, c8, by rw [lookL_len, HNF.out], h1⟩ ⟨q2, d2, by rw [lookL_len, HNF.out], h2⟩ (by rw [lookL_len]; have := HFEW.out; omega)
              rw [show decide ((lookL (L.map CuL.c) (k2 + 1)) = (lookL (L.map CuL.c) (k2 + 1))) = true from decide_eq_true rfl] at hse
              have HSE := Lib.hid hse; clear hse
              rw [rounds_succ]
              go_wp2_with (first | (with_reducible refine ((HSE.out _ (HO8.out.row encEn_len) (HQ2.out.kept HB.out)).mono ?_); rintro e w6 ⟨rfl, hb⟩; replace HB := Lib.hid (bch' HB.out hb); clear hb) | (with_reducible refine ((case_looks _ (ENV.out.below (bch' HBA.out HB.out))).mono ?_); rintro e w7 ⟨rfl, hb⟩; replace HB := Lib.hid (bch' HB.out hb); clear hb))
              go_ret
              exact ⟨rfl, bch' HBA.out HB.out⟩
end Go.Proofs.YtikogofioggmlaaGreatDoor

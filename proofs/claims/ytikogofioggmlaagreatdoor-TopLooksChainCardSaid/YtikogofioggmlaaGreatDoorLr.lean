/-
  A look: the entries behind a cue.
-/
import Derived.Test.YtikogofioggmlaaGreatDoorLq
import Derived.Deep.AppendLies
import Derived.Deep.RegionHeld3
import Derived.Laws.AppendOwnNone
set_option linter.unusedVariables false
set_option linter.unusedSimpArgs false
namespace Lum
open Go Go.RowKit Go.Shelf
open Go.Lib (decDigits itoa)
theorem step_appKB {β : Type} {enc : β → List Value} {k : Nat} {P : Program} {ops : Array Oper} {o : Oper} {a : Act} {K : Act → World → Prop} {Q : Exit → Act → World → Prop} {E : Prop} (hgd : o.guard = none) (s x : Operand) (t : TypeId)
    (ho : o.op = .call { callee := .builtin .append, args := #[s, x], argTypes := #[t, t] })
    (base : Nat) (e : TypeId) (i : TypeInfo) (z : Value) (bytes : Nat) (ht : P.underlying t = some (.slice e)) (hi : P.info? e = some i) (hz : i.zero = some z)
    (hsize : i.size = k) (hby : i.bytes = bytes) (hzs : z.cells.size = k) (hbs : bytes ≤ 64) (hk0 : 0 < k) (hk : ∀ x, (enc x).length = k) (h1 : ∀ x, ∀ v ∈ enc x, v.oneCell' = true)
    (p : Option Addr) (c : Nat) (l : List β) (n : Nat) (hln : n = l.length) (W : World) (y : β) (cs : Array Value) (hcs : cs = (enc y).toArray) (hs : a.eval s = .slice p n c) (hown : OwnR enc k base e W p c l)
    (hx : a.eval x = .slice (some ⟨W.heap.size, 0, none⟩) 1 1)
    (hn : l.length ≤ 1000000) (hbase : base ≤ W.heap.size)
    (h : ∀ p' c' w', OwnR enc k base e w' p' c' (l ++ [y]) → Below base (W.alloc (.cells cs e)) w' → (∀ g t cs2, t ≠ e → Blk W g t cs2 → Blk w' g t cs2) → K (a.put o.dst (.slice p' (n + 1) c')) w') :
    if Region.wanted o (yielded ops a.tmps) = true then Oper.wp P o a (W.alloc (.cells cs e)) K Q else E := by
  subst hln hcs
  refine step_append_lies _ hgd s x t ho base e i z k bytes ht hi hz hsize hby hzs hk0 _ _ _ hs (World.ownsRow.alloc hown _) ⟨W.heap.size, 0, none⟩ 1 1 (enc y) hx (by rw [hk, Nat.one_mul])
    (fun j u hu => by rw [addr_add, Nat.zero_add, World.cell?_alloc_new]; simpa using hu) (h1 y) (by decide) (by unfold maxLen; omega) ?_ (by rw [World.size_alloc]; omega) _ rfl ?_
  · have : (l.length + 1) * bytes ≤ 1000001 * 64 := Nat.mul_le_mul (by omega) hbs
    omega
  · intro g cap w' hown' hgrow _ _
    refine h _ cap w' ?_ ?_ ?_
    · unfold OwnR
      rw [List.length_append, List.flatMap_append, List.flatMap_cons, List.flatMap_nil, List.append_nil]; exact hown'
    · refine (Below.refl base _).grown hgrow (by rw [World.size_alloc]; omega) ?_
      intro k hk
      cases p with
      | none => simp [Value.ownBlock] at hk
      | some ad => simp [Value.ownBlock] at hk; subst hk; exact (hown.lt ad rfl).1
    · intro g t cs2 hne hB
      refine Blk.kept (hB.alloc _) hgrow (fun eq => ?_)
      cases p with
      | none => simp [Value.ownBlock] at eq
      | some ad =>
        simp [Value.ownBlock] at eq
        rcases hown.2 with ⟨h1, -⟩ | ⟨g2, cap2, cur, h1, -, h3, -⟩
        · cases h1
        · injection h1 with h1
          injection h1 with h1
          subst h1
          subst eq
          have h4 : W.heap[g]? = some (.cells cs2 t (0, 0)) := hB
          rw [h3] at h4
          injection h4 with h4
          injection h4 with _ h5
          exact hne h5.symm

theorem foot_rng {L : List CuL} (h : ∀ x ∈ L, ∀ m ∈ x.c.mv, Rng m.ky) : ∀ p ∈ footL (L.map CuL.c), Rng p := by
  intro p hp
  obtain ⟨c1, h2, h3⟩ := List.mem_flatMap.1 (footL_mem.1 hp)
  obtain ⟨x1, h4, rfl⟩ := List.mem_map.1 h2
  obtain ⟨m1, h5, rfl⟩ := List.mem_map.1 h3
  exact h x1 h4 m1 h5
end Lum
namespace Go.Proofs.YtikogofioggmlaaGreatDoor
open Go.RowKit Go.Shelf Lum
open Go.Lib (decDigits itoa)
attribute [local go_sem] bs_get bs_extract_end bs_extract_from bs_extract bs_append

set_option maxRecDepth 100000 in
set_option maxHeartbeats 8000000 in
theorem own_look (num pri : Int) (L : List CuL) (p : Option Addr) (c N : Nat) (w : World) (hC : CusAt w p L) (hN : N < L.length) (hl : L.length ≤ 64) (hM : ∀ x ∈ L, MvsR x.c.mv) (hRg : ∀ x ∈ L, ∀ m ∈ x.c.mv, Rng m.ky) :
    Calls Tryz.prog 18 #[.agg #[.int .i64 num, .int .i64 pri, .slice p L.length c], .int .i64 (N : Int)] w fun e w' => ∃ q d, e = .returned (.slice q (lookL (L.map CuL.c) (N + 1)).length d) ∧ OwnR encEn 4 w.heap.size 43 w' q d (lookL (L.map CuL.c) (N + 1)) ∧ Below w.heap.size w w' ∧ (footL (L.map CuL.c)).length ≤ 8192 := by
  have hfp := fun W (h : CusAt W p L) => own_footprint num pri L p c W h hl (fun x hx => (hM x hx).few) hRg
  have hval := fun (x : Int × Int) W (h : CusAt W p L) (hx : Rng x) => own_tvalue num pri L p c N x.1 x.2 W h hN (by omega) hM hRg hx
  have HRF := Lib.hid (foot_rng hRg)
  have HVAL := Lib.hid hval; have HFP := Lib.hid hfp; clear hval hfp hM hRg
  have HL := Lib.hid (Blk.new w 24 #[.int .i64 num, .int .i64 pri, .slice p L.length c])
  have HB := Lib.hid ((Below.refl w.heap.size w).alloc (Nat.le_refl _) (.cells #[.int .i64 num, .int .i64 pri, .slice p L.length c] 24))
  obtain ⟨l0, l1, l2, lf0, lf1, lf2⟩ := HL.out.c3
  have HC := Lib.hid (hC.kept HB.out); clear hC
  obtain ⟨i0, hi, hz0, hz1, hz2⟩ := info_parts info_eno
  go_enter Tryz.func18, Tryz.ntmps18
  go_wp2_with (first | (with_reducible refine ((HFP.out _ HC.out).mono ?_); rintro e w2 ⟨q, d, rfl, ho, hb, hbd⟩; have HO1 := Lib.hid ho; have HBD := Lib.hid hbd; clear hbd; replace HL := Lib.hid (HL.out.keep hb); clear l0 l1 l2 lf0 lf1 lf2; replace HC := Lib.hid (HC.out.kept hb); replace HB := Lib.hid (bch' HB.out hb); clear hb ho; obtain ⟨l0, l1, l2, lf0, lf1, lf2⟩ := HL.out.c3))
  obtain ⟨F, hF⟩ : ∃ F, F = footL (L.map CuL.c) := ⟨_, rfl⟩
  have HBD2 := HBD
  rw [← hF] at HO1 HRF HBD ⊢
  obtain ⟨g, hg⟩ : ∃ g : Int × Int → Int × Int, g = fun p => valN (L.map CuL.c) p (N + 1) := ⟨_, rfl⟩
  have HLK : Hid (lookL (L.map CuL.c) (N + 1) = F.map (entK g)) := Lib.hid (by rw [hF, hg]; rfl)
  have HVAL2 : Hid (∀ (x : Int × Int) (W : World), CusAt W p L → Rng x → Calls Tryz.prog 27 #[.agg #[.int .i64 num, .int .i64 pri, .slice p L.length c], .int .i64 (N : Int), .agg #[.int .i64 x.1, .int .i64 x.2]] W fun e w' => e = .returned (.agg #[.int .i64 (g x).1, .int .i64 (g x).2]) ∧ Below W.heap.size W w') := Lib.hid (fun x W h hx => by rw [hg]; exact HVAL.out x W h hx)
  clear HVAL
  have HVAL := HVAL2; clear HVAL2
  have HRW := Lib.hid (HO1.out.row encPm_len)
  have HFL : Hid (F.length ≤ 1000000) := Lib.hid (by have := HBD.out; omega)
  clear HBD
  clear HO1 hF hg HFP
  have HBW := HB; clear HB
  have HB := Lib.hid (Below.refl w2.heap.size w2)
  go_loopw [5, 11] (fun s j wr => ∃ (k n : Nat) (pp : Option Addr) (cc : Nat), s = .slice pp n cc ∧ j = .int .i64 (k : Int) ∧ k ≤ F.length ∧ Hid (n = ((F.take k).map (entK g)).length) ∧ Hid (Below w2.heap.size w2 wr) ∧ Hid (OwnR encEn 4 w2.heap.size 43 wr pp cc ((F.take k).map (entK g)))) (fun _ j _ => F.length - (intOf j).toNat)
  case atStart => exact ⟨0, 0, none, 0, rfl, rfl, Nat.zero_le _, Lib.hid (by simp), HB, Lib.hid (by rw [List.take_zero]; exact OwnR.nil _ _ _)⟩
  case round =>
    clear HB l0 l1 l2 lf0 lf1 lf2
    obtain ⟨k, n, pp, cc, rfl, rfl, hk9, HN, HB2, HO⟩ := hrel
    have HB := HB2; clear HB2
    by_cases hkl : k < F.length
    · have hlt : (k : Int) < (F.length : Int) := by omega
      have hk0 : (0 : Int) ≤ (k : Int) := by omega
      have hlo : k * 2 < 9223372036854775807 := by have := HFL.out; omega
      have hun : IntKind.i64.wrap ((k : Int) + 1) = (k : Int) + 1 := IntWalk.i64_in _ (by have := HFL.out; omega)
      obtain ⟨bb, oo, hq, hbb, hC⟩ := HRW.out (fun h => by rw [h] at hkl; exact absurd hkl (Nat.not_lt_zero _))
      subst hq
      obtain ⟨x, hx⟩ : ∃ x, x = F[k]'hkl := ⟨_, rfl⟩
      have hcell := hC k hkl
      rw [← hx] at hcell
      have HT : Hid (((F.take (k + 1)).map (entK g)) = ((F.take k).map (entK g)) ++ [entK g x]) := Lib.hid (by rw [List.take_succ_eq_append_getElem hkl, List.map_append, ← hx]; rfl)
      have HRX : Hid (Rng x) := Lib.hid (HRF.out x (by rw [hx]; exact List.getElem_mem hkl))
      have y0 : wr.cell? ⟨bb, oo + k * 2, none⟩ = some (.int .i64 x.1) := (HB.out.cell (p := ⟨bb, oo + k * 2 + 0, none⟩) hbb).trans (hcell 0 _ rfl)
      have y1 : wr.cell? ⟨bb, oo + k * 2 + 1, none⟩ = some (.int .i64 x.2) := (HB.out.cell (p := ⟨bb, oo + k * 2 + 1, none⟩) hbb).trans (hcell 1 _ rfl)
      have hbr : bb < wr.heap.size := Nat.lt_of_lt_of_le hbb HB.out.size
      clear hcell hx hbb hC
      go_upto_region 5 with fail
      clear y0 y1 hbr
      have hb := (Below.refl wr.heap.size wr).alloc (Nat.le_refl _) (.cells #[.int .i64 x.1, .int .i64 x.2] 39)
      have HX := Lib.hid (Blk.new wr 39 #[.int .i64 x.1, .int .i64 x.2])
      obtain ⟨n8, hn8⟩ : ∃ n, n = wr.heap.size := ⟨_, rfl⟩
      obtain ⟨Wa, hWWa⟩ : ∃ X, X = wr.alloc (.cells #[.int .i64 x.1, .int .i64 x.2] 39) := ⟨_, rfl⟩
      rw [← hn8] at HX ⊢
      rw [← hWWa] at hb HX ⊢
      replace HO := Lib.hid (OwnR.keep HO.out hb); replace HB := Lib.hid (bch' HB.out hb); clear hb
      clear hWWa hn8
      have HVA : Hid (∀ W, Below w2.heap.size w2 W → Calls Tryz.prog 27 #[.agg #[.int .i64 num, .int .i64 pri, .slice p L.length c], .int .i64 (N : Int), .agg #[.int .i64 x.1, .int .i64 x.2]] W fun e w' => e = .returned (.agg #[.int .i64 (g x).1, .int .i64 (g x).2]) ∧ Below W.heap.size W w') := Lib.hid (fun W hW => by have h := HVAL.out x W (HC.out.kept hW) HRX.out; exact h)
      have HO2 := Lib.hid (HO.out.keep (Below.refl _ Wa).drew)
      obtain ⟨SS, hSS⟩ : ∃ SS : World → Prop, ∀ W', SS W' ↔ (Below w2.heap.size w2 W' ∧ Blk W' n8 39 #[.int .i64 x.1, .int .i64 x.2]) := ⟨fun W' => Below w2.heap.size w2 W' ∧ Blk W' n8 39 #[.int .i64 x.1, .int .i64 x.2], fun _ => Iff.rfl⟩
      have HBO : Hid (∀ W', SS W' → (W'.cell? ⟨w.heap.size, 0, none⟩ = some (.int .i64 num) ∧ W'.cell? ⟨w.heap.size, 1, none⟩ = some (.int .i64 pri) ∧ W'.cell? ⟨w.heap.size, 2, none⟩ = some (.slice p L.length c) ∧ W'.cell? ⟨n8, 0, none⟩ = some (.int .i64 x.1) ∧ W'.cell? ⟨n8, 1, none⟩ = some (.int .i64 x.2) ∧ SS W')) := Lib.hid fun W' hs => by have h1 := (hSS W').1 hs; have h3 := (HL.out.keep h1.1).c3; have h4 := h1.2.c2; exact ⟨h3.1, h3.2.1, h3.2.2.1, h4.1, h4.2.1, hs⟩
      have HS1 : Hid (SS Wa) := Lib.hid ((hSS _).2 ⟨HB.out, HX.out⟩)
      have HKA : Hid (∀ A c, SS A → SS (A.alloc c)) := Lib.hid fun A c hs => (hSS _).2 ⟨((hSS A).1 hs).1.alloc ((hSS A).1 hs).1.size _, ((hSS A).1 hs).2.alloc _⟩
      have HKD : Hid (∀ A, SS A → SS A.drew) := Lib.hid fun A hs => (hSS _).2 ⟨((hSS A).1 hs).1.drew, ((hSS A).1 hs).2.drew⟩
      have HKC : Hid (∀ A B, SS A → Below A.heap.size A B → SS B) := Lib.hid fun A B hs hb => (hSS _).2 ⟨bch' ((hSS A).1 hs).1 hb, ((hSS A).1 hs).2.keep hb⟩
      have HKX : Hid (∀ A B c, SS A → Below w2.heap.size (A.alloc c) B → (∀ g t cs2, t ≠ 43 → Blk A g t cs2 → Blk B g t cs2) → SS B) := Lib.hid fun A B c hs hb hk => (hSS _).2 ⟨(((hSS A).1 hs).1.alloc ((hSS A).1 hs).1.size _).trans hb, hk _ _ _ (by decide) ((hSS A).1 hs).2⟩
      have HFI : Hid (∀ A, SS A → Below w2.heap.size w2 A) := Lib.hid fun A hs => ((hSS A).1 hs).1
      have HSZ : Hid (∀ A, SS A → w2.heap.size ≤ A.heap.size) := Lib.hid fun A hs => ((hSS A).1 hs).1.size
      clear hSS HX HB
      skip
      go_region_held3 (fun W' => W'.cell? ⟨w.heap.size, 0, none⟩ = some (.int .i64 num) ∧ W'.cell? ⟨w.heap.size, 1, none⟩ = some (.int .i64 pri) ∧ W'.cell? ⟨w.heap.size, 2, none⟩ = some (.slice p L.length c) ∧ W'.cell? ⟨n8, 0, none⟩ = some (.int .i64 x.1) ∧ W'.cell? ⟨n8, 1, none⟩ = some (.int .i64 x.2) ∧ SS W') (with_reducible refine HBO.out _ ?_; ((repeat (first | with_reducible refine HKA.out _ _ ?_ | with_reducible refine HKD.out _ ?_ | with_reducible refine HKC.out _ _ ?_ (by assumption) | with_reducible refine HKX.out _ _ _ ?_ (by assumption) (by assumption))); with_reducible exact HS1.out)) (first | (go_at_call 27; with_reducible refine (HVA.out _ (HFI.out _ (by ((repeat (first | with_reducible refine HKA.out _ _ ?_ | with_reducible refine HKD.out _ ?_ | with_reducible refine HKC.out _ _ ?_ (by assumption) | with_reducible refine HKX.out _ _ _ ?_ (by assumption) (by assumption))); with_reducible exact HS1.out)))).mono ?_; rintro e w9 ⟨rfl, hb9⟩) | (refine step_appKB (enc := encEn) (by rfl) _ _ 33 (by rfl) w2.heap.size 43 i0 (.agg #[.int .i64 0, .int .i64 0, .int .i64 0, .int .i64 0]) 32 Tryz.underlying33 hi hz0 hz1 hz2 rfl (by decide) (by decide) encEn_len encEn_one pp cc ((F.take k).map (entK g)) _ HN.out w9 (entK g x) #[.int .i64 x.1, .int .i64 x.2, .int .i64 (g x).1, .int .i64 (g x).2] (by rfl) (by rfl) (HO2.out.keep (by assumption)) (by rfl) (by have := HFL.out; rw [List.length_map, List.length_take]; omega) (HSZ.out _ (by ((repeat (first | with_reducible refine HKA.out _ _ ?_ | with_reducible refine HKD.out _ ?_ | with_reducible refine HKC.out _ _ ?_ (by assumption) | with_reducible refine HKX.out _ _ _ ?_ (by assumption) (by assumption))); with_reducible exact HS1.out))) ?_; intro p1 c1 w3 hO3 hb3 hk3; have HO3 := Lib.hid hO3; clear hO3))
      all_goals (have HB3 := Lib.hid (HFI.out _ (show SS w3 by ((repeat (first | with_reducible refine HKA.out _ _ ?_ | with_reducible refine HKD.out _ ?_ | with_reducible refine HKC.out _ _ ?_ (by assumption) | with_reducible refine HKX.out _ _ _ ?_ (by assumption) (by assumption))); with_reducible exact HS1.out))); go_wp2_with fail; go_roundw)
      all_goals first | exact ⟨k + 1, n + 1, p1, c1, by first | rfl | simp, by first | rfl | simp, by omega, Lib.hid (by rw [HT.out, List.length_append, ← HN.out]; rfl), HB3, Lib.hid (by rw [HT.out]; exact HO3.out)⟩ | (simp [intOf]; done) | (simp [intOf]; omega)
    · have hlt : ¬ (k : Int) < (F.length : Int) := by omega
      obtain rfl : k = F.length := by omega
      have HTA : Hid (((F.take F.length).map (entK g)) = F.map (entK g)) := Lib.hid (by rw [List.take_length])
      rw [HTA.out] at HN HO
      have hn := HN.out; subst hn
      go_wp2_with fail
      go_ret
      exact ⟨pp, cc, by rw [HLK.out, List.length_map]; rfl, by rw [HLK.out]; exact HO.out.lower HBW.out.size, HBW.out.trans (HB.out.mono HBW.out.size), HBD2.out⟩
end Go.Proofs.YtikogofioggmlaaGreatDoor

/-
  Magnitudes: compare.
-/
import Derived.Test.YtnjaikomoljmjaaGreatDoorMag3
set_option linter.unusedVariables false
set_option linter.unusedSimpArgs false
namespace Lum
open Go Go.RowKit Go.Shelf
/-- The sign of z is that of the comparison. -/
def SgnOf (z : Int) (m n : Nat) : Prop := (m < n ∧ z < 0) ∨ (m = n ∧ z = 0) ∨ (n < m ∧ 0 < z)
theorem wd_high (m n j : Nat) (h : ∀ i, j ≤ i → wd m i = wd n i) : m / B9 ^ j = n / B9 ^ j := by
  obtain ⟨L, hm, hn⟩ : ∃ L, m < B9 ^ L ∧ n < B9 ^ L := by
    refine ⟨max (magL m).length (magL n).length, ?_, ?_⟩
    · exact below_len _ _ (Nat.le_max_left _ _)
    · exact below_len _ _ (Nat.le_max_right _ _)
  have main : ∀ d j, L - j = d → (∀ i, j ≤ i → wd m i = wd n i) → m / B9 ^ j = n / B9 ^ j := by
    intro d
    induction d with
    | zero =>
      intro j hj _
      rw [Nat.div_eq_of_lt (Nat.lt_of_lt_of_le hm (Nat.pow_le_pow_right B9_pos (by omega))), Nat.div_eq_of_lt (Nat.lt_of_lt_of_le hn (Nat.pow_le_pow_right B9_pos (by omega)))]
    | succ d ih =>
      intro j hj hh
      have h1 := ih (j + 1) (by omega) (fun i hi => hh i (by omega))
      have h2 := hh j (Nat.le_refl _)
      unfold wd at h2
      rw [Nat.pow_succ, ← Nat.div_div_eq_div_mul, ← Nat.div_div_eq_div_mul] at h1
      rw [← Nat.div_add_mod (m / B9 ^ j) B9, ← Nat.div_add_mod (n / B9 ^ j) B9, h1, h2]
  exact main _ j rfl h
theorem wd_all (m n : Nat) (h : ∀ i, wd m i = wd n i) : m = n := by
  have := wd_high m n 0 (fun i _ => h i)
  simpa using this
theorem wd_cmp (m n j : Nat) (h : ∀ i, j < i → wd m i = wd n i) (hj : wd m j < wd n j) : m < n := by
  have h1 := wd_high m n (j + 1) (fun i hi => h i (by omega))
  rw [Nat.pow_succ, ← Nat.div_div_eq_div_mul, ← Nat.div_div_eq_div_mul] at h1
  unfold wd at hj
  have h2 : m / B9 ^ j < n / B9 ^ j := by
    have e1 := Nat.div_add_mod (m / B9 ^ j) B9
    have e2 := Nat.div_add_mod (n / B9 ^ j) B9
    rw [h1] at e1
    omega
  rcases Nat.lt_or_ge m n with h3 | h3
  · exact h3
  · have := Nat.div_le_div_right (c := B9 ^ j) h3; omega
theorem len_cmp (m n : Nat) (h : (magL m).length < (magL n).length) : m < n := by
  rcases Nat.lt_or_ge m n with h1 | h1
  · exact h1
  · have := magL_mono h1; omega
theorem wAt_magL (m : Nat) (i : Fin (magL m).length) : wAt (magL m) i = wd m i.1 := by unfold wAt; rw [magL_get]
end Lum
namespace Go.Proofs.YtnjaikomoljmjaaGreatDoor
open Go.RowKit Go.Shelf Lum
attribute [local go_sem] Oper.semAt_some

set_option maxRecDepth 100000 in
set_option maxHeartbeats 4000000 in
theorem mag_compare (p1 p2 : Option Addr) (n1 c1 n2 c2 m n : Nat) (w : World) (h1 : MagAt w p1 n1 c1 m) (h2 : MagAt w p2 n2 c2 n) (hn1 : n1 ≤ 100000) (hn2 : n2 ≤ 100000) :
    Calls Tryz.prog 176 #[.slice p1 n1 c1, .slice p2 n2 c2] w fun e W' => ∃ z : Int, e = .returned (.int .i64 z) ∧ SgnOf z m n ∧ Below w.heap.size w W' := by
  refine (callsIn_wide (n := 5)).1 ?_
  refine callsIn_of_wp_marks Tryz.func176 rfl trivial ?_ rfl
  simp only [Tryz.ntmps176, List.size_toArray, List.length_cons, List.length_nil, Nat.reduceAdd, Nat.reduceSub, Array.replicate_succ, Array.replicate_zero, List.push_toArray, List.append_toArray, List.nil_append, List.cons_append]
  by_cases hne : n1 = n2
  · subst hne
    obtain rfl : n1 = (magL m).length := h1.n
    have hln := h2.n
    have hlen : (magL m).length ≤ 1000000000 := by omega
    have H1 := Lib.hid h1; clear h1
    have H2 := Lib.hid h2; clear h2
    have HLN := Lib.hid hln; clear hln
    gi_wp2_with (refine ⟨trivial, ?_⟩; gi_at_call 197; refine (down_in Fence.wide 4 trivial rfl _ _ _ _).mono ?_; rintro e w' ⟨rfl, rfl⟩)
    have cM := Boxed.new w 140 (.slice p2 (magL m).length c2)
    have cR := Boxed.new (w.alloc (.cells #[.slice p2 (magL m).length c2] 140)) 3 (.int .i64 0)
    have cN := Boxed.new ((w.alloc (.cells #[.slice p2 (magL m).length c2] 140)).alloc (.cells #[.int .i64 0] 3)) 140 (.slice p1 (magL m).length c1)
    rw [World.size_alloc] at cR cN
    rw [World.size_alloc] at cN
    have hB0 : Below w.heap.size w (((w.alloc (.cells #[.slice p2 (magL m).length c2] 140)).alloc (.cells #[.int .i64 0] 3)).alloc (.cells #[.slice p1 (magL m).length c1] 140)) := (((Below.refl _ w).alloc (Nat.le_refl _) _).alloc (by simp) _).alloc (by simp; omega) _
    refine wpIn_rangeFunc_ownG (n := 5) rfl (by omega) (Kp := KeepB w.heap.size (w.heap.size + 1 + 1)) (gf := 214) (lb := #[.pointer (some ⟨w.heap.size + 1 + 1, 0, none⟩)]) rfl trivial (enters_of Tryz.func214 (by kernel_rfl) rfl)
      (down_stops Fence.wide 4 trivial rfl (by omega) (w.heap.size + 1 + 1) w.heap.size _ (magL m) hlen _ (by simp; omega) cN w H1.out.1 rfl hB0) KeepB.t (KeepB.b (by simp; omega) (by simp)) (Below.refl _ _) (fun _ => rfl)
      (fun pre W => ((∀ i ∈ pre, wd m i.1 = wd n i.1) ∧ Boxed W w.heap.size 140 (.slice p2 (magL m).length c2) ∧ Boxed W (w.heap.size + 1) 3 (.int .i64 0)) ∧ Below w.heap.size w W)
      (fun cd pre W => (cd = .ret ∧ ∃ ini last, pre = ini ++ [last] ∧ (∀ i ∈ ini, wd m i.1 = wd n i.1) ∧ ∃ z : Int, ((wd m last.1 < wd n last.1 ∧ z = -1) ∨ (wd n last.1 < wd m last.1 ∧ z = 1)) ∧ Boxed W (w.heap.size + 1) 3 (.int .i64 z)) ∧ Below w.heap.size w W)
      (OwnFrom.and (Own.from (fun s A B row hs hg hr => ⟨hs.1, boxed_own _ _ (fun _ : Unit => _) () A B row hs.2.1 hg hr, boxed_own _ _ (fun _ : Unit => _) () A B row hs.2.2 hg hr⟩) _) (ownFrom_below (Nat.le_refl _) (by simp; omega)))
      (fun cd => OwnFrom.and (Own.from (fun s A B row hs hg hr => by obtain ⟨hc, ini, last, e1, e2, z, e3, e4⟩ := hs; exact ⟨hc, ini, last, e1, e2, z, e3, boxed_own _ _ (fun _ : Unit => _) () A B row e4 hg hr⟩) _) (ownFrom_below (Nat.le_refl _) (by simp; omega)))
      ⟨⟨by simp, (cM.alloc _).alloc _, cR.alloc _⟩, hB0⟩
      (fun x => { tmps := #[.slice p1 (magL m).length c1, .slice p2 (magL m).length c2, undef, .pointer (some ⟨w.heap.size, 0, none⟩), .pointer (some ⟨w.heap.size + 1, 0, none⟩), .int .i64 (x.1 : Int), .int .u64 (wAt (magL m) x : Int),
        .slice p1 (magL m).length c1, .int .i64 ((magL m).length : Int), .slice p2 (magL m).length c2, .int .i64 ((magL m).length : Int), .bool false, undef, undef, undef, undef, undef, .slice p1 (magL m).length c1, .func (.func 214) #[] #[.pointer (some ⟨w.heap.size + 1 + 1, 0, none⟩)], .int .i64 (x.1 : Int), .int .u64 (wAt (magL m) x : Int),
        undef, undef, undef, undef, undef, undef, undef, undef, undef, undef, undef, undef, undef, undef], defers := [] }) ?assign ?body ?done ?stop
    case assign =>
      intro l x W K hK
      gi_wp2
      exact hK
    case body =>
      rintro l pre x W ⟨⟨hp, bM, bR⟩, hB⟩ _
      have hMc := bM.cell
      have hRc := bR.cell
      have hRf := bR.frozen
      have hx := x.2
      obtain ⟨b, o, rfl, hb, hcs⟩ := H2.out.cells (by omega)
      have hcx : W.cell? ⟨b, o + x.1, none⟩ = some (.int .u64 (wd n x.1 : Nat)) := (hB.cell (p := ⟨b, o + x.1, none⟩) hb).trans (hcs x.1 hx)
      clear hcs
      have HP := Lib.hid hp; clear hp
      rw [wAt_magL]
      clear cM cR cN
      by_cases t1 : wd m x.1 < wd n x.1
      · have T1 := Lib.hid t1
        generalize wd m x.1 = u at t1 ⊢
        generalize wd n x.1 = v at t1 hcx ⊢
        gi_wp2
        exact ⟨(KeepsOthers.setCell _ _ _).from _, ⟨rfl, pre, x, rfl, HP.out, -1, .inl ⟨T1.out, rfl⟩, bR.set _⟩, hB.setCell (p := ⟨w.heap.size + 1, 0, none⟩) (by simp) _⟩
      · by_cases t2 : wd n x.1 < wd m x.1
        · have T1 := Lib.hid t2
          generalize wd m x.1 = u at t1 t2 ⊢
          generalize wd n x.1 = v at t1 t2 hcx ⊢
          gi_wp2
          exact ⟨(KeepsOthers.setCell _ _ _).from _, ⟨rfl, pre, x, rfl, HP.out, 1, .inr ⟨T1.out, rfl⟩, bR.set _⟩, hB.setCell (p := ⟨w.heap.size + 1, 0, none⟩) (by simp) _⟩
        · have T1 : Hid (wd m x.1 = wd n x.1) := by show _ = _; omega
          generalize wd m x.1 = u at t1 t2 ⊢
          generalize wd n x.1 = v at t1 t2 hcx ⊢
          gi_wp2
          exact ⟨KeepsFrom.refl _ _, KeepB.refl _ _ _, ⟨fun i hi => (List.mem_append.1 hi).elim (HP.out i) (fun e => by simp at e; subst e; exact T1.out), bM, bR⟩, hB⟩
    case done =>
      rintro D ys W hD rfl ⟨⟨hne, bM, bR⟩, hB⟩ hK
      have hcr := bR.cell
      have hfr := bR.frozen
      have HN := Lib.hid hne; clear hne
      gi_wp2
      have hK' := (KeepsOthers.setCell W ⟨w.heap.size + 1, 0, none⟩ (.int .i64 0)).same D _ hK rfl
      refine ⟨by simp, .inl ⟨_, _, rfl, run_takeDeferred hK', ?_⟩⟩
      have hc5 := cell_kept (bR.set (.int .i64 0)).cell (grownBy_putObj' _ D (.deferred none)) (fun r e => by cases e; exact ⟨_, hK', rfl⟩)
      refine ⟨.int .i64 0, ?_, 0, rfl, ?_, (hB.setCell (p := ⟨w.heap.size + 1, 0, none⟩) (by simp) _).trans (belowK_b (w := w) (Nat.le_refl _) _ D _ _ (by simp at hD; omega) hK' rfl rfl)⟩
      · simp [results, Tryz.f176, go_sem, hc5]
      · refine .inr (.inl ⟨wd_all m n (fun i => ?_), rfl⟩)
        by_cases hi : i < (magL m).length
        · exact HN.out ⟨i, hi⟩ ((mem_dnF (Nat.le_refl _) _).2 (by omega))
        · rw [wd_beyond m i (by omega), wd_beyond n i (by rw [← HLN.out]; omega)]
    case stop =>
      rintro D cd pre W hD ⟨k, hk, rfl⟩ ⟨⟨rfl, ini, last, e1, e2, z, e3, bR⟩, hB⟩ hK
      have hcr := bR.cell
      have HE1 := Lib.hid e1
      have HE2 := Lib.hid e2
      have HE3 := Lib.hid e3
      clear e1 e2 e3
      gi_wp2
      refine ⟨by simp, .inl ⟨_, _, rfl, run_takeDeferred hK, ?_⟩⟩
      have hc5 := cell_kept hcr (grownBy_putObj' _ D (.deferred none)) (fun r e => by cases e; exact ⟨_, hK, rfl⟩)
      have hBW := hB.trans (belowK_b (w := w) (Nat.le_refl _) W D _ (.deferred none) (by simp at hD; omega) hK rfl rfl)
      refine ⟨.int .i64 z, ?_, z, rfl, ?_, hBW⟩
      · simp [results, Tryz.f176, go_sem, hc5]
      · obtain ⟨k', rfl⟩ : ∃ k', k = k' + 1 := by
          cases k with
          | zero => have := HE1.out; simp [dnF] at this
          | succ k' => exact ⟨k', rfl⟩
        have e1 := HE1.out
        rw [dnF_succ _ _ (by omega)] at e1
        obtain ⟨rfl, e5⟩ := List.append_inj' e1 rfl
        have hlast : last = ⟨(magL m).length - 1 - k', by omega⟩ := by simpa using e5.symm
        have hl1 : last.1 = (magL m).length - 1 - k' := by rw [hlast]
        have hh : ∀ i, last.1 < i → wd m i = wd n i := fun i hi => by
          by_cases h : i < (magL m).length
          · exact HE2.out ⟨i, h⟩ ((mem_dnF (by omega) _).2 (by simp; omega))
          · rw [wd_beyond m i (by omega), wd_beyond n i (by rw [← HLN.out]; omega)]
        rcases HE3.out with ⟨h1, rfl⟩ | ⟨h1, rfl⟩
        · exact .inl ⟨wd_cmp m n _ hh h1, by omega⟩
        · exact .inr (.inr ⟨wd_cmp n m _ (fun i hi => (hh i hi).symm) h1, by omega⟩)
  · have hne' : ((n1 : Int) != (n2 : Int)) = true := by rw [bne_iff_ne]; omega
    have hz : SgnOf ((n1 : Int) - n2) m n := by
      have e1 := h1.n
      have e2 := h2.n
      rcases Nat.lt_or_ge n1 n2 with h | h
      · exact .inl ⟨len_cmp m n (by omega), by omega⟩
      · exact .inr (.inr ⟨len_cmp n m (by omega), by omega⟩)
    have HZ := Lib.hid hz; clear hz h1 h2 hne
    gi_wp2
    refine ⟨.int .i64 ((n1 : Int) - n2), ?_, _, rfl, HZ.out, ((Below.refl _ w).alloc (Nat.le_refl _) _).alloc (by simp) _⟩
    simp [results, Tryz.f176, go_sem]
end Go.Proofs.YtnjaikomoljmjaaGreatDoor

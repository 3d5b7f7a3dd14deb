/-
  Magnitudes: laws and sums for the long division.
-/
import Derived.Test.YtnjaikomoljmjaaGreatDoorMag6
set_option linter.unusedVariables false
set_option linter.unusedSimpArgs false
namespace Lum
open Go Go.RowKit Go.Shelf
theorem wpList_makeO {P : Program} (w : World) {ops : Array Oper} {rest : List Oper} {o : Oper} {a : Act} {Q : Exit → Act → World → Prop}
    (hg : o.guard = none) (l c : Operand) (t : TypeId) (hop : o.op = Op.makeSlice t l c)
    (k : IntKind) (base : Nat) (e : TypeId) (i : TypeInfo) (h1 : P.underlying t = some (.slice e)) (h2 : P.info? e = some i) (h3 : i.zero = some (.int k 0)) (h4 : i.size = 1) (h5 : i.bytes ≤ 16)
    (kl kc : IntKind) (L C : Int) (n : Nat) (hl : a.eval l = .int kl L) (hc : a.eval c = .int kc C) (hL : L = (n : Int)) (hC : C = (n : Int)) (hn : n ≤ 1000000000) (b4 : base ≤ w.heap.size)
    (hK : ∀ w', OwnN k base e w' (Option.some ⟨w.heap.size, 0, none⟩) n (List.replicate n 0) → Below w.heap.size w w' → wpList P ops Q rest (a.put o.dst (.slice (Option.some ⟨w.heap.size, 0, none⟩) n n)) w') :
    wpList P ops Q (o :: rest) a w := by
  refine wpList_make_full w hg l c t hop base e i (.int k 0) 1 h1 h2 h3 h4 kl kc L C n hl hc hL hC ?_ (by unfold maxLen; omega) b4 ?_
  · have : i.bytes * n ≤ 16 * 1000000000 := Nat.mul_le_mul h5 hn
    omega
  · intro w' hown hgrow
    refine hK w' ?_ ((Below.refl _ w).grown hgrow (Nat.le_refl _) (fun k hk => by cases hk))
    unfold OwnN OwnL
    rw [List.length_map, List.length_replicate]
    have e1 : (madeCells (Value.int k 0).cells (n * 1)).toList = (List.replicate n 0).map fun d : Nat => Value.int k (d : Int) := by
      rw [Nat.mul_one, List.map_replicate]; exact madeCells_one _ _
    rw [← e1]; exact hown
theorem NatsAt.grown {k : IntKind} {W w' : World} {v : Value} {ws : List Nat} (h : NatsAt k W v ws) {row : Option Nat} (hg : W.grownBy w' row) (hne : ∀ b o L C, v = .slice (Option.some ⟨b, o, none⟩) L C → Option.some b ≠ row) : NatsAt k w' v ws := by
  rcases h with h | ⟨b, of, c, e, h1, h2, h3, h4⟩
  · exact .inl h
  · refine .inr ⟨b, of, c, e, Nat.lt_of_lt_of_le h1 hg.size, h2, h3, fun j hj => ?_⟩
    rw [← h4 j hj]
    exact World.cell?_of_block (hg.block b h1 (hne _ _ _ _ e))
/-- append(s, x...), all of the numbers of x; what else was read, is read still. -/
theorem wpList_appNs {P : Program} {ops : Array Oper} {rest : List Oper} {o : Oper} {a : Act} {Q : Exit → Act → World → Prop} (hgd : o.guard = none) (s x : Operand) (t : TypeId)
    (ho : o.op = .call { callee := .builtin .append, args := #[s, x], argTypes := #[t, t] })
    (k : IntKind) (base : Nat) (e : TypeId) (i : TypeInfo) (z : Value) (bytes : Nat) (ht : P.underlying t = some (.slice e)) (hi : P.info? e = some i) (hz : i.zero = some z)
    (hsize : i.size = 1) (hby : i.bytes = bytes) (hzs : z.cells.size = 1) (hbs : bytes ≤ 16)
    (p : Option Addr) (c : Nat) (ws : List Nat) (W : World) (p2 : Option Addr) (n2 c2 : Nat) (ys : List Nat) (hs : a.eval s = .slice p ws.length c) (hown : OwnN k base e W p c ws)
    (hx : a.eval x = .slice p2 n2 c2) (hy : NatsAt k W (.slice p2 n2 c2) ys) (hy0 : 0 < ys.length)
    (hn : ws.length + ys.length < 1000000000) (hbase : base ≤ W.heap.size)
    (h : ∀ p' c' w', OwnN k base e w' p' c' (ws ++ ys) → Below base W w' → (∀ k' v us, NatsAt k' W v us → (∀ b o L C ad, v = .slice (Option.some ⟨b, o, none⟩) L C → p = Option.some ad → b ≠ ad.block) → NatsAt k' w' v us) → wpList P ops Q rest (a.put o.dst (.slice p' (ws.length + ys.length) c')) w') :
    wpList P ops Q (o :: rest) a W := by
  obtain ⟨b, of, rfl⟩ := hy.some hy0
  obtain ⟨h1, h2, h3⟩ := hy.cell
  have hown' : W.ownsRow base e 1 (.slice p ws.length c) ws.length (ws.map fun d : Nat => Value.int k (d : Int)) := by
    have := hown; unfold OwnN OwnL at this; rwa [List.length_map] at this
  refine wpList_append_own _ hgd s x t ho base e i z 1 bytes ht hi hz hsize hby hzs (by decide) _ _ _ hs hown' ⟨b, of, none⟩ n2 c2 (ys.map fun d : Nat => Value.int k (d : Int)) hx (by simp [h2])
    (fun j u hu => by
      simp at hu
      obtain ⟨d, hd, rfl⟩ := hu
      have hj : j < ys.length := (List.getElem?_eq_some_iff.1 hd).1
      rw [addr_add, h3 j hj, hd]; rfl)
    (fun u hu => by simp at hu; obtain ⟨d, _, rfl⟩ := hu; rfl) (by unfold maxLen; omega) ?_ hbase ?_
  · have : (ws.length + n2) * bytes ≤ 1000000001 * 16 := Nat.mul_le_mul (by omega) hbs
    omega
  · intro v' w' hown' hgrow _
    obtain ⟨p', c', rfl⟩ := ownsRow_slice hown'
    rw [h2]
    refine h p' c' w' ?_ ?_ ?_
    · unfold OwnN OwnL
      rw [List.map_append, List.length_append, List.length_map, List.length_map]
      rw [h2] at hown'; exact hown'
    · refine (Below.refl base W).grown hgrow hbase ?_
      intro k hk
      cases p with
      | none => simp [Value.ownBlock] at hk
      | some ad => simp [Value.ownBlock] at hk; subst hk; exact (OwnL.lt hown ad rfl).1
    · intro k' v us hv hne
      refine hv.grown hgrow ?_
      intro b o L C e1 e2
      cases p with
      | none => simp [Value.ownBlock] at e2
      | some ad => simp [Value.ownBlock] at e2; exact hne b o L C ad e1 rfl e2
theorem nats_one (k : IntKind) (e : TypeId) (W : World) (d : Nat) : NatsAt k (W.alloc (.cells #[.int k (d : Int)] e)) (.slice (Option.some ⟨W.heap.size, 0, none⟩) 1 1) [d] :=
  .inr ⟨W.heap.size, 0, 1, rfl, by simp, by simp, by unfold maxLen; omega, fun j hj => by
    simp at hj; subst hj
    exact cell_one_new W _ e 0 _ rfl⟩
theorem magL_one (s : Nat) (h0 : 0 < s) (h : s < B9) : magL s = [s] := by
  rw [magL_pos (by omega), Nat.mod_eq_of_lt h, Nat.div_eq_of_lt h, magL_zero]
theorem magL_shift (d k : Nat) (h : d ≠ 0) : magL (d * B9 ^ k) = List.replicate k 0 ++ magL d := by
  induction k with
  | zero => simp
  | succ k ih =>
    have hp : 0 < B9 ^ k := Nat.pow_pos B9_pos
    have hne : d * B9 ^ (k + 1) ≠ 0 := by
      have := Nat.mul_pos (Nat.pos_of_ne_zero h) (Nat.pow_pos B9_pos : 0 < B9 ^ (k + 1)); omega
    rw [magL_pos hne, Nat.pow_succ, ← Nat.mul_assoc, Nat.mul_mod_left, Nat.mul_div_cancel _ B9_pos, ih]
    rfl
theorem mv_one (d : Nat) : mv B9 [d] = d := by simp [mv]

/-! ### The sums of a round -/
theorem div_start (R D L : Nat) (hD : D ≠ 0) (hL : (magL R).length = L) : R < D * B9 ^ (L - (magL D).length + 1) ∨ (magL R).length < (magL D).length := by
  by_cases h : L < (magL D).length
  · right; omega
  · left
    have h1 := lt_len R
    have h2 := magL_top D hD
    rw [hL] at h1
    refine Nat.lt_of_lt_of_le h1 ?_
    have h3 : B9 ^ ((magL D).length - 1) * B9 ^ (L - (magL D).length + 1) = B9 ^ L := by
      rw [← Nat.pow_add]; congr 1; have := magL_ne D hD; omega
    rw [← h3]
    exact Nat.mul_le_mul_right _ h2
theorem scale_ok (d n : Nat) (hd : d ≠ 0) (hn : n = (magL d).length) : wd d (n - 1) + 1 ≤ B9 ∧ 0 < wd d (n - 1) ∧ d * (B9 / (wd d (n - 1) + 1)) < B9 ^ n := by
  have hn0 : 0 < n := by rw [hn]; exact magL_ne d hd
  have htop := magL_top d hd
  have hlt := lt_len d
  rw [← hn] at htop hlt
  have hp : 0 < B9 ^ (n - 1) := Nat.pow_pos B9_pos
  have e : wd d (n - 1) = d / B9 ^ (n - 1) := by
    unfold wd
    refine Nat.mod_eq_of_lt ?_
    rw [Nat.div_lt_iff_lt_mul hp, Nat.mul_comm, ← Nat.pow_succ, show (n - 1).succ = n by omega]; exact hlt
  have h1 : 0 < wd d (n - 1) := by rw [e]; exact Nat.div_pos htop hp
  have h2 : wd d (n - 1) < B9 := Nat.mod_lt _ B9_pos
  refine ⟨h2, h1, ?_⟩
  have h3 : d < (wd d (n - 1) + 1) * B9 ^ (n - 1) := by
    rw [e]; exact (Nat.div_lt_iff_lt_mul hp).1 (Nat.lt_succ_self _)
  have hs : 0 < B9 / (wd d (n - 1) + 1) := Nat.div_pos (by omega) (by omega)
  have h4 := Nat.mul_div_le B9 (wd d (n - 1) + 1)
  have h5 : d * (B9 / (wd d (n - 1) + 1)) < (wd d (n - 1) + 1) * B9 ^ (n - 1) * (B9 / (wd d (n - 1) + 1)) := Nat.mul_lt_mul_of_pos_right h3 hs
  refine Nat.lt_of_lt_of_le h5 ?_
  have h6 : (wd d (n - 1) + 1) * B9 ^ (n - 1) * (B9 / (wd d (n - 1) + 1)) = ((wd d (n - 1) + 1) * (B9 / (wd d (n - 1) + 1))) * B9 ^ (n - 1) := by grind
  rw [h6]
  have h7 : B9 ^ n = B9 * B9 ^ (n - 1) := by rw [Nat.mul_comm, ← Nat.pow_succ, show (n - 1).succ = n by omega]
  rw [h7]
  exact Nat.mul_le_mul_right _ h4
/-- The guess is no less than the word of the quotient. -/
theorem gss_ge (R D k L : Nat) (hL : (magL D).length = L) (hD : D ≠ 0) (hR : R < D * B9 ^ (k + 1)) : R / (D * B9 ^ k) ≤ gss R D L k := by
  have hL0 : 1 ≤ L := by rw [← hL]; exact magL_ne D hD
  have htop := magL_top D hD
  have hlt := lt_len D
  rw [hL] at htop hlt
  have h := guess_ge B9 R D k L B9_pos hL0 htop hR
  have e1 : wd D (L - 1) = D / B9 ^ (L - 1) := by
    unfold wd
    refine Nat.mod_eq_of_lt ?_
    rw [Nat.div_lt_iff_lt_mul (Nat.pow_pos B9_pos), Nat.mul_comm, ← Nat.pow_succ, show (L - 1).succ = L by omega]; exact hlt
  have hR2 : R < B9 ^ (L + k + 1) := by
    refine Nat.lt_of_lt_of_le hR ?_
    rw [show L + k + 1 = L + (k + 1) by omega, Nat.pow_add B9 L (k + 1)]
    exact Nat.mul_le_mul_right _ (Nat.le_of_lt hlt)
  have e2 := two_words B9 R (L + k) B9_pos (by omega) hR2
  unfold gss
  rw [show wd R (L + k) * B9 + wd R (L + k - 1) = R / B9 ^ (L + k - 1) from e2, e1]
  exact h
theorem word_small (R D k : Nat) (hD : D ≠ 0) (hR : R < D * B9 ^ (k + 1)) : R / (D * B9 ^ k) < B9 := by
  rw [Nat.div_lt_iff_lt_mul (Nat.mul_pos (Nat.pos_of_ne_zero hD) (Nat.pow_pos B9_pos))]
  rw [Nat.pow_succ] at hR; grind
theorem round_ok (R0 R D k Q : Nat) (hD : D ≠ 0) (hR : R < D * B9 ^ (k + 1)) (hQ : R0 = Q * (B9 ^ (k + 1) * D) + R) :
    R - D * B9 ^ k * (R / (D * B9 ^ k)) < D * B9 ^ k ∧ R0 = (R / (D * B9 ^ k) + B9 * Q) * (B9 ^ k * D) + (R - D * B9 ^ k * (R / (D * B9 ^ k))) := by
  have hp : 0 < D * B9 ^ k := Nat.mul_pos (Nat.pos_of_ne_zero hD) (Nat.pow_pos B9_pos)
  have h1 := Nat.div_add_mod R (D * B9 ^ k)
  have h2 := Nat.mod_lt R hp
  have h3 : R - D * B9 ^ k * (R / (D * B9 ^ k)) = R % (D * B9 ^ k) := by omega
  rw [h3]
  refine ⟨h2, ?_⟩
  rw [hQ, Nat.pow_succ]
  conv => lhs; rw [← h1]
  grind
theorem div_end (m d s Q R : Nat) (hs : 0 < s) (hd : d ≠ 0) (h1 : m * s = Q * (d * s) + R) (h2 : R < d * s) : Q = m / d ∧ R / s = m % d := by
  have hds : 0 < d * s := Nat.mul_pos (Nat.pos_of_ne_zero hd) hs
  have e1 : m * s / (d * s) = Q := by rw [h1, Nat.mul_comm Q, Nat.mul_add_div hds, Nat.div_eq_of_lt h2]; rfl
  have e2 : m * s % (d * s) = R := by rw [h1, Nat.mul_comm Q, Nat.mul_add_mod, Nat.mod_eq_of_lt h2]
  rw [Nat.mul_div_mul_right _ _ hs] at e1
  rw [Nat.mul_mod_mul_right] at e2
  exact ⟨e1.symm, by rw [← e2, Nat.mul_div_cancel _ hs]⟩
theorem rev_end (qs zs : List Nat) (hl : zs.length = qs.length) (h : ∀ j, j < qs.length → zs[qs.length - 1 - j]? = qs[j]?) : zs = qs.reverse := by
  apply List.ext_getElem?
  intro n
  by_cases hn : n < qs.length
  · have := h (qs.length - 1 - n) (by omega)
    rw [show qs.length - 1 - (qs.length - 1 - n) = n by omega] at this
    rw [this, List.getElem?_reverse hn]
  · rw [List.getElem?_eq_none (by omega), List.getElem?_eq_none (by simp; omega)]
theorem rev_step (qs zs : List Nat) (i : Nat) (hl : zs.length = qs.length) (hi : i < qs.length) (h : ∀ j, j < i → zs[qs.length - 1 - j]? = qs[j]?) :
    ∀ j, j < i + 1 → (zs.set (qs.length - 1 - i) (qs[i]?.getD 0))[qs.length - 1 - j]? = qs[j]? := by
  intro j hj
  by_cases e : j = i
  · subst e
    rw [List.getElem?_set_self (by omega)]; simp [hi]
  · rw [List.getElem?_set_ne (by omega)]; exact h j (by omega)
theorem gss_lt (m d L k : Nat) : gss m d L k < 1000000000 := Nat.lt_of_le_of_lt (Nat.min_le_right _ _) (by decide)
theorem prod_len (x q K : Nat) (hq : q < B9) (hx : (magL x).length ≤ K) : (magL (x * q)).length ≤ K + 1 := by
  rw [magL_len, Nat.pow_succ]
  exact Nat.mul_lt_mul_of_lt_of_lt (below_len x K hx) hq
end Lum

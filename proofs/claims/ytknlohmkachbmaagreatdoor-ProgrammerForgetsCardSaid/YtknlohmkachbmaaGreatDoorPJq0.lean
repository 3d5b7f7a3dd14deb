/-
  Programmers, plain: what is new in an order.
-/
import Derived.Test.YtknlohmkachbmaaGreatDoorPJn
import Derived.Test.YtknlohmkachbmaaGreatDoorPJj
import Derived.Deep.AppendLies
set_option linter.unusedVariables false
set_option linter.unusedSimpArgs false
namespace Lum
open Go Go.RowKit Go.Shelf
open Go.Lib (decDigits itoa)
/-- What is new among the entries of an order. -/
def newZ (l : List Hnd) (es : List Ent) (now : List Amt) : List (Ent × Amt) := (es.zip now).filter (fun z => !finB l z.1.ky)
def newK (l : List Hnd) (es : List Ent) (now : List Amt) (k : Nat) : List (Ent × Amt) := ((es.zip now).take k).filter (fun z => !finB l z.1.ky)
theorem newK_all {l : List Hnd} {es : List Ent} {now : List Amt} (h : now.length = es.length) : newK l es now es.length = newZ l es now := by
  unfold newK newZ
  rw [List.take_of_length_le (by rw [List.length_zip]; omega)]
theorem newK_yes {l : List Hnd} {es : List Ent} {now : List Amt} {k : Nat} (h1 : k < es.length) (h2 : k < now.length) (h : finB l (es[k]'h1).ky = false) : newK l es now (k + 1) = newK l es now k ++ [(es[k]'h1, now[k]'h2)] := by
  unfold newK
  rw [filtT (by rw [List.length_zip]; omega), List.getElem_zip, h]; rfl
theorem newK_no {l : List Hnd} {es : List Ent} {now : List Amt} {k : Nat} (h1 : k < es.length) (h2 : k < now.length) (h : finB l (es[k]'h1).ky = true) : newK l es now (k + 1) = newK l es now k := by
  unfold newK
  rw [filtT (by rw [List.length_zip]; omega), List.getElem_zip, h]; exact List.append_nil _
theorem newK_len (l : List Hnd) (es : List Ent) (now : List Amt) (k : Nat) : (newK l es now k).length ≤ k := by
  unfold newK
  refine Nat.le_trans (List.length_filter_le _ _) ?_
  rw [List.length_take]; omega
/-- Entries and amounts that fit, of an order and of what is new in it. -/
structure ZipOk (Z : List (Ent × Amt)) : Prop where
  asc : AscK Ent.ky (Z.map (·.1))
  ok : ∀ z ∈ Z, entE z.1 = 0
  fit : ∀ z ∈ Z, z.2.ky = z.1.ky ∧ levE z.2.le = 0
theorem fitE_zip {Z : List (Ent × Amt)} (h : ∀ z ∈ Z, z.2.ky = z.1.ky ∧ levE z.2.le = 0) : fitE (Z.map (·.1)) (Z.map (·.2)) = 0 := by
  unfold fitE
  rw [if_pos (by rw [List.length_map, List.length_map])]
  induction Z with
  | nil => rfl
  | cons z r ih =>
    have h1 := h z List.mem_cons_self
    rw [List.map_cons, List.map_cons, fitL, if_pos h1.1, if_pos h1.2]
    exact ih fun x hx => h x (List.mem_cons_of_mem _ hx)
theorem zip_fst {es : List Ent} {now : List Amt} (h : now.length = es.length) : (es.zip now).map (·.1) = es := by
  apply List.ext_getElem
  · rw [List.length_map, List.length_zip]; omega
  · intro i h1 h2; rw [List.getElem_map, List.getElem_zip]
theorem frsL_zip (l : List Hnd) (t ti : Int) (Z : List (Ent × Amt)) : frsL l t ti (Z.map (·.1)) (Z.map (·.2)) = Z.map (fun z => frsH l t ti z.1 z.2) := by
  unfold frsL
  induction Z with
  | nil => rfl
  | cons z r ih => rw [List.map_cons, List.map_cons, List.zipWith_cons_cons, ih, List.map_cons]
section
variable {l : List Hnd} {t ti : Int} {es : List Ent} {now : List Amt}
theorem newZ_sub : (newZ l es now).Sublist (es.zip now) := List.filter_sublist
theorem SetR.newOk (h : SetR l t ti es now) : ZipOk (newZ l es now) := by
  have hz : ∀ z ∈ es.zip now, entE z.1 = 0 ∧ z.2.ky = z.1.ky ∧ levE z.2.le = 0 := fun z hz => by
    obtain ⟨k, hk, rfl⟩ := List.getElem_of_mem hz
    rw [List.length_zip] at hk
    rw [List.getElem_zip]
    exact ⟨h.he.ok _ (List.getElem_mem _), h.fit k (by omega) (by omega)⟩
  refine ⟨?_, fun z hm => (hz z (newZ_sub.subset hm)).1, fun z hm => (hz z (newZ_sub.subset hm)).2⟩
  have h1 : ((newZ l es now).map (·.1)).Sublist es := by
    have := (newZ_sub (l := l) (es := es) (now := now)).map (·.1)
    rwa [zip_fst h.len] at this
  exact List.Pairwise.sublist h1 h.he.asc
theorem SetR.newFresh (h : SetR l t ti es now) {z : Ent × Amt} (hz : z ∈ newZ l es now) : finB l z.1.ky = false := by
  have := (List.mem_filter.1 hz).2
  simpa using this
/-- New entries alone can be set. -/
theorem SetR.newSize (h : SetR l t ti es now) : l.length + (newZ l es now).length ≤ (setL l t es ti now).length := by
  have h1 := putsK_len h.hl.asc (frsL_asc (l := l) (t := t) (ti := ti) (now := now) h.he.asc)
  have h2 : ((frsL l t ti es now).filter (fun x => !l.any (fun y => decide (Hnd.ky x = Hnd.ky y)))).length = (newZ l es now).length := by
    have e : frsL l t ti es now = (es.zip now).map (fun z => frsH l t ti z.1 z.2) := by
      unfold frsL; rw [← List.map_uncurry_zip_eq_zipWith]; rfl
    rw [e, List.filter_map, List.length_map]
    unfold newZ
    congr 1
    refine List.filter_congr fun z _ => ?_
    show (!l.any (fun y => decide (z.1.ky = y.ky))) = !finB l z.1.ky
    rw [finB_any]
  unfold setL
  omega
theorem SetR.new (h : SetR l t ti es now) : setE l t ((newZ l es now).map (·.1)) ti ((newZ l es now).map (·.2)) = 0 := by
  have hz := h.newOk
  have hs : (newZ l es now).length ≤ es.length := by
    have := (newZ_sub (l := l) (es := es) (now := now)).length_le
    rw [List.length_zip] at this; omega
  have h1 : hnsE l = 0 := ordP_of h.hl
  have h2 : entsE ((newZ l es now).map (·.1)) = 0 := ordP_of ⟨by rw [List.length_map]; have := h.he.few; omega, fun x hx => by
    obtain ⟨z, hm, rfl⟩ := List.mem_map.1 hx; exact hz.ok z hm, hz.asc⟩
  have h4 := fitE_zip hz.fit
  have h5 : askE l t ((newZ l es now).map (·.1)) ti ((newZ l es now).map (·.2)) = 0 := by rw [askE_f h1 h2 h.tim]; exact h4
  refine setE_ok h5 ?_
  have h6 := putsK_len h.hl.asc (frsL_asc (l := l) (t := t) (ti := ti) (now := (newZ l es now).map (·.2)) hz.asc)
  have h7 := List.length_filter_le (fun x => !l.any (fun y => decide (Hnd.ky x = Hnd.ky y))) (frsL l t ti ((newZ l es now).map (·.1)) ((newZ l es now).map (·.2)))
  rw [frsL_zip, List.length_map] at h7
  have h8 := h.newSize
  have h9 := h.few
  unfold setL
  rw [frsL_zip] at h6 ⊢
  omega
/-- What is new, set alone, and then cleared. -/
theorem SetR.back (h : SetR l t ti es now) : (setL l t ((newZ l es now).map (·.1)) ti ((newZ l es now).map (·.2))).length = l.length + (newZ l es now).length ∧ clrL (setL l t ((newZ l es now).map (·.1)) ti ((newZ l es now).map (·.2))) ((newZ l es now).map (·.1.ky)) = (if 0 < (newZ l es now).length then l else []) := by
  have hz := h.newOk
  have hf : ∀ z ∈ newZ l es now, l.any (fun y => decide (z.1.ky = y.ky)) = false := fun z hm => by rw [← finB_any]; exact h.newFresh hm
  have hS := setR_of h.new
  generalize newZ l es now = Z at *
  have h6 := putsK_len h.hl.asc (frsL_asc (l := l) (t := t) (ti := ti) (now := Z.map (·.2)) hz.asc)
  have e1 : (frsL l t ti (Z.map (·.1)) (Z.map (·.2))).filter (fun x => !l.any (fun y => decide (Hnd.ky x = Hnd.ky y))) = frsL l t ti (Z.map (·.1)) (Z.map (·.2)) := List.filter_eq_self.2 fun x hx => by
    rw [frsL_zip] at hx
    obtain ⟨z, hm, rfl⟩ := List.mem_map.1 hx
    show (!l.any (fun y => decide (z.1.ky = y.ky))) = true
    rw [hf z hm]; rfl
  rw [e1] at h6
  refine ⟨?_, ?_⟩
  · unfold setL; rw [h6, frsL_zip, List.length_map]
  · by_cases h0 : 0 < Z.length
    · rw [if_pos h0, clrL_some (by rw [List.length_map]; exact h0)]
      refine ascK_unique (List.Pairwise.filter _ hS.asc) h.hl.asc fun x => ?_
      rw [List.mem_filter, hS.mem, frsL_zip]
      constructor
      · rintro ⟨h1 | ⟨h1, -⟩, h2⟩
        · obtain ⟨z, hm, rfl⟩ := List.mem_map.1 h1
          have h3 : (frsH l t ti z.1 z.2).ky ∈ Z.map (·.1.ky) := List.mem_map.2 ⟨z, hm, rfl⟩
          rw [decide_eq_true h3] at h2; cases h2
        · exact h1
      · intro hx
        have hn : ¬ x.ky ∈ Z.map (·.1.ky) := fun g => by
          obtain ⟨z, hm, e⟩ := List.mem_map.1 g
          have := List.any_eq_false.1 (hf z hm) x hx
          exact this (decide_eq_true e)
        refine ⟨Or.inr ⟨hx, fun y hy e => ?_⟩, by rw [decide_eq_false hn]; rfl⟩
        obtain ⟨z, hm, rfl⟩ := List.mem_map.1 hy
        exact hn (List.mem_map.2 ⟨z, hm, e.symm⟩)
    · rw [if_neg h0]
      have : Z = [] := List.length_eq_zero_iff.1 (by omega)
      subst this
      exact clrL_none _
end

def KeepT (e : TypeId) (base : Nat) (X w' : World) : Prop := ∀ {β : Type} (enc : β → List Value) (k : Nat) (e2 : TypeId) (q : Option Addr) (c : Nat) (l : List β), e2 ≠ e → OwnR enc k base e2 X q c l → OwnR enc k base e2 w' q c l
theorem KeepT.use {e : TypeId} {base : Nat} {X w' : World} (h : KeepT e base X w') {β : Type} {enc : β → List Value} {k : Nat} {e2 : TypeId} {q : Option Addr} {c : Nat} {l : List β} (hne : e2 ≠ e) (ho : OwnR enc k base e2 X q c l) : OwnR enc k base e2 w' q c l := h enc k e2 q c l hne ho
def KeepN (p : Option Addr) (X w' : World) : Prop := ∀ (n : Nat) (T : TypeId) (cs : Array Value), (∀ a, p = some a → a.block ≠ n) → Blk X n T cs → Blk w' n T cs
theorem OwnR.al {β : Type} {enc : β → List Value} {k base : Nat} {e : TypeId} {W : World} {p : Option Addr} {c : Nat} {l : List β} (o : Obj) (h : OwnR enc k base e W p c l) : OwnR enc k base e (W.alloc o) p c l := h.keep ((Below.refl _ W).alloc (Nat.le_refl _) o)
theorem OwnR.dr {β : Type} {enc : β → List Value} {k base : Nat} {e : TypeId} {W : World} {p : Option Addr} {c : Nat} {l : List β} (h : OwnR enc k base e W p c l) : OwnR enc k base e W.drew p c l := h.keep (Below.refl _ W).drew
theorem ownR_blk_ne {β γ : Type} {enc : β → List Value} {enc2 : γ → List Value} {k k2 base base2 : Nat} {e e2 : TypeId} {W : World} {p q : Option Addr} {c d : Nat} {l : List β} {m : List γ} (h : OwnR enc k base e W p c l) (g : OwnR enc2 k2 base2 e2 W q d m) (hne : e2 ≠ e) : ∀ a b, p = some a → q = some b → b.block ≠ a.block := by
  intro a b ha hb
  rcases h.2 with ⟨h1, -⟩ | ⟨n, cap, cur, h1, -, h3, -⟩
  · injection h1 with h1; rw [h1] at ha; cases ha
  · rcases g.2 with ⟨g1, -⟩ | ⟨n2, cap2, cur2, g1, -, g3, -⟩
    · injection g1 with g1; rw [g1] at hb; cases hb
    · injection h1 with h1
      injection g1 with g1
      rw [h1] at ha; rw [g1] at hb
      injection ha with ha
      injection hb with hb
      subst ha hb
      intro e3
      have e4 : n2 = n := e3
      subst e4
      have := h3.symm.trans g3
      injection this with this
      injection this with h5 h6 h7
      exact hne h6.symm
def BlkN (N : Nat) (W : World) (n : Nat) (T : TypeId) (cs : Array Value) : Prop := N ≤ n ∧ Blk W n T cs
/-- append(s, y) at a step of a region that draws, and what it leaves as it was. -/
theorem step_appK3 {β : Type} {enc : β → List Value} {k : Nat} {P : Program} {ops : Array Oper} {o : Oper} {a : Act} {K : Act → World → Prop} {Q : Exit → Act → World → Prop} {E : Prop} (hgd : o.guard = none) (s x : Operand) (t : TypeId)
    (ho : o.op = .call { callee := .builtin .append, args := #[s, x], argTypes := #[t, t] })
    (base : Nat) (e : TypeId) (i : TypeInfo) (z : Value) (bytes : Nat) (ht : P.underlying t = some (.slice e)) (hi : P.info? e = some i) (hz : i.zero = some z)
    (hsize : i.size = k) (hby : i.bytes = bytes) (hzs : z.cells.size = k) (hbs : bytes ≤ 64) (hk0 : 0 < k) (hk : ∀ x, (enc x).length = k) (h1 : ∀ x, ∀ v ∈ enc x, v.oneCell' = true)
    (p : Option Addr) (c : Nat) (l : List β) (n : Nat) (hln : n = l.length) (W : World) (y : β) (g0 : Nat) (hs : a.eval s = .slice p n c)
    (hx : a.eval x = .slice (some ⟨g0, 0, none⟩) 1 1) {cs : Array Value} {NQ : Nat} (hcl9 : BlkN NQ W g0 e cs) (hcs : cs = (enc y).toArray) (hown : OwnR enc k base e W p c l)
    (hn : l.length ≤ 1000000) (hbase : base ≤ W.heap.size)
    (h : ∀ p' c' w', OwnR enc k base e w' p' c' (l ++ [y]) → Below base W w' → KeepT e base W w' → KeepN p W w' → K (a.put o.dst (.slice p' (n + 1) c')) w') :
    if Region.wanted o (yielded ops a.tmps) = true then Oper.wp P o a W K Q else E := by
  have hcl := hcl9.2
  subst hln hcs
  refine step_append_lies _ hgd s x t ho base e i z k bytes ht hi hz hsize hby hzs hk0 _ _ _ hs hown ⟨g0, 0, none⟩ 1 1 (enc y) hx (by rw [hk, Nat.one_mul])
    (fun j u hu => by rw [addr_add, Nat.zero_add]; have := hcl.cell j; rw [this]; simpa using hu) (h1 y) (by decide) (by unfold maxLen; omega) ?_ hbase _ rfl ?_
  · have : (l.length + 1) * bytes ≤ 1000001 * 64 := Nat.mul_le_mul (by omega) hbs
    omega
  · intro g cap w' hown' hgrow _ _
    refine h _ cap w' ?_ ?_ ?_ ?_
    · unfold OwnR
      rw [List.length_append, List.flatMap_append, List.flatMap_cons, List.flatMap_nil, List.append_nil]; exact hown'
    · refine (Below.refl base _).grown hgrow hbase ?_
      intro k hk
      cases p with
      | none => simp [Value.ownBlock] at hk
      | some ad => simp [Value.ownBlock] at hk; subst hk; exact (hown.lt ad rfl).1
    · intro β2 enc2 k2 e2 q d m hne hq
      refine ⟨hq.1, hq.2.imp id fun ⟨b, cap2, cur, q1, q2, q3, q4⟩ => ⟨b, cap2, cur, q1, q2, ?_, q4⟩⟩
      rw [hgrow.block b (Array.getElem?_eq_some_iff.1 q3).1 (fun e3 => ?_)]
      · exact q3
      · cases p with
        | none => simp [Value.ownBlock] at e3
        | some ad =>
          injection q1 with q1
          simp [Value.ownBlock] at e3
          exact ownR_blk_ne hown hq hne ad _ rfl q1 e3
    · intro m T cs hne hb
      refine (hgrow.block m hb.lt fun e3 => ?_).trans hb
      cases p with
      | none => simp [Value.ownBlock] at e3
      | some ad => simp [Value.ownBlock] at e3; exact hne ad rfl e3.symm
theorem info_one {P : Program} {t : TypeId} {z : Value} {s b : Nat} (h : (P.info? t).map (fun i => (i.zero, i.size, i.bytes)) = some (some z, s, b)) : ∃ i, P.info? t = some i ∧ i.zero = some z ∧ i.size = s ∧ i.bytes = b := info_parts h

theorem bch9 {n : Nat} {w A B : World} (h : Below n w A) (g : Below (n + 1) A B) : Below n w B := h.trans (g.mono (Nat.le_succ _))
theorem pmsE_zero : ∀ {l : List (Int × Int)}, (∀ p ∈ l, paE p.1 p.2 = 0) → pmsE l = 0 := by
  intro l
  induction l with
  | nil => intro _; rfl
  | cons p r ih =>
    intro h
    rw [pmsE, if_neg (by simpa using h p List.mem_cons_self)]
    exact ih fun q hq => h q (List.mem_cons_of_mem _ hq)
theorem entE_zpa {x : Ent} (h : entE x = 0) : paE x.ky.1 x.ky.2 = 0 := by
  by_cases g : paE x.ch x.at_ = 0
  · exact g
  · rw [entE_pa g] at h; exact absurd h g
theorem encPm_one : ∀ x, ∀ v ∈ encPm x, v.oneCell' = true := fun x v hv => by
  simp only [encPm, List.mem_cons, List.not_mem_nil, or_false] at hv; rcases hv with rfl | rfl <;> rfl
theorem encAm_one : ∀ x, ∀ v ∈ encAm x, v.oneCell' = true := fun x v hv => by
  simp only [encAm, List.mem_cons, List.not_mem_nil, or_false] at hv; rcases hv with rfl | rfl | rfl <;> rfl
end Lum

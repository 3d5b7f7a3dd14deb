/-
  Slices of elements of several cells: copy, append of a slice, an element put in.
-/
import Derived.Test.YtkjelfmgnkkijaaGreatDoorOo
import Derived.Laws.CopyRow
import Derived.Laws.IdiomCopy
import Derived.Lib.SliceRun
import Derived.Lib.AppendZerosOnto
import Derived.Laws.CopyOwn
set_option linter.unusedVariables false
set_option linter.unusedSimpArgs false
namespace Lum
open Go Go.RowKit Go.Shelf
open Go.Lib (decDigits itoa)
/-- copy where elements have k cells, the row written known whole. -/
theorem run_copy_rowK {P : Program} (w : World) (dT sT ty elem : TypeId) (k g o dLen dCap : Nat) (a : Addr) (sLen sCap : Nat) (cur : Array Value) (t : TypeId) (cs : List Value)
    (hu : P.underlying dT = some (.slice elem)) (hs : (P.info? elem).map (·.size) = some k)
    (hg : w.heap[g]? = some (.cells cur t (0, 0))) (hn : cs.length = Nat.min sLen dLen * k)
    (hsrc : ∀ j v, cs[j]? = some v → w.cell? (a.add j) = some v) (hfit : o + cs.length ≤ cur.size) (h1 : ∀ v ∈ cs, v.oneCell' = true) :
    (Builtin.copy_ #[dT, sT] ty #[.slice (some ⟨g, o, none⟩) dLen dCap, .slice (some a) sLen sCap]).run P w =
      .ok (goInt (Nat.min sLen dLen)) (w.setRow g (cur.toList.take o ++ cs ++ cur.toList.drop (o + cs.length)).toArray) := by
  have hl := run_loadCells_list (P := P) w a cs hsrc
  have hst := run_storeCells_at P g o t cs 0 cur w hg (by simpa using hfit) h1
  cases hq : P.info? elem with
  | none => simp [hq] at hs
  | some i =>
    have hi : i.size = k := by simpa [hq] using hs
    simp only [Builtin.copy_, Builtin.lenOf, Builtin.firstCells, Go.sizeOf, typeInfo]
    simp [run_underlying hu, Builtin.lenOf, Builtin.firstCells, Go.sizeOf, typeInfo, hq, hi, ← hn, hl, hst]
theorem wp_copy_run {P : Program} (w : World) {o : Oper} {a : Act} {K : Act → World → Prop} {Q : Exit → Act → World → Prop} (d s : Operand) (t t' : TypeId)
    (ho : o.op = .call { callee := .builtin .copy, args := #[d, s], argTypes := #[t, t'] }) (v u : Value) (hd : a.eval d = v) (hs : a.eval s = u) {v' : Value} {w' : World}
    (hr : (Builtin.copy_ #[t, t'] o.type #[v, u]).run P w = .ok v' w') (h : K (a.put o.dst v') w') : o.wp P a w K Q := by
  unfold Oper.wp execOp
  simp only [ho, resolve, invoke, builtin, Sem.run_bind, Sem.run_pure, Result.andThen_ok, List.map_toArray, List.map_cons, List.map_nil, hd, hs, hr]
  exact h
theorem wpList_copy_run {P : Program} (w : World) {ops : Array Oper} {rest : List Oper} {o : Oper} {a : Act} {Q : Exit → Act → World → Prop} (hgd : o.guard = none) (d s : Operand) (t t' : TypeId)
    (ho : o.op = .call { callee := .builtin .copy, args := #[d, s], argTypes := #[t, t'] }) (v u : Value) (hd : a.eval d = v) (hs : a.eval s = u) {v' : Value} {w' : World}
    (hr : (Builtin.copy_ #[t, t'] o.type #[v, u]).run P w = .ok v' w') (h : wpList P ops Q rest (a.put o.dst v') w') : wpList P ops Q (o :: rest) a w :=
  wpList_plain hgd fun _ hK => wp_copy_run w d s t t' ho v u hd hs hr (hK _ _ h)
theorem step_copy_run {P : Program} {ops : Array Oper} {o : Oper} {a : Act} {w : World} {K : Act → World → Prop} {Q : Exit → Act → World → Prop} {E : Prop}
    (hg : o.guard = none) (d x : Operand) (dT sT : TypeId) (hop : o.op = Op.call { callee := Callee.builtin Builtin.copy, args := #[d, x], argTypes := #[dT, sT] })
    (v u : Value) (hd : a.eval d = v) (hx : a.eval x = u) {v' : Value} {w' : World} (hr : (Builtin.copy_ #[dT, sT] o.type #[v, u]).run P w = .ok v' w') (hK : K (a.put o.dst v') w') :
    if Region.wanted o (yielded ops a.tmps) = true then Oper.wp P o a w K Q else E := by
  have hw : Region.wanted o (yielded ops a.tmps) = true := by simp [Region.wanted, hg]
  rw [if_pos hw]
  exact wp_copy_run w d x dT sT hop v u hd hx hr hK
theorem cut3 {α : Type} (r : List α) (k d : Nat) (h : k + d ≤ r.length) : ∃ C1 C2 C3, r = C1 ++ (C2 ++ C3) ∧ C1.length = k ∧ C2.length = d :=
  ⟨r.take k, (r.drop k).take d, (r.drop k).drop d, by rw [List.take_append_drop, List.take_append_drop], by rw [List.length_take]; omega, by rw [List.length_take, List.length_drop]; omega⟩
theorem room_lists {α : Type} (cur A X D : List α) (hA : cur.take A.length = A) (hl : A.length + X.length + D.length ≤ cur.length) :
    ((((cur.take (A.length + X.length) ++ D ++ cur.drop (A.length + X.length + D.length)).take A.length) ++ X ++ ((cur.take (A.length + X.length) ++ D ++ cur.drop (A.length + X.length + D.length)).drop (A.length + X.length)))).take (A.length + X.length + D.length) = A ++ (X ++ D) := by
  obtain ⟨C1, C2, C3, hr, h1, h2⟩ := cut3 (cur.drop A.length) X.length D.length (by rw [List.length_drop]; omega)
  have hc : cur = A ++ (C1 ++ (C2 ++ C3)) := by rw [← hr]; conv => lhs; rw [← List.take_append_drop A.length cur, hA]
  subst hc
  simp [List.take_append, List.drop_append, h1, h2, Nat.add_sub_cancel_left, Nat.add_assoc]
  rw [List.take_of_length_le (l := A) (by omega), List.take_of_length_le (l := A) (by omega), List.take_of_length_le (l := X) (by omega)]
theorem grow_lists {α : Type} (cur A X D : List α) (hA : cur.take A.length = A) (hl : A.length + X.length + D.length ≤ cur.length) :
    (((cur.take A.length ++ X ++ cur.drop (A.length + X.length)).take (A.length + X.length)) ++ D ++ ((cur.take A.length ++ X ++ cur.drop (A.length + X.length)).drop (A.length + X.length + D.length))).take (A.length + X.length + D.length) = A ++ (X ++ D) := by
  obtain ⟨C1, C2, C3, hr, h1, h2⟩ := cut3 (cur.drop A.length) X.length D.length (by rw [List.length_drop]; omega)
  have hc : cur = A ++ (C1 ++ (C2 ++ C3)) := by rw [← hr]; conv => lhs; rw [← List.take_append_drop A.length cur, hA]
  subst hc
  simp [List.take_append, List.drop_append, h1, h2, Nat.add_sub_cancel_left, Nat.add_assoc]
  rw [List.take_of_length_le (l := A) (by omega), List.take_of_length_le (l := A) (by omega), List.take_of_length_le (l := X) (by omega)]
/-- A list with x put in at i; where hit, the element at i gives way. -/
def insL {α : Type} (l : List α) (i : Nat) (hit : Bool) (x : α) : List α := l.take i ++ x :: l.drop (if hit then i + 1 else i)
/-- .. the first k elements gone through. -/
def insK {α : Type} (l : List α) (i : Nat) (hit : Bool) (x : α) (k : Nat) : List α := if k ≤ i then l.take k else l.take i ++ x :: (l.take k).drop (if hit then i + 1 else i)
theorem insK_zero {α : Type} (l : List α) (i : Nat) (hit : Bool) (x : α) : insK l i hit x 0 = [] := by unfold insK; rw [if_pos (Nat.zero_le _), List.take_zero]
theorem insK_lt {α : Type} {l : List α} {i k : Nat} {hit : Bool} {x : α} (h : k < i) (hk : k < l.length) : insK l i hit x (k + 1) = insK l i hit x k ++ [l[k]'hk] := by
  unfold insK
  rw [if_pos (by omega), if_pos (by omega), List.take_succ_eq_append_getElem hk]
theorem insK_hit {α : Type} {l : List α} {i : Nat} {x : α} (hk : i < l.length) : insK l i true x (i + 1) = insK l i true x i ++ [x] := by
  unfold insK
  rw [if_neg (by omega), if_pos (Nat.le_refl _), if_pos rfl, List.drop_eq_nil_of_le (by rw [List.length_take]; omega)]
theorem insK_miss {α : Type} {l : List α} {i : Nat} {x : α} (hk : i < l.length) : insK l i false x (i + 1) = (insK l i false x i ++ [x]) ++ [l[i]'hk] := by
  unfold insK
  rw [if_neg (by omega), if_pos (Nat.le_refl _), if_neg (by simp), List.take_succ_eq_append_getElem hk, List.drop_append_of_le_length (by rw [List.length_take]; omega), List.drop_eq_nil_of_le (by rw [List.length_take]; omega)]
  simp
theorem insK_gt {α : Type} {l : List α} {i k : Nat} {hit : Bool} {x : α} (h : i < k) (hk : k < l.length) : insK l i hit x (k + 1) = insK l i hit x k ++ [l[k]'hk] := by
  have h1 : ¬ k + 1 ≤ i := by omega
  have h2 : ¬ k ≤ i := by omega
  have h3 : (if hit = true then i + 1 else i) ≤ (l.take k).length := by rw [List.length_take]; split <;> omega
  unfold insK
  rw [if_neg h1, if_neg h2, List.take_succ_eq_append_getElem hk, List.drop_append_of_le_length h3, List.append_assoc, List.cons_append]
theorem insK_end {α : Type} {l : List α} {i : Nat} {hit : Bool} {x : α} (h : i < l.length) : insK l i hit x l.length = insL l i hit x := by
  unfold insK insL
  rw [if_neg (by omega), List.take_length]
theorem insK_last {α : Type} {l : List α} {x : α} : insK l l.length false x l.length ++ [x] = insL l l.length false x := by
  unfold insK insL
  rw [if_pos (Nat.le_refl _), if_neg (by simp), List.drop_length]
theorem insL_set {α : Type} {l : List α} {i : Nat} {x : α} (h : i < l.length) : insL l i true x = l.set i x := by
  unfold insL
  rw [if_pos rfl, List.set_eq_take_append_cons_drop, if_pos h]
theorem insL_len_hit {α : Type} {l : List α} {i : Nat} {x : α} (h : i < l.length) : (insL l i true x).length = l.length := by rw [insL_set h, List.length_set]
theorem insL_len_miss {α : Type} {l : List α} {i : Nat} {x : α} (h : i ≤ l.length) : (insL l i false x).length = l.length + 1 := by
  unfold insL
  rw [if_neg (by simp), List.length_append, List.length_cons, List.length_take, List.length_drop]; omega
theorem insK_len {α : Type} (l : List α) (i : Nat) (hit : Bool) (x : α) (k : Nat) : (insK l i hit x k).length ≤ l.length + 1 := by
  unfold insK
  split
  · rw [List.length_take]; omega
  · rw [List.length_append, List.length_cons, List.length_take, List.length_drop, List.length_take]; split <;> omega
theorem flat_cell {β : Type} {enc : β → List Value} {k : Nat} (hk : ∀ x, (enc x).length = k) : ∀ (l : List β) (f : Nat → Option Value), (∀ (i : Nat) (hi : i < l.length) (j : Nat) (v : Value), (enc (l[i]'hi))[j]? = some v → f (i * k + j) = some v) → ∀ (j : Nat) (u : Value), (l.flatMap enc)[j]? = some u → f j = some u := by
  intro l
  induction l with
  | nil => intro f _ j u h; simp at h
  | cons x r ih =>
    intro f h j u hu
    rw [List.flatMap_cons] at hu
    rcases Nat.lt_or_ge j k with hj | hj
    · rw [List.getElem?_append_left (by rw [hk]; exact hj)] at hu
      have := h 0 (by simp) j u (by simpa using hu)
      rwa [Nat.zero_mul, Nat.zero_add] at this
    · rw [List.getElem?_append_right (by rw [hk]; exact hj), hk] at hu
      have := ih (fun m => f (k + m)) (fun i hi j2 v hv => by
        have h2 := h (i + 1) (by simpa using hi) j2 v (by simpa using hv)
        rw [Nat.add_one_mul, show i * k + k + j2 = k + (i * k + j2) by omega] at h2
        exact h2) (j - k) u hu
      rwa [show k + (j - k) = j by omega] at this
theorem flat_len {β : Type} {enc : β → List Value} {k : Nat} (hk : ∀ x, (enc x).length = k) : ∀ (l : List β), (l.flatMap enc).length = l.length * k := by
  intro l
  induction l with
  | nil => simp
  | cons x r ih => rw [List.flatMap_cons, List.length_append, ih, hk, List.length_cons, Nat.add_one_mul]; omega
/-- append(s, xs...), the elements of another slice. -/
theorem wpList_appL {β : Type} {enc : β → List Value} {k : Nat} {P : Program} {ops : Array Oper} {rest : List Oper} {o : Oper} {a : Act} {Q : Exit → Act → World → Prop} (hgd : o.guard = none) (s x : Operand) (t : TypeId)
    (ho : o.op = .call { callee := .builtin .append, args := #[s, x], argTypes := #[t, t] })
    (base : Nat) (e : TypeId) (i : TypeInfo) (z : Value) (bytes : Nat) (ht : P.underlying t = some (.slice e)) (hi : P.info? e = some i) (hz : i.zero = some z)
    (hsize : i.size = k) (hby : i.bytes = bytes) (hzs : z.cells.size = k) (hbs : bytes ≤ 64) (hk0 : 0 < k)
    (p : Option Addr) (c n : Nat) (l : List β) (hnl : n = l.length) (W : World) (ys : List β) (b off c2 : Nat) (hk : ∀ x, (enc x).length = k) (hcell : ∀ j u, (ys.flatMap enc)[j]? = some u → W.cell? ⟨b, off + j, none⟩ = some u) (h1 : ∀ y ∈ ys, ∀ u ∈ enc y, u.oneCell' = true)
    (hs : a.eval s = .slice p n c) (hown : OwnR enc k base e W p c l)
    (hx : a.eval x = .slice (some ⟨b, off, none⟩) ys.length c2)
    (hn : l.length + ys.length < 1000000000) (hbase : base ≤ W.heap.size)
    (h : ∀ p' c' w', OwnR enc k base e w' p' c' (l ++ ys) → Below base W w' → wpList P ops Q rest (a.put o.dst (.slice p' (n + ys.length) c')) w') :
    wpList P ops Q (o :: rest) a W := by
  subst hnl
  refine wpList_append_own _ hgd s x t ho base e i z k bytes ht hi hz hsize hby hzs hk0 _ _ _ hs hown ⟨b, off, none⟩ ys.length c2 (ys.flatMap enc) hx (by rw [flat_len hk])
    (fun j u hu => by rw [addr_add]; exact hcell j u hu) (fun u hu => by obtain ⟨y, hy, hu2⟩ := List.mem_flatMap.1 hu; exact h1 y hy u hu2) (by unfold maxLen; omega) ?_ hbase ?_
  · have : (l.length + ys.length) * bytes ≤ 1000000001 * 64 := Nat.mul_le_mul (by omega) hbs
    omega
  · intro v' w' hown' hgrow _
    obtain ⟨p', c', rfl⟩ : ∃ p' c', v' = .slice p' (l.length + ys.length) c' := by
      rcases hown'.2 with ⟨rfl, h2⟩ | ⟨g, cap, cur, rfl, _⟩
      · exact ⟨none, 0, by rw [h2]⟩
      · exact ⟨_, _, rfl⟩
    refine h p' c' w' ?_ ?_
    · unfold OwnR
      rw [List.length_append, List.flatMap_append]; exact hown'
    · refine (Below.refl base W).grown hgrow hbase ?_
      intro k hk
      cases p with
      | none => simp [Value.ownBlock] at hk
      | some ad => simp [Value.ownBlock] at hk; subst hk; exact (hown.lt ad rfl).1
theorem OwnR.made {β : Type} {enc : β → List Value} {k : Nat} (w : World) (e : TypeId) : OwnR enc k w.heap.size e (w.alloc (.cells #[] e)) (some ⟨w.heap.size, 0, none⟩) 0 [] := World.ownsRow_made w #[] 0 (Nat.le_refl _) (Nat.zero_le _) (by simp)
theorem size_zeroCells (z : Array Value) (n : Nat) : (Builtin.zeroCells z n).size = n * z.size := by simp [Builtin.zeroCells]
/-- append(s[:n], make(S, m)...) beyond the capacity: a new block. -/
theorem wpList_appZ {P : Program} {ops : Array Oper} {rest : List Oper} {o : Oper} {a : Act} {Q : Exit → Act → World → Prop} {k : Nat} (hgd : o.guard = none) (s x : Operand) (t tn : TypeId)
    (ho : o.op = .call { callee := .builtin .append, args := #[s, x], argTypes := #[t, tn] }) (e : TypeId) (i : TypeInfo) (z : Value) (bytes : Nat) (ht : P.underlying t = some (.slice e)) (htn : P.underlying tn = some (.int .i64)) (hi : P.info? e = some i) (hz : i.zero = some z)
    (hsize : i.size = k) (hby : i.bytes = bytes) (hzs : z.cells.size = k) (hbs : bytes ≤ 64) (hk0 : 0 < k) (w : World) (ad : Addr) (n c : Nat) (olds : List Value) (hol : olds.length = n * k) (hcell : ∀ j v, olds[j]? = some v → w.cell? (ad.add j) = some v)
    (m : Nat) (h0 : 0 < m) (hg : c < n + m) (hn : n + m ≤ 1000000001) (mi : Int) (hmi : mi = (m : Int)) (N : Nat) (hN : N = n + m) (hs : a.eval s = .slice (some ad) n c) (hx : a.eval x = .int .i64 mi)
    (h : ∀ (G : Nat) (cs : Array Value) (w' : World), N ≤ G → G ≤ maxLen → cs.size = G * k → cs.toList.take (n * k) = olds → Blk w' w.heap.size e cs → Below w.heap.size w w' → wpList P ops Q rest (a.put o.dst (.slice (some ⟨w.heap.size, 0, none⟩) N G)) w') :
    wpList P ops Q (o :: rest) a w := by
  subst hmi hN
  have hold : (Builtin.firstCells i.size n (.slice (some ad) n c)).run P w.drew = .ok olds.toArray w.drew := by
    rw [hsize]
    exact run_firstCells_some w.drew k n ad n c olds hol hcell
  have hb1 : (n + m) * bytes ≤ 1000000001 * 64 := Nat.mul_le_mul hn hbs
  have hb2 : m * bytes ≤ 1000000001 * 64 := Nat.mul_le_mul (by omega) hbs
  refine Lib.wpList_append_run w hgd s x t tn ho _ _ hs hx _ _ (Lib.run_append_grow_zeros w t tn o.type e i z .i64 .i64 ht htn hi hz (some ad) n c olds hold m h0 (by omega) hg (by omega) (by rw [hby]; omega) (by rw [hby]; exact growslice_fits hg (by omega))) ?_
  have hGe := grownCap_ge w (n + m) c e
  refine h (grownCap w (n + m) c e) _ _ hGe (grownCap_le_maxLen w (n + m) c e (by unfold maxLen; omega)) ?_ ?_ (heap_alloc_new w.drew _) ?_
  · rw [Array.size_append, Array.size_append, size_zeroCells, size_zeroCells, hzs, List.size_toArray, hol, ← Nat.add_mul, ← Nat.add_mul]
    congr 1; omega
  · rw [Array.toList_append, Array.toList_append, List.append_assoc, ← hol, List.take_append_of_le_length (Nat.le_refl _)]
    exact List.take_of_length_le (Nat.le_refl _)
  · exact (Below.refl w.heap.size w).drew.alloc (Nat.le_refl _) _
/-- What a row is behind a copy of cs to its place o. -/
def rowC (cur : Array Value) (o : Nat) (cs : List Value) : Array Value := (cur.toList.take o ++ cs ++ cur.toList.drop (o + cs.length)).toArray
theorem rowC_size {cur : Array Value} {o : Nat} {cs : List Value} (h : o + cs.length ≤ cur.size) : (rowC cur o cs).size = cur.size := by
  unfold rowC
  simp; omega
theorem wp_copyK {P : Program} {w : World} {o : Oper} {a : Act} {K : Act → World → Prop} {Q : Exit → Act → World → Prop} (d s : Operand) (dT sT : TypeId)
    (ho : o.op = .call { callee := .builtin .copy, args := #[d, s], argTypes := #[dT, sT] }) (elem : TypeId) (k : Nat) (hu : P.underlying dT = some (.slice elem)) (hsz : (P.info? elem).map (·.size) = some k)
    (g off dLen dCap : Nat) (ad : Addr) (sLen sCap : Nat) (hd : a.eval d = .slice (some ⟨g, off, none⟩) dLen dCap) (hs : a.eval s = .slice (some ad) sLen sCap)
    (cur : Array Value) (hg : Blk w g elem cur) (cs : List Value) (hn : cs.length = Nat.min sLen dLen * k) (hsrc : ∀ j v, cs[j]? = some v → w.cell? (ad.add j) = some v) (hfit : off + cs.length ≤ cur.size) (h1 : ∀ v ∈ cs, v.oneCell' = true)
    (h : ∀ w', Blk w' g elem (rowC cur off cs) → (∀ B, B ≤ g → Below B w w') → (∀ j, j ≠ g → w'.heap[j]? = w.heap[j]?) → K (a.put o.dst (goInt (Nat.min sLen dLen))) w') :
    o.wp P a w K Q :=
  wp_copy_run w d s dT sT ho _ _ hd hs (run_copy_rowK w dT sT o.type elem k g off dLen dCap ad sLen sCap cur elem cs hu hsz hg hn hsrc hfit h1)
    (h _ (setRow_heap w g cur _ elem _ hg) (fun B hB => below_setRow (Below.refl B w) hB _) (fun j hj => setRow_other w g j _ hj))
theorem wpList_copyK {P : Program} {w : World} {ops : Array Oper} {rest : List Oper} {o : Oper} {a : Act} {Q : Exit → Act → World → Prop} (hgd : o.guard = none) (d s : Operand) (dT sT : TypeId)
    (ho : o.op = .call { callee := .builtin .copy, args := #[d, s], argTypes := #[dT, sT] }) (elem : TypeId) (k : Nat) (hu : P.underlying dT = some (.slice elem)) (hsz : (P.info? elem).map (·.size) = some k)
    (g off dLen dCap : Nat) (ad : Addr) (sLen sCap : Nat) (hd : a.eval d = .slice (some ⟨g, off, none⟩) dLen dCap) (hs : a.eval s = .slice (some ad) sLen sCap)
    (cur : Array Value) (hg : Blk w g elem cur) (cs : List Value) (hn : cs.length = Nat.min sLen dLen * k) (hsrc : ∀ j v, cs[j]? = some v → w.cell? (ad.add j) = some v) (hfit : off + cs.length ≤ cur.size) (h1 : ∀ v ∈ cs, v.oneCell' = true)
    (h : ∀ w', Blk w' g elem (rowC cur off cs) → (∀ B, B ≤ g → Below B w w') → (∀ j, j ≠ g → w'.heap[j]? = w.heap[j]?) → wpList P ops Q rest (a.put o.dst (goInt (Nat.min sLen dLen))) w') :
    wpList P ops Q (o :: rest) a w :=
  wpList_plain hgd fun _ hK => wp_copyK d s dT sT ho elem k hu hsz g off dLen dCap ad sLen sCap hd hs cur hg cs hn hsrc hfit h1 (fun w' a1 a2 a3 => hK _ _ (h w' a1 a2 a3))
theorem step_copyK {P : Program} {ops : Array Oper} {o : Oper} {a : Act} {w : World} {K : Act → World → Prop} {Q : Exit → Act → World → Prop} {E : Prop} (hgd : o.guard = none) (d s : Operand) (dT sT : TypeId)
    (ho : o.op = .call { callee := .builtin .copy, args := #[d, s], argTypes := #[dT, sT] }) (elem : TypeId) (k : Nat) (hu : P.underlying dT = some (.slice elem)) (hsz : (P.info? elem).map (·.size) = some k)
    (g off dLen dCap : Nat) (ad : Addr) (sLen sCap : Nat) (hd : a.eval d = .slice (some ⟨g, off, none⟩) dLen dCap) (hs : a.eval s = .slice (some ad) sLen sCap)
    (cur : Array Value) (hg : Blk w g elem cur) (cs : List Value) (hn : cs.length = Nat.min sLen dLen * k) (hsrc : ∀ j v, cs[j]? = some v → w.cell? (ad.add j) = some v) (hfit : off + cs.length ≤ cur.size) (h1 : ∀ v ∈ cs, v.oneCell' = true)
    (h : ∀ w', Blk w' g elem (rowC cur off cs) → (∀ B, B ≤ g → Below B w w') → (∀ j, j ≠ g → w'.heap[j]? = w.heap[j]?) → K (a.put o.dst (goInt (Nat.min sLen dLen))) w') :
    if Region.wanted o (yielded ops a.tmps) = true then Oper.wp P o a w K Q else E := by
  have hw : Region.wanted o (yielded ops a.tmps) = true := by simp [Region.wanted, hgd]
  rw [if_pos hw]
  exact wp_copyK d s dT sT ho elem k hu hsz g off dLen dCap ad sLen sCap hd hs cur hg cs hn hsrc hfit h1 h
theorem cellN {cs : List Value} (w : World) (t : TypeId) {j : Nat} {u : Value} (h : cs[j]? = some u) : (w.alloc (.cells cs.toArray t)).cell? ⟨w.heap.size, j, none⟩ = some u := by
  rw [World.cell?_alloc_new]; simpa using h
theorem OwnR.lower {β : Type} {enc : β → List Value} {k base b2 : Nat} {e : TypeId} {W : World} {p : Option Addr} {c : Nat} {l : List β} (h : OwnR enc k base e W p c l) (hb : b2 ≤ base) : OwnR enc k b2 e W p c l := by
  obtain ⟨h1, h2⟩ := h
  refine ⟨h1, ?_⟩
  rcases h2 with h2 | ⟨g, cap, cur, hv, hg, r⟩
  · exact .inl h2
  · exact .inr ⟨g, cap, cur, hv, Nat.le_trans hb hg, r⟩
theorem OwnR.of_blk {β : Type} {enc : β → List Value} {k base : Nat} {e : TypeId} {W : World} {g c : Nat} {cur : Array Value} {l : List β} (hk : ∀ x, (enc x).length = k) (h : Blk W g e cur) (hb : base ≤ g) (hc : l.length ≤ c) (hm : c ≤ maxLen) (hs : cur.size = c * k) (ht : cur.toList.take (l.length * k) = l.flatMap enc) : OwnR enc k base e W (some ⟨g, 0, none⟩) c l :=
  ⟨by rw [flat_len hk], .inr ⟨g, c, cur, rfl, hb, h, hc, hm, hs, ht⟩⟩
theorem OwnR.to_blk {β : Type} {enc : β → List Value} {k base : Nat} {e : TypeId} {W : World} {p : Option Addr} {c : Nat} {l : List β} (h : OwnR enc k base e W p c l) (hn : l ≠ []) : ∃ g cur, p = some ⟨g, 0, none⟩ ∧ base ≤ g ∧ Blk W g e cur ∧ l.length ≤ c ∧ c ≤ maxLen ∧ cur.size = c * k ∧ cur.toList.take (l.length * k) = l.flatMap enc := by
  rcases h.2 with ⟨h2, h3⟩ | ⟨g, cap, cur, hv, hg, hh, h5, h6, h7, h8⟩
  · exact absurd (List.length_eq_zero_iff.1 h3) hn
  · injection hv with hv1 hv2 hv3
    subst hv1 hv3
    exact ⟨g, cur, rfl, hg, hh, h5, h6, h7, h8⟩
/-- An element put in where there is room: two copies. -/
theorem OwnR.ins_room {β : Type} {enc : β → List Value} {k base : Nat} {e : TypeId} {W : World} {g c i : Nat} {cur : Array Value} {l : List β} {x : β} (hk : ∀ x, (enc x).length = k) (hi : i ≤ l.length) (hb : base ≤ g) (hc : l.length + 1 ≤ c) (hm : c ≤ maxLen) (hs : cur.size = c * k) (ht : cur.toList.take (l.length * k) = l.flatMap enc)
    (h : Blk W g e (rowC (rowC cur ((i + 1) * k) ((l.drop i).flatMap enc)) (i * k) (enc x))) : OwnR enc k base e W (some ⟨g, 0, none⟩) c (insL l i false x) := by
  have hA : ((l.take i).flatMap enc).length = i * k := by rw [flat_len hk, List.length_take, Nat.min_eq_left hi]
  have hD : ((l.drop i).flatMap enc).length = (l.length - i) * k := by rw [flat_len hk, List.length_drop]
  have hX := hk x
  have hAl : cur.toList.take ((l.take i).flatMap enc).length = (l.take i).flatMap enc := by
    rw [hA]
    have h1 : cur.toList.take (i * k) = (cur.toList.take (l.length * k)).take (i * k) := by
      rw [List.take_take, Nat.min_eq_left (Nat.mul_le_mul_right k hi)]
    rw [h1, ht]
    conv => lhs; rw [← List.take_append_drop i l]
    rw [List.flatMap_append, ← hA, List.take_append_of_le_length (Nat.le_refl _)]
    exact List.take_of_length_le (Nat.le_refl _)
  have e1 : i * k + k + (l.length - i) * k = (l.length + 1) * k := by
    rw [show i * k + k = (i + 1) * k by rw [Nat.add_mul, Nat.one_mul], ← Nat.add_mul]; congr 1; omega
  have hlen : (l.length + 1) * k ≤ c * k := Nat.mul_le_mul_right k hc
  have r := room_lists cur.toList ((l.take i).flatMap enc) (enc x) ((l.drop i).flatMap enc) hAl (by rw [hA, hX, hD, e1]; have := hs; simp only [← Array.length_toList] at this; rw [this]; exact hlen)
  have e3 : (i + 1) * k = i * k + k := by rw [Nat.add_mul, Nat.one_mul]
  rw [hA, hX, hD, e1] at r
  refine OwnR.of_blk hk h hb (by rw [insL_len_miss hi]; exact hc) hm ?_ ?_
  · rw [rowC_size, rowC_size, hs]
    · rw [hD, hs, e3, e1]; exact hlen
    · rw [rowC_size, hX, hs]
      · exact Nat.le_trans (by rw [← e3]; exact Nat.mul_le_mul_right k (by omega)) hlen
      · rw [hD, hs, e3, e1]; exact hlen
  · rw [insL_len_miss hi]
    unfold rowC
    dsimp only
    rw [e3, hX, hD, e1]
    rw [r]
    unfold insL
    rw [if_neg (by simp), List.flatMap_append, List.flatMap_cons]
/-- .. and where there is none: a new block, two copies. -/
theorem OwnR.ins_grow {β : Type} {enc : β → List Value} {k base : Nat} {e : TypeId} {W : World} {g c i : Nat} {cur : Array Value} {l : List β} {x : β} (hk : ∀ x, (enc x).length = k) (hi : i ≤ l.length) (hb : base ≤ g) (hc : l.length + 1 ≤ c) (hm : c ≤ maxLen) (hs : cur.size = c * k) (ht : cur.toList.take (i * k) = (l.take i).flatMap enc)
    (h : Blk W g e (rowC (rowC cur (i * k) (enc x)) ((i + 1) * k) ((l.drop i).flatMap enc))) : OwnR enc k base e W (some ⟨g, 0, none⟩) c (insL l i false x) := by
  have hA : ((l.take i).flatMap enc).length = i * k := by rw [flat_len hk, List.length_take, Nat.min_eq_left hi]
  have hD : ((l.drop i).flatMap enc).length = (l.length - i) * k := by rw [flat_len hk, List.length_drop]
  have hX := hk x
  have e1 : i * k + k + (l.length - i) * k = (l.length + 1) * k := by
    rw [show i * k + k = (i + 1) * k by rw [Nat.add_mul, Nat.one_mul], ← Nat.add_mul]; congr 1; omega
  have hlen : (l.length + 1) * k ≤ c * k := Nat.mul_le_mul_right k hc
  have r := grow_lists cur.toList ((l.take i).flatMap enc) (enc x) ((l.drop i).flatMap enc) (by rw [hA]; exact ht) (by rw [hA, hX, hD, e1]; have := hs; simp only [← Array.length_toList] at this; rw [this]; exact hlen)
  have e3 : (i + 1) * k = i * k + k := by rw [Nat.add_mul, Nat.one_mul]
  rw [hA, hX, hD, e1] at r
  refine OwnR.of_blk hk h hb (by rw [insL_len_miss hi]; exact hc) hm ?_ ?_
  · rw [rowC_size, rowC_size, hs]
    · rw [hX, hs, ← e3]; exact Nat.le_trans (Nat.mul_le_mul_right k (by omega)) hlen
    · rw [rowC_size, hD, hs, e3, e1]
      · exact hlen
      · rw [hX, hs, ← e3]; exact Nat.le_trans (Nat.mul_le_mul_right k (by omega)) hlen
  · rw [insL_len_miss hi]
    unfold rowC
    dsimp only
    rw [e3, hX, hD, e1]
    rw [r]
    unfold insL
    rw [if_neg (by simp), List.flatMap_append, List.flatMap_cons]
end Lum

/-
  Lists of cues, plain: what is right, what is seen, and how changes lead from a look to another one.
-/
import Derived.Test.YtikogofioggmlaaGreatDoorLz
set_option linter.unusedVariables false
set_option linter.unusedSimpArgs false
namespace Lum
open Go Go.RowKit Go.Shelf
open Go.Lib (decDigits itoa)
/-- A move. -/
structure Mv where
  ch : Int
  at_ : Int
  pa : Int
  lv : Int
  pt : Int
deriving DecidableEq
instance : Inhabited Mv := ⟨⟨0, 0, 0, 0, 0⟩⟩
/-- The times of a part. -/
structure Tm where
  up : Int
  dn : Int
  po : Int
  co : Int
  be : Int
  de : Int
deriving DecidableEq
instance : Inhabited Tm := ⟨⟨0, 0, 0, 0, 0, 0⟩⟩
/-- A cue. -/
structure Cu where
  nu : Txt
  la : Txt
  mv : List Mv
  pt : List Tm
  bl : Bool
  mk_ : Bool
  fo : Int
  li : Txt
  lo : Int
instance : Inhabited Cu := ⟨⟨[], [], [], [], false, false, 0, [], 0⟩⟩
def Mv.ky (m : Mv) : Int × Int := (m.ch, m.at_)
def Mv.va (m : Mv) : Int × Int := (m.pa, m.lv)
def Ent.va (e : Ent) : Int × Int := (e.pa, e.lv)
def entK (f : Int × Int → Int × Int) (p : Int × Int) : Ent := ⟨p.1, p.2, (f p).1, (f p).2⟩
theorem entK_ky (f : Int × Int → Int × Int) (p : Int × Int) : (entK f p).ky = p := rfl
theorem entK_va (f : Int × Int → Int × Int) (p : Int × Int) : (entK f p).va = f p := rfl
theorem entK_inj {f g : Int × Int → Int × Int} {p : Int × Int} (h : f p = g p) : entK f p = entK g p := by unfold entK; rw [h]
theorem ent_eq {x y : Ent} (h1 : x.ky = y.ky) (h2 : x.va = y.va) : x = y := by
  cases x; cases y
  injection h1 with a b; injection h2 with c d
  dsimp only at a b c d
  subst a b c d; rfl
/-- The value that a cue's moves give to a parameter. -/
def mvF (l : List Mv) (p : Int × Int) : Option (Int × Int) := (l.find? (fun m => m.ky == p)).map Mv.va
def homeV : Int × Int := (-1, 0)
/-- The value of a parameter, the cues from the n-th one backwards. -/
def valN (cs : List Cu) (p : Int × Int) : Nat → Int × Int
  | 0 => homeV
  | n + 1 => match cs[n]? with
    | none => homeV
    | some c => match mvF c.mv p with
      | some v => v
      | none => if c.bl = true then homeV else valN cs p n
theorem valN_hit {cs : List Cu} {p v : Int × Int} {n : Nat} (h : n < cs.length) (hv : mvF (cs[n]'h).mv p = some v) : valN cs p (n + 1) = v := by
  rw [valN, List.getElem?_eq_getElem h]; simp only [hv]
theorem valN_block {cs : List Cu} {p : Int × Int} {n : Nat} (h : n < cs.length) (hv : mvF (cs[n]'h).mv p = none) (hb : (cs[n]'h).bl = true) : valN cs p (n + 1) = homeV := by
  rw [valN, List.getElem?_eq_getElem h]; simp only [hv, hb, if_true]
theorem valN_back {cs : List Cu} {p : Int × Int} {n : Nat} (h : n < cs.length) (hv : mvF (cs[n]'h).mv p = none) (hb : (cs[n]'h).bl = false) : valN cs p (n + 1) = valN cs p n := by
  rw [valN, List.getElem?_eq_getElem h]; simp only [hv, hb]; rfl
/-- The parameters that are moved, in order. -/
def movesL (cs : List Cu) : List (Int × Int) := cs.flatMap (fun c => c.mv.map Mv.ky)
def footL (cs : List Cu) : List (Int × Int) := putsP (movesL cs)
theorem footL_asc (cs : List Cu) : AscP (footL cs) := putsP_asc _
theorem footL_mem {cs : List Cu} {p : Int × Int} : p ∈ footL cs ↔ p ∈ movesL cs := putsP_mem _
/-- A look. -/
def lookL (cs : List Cu) (n : Nat) : List Ent := (footL cs).map (entK (fun p => valN cs p n))
theorem lookL_len (cs : List Cu) (n : Nat) : (lookL cs n).length = (footL cs).length := List.length_map _
/-- The entries in which two looks differ. -/
def difL : List Ent → List Ent → List Ent
  | a :: r, b :: s => (if a.va ≠ b.va then [b] else []) ++ difL r s
  | _, _ => []
theorem difL_take : ∀ {a b : List Ent} {k : Nat} (h1 : k < a.length) (h2 : k < b.length), difL (a.take (k + 1)) (b.take (k + 1)) = difL (a.take k) (b.take k) ++ (if (a[k]'h1).va ≠ (b[k]'h2).va then [b[k]'h2] else [])
  | [], _, k, h1, _ => absurd h1 (Nat.not_lt_zero _)
  | _ :: _, [], k, _, h2 => absurd h2 (Nat.not_lt_zero _)
  | a :: r, b :: s, 0, _, _ => by simp [difL]
  | a :: r, b :: s, k + 1, h1, h2 => by
    have ih := difL_take (a := r) (b := s) (k := k) (by simpa using h1) (by simpa using h2)
    rw [List.take_succ_cons, List.take_succ_cons, List.take_succ_cons, List.take_succ_cons, difL, difL, ih, List.append_assoc]
    rfl
theorem difL_map (f g : Int × Int → Int × Int) : ∀ P : List (Int × Int), difL (P.map (entK f)) (P.map (entK g)) = (P.filter (fun p => decide (f p ≠ g p))).map (entK g)
  | [] => rfl
  | p :: r => by
    rw [List.map_cons, List.map_cons, difL, difL_map f g r, entK_va, entK_va]
    by_cases h : f p = g p
    · rw [if_neg (by simpa using h), List.filter_cons_of_neg (by simpa using h)]; rfl
    · rw [if_pos h, List.filter_cons_of_pos (by simpa using h)]; rfl
/-- The values when the first changes have been made. -/
def mixV (f g : Int × Int → Int × Int) (D : List (Int × Int)) (p : Int × Int) : Int × Int := if p ∈ D then g p else f p
/-- One change: the parameter is found, its entry is another one, and then it is the new one. -/
theorem chain_step {f g : Int × Int → Int × Int} {P D : List (Int × Int)} {j : Nat} (hP : AscP P) (hD : D = P.filter (fun p => decide (f p ≠ g p))) (hj : j < D.length) :
    ∃ i, ∃ hi : i < P.length, P[i]'hi = D[j]'hj ∧ (∀ m (hm : m < i), P[m]'(Nat.lt_trans hm hi) ≠ D[j]'hj) ∧ entK (mixV f g (D.take j)) (P[i]'hi) ≠ entK g (D[j]'hj) ∧ (P.map (entK (mixV f g (D.take j)))).set i (entK g (D[j]'hj)) = P.map (entK (mixV f g (D.take (j + 1)))) := by
  have hmf : D[j]'hj ∈ P.filter (fun p => decide (f p ≠ g p)) := hD ▸ List.getElem_mem hj
  have hmem : D[j]'hj ∈ P := (List.mem_filter.1 hmf).1
  have hne : f (D[j]'hj) ≠ g (D[j]'hj) := by simpa using (List.mem_filter.1 hmf).2
  have hDa : AscP D := by rw [hD]; exact List.Pairwise.filter _ hP
  have hnot : D[j]'hj ∉ D.take j := by
    intro h
    obtain ⟨i, hi, he⟩ := List.getElem_of_mem h
    rw [List.getElem_take] at he
    rw [List.length_take] at hi
    have h2 := List.pairwise_iff_getElem.1 hDa i j (by omega) hj (by omega)
    rw [he, ltP_irr] at h2
    cases h2
  obtain ⟨i, hi, he⟩ := List.getElem_of_mem hmem
  have huniq : ∀ m (hm : m < P.length), P[m]'hm = D[j]'hj → m = i := by
    intro m hm hme
    rcases Nat.lt_trichotomy m i with h | h | h
    · have := List.pairwise_iff_getElem.1 hP m i hm hi h
      rw [hme, he, ltP_irr] at this; cases this
    · exact h
    · have := List.pairwise_iff_getElem.1 hP i m hi hm h
      rw [hme, he, ltP_irr] at this; cases this
  refine ⟨i, hi, he, fun m hm hme => ?_, fun hq => ?_, ?_⟩
  · have := huniq m (Nat.lt_trans hm hi) hme; omega
  · have h1 := congrArg Ent.va hq
    rw [entK_va, entK_va, he] at h1
    unfold mixV at h1
    rw [if_neg hnot] at h1
    exact hne h1
  · refine List.ext_getElem (by rw [List.length_set, List.length_map, List.length_map]) fun m h1 h2 => ?_
    rw [List.length_set, List.length_map] at h1
    rw [List.getElem_set, List.getElem_map, List.getElem_map]
    have htk : D.take (j + 1) = D.take j ++ [D[j]'hj] := List.take_succ_eq_append_getElem hj
    by_cases hm : i = m
    · subst hm
      rw [if_pos rfl, he]
      apply entK_inj
      unfold mixV
      rw [htk, if_pos (List.mem_append_right _ (List.mem_singleton.2 rfl))]
    · rw [if_neg hm]
      apply entK_inj
      have hpm : P[m]'h1 ≠ D[j]'hj := fun e => hm (huniq m h1 e).symm
      unfold mixV
      rw [htk]
      have : (P[m]'h1 ∈ D.take j ++ [D[j]'hj]) ↔ P[m]'h1 ∈ D.take j := by
        rw [List.mem_append, List.mem_singleton]
        exact ⟨fun h => h.resolve_right hpm, Or.inl⟩
      by_cases hx : P[m]'h1 ∈ D.take j
      · rw [if_pos hx, if_pos (this.2 hx)]
      · rw [if_neg hx, if_neg (fun h => hx (this.1 h))]
theorem chain_start (f g : Int × Int → Int × Int) (P D : List (Int × Int)) : P.map (entK f) = P.map (entK (mixV f g (D.take 0))) := by
  refine List.map_congr_left fun p _ => entK_inj ?_
  unfold mixV; rw [List.take_zero, if_neg (by simp)]
theorem chain_end {f g : Int × Int → Int × Int} {P D : List (Int × Int)} (hD : D = P.filter (fun p => decide (f p ≠ g p))) : P.map (entK (mixV f g (D.take D.length))) = P.map (entK g) := by
  refine List.map_congr_left fun p hp => entK_inj ?_
  unfold mixV
  rw [List.take_length]
  by_cases h : p ∈ D
  · rw [if_pos h]
  · rw [if_neg h]
    by_cases e : f p = g p
    · exact e
    · exact absurd (by rw [hD]; exact List.mem_filter.2 ⟨hp, by simpa using e⟩) h
end Lum

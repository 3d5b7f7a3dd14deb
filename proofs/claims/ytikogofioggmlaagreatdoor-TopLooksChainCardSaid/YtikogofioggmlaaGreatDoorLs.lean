/-
  Slices that a call owns, sorted.
-/
import Derived.Test.YtikogofioggmlaaGreatDoorShelfC
import Derived.Test.YtikogofioggmlaaGreatDoorLj
import Derived.Shelf.SlSortCmp.NoneTotal
import Derived.Lib.OwnBridge
import Derived.WalkSmall
set_option linter.unusedVariables false
set_option linter.unusedSimpArgs false
namespace Lum
open Go Go.RowKit Go.Shelf
open Go.Lib (decDigits itoa)
/-- Parameters that a list may move. -/
abbrev PmS := { p : Int × Int // Rng p }
instance : Inhabited PmS := ⟨⟨(1, 0), by unfold Rng; omega⟩⟩
def encPs (x : PmS) : List Value := encPm x.1
theorem encPs_len : ∀ x, (encPs x).length = 2 := fun _ => rfl
theorem encPs_one (x : PmS) : ∀ v ∈ encPs x, v.oneCell' = true := encPm_one x.1
theorem subs_of : ∀ {l : List (Int × Int)}, (∀ p ∈ l, Rng p) → ∃ s : List PmS, s.map (·.1) = l
  | [], _ => ⟨[], rfl⟩
  | p :: r, h => by
    obtain ⟨s, hs⟩ := subs_of (l := r) (fun q hq => h q (List.mem_cons_of_mem _ hq))
    exact ⟨⟨p, h p (List.mem_cons_self ..)⟩ :: s, by rw [List.map_cons, hs]⟩
theorem ownR_subs {base : Nat} {e : TypeId} {W : World} {p : Option Addr} {c : Nat} {s : List PmS} : OwnR encPs 2 base e W p c s ↔ OwnR encPm 2 base e W p c (s.map (·.1)) := by
  unfold OwnR
  rw [List.length_map, List.flatMap_map]
  exact Iff.rfl
theorem sorted_foot {l : List (Int × Int)} {s : List PmS} (hp : List.Perm s s) (hm : ∀ x, x ∈ s.map (·.1) ↔ x ∈ l) (hn : (s.map (·.1)).Pairwise (fun a b => a ≠ b)) (hs : ∀ i j (hj : j < s.length) (h : i < j), ltP (s[j]'hj).1 (s[i]'(by omega)).1 = false) : s.map (·.1) = putsP l := by
  refine asc_unique ?_ (putsP_asc l) (fun x => by rw [hm, putsP_mem])
  refine List.pairwise_iff_getElem.2 fun i j hi hj hij => ?_
  have h1 := List.pairwise_iff_getElem.1 hn i j hi hj hij
  rw [List.getElem_map, List.getElem_map] at *
  exact ltP_ne (hs i j (by simpa using hj) hij) (fun e => h1 e.symm)
theorem BelD.grow {W w' : World} (h : BelD W w') : ∃ q os', w' = Go.Sort.grow (W.drewN q) os' := by
  obtain ⟨h, h2⟩ := h
  refine ⟨w'.drawn - W.drawn, w'.heap.extract W.heap.size w'.heap.size, ?_⟩
  obtain ⟨heap', tape', drawn', os', output'⟩ := w'
  have e1 : os' = W.os := h.os
  have e2 : tape' = W.tape := h.tape
  have e3 : output' = W.output := h.output
  have hs : W.heap.size ≤ heap'.size := h.size
  have hb : ∀ k, k < W.heap.size → heap'[k]? = W.heap[k]? := h.block
  have h3 : W.drawn ≤ drawn' := h2
  subst e1 e2 e3
  have eh : heap' = W.heap ++ heap'.extract W.heap.size heap'.size := by
    apply Array.ext_getElem?
    intro k
    by_cases hk : k < W.heap.size
    · rw [Array.getElem?_append_left hk]; exact hb k hk
    · rw [Array.getElem?_append_right (by omega), Array.getElem?_extract]
      by_cases hk2 : k < heap'.size
      · rw [if_pos (by omega)]; congr 1; omega
      · rw [if_neg (by omega), Array.getElem?_eq_none (by omega)]
  have ed : W.drawn + (drawn' - W.drawn) = drawn' := by omega
  simp only [Go.Sort.grow, World.drewN, ed]
  congr 1
section
variable {β : Type} [Inhabited β] {enc : β → List Value} {k : Nat}
theorem flatK_list (hk : ∀ x, (enc x).length = k) (hk0 : 0 < k) (d : List β) : (Go.Sort.flatK enc k d.toArray).toList = d.flatMap enc := by
  have hl : (d.flatMap enc).length = d.length * k := flat_len hk d
  apply List.ext_getElem?
  intro j
  by_cases hj : j < d.length * k
  · have hi : j / k < d.length := Nat.div_lt_of_lt_mul (by rwa [Nat.mul_comm])
    have ht : j % k < k := Nat.mod_lt _ hk0
    have hv : (enc (d[j / k]'hi))[j % k]? = some ((enc (d[j / k]'hi))[j % k]'(by rw [hk]; exact ht)) := List.getElem?_eq_getElem _
    have h1 := flat_at hk d (j / k) hi (j % k) _ hv
    rw [Nat.div_add_mod'] at h1
    rw [h1]
    have hlt : j < (Go.Sort.flatK enc k d.toArray).size := by simpa using hj
    rw [Array.getElem?_toList, Array.getElem?_eq_getElem hlt, ← getElem!_pos (Go.Sort.flatK enc k d.toArray) _ hlt, Go.Sort.get_flatK _ _ _ _ (by simpa using hj)]
    have ha : d.toArray[j / k]! = d[j / k]'hi := by rw [getElem!_pos d.toArray (j / k) (by simpa using hi)]; simp
    rw [ha, getElem!_pos (enc (d[j / k]'hi)) (j % k) (by rw [hk]; exact ht)]
  · rw [List.getElem?_eq_none (by simp; omega), List.getElem?_eq_none (by omega)]
theorem holdsK_own (hk : ∀ x, (enc x).length = k) (hk0 : 0 < k) {base : Nat} {e : TypeId} {W : World} {g c : Nat} {d : List β} (h : OwnR enc k base e W (some ⟨g, 0, none⟩) c d) (hn : d ≠ []) : Go.Sort.HoldsK enc k W g 0 d.toArray := by
  intro j hj
  have hj2 : j < d.length * k := by simpa using hj
  refine ⟨?_, h.frozenAt hn _⟩
  rw [Go.Sort.get_flatK enc k d.toArray j (by simpa using hj2)]
  have hi : j / k < d.length := Nat.div_lt_of_lt_mul (by rwa [Nat.mul_comm])
  have ht : j % k < k := Nat.mod_lt _ hk0
  have ha : d.toArray[j / k]! = d[j / k]'hi := by rw [getElem!_pos d.toArray (j / k) (by simpa using hi)]; simp
  rw [ha, getElem!_pos (enc (d[j / k]'hi)) (j % k) (by rw [hk]; exact ht)]
  have hc := h.cellsAt hk (List.getElem?_eq_getElem hi) (j % k) _ (List.getElem?_eq_getElem (by rw [hk]; exact ht))
  rw [Nat.div_add_mod'] at hc
  rwa [Nat.zero_add]
theorem heap_sortG {w : World} {g n : Nat} {os : Array Obj} {cur : Array Value} {e : TypeId} {fr : Nat × Nat} (F : Array Value) (hb : w.heap[g]? = some (.cells cur e fr)) :
    (Go.Sort.grow (Go.Sort.putRow id (Go.Sort.ahead w n) g 0 F) os).heap[g]? = some (.cells (Go.Sort.putCells id 0 F cur) e fr) := by
  have hg : g < w.heap.size := (Array.getElem?_eq_some_iff.1 hb).1
  rw [Go.Sort.heap_grow_old _ _ (by simpa using hg)]
  simp [Go.Sort.putRow, Go.Sort.mapBlock, Go.Sort.ahead, Array.getElem?_modify, hb, Go.Sort.onCells]
theorem grown_sortG {w : World} {g n : Nat} {os : Array Obj} (F : Array Value) : w.grownBy (Go.Sort.grow (Go.Sort.putRow id (Go.Sort.ahead w n) g 0 F) os) (some g) := by
  refine ⟨rfl, rfl, rfl, by simp, fun k hk hne => ?_⟩
  rw [Go.Sort.heap_grow_old _ _ (by simpa using hk)]
  have : g ≠ k := fun e => hne (by rw [e])
  simp [Go.Sort.putRow, Go.Sort.mapBlock, Go.Sort.ahead, Array.getElem?_modify, this]
theorem take_putIdG (cur F : Array Value) (h : F.size ≤ cur.size) : (Go.Sort.putCells id 0 F cur).toList.take F.size = F.toList := by
  apply List.ext_getElem?
  intro j
  by_cases hj : j < F.size
  · rw [List.getElem?_take_of_lt hj, Array.getElem?_toList]
    simp [Go.Sort.putCells, hj, show j < cur.size by omega]
  · rw [List.getElem?_take_eq_none (by omega), List.getElem?_eq_none (by simp; omega)]
theorem below_sortG {base : Nat} {W : World} {g n : Nat} {os : Array Obj} {s : Array β} (hg : base ≤ g) (hbase : base ≤ W.heap.size) : Below base W (Go.Proofs.sortWorldK enc k W g 0 n s os) :=
  (Below.refl base W).grown (grown_sortG _) hbase fun k hk => by injection hk with hk; subst hk; exact hg
theorem ownR_sortG (hk : ∀ x, (enc x).length = k) (hk0 : 0 < k) {base : Nat} {e : TypeId} {W : World} {g c n : Nat} {os : Array Obj} {d s : List β} (h : OwnR enc k base e W (some ⟨g, 0, none⟩) c d) (hn : d ≠ []) (hl : s.length = d.length) : OwnR enc k base e (Go.Proofs.sortWorldK enc k W g 0 n s.toArray os) (some ⟨g, 0, none⟩) c s := by
  obtain ⟨g', cur, hp, hg, hb, hc1, hc2, hc3, hc4⟩ := h.to_blk hn
  injection hp with hp
  injection hp with hp
  subst hp
  have h3 : d.length * k ≤ c * k := Nat.mul_le_mul_right _ hc1
  refine OwnR.of_blk hk (heap_sortG (Go.Sort.flatK enc k s.toArray) hb) hg (by omega) hc2 (by simp [Go.Sort.putCells, hc3]) ?_
  have h1 := take_putIdG cur (Go.Sort.flatK enc k s.toArray) (by simp [hl, hc3]; exact h3)
  rw [flatK_list hk hk0] at h1
  have h2 : s.length * k = (Go.Sort.flatK enc k s.toArray).size := by simp
  rw [h2, h1]
open Go.Proofs in
/-- slices.SortFunc at structs that a call owns, by a comparison whose sign is the order of keys. -/
theorem sort_gen {P : Program} {ρ : Ren} (L : SlLaysF0.n6 P ρ) (hk : ∀ x, (enc x).length = k) (h1 : ∀ x, ∀ v ∈ enc x, v.oneCell' = true) (hk0 : 0 < k) (aE : ∀ w, (isAgg (ρ.t 24)).run P w = .ok true w) (zE : ∀ w, (Go.sizeOf (ρ.t 24)).run P w = .ok k w)
    (key : β → Int × Int) (cf : β → β → Int) (hcf : ∀ x y, cf x y < 0 ↔ ltP (key x) (key y) = true) (g : Nat) (cb : Array Value) (l : List β) (w : World) (p : Option Addr) (c base : Nat) (e : TypeId) (eg : ∀ args w, (callFunc g args).run P w = .ok (.enter g args) w)
    (hcmp : ∀ W, Below base w W → ∀ x y : β, Calls P g (#[.agg (enc x).toArray, .agg (enc y).toArray] ++ cb) W fun e w' => e = .returned (.int .i64 (cf x y)) ∧ BelD W w') (hO : OwnR enc k base e w p c l) (hn : l.length ≤ 1000000) (hbase : base ≤ w.heap.size) :
    Calls P (ρ.f 6) #[.slice p l.length c, .func (.func g) #[] cb] w fun e2 w' => e2 = .returned (.tuple #[]) ∧ ∃ s, List.Perm s l ∧ (∀ i j (hj : j < s.length) (h : i < j), ltP (key (s[j]'hj)) (key (s[i]'(by omega))) = false) ∧ OwnR enc k base e w' p c s ∧ Below base w w' := by
  have hcl : ∀ x y, Go.Proofs.ltOf cf x y = ltP (key x) (key y) := fun x y => by
    unfold Go.Proofs.ltOf
    cases h : ltP (key x) (key y) with
    | true => exact decide_eq_true ((hcf x y).2 h)
    | false => exact decide_eq_false (fun g => by rw [(hcf x y).1 g] at h; cases h)
  have swo : Go.Sort.SWO (Go.Proofs.ltOf cf) := {
    irrefl := fun x => by rw [hcl]; exact ltP_irr _
    trans := fun x y z h g => by rw [hcl] at *; exact ltP_trans h g
    ntrans := fun x y z h g => by rw [hcl] at *; rw [ltP_false] at *; omega }
  by_cases h0 : l = []
  · subst h0
    refine (AnyF.slices_SortFunc_none L p c (.func (.func g) #[] cb) w).mono fun e2 w' ⟨he, hw⟩ => ⟨he, [], List.Perm.refl _, fun i j hj => absurd hj (Nat.not_lt_zero _), ?_, ?_⟩
    · subst hw; exact hO
    · subst hw; exact Below.refl _ _
  · obtain ⟨b, cur, rfl, hg, -⟩ := hO.to_blk h0
    have hlt := (hO.lt _ rfl).2
    have hs : l.toArray.size = l.length := by simp
    have h := AnyQ.slices_SortFunc L k aE zE enc hk h1 cf swo g cb b 0 c l.toArray w eg (fun m os dk _ x y => (hcmp _ (below_sortG hg hbase) x y).mono fun e w' ⟨ha, hb⟩ => ⟨ha, hb.grow⟩) (holdsK_own hk hk0 hO h0) hlt (by rw [hs]; omega)
    rw [hs] at h
    refine h.mono fun e2 w' ⟨he, d', n, os, hp, hsd, hw⟩ => ⟨he, d'.toList, ?_, fun i j hj hij => ?_, ?_, ?_⟩
    · have h1 := hp.2.2
      rw [← hs, Array.extract_size] at h1
      have h2 : d'.size = l.toArray.size := hp.1
      rw [← h2, Array.extract_size] at h1
      simpa using h1
    · have h2 : d'.size = l.toArray.size := hp.1
      have hj2 : j < d'.size := by simpa using hj
      have := hsd i j (Nat.zero_le _) hij (by rw [← hs, ← h2]; exact hj2)
      rw [hcl, getElem!_pos d' j hj2, getElem!_pos d' i (by omega)] at this
      simpa using this
    · have h3 := ownR_sortG (n := n) (os := os) (s := d'.toList) hk hk0 hO h0 (by have : d'.size = l.toArray.size := hp.1; simpa using this)
      rw [Array.toArray_toList] at h3
      rw [hw]; exact h3
    · rw [hw]; exact below_sortG hg hbase
end
end Lum
namespace Go.Proofs.YtikogofioggmlaaGreatDoor
open Go.RowKit Go.Shelf Lum
open Go.Lib (decDigits itoa)
attribute [local go_sem] bs_get bs_extract_end bs_extract_from bs_extract bs_append

theorem own_psort (l : List (Int × Int)) (w : World) (p : Option Addr) (c base : Nat) (hO : OwnR encPm 2 base 39 w p c l) (hr : ∀ x ∈ l, Rng x) (hd : l.Pairwise (fun a b => a ≠ b)) (hn : l.length ≤ 1000000) (hbase : base ≤ w.heap.size) (cs : List (Int × Int)) (hcs : ∀ x, x ∈ l ↔ x ∈ cs) :
    Calls Tryz.prog 37 #[.slice p l.length c, .func (.func 38) #[] #[]] w fun e w' => e = .returned (.tuple #[]) ∧ l.length = (putsP cs).length ∧ OwnR encPm 2 base 39 w' p c (putsP cs) ∧ Below base w w' := by
  obtain ⟨l2, rfl⟩ := subs_of hr
  have hO2 := ownR_subs.2 hO
  rw [List.length_map] at hn ⊢
  refine (sort_gen Tryz.sortPa encPs_len encPs_one (by decide) Tryz.isAgg39 Tryz.sizeOf39 (fun x => x.1) (fun x y => cmI x.1.1 x.1.2 y.1.1 y.1.2) (fun x y => cmI_lt) 38 #[] l2 w p c base 39 (enters_of Tryz.func38 (by kernel_rfl) rfl)
    (fun W hW x y => own_tcompare x.1.1 x.1.2 y.1.1 y.1.2 W x.2.1 x.2.2 y.2.1 y.2.2) hO2 hn hbase).mono ?_
  rintro e w' ⟨he, s, hp, hs, ho, hb⟩
  have hpm := hp.map (fun x : PmS => x.1)
  have e2 : s.map (fun x : PmS => x.1) = putsP cs := sorted_foot (List.Perm.refl _) (fun x => by rw [hpm.mem_iff]; exact hcs x) (hpm.symm.pairwise hd (fun h e => h e.symm)) hs
  refine ⟨he, ?_, ?_, hb⟩
  · rw [← e2, List.length_map, hp.length_eq]
  · rw [← e2]; exact ownR_subs.1 ho
end Go.Proofs.YtikogofioggmlaaGreatDoor

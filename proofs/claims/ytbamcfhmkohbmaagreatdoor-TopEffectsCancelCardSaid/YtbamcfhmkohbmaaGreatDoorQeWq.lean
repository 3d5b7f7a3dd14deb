/-
  Waves: Same, Ramp. Waves: Flip, Mirror, Tidy. Waves: Flip, Tidy.
-/
import Derived.Test.YtbamcfhmkohbmaaGreatDoorWv2
import Derived.Laws.StructEq
import Derived.BigQuiet
import Derived.Deep.QuietTactic
import Derived.IntWalk
import Derived.Test.YtbamcfhmkohbmaaGreatDoorWp
import Derived.StillTailTactics
import Derived.Deep.DeepCutAuto
import Derived.Deep.Cut
set_option linter.unusedVariables false
set_option linter.unusedSimpArgs false
namespace Lum
open Go Go.RowKit Go.Shelf
open Go.Lib (decDigits itoa)
def rampE (low top turn : Int) : Int := if (-1000 ≤ low ∧ low ≤ 1000) ∧ (-1000 ≤ top ∧ top ≤ 1000) ∧ 1 ≤ turn ∧ turn ≤ 999 then 0 else 2
def rampL (low top turn : Int) : List (Int × Int) := if rampE low top turn = 0 then [(0, low), (turn, top), (1000, low)] else []
end Lum
namespace Go.Proofs.YtbamcfhmkohbmaaGreatDoor
open Go.RowKit Go.Shelf Lum
open Go.Lib (decDigits itoa)
attribute [local go_sem] bs_get bs_extract_end bs_extract_from bs_extract bs_append

end Go.Proofs.YtbamcfhmkohbmaaGreatDoor
namespace Lum
open Go Go.RowKit Go.Shelf
open Go.Lib (decDigits itoa)
/-- What a function for a point does with one. -/
def PtFun (P : Program) (M : FuncId) (g : Int × Int → Int × Int) : Prop := ∀ (x y : Int) (W : World), 0 ≤ x → x ≤ 1000 → -1000 ≤ y → y ≤ 1000 →
  Calls P M #[.agg #[.int .i64 x, .int .i64 y]] W fun e w' => e = .returned (.agg #[.int .i64 (g (x, y)).1, .int .i64 (g (x, y)).2]) ∧ Below W.heap.size W w'
/-- Of a wave that is right. -/
def onlyR (l r : List (Int × Int)) : List (Int × Int) := if wvE l = 0 then r else []
theorem onlyR_ok {l r : List (Int × Int)} (h : wvE l = 0) : onlyR l r = r := by unfold onlyR; rw [if_pos h]
theorem onlyR_no {l r : List (Int × Int)} (h : ¬ wvE l = 0) : onlyR l r = [] := by unfold onlyR; rw [if_neg h]
theorem pt_at {l : List (Int × Int)} {k : Nat} (h : k < l.length) : l[k]'h = (pX l k, pY l k) := by unfold pX pY; rw [List.getElem?_eq_getElem h]; rfl
theorem map_snoc (g : Int × Int → Int × Int) {l : List (Int × Int)} {k : Nat} (h : k < l.length) : (l.take (k + 1)).map g = (l.take k).map g ++ [g (pX l k, pY l k)] := by
  rw [List.take_succ_eq_append_getElem h, List.map_append, pt_at h]; rfl
theorem map_len (g : Int × Int → Int × Int) {l : List (Int × Int)} {k : Nat} (h : k ≤ l.length) : ((l.take k).map g).length = k := by simp; omega
end Lum
namespace Go.Proofs.YtbamcfhmkohbmaaGreatDoor
open Go.RowKit Go.Shelf Lum
open Go.Lib (decDigits itoa)
attribute [local go_sem] bs_get bs_extract_end bs_extract_from bs_extract bs_append

theorem info_pt : (Tryz.prog.info? 33).map (fun i => (i.zero, i.size, i.bytes)) = some (some (.agg #[.int .i64 0, .int .i64 0]), 2, 16) := by kernel_rfl

set_option maxHeartbeats 1000000 in
theorem flip_fun : PtFun Tryz.prog 130 (fun p : Int × Int => (p.1, -p.2)) := by
  intro x y W x0 x1 y0 y1
  have e1 : IntKind.i64.wrap (-y) = -y := IntWalk.i64_in _ (by omega)
  go_enter Tryz.func130, Tryz.ntmps130
  go_wp2
  refine bodyPost_ret_by (v := .agg #[.int .i64 ((fun p : Int × Int => (p.1, -p.2)) (x, y)).1, .int .i64 ((fun p : Int × Int => (p.1, -p.2)) (x, y)).2]) (by simp [results, Tryz.f130, go_sem]) rfl ⟨rfl, ?_⟩
  exact ((Below.refl _ _).alloc (Nat.le_refl _) _).alloc (by simp) _

set_option maxHeartbeats 1000000 in
theorem tidy_fun : PtFun Tryz.prog 63 (fun p : Int × Int => p) := by
  intro x y W x0 x1 y0 y1
  skip
  go_enter Tryz.func63, Tryz.ntmps63
  go_wp2
  refine bodyPost_ret_by (v := .agg #[.int .i64 ((fun p : Int × Int => p) (x, y)).1, .int .i64 ((fun p : Int × Int => p) (x, y)).2]) (by simp [results, Tryz.f63, go_sem]) rfl ⟨rfl, ?_⟩
  exact ((Below.refl _ _).alloc (Nat.le_refl _) _).alloc (by simp) _

set_option maxRecDepth 100000 in
set_option maxHeartbeats 4000000 in
theorem own_changed (M : FuncId) (g : Int × Int → Int × Int) (l : List (Int × Int)) (v : Value) (w : World) (hv : PtsAt w v l) (hn : l.length ≤ 1000000000) (hM : PtFun Tryz.prog M g) (hF : ∀ args w, (callFunc M args).run Tryz.prog w = .ok (.enter M args) w) :
    Calls Tryz.prog 62 #[v, .func (.func M) #[] #[]] w fun e w' => ∃ p c, e = .returned (.tuple #[.slice p (onlyR l (l.map g)).length c, .int .i64 (wvE l)]) ∧ OwnP w.heap.size 33 w' p c (onlyR l (l.map g)) ∧ Below w.heap.size w w' := by
  have hk := own_wcheck l v w hv hn
  have HB := Lib.hid (Below.refl w.heap.size w)
  by_cases hz : wvE l = 0
  · rw [onlyR_ok hz]
    rw [hz] at hk ⊢
    have wv := wvE_zero hz
    have hhi := wv.hi
    have hlo := wv.lo
    obtain ⟨p, c, rfl, hv2⟩ := hv
    obtain ⟨b, o, rfl, hb, hc⟩ := hv2 (fun h => by subst h; simp at hlo)
    clear hv2
    replace hc : PtC w b o l := hc
    have HC := Lib.hid hc; clear hc
    have HK := Lib.hid hk; clear hk
    have HM := Lib.hid hM; clear hM
    have HZ := Lib.hid hz; clear hz
    obtain ⟨i0, hi, hz0, hz1, hz2⟩ := info_parts info_pt
    go_enter Tryz.func62, Tryz.ntmps62
    go_wp2_with ((with_reducible refine ((HK.out).mono ?_)); rintro e w' ⟨rfl, hb1⟩; replace HB := Lib.hid hb1; clear hb1)
    go_loopw [7, 17] (fun s i wr => ∃ (k : Nat) (pp : Option Addr) (cc : Nat), i = .int .i64 (k : Int) ∧ s = .slice pp k cc ∧ k ≤ l.length ∧ OwnP w.heap.size 33 wr pp cc ((l.take k).map g) ∧ Below w.heap.size w wr) (fun _ i _ => l.length - (intOf i).toNat)
    case atStart => exact ⟨0, none, 0, rfl, rfl, by omega, OwnP.nil _ _ _, HB.out⟩
    case round =>
      obtain ⟨k, pp, cc, rfl, rfl, hk, hO, hB⟩ := hrel
      have HBW := Lib.hid hB; clear hB HB
      have HO := Lib.hid hO; clear hO
      by_cases hlt : k < l.length
      · have hlt1 : (k : Int) < (l.length : Int) := by omega
        obtain ⟨x1, y1⟩ := HC.out.below HBW.out hb k hlt
        have hX := wv.range hlt
        have hY := wv.h k hlt
        have hm := fun W => HM.out (pX l k) (pY l k) W (by omega) (by omega) (by omega) (by omega)
        have HMM := Lib.hid hm; clear hm
        have hsn := map_snoc g hlt
        have HSN := Lib.hid hsn; clear hsn
        have hun : IntKind.i64.wrap ((k : Int) + 1) = (k : Int) + 1 := IntWalk.i64_in _ (by omega)
        have hbr : b < wr.heap.size := by have := HBW.out.size; omega
        generalize hgg : g (pX l k, pY l k) = q at *
        obtain ⟨q1, q2⟩ := q
        clear hgg
        dsimp only at HMM
        have hO1 := HO.out.keep ((Below.refl _ wr).alloc (Nat.le_refl _) (.cells #[.int .i64 (pX l k), .int .i64 (pY l k)] 33))
        have HO1 := Lib.hid hO1; clear hO1
        generalize pX l k = X1 at *
        generalize pY l k = Y1 at *
        have hB1 := HBW.out.alloc (by have := HBW.out.size; omega) (.cells #[.int .i64 X1, .int .i64 Y1] 33)
        have HB1 := Lib.hid hB1; clear hB1
        have hln := map_len g (show k ≤ l.length by omega)
        have HLN := Lib.hid hln; clear hln
        go_wp2_with (first | ((with_reducible refine ((HMM.out _).mono ?_)); rintro e w2 ⟨rfl, hb2⟩; have HO2 := Lib.hid (HO1.out.keep hb2); have HB2 := Lib.hid (bch' HB1.out hb2); clear hb2) | (at_builtin; refine wpList_appP rfl _ _ 22 rfl w.heap.size 33 i0 (.agg #[.int .i64 0, .int .i64 0]) 16 Tryz.underlying22 hi hz0 hz1 hz2 rfl (by decide) pp cc ((l.take k).map g) _ (q1, q2) (by rw [HLN.out]; rfl) HO2.out rfl (by rw [HLN.out]; omega) HB2.out.size ?_; rintro p1 c1 w3 hO3 hb3; have HO3 := Lib.hid hO3; have HB3 := Lib.hid hb3; clear hO3 hb3; rw [HLN.out]))
        go_roundw
        case rel => exact ⟨k + 1, p1, c1, by simp, by simp, by omega, by rw [HSN.out]; exact HO3.out, HB2.out.trans HB3.out⟩
        case measure => simp [intOf]; omega
      · have hlt1 : ¬ (k : Int) < (l.length : Int) := by omega
        obtain rfl : k = l.length := by omega
        have hln : (l.map g).length = l.length := by simp
        have HLN := Lib.hid hln; clear hln
        have hO := HO.out
        rw [List.take_length] at hO
        clear HO
        have HO := Lib.hid hO; clear hO
        go_wp2
        go_ret2
        exact ⟨pp, cc, rfl, HO.out, HBW.out⟩
  · rw [onlyR_no hz]
    have hne : ((wvE l : Int) != 0) = true := by simpa using hz
    have HM := Lib.hid hM; clear hM hz hF
    obtain ⟨p, c, rfl, -⟩ := hv
    have HK := Lib.hid hk; clear hk
    generalize wvE l = m at *
    go_enter Tryz.func62, Tryz.ntmps62
    go_wp2_with ((with_reducible refine ((HK.out).mono ?_)); rintro e w' ⟨rfl, hb1⟩; replace HB := Lib.hid hb1; clear hb1)
    go_ret2
    exact ⟨none, 0, rfl, OwnP.nil _ _ _, HB.out⟩
end Go.Proofs.YtbamcfhmkohbmaaGreatDoor
namespace Lum
open Go Go.RowKit Go.Shelf
open Go.Lib (decDigits itoa)
theorem ptCells_append (a b : List (Int × Int)) : ptCells (a ++ b) = ptCells a ++ ptCells b := by unfold ptCells; rw [List.flatMap_append]
theorem PtC.cells {W : World} {b o : Nat} {l : List (Int × Int)} (h : PtC W b o l) (j : Nat) (v : Value) (hv : (ptCells l)[j]? = some v) : W.cell? ⟨b, o + j, none⟩ = some v := by
  have hj : j < l.length * 2 := by rw [← ptCells_length]; exact (List.getElem?_eq_some_iff.1 hv).1
  obtain ⟨e1, e2⟩ := ptCells_at l (j / 2) (by omega)
  obtain ⟨h1, h2⟩ := h (j / 2) (by omega)
  rcases (show j % 2 = 0 ∨ j % 2 = 1 by omega) with hm | hm
  · have : j / 2 * 2 = j := by omega
    rw [this] at e1 h1
    rw [e1] at hv; injection hv with hv; subst hv; exact h1
  · have : j / 2 * 2 + 1 = j := by omega
    rw [this] at e2
    rw [Nat.add_assoc, this] at h2
    rw [e2] at hv; injection hv with hv; subst hv; exact h2
theorem erase_cells (l : List (Int × Int)) {k : Nat} (hk : k < l.length) : ptCells (l.eraseIdx k) = ptCells (l.take k) ++ ptCells (l.drop (k + 1)) := by rw [List.eraseIdx_eq_take_drop_succ, ptCells_append]
theorem mul_2m {a b : Int} (a0 : -2000 ≤ a) (a1 : a ≤ 2000) (b0 : 0 ≤ b) (b1 : b ≤ 1000) : -2000000 ≤ a * b ∧ a * b ≤ 2000000 := by
  have m1 : a * b ≤ 2000 * b := Int.mul_le_mul_of_nonneg_right a1 b0
  have m2 : -2000 * b ≤ a * b := Int.mul_le_mul_of_nonneg_right a0 b0
  omega
theorem tidF_stop {n k : Nat} {l : List (Int × Int)} (h : ¬ k + 1 < l.length) : tidF n k l = l := by
  cases n with
  | zero => rfl
  | succ n => rw [tidF, if_neg h]
theorem tidF_drop {n k : Nat} {l : List (Int × Int)} (h : k + 1 < l.length) (hs : strtAt l k = true) : tidF (n + 1) k l = tidF n k (l.eraseIdx k) := by rw [tidF, if_pos h, if_pos hs]
theorem tidF_go {n k : Nat} {l : List (Int × Int)} (h : k + 1 < l.length) (hs : strtAt l k = false) : tidF (n + 1) k l = tidF n (k + 1) l := by rw [tidF, if_pos h, if_neg (by rw [hs]; simp)]
theorem OwnP.open_ {base e : Nat} {W : World} {p : Option Addr} {c : Nat} {l : List (Int × Int)} (h : OwnP base e W p c l) (hn : l ≠ []) : ∃ g, p = some ⟨g, 0, none⟩ ∧ base ≤ g ∧ g < W.heap.size ∧ l.length ≤ c ∧ PtC W g 0 l := by
  have hp := h.pts
  obtain ⟨_, h2⟩ := hp.opn
  obtain ⟨b, o, e1, hb, hc⟩ := h2 hn
  have hl := World.ownsRow.lt h
  rcases h.2 with ⟨h1, h3⟩ | ⟨g, cap, cur, hv, hg, hh, h5, h6, _⟩
  · exact absurd (List.length_eq_zero_iff.1 h3) hn
  · injection hv with hv1 hv2 hv3
    subst hv1 hv3
    injection e1 with e1
    injection e1 with e1 e2
    subst e1 e2
    exact ⟨g, rfl, hg, (hl g rfl).2, h5, hc⟩
def sLen : Value → Nat
  | .slice _ n _ => n
  | _ => 0
/-- append(s[:k:k], s[k + 1:]...): the points without one, in a new row. -/
theorem wpList_cutP {P : Program} {ops : Array Oper} {rest : List Oper} {o : Oper} {a : Act} {Q : Exit → Act → World → Prop} (hgd : o.guard = none) (s x : Operand) (t : TypeId)
    (ho : o.op = .call { callee := .builtin .append, args := #[s, x], argTypes := #[t, t] })
    (base : Nat) (e : TypeId) (i : TypeInfo) (z : Value) (ht : P.underlying t = some (.slice e)) (hi : P.info? e = some i) (hz : i.zero = some z)
    (hsize : i.size = 2) (hby : i.bytes = 16) (hzs : z.cells.size = 2)
    (b of : Nat) (l : List (Int × Int)) (k c2 : Nat) (hk : k + 1 < l.length) (W : World) (hs : a.eval s = .slice (some ⟨b, of, none⟩) k k) (hx : a.eval x = .slice (some ⟨b, of + (k + 1) * 2, none⟩) (l.length - (k + 1)) c2)
    (hc : PtC W b of l) (hn : l.length < 1000000000) (hbase : base ≤ W.heap.size)
    (h : ∀ c' w', OwnP base e w' (some ⟨W.heap.size, 0, none⟩) c' (l.eraseIdx k) → Below base W w' → wpList P ops Q rest (a.put o.dst (.slice (some ⟨W.heap.size, 0, none⟩) (k + (l.length - (k + 1))) c')) w') :
    wpList P ops Q (o :: rest) a W := by
  have hel := List.length_eraseIdx_of_lt (show k < l.length by omega)
  have hl1 : (ptCells (l.take k)).length = k * 2 := by rw [ptCells_length, List.length_take, Nat.min_eq_left (by omega)]
  have hl2 : (ptCells (l.drop (k + 1))).length = (l.length - (k + 1)) * 2 := by rw [ptCells_length, List.length_drop]
  have e1 : ptCells l = ptCells (l.take k) ++ ptCells (l.drop k) := by rw [← ptCells_append, List.take_append_drop]
  have e2 : ptCells l = ptCells (l.take (k + 1)) ++ ptCells (l.drop (k + 1)) := by rw [← ptCells_append, List.take_append_drop]
  have hr := run_append_grow (P := P) W t o.type e i z ht hi hz ⟨b, of, none⟩ k k (ptCells (l.take k)) (by rw [hl1, hsize]) (fun j v hv => by
    rw [addr_add]
    refine hc.cells j v ?_
    rw [e1, List.getElem?_append_left (List.getElem?_eq_some_iff.1 hv).1]; exact hv) ⟨b, of + (k + 1) * 2, none⟩ (l.length - (k + 1)) c2 (ptCells (l.drop (k + 1))) (by rw [hl2, hsize]) (fun j v hv => by
    rw [addr_add, Nat.add_assoc]
    refine hc.cells _ v ?_
    have hl3 : (ptCells (l.take (k + 1))).length = (k + 1) * 2 := by rw [ptCells_length, List.length_take, Nat.min_eq_left (by omega)]
    rw [e2, List.getElem?_append_right (by omega), hl3, show (k + 1) * 2 + j - (k + 1) * 2 = j by omega]; exact hv) (by omega) (by omega) (growslice_fits (by omega) (by rw [hby]; omega))
  refine wpList_plain hgd fun _ hK => ?_
  unfold Oper.wp execOp
  simp only [ho, resolve, invoke, builtin, Sem.run_bind, Sem.run_pure, Result.andThen_ok, List.map_toArray, List.map_cons, List.map_nil, hs, hx, hr]
  refine hK _ _ (h _ _ ?_ ?_)
  · have hge := grownCap_ge W (k + (l.length - (k + 1))) k e
    refine ⟨by rw [erase_cells l (by omega), List.length_append, hl1, hl2, hel]; omega, .inr ⟨W.heap.size, grownCap W (k + (l.length - (k + 1))) k e, _, ?_, hbase, heap_alloc_new W.drew _, by rw [hel]; omega, grownCap_le_maxLen W _ _ e (by unfold maxLen; omega), ?_, ?_⟩⟩
    · rw [hel, show l.length - 1 = k + (l.length - (k + 1)) by omega]
    · simp only [Array.size_append, List.size_toArray, size_zeroCells, hzs, hl1, hl2]
      omega
    · rw [erase_cells l (by omega)]
      simp only [Array.toList_append, List.append_assoc]
      rw [← List.append_assoc]
      refine List.take_left' ?_
      rw [List.length_append, hl1, hl2, hel]; omega
  · exact (Below.refl base W).drew.alloc hbase _
end Lum
namespace Go.Proofs.YtbamcfhmkohbmaaGreatDoor
open Go.RowKit Go.Shelf Lum
open Go.Lib (decDigits itoa)
attribute [local go_sem] bs_get bs_extract_end bs_extract_from bs_extract bs_append

theorem own_flip (l : List (Int × Int)) (v : Value) (w : World) (hv : PtsAt w v l) (hn : l.length ≤ 1000000000) :
    Calls Tryz.prog 56 #[v] w fun e w' => ∃ v', e = .returned (.tuple #[v', .int .i64 (wvE l)]) ∧ PtsAt w' v' (onlyR l (flipL l)) ∧ Below w.heap.size w w' := by
  have h := own_changed 130 (fun p => (p.1, -p.2)) l v w hv hn flip_fun (enters_of Tryz.func130 (by kernel_rfl) rfl)
  have h2 := h.mono (R' := fun e w' => ∃ v', e = .returned (.tuple #[v', .int .i64 (wvE l)]) ∧ PtsAt w' v' (onlyR l (flipL l)) ∧ Below w.heap.size w w') (fun e w' ⟨p, c, he, hO, hb⟩ => ⟨_, he, hO.pts, hb⟩)
  have H := Lib.hid h2; clear h h2
  go_enter Tryz.func56, Tryz.ntmps56
  go_wp2_with ((with_reducible refine ((H.out).mono ?_)); rintro e w' ⟨v', rfl, hO, hb⟩)
  go_ret2
  exact ⟨v', rfl, hO, hb⟩

set_option maxRecDepth 100000 in
set_option maxHeartbeats 8000000 in
theorem own_tidy_ok (l : List (Int × Int)) (v : Value) (w : World) (hv : PtsAt w v l) (hn : l.length ≤ 1000000000) (hz : wvE l = 0) :
    Calls Tryz.prog 16 #[v] w fun e w' => ∃ v', e = .returned (.tuple #[v', .int .i64 0]) ∧ PtsAt w' v' (tidF l.length 1 l) ∧ Below w.heap.size w w' := by
  have h := own_changed 63 (fun p => p) l v w hv hn tidy_fun (enters_of Tryz.func63 (by kernel_rfl) rfl)
  rw [onlyR_ok hz, hz, List.map_id'] at h
  have wv := wvE_zero hz
  have hlo := wv.lo
  have hhi := wv.hi
  have H := Lib.hid h; clear h
  have WV := Lib.hid wv; clear wv hz
  obtain ⟨i0, hi, hz0, hz1, hz2⟩ := info_parts info_pt
  obtain ⟨p, c, rfl, -⟩ := hv
  go_enter Tryz.func16, Tryz.ntmps16
  go_wp2_with ((with_reducible refine ((H.out).mono ?_)); rintro e w1 ⟨pp0, cc0, rfl, hO0, hb0⟩)
  have HO0 := Lib.hid hO0; clear hO0
  have HB0 := Lib.hid hb0; clear hb0
  go_loopw [4, 6] (fun s i wr => ∃ (n k : Nat) (l' : List (Int × Int)) (pp : Option Addr) (cc : Nat), i = .int .i64 (k : Int) ∧ s = .slice pp l'.length cc ∧ 1 ≤ k ∧ k ≤ l'.length ∧ l'.length ≤ 16 ∧ l'.length ≤ n + k ∧ Hid (Wv l') ∧ Hid (OwnP w.heap.size 33 wr pp cc l') ∧ Hid (Below w.heap.size w wr) ∧ Hid (tidF n k l' = tidF l.length 1 l)) (fun s i _ => sLen s - (intOf i).toNat)
  case atStart => exact ⟨l.length, 1, l, pp0, cc0, rfl, rfl, by omega, by omega, by omega, by omega, WV, HO0, HB0, Lib.hid rfl⟩
  case round =>
    obtain ⟨n, k, l', pp, cc, rfl, rfl, hk1, hkl, hlen, hnk, HW, HO, HB, HT⟩ := hrel
    have hp1 : IntKind.i64.wrap ((k : Int) + 1) = (k : Int) + 1 := IntWalk.i64_in _ (by omega)
    by_cases hlt : k + 1 < l'.length
    · have hlt1 : (k : Int) + 1 < (l'.length : Int) := by omega
      have wv := HW.out
      obtain ⟨g, rfl, hg1, hg2, hcc, hc⟩ := HO.out.open_ (fun h => by subst h; simp at hlt)
      obtain ⟨x1, y1⟩ := hc (k - 1) (by omega)
      obtain ⟨x2, y2⟩ := hc k (by omega)
      obtain ⟨x3, y3⟩ := hc (k + 1) (by omega)
      have HC := Lib.hid hc; clear hc
      have hm1 : IntKind.i64.wrap ((k : Int) - 1) = ((k - 1 : Nat) : Int) := by rw [IntWalk.i64_in _ (by omega)]; omega
      have hp0 : (0 : Int) ≤ (k : Int) + 1 := by omega
      have hpt : ((k : Int) + 1).toNat = k + 1 := by omega
      have hi1 : k - 1 < l'.length := by omega
      have hi2 : k < l'.length := by omega
      have hmx : Tryz.prog.follows .mixedOrders = true := by kernel_rfl
      have hg3 : g < wr.heap.size + 1 := by omega
      have hg4 : g < wr.heap.size + 1 + 1 := by omega
      obtain ⟨m, rfl⟩ : ∃ m, n = m + 1 := ⟨n - 1, by omega⟩
      have r1 := wv.range hi1
      have r2 := wv.range hi2
      have r3 := wv.range (show k + 1 < l'.length from hlt)
      have q1 := wv.h (k - 1) hi1
      have q2 := wv.h k hi2
      have q3 := wv.h (k + 1) hlt
      have s1 := wv.s (k - 1) (by omega)
      rw [show k - 1 + 1 = k by omega] at s1
      have s2 := wv.s k hlt
      obtain ⟨m1, m2⟩ := mul_2m (a := pY l' k - pY l' (k - 1)) (b := pX l' (k + 1) - pX l' (k - 1)) (by omega) (by omega) (by omega) (by omega)
      obtain ⟨m3, m4⟩ := mul_2m (a := pY l' (k + 1) - pY l' (k - 1)) (b := pX l' k - pX l' (k - 1)) (by omega) (by omega) (by omega) (by omega)
      have v1 : IntKind.i64.wrap (pY l' k - pY l' (k - 1)) = pY l' k - pY l' (k - 1) := IntWalk.i64_in _ (by omega)
      have v2 : IntKind.i64.wrap (pX l' (k + 1) - pX l' (k - 1)) = pX l' (k + 1) - pX l' (k - 1) := IntWalk.i64_in _ (by omega)
      have v3 : IntKind.i64.wrap ((pY l' k - pY l' (k - 1)) * (pX l' (k + 1) - pX l' (k - 1))) = (pY l' k - pY l' (k - 1)) * (pX l' (k + 1) - pX l' (k - 1)) := IntWalk.i64_in _ (by omega)
      have v4 : IntKind.i64.wrap (pY l' (k + 1) - pY l' (k - 1)) = pY l' (k + 1) - pY l' (k - 1) := IntWalk.i64_in _ (by omega)
      have v5 : IntKind.i64.wrap (pX l' k - pX l' (k - 1)) = pX l' k - pX l' (k - 1) := IntWalk.i64_in _ (by omega)
      have v6 : IntKind.i64.wrap ((pY l' (k + 1) - pY l' (k - 1)) * (pX l' k - pX l' (k - 1))) = (pY l' (k + 1) - pY l' (k - 1)) * (pX l' k - pX l' (k - 1)) := IntWalk.i64_in _ (by omega)
      have hst : strtAt l' k = decide ((pY l' k - pY l' (k - 1)) * (pX l' (k + 1) - pX l' (k - 1)) = (pY l' (k + 1) - pY l' (k - 1)) * (pX l' k - pX l' (k - 1))) := rfl
      have HST := Lib.hid hst; clear hst
      clear wv r1 r2 r3 q1 q2 q3 s1 s2 m1 m2 m3 m4
      simp only [Nat.zero_add] at x1 y1 x2 y2 x3 y3
      generalize pX l' (k - 1) = X1 at *
      generalize pY l' (k - 1) = Y1 at *
      generalize pX l' k = X2 at *
      generalize pY l' k = Y2 at *
      generalize pX l' (k + 1) = X3 at *
      generalize pY l' (k + 1) = Y3 at *
      go_wp2
      go_cut [7, 8, 9] (fun s7 s8 s9 wx => ∃ A B C : Nat, s7 = .pointer (some ⟨A, 0, none⟩) ∧ s8 = .pointer (some ⟨B, 0, none⟩) ∧ s9 = .pointer (some ⟨C, 0, none⟩) ∧ wx.cell? ⟨A, 0, none⟩ = some (.int .i64 X1) ∧ wx.cell? ⟨A, 1, none⟩ = some (.int .i64 Y1) ∧ wx.cell? ⟨B, 0, none⟩ = some (.int .i64 X2) ∧ wx.cell? ⟨B, 1, none⟩ = some (.int .i64 Y2) ∧ wx.cell? ⟨C, 0, none⟩ = some (.int .i64 X3) ∧ wx.cell? ⟨C, 1, none⟩ = some (.int .i64 Y3) ∧ Hid (Below wr.heap.size wr wx))
      case first =>
        go_region
        all_goals (go_wp2_with fail; go_meet; refine ⟨_, _, _, rfl, rfl, rfl, ?_, ?_, ?_, ?_, ?_, ?_, Lib.hid ?_⟩)
        all_goals first | (simp [go_sem]; done) | exact ((((Below.refl _ wr).alloc (Nat.le_refl _) _).alloc (by simp) _).alloc (by simp; omega) _).drew | exact (((Below.refl _ wr).alloc (Nat.le_refl _) _).alloc (by simp) _).alloc (by simp; omega) _
      case rest =>
        obtain ⟨A, B, C, rfl, rfl, rfl, a0, a1, b0, b1, c0, c1, HBX⟩ := hcut
        clear x1 y1 x2 y2 x3 y3 hg3 hg4
        have hO1 := HO.out.keep HBX.out
        have HO1 := Lib.hid hO1; clear hO1
        have HB1 := Lib.hid (bch' HB.out HBX.out)
        have hc1 := HC.out.below HBX.out hg2
        have HC1 := Lib.hid hc1; clear hc1
        by_cases hs : (Y2 - Y1) * (X3 - X1) = (Y3 - Y1) * (X2 - X1)
        · have hsb : (((Y2 - Y1) * (X3 - X1) : Int) == (Y3 - Y1) * (X2 - X1)) = true := by simpa using hs
          have hstr : strtAt l' k = true := by rw [HST.out]; exact decide_eq_true hs
          have HSTR := Lib.hid hstr; clear hs hstr HST
          have hcc1 : k + 1 < cc := by omega
          have hne : ¬ cc = k + 1 := by omega
          have hkc : k ≤ cc := by omega
          have hle : (k : Int) + 1 ≤ (l'.length : Int) := by omega
          have hel := List.length_eraseIdx_of_lt hi2
          have HEL := Lib.hid hel; clear hel
          have HW2 := Lib.hid (HW.out.erase hk1 hlt)
          go_wp2
          refine wp_region_still_tail 8 hmx (by kernel_rfl) ?_
          simp only [List.take_succ_cons, List.take_zero, List.drop_succ_cons, List.drop_zero]
          repeat still_step
          refine wpStill_nil ?_
          refine wpList_cutP rfl _ _ 22 rfl w.heap.size 33 i0 (.agg #[.int .i64 0, .int .i64 0]) Tryz.underlying22 hi hz0 hz1 hz2 rfl g 0 l' k (cc - (k + 1)) hlt wc.drew rfl (by rw [Nat.zero_add]; rfl) HC1.out (by omega) (by have := HB1.out.size; exact this) ?_
          rintro c' w3 hO3 hb3
          have HO3 := Lib.hid hO3; clear hO3
          have HB3 := Lib.hid (HB1.out.drew.trans hb3); clear hb3
          have hnl : k + (l'.length - (k + 1)) = (l'.eraseIdx k).length := by rw [HEL.out]; omega
          rw [hnl]
          clear hnl
          go_wp2
          go_roundw
          case rel => exact ⟨m, k, l'.eraseIdx k, _, c', rfl, rfl, by omega, by rw [HEL.out]; omega, by rw [HEL.out]; omega, by rw [HEL.out]; omega, HW2, HO3, HB3, Lib.hid (by rw [← HT.out, tidF_drop hlt HSTR.out])⟩
          case measure => simp [intOf, sLen]; rw [HEL.out]; omega
        · have hsb : (((Y2 - Y1) * (X3 - X1) : Int) == (Y3 - Y1) * (X2 - X1)) = false := by simpa using hs
          have hstr : strtAt l' k = false := by rw [HST.out]; exact decide_eq_false hs
          have HSTR := Lib.hid hstr; clear hs hstr HST
          go_wp2
          go_roundw
          case rel => exact ⟨m, k + 1, l', _, cc, by simp, rfl, by omega, by omega, by omega, by omega, HW, HO1, HB1, Lib.hid (by rw [← HT.out, tidF_go hlt HSTR.out])⟩
          case measure => simp [intOf, sLen]; omega
    · have hlt1 : ¬ (k : Int) + 1 < (l'.length : Int) := by omega
      have hE := HT.out
      rw [tidF_stop hlt] at hE
      have hP : PtsAt wr (.slice pp l'.length cc) (tidF l.length 1 l) := by rw [← hE]; exact HO.out.pts
      have HP := Lib.hid hP; clear hP hE
      go_wp2
      go_ret2
      exact ⟨_, rfl, HP.out, HB.out⟩
end Go.Proofs.YtbamcfhmkohbmaaGreatDoor

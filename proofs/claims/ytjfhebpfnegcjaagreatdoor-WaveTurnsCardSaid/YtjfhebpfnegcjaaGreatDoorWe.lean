/-
  Waves: Flip, Mirror of the reference. Waves: Tidy of the reference.
-/
import Derived.Test.YtjfhebpfnegcjaaGreatDoorWv8
import Derived.Deep.AppendLies
import Derived.Deep.RegionHeld3
import Derived.Test.YtjfhebpfnegcjaaGreatDoorWv9
set_option linter.unusedVariables false
set_option linter.unusedSimpArgs false
namespace Lum
open Go Go.RowKit Go.Shelf
open Go.Lib (decDigits itoa)
/-- append(s, p), one point, at a step of a region that draws. -/
theorem step_appP {P : Program} {ops : Array Oper} {o : Oper} {a : Act} {K : Act → World → Prop} {Q : Exit → Act → World → Prop} {E : Prop} (hgd : o.guard = none) (s x : Operand) (t : TypeId)
    (ho : o.op = .call { callee := .builtin .append, args := #[s, x], argTypes := #[t, t] })
    (base : Nat) (e : TypeId) (i : TypeInfo) (z : Value) (bytes : Nat) (ht : P.underlying t = some (.slice e)) (hi : P.info? e = some i) (hz : i.zero = some z)
    (hsize : i.size = 2) (hby : i.bytes = bytes) (hzs : z.cells.size = 2) (hbs : bytes ≤ 32)
    (p : Option Addr) (c : Nat) (l : List (Int × Int)) (n : Nat) (hln : n = l.length) (W : World) (y : Int × Int) (hs : a.eval s = .slice p n c) (hown : OwnP base e W p c l)
    (hx : a.eval x = .slice (some ⟨W.heap.size, 0, none⟩) 1 1)
    (hn : l.length < 1000000000) (hbase : base ≤ W.heap.size)
    (h : ∀ p' c' w', OwnP base e w' p' c' (l ++ [y]) → Below base (W.alloc (.cells #[.int .i64 y.1, .int .i64 y.2] e)) w' → K (a.put o.dst (.slice p' (n + 1) c')) w') :
    if Region.wanted o (yielded ops a.tmps) = true then Oper.wp P o a (W.alloc (.cells #[.int .i64 y.1, .int .i64 y.2] e)) K Q else E := by
  subst hln
  refine step_append_lies _ hgd s x t ho base e i z 2 bytes ht hi hz hsize hby hzs (by decide) _ _ _ hs (World.ownsRow.alloc hown _) ⟨W.heap.size, 0, none⟩ 1 1 [.int .i64 y.1, .int .i64 y.2] hx rfl
    (fun j u hu => by rw [addr_add, Nat.zero_add, World.cell?_alloc_new]; simpa using hu) (by simp [Value.oneCell']) (by decide) (by unfold maxLen; omega) ?_ (by rw [World.size_alloc]; omega) _ rfl ?_
  · have : (l.length + 1) * bytes ≤ 1000000001 * 32 := Nat.mul_le_mul (by omega) hbs
    omega
  · intro g cap w' hown' hgrow _ _
    refine h _ cap w' ?_ ?_
    · unfold OwnP
      rw [List.length_append, ptCells_snoc]; exact hown'
    · refine (Below.refl base _).grown hgrow (by rw [World.size_alloc]; omega) ?_
      intro k hk
      cases p with
      | none => simp [Value.ownBlock] at hk
      | some ad => simp [Value.ownBlock] at hk; subst hk; exact (hown.lt ad rfl).1

theorem take_snocP {l : List (Int × Int)} {k : Nat} (h : k < l.length) : l.take (k + 1) = l.take k ++ [(pX l k, pY l k)] := by
  rw [List.take_succ_eq_append_getElem h, pt_at h]
theorem bTr {B : Nat} {w W W' : World} {R : Prop} (h : Below B w W ∧ R) (h2 : Below B W W') : Below B w W' := h.1.trans h2
theorem bTc {w W W' : World} {R : Prop} (h : Below w.heap.size w W ∧ R) (h2 : Below W.heap.size W W') : Below w.heap.size w W' := bch' h.1 h2
theorem bAl {w W : World} {R : Prop} (h : Below w.heap.size w W ∧ R) (o : Obj) : Below w.heap.size w (W.alloc o) := h.1.alloc h.1.size o
end Lum
namespace Go.Proofs.YtjfhebpfnegcjaaGreatDoor
open Go.RowKit Go.Shelf Lum
open Go.Lib (decDigits itoa)
attribute [local go_sem] bs_get bs_extract_end bs_extract_from bs_extract bs_append

set_option maxRecDepth 100000 in
set_option maxHeartbeats 4000000 in
theorem r27_flip (l : List (Int × Int)) (v : Value) (w : World) (hv : PtsAt w v l) (hn : l.length ≤ 1000000000) :
    Calls Tryz.prog 29 #[v] w fun e w' => ∃ v', e = .returned (.tuple #[v', .int .i64 (wvE l)]) ∧ PtsAt w' v' (onlyR l (flipL l)) ∧ Below w.heap.size w w' := by
  have hk := r27_check l v w hv hn
  have HB := Lib.hid (Below.refl w.heap.size w)
  by_cases hz : wvE l = 0
  · rw [onlyR_ok hz]
    rw [hz] at hk ⊢
    have wv := wvE_zero hz
    have hhi := wv.hi
    have hlo := wv.lo
    obtain ⟨p, c, rfl, hv2⟩ := hv
    obtain ⟨b, o, rfl, hb, hc⟩ := hv2 (fun h => by subst h; simp at hlo)
    clear hv2
    replace hc : PtC w b o l := hc
    have HC := Lib.hid hc; clear hc
    have HK := Lib.hid hk; clear hk
    have HZ := Lib.hid hz; clear hz
    obtain ⟨i0, hi, hz0, hz1, hz2⟩ := info_parts info_pt
    skip
    go_enter Tryz.func29, Tryz.ntmps29
    go_wp2_with ((with_reducible refine ((HK.out).mono ?_); rintro e w1 ⟨rfl, hb1⟩; replace HB := Lib.hid hb1; clear hb1))
    go_loopw [5, 6] (fun s i wr => ∃ (k : Nat) (r : Int) (pp : Option Addr) (cc n : Nat), i = .int .i64 (k : Int) ∧ s = .slice pp n cc ∧ n = k ∧ k ≤ l.length ∧ r = 0 ∧ Hid (OwnP w.heap.size 51 wr pp cc ((flipL l).take k)) ∧ Hid (Below w.heap.size w wr)) (fun _ i _ => l.length - (intOf i).toNat)
    case atStart => exact ⟨0, _, none, 0, 0, rfl, rfl, rfl, by omega, rfl, Lib.hid (OwnP.nil _ _ _), HB⟩
    case round =>
      obtain ⟨k, r, pp, cc, n, rfl, rfl, hnk, hk, hr, HO, HBW⟩ := hrel
      by_cases hlt : k < l.length
      · have hlt1 : (k : Int) < (l.length : Int) := by omega
        skip
        have hml : k < l.length := by omega
        have hml1 : (k : Int) < (l.length : Int) := by omega
        obtain ⟨x1, y1⟩ := HC.out k hml
        have hY := wv.h k hml
        have hX := wv.range hml
        have hng : IntKind.i64.wrap (-pY l k) = -pY l k := IntWalk.i64_in _ (by omega)
        have hsn : (flipL l).take (k + 1) = (flipL l).take k ++ [(pX l k, -pY l k)] := by
          rw [take_snocP (by rw [flipL_length]; exact hlt), pX_flip, pY_flip]
        have hun : IntKind.i64.wrap ((k : Int) + 1) = (k : Int) + 1 := IntWalk.i64_in _ (by omega)
        have hbr : b < wr.heap.size := by have := HBW.out.size; omega
        have hln : n = ((flipL l).take k).length := by rw [List.length_take, flipL_length]; omega
        have HSN := Lib.hid hsn; clear hsn
        have HLN := Lib.hid hln; clear hln
        have HR := Lib.hid hr; have HNK := Lib.hid hnk
        clear hY hX hr hnk
        have HO2 := Lib.hid (HO.out.keep (Below.refl _ wr).drew)
        have HB2 := Lib.hid HBW.out.drew
        generalize pX l k = X1 at *
        generalize pY l k = Y1 at *
        generalize (flipL l).take k = L at *
        have hmk : ∀ W', Below w.heap.size w W' → Below w.heap.size w W' ∧ W'.cell? ⟨b, o + k * 2, none⟩ = some (.int .i64 X1) ∧ W'.cell? ⟨b, o + k * 2 + 1, none⟩ = some (.int .i64 Y1) := fun W' h => ⟨h, (h.cell (p := ⟨b, o + k * 2, none⟩) hb).trans x1, (h.cell (p := ⟨b, o + k * 2 + 1, none⟩) hb).trans y1⟩
        have HMK := Lib.hid hmk
        clear x1 y1 hmk
        go_wp2
        go_region_held3 (fun W' => Below w.heap.size w W' ∧ W'.cell? ⟨b, o + k * 2, none⟩ = some (.int .i64 X1) ∧ W'.cell? ⟨b, o + k * 2 + 1, none⟩ = some (.int .i64 Y1)) (first | assumption | exact HMK.out _ HB2.out | exact HMK.out _ (bAl (by assumption) _) | exact HMK.out _ (bTr (by assumption) (by assumption)))
          ((refine step_appP (by rfl) _ _ 22 (by rfl) w.heap.size 51 i0 (.agg #[.int .i64 0, .int .i64 0]) 16 Tryz.underlying22 hi hz0 hz1 hz2 rfl (by decide) pp cc L _ HLN.out wr.drew (X1, -Y1) (by rfl) HO2.out (by rfl) (by rw [← HLN.out]; have := HNK.out; omega) HB2.out.size ?_; intro p1 c1 w3 hO3 hb3; have HO3 := Lib.hid hO3; clear hO3))
        go_wp2
        go_roundw
        case rel => exact ⟨k + 1, _, p1, c1, n + 1, by first | rfl | simp, rfl, by have := HNK.out; omega, by omega, HR.out, Lib.hid (by rw [HSN.out]; exact HO3.out), Lib.hid (And.left (by assumption))⟩
        case measure => first | (simp [intOf]; done) | (simp [intOf]; omega)
      · have hlt1 : ¬ (k : Int) < (l.length : Int) := by omega
        obtain rfl : k = l.length := by omega
        have hO := HO.out
        rw [List.take_of_length_le (by rw [flipL_length]; exact Nat.le_refl _)] at hO
        clear HO
        have hln : n = (flipL l).length := by rw [flipL_length]; exact hnk
        have HO := Lib.hid hO; have HLN := Lib.hid hln
        clear hO hln hnk hr hk
        go_wp2
        go_ret2
        exact ⟨_, rfl, by rw [HLN.out]; exact HO.out.pts, HBW.out⟩
  · rw [onlyR_no hz]
    have hne : ((wvE l : Int) != 0) = true := by simpa using hz
    clear hz
    obtain ⟨p, c, rfl, -⟩ := hv
    have HK := Lib.hid hk; clear hk
    generalize wvE l = m at *
    go_enter Tryz.func29, Tryz.ntmps29
    go_wp2_with ((with_reducible refine ((HK.out).mono ?_)); rintro e w' ⟨rfl, hb1⟩; replace HB := Lib.hid hb1; clear hb1)
    go_ret2
    exact ⟨_, rfl, pts_nil _, HB.out⟩

set_option maxRecDepth 100000 in
set_option maxHeartbeats 4000000 in
theorem r27_mirror (l : List (Int × Int)) (v : Value) (w : World) (hv : PtsAt w v l) (hn : l.length ≤ 1000000000) :
    Calls Tryz.prog 31 #[v] w fun e w' => ∃ v', e = .returned (.tuple #[v', .int .i64 (wvE l)]) ∧ PtsAt w' v' (onlyR l (mirL l)) ∧ Below w.heap.size w w' := by
  have hk := r27_check l v w hv hn
  have HB := Lib.hid (Below.refl w.heap.size w)
  by_cases hz : wvE l = 0
  · rw [onlyR_ok hz]
    rw [hz] at hk ⊢
    have wv := wvE_zero hz
    have hhi := wv.hi
    have hlo := wv.lo
    obtain ⟨p, c, rfl, hv2⟩ := hv
    obtain ⟨b, o, rfl, hb, hc⟩ := hv2 (fun h => by subst h; simp at hlo)
    clear hv2
    replace hc : PtC w b o l := hc
    have HC := Lib.hid hc; clear hc
    have HK := Lib.hid hk; clear hk
    have HZ := Lib.hid hz; clear hz
    obtain ⟨i0, hi, hz0, hz1, hz2⟩ := info_parts info_pt
    have el1 : IntKind.i64.wrap ((l.length : Int) - 1) = (l.length : Int) - 1 := IntWalk.i64_in _ (by omega)
    go_enter Tryz.func31, Tryz.ntmps31
    go_wp2_with ((with_reducible refine ((HK.out).mono ?_); rintro e w1 ⟨rfl, hb1⟩; replace HB := Lib.hid hb1; clear hb1))
    go_loopw [5, 6] (fun s i wr => ∃ (k : Nat) (r : Int) (pp : Option Addr) (cc n : Nat), i = .int .i64 r ∧ s = .slice pp n cc ∧ n = k ∧ k ≤ l.length ∧ r = (l.length : Int) - 1 - (k : Int) ∧ Hid (OwnP w.heap.size 51 wr pp cc ((mirL l).take k)) ∧ Hid (Below w.heap.size w wr)) (fun _ i _ => (intOf i + 1).toNat)
    case atStart => exact ⟨0, _, none, 0, 0, rfl, rfl, rfl, by omega, by simp, Lib.hid (OwnP.nil _ _ _), HB⟩
    case round =>
      obtain ⟨k, r, pp, cc, n, rfl, rfl, hnk, hk, hr, HO, HBW⟩ := hrel
      by_cases hlt : k < l.length
      · obtain ⟨m, rfl⟩ : ∃ m : Nat, r = m := ⟨r.toNat, by omega⟩
        have hlt1 : (0 : Int) ≤ (m : Int) := by omega
        have hml : m < l.length := by omega
        have hml1 : (m : Int) < (l.length : Int) := by omega
        obtain ⟨x1, y1⟩ := HC.out m hml
        have hY := wv.h m hml
        have hX := wv.range hml
        have hng : IntKind.i64.wrap (1000 - pX l m) = 1000 - pX l m := IntWalk.i64_in _ (by omega)
        have hsn : (mirL l).take (k + 1) = (mirL l).take k ++ [(1000 - pX l m, pY l m)] := by
          rw [take_snocP (by rw [mirL_length]; exact hlt), pX_mir l hlt, pY_mir l hlt, show l.length - 1 - k = m by omega]
        have hun : IntKind.i64.wrap ((m : Int) - 1) = (m : Int) - 1 := IntWalk.i64_in _ (by omega)
        have hbr : b < wr.heap.size := by have := HBW.out.size; omega
        have hln : n = ((mirL l).take k).length := by rw [List.length_take, mirL_length]; omega
        have HSN := Lib.hid hsn; clear hsn
        have HLN := Lib.hid hln; clear hln
        have HR := Lib.hid hr; have HNK := Lib.hid hnk
        clear hY hX hr hnk
        have HO2 := Lib.hid (HO.out.keep (Below.refl _ wr).drew)
        have HB2 := Lib.hid HBW.out.drew
        generalize pX l m = X1 at *
        generalize pY l m = Y1 at *
        generalize (mirL l).take k = L at *
        have hmk : ∀ W', Below w.heap.size w W' → Below w.heap.size w W' ∧ W'.cell? ⟨b, o + m * 2, none⟩ = some (.int .i64 X1) ∧ W'.cell? ⟨b, o + m * 2 + 1, none⟩ = some (.int .i64 Y1) := fun W' h => ⟨h, (h.cell (p := ⟨b, o + m * 2, none⟩) hb).trans x1, (h.cell (p := ⟨b, o + m * 2 + 1, none⟩) hb).trans y1⟩
        have HMK := Lib.hid hmk
        clear x1 y1 hmk
        go_wp2
        go_region_held3 (fun W' => Below w.heap.size w W' ∧ W'.cell? ⟨b, o + m * 2, none⟩ = some (.int .i64 X1) ∧ W'.cell? ⟨b, o + m * 2 + 1, none⟩ = some (.int .i64 Y1)) (first | assumption | exact HMK.out _ HB2.out | exact HMK.out _ (bAl (by assumption) _) | exact HMK.out _ (bTr (by assumption) (by assumption)))
          ((refine step_appP (by rfl) _ _ 22 (by rfl) w.heap.size 51 i0 (.agg #[.int .i64 0, .int .i64 0]) 16 Tryz.underlying22 hi hz0 hz1 hz2 rfl (by decide) pp cc L _ HLN.out wr.drew (1000 - X1, Y1) (by rfl) HO2.out (by rfl) (by rw [← HLN.out]; have := HNK.out; omega) HB2.out.size ?_; intro p1 c1 w3 hO3 hb3; have HO3 := Lib.hid hO3; clear hO3))
        go_wp2
        go_roundw
        case rel => exact ⟨k + 1, _, p1, c1, n + 1, by first | rfl | simp, rfl, by have := HNK.out; omega, by omega, by have := HR.out; omega, Lib.hid (by rw [HSN.out]; exact HO3.out), Lib.hid (And.left (by assumption))⟩
        case measure => first | (simp [intOf]; done) | (simp [intOf]; omega)
      · have hlt1 : ¬ (0 : Int) ≤ r := by omega
        obtain rfl : k = l.length := by omega
        have hO := HO.out
        rw [List.take_of_length_le (by rw [mirL_length]; exact Nat.le_refl _)] at hO
        clear HO
        have hln : n = (mirL l).length := by rw [mirL_length]; exact hnk
        have HO := Lib.hid hO; have HLN := Lib.hid hln
        clear hO hln hnk hr hk
        go_wp2
        go_ret2
        exact ⟨_, rfl, by rw [HLN.out]; exact HO.out.pts, HBW.out⟩
  · rw [onlyR_no hz]
    have hne : ((wvE l : Int) != 0) = true := by simpa using hz
    clear hz
    obtain ⟨p, c, rfl, -⟩ := hv
    have HK := Lib.hid hk; clear hk
    generalize wvE l = m at *
    go_enter Tryz.func31, Tryz.ntmps31
    go_wp2_with ((with_reducible refine ((HK.out).mono ?_)); rintro e w' ⟨rfl, hb1⟩; replace HB := Lib.hid hb1; clear hb1)
    go_ret2
    exact ⟨_, rfl, pts_nil _, HB.out⟩
end Go.Proofs.YtjfhebpfnegcjaaGreatDoor
namespace Lum
open Go Go.RowKit Go.Shelf
open Go.Lib (decDigits itoa)
/-- append(s, q...), points of which there is one at least, at a step of a region that draws. -/
theorem step_appsP {P : Program} {ops : Array Oper} {o : Oper} {a : Act} {K : Act → World → Prop} {Q : Exit → Act → World → Prop} {E : Prop} (hgd : o.guard = none) (s x : Operand) (t : TypeId)
    (ho : o.op = .call { callee := .builtin .append, args := #[s, x], argTypes := #[t, t] })
    (base : Nat) (e : TypeId) (i : TypeInfo) (z : Value) (bytes : Nat) (ht : P.underlying t = some (.slice e)) (hi : P.info? e = some i) (hz : i.zero = some z)
    (hsize : i.size = 2) (hby : i.bytes = bytes) (hzs : z.cells.size = 2) (hbs : bytes ≤ 32)
    (p : Option Addr) (c : Nat) (l : List (Int × Int)) (n : Nat) (hln : n = l.length) (W : World) (hs : a.eval s = .slice p n c) (hown : OwnP base e W p c l)
    (b of m c2 : Nat) (l2 : List (Int × Int)) (hx : a.eval x = .slice (some ⟨b, of, none⟩) m c2) (hm : m = l2.length) (hne : 0 < m) (hc : ∀ (j : Nat) (u : Value), (ptCells l2)[j]? = some u → W.cell? ⟨b, of + j, none⟩ = some u)
    (hn : l.length + l2.length < 1000000000) (hbase : base ≤ W.heap.size)
    (h : ∀ p' c' N w', N = (l ++ l2).length → OwnP base e w' p' c' (l ++ l2) → Below base W w' → K (a.put o.dst (.slice p' N c')) w') :
    if Region.wanted o (yielded ops a.tmps) = true then Oper.wp P o a W K Q else E := by
  subst hln hm
  refine step_append_lies _ hgd s x t ho base e i z 2 bytes ht hi hz hsize hby hzs (by decide) _ _ _ hs hown ⟨b, of, none⟩ l2.length c2 (ptCells l2) hx (ptCells_length l2)
    (fun j u hu => by rw [addr_add]; exact hc j u hu) (by
      intro u hu
      unfold ptCells at hu
      rw [List.mem_flatMap] at hu
      obtain ⟨q, -, hq⟩ := hu
      simp at hq; rcases hq with rfl | rfl <;> rfl) hne (by unfold maxLen; omega) ?_ hbase _ rfl ?_
  · have : (l.length + l2.length) * bytes ≤ 1000000000 * 32 := Nat.mul_le_mul (by omega) hbs
    omega
  · intro g cap w' hown' hgrow _ _
    refine h _ cap _ w' (by rw [List.length_append]) ?_ ?_
    · unfold OwnP
      rw [List.length_append, ptCells_append]; exact hown'
    · refine (Below.refl base _).grown hgrow hbase ?_
      intro k hk
      cases p with
      | none => simp [Value.ownBlock] at hk
      | some ad => simp [Value.ownBlock] at hk; subst hk; exact (hown.lt ad rfl).1
theorem bSz {w W : World} {R : Prop} (h : Below w.heap.size w W ∧ R) : w.heap.size ≤ W.heap.size := h.1.size
theorem OwnP.ptsN {base e : Nat} {W : World} {p : Option Addr} {c N : Nat} {l : List (Int × Int)} (h : OwnP base e W p c l) (hN : N = l.length) : PtsAt W (.slice p N c) l := by subst hN; exact h.pts
theorem OwnP.capN {base e : Nat} {W : World} {p : Option Addr} {c N : Nat} {l : List (Int × Int)} (h : OwnP base e W p c l) (hN : N = l.length) (hn : l ≠ []) : N ≤ c := by
  obtain ⟨g, _, _, _, h5, _⟩ := h.open_ hn
  omega
theorem PtC.takeC {W : World} {b o : Nat} {l : List (Int × Int)} (h : PtC W b o l) (k : Nat) (j : Nat) (u : Value) (hu : (ptCells (l.take k))[j]? = some u) : W.cell? ⟨b, o + j, none⟩ = some u := by
  refine h.cells j u ?_
  have e : ptCells l = ptCells (l.take k) ++ ptCells (l.drop k) := by rw [← ptCells_append, List.take_append_drop]
  rw [e, List.getElem?_append_left (List.getElem?_eq_some_iff.1 hu).1]; exact hu
theorem PtC.dropC {W : World} {b o : Nat} {l : List (Int × Int)} (h : PtC W b o l) {k : Nat} (hk : k ≤ l.length) (j : Nat) (u : Value) (hu : (ptCells (l.drop k))[j]? = some u) : W.cell? ⟨b, o + k * 2 + j, none⟩ = some u := by
  have hl : (ptCells (l.take k)).length = k * 2 := by rw [ptCells_length, List.length_take, Nat.min_eq_left hk]
  have := h.cells (k * 2 + j) u (by
    have e : ptCells l = ptCells (l.take k) ++ ptCells (l.drop k) := by rw [← ptCells_append, List.take_append_drop]
    rw [e, List.getElem?_append_right (by omega), hl, show k * 2 + j - k * 2 = j by omega]; exact hu)
  rwa [← Nat.add_assoc] at this
theorem OwnP.empty {base e : Nat} {W : World} (hb : base ≤ W.heap.size) : OwnP base e (W.alloc (.cells #[] e)) (some ⟨W.heap.size, 0, none⟩) 0 [] := by
  refine ⟨rfl, .inr ⟨W.heap.size, 0, #[], rfl, hb, heap_alloc_new W _, by simp, by unfold maxLen; omega, by simp, rfl⟩⟩
theorem firstS_hit {l : List (Int × Int)} {n k : Nat} (h : k + 1 < l.length) (hs : strtAt l k = true) : firstS l (n + 1) k = some k := by rw [firstS, if_pos h, if_pos hs]
theorem firstS_go {l : List (Int × Int)} {n k : Nat} (h : k + 1 < l.length) (hs : strtAt l k = false) : firstS l (n + 1) k = firstS l n (k + 1) := by rw [firstS, if_pos h, if_neg (by rw [hs]; simp)]
theorem firstS_end {l : List (Int × Int)} {n k : Nat} (h : ¬ k + 1 < l.length) : firstS l n k = none := by
  cases n with
  | zero => rfl
  | succ n => rw [firstS, if_neg h]
theorem tidR_none {m : Nat} {l : List (Int × Int)} (h : firstS l l.length 1 = none) : tidR m l = l := by
  cases m with
  | zero => rfl
  | succ m => rw [tidR, h]
theorem tidR_some {m k : Nat} {l : List (Int × Int)} (h : firstS l l.length 1 = some k) : tidR (m + 1) l = tidR m (l.eraseIdx k) := by rw [tidR, h]
end Lum
namespace Go.Proofs.YtjfhebpfnegcjaaGreatDoor
open Go.RowKit Go.Shelf Lum
open Go.Lib (decDigits itoa)
attribute [local go_sem] bs_get bs_extract_end bs_extract_from bs_extract bs_append

set_option maxRecDepth 100000 in
set_option maxHeartbeats 4000000 in
theorem r27_straight (x0 y0 x1 y1 x2 y2 : Int) (w : World) (hx : ∀ x ∈ [x0, x1, x2], 0 ≤ x ∧ x ≤ 1000) (hy : ∀ y ∈ [y0, y1, y2], -1000 ≤ y ∧ y ≤ 1000) (h1 : x0 ≤ x1) (h2 : x1 ≤ x2) :
    Calls Tryz.prog 100 #[.agg #[.int .i64 x0, .int .i64 y0], .agg #[.int .i64 x1, .int .i64 y1], .agg #[.int .i64 x2, .int .i64 y2]] w fun e w' => e = .returned (.bool (strt (x0, y0) (x1, y1) (x2, y2))) ∧ Below w.heap.size w w' := by
  have a0 := hx x0 (by simp); have a1 := hx x1 (by simp); have a2 := hx x2 (by simp)
  have b0 := hy y0 (by simp); have b1 := hy y1 (by simp); have b2 := hy y2 (by simp)
  clear hx hy
  have e1 : IntKind.i64.wrap (y1 - y0) = y1 - y0 := IntWalk.i64_in _ (by omega)
  have e2 : IntKind.i64.wrap (x2 - x0) = x2 - x0 := IntWalk.i64_in _ (by omega)
  have e3 : IntKind.i64.wrap (y2 - y0) = y2 - y0 := IntWalk.i64_in _ (by omega)
  have e4 : IntKind.i64.wrap (x1 - x0) = x1 - x0 := IntWalk.i64_in _ (by omega)
  have m1 := mul_2m (a := y1 - y0) (b := x2 - x0) (by omega) (by omega) (by omega) (by omega)
  have m2 := mul_2m (a := y2 - y0) (b := x1 - x0) (by omega) (by omega) (by omega) (by omega)
  have e5 : IntKind.i64.wrap ((y1 - y0) * (x2 - x0)) = (y1 - y0) * (x2 - x0) := IntWalk.i64_in _ (by omega)
  have e6 : IntKind.i64.wrap ((y2 - y0) * (x1 - x0)) = (y2 - y0) * (x1 - x0) := IntWalk.i64_in _ (by omega)
  have hb := ((((Below.refl w.heap.size w).alloc (Nat.le_refl _) (.cells #[.int .i64 x0, .int .i64 y0] 51)).alloc (by simp) (.cells #[.int .i64 x1, .int .i64 y1] 51)).alloc (by simp; omega) (.cells #[.int .i64 x2, .int .i64 y2] 51))
  have HB := Lib.hid hb; clear hb
  have hst : strt (x0, y0) (x1, y1) (x2, y2) = decide ((y1 - y0) * (x2 - x0) = (y2 - y0) * (x1 - x0)) := rfl
  rw [hst]
  clear hst a0 a1 a2 b0 b1 b2 m1 m2 h1 h2
  go_enter Tryz.func100, Tryz.ntmps100
  go_wp2
  go_ret
  exact ⟨by first | rfl | simp [BEq.beq], HB.out⟩

set_option maxRecDepth 100000 in
set_option maxHeartbeats 8000000 in
theorem r27_tidied : ∀ (m : Nat) (l : List (Int × Int)) (v : Value) (w : World), l.length ≤ m + 2 → PtsAt w v l → (∃ p n c, v = .slice p n c ∧ n = l.length ∧ n ≤ c) → Wv l →
    Calls Tryz.prog 67 #[v] w fun e w' => ∃ v', e = .returned v' ∧ PtsAt w' v' (tidR m l) ∧ Below w.heap.size w w' := by
  intro m
  induction m with
  | zero =>
    intro l v w hlm hv _ wv
    have hv0 := hv
    obtain ⟨p, c, rfl, -⟩ := hv
    have h1 : ¬ (2 : Int) < (l.length : Int) := by omega
    have HV := Lib.hid hv0; clear hv0 wv hlm
    go_enter Tryz.func67, Tryz.ntmps67
    go_wp2
    go_loopw [3] (fun i wr => i = .int .i64 1 ∧ wr = w) (fun i _ => 0)
    case atStart => exact ⟨rfl, rfl⟩
    case round =>
      obtain ⟨rfl, rfl⟩ := hrel
      go_wp2
      go_ret
      exact ⟨_, rfl, HV.out, Below.refl _ _⟩
  | succ m ih =>
    intro l v w hlm hv hcp wv
    have hv0 := hv
    have hlo := wv.lo
    have hhi := wv.hi
    obtain ⟨p, c, rfl, hv2⟩ := hv
    obtain ⟨b, o, rfl, hb, hc⟩ := hv2 (fun h => by subst h; simp at hlo)
    clear hv2
    have hkc : l.length ≤ c := by
      obtain ⟨_, _, _, e, e2, e3⟩ := hcp
      injection e with e4 e5 e6
      omega
    clear hcp
    replace hc : PtC w b o l := hc
    have HC := Lib.hid hc; clear hc
    have HV := Lib.hid hv0; clear hv0
    have WV := Lib.hid wv; clear wv
    have IH := Lib.hid ih; clear ih
    have hmx : Tryz.prog.follows .mixedOrders = true := by kernel_rfl
    obtain ⟨i0, hi, hz0, hz1, hz2⟩ := info_parts info_pt
    go_enter Tryz.func67, Tryz.ntmps67
    go_wp2
    go_loopw [3] (fun i wr => ∃ k r : Nat, i = .int .i64 (k : Int) ∧ 1 ≤ k ∧ k ≤ l.length ∧ Hid (k + r = l.length + 1) ∧ Hid (firstS l r k = firstS l l.length 1) ∧ Hid (Below w.heap.size w wr)) (fun i _ => l.length - (intOf i).toNat)
    case atStart => exact ⟨1, l.length, rfl, by omega, by omega, Lib.hid (by omega), Lib.hid rfl, Lib.hid (Below.refl _ _)⟩
    case round =>
      obtain ⟨k, r, rfl, hk1, hkl, hkr, HF, HBW⟩ := hrel
      have hun : IntKind.i64.wrap ((k : Int) + 1) = (k : Int) + 1 := IntWalk.i64_in _ (by omega)
      by_cases hlt : k + 1 < l.length
      · have hlt1 : (k : Int) + 1 < (l.length : Int) := by omega
        obtain ⟨r, rfl⟩ : ∃ r', r = r' + 1 := ⟨r - 1, by have := hkr.out; omega⟩
        obtain ⟨x0, y0⟩ := HC.out (k - 1) (by omega)
        obtain ⟨x1, y1⟩ := HC.out k (by omega)
        obtain ⟨x2, y2⟩ := HC.out (k + 1) (by omega)
        have hmk : ∀ W', Below w.heap.size w W' → Below w.heap.size w W' ∧ W'.cell? ⟨b, o + (k - 1) * 2, none⟩ = some (.int .i64 (pX l (k - 1))) ∧ W'.cell? ⟨b, o + (k - 1) * 2 + 1, none⟩ = some (.int .i64 (pY l (k - 1))) ∧ W'.cell? ⟨b, o + k * 2, none⟩ = some (.int .i64 (pX l k)) ∧ W'.cell? ⟨b, o + k * 2 + 1, none⟩ = some (.int .i64 (pY l k)) ∧ W'.cell? ⟨b, o + (k + 1) * 2, none⟩ = some (.int .i64 (pX l (k + 1))) ∧ W'.cell? ⟨b, o + (k + 1) * 2 + 1, none⟩ = some (.int .i64 (pY l (k + 1))) := fun W' h =>
          ⟨h, (h.cell (p := ⟨b, o + (k - 1) * 2, none⟩) hb).trans x0, (h.cell (p := ⟨b, o + (k - 1) * 2 + 1, none⟩) hb).trans y0, (h.cell (p := ⟨b, o + k * 2, none⟩) hb).trans x1, (h.cell (p := ⟨b, o + k * 2 + 1, none⟩) hb).trans y1, (h.cell (p := ⟨b, o + (k + 1) * 2, none⟩) hb).trans x2, (h.cell (p := ⟨b, o + (k + 1) * 2 + 1, none⟩) hb).trans y2⟩
        have HMK := Lib.hid hmk
        clear x0 x1 x2 y0 y1 y2 hmk
        have hst := fun W => r27_straight (pX l (k - 1)) (pY l (k - 1)) (pX l k) (pY l k) (pX l (k + 1)) (pY l (k + 1)) W
          (fun x hx => by simp at hx; rcases hx with rfl | rfl | rfl <;> exact WV.out.range (by omega)) (fun y hy => by simp at hy; rcases hy with rfl | rfl | rfl <;> exact WV.out.h _ (by omega)) (WV.out.mono (by omega) (by omega)) (WV.out.mono (by omega) (by omega))
        change ∀ W, Calls _ _ _ W (fun e w' => e = .returned (.bool (strtAt l k)) ∧ _) at hst
        have HST := Lib.hid hst; clear hst
        have hkk : IntKind.i64.wrap ((k : Int) - 1) = ((k - 1 : Nat) : Int) := by rw [IntWalk.i64_in _ (by omega)]; omega
        have hp0 : (0 : Int) ≤ (k : Int) + 1 := by omega
        have hpt : ((k : Int) + 1).toNat = k + 1 := by omega
        have hi1 : k - 1 < l.length := by omega
        have hi2 : k < l.length := by omega
        have hHK := Lib.hid hkc
        have hB4 := HBW.out.drew
        have HB4 := Lib.hid hB4; clear hB4
        cases hs : strtAt l k
        · have HS := Lib.hid hs
          rw [hs] at HST
          clear hs
          go_wp2
          go_region_held3 (fun W' => Below w.heap.size w W' ∧ W'.cell? ⟨b, o + (k - 1) * 2, none⟩ = some (.int .i64 (pX l (k - 1))) ∧ W'.cell? ⟨b, o + (k - 1) * 2 + 1, none⟩ = some (.int .i64 (pY l (k - 1))) ∧ W'.cell? ⟨b, o + k * 2, none⟩ = some (.int .i64 (pX l k)) ∧ W'.cell? ⟨b, o + k * 2 + 1, none⟩ = some (.int .i64 (pY l k)) ∧ W'.cell? ⟨b, o + (k + 1) * 2, none⟩ = some (.int .i64 (pX l (k + 1))) ∧ W'.cell? ⟨b, o + (k + 1) * 2 + 1, none⟩ = some (.int .i64 (pY l (k + 1)))) (first | assumption | exact HMK.out _ HB4.out | exact HMK.out _ (bTc (by assumption) (by assumption)))
            (first | (go_at_call 100; refine ((HST.out _).mono ?_); rintro e w4 ⟨rfl, hb4⟩))
          go_wp2
          go_roundw
          case rel => exact ⟨k + 1, r, by first | rfl | simp, by omega, by omega, Lib.hid (by have := hkr.out; omega), Lib.hid (by rw [← HF.out, firstS_go hlt HS.out]), Lib.hid (And.left (by assumption))⟩
          case measure => first | (simp [intOf]; done) | (simp [intOf]; omega)
        · have HS := Lib.hid hs
          rw [hs] at HST
          clear hs
          have hf : firstS l l.length 1 = some k := by rw [← HF.out, firstS_hit hlt HS.out]
          have HT : Hid (tidR (m + 1) l = tidR m (l.eraseIdx k)) := tidR_some hf
          clear hf
          go_wp2
          go_region_held3 (fun W' => Below w.heap.size w W' ∧ W'.cell? ⟨b, o + (k - 1) * 2, none⟩ = some (.int .i64 (pX l (k - 1))) ∧ W'.cell? ⟨b, o + (k - 1) * 2 + 1, none⟩ = some (.int .i64 (pY l (k - 1))) ∧ W'.cell? ⟨b, o + k * 2, none⟩ = some (.int .i64 (pX l k)) ∧ W'.cell? ⟨b, o + k * 2 + 1, none⟩ = some (.int .i64 (pY l k)) ∧ W'.cell? ⟨b, o + (k + 1) * 2, none⟩ = some (.int .i64 (pX l (k + 1))) ∧ W'.cell? ⟨b, o + (k + 1) * 2 + 1, none⟩ = some (.int .i64 (pY l (k + 1)))) (first | assumption | exact HMK.out _ HB4.out | exact HMK.out _ (bTc (by assumption) (by assumption)))
            (first | (go_at_call 100; refine ((HST.out _).mono ?_); rintro e w4 ⟨rfl, hb4⟩))
          have HW4 := Lib.hid (bch' HB4.out hb4)
          clear hb4 HB4 HMK HST
          have hle : (k : Int) + 1 ≤ (l.length : Int) := by omega
          have hkc : (k : Int) ≤ (c : Int) := by have := hHK.out; omega
          have hlc : (l.length : Int) ≤ (c : Int) := by have := hHK.out; omega
          have hkc2 : k ≤ c := by have := hHK.out; omega
          have hlc2 : l.length ≤ c := hHK.out
          have hne : ¬ c = k + 1 := by omega
          have hle2 : k + 1 ≤ l.length := by omega
          have hm0 : 0 < l.length - (k + 1) := by omega
          have HLL : Hid (([] ++ l.take k).length + (l.drop (k + 1)).length < 1000000000) := by show _ < _; rw [List.nil_append, List.length_take, List.length_drop]; omega
          have HL1 : Hid ((l.take k).length = k) := by rw [Hid, List.length_take]; omega
          have HL2 : Hid (l.length - (k + 1) = (l.drop (k + 1)).length) := by rw [Hid, List.length_drop]
          have HER : Hid (l.take k ++ l.drop (k + 1) = l.eraseIdx k) := (List.eraseIdx_eq_take_drop_succ l k).symm
          have HEL : Hid ((l.eraseIdx k).length = l.length - 1) := List.length_eraseIdx_of_lt hi2
          have HWV := Lib.hid (WV.out.erase hk1 hlt)
          have HLM := Lib.hid hlm
          have HC4 := Lib.hid (HC.out.below HW4.out hb)
          go_wp2
          go_region_held3 (fun W' => Below w.heap.size w W' ∧ True) (first | assumption | exact ⟨HW4.out.drew, trivial⟩ | exact ⟨bAl (by assumption) _, trivial⟩ | exact ⟨bTr (by assumption) (by assumption), trivial⟩ | exact ⟨bTc (by assumption) (by assumption), trivial⟩)
            (first | ((refine step_appsP (by rfl) _ _ 22 (by rfl) w.heap.size 51 i0 (.agg #[.int .i64 0, .int .i64 0]) 16 Tryz.underlying22 hi hz0 hz1 hz2 rfl (by decide) (some ⟨w4.heap.size, 0, none⟩) 0 [] 0 rfl _ (by rfl) (OwnP.empty (W := w4.drew) (by have := HW4.out.size; exact this)) b _ _ _ (l.take k) (by rfl) HL1.out.symm hk1 (fun j u hu => (HC.out.below (HW4.out.drew.alloc (by have := HW4.out.size; exact this) _) hb).takeC k j u hu) (by rw [List.length_take]; simp; omega) (bSz (by assumption)) ?_; intro p5 c5 N5 w5 hN5 hO5 hb5; have HB5 : Hid (Below w.heap.size w w5) := bTr (by assumption) hb5; have HO5 := Lib.hid hO5; have HN5 := Lib.hid hN5; clear hO5 hN5)) | ((refine step_appsP (by rfl) _ _ 22 (by rfl) w.heap.size 51 i0 (.agg #[.int .i64 0, .int .i64 0]) 16 Tryz.underlying22 hi hz0 hz1 hz2 rfl (by decide) p5 c5 ([] ++ l.take k) _ HN5.out _ (by rfl) HO5.out b _ _ _ (l.drop (k + 1)) (by rfl) HL2.out hm0 (fun j u hu => (HC.out.below HB5.out hb).dropC hle2 j u hu) HLL.out HB5.out.size ?_; intro p6 c6 N6 w6 hN6 hO6 hb6; have HO6 := Lib.hid hO6; have HN6 := Lib.hid hN6; clear hO6 hN6)) | (go_at_call 67; refine (IH.out ([] ++ l.take k ++ l.drop (k + 1)) _ _ (by rw [List.nil_append, HER.out, HEL.out]; have := HLM.out; omega) (HO6.out.ptsN HN6.out) ⟨_, _, _, rfl, HN6.out, HO6.out.capN HN6.out (by rw [List.nil_append, HER.out]; intro h; have := HWV.out.lo; rw [h] at this; simp at this)⟩ (by rw [List.nil_append, HER.out]; exact HWV.out)).mono ?_; rintro e w7 ⟨v7, rfl, hv7, hb7⟩; have HV7 := Lib.hid hv7; clear hv7))
          go_wp2
          go_ret
          exact ⟨_, rfl, by rw [HT.out, ← HER.out]; exact HV7.out, And.left (by assumption)⟩
      · have hlt1 : ¬ (k : Int) + 1 < (l.length : Int) := by omega
        have hf : firstS l l.length 1 = none := by rw [← HF.out, firstS_end hlt]
        have HT : Hid (tidR (m + 1) l = l) := tidR_none hf
        have HV' := Lib.hid (PtsAt.below HV.out HBW.out)
        clear hf
        go_wp2
        go_ret
        exact ⟨_, rfl, by rw [HT.out]; exact HV'.out, HBW.out⟩

set_option maxRecDepth 100000 in
set_option maxHeartbeats 4000000 in
theorem r27_tidy (l : List (Int × Int)) (v : Value) (w : World) (hv : PtsAt w v l) (hcap : ∃ p n c, v = .slice p n c ∧ n = l.length ∧ n ≤ c) (hn : l.length ≤ 1000000000) :
    Calls Tryz.prog 32 #[v] w fun e w' => ∃ v', e = .returned (.tuple #[v', .int .i64 (wvE l)]) ∧ PtsAt w' v' (onlyR l (tidR l.length l)) ∧ Below w.heap.size w w' := by
  have hk := r27_check l v w hv hn
  have HB := Lib.hid (Below.refl w.heap.size w)
  by_cases hz : wvE l = 0
  · rw [onlyR_ok hz]
    rw [hz] at hk ⊢
    have ht := fun W (h : PtsAt W v l) => r27_tidied l.length l v W (by omega) h hcap (wvE_zero hz)
    have HV := Lib.hid hv; have HK := Lib.hid hk; have HT := Lib.hid ht
    clear hv hk ht hz
    go_enter Tryz.func32, Tryz.ntmps32
    go_wp2_with (first | (with_reducible refine ((HK.out).mono ?_); rintro e w1 ⟨rfl, hb1⟩; replace HV := Lib.hid (PtsAt.below HV.out hb1); replace HB := Lib.hid hb1; clear hb1) | (with_reducible refine ((HT.out _ HV.out).mono ?_); rintro e w2 ⟨v2, rfl, hv2, hb2⟩; have HV2 := Lib.hid hv2; replace HB := Lib.hid (bch' HB.out hb2); clear hb2 hv2))
    go_ret2
    exact ⟨_, rfl, HV2.out, HB.out⟩
  · rw [onlyR_no hz]
    have hne : ((wvE l : Int) != 0) = true := by simpa using hz
    clear hz hv
    have HK := Lib.hid hk; clear hk
    generalize wvE l = m at *
    go_enter Tryz.func32, Tryz.ntmps32
    go_wp2_with ((with_reducible refine ((HK.out).mono ?_)); rintro e w' ⟨rfl, hb1⟩; replace HB := Lib.hid hb1; clear hb1)
    go_ret2
    exact ⟨_, rfl, pts_nil _, HB.out⟩
end Go.Proofs.YtjfhebpfnegcjaaGreatDoor

/-
  Effects: the reference: Started. Effects: slices.Delete at running effects, Stop of the program. Effects: the reference: Stopped, Start, Rate, Stop.
-/
import Derived.Test.YtbeojahilbglcaaGreatDoorQrYs
import Derived.Test.YtbeojahilbglcaaGreatDoorQrYi
import Derived.Laws.AppendOwnNone
import Derived.Outline
import Derived.Lib.SliceRun
import Derived.WalkSpells
import Derived.Laws.AppendOwn
import Derived.Deep.RegionHeld3
set_option linter.unusedVariables false
set_option linter.unusedSimpArgs false
namespace Lum
open Go Go.RowKit Go.Shelf
open Go.Lib (decDigits itoa)
/-- append(s, x...), x without elements. -/
theorem wpList_appE {β : Type} {enc : β → List Value} {k : Nat} {P : Program} {ops : Array Oper} {rest : List Oper} {o : Oper} {a : Act} {Q : Exit → Act → World → Prop} (hgd : o.guard = none) (s x : Operand) (t : TypeId)
    (ho : o.op = .call { callee := .builtin .append, args := #[s, x], argTypes := #[t, t] })
    (base : Nat) (e : TypeId) (i : TypeInfo) (z : Value) (bytes : Nat) (ht : P.underlying t = some (.slice e)) (hi : P.info? e = some i) (hz : i.zero = some z)
    (hsize : i.size = k) (hby : i.bytes = bytes) (hzs : z.cells.size = k) (hbs : bytes ≤ 64) (hk0 : 0 < k)
    (p : Option Addr) (c n : Nat) (l : List β) (hnl : n = l.length) (hl0 : l ≠ []) (W : World) (q : Option Addr) (c2 : Nat)
    (hs : a.eval s = .slice p n c) (hown : OwnR enc k base e W p c l)
    (hx : a.eval x = .slice q 0 c2) (hq : q = none → c2 = 0)
    (hn : l.length < 1000000000) (hbase : base ≤ W.heap.size)
    (h : ∀ p' c' w', OwnR enc k base e w' p' c' l → Below base W w' → wpList P ops Q rest (a.put o.dst (.slice p' n c')) w') :
    wpList P ops Q (o :: rest) a W := by
  subst hnl
  cases q with
  | none =>
    obtain rfl := hq rfl
    exact wpList_append_own_none hgd s x t ho base e i k ht hi _ _ _ hs hown hx (h _ _ _ hown (Below.refl _ _))
  | some ad =>
    refine wpList_append_own _ hgd s x t ho base e i z k bytes ht hi hz hsize hby hzs hk0 _ _ _ hs hown ad 0 c2 [] hx (by simp) (fun j u hu => by simp at hu) (fun u hu => by simp at hu) (by unfold maxLen; omega) ?_ hbase ?_
    · have : (l.length + 0) * bytes ≤ 1000000001 * 64 := Nat.mul_le_mul (by omega) hbs
      omega
    · intro v' w' hown' hgrow _
      rw [Nat.add_zero, List.append_nil] at hown'
      obtain ⟨p', c', rfl⟩ : ∃ p' c', v' = .slice p' l.length c' := by
        rcases hown'.2 with ⟨rfl, h2⟩ | ⟨g, cap, cur, rfl, _⟩
        · exact absurd (List.length_eq_zero_iff.1 h2) hl0
        · exact ⟨_, _, rfl⟩
      refine h p' c' w' hown' ?_
      refine (Below.refl base W).grown hgrow hbase ?_
      intro k hk
      cases p with
      | none => simp [Value.ownBlock] at hk
      | some ad => simp [Value.ownBlock] at hk; subst hk; exact (hown.lt ad rfl).1
/-- append(s, xs...), the count of the elements by itself. -/
theorem wpList_appM {β : Type} {enc : β → List Value} {k : Nat} {P : Program} {ops : Array Oper} {rest : List Oper} {o : Oper} {a : Act} {Q : Exit → Act → World → Prop} (hgd : o.guard = none) (s x : Operand) (t : TypeId)
    (ho : o.op = .call { callee := .builtin .append, args := #[s, x], argTypes := #[t, t] })
    (base : Nat) (e : TypeId) (i : TypeInfo) (z : Value) (bytes : Nat) (ht : P.underlying t = some (.slice e)) (hi : P.info? e = some i) (hz : i.zero = some z)
    (hsize : i.size = k) (hby : i.bytes = bytes) (hzs : z.cells.size = k) (hbs : bytes ≤ 64) (hk0 : 0 < k)
    (p : Option Addr) (c n : Nat) (l : List β) (hnl : n = l.length) (W : World) (ys : List β) (m : Nat) (hm : m = ys.length) (b off c2 : Nat) (hk : ∀ x, (enc x).length = k) (hcell : ∀ j u, (ys.flatMap enc)[j]? = some u → W.cell? ⟨b, off + j, none⟩ = some u) (h1 : ∀ y ∈ ys, ∀ u ∈ enc y, u.oneCell' = true)
    (hs : a.eval s = .slice p n c) (hown : OwnR enc k base e W p c l)
    (hx : a.eval x = .slice (some ⟨b, off, none⟩) m c2)
    (hn : l.length + ys.length < 1000000000) (hbase : base ≤ W.heap.size)
    (h : ∀ p' c' w', OwnR enc k base e w' p' c' (l ++ ys) → Below base W w' → wpList P ops Q rest (a.put o.dst (.slice p' (n + m) c')) w') :
    wpList P ops Q (o :: rest) a W := by
  subst hm
  exact wpList_appL hgd s x t ho base e i z bytes ht hi hz hsize hby hzs hbs hk0 p c n l hnl W ys b off c2 hk hcell h1 hs hown hx hn hbase h
/-- A slice's parts as they come in. -/
def SlOk (v : Value) : Prop := ∃ p n c, v = .slice p n c ∧ n ≤ c ∧ (p = none → c = 0)
theorem ins_cut {α : Type} {l : List α} {i : Nat} {hit : Bool} {x : α} {j : Nat} (hj : j = if hit = true then i + 1 else i) : (l.take i ++ [x]) ++ l.drop j = insL l i hit x := by
  subst hj; unfold insL; rw [List.append_assoc, List.singleton_append]
theorem ins_cut0 {α : Type} {l : List α} {i : Nat} {hit : Bool} {x : α} {j : Nat} (hj : j = if hit = true then i + 1 else i) (h : l.length ≤ j) : l.take i ++ [x] = insL l i hit x := by
  rw [← ins_cut hj, List.drop_eq_nil_of_le h, List.append_nil]
end Lum
namespace Go.Proofs.YtbeojahilbglcaaGreatDoor
open Go.RowKit Go.Shelf Lum
open Go.Lib (decDigits itoa)
attribute [local go_sem] bs_get bs_extract_end bs_extract_from bs_extract bs_append

set_option maxRecDepth 100000 in
set_option maxHeartbeats 8000000 in
theorem r28_started_hit (w : World) (l : List RnT) (x0 : RnT) (p : Option Addr) (c : Nat) (cN : Nat → Int) (i : Nat) (hR : RowX encN 6 w p l) (h16 : l.length ≤ 1000000) (hcap : l.length ≤ c) (hcz : p = none → c = 0) (hcn : ∀ k (hk : k < l.length), (l[k]'hk).1.ef = cN k) (hb9 : Belongs cN l.length x0.1.ef i true) (hei : i < l.length) :
    Calls Tryz.prog 36 #[.slice p l.length c, .agg #[.int .i64 (x0.1.ef), .slice x0.2.1 x0.2.2.1 x0.2.2.2, .int .i64 (x0.1.ce), .int .i64 (x0.1.cr), .int .i64 (x0.1.cd), .int .i64 (x0.1.cl)]] w fun e w' => ∃ pp cc, e = .returned (.slice pp (insL l i true x0).length cc) ∧ OwnR encN 6 w.heap.size 68 w' pp cc (insL l i true x0) ∧ Below w.heap.size w w' := by
  have hal := (Below.refl w.heap.size w).alloc (Nat.le_refl _) (.cells #[.int .i64 (x0.1.ef), .slice x0.2.1 x0.2.2.1 x0.2.2.2, .int .i64 (x0.1.ce), .int .i64 (x0.1.cr), .int .i64 (x0.1.cd), .int .i64 (x0.1.cl)] 68)
  have HB0 := Lib.hid hal; clear hal
  have HK1 := Lib.hid (Blk.new w 68 #[.int .i64 (x0.1.ef), .slice x0.2.1 x0.2.2.1 x0.2.2.2, .int .i64 (x0.1.ce), .int .i64 (x0.1.cr), .int .i64 (x0.1.cd), .int .i64 (x0.1.cl)])
  have HK := HK1
  obtain ⟨k0, k1, k2, k3, k4, k5, kf0, kf1, kf2, kf3, kf4, kf5⟩ := HK.out.c6
  have HIN := Lib.hid hb9; have HFEW := Lib.hid h16; have HCN := Lib.hid hcn; have hv2 := Lib.hid hR; have HCC := Lib.hid hcap; have HCZ := Lib.hid hcz; have HEI := Lib.hid hei; clear hb9 h16 hcn hR hcz hei
  obtain ⟨i0, hi, hz0, hz1, hz2⟩ := info_parts info_run
  go_enter Tryz.func36, Tryz.ntmps36
  go_upto_region 1 with fail
  generalize w.alloc (.cells #[.int .i64 (x0.1.ef), .slice x0.2.1 x0.2.2.1 x0.2.2.2, .int .i64 (x0.1.ce), .int .i64 (x0.1.cr), .int .i64 (x0.1.cd), .int .i64 (x0.1.cl)] 68) = w3 at *
  have HB := Lib.hid (Below.refl w3.heap.size w3)
  go_wp2_with fail
  go_loopw [5, 6] (fun s j wr => ∃ (k n : Nat) (pp : Option Addr) (cc : Nat), s = .slice pp n cc ∧ j = .int .i64 (k : Int) ∧ Hid (k ≤ i) ∧ Hid (n = (l.take k).length) ∧ Hid (Below w3.heap.size w3 wr) ∧ Hid (OwnR encN 6 w3.heap.size 68 wr pp cc (l.take k))) (fun _ j _ => l.length - (intOf j).toNat)
  case atStart => exact ⟨0, 0, none, 0, rfl, rfl, Lib.hid (Nat.zero_le _), Lib.hid (by simp), HB, Lib.hid (by rw [List.take_zero]; exact OwnR.nil _ _ _)⟩
  case round =>
    obtain ⟨k, n, pp, cc, rfl, rfl, hkle, HN, HB2, HO2⟩ := hrel
    clear HB
    have HB := HB2; have HO := HO2; clear HB2 HO2
    clear k0 k1 k2 k3 k4 k5 kf0 kf1 kf2 kf3 kf4 kf5
    clear HK
    have HK := Lib.hid (HK1.out.keep HB.out)
    have HBW : Hid (Below w.heap.size w wr) := Lib.hid (bch' HB0.out HB.out)
    obtain ⟨k0, k1, k2, k3, k4, k5, kf0, kf1, kf2, kf3, kf4, kf5⟩ := HK.out.c6
    by_cases hki : k < i
    · have hkl : k < l.length := by have := HIN.out.le; omega
      have hlt : (k : Int) < (l.length : Int) := by omega
      have hk0 : (0 : Int) ≤ (k : Int) := by omega
      have hun : IntKind.i64.wrap ((k : Int) + 1) = (k : Int) + 1 := IntWalk.i64_in _ (by have := HFEW.out; omega)
      obtain ⟨b, o, rfl, hb, hC⟩ := hv2.out (fun h => by subst h; simp at hkl)
      obtain ⟨x, hx⟩ : ∃ x, x = l[k]'hkl := ⟨_, rfl⟩
      have hcell := hC k hkl
      have hcx := HCN.out k hkl
      rw [← hx] at hcell hcx
      have HCE := Lib.hid hcell; have HX := Lib.hid hx; clear hcell hx
      clear hC
      have y0 : wr.cell? ⟨b, o + k * 6, none⟩ = some (.int .i64 (x.1.ef)) := (HBW.out.cell (p := ⟨b, o + k * 6 + 0, none⟩) hb).trans (HCE.out 0 _ rfl)
      have y1 : wr.cell? ⟨b, o + k * 6 + 1, none⟩ = some (.slice x.2.1 x.2.2.1 x.2.2.2) := (HBW.out.cell (p := ⟨b, o + k * 6 + 1, none⟩) hb).trans (HCE.out 1 _ rfl)
      have y2 : wr.cell? ⟨b, o + k * 6 + 2, none⟩ = some (.int .i64 (x.1.ce)) := (HBW.out.cell (p := ⟨b, o + k * 6 + 2, none⟩) hb).trans (HCE.out 2 _ rfl)
      have y3 : wr.cell? ⟨b, o + k * 6 + 3, none⟩ = some (.int .i64 (x.1.cr)) := (HBW.out.cell (p := ⟨b, o + k * 6 + 3, none⟩) hb).trans (HCE.out 3 _ rfl)
      have y4 : wr.cell? ⟨b, o + k * 6 + 4, none⟩ = some (.int .i64 (x.1.cd)) := (HBW.out.cell (p := ⟨b, o + k * 6 + 4, none⟩) hb).trans (HCE.out 4 _ rfl)
      have y5 : wr.cell? ⟨b, o + k * 6 + 5, none⟩ = some (.int .i64 (x.1.cl)) := (HBW.out.cell (p := ⟨b, o + k * 6 + 5, none⟩) hb).trans (HCE.out 5 _ rfl)
      have hbr : b < wr.heap.size := by have := HBW.out.size; omega
      have hbf : x.1.ef < x0.1.ef := by have := HIN.out.bef k hki; omega
      clear hcx
      go_upto_region 3 with fail
      have f0 := fun p : BelowOf _ => (HK.out.keep p.h).c6.1
      have g0 := fun p : BelowOf _ => BelowOf.cell hbr y0 p
      have e0 := fun p : BelowOf _ => Nat.lt_of_lt_of_le hbr p.h.size
      refine wp_region_WQ (by kernel_rfl) (by kernel_rfl) ?_
      repeat (refine WQ.step (fun K hK => ?_); go_simp; first | (refine hK.out _ ?_; clear hK K) | (apply Exists.intro; refine ⟨fun _ => ?_, hK.out _ ?_⟩; (first | rfl); clear hK K))
      refine WQ.nil ?_
      intro Wq hw'
      obtain ⟨⟨wq, hbq⟩, hw2⟩ := hw'
      subst hw2
      replace HO := Lib.hid (HO.out.keep hbq)
      replace HB := Lib.hid (bch' HB.out hbq)
      clear f0 g0 e0
      clear k0 k1 k2 k3 k4 k5 kf0 kf1 kf2 kf3 kf4 kf5
      clear HK HBW
      clear y0 y1 y2 y3 y4 y5 hbr
      have HK := Lib.hid (HK1.out.keep HB.out)
      have HBW : Hid (Below w.heap.size w Wq) := Lib.hid (bch' HB0.out HB.out)
      obtain ⟨k0, k1, k2, k3, k4, k5, kf0, kf1, kf2, kf3, kf4, kf5⟩ := HK.out.c6
      have y0 : Wq.cell? ⟨b, o + k * 6, none⟩ = some (.int .i64 (x.1.ef)) := (HBW.out.cell (p := ⟨b, o + k * 6 + 0, none⟩) hb).trans (HCE.out 0 _ rfl)
      have y1 : Wq.cell? ⟨b, o + k * 6 + 1, none⟩ = some (.slice x.2.1 x.2.2.1 x.2.2.2) := (HBW.out.cell (p := ⟨b, o + k * 6 + 1, none⟩) hb).trans (HCE.out 1 _ rfl)
      have y2 : Wq.cell? ⟨b, o + k * 6 + 2, none⟩ = some (.int .i64 (x.1.ce)) := (HBW.out.cell (p := ⟨b, o + k * 6 + 2, none⟩) hb).trans (HCE.out 2 _ rfl)
      have y3 : Wq.cell? ⟨b, o + k * 6 + 3, none⟩ = some (.int .i64 (x.1.cr)) := (HBW.out.cell (p := ⟨b, o + k * 6 + 3, none⟩) hb).trans (HCE.out 3 _ rfl)
      have y4 : Wq.cell? ⟨b, o + k * 6 + 4, none⟩ = some (.int .i64 (x.1.cd)) := (HBW.out.cell (p := ⟨b, o + k * 6 + 4, none⟩) hb).trans (HCE.out 4 _ rfl)
      have y5 : Wq.cell? ⟨b, o + k * 6 + 5, none⟩ = some (.int .i64 (x.1.cl)) := (HBW.out.cell (p := ⟨b, o + k * 6 + 5, none⟩) hb).trans (HCE.out 5 _ rfl)
      have hbr : b < Wq.heap.size := by have := HBW.out.size; omega
      go_wp2_with (first | (at_builtin; refine wpList_appR3 rfl (.tmp 21) (.tmp 26) 22 rfl w3.heap.size 68 i0 (.agg #[.int .i64 0, .slice none 0 0, .int .i64 0, .int .i64 0, .int .i64 0, .int .i64 0]) 64 Tryz.underlying22 hi hz0 hz1 hz2 rfl (by decide) (by decide) pp cc n ((l.take k)) (HN.out) _ (x) Wq.heap.size (encN_len _) (fun j u hu => cellN _ 68 hu) (encN_one _) rfl (HO.out.keep ((Below.refl _ Wq).alloc (Nat.le_refl _) _)) rfl (by have := HFEW.out; rw [List.length_take]; omega) (by have := HB.out.size; rw [World.size_alloc]; omega) ?_; intro p1 c1 w4 hO3 hb3 _; have HO3 := Lib.hid hO3; have HB3 := Lib.hid (HB.out.trans (((Below.refl _ Wq).alloc (by have := HB.out.size; omega) _).trans hb3)); clear hO3 hb3))
      clear HB
      have HB := HB3; clear HB3
      have HT : Hid (l.take (k + 1) = l.take k ++ [x]) := Lib.hid (by rw [List.take_succ_eq_append_getElem hkl, HX.out])
      go_roundw
      case rel => exact ⟨k + 1, n + 1, p1, c1, by first | rfl | simp, by first | rfl | simp, Lib.hid (by omega), Lib.hid (by rw [HT.out, List.length_append, ← HN.out]; rfl), HB, Lib.hid (by rw [HT.out]; exact HO3.out)⟩
      case measure => first | (simp [intOf]; done) | (simp [intOf]; omega)
    · obtain rfl : i = k := by have := hkle.out; omega
      have hil := HEI.out
      have hlt : (i : Int) < (l.length : Int) := by omega
      have hi0 : (0 : Int) ≤ (i : Int) := by omega
      obtain ⟨b, o, rfl, hb, hC⟩ := hv2.out (fun h => by subst h; simp at hil)
      obtain ⟨x, hx⟩ : ∃ x, x = l[i]'hil := ⟨_, rfl⟩
      have hcell := hC i hil
      have hcx := HCN.out i hil
      rw [← hx] at hcell hcx
      have HCE := Lib.hid hcell; have HX := Lib.hid hx; clear hcell hx
      have y0 : wr.cell? ⟨b, o + i * 6, none⟩ = some (.int .i64 (x.1.ef)) := (HBW.out.cell (p := ⟨b, o + i * 6 + 0, none⟩) hb).trans (HCE.out 0 _ rfl)
      have y1 : wr.cell? ⟨b, o + i * 6 + 1, none⟩ = some (.slice x.2.1 x.2.2.1 x.2.2.2) := (HBW.out.cell (p := ⟨b, o + i * 6 + 1, none⟩) hb).trans (HCE.out 1 _ rfl)
      have y2 : wr.cell? ⟨b, o + i * 6 + 2, none⟩ = some (.int .i64 (x.1.ce)) := (HBW.out.cell (p := ⟨b, o + i * 6 + 2, none⟩) hb).trans (HCE.out 2 _ rfl)
      have y3 : wr.cell? ⟨b, o + i * 6 + 3, none⟩ = some (.int .i64 (x.1.cr)) := (HBW.out.cell (p := ⟨b, o + i * 6 + 3, none⟩) hb).trans (HCE.out 3 _ rfl)
      have y4 : wr.cell? ⟨b, o + i * 6 + 4, none⟩ = some (.int .i64 (x.1.cd)) := (HBW.out.cell (p := ⟨b, o + i * 6 + 4, none⟩) hb).trans (HCE.out 4 _ rfl)
      have y5 : wr.cell? ⟨b, o + i * 6 + 5, none⟩ = some (.int .i64 (x.1.cl)) := (HBW.out.cell (p := ⟨b, o + i * 6 + 5, none⟩) hb).trans (HCE.out 5 _ rfl)
      have hbr : b < wr.heap.size := by have := HBW.out.size; omega
      have hge : ¬ x.1.ef < x0.1.ef := by have := (HIN.out.yes rfl).2; omega
      have heq : ((x.1.ef : Int) == x0.1.ef) = true := by have := (HIN.out.yes rfl).2; rw [beq_iff_eq]; omega
      have hun : IntKind.i64.wrap ((i : Int) + 1) = (i : Int) + 1 := IntWalk.i64_in _ (by have := HFEW.out; omega)
      clear hcx
      go_upto_region 3 with fail
      have f0 := fun p : BelowOf _ => (HK.out.keep p.h).c6.1
      have g0 := fun p : BelowOf _ => BelowOf.cell hbr y0 p
      have e0 := fun p : BelowOf _ => Nat.lt_of_lt_of_le hbr p.h.size
      refine wp_region_WQ (by kernel_rfl) (by kernel_rfl) ?_
      repeat (refine WQ.step (fun K hK => ?_); go_simp; first | (refine hK.out _ ?_; clear hK K) | (apply Exists.intro; refine ⟨fun _ => ?_, hK.out _ ?_⟩; (first | rfl); clear hK K))
      refine WQ.nil ?_
      intro Wq hw'
      obtain ⟨⟨wq, hbq⟩, hw2⟩ := hw'
      subst hw2
      replace HO := Lib.hid (HO.out.keep hbq)
      replace HB := Lib.hid (bch' HB.out hbq)
      clear f0 g0 e0
      clear k0 k1 k2 k3 k4 k5 kf0 kf1 kf2 kf3 kf4 kf5
      clear HK HBW
      clear y0 y1 y2 y3 y4 y5 hbr
      have HK := Lib.hid (HK1.out.keep HB.out)
      have HBW : Hid (Below w.heap.size w Wq) := Lib.hid (bch' HB0.out HB.out)
      obtain ⟨k0, k1, k2, k3, k4, k5, kf0, kf1, kf2, kf3, kf4, kf5⟩ := HK.out.c6
      have y0 : Wq.cell? ⟨b, o + i * 6, none⟩ = some (.int .i64 (x.1.ef)) := (HBW.out.cell (p := ⟨b, o + i * 6 + 0, none⟩) hb).trans (HCE.out 0 _ rfl)
      have y1 : Wq.cell? ⟨b, o + i * 6 + 1, none⟩ = some (.slice x.2.1 x.2.2.1 x.2.2.2) := (HBW.out.cell (p := ⟨b, o + i * 6 + 1, none⟩) hb).trans (HCE.out 1 _ rfl)
      have y2 : Wq.cell? ⟨b, o + i * 6 + 2, none⟩ = some (.int .i64 (x.1.ce)) := (HBW.out.cell (p := ⟨b, o + i * 6 + 2, none⟩) hb).trans (HCE.out 2 _ rfl)
      have y3 : Wq.cell? ⟨b, o + i * 6 + 3, none⟩ = some (.int .i64 (x.1.cr)) := (HBW.out.cell (p := ⟨b, o + i * 6 + 3, none⟩) hb).trans (HCE.out 3 _ rfl)
      have y4 : Wq.cell? ⟨b, o + i * 6 + 4, none⟩ = some (.int .i64 (x.1.cd)) := (HBW.out.cell (p := ⟨b, o + i * 6 + 4, none⟩) hb).trans (HCE.out 4 _ rfl)
      have y5 : Wq.cell? ⟨b, o + i * 6 + 5, none⟩ = some (.int .i64 (x.1.cl)) := (HBW.out.cell (p := ⟨b, o + i * 6 + 5, none⟩) hb).trans (HCE.out 5 _ rfl)
      have hbr : b < Wq.heap.size := by have := HBW.out.size; omega
      go_wp2_with (first | (at_builtin; refine wpList_appR3 rfl (.tmp 30) (.tmp 32) 22 rfl w3.heap.size 68 i0 (.agg #[.int .i64 0, .slice none 0 0, .int .i64 0, .int .i64 0, .int .i64 0, .int .i64 0]) 64 Tryz.underlying22 hi hz0 hz1 hz2 rfl (by decide) (by decide) pp cc n ((l.take i)) (HN.out) _ (x0) Wq.heap.size (encN_len _) (fun j u hu => cellN _ 68 hu) (encN_one _) rfl (HO.out.keep ((Below.refl _ Wq).alloc (Nat.le_refl _) _)) rfl (by have := HFEW.out; rw [List.length_take]; omega) (by have := HB.out.size; rw [World.size_alloc]; omega) ?_; intro p1 c1 w4 hO3 hb3 _; have HO3 := Lib.hid hO3; have HB3 := Lib.hid (HB.out.trans (((Below.refl _ Wq).alloc (by have := HB.out.size; omega) _).trans hb3)); clear hO3 hb3))
      have HN1 : Hid (n + 1 = (l.take i ++ [x0]).length) := Lib.hid (by rw [List.length_append, ← HN.out]; rfl)
      clear k0 k1 k2 k3 k4 k5 kf0 kf1 kf2 kf3 kf4 kf5
      clear HK HBW
      clear y0 y1 y2 y3 y4 y5 hbr
      have HO := HO3; clear HO3
      clear HB
      have HB := HB3; clear HB3
      have HK := Lib.hid (HK1.out.keep HB.out)
      have HBW : Hid (Below w.heap.size w w4) := Lib.hid (bch' HB0.out HB.out)
      obtain ⟨k0, k1, k2, k3, k4, k5, kf0, kf1, kf2, kf3, kf4, kf5⟩ := HK.out.c6
      have y0 : w4.cell? ⟨b, o + i * 6, none⟩ = some (.int .i64 (x.1.ef)) := (HBW.out.cell (p := ⟨b, o + i * 6 + 0, none⟩) hb).trans (HCE.out 0 _ rfl)
      have y1 : w4.cell? ⟨b, o + i * 6 + 1, none⟩ = some (.slice x.2.1 x.2.2.1 x.2.2.2) := (HBW.out.cell (p := ⟨b, o + i * 6 + 1, none⟩) hb).trans (HCE.out 1 _ rfl)
      have y2 : w4.cell? ⟨b, o + i * 6 + 2, none⟩ = some (.int .i64 (x.1.ce)) := (HBW.out.cell (p := ⟨b, o + i * 6 + 2, none⟩) hb).trans (HCE.out 2 _ rfl)
      have y3 : w4.cell? ⟨b, o + i * 6 + 3, none⟩ = some (.int .i64 (x.1.cr)) := (HBW.out.cell (p := ⟨b, o + i * 6 + 3, none⟩) hb).trans (HCE.out 3 _ rfl)
      have y4 : w4.cell? ⟨b, o + i * 6 + 4, none⟩ = some (.int .i64 (x.1.cd)) := (HBW.out.cell (p := ⟨b, o + i * 6 + 4, none⟩) hb).trans (HCE.out 4 _ rfl)
      have y5 : w4.cell? ⟨b, o + i * 6 + 5, none⟩ = some (.int .i64 (x.1.cl)) := (HBW.out.cell (p := ⟨b, o + i * 6 + 5, none⟩) hb).trans (HCE.out 5 _ rfl)
      have hbr : b < w4.heap.size := by have := HBW.out.size; omega
      have f0 := fun p : BelowOf _ => (HK.out.keep p.h).c6.1
      have g0 := fun p : BelowOf _ => BelowOf.cell hbr y0 p
      have e0 := fun p : BelowOf _ => Nat.lt_of_lt_of_le hbr p.h.size
      refine wp_region_WQ (by kernel_rfl) (by kernel_rfl) ?_
      repeat (refine WQ.step (fun K hK => ?_); go_simp; first | (refine hK.out _ ?_; clear hK K) | (apply Exists.intro; refine ⟨fun _ => ?_, hK.out _ ?_⟩; (first | rfl); clear hK K))
      refine WQ.nil ?_
      intro W8 hw'
      obtain ⟨⟨w8, hb8⟩, hw2⟩ := hw'
      subst hw2
      replace HO := Lib.hid (HO.out.keep hb8)
      replace HB := Lib.hid (bch' HB.out hb8)
      clear f0 g0 e0
      clear k0 k1 k2 k3 k4 k5 kf0 kf1 kf2 kf3 kf4 kf5
      clear HK HBW
      clear y0 y1 y2 y3 y4 y5 hbr
      have HK := Lib.hid (HK1.out.keep HB.out)
      have HBW : Hid (Below w.heap.size w W8) := Lib.hid (bch' HB0.out HB.out)
      obtain ⟨k0, k1, k2, k3, k4, k5, kf0, kf1, kf2, kf3, kf4, kf5⟩ := HK.out.c6
      have htn : ((i : Int) + 1).toNat = i + 1 := by omega
      have hb1 : (0 : Int) ≤ (i : Int) + 1 := by omega
      have hb3 : (i : Int) + 1 ≤ (l.length : Int) := by omega
      by_cases hE : i + 1 = l.length
      · have hs0 : l.length - (i + 1) = 0 := by omega
        by_cases hcd : c = i + 1
        · go_wp2_with (first | (at_builtin; refine wpList_appE rfl (.tmp 50) (.tmp 53) 22 rfl w3.heap.size 68 i0 (.agg #[.int .i64 0, .slice none 0 0, .int .i64 0, .int .i64 0, .int .i64 0, .int .i64 0]) 64 Tryz.underlying22 hi hz0 hz1 hz2 rfl (by decide) (by decide) p1 c1 (n + 1) (l.take i ++ [x0]) HN1.out (by simp) _ _ _ rfl HO.out rfl (by first | (intro h; cases h; done) | (intro _; rfl)) (by have := HFEW.out; rw [List.length_append, List.length_take]; simp; omega) (by have := HB.out.size; omega) ?_; intro p2 c2 w5 hO3 hb3; have HO3 := Lib.hid hO3; have HB3 := Lib.hid (HB.out.trans hb3); clear hO3 hb3))
          go_ret
          have HE := Lib.hid (ins_cut0 (l := l) (i := i) (hit := true) (x := x0) (j := i + 1) (by simp) (by have := HEI.out; omega))
          rw [HE.out] at HO3
          have HL : Hid (n + 1 = (insL l i true x0).length) := Lib.hid (by rw [← HE.out, HN1.out])
          rw [HL.out]
          exact ⟨_, _, rfl, HO3.out.lower (by have := HB0.out.size; omega), bch' HB0.out HB3.out⟩
        · go_wp2_with (first | (at_builtin; refine wpList_appE rfl (.tmp 50) (.tmp 53) 22 rfl w3.heap.size 68 i0 (.agg #[.int .i64 0, .slice none 0 0, .int .i64 0, .int .i64 0, .int .i64 0, .int .i64 0]) 64 Tryz.underlying22 hi hz0 hz1 hz2 rfl (by decide) (by decide) p1 c1 (n + 1) (l.take i ++ [x0]) HN1.out (by simp) _ _ _ rfl HO.out rfl (by first | (intro h; cases h; done) | (intro _; rfl)) (by have := HFEW.out; rw [List.length_append, List.length_take]; simp; omega) (by have := HB.out.size; omega) ?_; intro p2 c2 w5 hO3 hb3; have HO3 := Lib.hid hO3; have HB3 := Lib.hid (HB.out.trans hb3); clear hO3 hb3))
          go_ret
          have HE := Lib.hid (ins_cut0 (l := l) (i := i) (hit := true) (x := x0) (j := i + 1) (by simp) (by have := HEI.out; omega))
          rw [HE.out] at HO3
          have HL : Hid (n + 1 = (insL l i true x0).length) := Lib.hid (by rw [← HE.out, HN1.out])
          rw [HL.out]
          exact ⟨_, _, rfl, HO3.out.lower (by have := HB0.out.size; omega), bch' HB0.out HB3.out⟩
      · have hcd : ¬ c = i + 1 := by omega
        have HTL : Hid (∀ j u, ((l.drop (i + 1)).flatMap encN)[j]? = some u → W8.cell? ⟨b, o + (i + 1) * 6 + j, none⟩ = some u) := Lib.hid (by have h9 := flat_cell encN_len l (fun j => W8.cell? ⟨b, o + j, none⟩) (fun i hi j v hj => by have := (HBW.out.cell (p := ⟨b, o + i * 6 + j, none⟩) hb).trans (hC i hi j v hj); rwa [Nat.add_assoc] at this); intro j u hu; have := h9 _ _ (flat_drop_get encN_len hu); rwa [← Nat.add_assoc] at this)
        go_wp2_with (first | (at_builtin; refine wpList_appM rfl (.tmp 50) (.tmp 53) 22 rfl w3.heap.size 68 i0 (.agg #[.int .i64 0, .slice none 0 0, .int .i64 0, .int .i64 0, .int .i64 0, .int .i64 0]) 64 Tryz.underlying22 hi hz0 hz1 hz2 rfl (by decide) (by decide) p1 c1 (n + 1) (l.take i ++ [x0]) HN1.out _ (l.drop (i + 1)) (l.length - (i + 1)) (by rw [List.length_drop]) b (o + (i + 1) * 6) (c - (i + 1)) encN_len HTL.out (fun y _ => encN_one y) rfl HO.out rfl (by have := HFEW.out; rw [List.length_append, List.length_take, List.length_drop]; simp; omega) (by have := HB.out.size; omega) ?_; intro p2 c2 w5 hO3 hb3; have HO3 := Lib.hid hO3; have HB3 := Lib.hid (HB.out.trans hb3); clear hO3 hb3))
        go_ret
        have HE := Lib.hid (ins_cut (l := l) (i := i) (hit := true) (x := x0) (j := i + 1) (by simp))
        rw [HE.out] at HO3
        have HL : Hid (n + 1 + (l.length - (i + 1)) = (insL l i true x0).length) := Lib.hid (by rw [← HE.out, HN1.out]; simp [List.length_drop]; omega)
        rw [HL.out]
        exact ⟨_, _, rfl, HO3.out.lower (by have := HB0.out.size; omega), bch' HB0.out HB3.out⟩

set_option maxRecDepth 100000 in
set_option maxHeartbeats 8000000 in
theorem r28_started_mid (w : World) (l : List RnT) (x0 : RnT) (p : Option Addr) (c : Nat) (cN : Nat → Int) (i : Nat) (hR : RowX encN 6 w p l) (h16 : l.length ≤ 1000000) (hcap : l.length ≤ c) (hcz : p = none → c = 0) (hcn : ∀ k (hk : k < l.length), (l[k]'hk).1.ef = cN k) (hb9 : Belongs cN l.length x0.1.ef i false) (hei : i < l.length) :
    Calls Tryz.prog 36 #[.slice p l.length c, .agg #[.int .i64 (x0.1.ef), .slice x0.2.1 x0.2.2.1 x0.2.2.2, .int .i64 (x0.1.ce), .int .i64 (x0.1.cr), .int .i64 (x0.1.cd), .int .i64 (x0.1.cl)]] w fun e w' => ∃ pp cc, e = .returned (.slice pp (insL l i false x0).length cc) ∧ OwnR encN 6 w.heap.size 68 w' pp cc (insL l i false x0) ∧ Below w.heap.size w w' := by
  have hal := (Below.refl w.heap.size w).alloc (Nat.le_refl _) (.cells #[.int .i64 (x0.1.ef), .slice x0.2.1 x0.2.2.1 x0.2.2.2, .int .i64 (x0.1.ce), .int .i64 (x0.1.cr), .int .i64 (x0.1.cd), .int .i64 (x0.1.cl)] 68)
  have HB0 := Lib.hid hal; clear hal
  have HK1 := Lib.hid (Blk.new w 68 #[.int .i64 (x0.1.ef), .slice x0.2.1 x0.2.2.1 x0.2.2.2, .int .i64 (x0.1.ce), .int .i64 (x0.1.cr), .int .i64 (x0.1.cd), .int .i64 (x0.1.cl)])
  have HK := HK1
  obtain ⟨k0, k1, k2, k3, k4, k5, kf0, kf1, kf2, kf3, kf4, kf5⟩ := HK.out.c6
  have HIN := Lib.hid hb9; have HFEW := Lib.hid h16; have HCN := Lib.hid hcn; have hv2 := Lib.hid hR; have HCC := Lib.hid hcap; have HCZ := Lib.hid hcz; have HEI := Lib.hid hei; clear hb9 h16 hcn hR hcz hei
  obtain ⟨i0, hi, hz0, hz1, hz2⟩ := info_parts info_run
  go_enter Tryz.func36, Tryz.ntmps36
  go_upto_region 1 with fail
  generalize w.alloc (.cells #[.int .i64 (x0.1.ef), .slice x0.2.1 x0.2.2.1 x0.2.2.2, .int .i64 (x0.1.ce), .int .i64 (x0.1.cr), .int .i64 (x0.1.cd), .int .i64 (x0.1.cl)] 68) = w3 at *
  have HB := Lib.hid (Below.refl w3.heap.size w3)
  go_wp2_with fail
  go_loopw [5, 6] (fun s j wr => ∃ (k n : Nat) (pp : Option Addr) (cc : Nat), s = .slice pp n cc ∧ j = .int .i64 (k : Int) ∧ Hid (k ≤ i) ∧ Hid (n = (l.take k).length) ∧ Hid (Below w3.heap.size w3 wr) ∧ Hid (OwnR encN 6 w3.heap.size 68 wr pp cc (l.take k))) (fun _ j _ => l.length - (intOf j).toNat)
  case atStart => exact ⟨0, 0, none, 0, rfl, rfl, Lib.hid (Nat.zero_le _), Lib.hid (by simp), HB, Lib.hid (by rw [List.take_zero]; exact OwnR.nil _ _ _)⟩
  case round =>
    obtain ⟨k, n, pp, cc, rfl, rfl, hkle, HN, HB2, HO2⟩ := hrel
    clear HB
    have HB := HB2; have HO := HO2; clear HB2 HO2
    clear k0 k1 k2 k3 k4 k5 kf0 kf1 kf2 kf3 kf4 kf5
    clear HK
    have HK := Lib.hid (HK1.out.keep HB.out)
    have HBW : Hid (Below w.heap.size w wr) := Lib.hid (bch' HB0.out HB.out)
    obtain ⟨k0, k1, k2, k3, k4, k5, kf0, kf1, kf2, kf3, kf4, kf5⟩ := HK.out.c6
    by_cases hki : k < i
    · have hkl : k < l.length := by have := HIN.out.le; omega
      have hlt : (k : Int) < (l.length : Int) := by omega
      have hk0 : (0 : Int) ≤ (k : Int) := by omega
      have hun : IntKind.i64.wrap ((k : Int) + 1) = (k : Int) + 1 := IntWalk.i64_in _ (by have := HFEW.out; omega)
      obtain ⟨b, o, rfl, hb, hC⟩ := hv2.out (fun h => by subst h; simp at hkl)
      obtain ⟨x, hx⟩ : ∃ x, x = l[k]'hkl := ⟨_, rfl⟩
      have hcell := hC k hkl
      have hcx := HCN.out k hkl
      rw [← hx] at hcell hcx
      have HCE := Lib.hid hcell; have HX := Lib.hid hx; clear hcell hx
      clear hC
      have y0 : wr.cell? ⟨b, o + k * 6, none⟩ = some (.int .i64 (x.1.ef)) := (HBW.out.cell (p := ⟨b, o + k * 6 + 0, none⟩) hb).trans (HCE.out 0 _ rfl)
      have y1 : wr.cell? ⟨b, o + k * 6 + 1, none⟩ = some (.slice x.2.1 x.2.2.1 x.2.2.2) := (HBW.out.cell (p := ⟨b, o + k * 6 + 1, none⟩) hb).trans (HCE.out 1 _ rfl)
      have y2 : wr.cell? ⟨b, o + k * 6 + 2, none⟩ = some (.int .i64 (x.1.ce)) := (HBW.out.cell (p := ⟨b, o + k * 6 + 2, none⟩) hb).trans (HCE.out 2 _ rfl)
      have y3 : wr.cell? ⟨b, o + k * 6 + 3, none⟩ = some (.int .i64 (x.1.cr)) := (HBW.out.cell (p := ⟨b, o + k * 6 + 3, none⟩) hb).trans (HCE.out 3 _ rfl)
      have y4 : wr.cell? ⟨b, o + k * 6 + 4, none⟩ = some (.int .i64 (x.1.cd)) := (HBW.out.cell (p := ⟨b, o + k * 6 + 4, none⟩) hb).trans (HCE.out 4 _ rfl)
      have y5 : wr.cell? ⟨b, o + k * 6 + 5, none⟩ = some (.int .i64 (x.1.cl)) := (HBW.out.cell (p := ⟨b, o + k * 6 + 5, none⟩) hb).trans (HCE.out 5 _ rfl)
      have hbr : b < wr.heap.size := by have := HBW.out.size; omega
      have hbf : x.1.ef < x0.1.ef := by have := HIN.out.bef k hki; omega
      clear hcx
      go_upto_region 3 with fail
      have f0 := fun p : BelowOf _ => (HK.out.keep p.h).c6.1
      have g0 := fun p : BelowOf _ => BelowOf.cell hbr y0 p
      have e0 := fun p : BelowOf _ => Nat.lt_of_lt_of_le hbr p.h.size
      refine wp_region_WQ (by kernel_rfl) (by kernel_rfl) ?_
      repeat (refine WQ.step (fun K hK => ?_); go_simp; first | (refine hK.out _ ?_; clear hK K) | (apply Exists.intro; refine ⟨fun _ => ?_, hK.out _ ?_⟩; (first | rfl); clear hK K))
      refine WQ.nil ?_
      intro Wq hw'
      obtain ⟨⟨wq, hbq⟩, hw2⟩ := hw'
      subst hw2
      replace HO := Lib.hid (HO.out.keep hbq)
      replace HB := Lib.hid (bch' HB.out hbq)
      clear f0 g0 e0
      clear k0 k1 k2 k3 k4 k5 kf0 kf1 kf2 kf3 kf4 kf5
      clear HK HBW
      clear y0 y1 y2 y3 y4 y5 hbr
      have HK := Lib.hid (HK1.out.keep HB.out)
      have HBW : Hid (Below w.heap.size w Wq) := Lib.hid (bch' HB0.out HB.out)
      obtain ⟨k0, k1, k2, k3, k4, k5, kf0, kf1, kf2, kf3, kf4, kf5⟩ := HK.out.c6
      have y0 : Wq.cell? ⟨b, o + k * 6, none⟩ = some (.int .i64 (x.1.ef)) := (HBW.out.cell (p := ⟨b, o + k * 6 + 0, none⟩) hb).trans (HCE.out 0 _ rfl)
      have y1 : Wq.cell? ⟨b, o + k * 6 + 1, none⟩ = some (.slice x.2.1 x.2.2.1 x.2.2.2) := (HBW.out.cell (p := ⟨b, o + k * 6 + 1, none⟩) hb).trans (HCE.out 1 _ rfl)
      have y2 : Wq.cell? ⟨b, o + k * 6 + 2, none⟩ = some (.int .i64 (x.1.ce)) := (HBW.out.cell (p := ⟨b, o + k * 6 + 2, none⟩) hb).trans (HCE.out 2 _ rfl)
      have y3 : Wq.cell? ⟨b, o + k * 6 + 3, none⟩ = some (.int .i64 (x.1.cr)) := (HBW.out.cell (p := ⟨b, o + k * 6 + 3, none⟩) hb).trans (HCE.out 3 _ rfl)
      have y4 : Wq.cell? ⟨b, o + k * 6 + 4, none⟩ = some (.int .i64 (x.1.cd)) := (HBW.out.cell (p := ⟨b, o + k * 6 + 4, none⟩) hb).trans (HCE.out 4 _ rfl)
      have y5 : Wq.cell? ⟨b, o + k * 6 + 5, none⟩ = some (.int .i64 (x.1.cl)) := (HBW.out.cell (p := ⟨b, o + k * 6 + 5, none⟩) hb).trans (HCE.out 5 _ rfl)
      have hbr : b < Wq.heap.size := by have := HBW.out.size; omega
      go_wp2_with (first | (at_builtin; refine wpList_appR3 rfl (.tmp 21) (.tmp 26) 22 rfl w3.heap.size 68 i0 (.agg #[.int .i64 0, .slice none 0 0, .int .i64 0, .int .i64 0, .int .i64 0, .int .i64 0]) 64 Tryz.underlying22 hi hz0 hz1 hz2 rfl (by decide) (by decide) pp cc n ((l.take k)) (HN.out) _ (x) Wq.heap.size (encN_len _) (fun j u hu => cellN _ 68 hu) (encN_one _) rfl (HO.out.keep ((Below.refl _ Wq).alloc (Nat.le_refl _) _)) rfl (by have := HFEW.out; rw [List.length_take]; omega) (by have := HB.out.size; rw [World.size_alloc]; omega) ?_; intro p1 c1 w4 hO3 hb3 _; have HO3 := Lib.hid hO3; have HB3 := Lib.hid (HB.out.trans (((Below.refl _ Wq).alloc (by have := HB.out.size; omega) _).trans hb3)); clear hO3 hb3))
      clear HB
      have HB := HB3; clear HB3
      have HT : Hid (l.take (k + 1) = l.take k ++ [x]) := Lib.hid (by rw [List.take_succ_eq_append_getElem hkl, HX.out])
      go_roundw
      case rel => exact ⟨k + 1, n + 1, p1, c1, by first | rfl | simp, by first | rfl | simp, Lib.hid (by omega), Lib.hid (by rw [HT.out, List.length_append, ← HN.out]; rfl), HB, Lib.hid (by rw [HT.out]; exact HO3.out)⟩
      case measure => first | (simp [intOf]; done) | (simp [intOf]; omega)
    · obtain rfl : i = k := by have := hkle.out; omega
      have hil := HEI.out
      have hlt : (i : Int) < (l.length : Int) := by omega
      have hi0 : (0 : Int) ≤ (i : Int) := by omega
      obtain ⟨b, o, rfl, hb, hC⟩ := hv2.out (fun h => by subst h; simp at hil)
      obtain ⟨x, hx⟩ : ∃ x, x = l[i]'hil := ⟨_, rfl⟩
      have hcell := hC i hil
      have hcx := HCN.out i hil
      rw [← hx] at hcell hcx
      have HCE := Lib.hid hcell; have HX := Lib.hid hx; clear hcell hx
      have y0 : wr.cell? ⟨b, o + i * 6, none⟩ = some (.int .i64 (x.1.ef)) := (HBW.out.cell (p := ⟨b, o + i * 6 + 0, none⟩) hb).trans (HCE.out 0 _ rfl)
      have y1 : wr.cell? ⟨b, o + i * 6 + 1, none⟩ = some (.slice x.2.1 x.2.2.1 x.2.2.2) := (HBW.out.cell (p := ⟨b, o + i * 6 + 1, none⟩) hb).trans (HCE.out 1 _ rfl)
      have y2 : wr.cell? ⟨b, o + i * 6 + 2, none⟩ = some (.int .i64 (x.1.ce)) := (HBW.out.cell (p := ⟨b, o + i * 6 + 2, none⟩) hb).trans (HCE.out 2 _ rfl)
      have y3 : wr.cell? ⟨b, o + i * 6 + 3, none⟩ = some (.int .i64 (x.1.cr)) := (HBW.out.cell (p := ⟨b, o + i * 6 + 3, none⟩) hb).trans (HCE.out 3 _ rfl)
      have y4 : wr.cell? ⟨b, o + i * 6 + 4, none⟩ = some (.int .i64 (x.1.cd)) := (HBW.out.cell (p := ⟨b, o + i * 6 + 4, none⟩) hb).trans (HCE.out 4 _ rfl)
      have y5 : wr.cell? ⟨b, o + i * 6 + 5, none⟩ = some (.int .i64 (x.1.cl)) := (HBW.out.cell (p := ⟨b, o + i * 6 + 5, none⟩) hb).trans (HCE.out 5 _ rfl)
      have hbr : b < wr.heap.size := by have := HBW.out.size; omega
      have hge : ¬ x.1.ef < x0.1.ef := by have := HIN.out.no rfl i (Nat.le_refl _) hil; omega
      have heq : ((x.1.ef : Int) == x0.1.ef) = false := by have := HIN.out.no rfl i (Nat.le_refl _) hil; rw [beq_eq_false_iff_ne]; omega
      clear hcx
      go_upto_region 3 with fail
      have f0 := fun p : BelowOf _ => (HK.out.keep p.h).c6.1
      have g0 := fun p : BelowOf _ => BelowOf.cell hbr y0 p
      have e0 := fun p : BelowOf _ => Nat.lt_of_lt_of_le hbr p.h.size
      refine wp_region_WQ (by kernel_rfl) (by kernel_rfl) ?_
      repeat (refine WQ.step (fun K hK => ?_); go_simp; first | (refine hK.out _ ?_; clear hK K) | (apply Exists.intro; refine ⟨fun _ => ?_, hK.out _ ?_⟩; (first | rfl); clear hK K))
      refine WQ.nil ?_
      intro Wq hw'
      obtain ⟨⟨wq, hbq⟩, hw2⟩ := hw'
      subst hw2
      replace HO := Lib.hid (HO.out.keep hbq)
      replace HB := Lib.hid (bch' HB.out hbq)
      clear f0 g0 e0
      clear k0 k1 k2 k3 k4 k5 kf0 kf1 kf2 kf3 kf4 kf5
      clear HK HBW
      clear y0 y1 y2 y3 y4 y5 hbr
      have HK := Lib.hid (HK1.out.keep HB.out)
      have HBW : Hid (Below w.heap.size w Wq) := Lib.hid (bch' HB0.out HB.out)
      obtain ⟨k0, k1, k2, k3, k4, k5, kf0, kf1, kf2, kf3, kf4, kf5⟩ := HK.out.c6
      have y0 : Wq.cell? ⟨b, o + i * 6, none⟩ = some (.int .i64 (x.1.ef)) := (HBW.out.cell (p := ⟨b, o + i * 6 + 0, none⟩) hb).trans (HCE.out 0 _ rfl)
      have y1 : Wq.cell? ⟨b, o + i * 6 + 1, none⟩ = some (.slice x.2.1 x.2.2.1 x.2.2.2) := (HBW.out.cell (p := ⟨b, o + i * 6 + 1, none⟩) hb).trans (HCE.out 1 _ rfl)
      have y2 : Wq.cell? ⟨b, o + i * 6 + 2, none⟩ = some (.int .i64 (x.1.ce)) := (HBW.out.cell (p := ⟨b, o + i * 6 + 2, none⟩) hb).trans (HCE.out 2 _ rfl)
      have y3 : Wq.cell? ⟨b, o + i * 6 + 3, none⟩ = some (.int .i64 (x.1.cr)) := (HBW.out.cell (p := ⟨b, o + i * 6 + 3, none⟩) hb).trans (HCE.out 3 _ rfl)
      have y4 : Wq.cell? ⟨b, o + i * 6 + 4, none⟩ = some (.int .i64 (x.1.cd)) := (HBW.out.cell (p := ⟨b, o + i * 6 + 4, none⟩) hb).trans (HCE.out 4 _ rfl)
      have y5 : Wq.cell? ⟨b, o + i * 6 + 5, none⟩ = some (.int .i64 (x.1.cl)) := (HBW.out.cell (p := ⟨b, o + i * 6 + 5, none⟩) hb).trans (HCE.out 5 _ rfl)
      have hbr : b < Wq.heap.size := by have := HBW.out.size; omega
      go_wp2_with (first | (at_builtin; refine wpList_appR3 rfl (.tmp 30) (.tmp 32) 22 rfl w3.heap.size 68 i0 (.agg #[.int .i64 0, .slice none 0 0, .int .i64 0, .int .i64 0, .int .i64 0, .int .i64 0]) 64 Tryz.underlying22 hi hz0 hz1 hz2 rfl (by decide) (by decide) pp cc n ((l.take i)) (HN.out) _ (x0) Wq.heap.size (encN_len _) (fun j u hu => cellN _ 68 hu) (encN_one _) rfl (HO.out.keep ((Below.refl _ Wq).alloc (Nat.le_refl _) _)) rfl (by have := HFEW.out; rw [List.length_take]; omega) (by have := HB.out.size; rw [World.size_alloc]; omega) ?_; intro p1 c1 w4 hO3 hb3 _; have HO3 := Lib.hid hO3; have HB3 := Lib.hid (HB.out.trans (((Below.refl _ Wq).alloc (by have := HB.out.size; omega) _).trans hb3)); clear hO3 hb3))
      have HN1 : Hid (n + 1 = (l.take i ++ [x0]).length) := Lib.hid (by rw [List.length_append, ← HN.out]; rfl)
      clear k0 k1 k2 k3 k4 k5 kf0 kf1 kf2 kf3 kf4 kf5
      clear HK HBW
      clear y0 y1 y2 y3 y4 y5 hbr
      have HO := HO3; clear HO3
      clear HB
      have HB := HB3; clear HB3
      have HK := Lib.hid (HK1.out.keep HB.out)
      have HBW : Hid (Below w.heap.size w w4) := Lib.hid (bch' HB0.out HB.out)
      obtain ⟨k0, k1, k2, k3, k4, k5, kf0, kf1, kf2, kf3, kf4, kf5⟩ := HK.out.c6
      have y0 : w4.cell? ⟨b, o + i * 6, none⟩ = some (.int .i64 (x.1.ef)) := (HBW.out.cell (p := ⟨b, o + i * 6 + 0, none⟩) hb).trans (HCE.out 0 _ rfl)
      have y1 : w4.cell? ⟨b, o + i * 6 + 1, none⟩ = some (.slice x.2.1 x.2.2.1 x.2.2.2) := (HBW.out.cell (p := ⟨b, o + i * 6 + 1, none⟩) hb).trans (HCE.out 1 _ rfl)
      have y2 : w4.cell? ⟨b, o + i * 6 + 2, none⟩ = some (.int .i64 (x.1.ce)) := (HBW.out.cell (p := ⟨b, o + i * 6 + 2, none⟩) hb).trans (HCE.out 2 _ rfl)
      have y3 : w4.cell? ⟨b, o + i * 6 + 3, none⟩ = some (.int .i64 (x.1.cr)) := (HBW.out.cell (p := ⟨b, o + i * 6 + 3, none⟩) hb).trans (HCE.out 3 _ rfl)
      have y4 : w4.cell? ⟨b, o + i * 6 + 4, none⟩ = some (.int .i64 (x.1.cd)) := (HBW.out.cell (p := ⟨b, o + i * 6 + 4, none⟩) hb).trans (HCE.out 4 _ rfl)
      have y5 : w4.cell? ⟨b, o + i * 6 + 5, none⟩ = some (.int .i64 (x.1.cl)) := (HBW.out.cell (p := ⟨b, o + i * 6 + 5, none⟩) hb).trans (HCE.out 5 _ rfl)
      have hbr : b < w4.heap.size := by have := HBW.out.size; omega
      have f0 := fun p : BelowOf _ => (HK.out.keep p.h).c6.1
      have g0 := fun p : BelowOf _ => BelowOf.cell hbr y0 p
      have e0 := fun p : BelowOf _ => Nat.lt_of_lt_of_le hbr p.h.size
      refine wp_region_WQ (by kernel_rfl) (by kernel_rfl) ?_
      repeat (refine WQ.step (fun K hK => ?_); go_simp; first | (refine hK.out _ ?_; clear hK K) | (apply Exists.intro; refine ⟨fun _ => ?_, hK.out _ ?_⟩; (first | rfl); clear hK K))
      refine WQ.nil ?_
      intro W8 hw'
      obtain ⟨⟨w8, hb8⟩, hw2⟩ := hw'
      subst hw2
      replace HO := Lib.hid (HO.out.keep hb8)
      replace HB := Lib.hid (bch' HB.out hb8)
      clear f0 g0 e0
      clear k0 k1 k2 k3 k4 k5 kf0 kf1 kf2 kf3 kf4 kf5
      clear HK HBW
      clear y0 y1 y2 y3 y4 y5 hbr
      have HK := Lib.hid (HK1.out.keep HB.out)
      have HBW : Hid (Below w.heap.size w W8) := Lib.hid (bch' HB0.out HB.out)
      obtain ⟨k0, k1, k2, k3, k4, k5, kf0, kf1, kf2, kf3, kf4, kf5⟩ := HK.out.c6
      have hb3 : (i : Int) ≤ (l.length : Int) := by omega
      have htn : ((i : Int)).toNat = i := by omega
      have hcd : ¬ c = i := by omega
      have HTL : Hid (∀ j u, ((l.drop (i)).flatMap encN)[j]? = some u → W8.cell? ⟨b, o + (i) * 6 + j, none⟩ = some u) := Lib.hid (by have h9 := flat_cell encN_len l (fun j => W8.cell? ⟨b, o + j, none⟩) (fun i hi j v hj => by have := (HBW.out.cell (p := ⟨b, o + i * 6 + j, none⟩) hb).trans (hC i hi j v hj); rwa [Nat.add_assoc] at this); intro j u hu; have := h9 _ _ (flat_drop_get encN_len hu); rwa [← Nat.add_assoc] at this)
      go_wp2_with (first | (at_builtin; refine wpList_appM rfl (.tmp 50) (.tmp 53) 22 rfl w3.heap.size 68 i0 (.agg #[.int .i64 0, .slice none 0 0, .int .i64 0, .int .i64 0, .int .i64 0, .int .i64 0]) 64 Tryz.underlying22 hi hz0 hz1 hz2 rfl (by decide) (by decide) p1 c1 (n + 1) (l.take i ++ [x0]) HN1.out _ (l.drop (i)) (l.length - (i)) (by rw [List.length_drop]) b (o + (i) * 6) (c - (i)) encN_len HTL.out (fun y _ => encN_one y) rfl HO.out rfl (by have := HFEW.out; rw [List.length_append, List.length_take, List.length_drop]; simp; omega) (by have := HB.out.size; omega) ?_; intro p2 c2 w5 hO3 hb3; have HO3 := Lib.hid hO3; have HB3 := Lib.hid (HB.out.trans hb3); clear hO3 hb3))
      go_ret
      have HE := Lib.hid (ins_cut (l := l) (i := i) (hit := false) (x := x0) (j := i) (by simp))
      rw [HE.out] at HO3
      have HL : Hid (n + 1 + (l.length - (i)) = (insL l i false x0).length) := Lib.hid (by rw [← HE.out, HN1.out]; simp [List.length_drop]; omega)
      rw [HL.out]
      exact ⟨_, _, rfl, HO3.out.lower (by have := HB0.out.size; omega), bch' HB0.out HB3.out⟩

set_option maxRecDepth 100000 in
set_option maxHeartbeats 8000000 in
theorem r28_started_end (w : World) (l : List RnT) (x0 : RnT) (p : Option Addr) (c : Nat) (cN : Nat → Int) (i : Nat) (hR : RowX encN 6 w p l) (h16 : l.length ≤ 1000000) (hcap : l.length ≤ c) (hcz : p = none → c = 0) (hcn : ∀ k (hk : k < l.length), (l[k]'hk).1.ef = cN k) (hb9 : Belongs cN l.length x0.1.ef i false) (hei : i = l.length) :
    Calls Tryz.prog 36 #[.slice p l.length c, .agg #[.int .i64 (x0.1.ef), .slice x0.2.1 x0.2.2.1 x0.2.2.2, .int .i64 (x0.1.ce), .int .i64 (x0.1.cr), .int .i64 (x0.1.cd), .int .i64 (x0.1.cl)]] w fun e w' => ∃ pp cc, e = .returned (.slice pp (insL l i false x0).length cc) ∧ OwnR encN 6 w.heap.size 68 w' pp cc (insL l i false x0) ∧ Below w.heap.size w w' := by
  have hal := (Below.refl w.heap.size w).alloc (Nat.le_refl _) (.cells #[.int .i64 (x0.1.ef), .slice x0.2.1 x0.2.2.1 x0.2.2.2, .int .i64 (x0.1.ce), .int .i64 (x0.1.cr), .int .i64 (x0.1.cd), .int .i64 (x0.1.cl)] 68)
  have HB0 := Lib.hid hal; clear hal
  have HK1 := Lib.hid (Blk.new w 68 #[.int .i64 (x0.1.ef), .slice x0.2.1 x0.2.2.1 x0.2.2.2, .int .i64 (x0.1.ce), .int .i64 (x0.1.cr), .int .i64 (x0.1.cd), .int .i64 (x0.1.cl)])
  have HK := HK1
  obtain ⟨k0, k1, k2, k3, k4, k5, kf0, kf1, kf2, kf3, kf4, kf5⟩ := HK.out.c6
  have HIN := Lib.hid hb9; have HFEW := Lib.hid h16; have HCN := Lib.hid hcn; have hv2 := Lib.hid hR; have HCC := Lib.hid hcap; have HCZ := Lib.hid hcz; have HEI := Lib.hid hei; clear hb9 h16 hcn hR hcz hei
  obtain ⟨i0, hi, hz0, hz1, hz2⟩ := info_parts info_run
  go_enter Tryz.func36, Tryz.ntmps36
  go_upto_region 1 with fail
  generalize w.alloc (.cells #[.int .i64 (x0.1.ef), .slice x0.2.1 x0.2.2.1 x0.2.2.2, .int .i64 (x0.1.ce), .int .i64 (x0.1.cr), .int .i64 (x0.1.cd), .int .i64 (x0.1.cl)] 68) = w3 at *
  have HB := Lib.hid (Below.refl w3.heap.size w3)
  go_wp2_with fail
  go_loopw [5, 6] (fun s j wr => ∃ (k n : Nat) (pp : Option Addr) (cc : Nat), s = .slice pp n cc ∧ j = .int .i64 (k : Int) ∧ Hid (k ≤ i) ∧ Hid (n = (l.take k).length) ∧ Hid (Below w3.heap.size w3 wr) ∧ Hid (OwnR encN 6 w3.heap.size 68 wr pp cc (l.take k))) (fun _ j _ => l.length - (intOf j).toNat)
  case atStart => exact ⟨0, 0, none, 0, rfl, rfl, Lib.hid (Nat.zero_le _), Lib.hid (by simp), HB, Lib.hid (by rw [List.take_zero]; exact OwnR.nil _ _ _)⟩
  case round =>
    obtain ⟨k, n, pp, cc, rfl, rfl, hkle, HN, HB2, HO2⟩ := hrel
    clear HB
    have HB := HB2; have HO := HO2; clear HB2 HO2
    clear k0 k1 k2 k3 k4 k5 kf0 kf1 kf2 kf3 kf4 kf5
    clear HK
    have HK := Lib.hid (HK1.out.keep HB.out)
    have HBW : Hid (Below w.heap.size w wr) := Lib.hid (bch' HB0.out HB.out)
    obtain ⟨k0, k1, k2, k3, k4, k5, kf0, kf1, kf2, kf3, kf4, kf5⟩ := HK.out.c6
    by_cases hki : k < i
    · have hkl : k < l.length := by have := HIN.out.le; omega
      have hlt : (k : Int) < (l.length : Int) := by omega
      have hk0 : (0 : Int) ≤ (k : Int) := by omega
      have hun : IntKind.i64.wrap ((k : Int) + 1) = (k : Int) + 1 := IntWalk.i64_in _ (by have := HFEW.out; omega)
      obtain ⟨b, o, rfl, hb, hC⟩ := hv2.out (fun h => by subst h; simp at hkl)
      obtain ⟨x, hx⟩ : ∃ x, x = l[k]'hkl := ⟨_, rfl⟩
      have hcell := hC k hkl
      have hcx := HCN.out k hkl
      rw [← hx] at hcell hcx
      have HCE := Lib.hid hcell; have HX := Lib.hid hx; clear hcell hx
      clear hC
      have y0 : wr.cell? ⟨b, o + k * 6, none⟩ = some (.int .i64 (x.1.ef)) := (HBW.out.cell (p := ⟨b, o + k * 6 + 0, none⟩) hb).trans (HCE.out 0 _ rfl)
      have y1 : wr.cell? ⟨b, o + k * 6 + 1, none⟩ = some (.slice x.2.1 x.2.2.1 x.2.2.2) := (HBW.out.cell (p := ⟨b, o + k * 6 + 1, none⟩) hb).trans (HCE.out 1 _ rfl)
      have y2 : wr.cell? ⟨b, o + k * 6 + 2, none⟩ = some (.int .i64 (x.1.ce)) := (HBW.out.cell (p := ⟨b, o + k * 6 + 2, none⟩) hb).trans (HCE.out 2 _ rfl)
      have y3 : wr.cell? ⟨b, o + k * 6 + 3, none⟩ = some (.int .i64 (x.1.cr)) := (HBW.out.cell (p := ⟨b, o + k * 6 + 3, none⟩) hb).trans (HCE.out 3 _ rfl)
      have y4 : wr.cell? ⟨b, o + k * 6 + 4, none⟩ = some (.int .i64 (x.1.cd)) := (HBW.out.cell (p := ⟨b, o + k * 6 + 4, none⟩) hb).trans (HCE.out 4 _ rfl)
      have y5 : wr.cell? ⟨b, o + k * 6 + 5, none⟩ = some (.int .i64 (x.1.cl)) := (HBW.out.cell (p := ⟨b, o + k * 6 + 5, none⟩) hb).trans (HCE.out 5 _ rfl)
      have hbr : b < wr.heap.size := by have := HBW.out.size; omega
      have hbf : x.1.ef < x0.1.ef := by have := HIN.out.bef k hki; omega
      clear hcx
      go_upto_region 3 with fail
      have f0 := fun p : BelowOf _ => (HK.out.keep p.h).c6.1
      have g0 := fun p : BelowOf _ => BelowOf.cell hbr y0 p
      have e0 := fun p : BelowOf _ => Nat.lt_of_lt_of_le hbr p.h.size
      refine wp_region_WQ (by kernel_rfl) (by kernel_rfl) ?_
      repeat (refine WQ.step (fun K hK => ?_); go_simp; first | (refine hK.out _ ?_; clear hK K) | (apply Exists.intro; refine ⟨fun _ => ?_, hK.out _ ?_⟩; (first | rfl); clear hK K))
      refine WQ.nil ?_
      intro Wq hw'
      obtain ⟨⟨wq, hbq⟩, hw2⟩ := hw'
      subst hw2
      replace HO := Lib.hid (HO.out.keep hbq)
      replace HB := Lib.hid (bch' HB.out hbq)
      clear f0 g0 e0
      clear k0 k1 k2 k3 k4 k5 kf0 kf1 kf2 kf3 kf4 kf5
      clear HK HBW
      clear y0 y1 y2 y3 y4 y5 hbr
      have HK := Lib.hid (HK1.out.keep HB.out)
      have HBW : Hid (Below w.heap.size w Wq) := Lib.hid (bch' HB0.out HB.out)
      obtain ⟨k0, k1, k2, k3, k4, k5, kf0, kf1, kf2, kf3, kf4, kf5⟩ := HK.out.c6
      have y0 : Wq.cell? ⟨b, o + k * 6, none⟩ = some (.int .i64 (x.1.ef)) := (HBW.out.cell (p := ⟨b, o + k * 6 + 0, none⟩) hb).trans (HCE.out 0 _ rfl)
      have y1 : Wq.cell? ⟨b, o + k * 6 + 1, none⟩ = some (.slice x.2.1 x.2.2.1 x.2.2.2) := (HBW.out.cell (p := ⟨b, o + k * 6 + 1, none⟩) hb).trans (HCE.out 1 _ rfl)
      have y2 : Wq.cell? ⟨b, o + k * 6 + 2, none⟩ = some (.int .i64 (x.1.ce)) := (HBW.out.cell (p := ⟨b, o + k * 6 + 2, none⟩) hb).trans (HCE.out 2 _ rfl)
      have y3 : Wq.cell? ⟨b, o + k * 6 + 3, none⟩ = some (.int .i64 (x.1.cr)) := (HBW.out.cell (p := ⟨b, o + k * 6 + 3, none⟩) hb).trans (HCE.out 3 _ rfl)
      have y4 : Wq.cell? ⟨b, o + k * 6 + 4, none⟩ = some (.int .i64 (x.1.cd)) := (HBW.out.cell (p := ⟨b, o + k * 6 + 4, none⟩) hb).trans (HCE.out 4 _ rfl)
      have y5 : Wq.cell? ⟨b, o + k * 6 + 5, none⟩ = some (.int .i64 (x.1.cl)) := (HBW.out.cell (p := ⟨b, o + k * 6 + 5, none⟩) hb).trans (HCE.out 5 _ rfl)
      have hbr : b < Wq.heap.size := by have := HBW.out.size; omega
      go_wp2_with (first | (at_builtin; refine wpList_appR3 rfl (.tmp 21) (.tmp 26) 22 rfl w3.heap.size 68 i0 (.agg #[.int .i64 0, .slice none 0 0, .int .i64 0, .int .i64 0, .int .i64 0, .int .i64 0]) 64 Tryz.underlying22 hi hz0 hz1 hz2 rfl (by decide) (by decide) pp cc n ((l.take k)) (HN.out) _ (x) Wq.heap.size (encN_len _) (fun j u hu => cellN _ 68 hu) (encN_one _) rfl (HO.out.keep ((Below.refl _ Wq).alloc (Nat.le_refl _) _)) rfl (by have := HFEW.out; rw [List.length_take]; omega) (by have := HB.out.size; rw [World.size_alloc]; omega) ?_; intro p1 c1 w4 hO3 hb3 _; have HO3 := Lib.hid hO3; have HB3 := Lib.hid (HB.out.trans (((Below.refl _ Wq).alloc (by have := HB.out.size; omega) _).trans hb3)); clear hO3 hb3))
      clear HB
      have HB := HB3; clear HB3
      have HT : Hid (l.take (k + 1) = l.take k ++ [x]) := Lib.hid (by rw [List.take_succ_eq_append_getElem hkl, HX.out])
      go_roundw
      case rel => exact ⟨k + 1, n + 1, p1, c1, by first | rfl | simp, by first | rfl | simp, Lib.hid (by omega), Lib.hid (by rw [HT.out, List.length_append, ← HN.out]; rfl), HB, Lib.hid (by rw [HT.out]; exact HO3.out)⟩
      case measure => first | (simp [intOf]; done) | (simp [intOf]; omega)
    · obtain rfl : i = k := by have := hkle.out; omega
      have hlt : ¬ (i : Int) < (l.length : Int) := by have := HEI.out; omega
      have hdn : decide (i < l.length) = false := decide_eq_false (by have := HEI.out; omega)
      have hnl : ¬ i < l.length := by have := HEI.out; omega
      go_upto_region 3 with fail
      have f0 := fun p : BelowOf _ => (HK.out.keep p.h).c6.1
      refine wp_region_WQ (by kernel_rfl) (by kernel_rfl) ?_
      repeat (refine WQ.step (fun K hK => ?_); go_simp; first | (refine hK.out _ ?_; clear hK K) | (apply Exists.intro; refine ⟨fun _ => ?_, hK.out _ ?_⟩; (first | rfl); clear hK K))
      refine WQ.nil ?_
      intro Wq hw'
      obtain ⟨⟨wq, hbq⟩, hw2⟩ := hw'
      subst hw2
      replace HO := Lib.hid (HO.out.keep hbq)
      replace HB := Lib.hid (bch' HB.out hbq)
      clear f0
      clear k0 k1 k2 k3 k4 k5 kf0 kf1 kf2 kf3 kf4 kf5
      clear HK HBW
      have HK := Lib.hid (HK1.out.keep HB.out)
      have HBW : Hid (Below w.heap.size w Wq) := Lib.hid (bch' HB0.out HB.out)
      obtain ⟨k0, k1, k2, k3, k4, k5, kf0, kf1, kf2, kf3, kf4, kf5⟩ := HK.out.c6
      go_wp2_with (first | (at_builtin; refine wpList_appR3 rfl (.tmp 30) (.tmp 32) 22 rfl w3.heap.size 68 i0 (.agg #[.int .i64 0, .slice none 0 0, .int .i64 0, .int .i64 0, .int .i64 0, .int .i64 0]) 64 Tryz.underlying22 hi hz0 hz1 hz2 rfl (by decide) (by decide) pp cc n ((l.take i)) (HN.out) _ (x0) Wq.heap.size (encN_len _) (fun j u hu => cellN _ 68 hu) (encN_one _) rfl (HO.out.keep ((Below.refl _ Wq).alloc (Nat.le_refl _) _)) rfl (by have := HFEW.out; rw [List.length_take]; omega) (by have := HB.out.size; rw [World.size_alloc]; omega) ?_; intro p1 c1 w4 hO3 hb3 _; have HO3 := Lib.hid hO3; have HB3 := Lib.hid (HB.out.trans (((Below.refl _ Wq).alloc (by have := HB.out.size; omega) _).trans hb3)); clear hO3 hb3))
      have HN1 : Hid (n + 1 = (l.take i ++ [x0]).length) := Lib.hid (by rw [List.length_append, ← HN.out]; rfl)
      clear k0 k1 k2 k3 k4 k5 kf0 kf1 kf2 kf3 kf4 kf5
      clear HK HBW
      have HO := HO3; clear HO3
      clear HB
      have HB := HB3; clear HB3
      have HK := Lib.hid (HK1.out.keep HB.out)
      have HBW : Hid (Below w.heap.size w w4) := Lib.hid (bch' HB0.out HB.out)
      obtain ⟨k0, k1, k2, k3, k4, k5, kf0, kf1, kf2, kf3, kf4, kf5⟩ := HK.out.c6
      have f0 := fun p : BelowOf _ => (HK.out.keep p.h).c6.1
      refine wp_region_WQ (by kernel_rfl) (by kernel_rfl) ?_
      repeat (refine WQ.step (fun K hK => ?_); go_simp; first | (refine hK.out _ ?_; clear hK K) | (apply Exists.intro; refine ⟨fun _ => ?_, hK.out _ ?_⟩; (first | rfl); clear hK K))
      refine WQ.nil ?_
      intro W8 hw'
      obtain ⟨⟨w8, hb8⟩, hw2⟩ := hw'
      subst hw2
      replace HO := Lib.hid (HO.out.keep hb8)
      replace HB := Lib.hid (bch' HB.out hb8)
      clear f0
      clear k0 k1 k2 k3 k4 k5 kf0 kf1 kf2 kf3 kf4 kf5
      clear HK HBW
      have HK := Lib.hid (HK1.out.keep HB.out)
      have HBW : Hid (Below w.heap.size w W8) := Lib.hid (bch' HB0.out HB.out)
      obtain ⟨k0, k1, k2, k3, k4, k5, kf0, kf1, kf2, kf3, kf4, kf5⟩ := HK.out.c6
      have hb1 : (0 : Int) ≤ (i : Int) := by omega
      have hb3 : (i : Int) ≤ (l.length : Int) := by have := HEI.out; omega
      have htn : ((i : Int)).toNat = i := by omega
      have hs0 : l.length - i = 0 := by have := HEI.out; omega
      cases p with
      | none =>
        have hcz : c = 0 := HCZ.out rfl
        subst hcz
        go_wp2_with (first | (at_builtin; refine wpList_appE rfl (.tmp 50) (.tmp 53) 22 rfl w3.heap.size 68 i0 (.agg #[.int .i64 0, .slice none 0 0, .int .i64 0, .int .i64 0, .int .i64 0, .int .i64 0]) 64 Tryz.underlying22 hi hz0 hz1 hz2 rfl (by decide) (by decide) p1 c1 (n + 1) (l.take i ++ [x0]) HN1.out (by simp) _ _ _ rfl HO.out rfl (by first | (intro h; cases h; done) | (intro _; rfl)) (by have := HFEW.out; rw [List.length_append, List.length_take]; simp; omega) (by have := HB.out.size; omega) ?_; intro p2 c2 w5 hO3 hb3; have HO3 := Lib.hid hO3; have HB3 := Lib.hid (HB.out.trans hb3); clear hO3 hb3))
        go_ret
        have HE := Lib.hid (ins_cut0 (l := l) (i := i) (hit := false) (x := x0) (j := i) (by simp) (by have := HEI.out; omega))
        rw [HE.out] at HO3
        have HL : Hid (n + 1 = (insL l i false x0).length) := Lib.hid (by rw [← HE.out, HN1.out])
        rw [HL.out]
        exact ⟨_, _, rfl, HO3.out.lower (by have := HB0.out.size; omega), bch' HB0.out HB3.out⟩
      | some ad =>
        by_cases hcd : c = i
        · go_wp2_with (first | (at_builtin; refine wpList_appE rfl (.tmp 50) (.tmp 53) 22 rfl w3.heap.size 68 i0 (.agg #[.int .i64 0, .slice none 0 0, .int .i64 0, .int .i64 0, .int .i64 0, .int .i64 0]) 64 Tryz.underlying22 hi hz0 hz1 hz2 rfl (by decide) (by decide) p1 c1 (n + 1) (l.take i ++ [x0]) HN1.out (by simp) _ _ _ rfl HO.out rfl (by first | (intro h; cases h; done) | (intro _; rfl)) (by have := HFEW.out; rw [List.length_append, List.length_take]; simp; omega) (by have := HB.out.size; omega) ?_; intro p2 c2 w5 hO3 hb3; have HO3 := Lib.hid hO3; have HB3 := Lib.hid (HB.out.trans hb3); clear hO3 hb3))
          go_ret
          have HE := Lib.hid (ins_cut0 (l := l) (i := i) (hit := false) (x := x0) (j := i) (by simp) (by have := HEI.out; omega))
          rw [HE.out] at HO3
          have HL : Hid (n + 1 = (insL l i false x0).length) := Lib.hid (by rw [← HE.out, HN1.out])
          rw [HL.out]
          exact ⟨_, _, rfl, HO3.out.lower (by have := HB0.out.size; omega), bch' HB0.out HB3.out⟩
        · go_wp2_with (first | (at_builtin; refine wpList_appE rfl (.tmp 50) (.tmp 53) 22 rfl w3.heap.size 68 i0 (.agg #[.int .i64 0, .slice none 0 0, .int .i64 0, .int .i64 0, .int .i64 0, .int .i64 0]) 64 Tryz.underlying22 hi hz0 hz1 hz2 rfl (by decide) (by decide) p1 c1 (n + 1) (l.take i ++ [x0]) HN1.out (by simp) _ _ _ rfl HO.out rfl (by first | (intro h; cases h; done) | (intro _; rfl)) (by have := HFEW.out; rw [List.length_append, List.length_take]; simp; omega) (by have := HB.out.size; omega) ?_; intro p2 c2 w5 hO3 hb3; have HO3 := Lib.hid hO3; have HB3 := Lib.hid (HB.out.trans hb3); clear hO3 hb3))
          go_ret
          have HE := Lib.hid (ins_cut0 (l := l) (i := i) (hit := false) (x := x0) (j := i) (by simp) (by have := HEI.out; omega))
          rw [HE.out] at HO3
          have HL : Hid (n + 1 = (insL l i false x0).length) := Lib.hid (by rw [← HE.out, HN1.out])
          rw [HL.out]
          exact ⟨_, _, rfl, HO3.out.lower (by have := HB0.out.size; omega), bch' HB0.out HB3.out⟩

theorem r28_started (w : World) (l : List RnT) (x0 : RnT) (p : Option Addr) (c : Nat) (i : Nat) (hit : Bool) (hR : RowX encN 6 w p l) (h16 : l.length ≤ 1000000) (hcap : l.length ≤ c) (hcz : p = none → c = 0) (hb9 : Belongs (keyAt (·.ef) (l.map (·.1))) l.length x0.1.ef i hit) :
    Calls Tryz.prog 36 #[.slice p l.length c, .agg #[.int .i64 (x0.1.ef), .slice x0.2.1 x0.2.2.1 x0.2.2.2, .int .i64 (x0.1.ce), .int .i64 (x0.1.cr), .int .i64 (x0.1.cd), .int .i64 (x0.1.cl)]] w fun e w' => ∃ pp cc, e = .returned (.slice pp (insL l i hit x0).length cc) ∧ OwnR encN 6 w.heap.size 68 w' pp cc (insL l i hit x0) ∧ Below w.heap.size w w' := by
  have hcn : ∀ k (hk : k < l.length), (l[k]'hk).1.ef = keyAt (·.ef) (l.map (·.1)) k := fun k hk => by rw [keyAt_at (by rw [List.length_map]; exact hk), List.getElem_map]
  cases hit with
  | true => exact r28_started_hit w l x0 p c _ i hR h16 hcap hcz hcn hb9 (hb9.yes rfl).1
  | false =>
    by_cases h : i < l.length
    · exact r28_started_mid w l x0 p c _ i hR h16 hcap hcz hcn hb9 h
    · exact r28_started_end w l x0 p c _ i hR h16 hcap hcz hcn hb9 (by have := hb9.le; omega)
end Go.Proofs.YtbeojahilbglcaaGreatDoor
namespace Lum
open Go Go.RowKit Go.Shelf
open Go.Lib (decDigits itoa)
theorem step_append_run {P : Program} {ops : Array Oper} {o : Oper} {a : Act} {w : World} {K : Act → World → Prop} {Q : Exit → Act → World → Prop} {E : Prop}
    (hg : o.guard = none) (s x : Operand) (t : TypeId) (hop : o.op = Op.call { callee := Callee.builtin Builtin.append, args := #[s, x], argTypes := #[t, t] })
    (v u : Value) (hs : a.eval s = v) (hx : a.eval x = u) {v' : Value} {w' : World} (hr : (Builtin.append_ #[t, t] o.type #[v, u]).run P w = .ok v' w') (hK : K (a.put o.dst v') w') :
    if Region.wanted o (yielded ops a.tmps) = true then Oper.wp P o a w K Q else E := by
  have hw : Region.wanted o (yielded ops a.tmps) = true := by simp [Region.wanted, hg]
  rw [if_pos hw]
  unfold Oper.wp execOp
  simp only [hop, resolve, invoke, builtin, Sem.run_bind, Sem.run_pure, Result.andThen_ok, List.map_toArray, List.map_cons, List.map_nil, hs, hx, hr]
  exact hK
/-- A list without its element i. -/
def delL {α : Type} (l : List α) (i : Nat) : List α := l.take i ++ l.drop (i + 1)
theorem delL_len {α : Type} {l : List α} {i : Nat} (h : i < l.length) : (delL l i).length = i + (l.length - (i + 1)) := by unfold delL; rw [List.length_append, List.length_take, List.length_drop, Nat.min_eq_left (by omega)]
theorem delL_map {α β : Type} (f : α → β) (l : List α) (i : Nat) : (delL l i).map f = delL (l.map f) i := by unfold delL; rw [List.map_append, List.map_take, List.map_drop]
theorem delL_filter {R : List Rnx} {n : Int} {i : Nat} (hb : Belongs (keyAt (·.ef) R) R.length n i true) : delL R i = R.filter (fun x => x.ef != n) := by
  obtain ⟨hi, hk⟩ := hb.yes rfl
  have hn : ∀ j (hj : j < R.length), j ≠ i → ((R[j]'hj).ef != n) = true := fun j hj g => by
    rw [bne_iff_ne, ← keyAt_at (key := fun x : Rnx => x.ef) hj]
    rcases Nat.lt_or_gt_of_ne g with g | g
    · have := hb.bef j g; omega
    · have := hb.aft j g hj; omega
  unfold delL
  conv => rhs; rw [← List.take_append_drop i R, List.drop_eq_getElem_cons hi, List.filter_append, List.filter_cons, if_neg (by rw [← keyAt_at (key := fun x : Rnx => x.ef) hi, hk]; simp)]
  rw [filter_all, filter_all]
  · intro y hy; obtain ⟨j, hj, h1, rfl⟩ := mem_drop_at hy; exact hn j hj (by omega)
  · intro y hy; obtain ⟨j, hj, h1, rfl⟩ := mem_take_at hy; exact hn j hj (by omega)
theorem miss_filter {R : List Rnx} {n : Int} (h : ∀ j, j < R.length → keyAt (·.ef) R j ≠ n) : R.filter (fun x => x.ef != n) = R := filter_all fun x hx => by
  obtain ⟨j, hj, rfl⟩ := List.getElem_of_mem hx
  rw [bne_iff_ne, ← keyAt_at (key := fun x : Rnx => x.ef) hj]; exact h j hj
/-- What Stop gives. -/
def StpR (R : List Rnx) (n E : Int) (w : World) (e : Ending) (w' : World) : Prop := ∃ v, e = .returned (.tuple #[v, .bool (decide (E = 0) && (R.find? (fun x => x.ef == n)).isSome), .int .i64 E]) ∧ (E = 0 → RunsAt w' v (R.filter (fun x => x.ef != n))) ∧ (¬ E = 0 → v = .slice none 0 0) ∧ Below w.heap.size w w'
theorem hasC_del {W : World} {L : List (Rnx × Sl3)} {i : Nat} (h : HasC W L) : HasC W (delL L i) := fun y hy => by
  unfold delL at hy
  rcases List.mem_append.1 hy with h1 | h1
  · exact h y (List.mem_of_mem_take h1)
  · exact h y (List.mem_of_mem_drop h1)
theorem OwnR.of_del {β : Type} {enc : β → List Value} {k base : Nat} {e : TypeId} {W : World} {g c i q : Nat} {cur : Array Value} {l : List β} (hk : ∀ x, (enc x).length = k) (hi : i < l.length) (hq : q = i + (l.length - (i + 1))) (hb : base ≤ g) (hc : l.length ≤ c) (hm : c ≤ maxLen) (hs : cur.size = c * k) (ht : cur.toList.take (l.length * k) = l.flatMap enc)
    (zs : List Value) (hz : zs.length = (l.length - q) * k) (h : Blk W g e (rowC (rowC cur (i * k) ((l.drop (i + 1)).flatMap enc)) (q * k) zs)) : OwnR enc k base e W (some ⟨g, 0, none⟩) c (delL l i) := by
  have hlA : ((l.take i).flatMap enc).length = i * k := by rw [flat_len hk, List.length_take, Nat.min_eq_left (by omega)]
  have hlD : ((l.drop (i + 1)).flatMap enc).length = (l.length - (i + 1)) * k := by rw [flat_len hk, List.length_drop]
  have hck : l.length * k ≤ c * k := Nat.mul_le_mul_right _ hc
  have hqk : q * k = i * k + (l.length - (i + 1)) * k := by rw [hq, Nat.add_mul]
  have hql : q * k + (l.length - q) * k = l.length * k := by rw [← Nat.add_mul]; congr 1; omega
  have hil : i * k ≤ l.length * k := Nat.mul_le_mul_right _ (by omega)
  have h1 : (rowC cur (i * k) ((l.drop (i + 1)).flatMap enc)).size = cur.size := rowC_size (by rw [hlD]; omega)
  refine OwnR.of_blk hk h hb (by rw [delL_len hi]; omega) hm (by rw [rowC_size (by rw [h1, hz]; omega), h1]; exact hs) ?_
  have hA : cur.toList.take (i * k) = (l.take i).flatMap enc := by
    have := congrArg (List.take (i * k)) ht
    rw [List.take_take, Nat.min_eq_left hil] at this
    rw [this]
    conv => lhs; rw [← List.take_append_drop i l, List.flatMap_append]
    exact List.take_left' hlA
  have e0 : (rowC cur (i * k) ((l.drop (i + 1)).flatMap enc)).toList.take (q * k) = (delL l i).flatMap enc := by
    unfold rowC delL
    rw [List.flatMap_append, hA, hqk]
    exact List.take_left' (by rw [List.length_append, hlA, hlD])
  rw [delL_len hi, ← hq]
  show (rowC (rowC cur (i * k) ((l.drop (i + 1)).flatMap enc)) (q * k) zs).toList.take (q * k) = _
  rw [← e0]
  generalize rowC cur (i * k) ((l.drop (i + 1)).flatMap enc) = c1 at *
  unfold rowC
  have hl : (c1.toList.take (q * k)).length = q * k := by rw [List.length_take, Array.length_toList]; omega
  show List.take (q * k) (List.take (q * k) c1.toList ++ zs ++ List.drop (q * k + zs.length) c1.toList) = _
  rw [List.append_assoc]
  exact List.take_left' hl
end Lum
namespace Go.Proofs.YtbeojahilbglcaaGreatDoor
open Go.RowKit Go.Shelf Lum
open Go.Lib (decDigits itoa)
attribute [local go_sem] bs_get bs_extract_end bs_extract_from bs_extract bs_append

set_option maxRecDepth 100000 in
set_option maxHeartbeats 8000000 in
theorem own_ndelete (l : List RnT) (w : World) (pp : Option Addr) (cc base i : Nat) (hO : OwnR encN 6 base 68 w pp cc l) (hi9 : i < l.length) (hn : l.length ≤ 1000000) :
    Calls Tryz.prog 44 #[.slice pp l.length cc, .int .i64 (i : Int), .int .i64 ((i : Int) + 1)] w fun e w' => ∃ pp' cc', e = .returned (.slice pp' (delL l i).length cc') ∧ OwnR encN 6 base 68 w' pp' cc' (delL l i) ∧ Below base w w' := by
  obtain ⟨i0, hi, hz0, hz1, hz2⟩ := info_parts info_run
  obtain ⟨g, cur, rfl, hg, hgb, hc1, hc2, hc3, hc4⟩ := hO.to_blk (fun h => by subst h; simp at hi9)
  have hcb : (cc : Int) ≤ 9223372036854775807 := by unfold maxLen at hc2; omega
  have HGB := Lib.hid hg; have HC1 := Lib.hid hc1; have HC2 := Lib.hid hc2; have HCS := Lib.hid hc3; have HT := Lib.hid hc4; clear hg hc2 hc3 hc4 hO
  have HND : Hid (((l.drop (i + 1)).flatMap encN).length = (l.length - (i + 1)) * 6) := Lib.hid (by rw [flat_len encN_len, List.length_drop])
  have HCE : Hid (∀ j u, (l.flatMap encN)[j]? = some u → w.drew.cell? ⟨g, j, none⟩ = some u) := Lib.hid (fun j u h => by rw [← HT.out, List.getElem?_take] at h; split at h; (rw [show w.drew.cell? ⟨g, j, none⟩ = cur[j]? from hgb.drew.cell j]; simpa using h); cases h)
  obtain ⟨q, hq⟩ : ∃ q, q = i + (l.length - (i + 1)) := ⟨_, rfl⟩
  have HQ : Hid (i + (l.length - (i + 1)) = q) := Lib.hid hq.symm
  have hi0 : (0 : Int) ≤ (i : Int) := by omega
  have hi1 : (i : Int) ≤ (i : Int) + 1 := by omega
  have hi2 : (i : Int) + 1 ≤ (l.length : Int) := by omega
  have hi4 : (l.length : Int) ≤ (cc : Int) := by omega
  have hi3 : (i : Int) ≤ (cc : Int) := by omega
  have hb1 : (0 : Int) ≤ (i : Int) + 1 := by omega
  have htn : ((i : Int) + 1).toNat = i + 1 := by omega
  have hne : ((i : Int) == (i : Int) + 1) = false := by rw [beq_eq_false_iff_ne]; omega
  have hcz : ¬ cc = 0 := by omega
  by_cases hci : cc = i + 1
  · have HSR : Hid (∀ j u, ((l.drop (i + 1)).flatMap encN)[j]? = some u → w.drew.cell? ⟨g, 0 + j, none⟩ = some u) := Lib.hid (fun j u hu => by rw [List.drop_eq_nil_of_le (by omega)] at hu; simp at hu)
    obtain ⟨W2, hr, hb2, hbl⟩ : ∃ W2, (∀ ty, (Builtin.append_ #[22, 22] ty #[.slice (some ⟨g, 0, none⟩) i cc, .slice (some ⟨g, 0, none⟩) (l.length - (i + 1)) (cc - (i + 1))]).run Tryz.prog w.drew = .ok (.slice (some ⟨g, 0, none⟩) q cc) W2) ∧ Blk W2 g 68 (rowC cur (i * 6) ((l.drop (i + 1)).flatMap encN)) ∧ ∀ B, B ≤ g → Below B w W2 := by
      have h6 : i0.size = 6 := hz1
      refine ⟨_, fun ty => ?_, setRow_heap w.drew g cur _ 68 _ hgb.drew, fun B hB => below_setRow (Below.refl B w).drew hB _⟩
      have h := run_append_room (P := Tryz.prog) (w := w.drew) 22 ty 68 i0 Tryz.underlying22 hi g i cc cur hgb.drew ⟨g, 0, none⟩ (l.length - (i + 1)) (cc - (i + 1)) ((l.drop (i + 1)).flatMap encN) (by rw [h6]; exact HND.out) (fun j u hu => by rw [addr_add]; exact HSR.out j u hu) (fun v hv => by obtain ⟨y, hy, hu⟩ := List.mem_flatMap.1 hv; exact encN_one y v hu) (by omega) (by rw [h6, HND.out, HCS.out]; omega)
      rw [h6] at h
      rw [h, HQ.out]
      rfl
    have HR := Lib.hid hr; have HB2 := Lib.hid hb2; have HBL := Lib.hid hbl; clear hr hb2 hbl
    obtain ⟨W3, cs, hclr, hcl, hbk3, hbl3⟩ := clearK (P := Tryz.prog) W2 22 68 (.agg #[.int .i64 0, .slice none 0 0, .int .i64 0, .int .i64 0, .int .i64 0, .int .i64 0]) 6 g (q * 6) (l.length - q) (cc - q) (rowC cur (i * 6) ((l.drop (i + 1)).flatMap encN)) Tryz.underlying22 (fun _ => by kernel_rfl) rfl (by decide) HB2.out (by omega) (by rw [rowC_size (by rw [HND.out, HCS.out]; omega), HCS.out]; omega)
    have HFI : Hid (OwnR encN 6 base 68 W3 (some ⟨g, 0, none⟩) cc (delL l i)) := Lib.hid (OwnR.of_del encN_len hi9 HQ.out.symm HGB.out HC1.out HC2.out HCS.out HT.out cs hcl hbk3)
    have HCL := Lib.hid hclr; have HB4 : Hid (Below base w W3) := Lib.hid ((HBL.out base HGB.out).trans (hbl3 base HGB.out))
    clear hclr hcl hbk3 hbl3
    have HQ2 : Hid ((delL l i).length = q) := Lib.hid ((delL_len hi9).trans HQ.out)
    clear hgb
    rw [hci] at HCL HFI
    have hqc : ¬ cc = q := by omega
    have hq0 : (0 : Int) ≤ (q : Int) := by omega
    have hql : (q : Int) ≤ (l.length : Int) := by omega
    have hil : ¬ l.length = i := by omega
    clear hq
    go_enter Tryz.func44, Tryz.ntmps44
    go_upto_region 5 with fail
    go_region_law (refine step_append_run rfl (.tmp 22) (.tmp 25) 22 rfl _ _ (by simp [Act.eval, Act.put, hci]) (by simp [Act.eval, Act.put, hci]) (HR.out _) ?_)
    go_wp2_with (first | (with_reducible refine wpList_clear_run _ rfl (.tmp 31) 22 rfl _ rfl (HCL.out _) ?_))
    go_ret
    rw [← HQ2.out]
    exact ⟨_, _, rfl, HFI.out, HB4.out⟩
  · have HSR : Hid (∀ j u, ((l.drop (i + 1)).flatMap encN)[j]? = some u → w.drew.cell? ⟨g, (i + 1) * 6 + j, none⟩ = some u) := Lib.hid (fun j u hu => by have h9 := HCE.out _ u (flat_drop_get encN_len hu); exact h9)
    obtain ⟨W2, hr, hb2, hbl⟩ : ∃ W2, (∀ ty, (Builtin.append_ #[22, 22] ty #[.slice (some ⟨g, 0, none⟩) i cc, .slice (some ⟨g, (i + 1) * 6, none⟩) (l.length - (i + 1)) (cc - (i + 1))]).run Tryz.prog w.drew = .ok (.slice (some ⟨g, 0, none⟩) q cc) W2) ∧ Blk W2 g 68 (rowC cur (i * 6) ((l.drop (i + 1)).flatMap encN)) ∧ ∀ B, B ≤ g → Below B w W2 := by
      have h6 : i0.size = 6 := hz1
      refine ⟨_, fun ty => ?_, setRow_heap w.drew g cur _ 68 _ hgb.drew, fun B hB => below_setRow (Below.refl B w).drew hB _⟩
      have h := run_append_room (P := Tryz.prog) (w := w.drew) 22 ty 68 i0 Tryz.underlying22 hi g i cc cur hgb.drew ⟨g, (i + 1) * 6, none⟩ (l.length - (i + 1)) (cc - (i + 1)) ((l.drop (i + 1)).flatMap encN) (by rw [h6]; exact HND.out) (fun j u hu => by rw [addr_add]; exact HSR.out j u hu) (fun v hv => by obtain ⟨y, hy, hu⟩ := List.mem_flatMap.1 hv; exact encN_one y v hu) (by omega) (by rw [h6, HND.out, HCS.out]; omega)
      rw [h6] at h
      rw [h, HQ.out]
      rfl
    have HR := Lib.hid hr; have HB2 := Lib.hid hb2; have HBL := Lib.hid hbl; clear hr hb2 hbl
    obtain ⟨W3, cs, hclr, hcl, hbk3, hbl3⟩ := clearK (P := Tryz.prog) W2 22 68 (.agg #[.int .i64 0, .slice none 0 0, .int .i64 0, .int .i64 0, .int .i64 0, .int .i64 0]) 6 g (q * 6) (l.length - q) (cc - q) (rowC cur (i * 6) ((l.drop (i + 1)).flatMap encN)) Tryz.underlying22 (fun _ => by kernel_rfl) rfl (by decide) HB2.out (by omega) (by rw [rowC_size (by rw [HND.out, HCS.out]; omega), HCS.out]; omega)
    have HFI : Hid (OwnR encN 6 base 68 W3 (some ⟨g, 0, none⟩) cc (delL l i)) := Lib.hid (OwnR.of_del encN_len hi9 HQ.out.symm HGB.out HC1.out HC2.out HCS.out HT.out cs hcl hbk3)
    have HCL := Lib.hid hclr; have HB4 : Hid (Below base w W3) := Lib.hid ((HBL.out base HGB.out).trans (hbl3 base HGB.out))
    clear hclr hcl hbk3 hbl3
    have HQ2 : Hid ((delL l i).length = q) := Lib.hid ((delL_len hi9).trans HQ.out)
    clear hgb
    have hqc : ¬ cc = q := by omega
    have hq0 : (0 : Int) ≤ (q : Int) := by omega
    have hql : (q : Int) ≤ (l.length : Int) := by omega
    have hil : ¬ l.length = i := by omega
    clear hq
    go_enter Tryz.func44, Tryz.ntmps44
    go_upto_region 5 with fail
    go_region_law (refine step_append_run rfl (.tmp 22) (.tmp 25) 22 rfl _ _ (by simp [Act.eval, Act.put, hci]) (by simp [Act.eval, Act.put, hci]) (HR.out _) ?_)
    go_wp2_with (first | (with_reducible refine wpList_clear_run _ rfl (.tmp 31) 22 rfl _ rfl (HCL.out _) ?_))
    go_ret
    rw [← HQ2.out]
    exact ⟨_, _, rfl, HFI.out, HB4.out⟩

set_option maxRecDepth 100000 in
set_option maxHeartbeats 4000000 in
theorem own_estop (R : List Rnx) (u : Value) (n : Int) (w : World) (hr : RunsAt w u R) (n0 : -9223372036854775808 ≤ n) (n1 : n ≤ 9223372036854775807) :
    Calls Tryz.prog 15 #[u, .int .i64 n] w (StpR R n (rnsE R) w) := by
  have hru := fun W (h : RunsAt W u R) => own_eruns R u W h
  change ∀ W, RunsAt W u R → Calls _ _ _ _ (fun e w' => e = .returned (.int .i64 (rnsE R)) ∧ _) at hru
  have HN := Lib.hid hr
  have HB := Lib.hid (Below.refl w.heap.size w)
  by_cases hz : rnsE R = 0
  · have hok := ordOk (show ordE rnE (·.ef) R = 0 from hz)
    obtain ⟨i, hit, hq⟩ := belongs_key hok n
    cases hit with
    | false =>
      have hfi := fun W (h : RunsAt W u R) => (show Calls Tryz.prog 40 #[u, .int .i64 n, .func (.func 38) #[] #[]] W fun e w' => ∃ i : Nat, e = .returned (.tuple #[.int .i64 (i : Int), .bool false]) ∧ Below W.heap.size W w' from by
        obtain ⟨M, p, c, rfl, hM, hRX, -⟩ := h
        exact own_find_run_no n R M p c W hM hRX hok n0 n1 hq.miss)
      rw [hz] at hru ⊢
      have HQ : Hid ((R.find? (fun x => x.ef == n)).isSome = false) := Lib.hid (by rw [find_miss hq.miss]; rfl)
      have HF := Lib.hid (miss_filter hq.miss)
      clear hz hr hok hq
      have HRU := Lib.hid hru; clear hru
      have HFI := Lib.hid hfi; clear hfi
      go_enter Tryz.func15, Tryz.ntmps15
      go_wp2_with (first | (with_reducible refine ((HRU.out _ HN.out).mono ?_); rintro e w' ⟨rfl, hb⟩; replace HN := Lib.hid (RunsAt.kept HN.out hb); replace HB := Lib.hid (bch' HB.out hb); clear hb) | (with_reducible refine ((HFI.out _ HN.out).mono ?_); rintro e w' ⟨i, rfl, hb⟩; replace HN := Lib.hid (RunsAt.kept HN.out hb); replace HB := Lib.hid (bch' HB.out hb); clear hb))
      go_ret3
      exact ⟨_, by rw [HQ.out]; rfl, fun _ => by rw [HF.out]; exact HN.out, fun h => absurd rfl h, HB.out⟩
    | true =>
      have hb9 := hq
      have hil0 := (hb9.yes rfl).1
      have hn : 1 ≤ n ∧ n ≤ 1048576 := by have := (hb9.yes rfl).2; have := rns_key hok i hil0; omega
      have hfi := fun W (h : RunsAt W u R) => (show Calls Tryz.prog 40 #[u, .int .i64 n, .func (.func 38) #[] #[]] W fun e w' => e = .returned (.tuple #[.int .i64 (i : Int), .bool true]) ∧ Below W.heap.size W w' from by
        obtain ⟨M, p, c, rfl, hM, hRX, -⟩ := h
        exact own_find_run_at n R M p c W hM hRX hok hn i true hb9)
      have hfew := hok.few
      obtain ⟨M, pm, cm, rfl, hM, hMR, hMC⟩ := hr
      have hil : i < M.length := by rw [← hM, List.length_map] at hil0; exact hil0
      have hml : M.length ≤ 1000000 := by rw [← hM, List.length_map] at hfew; omega
      have hcl := fun W (h : RowX encN 6 W pm M) => own_nclone W M pm cm h hml
      have hde := fun W (p : Option Addr) (c base : Nat) (h : OwnR encN 6 base 68 W p c M) => own_ndelete M W p c base i h hil hml
      have HRX : Hid (∀ W, Below w.heap.size w W → RowX encN 6 W pm M) := Lib.hid fun W h => hMR.kept h
      have HMC : Hid (∀ W, Below w.heap.size w W → HasC W M) := Lib.hid fun W h => hMC.kept h
      have HML : Hid ((delL M i).map (·.1) = R.filter (fun x => x.ef != n)) := Lib.hid (by rw [delL_map, hM]; exact delL_filter hb9)
      have HQ : Hid ((R.find? (fun x => x.ef == n)).isSome = true) := Lib.hid (by rw [hq.find]; rfl)
      have hw1 : IntKind.i64.wrap ((i : Int) + 1) = (i : Int) + 1 := IntWalk.i64_in _ (by omega)
      rw [hz] at hru ⊢
      clear hz hM hMR hMC hok hq hfew hb9 hil0 hn
      have HRU := Lib.hid hru; clear hru
      have HFI := Lib.hid hfi; clear hfi
      have HCL := Lib.hid hcl; clear hcl
      have HDE := Lib.hid hde; clear hde
      go_enter Tryz.func15, Tryz.ntmps15
      go_wp2_with (first | (with_reducible refine ((HRU.out _ HN.out).mono ?_); rintro e w' ⟨rfl, hb⟩; replace HN := Lib.hid (RunsAt.kept HN.out hb); replace HB := Lib.hid (bch' HB.out hb); clear hb) | (with_reducible refine ((HFI.out _ HN.out).mono ?_); rintro e w' ⟨rfl, hb⟩; replace HN := Lib.hid (RunsAt.kept HN.out hb); replace HB := Lib.hid (bch' HB.out hb); clear hb) | (with_reducible refine ((HCL.out _ (HRX.out _ HB.out)).mono ?_); rintro e w3 ⟨p1, c1, rfl, ho, hb⟩; have HO := Lib.hid ho; have HSZ := Lib.hid HB.out.size; clear ho; replace HN := Lib.hid (RunsAt.kept HN.out hb); replace HB := Lib.hid (bch' HB.out hb); clear hb) | (with_reducible refine ((HDE.out _ _ _ _ HO.out).mono ?_); rintro e w4 ⟨p2, c2, rfl, ho, hb⟩; have HO2 := Lib.hid ho; clear ho; clear HN; replace HB := Lib.hid (HB.out.trans (hb.mono HSZ.out)); clear hb))
      go_ret3
      exact ⟨_, by rw [HQ.out]; rfl, fun _ => runsAt_of HO2.out HML.out (hasC_del (HMC.out _ HB.out)), fun h => absurd rfl h, HB.out⟩
  · have HE : Hid (¬ rnsE R = 0) := Lib.hid hz
    have hne : ((rnsE R : Int) != 0) = true := by simpa using hz
    clear hz hr
    generalize rnsE R = m at *
    have HRU := Lib.hid hru; clear hru
    go_enter Tryz.func15, Tryz.ntmps15
    go_wp2_with (first | (with_reducible refine ((HRU.out _ HN.out).mono ?_); rintro e w' ⟨rfl, hb⟩; replace HN := Lib.hid (RunsAt.kept HN.out hb); replace HB := Lib.hid (bch' HB.out hb); clear hb))
    go_ret3
    exact ⟨_, by rw [decide_eq_false HE.out]; rfl, fun h => absurd h HE.out, fun _ => rfl, HB.out⟩
end Go.Proofs.YtbeojahilbglcaaGreatDoor
namespace Go.Proofs.YtbeojahilbglcaaGreatDoor
open Go.RowKit Go.Shelf Lum
open Go.Lib (decDigits itoa)
attribute [local go_sem] bs_get bs_extract_end bs_extract_from bs_extract bs_append

set_option maxRecDepth 100000 in
set_option maxHeartbeats 8000000 in
theorem r28_stopped (w : World) (l : List RnT) (p : Option Addr) (c : Nat) (n : Int) (hR : RowX encN 6 w p l) (h16 : l.length ≤ 1000000) :
    Calls Tryz.prog 46 #[.slice p l.length c, .int .i64 n] w fun e w' => ∃ pp cc, e = .returned (.slice pp (l.filter (fun x : RnT => x.1.ef != n)).length cc) ∧ OwnR encN 6 w.heap.size 68 w' pp cc (l.filter (fun x : RnT => x.1.ef != n)) ∧ Below w.heap.size w w' := by
  have HFEW := Lib.hid h16; have hv2 := Lib.hid hR; clear h16 hR
  obtain ⟨i0, hi, hz0, hz1, hz2⟩ := info_parts info_run
  have HB := Lib.hid (Below.refl w.heap.size w)
  go_enter Tryz.func46, Tryz.ntmps46
  go_wp2_with fail
  go_loopw [5, 6] (fun s j wr => ∃ (k r : Nat) (pp : Option Addr) (cc : Nat) (m : Nat), s = .slice pp m cc ∧ j = .int .i64 (k : Int) ∧ Hid (k + r = l.length) ∧ Hid (m = ((l.take k).filter (fun x : RnT => x.1.ef != n)).length) ∧ Hid (Below w.heap.size w wr) ∧ Hid (OwnR encN 6 w.heap.size 68 wr pp cc ((l.take k).filter (fun x : RnT => x.1.ef != n)))) (fun _ j _ => l.length - (intOf j).toNat)
  case atStart => exact ⟨0, l.length, none, 0, 0, rfl, rfl, Lib.hid (by omega), Lib.hid (by simp), HB, Lib.hid (by rw [List.take_zero]; exact OwnR.nil _ _ _)⟩
  case round =>
    clear HB
    obtain ⟨k, r, pp, cc, m, rfl, rfl, hkr, HN, HB, HO⟩ := hrel
    cases r with
    | zero =>
      have hlt : ¬ (k : Int) < (l.length : Int) := by have := hkr.out; omega
      obtain rfl : k = l.length := by have := hkr.out; omega
      rw [List.take_length] at HN HO
      have HN2 := HN; clear HN
      go_wp2_with fail
      go_ret
      obtain rfl := HN2.out
      exact ⟨_, _, rfl, HO.out, HB.out⟩
    | succ r =>
      have hkl : k < l.length := by have := hkr.out; omega
      have hlt : (k : Int) < (l.length : Int) := by omega
      have hk0 : (0 : Int) ≤ (k : Int) := by omega
      have hun : IntKind.i64.wrap ((k : Int) + 1) = (k : Int) + 1 := IntWalk.i64_in _ (by have := HFEW.out; omega)
      obtain ⟨b, o, rfl, hb, hC⟩ := hv2.out (fun h => by subst h; simp at hkl)
      obtain ⟨x, hx⟩ : ∃ x, x = l[k]'hkl := ⟨_, rfl⟩
      have hcell := hC k hkl
      rw [← hx] at hcell
      have y0 : wr.cell? ⟨b, o + k * 6, none⟩ = some (.int .i64 (x.1.ef)) := (HB.out.cell (p := ⟨b, o + k * 6 + 0, none⟩) hb).trans (hcell 0 _ rfl)
      have y1 : wr.cell? ⟨b, o + k * 6 + 1, none⟩ = some (.slice x.2.1 x.2.2.1 x.2.2.2) := (HB.out.cell (p := ⟨b, o + k * 6 + 1, none⟩) hb).trans (hcell 1 _ rfl)
      have y2 : wr.cell? ⟨b, o + k * 6 + 2, none⟩ = some (.int .i64 (x.1.ce)) := (HB.out.cell (p := ⟨b, o + k * 6 + 2, none⟩) hb).trans (hcell 2 _ rfl)
      have y3 : wr.cell? ⟨b, o + k * 6 + 3, none⟩ = some (.int .i64 (x.1.cr)) := (HB.out.cell (p := ⟨b, o + k * 6 + 3, none⟩) hb).trans (hcell 3 _ rfl)
      have y4 : wr.cell? ⟨b, o + k * 6 + 4, none⟩ = some (.int .i64 (x.1.cd)) := (HB.out.cell (p := ⟨b, o + k * 6 + 4, none⟩) hb).trans (hcell 4 _ rfl)
      have y5 : wr.cell? ⟨b, o + k * 6 + 5, none⟩ = some (.int .i64 (x.1.cl)) := (HB.out.cell (p := ⟨b, o + k * 6 + 5, none⟩) hb).trans (hcell 5 _ rfl)
      have hbr : b < wr.heap.size := by have := HB.out.size; omega
      clear hcell hC hb
      by_cases hpx : x.1.ef ≠ n
      · have hp : (x.1.ef != n) = true := by rw [bne_iff_ne]; exact hpx
        have HT : Hid (((l.take (k + 1)).filter (fun x : RnT => x.1.ef != n)) = ((l.take k).filter (fun x : RnT => x.1.ef != n)) ++ [x]) := Lib.hid ((filt_yes hkl (by rw [← hx]; exact hp)).trans (by rw [hx]))
        clear hx
        go_wp2_with (first | (at_builtin; refine wpList_appR3 rfl (.tmp 20) (.tmp 25) 22 rfl w.heap.size 68 i0 (.agg #[.int .i64 0, .slice none 0 0, .int .i64 0, .int .i64 0, .int .i64 0, .int .i64 0]) 64 Tryz.underlying22 hi hz0 hz1 hz2 rfl (by decide) (by decide) pp cc m (((l.take k).filter (fun x : RnT => x.1.ef != n))) (HN.out) _ (x) wr.heap.size (encN_len _) (fun j u hu => cellN _ 68 hu) (encN_one _) rfl (HO.out.keep ((Below.refl _ wr).alloc (Nat.le_refl _) _)) rfl (by have := filt_le (fun x : RnT => x.1.ef != n) l k; have := HFEW.out; omega) (by have := HB.out.size; rw [World.size_alloc]; omega) ?_; intro p1 c1 w4 hO3 hb3 _; have HO3 := Lib.hid hO3; have HB3 := Lib.hid (HB.out.trans (((Below.refl _ wr).alloc (by have := HB.out.size; omega) _).trans hb3)); clear hO3 hb3))
        clear HB
        have HB := HB3; clear HB3
        go_roundw
        case rel => exact ⟨k + 1, r, p1, c1, m + 1, by first | rfl | simp, by first | rfl | simp, Lib.hid (by have := hkr.out; omega), Lib.hid (by rw [HT.out, List.length_append, ← HN.out]; rfl), HB, Lib.hid (by rw [HT.out]; exact HO3.out)⟩
        case measure => first | (simp [intOf]; done) | (simp [intOf]; omega)
      · have hp : (x.1.ef != n) = false := by rw [bne_eq_false_iff_eq]; exact Decidable.not_not.1 hpx
        have HT : Hid (((l.take (k + 1)).filter (fun x : RnT => x.1.ef != n)) = ((l.take k).filter (fun x : RnT => x.1.ef != n))) := Lib.hid (filt_not hkl (by rw [← hx]; exact hp))
        clear hx
        go_wp2_with fail
        go_roundw
        case rel => exact ⟨k + 1, r, pp, cc, m, by first | rfl | simp, by first | rfl | simp, Lib.hid (by have := hkr.out; omega), Lib.hid (by rw [HT.out]; exact HN.out), HB, Lib.hid (by rw [HT.out]; exact HO.out)⟩
        case measure => first | (simp [intOf]; done) | (simp [intOf]; omega)

set_option maxRecDepth 100000 in
set_option maxHeartbeats 4000000 in
theorem r28_start (R : List Rnx) (u : Value) (n t : Int) (cs : List Int) (p : Option Addr) (m c : Nat) (w : World) (hr : RunsAt w u R) (hs : SlOk u) (hi : IntsAt w (.slice p m c) cs) (hcap : cs.length ≤ c) :
    Calls Tryz.prog 9 #[u, .int .i64 n, .slice p m c, .int .i64 t] w (StR R (stE R n cs t) (newR n cs t) w) := by
  have hru := fun W (h : RunsAt W u R) => r28_runs R u W h
  change ∀ W, RunsAt W u R → Calls _ _ _ _ (fun e w' => e = .returned (.int .i64 (rnsE R)) ∧ _) at hru
  have hnw := fun W => r23_new t W
  have HN := Lib.hid hr; have HI := Lib.hid hi
  have HB := Lib.hid (Below.refl w.heap.size w)
  have hm := hi.len
  subst hm
  by_cases hz : rnsE R = 0
  · cases ht : wiB t 0 10000000
    · have HE : Hid (¬ (2 : Int) = 0) := Lib.hid (by decide)
      rw [stE_time hz ht]
      rw [hz] at hru
      rw [if_neg (by rw [ht]; decide), if_neg (by rw [ht]; decide)] at hnw
      dsimp only [clkV] at hnw
      clear hz ht hr hi
      have HRU := Lib.hid hru; clear hru
      have HNW := Lib.hid hnw; clear hnw
      go_enter Tryz.func9, Tryz.ntmps9
      go_wp2_with (first | (with_reducible refine ((HRU.out _ HN.out).mono ?_); rintro e w' ⟨rfl, hb⟩; replace HN := Lib.hid (RunsAt.kept HN.out hb); replace HI := Lib.hid (IntsAt.below HI.out hb); replace HB := Lib.hid (bch' HB.out hb); clear hb) | (with_reducible refine ((HNW.out _).mono ?_); rintro e w2 ⟨rfl, hb⟩; replace HN := Lib.hid (RunsAt.kept HN.out hb); replace HI := Lib.hid (IntsAt.below HI.out hb); replace HB := Lib.hid (bch' HB.out hb); clear hb))
      go_ret2
      exact ⟨_, rfl, fun h => absurd h HE.out, fun _ => rfl, (HB.out.alloc HB.out.size _)⟩
    · by_cases hx : rnE (newR n cs t) = 0
      · by_cases hl : 16 < (putL R (newR n cs t)).length
        · rw [hz] at hru
          rw [if_pos ht, if_pos ht] at hnw
          dsimp only [clkV] at hnw
          have hrn := fun W (h : IntsAt W (.slice p cs.length c) cs) => r28_run n 0 100 1 t cs p cs.length c W h
          change ∀ W (h : IntsAt W (.slice p cs.length c) cs), Calls _ _ _ _ (fun e w' => e = .returned (.int .i64 (rnE (newR n cs t))) ∧ _) at hrn
          rw [hx] at hrn
          have HRU := Lib.hid hru; clear hru
          have HNW := Lib.hid hnw; clear hnw
          have HRN := Lib.hid hrn; clear hrn
          have hok := ordOk (show ordE rnE (·.ef) R = 0 from hz)
          obtain ⟨p0, n0, c0, he, hc1, hc2⟩ := hs
          obtain ⟨M, pm, cm, rfl, hM, hMR, hMC⟩ := hr
          injection he with e1 e2 e3
          subst e1 e2 e3
          have hfew : M.length ≤ 1000000 := by have := hok.few; rw [← hM, List.length_map] at this; omega
          obtain ⟨i, hit, hb9⟩ := belongs_key hok n
          have hst := fun W (h : RowX encN 6 W pm M) => r28_started W M (newR n cs t, ((p : Option Addr), cs.length, (c : Nat))) pm cm i hit h hfew hc1 hc2 (by rw [hM]; show Belongs _ M.length n i hit; rw [← List.length_map (f := fun x : Rnx × Sl3 => x.1), hM]; exact hb9)
          have HRX : Hid (∀ W, Below w.heap.size w W → RowX encN 6 W pm M) := Lib.hid fun W h => hMR.kept h
          have HMC : Hid (∀ W, Below w.heap.size w W → HasC W M) := Lib.hid fun W h => hMC.kept h
          have hpl : (insL M i hit (newR n cs t, ((p : Option Addr), cs.length, (c : Nat)))).map (·.1) = putL R (newR n cs t) := by rw [insL_map, hM]; exact insL_putL (x := newR n cs t) hb9
          have hll : (insL M i hit (newR n cs t, ((p : Option Addr), cs.length, (c : Nat)))).length = (putL R (newR n cs t)).length := by rw [← hpl, List.length_map]
          have HPL := Lib.hid hpl; clear hpl
          have hlq : (16 : Int) < ((insL M i hit (newR n cs t, ((p : Option Addr), cs.length, (c : Nat)))).length : Int) := by omega
          rw [stE_many hz ht hx hl]
          have HCC := Lib.hid hcap
          clear hz ht hx hok hb9 hMR hMC hM hl hll hi hc1 hc2 hfew
          have HST := Lib.hid hst; clear hst
          go_enter Tryz.func9, Tryz.ntmps9
          go_upto_region 5 with (first | (with_reducible refine ((HRU.out _ HN.out).mono ?_); rintro e w' ⟨rfl, hb⟩; replace HN := Lib.hid (RunsAt.kept HN.out hb); replace HI := Lib.hid (IntsAt.below HI.out hb); replace HB := Lib.hid (bch' HB.out hb); clear hb) | (with_reducible refine ((HNW.out _).mono ?_); rintro e w2 ⟨rfl, hb⟩; replace HN := Lib.hid (RunsAt.kept HN.out hb); replace HI := Lib.hid (IntsAt.below HI.out hb); replace HB := Lib.hid (bch' HB.out hb); clear hb))
          have hb := (Below.refl w2.heap.size w2).alloc (Nat.le_refl _) (.cells #[.int .i64 0, .int .i64 100, .int .i64 1, .int .i64 t] 66)
          have HC := Lib.hid (Blk.new w2 66 #[.int .i64 0, .int .i64 100, .int .i64 1, .int .i64 t])
          replace HN := Lib.hid (RunsAt.kept HN.out hb); replace HI := Lib.hid (IntsAt.below HI.out hb); replace HB := Lib.hid (bch' HB.out hb); clear hb
          obtain ⟨g, hg⟩ : ∃ g, g = w2.heap.size := ⟨_, rfl⟩
          obtain ⟨W1, hW1⟩ : ∃ X, X = w2.alloc (.cells #[.int .i64 0, .int .i64 100, .int .i64 1, .int .i64 t] 66) := ⟨_, rfl⟩
          rw [← hg] at HC ⊢
          rw [← hW1] at HB HN HI HC ⊢
          clear hg hW1
          obtain ⟨d0, d1, d2, d3, df0, df1, df2, df3⟩ := HC.out.c4
          go_upto_region 8 with fail
          clear d0 d1 d2 d3 df0 df1 df2 df3
          clear HC
          have hb := (Below.refl W1.heap.size W1).alloc (Nat.le_refl _) (.cells #[.int .i64 n, .slice p cs.length c, .int .i64 0, .int .i64 100, .int .i64 1, .int .i64 t] 68)
          have HX := Lib.hid (Blk.new W1 68 #[.int .i64 n, .slice p cs.length c, .int .i64 0, .int .i64 100, .int .i64 1, .int .i64 t])
          replace HN := Lib.hid (RunsAt.kept HN.out hb); replace HI := Lib.hid (IntsAt.below HI.out hb); replace HB := Lib.hid (bch' HB.out hb); clear hb
          obtain ⟨g7, hg⟩ : ∃ g, g = W1.heap.size := ⟨_, rfl⟩
          obtain ⟨W7, hW1⟩ : ∃ X, X = W1.alloc (.cells #[.int .i64 n, .slice p cs.length c, .int .i64 0, .int .i64 100, .int .i64 1, .int .i64 t] 68) := ⟨_, rfl⟩
          rw [← hg] at HX ⊢
          rw [← hW1] at HB HN HI HX ⊢
          clear hg hW1
          obtain ⟨x0, x1, x2, x3, x4, x5, xf0, xf1, xf2, xf3, xf4, xf5⟩ := HX.out.c6
          go_upto_region 11 with (first | (with_reducible refine ((HRN.out _ HI.out).mono ?_); rintro e w8 ⟨rfl, hb⟩; replace HX := Lib.hid (HX.out.keep hb); clear x0 x1 x2 x3 x4 x5 xf0 xf1 xf2 xf3 xf4 xf5; replace HN := Lib.hid (RunsAt.kept HN.out hb); replace HI := Lib.hid (IntsAt.below HI.out hb); replace HB := Lib.hid (bch' HB.out hb); clear hb; obtain ⟨x0, x1, x2, x3, x4, x5, xf0, xf1, xf2, xf3, xf4, xf5⟩ := HX.out.c6))
          go_upto_region 12 with (first | (with_reducible refine ((HST.out _ (HRX.out _ HB.out)).mono ?_); rintro e w7 ⟨p7, c7, rfl, ho, hb⟩; have HO := Lib.hid ho; clear ho; replace HX := Lib.hid (HX.out.keep hb); clear x0 x1 x2 x3 x4 x5 xf0 xf1 xf2 xf3 xf4 xf5; replace HN := Lib.hid (RunsAt.kept HN.out hb); replace HI := Lib.hid (IntsAt.below HI.out hb); replace HB := Lib.hid (bch' HB.out hb); clear hb; obtain ⟨x0, x1, x2, x3, x4, x5, xf0, xf1, xf2, xf3, xf4, xf5⟩ := HX.out.c6))
          go_wp2_with fail
          go_ret2
          exact ⟨_, rfl, fun h => absurd h (by decide), fun _ => rfl, HB.out⟩
        · rw [hz] at hru
          rw [if_pos ht, if_pos ht] at hnw
          dsimp only [clkV] at hnw
          have hrn := fun W (h : IntsAt W (.slice p cs.length c) cs) => r28_run n 0 100 1 t cs p cs.length c W h
          change ∀ W (h : IntsAt W (.slice p cs.length c) cs), Calls _ _ _ _ (fun e w' => e = .returned (.int .i64 (rnE (newR n cs t))) ∧ _) at hrn
          rw [hx] at hrn
          have HRU := Lib.hid hru; clear hru
          have HNW := Lib.hid hnw; clear hnw
          have HRN := Lib.hid hrn; clear hrn
          have hok := ordOk (show ordE rnE (·.ef) R = 0 from hz)
          obtain ⟨p0, n0, c0, he, hc1, hc2⟩ := hs
          obtain ⟨M, pm, cm, rfl, hM, hMR, hMC⟩ := hr
          injection he with e1 e2 e3
          subst e1 e2 e3
          have hfew : M.length ≤ 1000000 := by have := hok.few; rw [← hM, List.length_map] at this; omega
          obtain ⟨i, hit, hb9⟩ := belongs_key hok n
          have hst := fun W (h : RowX encN 6 W pm M) => r28_started W M (newR n cs t, ((p : Option Addr), cs.length, (c : Nat))) pm cm i hit h hfew hc1 hc2 (by rw [hM]; show Belongs _ M.length n i hit; rw [← List.length_map (f := fun x : Rnx × Sl3 => x.1), hM]; exact hb9)
          have HRX : Hid (∀ W, Below w.heap.size w W → RowX encN 6 W pm M) := Lib.hid fun W h => hMR.kept h
          have HMC : Hid (∀ W, Below w.heap.size w W → HasC W M) := Lib.hid fun W h => hMC.kept h
          have hpl : (insL M i hit (newR n cs t, ((p : Option Addr), cs.length, (c : Nat)))).map (·.1) = putL R (newR n cs t) := by rw [insL_map, hM]; exact insL_putL (x := newR n cs t) hb9
          have hll : (insL M i hit (newR n cs t, ((p : Option Addr), cs.length, (c : Nat)))).length = (putL R (newR n cs t)).length := by rw [← hpl, List.length_map]
          have HPL := Lib.hid hpl; clear hpl
          have hlq : ¬ (16 : Int) < ((insL M i hit (newR n cs t, ((p : Option Addr), cs.length, (c : Nat)))).length : Int) := by omega
          rw [stE_ok hz ht hx hl]
          have HCC := Lib.hid hcap
          clear hz ht hx hok hb9 hMR hMC hM hl hll hi hc1 hc2 hfew
          have HST := Lib.hid hst; clear hst
          go_enter Tryz.func9, Tryz.ntmps9
          go_upto_region 5 with (first | (with_reducible refine ((HRU.out _ HN.out).mono ?_); rintro e w' ⟨rfl, hb⟩; replace HN := Lib.hid (RunsAt.kept HN.out hb); replace HI := Lib.hid (IntsAt.below HI.out hb); replace HB := Lib.hid (bch' HB.out hb); clear hb) | (with_reducible refine ((HNW.out _).mono ?_); rintro e w2 ⟨rfl, hb⟩; replace HN := Lib.hid (RunsAt.kept HN.out hb); replace HI := Lib.hid (IntsAt.below HI.out hb); replace HB := Lib.hid (bch' HB.out hb); clear hb))
          have hb := (Below.refl w2.heap.size w2).alloc (Nat.le_refl _) (.cells #[.int .i64 0, .int .i64 100, .int .i64 1, .int .i64 t] 66)
          have HC := Lib.hid (Blk.new w2 66 #[.int .i64 0, .int .i64 100, .int .i64 1, .int .i64 t])
          replace HN := Lib.hid (RunsAt.kept HN.out hb); replace HI := Lib.hid (IntsAt.below HI.out hb); replace HB := Lib.hid (bch' HB.out hb); clear hb
          obtain ⟨g, hg⟩ : ∃ g, g = w2.heap.size := ⟨_, rfl⟩
          obtain ⟨W1, hW1⟩ : ∃ X, X = w2.alloc (.cells #[.int .i64 0, .int .i64 100, .int .i64 1, .int .i64 t] 66) := ⟨_, rfl⟩
          rw [← hg] at HC ⊢
          rw [← hW1] at HB HN HI HC ⊢
          clear hg hW1
          obtain ⟨d0, d1, d2, d3, df0, df1, df2, df3⟩ := HC.out.c4
          go_upto_region 8 with fail
          clear d0 d1 d2 d3 df0 df1 df2 df3
          clear HC
          have hb := (Below.refl W1.heap.size W1).alloc (Nat.le_refl _) (.cells #[.int .i64 n, .slice p cs.length c, .int .i64 0, .int .i64 100, .int .i64 1, .int .i64 t] 68)
          have HX := Lib.hid (Blk.new W1 68 #[.int .i64 n, .slice p cs.length c, .int .i64 0, .int .i64 100, .int .i64 1, .int .i64 t])
          replace HN := Lib.hid (RunsAt.kept HN.out hb); replace HI := Lib.hid (IntsAt.below HI.out hb); replace HB := Lib.hid (bch' HB.out hb); clear hb
          obtain ⟨g7, hg⟩ : ∃ g, g = W1.heap.size := ⟨_, rfl⟩
          obtain ⟨W7, hW1⟩ : ∃ X, X = W1.alloc (.cells #[.int .i64 n, .slice p cs.length c, .int .i64 0, .int .i64 100, .int .i64 1, .int .i64 t] 68) := ⟨_, rfl⟩
          rw [← hg] at HX ⊢
          rw [← hW1] at HB HN HI HX ⊢
          clear hg hW1
          obtain ⟨x0, x1, x2, x3, x4, x5, xf0, xf1, xf2, xf3, xf4, xf5⟩ := HX.out.c6
          go_upto_region 11 with (first | (with_reducible refine ((HRN.out _ HI.out).mono ?_); rintro e w8 ⟨rfl, hb⟩; replace HX := Lib.hid (HX.out.keep hb); clear x0 x1 x2 x3 x4 x5 xf0 xf1 xf2 xf3 xf4 xf5; replace HN := Lib.hid (RunsAt.kept HN.out hb); replace HI := Lib.hid (IntsAt.below HI.out hb); replace HB := Lib.hid (bch' HB.out hb); clear hb; obtain ⟨x0, x1, x2, x3, x4, x5, xf0, xf1, xf2, xf3, xf4, xf5⟩ := HX.out.c6))
          go_upto_region 12 with (first | (with_reducible refine ((HST.out _ (HRX.out _ HB.out)).mono ?_); rintro e w7 ⟨p7, c7, rfl, ho, hb⟩; have HO := Lib.hid ho; clear ho; replace HX := Lib.hid (HX.out.keep hb); clear x0 x1 x2 x3 x4 x5 xf0 xf1 xf2 xf3 xf4 xf5; replace HN := Lib.hid (RunsAt.kept HN.out hb); replace HI := Lib.hid (IntsAt.below HI.out hb); replace HB := Lib.hid (bch' HB.out hb); clear hb; obtain ⟨x0, x1, x2, x3, x4, x5, xf0, xf1, xf2, xf3, xf4, xf5⟩ := HX.out.c6))
          go_wp2_with fail
          go_ret2
          exact ⟨_, rfl, fun _ => runsAt_of HO.out HPL.out (hasC_ins (HMC.out _ HB.out) ⟨HI.out, HCC.out⟩), fun h => absurd rfl h, HB.out⟩
      · rw [hz] at hru
        rw [if_pos ht, if_pos ht] at hnw
        dsimp only [clkV] at hnw
        have hrn := fun W (h : IntsAt W (.slice p cs.length c) cs) => r28_run n 0 100 1 t cs p cs.length c W h
        change ∀ W (h : IntsAt W (.slice p cs.length c) cs), Calls _ _ _ _ (fun e w' => e = .returned (.int .i64 (rnE (newR n cs t))) ∧ _) at hrn
        have HRU := Lib.hid hru; clear hru
        have HNW := Lib.hid hnw; clear hnw
        have HRN := Lib.hid hrn; clear hrn
        have HE : Hid (¬ rnE (newR n cs t) = 0) := Lib.hid hx
        have hne : ((rnE (newR n cs t) : Int) != 0) = true := by simpa using hx
        rw [stE_run hz ht hx]
        clear hz ht hx hr hi
        generalize rnE (newR n cs t) = m at *
        go_enter Tryz.func9, Tryz.ntmps9
        go_upto_region 5 with (first | (with_reducible refine ((HRU.out _ HN.out).mono ?_); rintro e w' ⟨rfl, hb⟩; replace HN := Lib.hid (RunsAt.kept HN.out hb); replace HI := Lib.hid (IntsAt.below HI.out hb); replace HB := Lib.hid (bch' HB.out hb); clear hb) | (with_reducible refine ((HNW.out _).mono ?_); rintro e w2 ⟨rfl, hb⟩; replace HN := Lib.hid (RunsAt.kept HN.out hb); replace HI := Lib.hid (IntsAt.below HI.out hb); replace HB := Lib.hid (bch' HB.out hb); clear hb))
        have hb := (Below.refl w2.heap.size w2).alloc (Nat.le_refl _) (.cells #[.int .i64 0, .int .i64 100, .int .i64 1, .int .i64 t] 66)
        have HC := Lib.hid (Blk.new w2 66 #[.int .i64 0, .int .i64 100, .int .i64 1, .int .i64 t])
        replace HN := Lib.hid (RunsAt.kept HN.out hb); replace HI := Lib.hid (IntsAt.below HI.out hb); replace HB := Lib.hid (bch' HB.out hb); clear hb
        obtain ⟨g, hg⟩ : ∃ g, g = w2.heap.size := ⟨_, rfl⟩
        obtain ⟨W1, hW1⟩ : ∃ X, X = w2.alloc (.cells #[.int .i64 0, .int .i64 100, .int .i64 1, .int .i64 t] 66) := ⟨_, rfl⟩
        rw [← hg] at HC ⊢
        rw [← hW1] at HB HN HI HC ⊢
        clear hg hW1
        obtain ⟨d0, d1, d2, d3, df0, df1, df2, df3⟩ := HC.out.c4
        go_upto_region 8 with fail
        clear d0 d1 d2 d3 df0 df1 df2 df3
        clear HC
        have hb := (Below.refl W1.heap.size W1).alloc (Nat.le_refl _) (.cells #[.int .i64 n, .slice p cs.length c, .int .i64 0, .int .i64 100, .int .i64 1, .int .i64 t] 68)
        have HX := Lib.hid (Blk.new W1 68 #[.int .i64 n, .slice p cs.length c, .int .i64 0, .int .i64 100, .int .i64 1, .int .i64 t])
        replace HN := Lib.hid (RunsAt.kept HN.out hb); replace HI := Lib.hid (IntsAt.below HI.out hb); replace HB := Lib.hid (bch' HB.out hb); clear hb
        obtain ⟨g7, hg⟩ : ∃ g, g = W1.heap.size := ⟨_, rfl⟩
        obtain ⟨W7, hW1⟩ : ∃ X, X = W1.alloc (.cells #[.int .i64 n, .slice p cs.length c, .int .i64 0, .int .i64 100, .int .i64 1, .int .i64 t] 68) := ⟨_, rfl⟩
        rw [← hg] at HX ⊢
        rw [← hW1] at HB HN HI HX ⊢
        clear hg hW1
        obtain ⟨x0, x1, x2, x3, x4, x5, xf0, xf1, xf2, xf3, xf4, xf5⟩ := HX.out.c6
        go_wp2_with (first | (with_reducible refine ((HRN.out _ HI.out).mono ?_); rintro e w8 ⟨rfl, hb⟩; replace HX := Lib.hid (HX.out.keep hb); clear x0 x1 x2 x3 x4 x5 xf0 xf1 xf2 xf3 xf4 xf5; replace HN := Lib.hid (RunsAt.kept HN.out hb); replace HI := Lib.hid (IntsAt.below HI.out hb); replace HB := Lib.hid (bch' HB.out hb); clear hb; obtain ⟨x0, x1, x2, x3, x4, x5, xf0, xf1, xf2, xf3, xf4, xf5⟩ := HX.out.c6))
        go_ret2
        exact ⟨_, rfl, fun h => absurd h HE.out, fun _ => rfl, HB.out⟩
  · have HE : Hid (¬ rnsE R = 0) := Lib.hid hz
    have hne : ((rnsE R : Int) != 0) = true := by simpa using hz
    rw [stE_tab hz]
    clear hz hnw hr hi
    generalize rnsE R = m at *
    have HRU := Lib.hid hru; clear hru
    go_enter Tryz.func9, Tryz.ntmps9
    go_wp2_with (first | (with_reducible refine ((HRU.out _ HN.out).mono ?_); rintro e w' ⟨rfl, hb⟩; replace HN := Lib.hid (RunsAt.kept HN.out hb); replace HI := Lib.hid (IntsAt.below HI.out hb); replace HB := Lib.hid (bch' HB.out hb); clear hb))
    go_ret2
    exact ⟨_, rfl, fun h => absurd h HE.out, fun _ => rfl, HB.out⟩

theorem miss_ix {R : List Rnx} {n : Int} (h : ∀ j, j < R.length → keyAt (·.ef) R j ≠ n) : ixOf (fun x : Rnx => x.ef == n) R = -1 := ixOf_no fun j hj => by
  rw [beq_eq_false_iff_ne, ← keyAt_at (key := fun x : Rnx => x.ef) hj]; exact h j hj
set_option maxRecDepth 100000 in
set_option maxHeartbeats 4000000 in
theorem r28_rate (R : List Rnx) (u : Value) (n t z : Int) (w : World) (hr : RunsAt w u R) (hs : SlOk u) :
    Calls Tryz.prog 14 #[u, .int .i64 n, .int .i64 t, .int .i64 z] w (RtR (rtL R n t z) (rtE R n t z) w) := by
  have hru := fun W (h : RunsAt W u R) => r28_runs R u W h
  change ∀ W, RunsAt W u R → Calls _ _ _ _ (fun e w' => e = .returned (.int .i64 (rnsE R)) ∧ _) at hru
  have HN := Lib.hid hr
  have HB := Lib.hid (Below.refl w.heap.size w)
  by_cases hz : rnsE R = 0
  · have hok := ordOk (show ordE rnE (·.ef) R = 0 from hz)
    obtain ⟨i, hit, hq⟩ := belongs_key hok n
    cases hit with
    | false =>
      have HE : Hid (¬ (6 : Int) = 0) := Lib.hid (by decide)
      have hfi := fun W (h : RunsAt W u R) => r28_running n R u W h (by have := hok.few; omega)
      rw [miss_ix hq.miss] at hfi
      rw [rtE_no hz (find_miss hq.miss)]
      rw [hz] at hru
      clear hz hr hok hq
      have HRU := Lib.hid hru; clear hru
      have HFI := Lib.hid hfi; clear hfi
      go_enter Tryz.func14, Tryz.ntmps14
      go_wp2_with (first | (with_reducible refine ((HRU.out _ HN.out).mono ?_); rintro e w' ⟨rfl, hb⟩; replace HN := Lib.hid (RunsAt.kept HN.out hb); replace HB := Lib.hid (bch' HB.out hb); clear hb) | (with_reducible refine ((HFI.out _ HN.out).mono ?_); rintro e w' ⟨rfl, hb⟩; replace HN := Lib.hid (RunsAt.kept HN.out hb); replace HB := Lib.hid (bch' HB.out hb); clear hb))
      go_ret2
      exact ⟨_, rfl, fun h => absurd h HE.out, fun _ => rfl, HB.out⟩
    | true =>
      by_cases hcz0 : (rateC (R[i]'(hq.yes rfl).1) t z).2 = 0
      · have hb9 := hq
        have hil0 := (hb9.yes rfl).1
        have hn : 1 ≤ n ∧ n ≤ 1048576 := by have := (hb9.yes rfl).2; have := rns_key hok i hil0; omega
        have hfi := fun W (h : RunsAt W u R) => r28_running n R u W h (by have := hok.few; omega)
        rw [hb9.ix] at hfi
        obtain ⟨p0, n0, c0, he, hc1, hc2⟩ := hs
        obtain ⟨M, pm, cm, rfl, hM, hMR, hMC⟩ := hr
        injection he with e1 e2 e3
        subst e1 e2 e3
        have hil : i < M.length := by rw [← hM, List.length_map] at hil0; exact hil0
        obtain ⟨y, hy⟩ : ∃ y, y = M[i]'hil := ⟨_, rfl⟩
        have hyr : R[i]'hil0 = y.1 := by subst hM; rw [List.getElem_map, hy]
        have hcz : (rateC y.1 t z).2 = 0 := by rw [← hyr]; exact hcz0
        clear hcz0
        have hfd : R.find? (fun x => x.ef == n) = some y.1 := by rw [hb9.find, hyr]
        rw [rtE_at hz hfd, rtL_at hfd]
        rw [hz] at hru
        obtain ⟨bb, oo, rfl, hbb, hCC⟩ := hMR (fun e => by subst e; exact absurd hil (Nat.not_lt_zero _))
        have hcell := hCC i hil
        rw [← hy] at hcell
        have HBb := Lib.hid hbb
        have HX0 := Lib.hid (hcell 0 _ rfl); have HX1 := Lib.hid (hcell 1 _ rfl); have HX2 := Lib.hid (hcell 2 _ rfl); have HX3 := Lib.hid (hcell 3 _ rfl); have HX4 := Lib.hid (hcell 4 _ rfl); have HX5 := Lib.hid (hcell 5 _ rfl)
        have hii : (i : Int) < (M.length : Int) := by omega
        have hi0 : (0 : Int) ≤ (i : Int) := by omega
        have hin : ¬ (i : Int) < 0 := by omega
        have hlo : i * 6 < 9223372036854775807 := by have := hok.few; omega
        have hcr := fun W => r23_rate y.1.ce y.1.cr y.1.cd y.1.cl t z W
        have hyn : y.1.ef = n := by rw [← hyr, ← keyAt_at (key := fun x : Rnx => x.ef) hil0]; exact (hb9.yes rfl).2
        have hml : M.length = R.length := by rw [← hM, List.length_map]
        have hst := fun W (h : RowX encN 6 W (some ⟨bb, oo, none⟩) M) => r28_started W M (ratedR y.1 t z, y.2) (some ⟨bb, oo, none⟩) cm i true h (by have := hok.few; omega) hc1 hc2 (by rw [hM, hml]; show Belongs _ _ y.1.ef _ _; rw [hyn]; exact hb9)
        have HRX : Hid (∀ W, Below w.heap.size w W → RowX encN 6 W (some ⟨bb, oo, none⟩) M) := Lib.hid fun W h => hMR.kept h
        have HMC : Hid (∀ W, Below w.heap.size w W → HasC W M) := Lib.hid fun W h => hMC.kept h
        have HYI : Hid (∀ W, Below w.heap.size w W → IntsAt W (.slice y.2.1 y.2.2.1 y.2.2.2) y.1.cs ∧ y.1.cs.length ≤ y.2.2.2) := Lib.hid fun W h => ⟨IntsAt.below (hMC y (by rw [hy]; exact List.getElem_mem hil)).1 h, (hMC y (by rw [hy]; exact List.getElem_mem hil)).2⟩
        have HPL : Hid ((insL M i true (ratedR y.1 t z, y.2)).map (·.1) = putL R (ratedR y.1 t z)) := Lib.hid (by rw [insL_map, hM]; exact insL_putL (x := ratedR y.1 t z) (by show Belongs _ _ y.1.ef _ _; rw [hyn]; exact hb9))
        clear hml
        unfold ratedR at hst HPL ⊢
        dsimp only at hst
        rw [hyn] at hst HPL ⊢
        change ∀ W, Calls _ _ _ _ (fun e w' => e = .returned (.tuple #[clkV (rateC y.1 t z).1, .int .i64 (rateC y.1 t z).2]) ∧ _) at hcr
        have hz2 := hcz
        generalize rateC y.1 t z = C at *
        obtain ⟨⟨C0, C1, C2, C3⟩, C4⟩ := C
        dsimp only [clkV] at hst hcr hz2 HPL ⊢
        subst hz2
        clear hz hM hMR hMC hCC hcell hy hyr hok hq hb9 hil0 hn hfd hyn hbb hil hcz hc1 hc2
        have HRU := Lib.hid hru; clear hru
        have HFI := Lib.hid hfi; clear hfi
        have HCR := Lib.hid hcr; clear hcr
        have HST := Lib.hid hst; clear hst
        go_enter Tryz.func14, Tryz.ntmps14
        go_upto_region 7 with (first | (with_reducible refine ((HRU.out _ HN.out).mono ?_); rintro e w' ⟨rfl, hb⟩; replace HN := Lib.hid (RunsAt.kept HN.out hb); replace HB := Lib.hid (bch' HB.out hb); clear hb) | (with_reducible refine ((HFI.out _ HN.out).mono ?_); rintro e w' ⟨rfl, hb⟩; replace HN := Lib.hid (RunsAt.kept HN.out hb); replace HB := Lib.hid (bch' HB.out hb); clear hb))
        have x0 : w'.cell? ⟨bb, oo + i * 6, none⟩ = some (.int .i64 (y.1.ef)) := (HB.out.cell (p := ⟨bb, oo + i * 6 + 0, none⟩) HBb.out).trans HX0.out
        have x1 : w'.cell? ⟨bb, oo + i * 6 + 1, none⟩ = some (.slice y.2.1 y.2.2.1 y.2.2.2) := (HB.out.cell (p := ⟨bb, oo + i * 6 + 1, none⟩) HBb.out).trans HX1.out
        have x2 : w'.cell? ⟨bb, oo + i * 6 + 2, none⟩ = some (.int .i64 (y.1.ce)) := (HB.out.cell (p := ⟨bb, oo + i * 6 + 2, none⟩) HBb.out).trans HX2.out
        have x3 : w'.cell? ⟨bb, oo + i * 6 + 3, none⟩ = some (.int .i64 (y.1.cr)) := (HB.out.cell (p := ⟨bb, oo + i * 6 + 3, none⟩) HBb.out).trans HX3.out
        have x4 : w'.cell? ⟨bb, oo + i * 6 + 4, none⟩ = some (.int .i64 (y.1.cd)) := (HB.out.cell (p := ⟨bb, oo + i * 6 + 4, none⟩) HBb.out).trans HX4.out
        have x5 : w'.cell? ⟨bb, oo + i * 6 + 5, none⟩ = some (.int .i64 (y.1.cl)) := (HB.out.cell (p := ⟨bb, oo + i * 6 + 5, none⟩) HBb.out).trans HX5.out
        have hbr : bb < w'.heap.size := Nat.lt_of_lt_of_le HBb.out HB.out.size
        clear HN
        go_upto_region 8 with (first | (with_reducible refine ((HCR.out _).mono ?_); rintro e w2 ⟨rfl, hb⟩; replace HB := Lib.hid (bch' HB.out hb); clear hb))
        clear x0 x1 x2 x3 x4 x5 hbr
        have hb := (Below.refl w2.heap.size w2).alloc (Nat.le_refl _) (.cells #[.int .i64 C0, .int .i64 C1, .int .i64 C2, .int .i64 C3] 66)
        have HC := Lib.hid (Blk.new w2 66 #[.int .i64 C0, .int .i64 C1, .int .i64 C2, .int .i64 C3])
        replace HB := Lib.hid (bch' HB.out hb); clear hb
        obtain ⟨g, hg⟩ : ∃ g, g = w2.heap.size := ⟨_, rfl⟩
        obtain ⟨W1, hW1⟩ : ∃ X, X = w2.alloc (.cells #[.int .i64 C0, .int .i64 C1, .int .i64 C2, .int .i64 C3] 66) := ⟨_, rfl⟩
        rw [← hg] at HC ⊢
        rw [← hW1] at HB HC ⊢
        clear hg hW1
        go_upto_region 10 with fail
        obtain ⟨SS, hSS⟩ : ∃ SS : World → Prop, ∀ W', SS W' ↔ (Below w.heap.size w W' ∧ Blk W' g 66 #[.int .i64 C0, .int .i64 C1, .int .i64 C2, .int .i64 C3]) := ⟨fun W' => Below w.heap.size w W' ∧ Blk W' g 66 #[.int .i64 C0, .int .i64 C1, .int .i64 C2, .int .i64 C3], fun _ => Iff.rfl⟩
        have HBO : Hid (∀ W', SS W' → (W'.cell? ⟨bb, oo + i * 6 + 1, none⟩ = some (.slice y.2.1 y.2.2.1 y.2.2.2) ∧ W'.cell? ⟨g, 0, none⟩ = some (.int .i64 C0) ∧ W'.cell? ⟨g, 1, none⟩ = some (.int .i64 C1) ∧ W'.cell? ⟨g, 2, none⟩ = some (.int .i64 C2) ∧ W'.cell? ⟨g, 3, none⟩ = some (.int .i64 C3) ∧ bb < W'.heap.size ∧ SS W')) := Lib.hid fun W' hs => by obtain ⟨h1, h2⟩ := (hSS W').1 hs; exact ⟨(h1.cell (p := ⟨bb, oo + i * 6 + 1, none⟩) HBb.out).trans HX1.out, h2.c4.1, h2.c4.2.1, h2.c4.2.2.1, h2.c4.2.2.2.1, Nat.lt_of_lt_of_le HBb.out h1.size, hs⟩
        have HS1 : Hid (SS W1) := Lib.hid ((hSS _).2 ⟨HB.out, HC.out⟩)
        have HKE : Hid (∀ A B, SS A → Below A.heap.size A B → SS B) := Lib.hid fun A B hs hb => by obtain ⟨h1, h2⟩ := (hSS A).1 hs; exact (hSS B).2 ⟨bch' h1 hb, h2.keep hb⟩
        have HKD : Hid (∀ A, SS A → SS A.drew) := Lib.hid fun A h => HKE.out _ _ h ((Below.refl _ _).drew)
        have HFI2 : Hid (∀ A, SS A → Below w.heap.size w A) := Lib.hid fun A hs => ((hSS A).1 hs).1
        clear hSS HC HB HX0 HX1 HX2 HX3 HX4 HX5 HBb
        go_region_held3 (fun W' => W'.cell? ⟨bb, oo + i * 6 + 1, none⟩ = some (.slice y.2.1 y.2.2.1 y.2.2.2) ∧ W'.cell? ⟨g, 0, none⟩ = some (.int .i64 C0) ∧ W'.cell? ⟨g, 1, none⟩ = some (.int .i64 C1) ∧ W'.cell? ⟨g, 2, none⟩ = some (.int .i64 C2) ∧ W'.cell? ⟨g, 3, none⟩ = some (.int .i64 C3) ∧ bb < W'.heap.size ∧ SS W') (with_reducible refine HBO.out _ ?_; ((repeat (first | with_reducible refine HKE.out _ _ ?_ hb9 | with_reducible refine HKD.out _ ?_)); with_reducible exact HS1.out)) (first | (go_at_call 36; with_reducible refine (HST.out _ (HRX.out _ (HFI2.out _ (by ((repeat (first | with_reducible refine HKE.out _ _ ?_ hb9 | with_reducible refine HKD.out _ ?_)); with_reducible exact HS1.out))))).mono ?_; rintro e w9 ⟨p9, c9, rfl, ho9, hb9⟩))
        all_goals (go_wp2_with fail; go_ret2)
        all_goals (have hB9 := HFI2.out _ (show SS w9 by ((repeat (first | with_reducible refine HKE.out _ _ ?_ hb9 | with_reducible refine HKD.out _ ?_)); with_reducible exact HS1.out)); exact ⟨_, rfl, fun _ => runsAt_of ho9 HPL.out (hasC_ins (HMC.out _ hB9) (HYI.out _ hB9)), fun h => absurd rfl h, hB9⟩)
      · have hb9 := hq
        have hil0 := (hb9.yes rfl).1
        have hn : 1 ≤ n ∧ n ≤ 1048576 := by have := (hb9.yes rfl).2; have := rns_key hok i hil0; omega
        have hfi := fun W (h : RunsAt W u R) => r28_running n R u W h (by have := hok.few; omega)
        rw [hb9.ix] at hfi
        obtain ⟨p0, n0, c0, he, hc1, hc2⟩ := hs
        obtain ⟨M, pm, cm, rfl, hM, hMR, hMC⟩ := hr
        injection he with e1 e2 e3
        subst e1 e2 e3
        have hil : i < M.length := by rw [← hM, List.length_map] at hil0; exact hil0
        obtain ⟨y, hy⟩ : ∃ y, y = M[i]'hil := ⟨_, rfl⟩
        have hyr : R[i]'hil0 = y.1 := by subst hM; rw [List.getElem_map, hy]
        have hcz : ¬ (rateC y.1 t z).2 = 0 := by rw [← hyr]; exact hcz0
        clear hcz0
        have hfd : R.find? (fun x => x.ef == n) = some y.1 := by rw [hb9.find, hyr]
        rw [rtE_at hz hfd, rtL_at hfd]
        rw [hz] at hru
        obtain ⟨bb, oo, rfl, hbb, hCC⟩ := hMR (fun e => by subst e; exact absurd hil (Nat.not_lt_zero _))
        have hcell := hCC i hil
        rw [← hy] at hcell
        have HBb := Lib.hid hbb
        have HX0 := Lib.hid (hcell 0 _ rfl); have HX1 := Lib.hid (hcell 1 _ rfl); have HX2 := Lib.hid (hcell 2 _ rfl); have HX3 := Lib.hid (hcell 3 _ rfl); have HX4 := Lib.hid (hcell 4 _ rfl); have HX5 := Lib.hid (hcell 5 _ rfl)
        have hii : (i : Int) < (M.length : Int) := by omega
        have hi0 : (0 : Int) ≤ (i : Int) := by omega
        have hin : ¬ (i : Int) < 0 := by omega
        have hlo : i * 6 < 9223372036854775807 := by have := hok.few; omega
        have hcr := fun W => r23_rate y.1.ce y.1.cr y.1.cd y.1.cl t z W
        have hyn : y.1.ef = n := by rw [← hyr, ← keyAt_at (key := fun x : Rnx => x.ef) hil0]; exact (hb9.yes rfl).2
        have HE := Lib.hid hcz
        have hne : (((rateC y.1 t z).2 : Int) != 0) = true := by simpa using hcz
        change ∀ W, Calls _ _ _ _ (fun e w' => e = .returned (.tuple #[clkV (rateC y.1 t z).1, .int .i64 (rateC y.1 t z).2]) ∧ _) at hcr
        clear hz hM hMR hMC hCC hcell hy hyr hok hq hb9 hil0 hn hfd hyn hbb hil hcz hc1 hc2
        generalize rateC y.1 t z = C at *
        obtain ⟨⟨C0, C1, C2, C3⟩, C4⟩ := C
        dsimp only [clkV] at hne hcr HE ⊢
        have HRU := Lib.hid hru; clear hru
        have HFI := Lib.hid hfi; clear hfi
        have HCR := Lib.hid hcr; clear hcr
        go_enter Tryz.func14, Tryz.ntmps14
        go_upto_region 7 with (first | (with_reducible refine ((HRU.out _ HN.out).mono ?_); rintro e w' ⟨rfl, hb⟩; replace HN := Lib.hid (RunsAt.kept HN.out hb); replace HB := Lib.hid (bch' HB.out hb); clear hb) | (with_reducible refine ((HFI.out _ HN.out).mono ?_); rintro e w' ⟨rfl, hb⟩; replace HN := Lib.hid (RunsAt.kept HN.out hb); replace HB := Lib.hid (bch' HB.out hb); clear hb))
        have x0 : w'.cell? ⟨bb, oo + i * 6, none⟩ = some (.int .i64 (y.1.ef)) := (HB.out.cell (p := ⟨bb, oo + i * 6 + 0, none⟩) HBb.out).trans HX0.out
        have x1 : w'.cell? ⟨bb, oo + i * 6 + 1, none⟩ = some (.slice y.2.1 y.2.2.1 y.2.2.2) := (HB.out.cell (p := ⟨bb, oo + i * 6 + 1, none⟩) HBb.out).trans HX1.out
        have x2 : w'.cell? ⟨bb, oo + i * 6 + 2, none⟩ = some (.int .i64 (y.1.ce)) := (HB.out.cell (p := ⟨bb, oo + i * 6 + 2, none⟩) HBb.out).trans HX2.out
        have x3 : w'.cell? ⟨bb, oo + i * 6 + 3, none⟩ = some (.int .i64 (y.1.cr)) := (HB.out.cell (p := ⟨bb, oo + i * 6 + 3, none⟩) HBb.out).trans HX3.out
        have x4 : w'.cell? ⟨bb, oo + i * 6 + 4, none⟩ = some (.int .i64 (y.1.cd)) := (HB.out.cell (p := ⟨bb, oo + i * 6 + 4, none⟩) HBb.out).trans HX4.out
        have x5 : w'.cell? ⟨bb, oo + i * 6 + 5, none⟩ = some (.int .i64 (y.1.cl)) := (HB.out.cell (p := ⟨bb, oo + i * 6 + 5, none⟩) HBb.out).trans HX5.out
        have hbr : bb < w'.heap.size := Nat.lt_of_lt_of_le HBb.out HB.out.size
        clear HN
        go_upto_region 8 with (first | (with_reducible refine ((HCR.out _).mono ?_); rintro e w2 ⟨rfl, hb⟩; replace HB := Lib.hid (bch' HB.out hb); clear hb))
        clear x0 x1 x2 x3 x4 x5 hbr
        have hb := (Below.refl w2.heap.size w2).alloc (Nat.le_refl _) (.cells #[.int .i64 C0, .int .i64 C1, .int .i64 C2, .int .i64 C3] 66)
        have HC := Lib.hid (Blk.new w2 66 #[.int .i64 C0, .int .i64 C1, .int .i64 C2, .int .i64 C3])
        replace HB := Lib.hid (bch' HB.out hb); clear hb
        obtain ⟨g, hg⟩ : ∃ g, g = w2.heap.size := ⟨_, rfl⟩
        obtain ⟨W1, hW1⟩ : ∃ X, X = w2.alloc (.cells #[.int .i64 C0, .int .i64 C1, .int .i64 C2, .int .i64 C3] 66) := ⟨_, rfl⟩
        rw [← hg] at HC ⊢
        rw [← hW1] at HB HC ⊢
        clear hg hW1
        go_wp2_with fail
        go_ret2
        exact ⟨_, rfl, fun h => absurd h HE.out, fun _ => rfl, HB.out⟩
  · have HE : Hid (¬ rnsE R = 0) := Lib.hid hz
    have hne : ((rnsE R : Int) != 0) = true := by simpa using hz
    rw [rtE_tab hz]
    clear hz hr
    generalize rnsE R = m at *
    have HRU := Lib.hid hru; clear hru
    go_enter Tryz.func14, Tryz.ntmps14
    go_wp2_with (first | (with_reducible refine ((HRU.out _ HN.out).mono ?_); rintro e w' ⟨rfl, hb⟩; replace HN := Lib.hid (RunsAt.kept HN.out hb); replace HB := Lib.hid (bch' HB.out hb); clear hb))
    go_ret2
    exact ⟨_, rfl, fun h => absurd h HE.out, fun _ => rfl, HB.out⟩

set_option maxRecDepth 100000 in
set_option maxHeartbeats 4000000 in
theorem r28_stop (R : List Rnx) (u : Value) (n : Int) (w : World) (hr : RunsAt w u R) :
    Calls Tryz.prog 16 #[u, .int .i64 n] w (StpR R n (rnsE R) w) := by
  have hru := fun W (h : RunsAt W u R) => r28_runs R u W h
  change ∀ W, RunsAt W u R → Calls _ _ _ _ (fun e w' => e = .returned (.int .i64 (rnsE R)) ∧ _) at hru
  have HN := Lib.hid hr
  have HB := Lib.hid (Below.refl w.heap.size w)
  by_cases hz : rnsE R = 0
  · have hok := ordOk (show ordE rnE (·.ef) R = 0 from hz)
    obtain ⟨i, hit, hq⟩ := belongs_key hok n
    cases hit with
    | false =>
      have hfi := fun W (h : RunsAt W u R) => r28_running n R u W h (by have := hok.few; omega)
      rw [miss_ix hq.miss] at hfi
      have HQ : Hid ((R.find? (fun x => x.ef == n)).isSome = false) := Lib.hid (by rw [find_miss hq.miss]; rfl)
      have hfew := hok.few
      obtain ⟨M, pm, cm, rfl, hM, hMR, hMC⟩ := hr
      have hst := fun W (h : RowX encN 6 W pm M) => r28_stopped W M pm cm n h (by rw [← hM, List.length_map] at hfew; omega)
      have HRX : Hid (∀ W, Below w.heap.size w W → RowX encN 6 W pm M) := Lib.hid fun W h => hMR.kept h
      have HMC : Hid (∀ W, Below w.heap.size w W → HasC W M) := Lib.hid fun W h => hMC.kept h
      have HML : Hid ((M.filter (fun x : RnT => x.1.ef != n)).map (·.1) = R.filter (fun x => x.ef != n)) := Lib.hid (by rw [← hM, List.filter_map]; rfl)
      rw [hz] at hru ⊢
      clear hz hM hMR hMC hok hq hfew
      have HRU := Lib.hid hru; clear hru
      have HFI := Lib.hid hfi; clear hfi
      have HST := Lib.hid hst; clear hst
      go_enter Tryz.func16, Tryz.ntmps16
      go_wp2_with (first | (with_reducible refine ((HRU.out _ HN.out).mono ?_); rintro e w' ⟨rfl, hb⟩; replace HN := Lib.hid (RunsAt.kept HN.out hb); replace HB := Lib.hid (bch' HB.out hb); clear hb) | (with_reducible refine ((HST.out _ (HRX.out _ HB.out)).mono ?_); rintro e w7 ⟨p7, c7, rfl, ho, hb⟩; have HO := Lib.hid ho; clear ho; replace HN := Lib.hid (RunsAt.kept HN.out hb); replace HB := Lib.hid (bch' HB.out hb); clear hb) | (with_reducible refine ((HFI.out _ HN.out).mono ?_); rintro e w8 ⟨rfl, hb⟩; replace HO := Lib.hid (HO.out.keep hb); replace HN := Lib.hid (RunsAt.kept HN.out hb); replace HB := Lib.hid (bch' HB.out hb); clear hb))
      go_ret3
      exact ⟨_, by rw [HQ.out]; rfl, fun _ => runsAt_of HO.out HML.out (fun x hx => HMC.out _ HB.out x (List.mem_filter.1 hx).1), fun h => absurd rfl h, HB.out⟩
    | true =>
      have hfi := fun W (h : RunsAt W u R) => r28_running n R u W h (by have := hok.few; omega)
      rw [hq.ix] at hfi
      have hge : (0 : Int) ≤ (i : Int) := by omega
      have HQ : Hid ((R.find? (fun x => x.ef == n)).isSome = true) := Lib.hid (by rw [hq.find]; rfl)
      have hfew := hok.few
      obtain ⟨M, pm, cm, rfl, hM, hMR, hMC⟩ := hr
      have hst := fun W (h : RowX encN 6 W pm M) => r28_stopped W M pm cm n h (by rw [← hM, List.length_map] at hfew; omega)
      have HRX : Hid (∀ W, Below w.heap.size w W → RowX encN 6 W pm M) := Lib.hid fun W h => hMR.kept h
      have HMC : Hid (∀ W, Below w.heap.size w W → HasC W M) := Lib.hid fun W h => hMC.kept h
      have HML : Hid ((M.filter (fun x : RnT => x.1.ef != n)).map (·.1) = R.filter (fun x => x.ef != n)) := Lib.hid (by rw [← hM, List.filter_map]; rfl)
      rw [hz] at hru ⊢
      clear hz hM hMR hMC hok hq hfew
      have HRU := Lib.hid hru; clear hru
      have HFI := Lib.hid hfi; clear hfi
      have HST := Lib.hid hst; clear hst
      go_enter Tryz.func16, Tryz.ntmps16
      go_wp2_with (first | (with_reducible refine ((HRU.out _ HN.out).mono ?_); rintro e w' ⟨rfl, hb⟩; replace HN := Lib.hid (RunsAt.kept HN.out hb); replace HB := Lib.hid (bch' HB.out hb); clear hb) | (with_reducible refine ((HST.out _ (HRX.out _ HB.out)).mono ?_); rintro e w7 ⟨p7, c7, rfl, ho, hb⟩; have HO := Lib.hid ho; clear ho; replace HN := Lib.hid (RunsAt.kept HN.out hb); replace HB := Lib.hid (bch' HB.out hb); clear hb) | (with_reducible refine ((HFI.out _ HN.out).mono ?_); rintro e w8 ⟨rfl, hb⟩; replace HO := Lib.hid (HO.out.keep hb); replace HN := Lib.hid (RunsAt.kept HN.out hb); replace HB := Lib.hid (bch' HB.out hb); clear hb))
      go_ret3
      exact ⟨_, by rw [HQ.out]; rfl, fun _ => runsAt_of HO.out HML.out (fun x hx => HMC.out _ HB.out x (List.mem_filter.1 hx).1), fun h => absurd rfl h, HB.out⟩
  · have HE : Hid (¬ rnsE R = 0) := Lib.hid hz
    have hne : ((rnsE R : Int) != 0) = true := by simpa using hz
    clear hz hr
    generalize rnsE R = m at *
    have HRU := Lib.hid hru; clear hru
    go_enter Tryz.func16, Tryz.ntmps16
    go_wp2_with (first | (with_reducible refine ((HRU.out _ HN.out).mono ?_); rintro e w' ⟨rfl, hb⟩; replace HN := Lib.hid (RunsAt.kept HN.out hb); replace HB := Lib.hid (bch' HB.out hb); clear hb))
    go_ret3
    exact ⟨_, by rw [decide_eq_false HE.out]; rfl, fun h => absurd h HE.out, fun _ => rfl, HB.out⟩
end Go.Proofs.YtbeojahilbglcaaGreatDoor

/-
  Effects: slices.Clone and Insert at running effects, Clone at ints. Effects: put of the program.
-/
import Derived.Test.YtbamcfhmkohbmaaGreatDoorYb
import Derived.Test.YtbamcfhmkohbmaaGreatDoorQq
import Derived.Test.YtbamcfhmkohbmaaGreatDoorMd
import Derived.WalkSpells
import Derived.Lib.SliceRun
import Derived.Lib.Overlaps
import Derived.Laws.Externs
import Derived.Test.YtbamcfhmkohbmaaGreatDoorYc
set_option linter.unusedVariables false
set_option linter.unusedSimpArgs false
namespace Lum
open Go Go.RowKit Go.Shelf
open Go.Lib (decDigits itoa)
abbrev RnT := Rnx × Sl3
theorem ownR_some {β : Type} {enc : β → List Value} {k base : Nat} {e : TypeId} {W : World} {p : Option Addr} {c : Nat} {l : List β} (h : OwnR enc k base e W p c l) (hn : l ≠ []) : ∃ g, p = some ⟨g, 0, none⟩ ∧ base ≤ g := by
  obtain ⟨g, cur, h1, h2, -⟩ := h.to_blk hn
  exact ⟨g, h1, h2⟩
end Lum
namespace Go.Proofs.YtbamcfhmkohbmaaGreatDoor
open Go.RowKit Go.Shelf Lum
open Go.Lib (decDigits itoa)
attribute [local go_sem] bs_get bs_extract_end bs_extract_from bs_extract bs_append

theorem info_run : (Tryz.prog.info? 58).map (fun i => (i.zero, i.size, i.bytes)) = some (some (.agg #[.int .i64 0, .slice none 0 0, .int .i64 0, .int .i64 0, .int .i64 0, .int .i64 0]), 6, 64) := by kernel_rfl
theorem info_int0 : (Tryz.prog.info? 3).map (fun i => (i.zero, i.size, i.bytes)) = some (some (.int .i64 0), 1, 8) := by kernel_rfl
set_option maxRecDepth 100000 in
set_option maxHeartbeats 4000000 in
theorem own_nclone (w : World) (l : List RnT) (p : Option Addr) (c : Nat) (hv1 : RowX encN 6 w p l) (hn : l.length ≤ 1000000) :
    Calls Tryz.prog 114 #[.slice p l.length c] w fun e w' => ∃ pp cc, e = .returned (.slice pp l.length cc) ∧ OwnR encN 6 w.heap.size 58 w' pp cc l ∧ Below w.heap.size w w' := by
  have hq : ∀ (w : World) (a : Option Addr) (n c n2 c2 : Nat), (binOp .eql 50 (.slice a n c) (.slice none n2 c2)).run Tryz.prog w = .ok (.bool a.isNone) w := fun w a n c n2 c2 => Lib.run_eql_slice_nil w _ _ a n c n2 c2 Tryz.underlying50
  obtain ⟨i0, hi, hz0, hz1, hz2⟩ := info_parts info_run
  have HN := Lib.hid hn; clear hn
  cases p with
  | none =>
    have h0 : l = [] := by
      by_cases h : l = []
      · exact h
      · obtain ⟨b, o, e, -⟩ := hv1 h; cases e
    clear hv1
    subst h0
    dsimp only [List.length_nil]
    go_enter Tryz.func114, Tryz.ntmps114
    go_wp2_with fail
    go_ret
    exact ⟨none, 0, rfl, OwnR.nil _ _ _, Below.refl _ _⟩
  | some ad =>
    by_cases hl0 : l = []
    · subst hl0
      clear hv1
      dsimp only [List.length_nil]
      go_enter Tryz.func114, Tryz.ntmps114
      have HA : Hid (∀ (j : Nat) (u : Value), (([] : List RnT).flatMap encN)[j]? = some u → w.cell? (ad.add j) = some u) := Lib.hid (fun j u h => by simp at h)
      go_wp2_with fail
      go_ret
      exact ⟨_, _, rfl, OwnR.made w 58, (Below.refl w.heap.size w).alloc (Nat.le_refl _) _⟩
    obtain ⟨b, off, had, -, hC⟩ := hv1 hl0
    obtain rfl := Option.some.inj had
    have HA : Hid (∀ (j : Nat) (u : Value), (l.flatMap encN)[j]? = some u → w.cell? ⟨b, off + j, none⟩ = some u) := Lib.hid (flat_cell encN_len l (fun j => w.cell? ⟨b, off + j, none⟩) (fun i hi j v hv => by have := hC i hi j v hv; rwa [Nat.add_assoc] at this))
    clear hv1 hC
    go_enter Tryz.func114, Tryz.ntmps114
    go_wp2_with (first | (at_builtin; refine wpList_appL rfl _ _ 50 rfl w.heap.size 58 i0 (.agg #[.int .i64 0, .slice none 0 0, .int .i64 0, .int .i64 0, .int .i64 0, .int .i64 0]) 64 Tryz.underlying50 hi hz0 hz1 hz2 rfl (by decide) (by decide) (some ⟨w.heap.size, 0, none⟩) 0 0 [] rfl _ l b off c encN_len (fun j u hu => Lib.cell?_alloc_some _ (HA.out j u hu)) (fun y _ => encN_one y) rfl (OwnR.made w 58) rfl (by have := HN.out; simp; omega) (by simp) ?_; intro p1 c1 w3 hO3 hb3; have HO3 := Lib.hid hO3; have HB3 := Lib.hid hb3; clear hO3 hb3))
    go_ret
    refine ⟨p1, c1, by simp, by simpa using HO3.out, ?_⟩
    exact ((Below.refl w.heap.size w).alloc (Nat.le_refl _) _).trans HB3.out

set_option maxRecDepth 100000 in
set_option maxHeartbeats 4000000 in
theorem own_iclone (w : World) (l : List Int) (p : Option Addr) (c : Nat) (hv1 : RowX encI 1 w p l) (hn : l.length ≤ 1000000) :
    Calls Tryz.prog 91 #[.slice p l.length c] w fun e w' => ∃ pp cc, e = .returned (.slice pp l.length cc) ∧ OwnR encI 1 w.heap.size 3 w' pp cc l ∧ Below w.heap.size w w' := by
  have hq : ∀ (w : World) (a : Option Addr) (n c n2 c2 : Nat), (binOp .eql 47 (.slice a n c) (.slice none n2 c2)).run Tryz.prog w = .ok (.bool a.isNone) w := fun w a n c n2 c2 => Lib.run_eql_slice_nil w _ _ a n c n2 c2 Tryz.underlying47
  obtain ⟨i0, hi, hz0, hz1, hz2⟩ := info_parts info_int0
  have HN := Lib.hid hn; clear hn
  cases p with
  | none =>
    have h0 : l = [] := by
      by_cases h : l = []
      · exact h
      · obtain ⟨b, o, e, -⟩ := hv1 h; cases e
    clear hv1
    subst h0
    dsimp only [List.length_nil]
    go_enter Tryz.func91, Tryz.ntmps91
    go_wp2_with fail
    go_ret
    exact ⟨none, 0, rfl, OwnR.nil _ _ _, Below.refl _ _⟩
  | some ad =>
    by_cases hl0 : l = []
    · subst hl0
      clear hv1
      dsimp only [List.length_nil]
      go_enter Tryz.func91, Tryz.ntmps91
      have HA : Hid (∀ (j : Nat) (u : Value), (([] : List Int).flatMap encI)[j]? = some u → w.cell? (ad.add j) = some u) := Lib.hid (fun j u h => by simp at h)
      go_wp2_with fail
      go_ret
      exact ⟨_, _, rfl, OwnR.made w 3, (Below.refl w.heap.size w).alloc (Nat.le_refl _) _⟩
    obtain ⟨b, off, had, -, hC⟩ := hv1 hl0
    obtain rfl := Option.some.inj had
    have HA : Hid (∀ (j : Nat) (u : Value), (l.flatMap encI)[j]? = some u → w.cell? ⟨b, off + j, none⟩ = some u) := Lib.hid (flat_cell encI_len l (fun j => w.cell? ⟨b, off + j, none⟩) (fun i hi j v hv => by have := hC i hi j v hv; rwa [Nat.add_assoc] at this))
    clear hv1 hC
    go_enter Tryz.func91, Tryz.ntmps91
    go_wp2_with (first | (at_builtin; refine wpList_appL rfl _ _ 47 rfl w.heap.size 3 i0 (.int .i64 0) 8 Tryz.underlying47 hi hz0 hz1 hz2 rfl (by decide) (by decide) (some ⟨w.heap.size, 0, none⟩) 0 0 [] rfl _ l b off c encI_len (fun j u hu => Lib.cell?_alloc_some _ (HA.out j u hu)) (fun y _ => encI_one y) rfl (OwnR.made w 3) rfl (by have := HN.out; simp; omega) (by simp) ?_; intro p1 c1 w3 hO3 hb3; have HO3 := Lib.hid hO3; have HB3 := Lib.hid hb3; clear hO3 hb3))
    go_ret
    refine ⟨p1, c1, by simp, by simpa using HO3.out, ?_⟩
    exact ((Below.refl w.heap.size w).alloc (Nat.le_refl _) _).trans HB3.out

set_option maxRecDepth 100000 in
set_option maxHeartbeats 4000000 in
theorem own_ninsert_grow (l : List RnT) (w : World) (x : RnT) (g b base i : Nat) (cur : Array Value) (hcur : Blk w g 58 cur) (ht : cur.toList.take (l.length * 6) = l.flatMap encN) (hx : Blk w b 58 (encN x).toArray) (hi9 : i < l.length) (hn : l.length ≤ 1000000) (hbase : base ≤ w.heap.size) :
    Calls Tryz.prog 160 #[.slice (some ⟨g, 0, none⟩) l.length l.length, .int .i64 (i : Int), .slice (some ⟨b, 0, none⟩) 1 1] w fun e w' => ∃ p' c', e = .returned (.slice p' (l.length + 1) c') ∧ OwnR encN 6 base 58 w' p' c' (insL l i false x) ∧ Below base w w' := by
  have hcs : ∀ j u, (l.flatMap encN)[j]? = some u → w.cell? ⟨g, j, none⟩ = some u := fun j u h => by rw [← ht, List.getElem?_take] at h; split at h; (rw [hcur.cell]; simpa using h); cases h
  obtain ⟨i0, hi, hz0, hz1, hz2⟩ := info_parts info_run
  have hsz6 : (Tryz.prog.info? 58).map (·.size) = some 6 := by rw [hi]; simp [hz1]
  have hlt := hcur.lt
  have hbl := hx.lt
  have hA : ∀ j v, ((l.take i).flatMap encN)[j]? = some v → w.cell? ((⟨g, 0, none⟩ : Addr).add j) = some v := fun j v h => by rw [addr_add, Nat.zero_add]; exact hcs j v (flat_take_get h)
  have hD : ∀ j v, ((l.drop i).flatMap encN)[j]? = some v → w.cell? ((⟨g, i * 6, none⟩ : Addr).add j) = some v := fun j v h => by rw [addr_add]; exact hcs _ v (flat_drop_get encN_len h)
  have hlA : ((l.take i).flatMap encN).length = i * 6 := by rw [flat_len encN_len, List.length_take, Nat.min_eq_left (by omega)]
  have hlD : ((l.drop i).flatMap encN).length = (l.length - i) * 6 := by rw [flat_len encN_len, List.length_drop]
  have HCS := Lib.hid hcs; have HA := Lib.hid hA; have HD := Lib.hid hD; have HLA := Lib.hid hlA; have HLD := Lib.hid hlD; have HX := Lib.hid hx; clear hcs hA hD hlA hlD hx hcur ht
  have HN := Lib.hid hn; have HBS := Lib.hid hbase; clear hbase
  have hq3 : (l.length : Int) < (l.length : Int) + 1 := by omega
  have hq2 : ((i : Int) == (l.length : Int)) = false := by simp; omega
  have hci : ¬ (l.length = i) := by omega
  have hi0 : (0 : Int) ≤ (i : Int) := by omega
  have hi1 : (i : Int) ≤ (l.length : Int) := by omega
  go_enter Tryz.func160, Tryz.ntmps160
  go_wp2_with (first | (at_builtin; (refine wpList_appZ (k := 6) rfl (.tmp 34) (.tmp 39) 50 3 rfl 58 i0 (.agg #[.int .i64 0, .slice none 0 0, .int .i64 0, .int .i64 0, .int .i64 0, .int .i64 0]) 64 Tryz.underlying50 Tryz.underlying3 hi hz0 hz1 hz2 rfl (by decide) (by decide) w ⟨g, 0, none⟩ i l.length ((l.take i).flatMap encN) HLA.out HA.out (l.length + 1 - i) (by omega) (by omega) (by omega) ((l.length : Int) + 1 - (i : Int)) (by omega) (l.length + 1) (by omega) rfl rfl ?_; intro G cs w1 hG hGm hGs hGt hgk hgb; have HGS := Lib.hid hGs; have HGT := Lib.hid hGt; have HGK := Lib.hid hgk; have HGB := Lib.hid hgb; clear hGs hGt hgk hgb)) | (refine wpList_copyK rfl (.tmp 43) (.tmp 44) 50 50 rfl 58 6 Tryz.underlying50 hsz6 w.heap.size (i * 6) (l.length + 1 - i) (G - i) ⟨b, 0, none⟩ (1) (1) rfl rfl cs HGK.out (encN x) (by rw [encN_len]; have : Nat.min 1 (l.length + 1 - i) = 1 := Nat.min_eq_left (by omega); rw [this]) (fun j v hj => by rw [addr_add, Nat.zero_add, (HX.out.keep HGB.out).cell]; simpa using hj) (by rw [encN_len, HGS.out]; omega) (encN_one x) ?_; intro w2 h2 hb2 ho2; have H2 := Lib.hid h2; have HB2 := Lib.hid hb2; have HO2 := Lib.hid ho2; clear h2 hb2 ho2))
  have hs1 : ((l.drop i).flatMap encN).length = Nat.min (l.length - i) (l.length + 1 - (i + 1)) * 6 := by rw [HLD.out, show Nat.min (l.length - i) (l.length + 1 - (i + 1)) = l.length - i from Nat.min_eq_left (by omega)]
  have hs2 : ∀ j v, ((l.drop i).flatMap encN)[j]? = some v → w2.drew.cell? ((⟨g, i * 6, none⟩ : Addr).add j) = some v := fun j v hj => by rw [addr_add]; refine (World.cell?_of_block (w := w) (w' := w2.drew) (a := ⟨g, i * 6 + j, none⟩) ?_).trans ?_; exact (HO2.out g (Nat.ne_of_lt hlt)).trans (HGB.out.block g hlt); have h1 := HD.out j v hj; rw [addr_add] at h1; exact h1
  have hs3 : (i + 1) * 6 + ((l.drop i).flatMap encN).length ≤ (rowC cs (i * 6) (encN x)).size := by rw [HLD.out, rowC_size (by rw [encN_len, HGS.out]; omega), HGS.out]; omega
  have HS1 := Lib.hid hs1; have HS2 := Lib.hid hs2; have HS3 := Lib.hid hs3; clear hs1 hs2 hs3
  have hGi : ¬ (G = i + 1) := by omega
  have hb1 : (0 : Int) ≤ (i : Int) + 1 := by omega
  have hb3 : (i : Int) + 1 ≤ (l.length : Int) + 1 := by omega
  have htn : ((i : Int) + 1).toNat = i + 1 := by omega
  have hw1 : IntKind.i64.wrap ((i : Int) + 1) = (i : Int) + 1 := IntWalk.i64_in _ (by omega)
  go_region_law (refine step_copyK rfl (.tmp 50) (.tmp 53) 50 50 rfl 58 6 Tryz.underlying50 hsz6 w.heap.size ((i + 1) * 6) (l.length + 1 - (i + 1)) (G - (i + 1)) ⟨g, i * 6, none⟩ (l.length - i) (l.length - i) (by simp [Act.eval, Act.put]) (by simp [Act.eval, Act.put]) (rowC cs (i * 6) (encN x)) H2.out.drew (((l.drop i).flatMap encN)) (HS1.out) (HS2.out) (HS3.out) (fun v hv => by obtain ⟨y, hy, hu⟩ := List.mem_flatMap.1 hv; exact encN_one y v hu) ?_; intro w3 h3 hb3 ho3; have H3 := Lib.hid h3; have HB3 := Lib.hid hb3; clear h3 hb3 ho3)
  go_wp2
  go_ret
  exact ⟨some ⟨w.heap.size, 0, none⟩, G, rfl, OwnR.ins_grow encN_len (by omega) HBS.out hG hGm HGS.out HGT.out H3.out, (HGB.out.mono HBS.out).trans (((HB2.out base HBS.out).drew).trans (HB3.out base HBS.out))⟩

set_option maxRecDepth 100000 in
set_option maxHeartbeats 4000000 in
theorem own_ninsert_room (l : List RnT) (w : World) (x : RnT) (g b base i c : Nat) (cur : Array Value) (hcur : Blk w g 58 cur) (hsz : cur.size = c * 6) (ht : cur.toList.take (l.length * 6) = l.flatMap encN) (hx : Blk w b 58 (encN x).toArray) (hbg : b ≠ g) (hi9 : i < l.length) (hn : l.length ≤ 1000000) (hbase : base ≤ g) (hc : l.length + 1 ≤ c) (hcm : c ≤ maxLen) :
    Calls Tryz.prog 160 #[.slice (some ⟨g, 0, none⟩) l.length c, .int .i64 (i : Int), .slice (some ⟨b, 0, none⟩) 1 1] w fun e w' => ∃ p' c', e = .returned (.slice p' (l.length + 1) c') ∧ OwnR encN 6 base 58 w' p' c' (insL l i false x) ∧ Below base w w' := by
  obtain ⟨i0, hi, hz0, hz1, hz2⟩ := info_parts info_run
  have hsz6 : (Tryz.prog.info? 58).map (·.size) = some 6 := by rw [hi]; simp [hz1]
  have hlt := hcur.lt
  have hbl := hx.lt
  have hcs0 : cur.size ≠ 0 := by rw [hsz]; omega
  have hcs : ∀ j u, (l.flatMap encN)[j]? = some u → w.cell? ⟨g, j, none⟩ = some u := fun j u h => by rw [← ht, List.getElem?_take] at h; split at h; (rw [hcur.cell]; simpa using h); cases h
  have hlD : ((l.drop i).flatMap encN).length = (l.length - i) * 6 := by rw [flat_len encN_len, List.length_drop]
  have hsl : (l.length + 1) * 6 ≤ cur.size := by rw [hsz]; exact Nat.mul_le_mul_right 6 hc
  have hs1 : ((l.drop i).flatMap encN).length = Nat.min (l.length + 1 - i) (l.length + 1 - (i + 1)) * 6 := by rw [hlD, show Nat.min (l.length + 1 - i) (l.length + 1 - (i + 1)) = l.length - i from (Nat.min_eq_right (by omega)).trans (by omega)]
  have hs2 : ∀ j v, ((l.drop i).flatMap encN)[j]? = some v → w.drew.cell? ((⟨g, i * 6, none⟩ : Addr).add j) = some v := fun j v hj => by rw [addr_add]; exact hcs _ v (flat_drop_get encN_len hj)
  have hs3 : (i + 1) * 6 + ((l.drop i).flatMap encN).length ≤ cur.size := by rw [hlD]; omega
  have hs4 : (encN x).length = Nat.min 1 (l.length + 1 - i) * 6 := by rw [encN_len, show Nat.min 1 (l.length + 1 - i) = 1 from Nat.min_eq_left (by omega)]
  have hs6 : i * 6 + (encN x).length ≤ (rowC cur ((i + 1) * 6) ((l.drop i).flatMap encN)).size := by rw [rowC_size hs3, encN_len]; omega
  have HS1 := Lib.hid hs1; have HS2 := Lib.hid hs2; have HS3 := Lib.hid hs3; have HS4 := Lib.hid hs4; have HS6 := Lib.hid hs6; have HC := Lib.hid hcur; have HX := Lib.hid hx; have HSZ := Lib.hid hsz; have HT := Lib.hid ht; have HCC := Lib.hid hc; have HCM := Lib.hid hcm; clear hs1 hs2 hs3 hs4 hs6 hlD hcs
  have hov : ∀ lb cb, (callFunc 205 #[.slice (some ⟨b, 0, none⟩) 1 1, .slice (some ⟨g, (i + 1) * 6, none⟩) lb cb]).run Tryz.prog w = .ok (.value (.bool false)) w := fun lb cb => by
    rw [run_callFunc_extern Tryz.func205 (by kernel_rfl) (by kernel_rfl) (by kernel_rfl) (e := Extern.SlicesOverlaps.overlaps #[50, 50] #[4]) (by kernel_rfl), Lib.run_overlaps_apart w 50 4 58 Tryz.underlying50 6 (fun w => by simp [Go.sizeOf, typeInfo, hi, hz1]) ⟨b, 0, none⟩ ⟨g, (i + 1) * 6, none⟩ 1 1 lb cb hbg 58 58 6 cur.size (by unfold World.shape?; rw [show w.heap[b]? = _ from hx]; simp [encN_len]) (by unfold World.shape?; rw [show w.heap[g]? = _ from hcur]) hcs0 (hx.frozen 0) (hx.frozen 6)]
    rfl
  clear hcur hx hsz ht hcs0 hsl
  unfold maxLen at hcm
  have hq2 : ((i : Int) == (l.length : Int)) = false := by simp; omega
  have hq3 : ¬ (c : Int) < (l.length : Int) + 1 := by omega
  have hci : ¬ (c = i) := by omega
  have hci1 : ¬ (c = i + 1) := by omega
  have hi0 : (0 : Int) ≤ (i : Int) := by omega
  have hi1 : (i : Int) ≤ (l.length : Int) := by omega
  have hi2 : (i : Int) ≤ (l.length : Int) + 1 := by omega
  have hi3 : (l.length : Int) + 1 ≤ (c : Int) := by omega
  have hcb : (c : Int) ≤ 9223372036854775807 := by omega
  have hn1 : ((l.length : Int) + 1).toNat = l.length + 1 := by omega
  have hb1 : (0 : Int) ≤ (i : Int) + 1 := by omega
  have hb3 : (i : Int) + 1 ≤ (l.length : Int) + 1 := by omega
  have htn : ((i : Int) + 1).toNat = i + 1 := by omega
  clear hcm
  have hw1 : IntKind.i64.wrap ((i : Int) + 1) = (i : Int) + 1 := IntWalk.i64_in _ (by omega)
  go_enter Tryz.func160, Tryz.ntmps160
  go_wp2_with (simp only [hov])
  go_region_law (refine step_copyK rfl (.tmp 73) (.tmp 76) 50 50 rfl 58 6 Tryz.underlying50 hsz6 g ((i + 1) * 6) (l.length + 1 - (i + 1)) (c - (i + 1)) ⟨g, i * 6, none⟩ (l.length + 1 - i) (c - i) (by simp [Act.eval, Act.put]) (by simp [Act.eval, Act.put]) cur HC.out.drew (((l.drop i).flatMap encN)) (HS1.out) (HS2.out) (HS3.out) (fun v hv => by obtain ⟨y, hy, hu⟩ := List.mem_flatMap.1 hv; exact encN_one y v hu) ?_; intro w2 h2 hb2 ho2; have H2 := Lib.hid h2; have HB2 := Lib.hid hb2; have HO2 := Lib.hid ho2; clear h2 hb2 ho2)
  have hs5 : ∀ j v, (encN x)[j]? = some v → w2.cell? ((⟨b, 0, none⟩ : Addr).add j) = some v := fun j v hj => by rw [addr_add, Nat.zero_add]; refine (World.cell?_of_block (w := w) (w' := w2) (a := ⟨b, j, none⟩) ?_).trans ?_; exact HO2.out b hbg; rw [HX.out.cell]; simpa using hj
  have HS5 := Lib.hid hs5; clear hs5
  go_wp2_with (first | (refine wpList_copyK rfl (.tmp 80) (.tmp 81) 50 50 rfl 58 6 Tryz.underlying50 hsz6 g (i * 6) (l.length + 1 - i) (c - i) ⟨b, 0, none⟩ (1) (1) rfl rfl (rowC cur ((i + 1) * 6) ((l.drop i).flatMap encN)) H2.out (encN x) (HS4.out) (HS5.out) (HS6.out) (encN_one x) ?_; intro w3 h3 hb3 ho3; have H3 := Lib.hid h3; have HB3 := Lib.hid hb3; clear h3 hb3 ho3))
  go_ret
  exact ⟨some ⟨g, 0, none⟩, c, rfl, OwnR.ins_room encN_len (by omega) hbase HCC.out HCM.out HSZ.out HT.out H3.out, ((Below.refl base w).drew.trans (HB2.out base hbase)).trans (HB3.out base hbase)⟩

set_option maxRecDepth 100000 in
set_option maxHeartbeats 4000000 in
theorem own_ninsert_end (l : List RnT) (w : World) (x : RnT) (pp : Option Addr) (cc base b : Nat) (hO : OwnR encN 6 base 58 w pp cc l) (hc : ∀ j u, (encN x)[j]? = some u → w.cell? ⟨b, j, none⟩ = some u) (hn : l.length ≤ 1000000) (hbase : base ≤ w.heap.size) :
    Calls Tryz.prog 160 #[.slice pp l.length cc, .int .i64 (l.length : Int), .slice (some ⟨b, 0, none⟩) 1 1] w fun e w' => ∃ p' c', e = .returned (.slice p' (l.length + 1) c') ∧ OwnR encN 6 base 58 w' p' c' (l ++ [x]) ∧ Below base w w' := by
  obtain ⟨i0, hi, hz0, hz1, hz2⟩ := info_parts info_run
  have HN := Lib.hid hn; have HC := Lib.hid hc; have HO := Lib.hid hO; have HBS := Lib.hid hbase; clear hn hc hbase
  have hcap := hO.cap
  rcases hO.2 with ⟨h1, h2⟩ | ⟨g, cap, cur, h1, -, -, -, h4, -⟩
  · obtain rfl : l = [] := List.length_eq_zero_iff.1 h2
    injection h1 with h1 h3 h4
    subst h1 h4
    clear hO hcap h2 h3
    dsimp only [List.length_nil]
    go_enter Tryz.func160, Tryz.ntmps160
    go_wp2_with (first | (at_builtin; refine wpList_appR3 rfl _ _ 50 rfl base 58 i0 (.agg #[.int .i64 0, .slice none 0 0, .int .i64 0, .int .i64 0, .int .i64 0, .int .i64 0]) 64 Tryz.underlying50 hi hz0 hz1 hz2 rfl (by decide) (by decide) none 0 _ [] rfl _ x b (encN_len x) HC.out (encN_one x) rfl HO.out rfl (by have := HN.out; omega) HBS.out ?_; intro p1 c1 w3 hO3 hb3 _; have HO3 := Lib.hid hO3; have HB3 := Lib.hid hb3; clear hO3 hb3))
    go_ret
    exact ⟨p1, c1, by simp, HO3.out, HB3.out⟩
  · injection h1 with h1 h3 h5
    subst h1 h5
    clear hO h3
    unfold maxLen at h4
    have hk0 : (0 : Int) ≤ (l.length : Int) := by omega
    have hk1 : (l.length : Int) ≤ (cc : Int) := by omega
    by_cases hcl : cc = l.length
    · subst hcl
      go_enter Tryz.func160, Tryz.ntmps160
      go_wp2_with (first | (at_builtin; refine wpList_appR3 rfl _ _ 50 rfl base 58 i0 (.agg #[.int .i64 0, .slice none 0 0, .int .i64 0, .int .i64 0, .int .i64 0, .int .i64 0]) 64 Tryz.underlying50 hi hz0 hz1 hz2 rfl (by decide) (by decide) (some ⟨g, 0, none⟩) l.length _ l rfl _ x b (encN_len x) HC.out (encN_one x) rfl HO.out rfl (by have := HN.out; omega) HBS.out ?_; intro p1 c1 w3 hO3 hb3 _; have HO3 := Lib.hid hO3; have HB3 := Lib.hid hb3; clear hO3 hb3))
      go_ret
      exact ⟨p1, c1, by simp, HO3.out, HB3.out⟩
    · have hcl2 : ¬ l.length = cc := fun h => hcl h.symm
      go_enter Tryz.func160, Tryz.ntmps160
      go_wp2_with (first | (at_builtin; refine wpList_appR3 rfl _ _ 50 rfl base 58 i0 (.agg #[.int .i64 0, .slice none 0 0, .int .i64 0, .int .i64 0, .int .i64 0, .int .i64 0]) 64 Tryz.underlying50 hi hz0 hz1 hz2 rfl (by decide) (by decide) (some ⟨g, 0, none⟩) cc _ l rfl _ x b (encN_len x) HC.out (encN_one x) rfl HO.out rfl (by have := HN.out; omega) HBS.out ?_; intro p1 c1 w3 hO3 hb3 _; have HO3 := Lib.hid hO3; have HB3 := Lib.hid hb3; clear hO3 hb3))
      go_ret
      exact ⟨p1, c1, by simp, HO3.out, HB3.out⟩

set_option maxRecDepth 100000 in
theorem own_ninsert (l : List RnT) (w : World) (x : RnT) (pp : Option Addr) (cc base b i : Nat) (hO : OwnR encN 6 base 58 w pp cc l) (hx : Blk w b 58 (encN x).toArray) (hne : ∀ a, pp = some a → b ≠ a.block) (hi : i ≤ l.length) (hn : l.length ≤ 1000000) (hbase : base ≤ w.heap.size) :
    Calls Tryz.prog 160 #[.slice pp l.length cc, .int .i64 (i : Int), .slice (some ⟨b, 0, none⟩) 1 1] w fun e w' => ∃ p' c', e = .returned (.slice p' (l.length + 1) c') ∧ OwnR encN 6 base 58 w' p' c' (insL l i false x) ∧ Below base w w' := by
  by_cases e : i = l.length
  · subst e
    rw [insL_end]
    exact own_ninsert_end l w x pp cc base b hO (fun j u hu => by rw [hx.cell]; simpa using hu) hn hbase
  · obtain ⟨g, cur, rfl, hg, hcur, h1, h2, h3, h4⟩ := hO.to_blk (fun h => by subst h; simp at hi; exact e hi)
    by_cases c : cc = l.length
    · subst c
      exact own_ninsert_grow l w x g b base i cur hcur h4 hx (by omega) hn hbase
    · exact own_ninsert_room l w x g b base i cc cur hcur h3 h4 hx (hne _ rfl) (by omega) hn hg (by omega) h2
end Go.Proofs.YtbamcfhmkohbmaaGreatDoor
namespace Go.Proofs.YtbamcfhmkohbmaaGreatDoor
open Go.RowKit Go.Shelf Lum
open Go.Lib (decDigits itoa)
attribute [local go_sem] bs_get bs_extract_end bs_extract_from bs_extract bs_append

set_option maxRecDepth 100000 in
set_option maxHeartbeats 8000000 in
theorem own_eput_hit (w : World) (L : List RnT) (x0 : RnT) (pp : Option Addr) (cc : Nat) (i : Nat) (hR : RowX encN 6 w pp L) (hok : OrdOk rnE (·.ef) (L.map (·.1))) (hx : 1 ≤ x0.1.ef ∧ x0.1.ef ≤ 1048576) (hb9 : Belongs (keyAt (·.ef) (L.map (·.1))) L.length x0.1.ef i true) :
    Calls Tryz.prog 93 #[.slice pp L.length cc, .agg #[.int .i64 (x0.1.ef), .slice x0.2.1 x0.2.2.1 x0.2.2.2, .int .i64 (x0.1.ce), .int .i64 (x0.1.cr), .int .i64 (x0.1.cd), .int .i64 (x0.1.cl)]] w fun e w' => ∃ p c, e = .returned (.slice p (insL L i true x0).length c) ∧ OwnR encN 6 w.heap.size 58 w' p c (insL L i true x0) ∧ Below w.heap.size w w' := by
  have hfew : L.length ≤ 16 := by have := hok.few; rwa [List.length_map] at this
  have hll : (L.map (·.1)).length = L.length := List.length_map _
  have hfi := fun W (h : RowX encN 6 W pp L) => own_find_run_at x0.1.ef (L.map (·.1)) L pp cc W rfl h hok hx i true (by rw [hll]; exact hb9)
  have hcl := fun W (h : RowX encN 6 W pp L) => own_nclone W L pp cc h (by omega)
  have hal := (Below.refl w.heap.size w).alloc (Nat.le_refl _) (.cells #[.int .i64 (x0.1.ef), .slice x0.2.1 x0.2.2.1 x0.2.2.2, .int .i64 (x0.1.ce), .int .i64 (x0.1.cr), .int .i64 (x0.1.cd), .int .i64 (x0.1.cl)] 58)
  have HR := Lib.hid (RowX.kept hR hal)
  have HB := Lib.hid hal; clear hal
  have HK := Lib.hid (Blk.new w 58 #[.int .i64 (x0.1.ef), .slice x0.2.1 x0.2.2.1 x0.2.2.2, .int .i64 (x0.1.ce), .int .i64 (x0.1.cr), .int .i64 (x0.1.cd), .int .i64 (x0.1.cl)])
  obtain ⟨k0, k1, k2, k3, k4, k5, kf0, kf1, kf2, kf3, kf4, kf5⟩ := HK.out.c6
  have HIN := Lib.hid hb9
  have HFEW := Lib.hid hfew
  clear hR hok hx hb9 hfew hll
  have HFI := Lib.hid hfi; clear hfi
  have HCL := Lib.hid hcl; clear hcl
  go_enter Tryz.func93, Tryz.ntmps93
  go_wp2_with (first | (with_reducible refine ((HFI.out _ HR.out).mono ?_); rintro e w' ⟨rfl, hb⟩; replace HK := Lib.hid (HK.out.keep hb); clear k0 k1 k2 k3 k4 k5 kf0 kf1 kf2 kf3 kf4 kf5; replace HR := Lib.hid (RowX.kept HR.out hb); replace HB := Lib.hid (bch' HB.out hb); clear hb; obtain ⟨k0, k1, k2, k3, k4, k5, kf0, kf1, kf2, kf3, kf4, kf5⟩ := HK.out.c6))
  refine ((HCL.out _ HR.out).mono ?_)
  rintro e w3 ⟨p1, c1, rfl, ho, hb⟩
  have HO := Lib.hid ho; clear ho
  have HW : Hid (w.heap.size < w'.heap.size) := Lib.hid HK.out.lt
  have HH : Hid (w'.heap.size ≤ w3.heap.size) := Lib.hid hb.size
  replace HK := Lib.hid (HK.out.keep hb); clear k0 k1 k2 k3 k4 k5 kf0 kf1 kf2 kf3 kf4 kf5; replace HB := Lib.hid (bch' HB.out hb); clear hb; obtain ⟨k0, k1, k2, k3, k4, k5, kf0, kf1, kf2, kf3, kf4, kf5⟩ := HK.out.c6
  clear HCL HFI HR
  obtain ⟨hi, -⟩ := HIN.out.yes rfl
  have hi0 : (0 : Int) ≤ (i : Int) := by omega
  have hi1 : (i : Int) < (L.length : Int) := by omega
  have h16 := HFEW.out
  obtain ⟨g, rfl, hg⟩ := ownR_some HO.out (fun h => by subst h; simp at hi)
  have hg2 : w.heap.size ≤ g := by have := HW.out; omega
  have hgk : g ≠ w.heap.size := by have := HW.out; omega
  have hgk2 : w.heap.size ≠ g := fun h => hgk h.symm
  obtain ⟨y, hy⟩ : ∃ y, y = L[i]'hi := ⟨_, rfl⟩
  have hca := HO.out.cellsAt encN_len (show L[i]? = some y by rw [hy]; exact List.getElem?_eq_getElem hi)
  have z0 : w3.cell? ⟨g, i * 6, none⟩ = some (.int .i64 (y.1.ef)) := hca 0 _ rfl
  have z1 : w3.cell? ⟨g, i * 6 + 1, none⟩ = some (.slice y.2.1 y.2.2.1 y.2.2.2) := hca 1 _ rfl
  have z2 : w3.cell? ⟨g, i * 6 + 2, none⟩ = some (.int .i64 (y.1.ce)) := hca 2 _ rfl
  have z3 : w3.cell? ⟨g, i * 6 + 3, none⟩ = some (.int .i64 (y.1.cr)) := hca 3 _ rfl
  have z4 : w3.cell? ⟨g, i * 6 + 4, none⟩ = some (.int .i64 (y.1.cd)) := hca 4 _ rfl
  have z5 : w3.cell? ⟨g, i * 6 + 5, none⟩ = some (.int .i64 (y.1.cl)) := hca 5 _ rfl
  have zf0 : w3.frozen? ⟨g, i * 6, none⟩ = false := HO.out.frozenAt (fun h => by subst h; simp at hi) _
  have zf1 : w3.frozen? ⟨g, i * 6 + 1, none⟩ = false := HO.out.frozenAt (fun h => by subst h; simp at hi) _
  have zf2 : w3.frozen? ⟨g, i * 6 + 2, none⟩ = false := HO.out.frozenAt (fun h => by subst h; simp at hi) _
  have zf3 : w3.frozen? ⟨g, i * 6 + 3, none⟩ = false := HO.out.frozenAt (fun h => by subst h; simp at hi) _
  have zf4 : w3.frozen? ⟨g, i * 6 + 4, none⟩ = false := HO.out.frozenAt (fun h => by subst h; simp at hi) _
  have zf5 : w3.frozen? ⟨g, i * 6 + 5, none⟩ = false := HO.out.frozenAt (fun h => by subst h; simp at hi) _
  clear hca hy
  go_wp2_with fail
  go_ret
  refine ⟨some ⟨g, 0, none⟩, c1, by first | (rw [insL_len_hit hi]; done) | (rw [insL_len_hit hi]; rfl), ?_, ?_⟩
  · rw [insL_set hi]
    exact (OwnR.setk encN_len HO.out hi x0).lower (Nat.le_of_lt HW.out)
  · exact (((((HB.out.setCell hg2 _).setCell hg2 _).setCell hg2 _).setCell hg2 _).setCell hg2 _).setCell hg2 _

set_option maxRecDepth 100000 in
set_option maxHeartbeats 8000000 in
theorem own_eput_new (w : World) (L : List RnT) (x0 : RnT) (pp : Option Addr) (cc : Nat) (i : Nat) (hR : RowX encN 6 w pp L) (hok : OrdOk rnE (·.ef) (L.map (·.1))) (hx : 1 ≤ x0.1.ef ∧ x0.1.ef ≤ 1048576) (hb9 : Belongs (keyAt (·.ef) (L.map (·.1))) L.length x0.1.ef i false) :
    Calls Tryz.prog 93 #[.slice pp L.length cc, .agg #[.int .i64 (x0.1.ef), .slice x0.2.1 x0.2.2.1 x0.2.2.2, .int .i64 (x0.1.ce), .int .i64 (x0.1.cr), .int .i64 (x0.1.cd), .int .i64 (x0.1.cl)]] w fun e w' => ∃ p c, e = .returned (.slice p (insL L i false x0).length c) ∧ OwnR encN 6 w.heap.size 58 w' p c (insL L i false x0) ∧ Below w.heap.size w w' := by
  have hfew : L.length ≤ 16 := by have := hok.few; rwa [List.length_map] at this
  have hll : (L.map (·.1)).length = L.length := List.length_map _
  have hfi := fun W (h : RowX encN 6 W pp L) => own_find_run_at x0.1.ef (L.map (·.1)) L pp cc W rfl h hok hx i false (by rw [hll]; exact hb9)
  have hcl := fun W (h : RowX encN 6 W pp L) => own_nclone W L pp cc h (by omega)
  have hal := (Below.refl w.heap.size w).alloc (Nat.le_refl _) (.cells #[.int .i64 (x0.1.ef), .slice x0.2.1 x0.2.2.1 x0.2.2.2, .int .i64 (x0.1.ce), .int .i64 (x0.1.cr), .int .i64 (x0.1.cd), .int .i64 (x0.1.cl)] 58)
  have HR := Lib.hid (RowX.kept hR hal)
  have HB := Lib.hid hal; clear hal
  have HK := Lib.hid (Blk.new w 58 #[.int .i64 (x0.1.ef), .slice x0.2.1 x0.2.2.1 x0.2.2.2, .int .i64 (x0.1.ce), .int .i64 (x0.1.cr), .int .i64 (x0.1.cd), .int .i64 (x0.1.cl)])
  obtain ⟨k0, k1, k2, k3, k4, k5, kf0, kf1, kf2, kf3, kf4, kf5⟩ := HK.out.c6
  have HIN := Lib.hid hb9
  have HFEW := Lib.hid hfew
  clear hR hok hx hb9 hfew hll
  have HFI := Lib.hid hfi; clear hfi
  have HCL := Lib.hid hcl; clear hcl
  go_enter Tryz.func93, Tryz.ntmps93
  go_wp2_with (first | (with_reducible refine ((HFI.out _ HR.out).mono ?_); rintro e w' ⟨rfl, hb⟩; replace HK := Lib.hid (HK.out.keep hb); clear k0 k1 k2 k3 k4 k5 kf0 kf1 kf2 kf3 kf4 kf5; replace HR := Lib.hid (RowX.kept HR.out hb); replace HB := Lib.hid (bch' HB.out hb); clear hb; obtain ⟨k0, k1, k2, k3, k4, k5, kf0, kf1, kf2, kf3, kf4, kf5⟩ := HK.out.c6))
  refine ((HCL.out _ HR.out).mono ?_)
  rintro e w3 ⟨p1, c1, rfl, ho, hb⟩
  have HO := Lib.hid ho; clear ho
  have HW : Hid (w.heap.size < w'.heap.size) := Lib.hid HK.out.lt
  have HH : Hid (w'.heap.size ≤ w3.heap.size) := Lib.hid hb.size
  replace HK := Lib.hid (HK.out.keep hb); clear k0 k1 k2 k3 k4 k5 kf0 kf1 kf2 kf3 kf4 kf5; replace HB := Lib.hid (bch' HB.out hb); clear hb; obtain ⟨k0, k1, k2, k3, k4, k5, kf0, kf1, kf2, kf3, kf4, kf5⟩ := HK.out.c6
  clear HCL HFI HR
  have hal := (Below.refl w3.heap.size w3).alloc (Nat.le_refl _) (.cells #[.int .i64 (x0.1.ef), .slice x0.2.1 x0.2.2.1 x0.2.2.2, .int .i64 (x0.1.ce), .int .i64 (x0.1.cr), .int .i64 (x0.1.cd), .int .i64 (x0.1.cl)] 58)
  go_wp2_with fail
  refine ((own_ninsert L _ x0 p1 c1 w'.heap.size w3.heap.size i (HO.out.keep hal) (Blk.new w3 58 _) (fun a ha => by have := (HO.out.lt a ha).2; omega) HIN.out.le (by have := HFEW.out; omega) (by rw [World.size_alloc]; have := HH.out; omega)).mono ?_)
  rintro e w5 ⟨p2, c2, rfl, ho, hb⟩
  have HO2 := Lib.hid ho; clear ho
  have HB3 := Lib.hid ((HB.out.trans (hal.mono (by have := HW.out; have := HH.out; omega))).trans (hb.mono (Nat.le_of_lt HW.out)))
  clear hal hb
  go_wp2_with fail
  go_ret
  have hil := HIN.out.le
  refine ⟨p2, c2, by first | (rw [insL_len_miss hil]; done) | (rw [insL_len_miss hil]; rfl), ?_, HB3.out⟩
  exact HO2.out.lower (Nat.le_of_lt HW.out)

theorem own_eput (w : World) (L : List RnT) (x0 : RnT) (pp : Option Addr) (cc : Nat) (i : Nat) (hit : Bool) (hR : RowX encN 6 w pp L) (hok : OrdOk rnE (·.ef) (L.map (·.1))) (hx : 1 ≤ x0.1.ef ∧ x0.1.ef ≤ 1048576) (hb9 : Belongs (keyAt (·.ef) (L.map (·.1))) L.length x0.1.ef i hit) :
    Calls Tryz.prog 93 #[.slice pp L.length cc, .agg #[.int .i64 (x0.1.ef), .slice x0.2.1 x0.2.2.1 x0.2.2.2, .int .i64 (x0.1.ce), .int .i64 (x0.1.cr), .int .i64 (x0.1.cd), .int .i64 (x0.1.cl)]] w fun e w' => ∃ p c, e = .returned (.slice p (insL L i hit x0).length c) ∧ OwnR encN 6 w.heap.size 58 w' p c (insL L i hit x0) ∧ Below w.heap.size w w' := by
  cases hit with
  | true => exact own_eput_hit w L x0 pp cc i hR hok hx hb9
  | false => exact own_eput_new w L x0 pp cc i hR hok hx hb9
end Go.Proofs.YtbamcfhmkohbmaaGreatDoor

/-
  Lists of cues: the reference: Check and Few.
-/
import Derived.Test.YtikogofioggmlaaGreatDoorLd
set_option linter.unusedVariables false
set_option linter.unusedSimpArgs false
namespace Lum
open Go Go.RowKit Go.Shelf
open Go.Lib (decDigits itoa)
/-- What Few asks of a cue. -/
structure CuF (c : Cu) : Prop where
  nu : c.nu.length ≤ 1000000
  la : c.la.length ≤ 1000000
  li : c.li.length ≤ 1000000
def NxtC (fo lo : Int) (li : Txt) : Prop := (fo = -1 ∨ (25 ≤ fo ∧ fo ≤ 10000000)) ∧ (li ≠ [] → NumR li) ∧ 0 ≤ lo ∧ lo ≤ 100 ∧ (0 < lo → li ≠ [])
def FolR (fo : Int) : Prop := fo = -1 ∨ (25 ≤ fo ∧ fo ≤ 10000000)

def McP (l : List Mv) (n k : Nat) : Prop := ∀ j (hj : j < l.length), j < k → (l[j]'hj).pt ≤ (n : Int)
def McI (x : CuL) (g : Nat) (T : TypeId) (w : World) (s : Value) (wr : World) : Prop := ∃ k : Nat, s = .int .i64 (k : Int) ∧ k ≤ x.c.mv.length ∧ Hid (McP x.c.mv x.c.pt.length k) ∧ Hid (Below w.heap.size w wr) ∧ Hid (Blk wr g T #[.string ⟨x.c.nu.toArray⟩, .string ⟨x.c.la.toArray⟩, .slice x.pm x.c.mv.length x.cm, .slice x.pp x.c.pt.length x.cp, .bool (x.c.bl), .bool (x.c.mk_), .int .i64 (x.c.fo), .string ⟨x.c.li.toArray⟩, .int .i64 (x.c.lo)]) ∧ Hid (RowX encMv 5 wr x.pm x.c.mv)
theorem McP.next {l : List Mv} {n k : Nat} (h : McP l n k) (hk : k < l.length) (h1 : (l[k]'hk).pt ≤ (n : Int)) : McP l n (k + 1) := by
  intro j hj hjk
  by_cases e : j = k
  · subst e; exact h1
  · exact h j hj (by omega)

def fewCu (c : Cu) : Bool := decide (c.nu.length ≤ 40) && (decide (c.la.length ≤ 100) && (decide (c.li.length ≤ 40) && (decide (c.pt.length ≤ 10) && decide (c.mv.length ≤ 300))))
theorem fewCu_yes {c : Cu} (h : fewCu c = true) : CuF c := by
  unfold fewCu at h
  simp only [Bool.and_eq_true, decide_eq_true_eq] at h
  exact ⟨by omega, by omega, by omega⟩
structure FewL (L : List CuL) : Prop where
  few : L.length ≤ 128
  ok : ∀ x ∈ L, CuF x.c

def FwI (L : List CuL) (v : List Value) (g : Nat) (T : TypeId) (p : Option Addr) (w : World) (s : Value) (wr : World) : Prop := ∃ k : Nat, s = .int .i64 (k : Int) ∧ k ≤ L.length ∧ Hid (∀ j (hj : j < L.length), j < k → CuF (L[j]'hj).c) ∧ Hid (Below w.heap.size w wr) ∧ Hid (Blk wr g T v.toArray) ∧ Hid (CusAt wr p L)

def CkP (L : List CuL) (k : Nat) : Prop := ∀ j (hj : j < L.length), j < k → CuR (L[j]'hj).c ∧ ∀ (h0 : 0 < j), val5 (L[j - 1]'(by omega)).c.nu < val5 (L[j]'hj).c.nu
theorem CkP.next {L : List CuL} {k : Nat} (h : CkP L k) (hk : k < L.length) (h1 : CuR (L[k]'hk).c) (h2 : ∀ (h0 : 0 < k), val5 (L[k - 1]'(by omega)).c.nu < val5 (L[k]'hk).c.nu) : CkP L (k + 1) := by
  intro j hj hjk
  by_cases e : j = k
  · subst e; exact ⟨h1, h2⟩
  · exact h j hj (by omega)
theorem CkP.done {num pri : Int} {L : List CuL} (h : CkP L L.length) (h1 : 1 ≤ num) (h2 : num ≤ 1048576) (h3 : 0 ≤ pri) (h4 : pri ≤ 9) (h5 : L.length ≤ 64) : LsR num pri (L.map CuL.c) := by
  refine ⟨h1, h2, h3, h4, by rw [List.length_map]; exact h5, fun c hc => ?_, fun i hi => ?_⟩
  · obtain ⟨x, hx, rfl⟩ := List.mem_map.1 hc
    obtain ⟨j, hj, rfl⟩ := List.getElem_of_mem hx
    exact (h j hj hj).1
  · rw [List.getElem_map, List.getElem_map]
    rw [List.length_map] at hi
    exact (h (i + 1) hi hi).2 (by omega)
def CkI (L : List CuL) (v : List Value) (g : Nat) (T : TypeId) (p : Option Addr) (w : World) (s : Value) (wr : World) : Prop := ∃ k : Nat, s = .int .i64 (k : Int) ∧ k ≤ L.length ∧ Hid (CkP L k) ∧ Hid (Below w.heap.size w wr) ∧ Hid (Blk wr g T v.toArray) ∧ Hid (CusAt wr p L)
theorem ordI_ge {a b : Nat} : 0 ≤ ordI a b ↔ ¬ a < b := by unfold ordI; by_cases h : a < b; (rw [if_pos h]; omega); (rw [if_neg h]; split <;> omega)

theorem rowX_at {β : Type} {enc : β → List Value} {k : Nat} {W : World} {b o : Nat} {l : List β} (h : RowX enc k W (some ⟨b, o, none⟩) l) (hn : l ≠ []) : b < W.heap.size ∧ ∀ i (hi : i < l.length) (j : Nat) (v : Value), (enc (l[i]'hi))[j]? = some v → W.cell? ⟨b, o + i * k + j, none⟩ = some v := by
  obtain ⟨b2, o2, e, h1, h2⟩ := h hn
  injection e with e
  injection e with e1 e2 e3
  subst e1 e2
  exact ⟨h1, h2⟩
end Lum
namespace Go.Proofs.YtikogofioggmlaaGreatDoor
open Go.RowKit Go.Shelf Lum
open Go.Lib (decDigits itoa)
attribute [local go_sem] bs_get bs_extract_end bs_extract_from bs_extract bs_append

set_option maxRecDepth 100000 in
set_option maxHeartbeats 4000000 in
theorem r16_next (nu la li : Txt) (pm pp : Option Addr) (nm cm np cp : Nat) (bl mk : Bool) (fo lo : Int) (w : World) (hl : li.length ≤ 1000000) :
    Calls Tryz.prog 33 #[.agg #[.string ⟨nu.toArray⟩, .string ⟨la.toArray⟩, .slice pm nm cm, .slice pp np cp, .bool bl, .bool mk, .int .i64 fo, .string ⟨li.toArray⟩, .int .i64 lo]] w (NumP (NxtC fo lo li) w) := by
  have HK := Lib.hid (Blk.new w 32 #[.string ⟨nu.toArray⟩, .string ⟨la.toArray⟩, .slice pm nm cm, .slice pp np cp, .bool bl, .bool mk, .int .i64 fo, .string ⟨li.toArray⟩, .int .i64 lo])
  have HB := Lib.hid ((Below.refl w.heap.size w).alloc (Nat.le_refl _) (.cells #[.string ⟨nu.toArray⟩, .string ⟨la.toArray⟩, .slice pm nm cm, .slice pp np cp, .bool bl, .bool mk, .int .i64 fo, .string ⟨li.toArray⟩, .int .i64 lo] 32))
  obtain ⟨k0, k1, k2, k3, k4, k5, k6, k7, k8, kf0, kf1, kf2, kf3, kf4, kf5, kf6, kf7, kf8⟩ := HK.out.c9
  have hnu := fun W => r5_check li W hl
  have HNU := Lib.hid hnu; clear hnu
  cases li with
  | nil =>
    by_cases f0 : fo = -1
    · subst f0
      have hf0 : (((-1 : Int)) != (-1 : Int)) = false := by decide
      have HF : Hid (FolR (-1)) := Lib.hid (.inl rfl)
      by_cases l0 : lo < 0
      · go_enter Tryz.func33, Tryz.ntmps33
        go_wp2_with fail
        go_ret
        exact ⟨2, rfl, (fun h => absurd h (by decide)), HB.out⟩
      · by_cases l1 : (100 : Int) < lo
        · go_enter Tryz.func33, Tryz.ntmps33
          go_wp2_with fail
          go_ret
          exact ⟨2, rfl, (fun h => absurd h (by decide)), HB.out⟩
        · by_cases l2 : (0 : Int) < lo
          · go_enter Tryz.func33, Tryz.ntmps33
            go_wp2_with fail
            go_ret
            exact ⟨11, rfl, (fun h => absurd h (by decide)), HB.out⟩
          · go_enter Tryz.func33, Tryz.ntmps33
            go_wp2_with fail
            go_ret
            exact ⟨0, rfl, fun _ => ⟨HF.out, fun h => absurd rfl h, by omega, by omega, fun h => absurd h (by omega)⟩, HB.out⟩
    · have hf0 : ((fo : Int) != (-1 : Int)) = true := by simpa using f0
      by_cases f1 : fo < 25
      · go_enter Tryz.func33, Tryz.ntmps33
        go_wp2_with fail
        go_ret
        exact ⟨2, rfl, (fun h => absurd h (by decide)), HB.out⟩
      · by_cases f2 : 10000000 < fo
        · go_enter Tryz.func33, Tryz.ntmps33
          go_wp2_with fail
          go_ret
          exact ⟨2, rfl, (fun h => absurd h (by decide)), HB.out⟩
        · have HF : Hid (FolR fo) := Lib.hid (.inr ⟨by omega, by omega⟩)
          by_cases l0 : lo < 0
          · go_enter Tryz.func33, Tryz.ntmps33
            go_wp2_with fail
            go_ret
            exact ⟨2, rfl, (fun h => absurd h (by decide)), HB.out⟩
          · by_cases l1 : (100 : Int) < lo
            · go_enter Tryz.func33, Tryz.ntmps33
              go_wp2_with fail
              go_ret
              exact ⟨2, rfl, (fun h => absurd h (by decide)), HB.out⟩
            · by_cases l2 : (0 : Int) < lo
              · go_enter Tryz.func33, Tryz.ntmps33
                go_wp2_with fail
                go_ret
                exact ⟨11, rfl, (fun h => absurd h (by decide)), HB.out⟩
              · go_enter Tryz.func33, Tryz.ntmps33
                go_wp2_with fail
                go_ret
                exact ⟨0, rfl, fun _ => ⟨HF.out, fun h => absurd rfl h, by omega, by omega, fun h => absurd h (by omega)⟩, HB.out⟩
  | cons c0 r0 =>
    have hli : ((c0 :: r0 : Txt) != []) = true := rfl
    have hli2 : ((c0 :: r0 : Txt) == []) = false := rfl
    by_cases f0 : fo = -1
    · subst f0
      have hf0 : (((-1 : Int)) != (-1 : Int)) = false := by decide
      have HF : Hid (FolR (-1)) := Lib.hid (.inl rfl)
      go_enter Tryz.func33, Tryz.ntmps33
      go_upto_region 5 with (first | ((with_reducible refine ((HNU.out _).mono ?_)); rintro e w' ⟨n1, rfl, hn1, hb⟩; have HN1 := Lib.hid hn1; clear hn1; replace HK := Lib.hid (HK.out.keep hb); clear k0 k1 k2 k3 k4 k5 k6 k7 k8 kf0 kf1 kf2 kf3 kf4 kf5 kf6 kf7 kf8; replace HB := Lib.hid (bch' HB.out hb); clear hb; obtain ⟨k0, k1, k2, k3, k4, k5, k6, k7, k8, kf0, kf1, kf2, kf3, kf4, kf5, kf6, kf7, kf8⟩ := HK.out.c9))
      by_cases z : n1 = 0
      · subst z
        by_cases l0 : lo < 0
        · skip
          go_wp2_with fail
          go_ret
          exact ⟨2, rfl, (fun h => absurd h (by decide)), HB.out⟩
        · by_cases l1 : (100 : Int) < lo
          · skip
            go_wp2_with fail
            go_ret
            exact ⟨2, rfl, (fun h => absurd h (by decide)), HB.out⟩
          · by_cases l2 : (0 : Int) < lo
            · skip
              go_wp2_with fail
              go_ret
              exact ⟨0, rfl, fun _ => ⟨HF.out, fun _ => HN1.out (by first | rfl | trivial), by omega, by omega, fun _ h => by cases h⟩, HB.out⟩
            · skip
              go_wp2_with fail
              go_ret
              exact ⟨0, rfl, fun _ => ⟨HF.out, fun _ => HN1.out (by first | rfl | trivial), by omega, by omega, fun h => absurd h (by omega)⟩, HB.out⟩
      · have hne : ((n1 : Int) != 0) = true := by simpa using z
        have HZ := Lib.hid z; clear z
        go_wp2_with fail
        go_ret
        exact ⟨n1, rfl, fun h => absurd h HZ.out, HB.out⟩
    · have hf0 : ((fo : Int) != (-1 : Int)) = true := by simpa using f0
      by_cases f1 : fo < 25
      · go_enter Tryz.func33, Tryz.ntmps33
        go_wp2_with fail
        go_ret
        exact ⟨2, rfl, (fun h => absurd h (by decide)), HB.out⟩
      · by_cases f2 : 10000000 < fo
        · go_enter Tryz.func33, Tryz.ntmps33
          go_wp2_with fail
          go_ret
          exact ⟨2, rfl, (fun h => absurd h (by decide)), HB.out⟩
        · have HF : Hid (FolR fo) := Lib.hid (.inr ⟨by omega, by omega⟩)
          go_enter Tryz.func33, Tryz.ntmps33
          go_upto_region 5 with (first | ((with_reducible refine ((HNU.out _).mono ?_)); rintro e w' ⟨n1, rfl, hn1, hb⟩; have HN1 := Lib.hid hn1; clear hn1; replace HK := Lib.hid (HK.out.keep hb); clear k0 k1 k2 k3 k4 k5 k6 k7 k8 kf0 kf1 kf2 kf3 kf4 kf5 kf6 kf7 kf8; replace HB := Lib.hid (bch' HB.out hb); clear hb; obtain ⟨k0, k1, k2, k3, k4, k5, k6, k7, k8, kf0, kf1, kf2, kf3, kf4, kf5, kf6, kf7, kf8⟩ := HK.out.c9))
          by_cases z : n1 = 0
          · subst z
            by_cases l0 : lo < 0
            · skip
              go_wp2_with fail
              go_ret
              exact ⟨2, rfl, (fun h => absurd h (by decide)), HB.out⟩
            · by_cases l1 : (100 : Int) < lo
              · skip
                go_wp2_with fail
                go_ret
                exact ⟨2, rfl, (fun h => absurd h (by decide)), HB.out⟩
              · by_cases l2 : (0 : Int) < lo
                · skip
                  go_wp2_with fail
                  go_ret
                  exact ⟨0, rfl, fun _ => ⟨HF.out, fun _ => HN1.out (by first | rfl | trivial), by omega, by omega, fun _ h => by cases h⟩, HB.out⟩
                · skip
                  go_wp2_with fail
                  go_ret
                  exact ⟨0, rfl, fun _ => ⟨HF.out, fun _ => HN1.out (by first | rfl | trivial), by omega, by omega, fun h => absurd h (by omega)⟩, HB.out⟩
          · have hne : ((n1 : Int) != 0) = true := by simpa using z
            have HZ := Lib.hid z; clear z
            go_wp2_with fail
            go_ret
            exact ⟨n1, rfl, fun h => absurd h HZ.out, HB.out⟩

set_option maxRecDepth 100000 in
set_option maxHeartbeats 4000000 in
theorem r16_check (x : CuL) (w : World) (hc : CuAt w x) (hf : CuF x.c) :
    Calls Tryz.prog 21 #[.agg #[.string ⟨x.c.nu.toArray⟩, .string ⟨x.c.la.toArray⟩, .slice x.pm x.c.mv.length x.cm, .slice x.pp x.c.pt.length x.cp, .bool (x.c.bl), .bool (x.c.mk_), .int .i64 (x.c.fo), .string ⟨x.c.li.toArray⟩, .int .i64 (x.c.lo)]] w (NumP (CuR x.c) w) := by
  have HK := Lib.hid (Blk.new w 32 #[.string ⟨x.c.nu.toArray⟩, .string ⟨x.c.la.toArray⟩, .slice x.pm x.c.mv.length x.cm, .slice x.pp x.c.pt.length x.cp, .bool (x.c.bl), .bool (x.c.mk_), .int .i64 (x.c.fo), .string ⟨x.c.li.toArray⟩, .int .i64 (x.c.lo)])
  have HB := Lib.hid ((Below.refl w.heap.size w).alloc (Nat.le_refl _) (.cells #[.string ⟨x.c.nu.toArray⟩, .string ⟨x.c.la.toArray⟩, .slice x.pm x.c.mv.length x.cm, .slice x.pp x.c.pt.length x.cp, .bool (x.c.bl), .bool (x.c.mk_), .int .i64 (x.c.fo), .string ⟨x.c.li.toArray⟩, .int .i64 (x.c.lo)] 32))
  obtain ⟨k0, k1, k2, k3, k4, k5, k6, k7, k8, kf0, kf1, kf2, kf3, kf4, kf5, kf6, kf7, kf8⟩ := HK.out.c9
  have HMV := Lib.hid (hc.m.kept HB.out); have HPT := Lib.hid (hc.p.kept HB.out)
  have hnu := fun W => r5_check x.c.nu W hf.nu
  have hla := fun W => r16_label x.c.la W hf.la
  have hmv := fun W (h : RowX encMv 5 W x.pm x.c.mv) => r16_moves x.c.mv x.pm x.cm W h
  have hpt := fun W (h : RowX encTm 6 W x.pp x.c.pt) => r16_parts x.c.pt x.pp x.cp W h
  have hnx := fun W => r16_next x.c.nu x.c.la x.c.li x.pm x.pp x.c.mv.length x.cm x.c.pt.length x.cp x.c.bl x.c.mk_ x.c.fo x.c.lo W hf.li
  clear hc hf
  have HNU := Lib.hid hnu; clear hnu
  have HLA := Lib.hid hla; clear hla
  have HMVC := Lib.hid hmv; clear hmv
  have HPTC := Lib.hid hpt; clear hpt
  have HNX := Lib.hid hnx; clear hnx
  go_enter Tryz.func21, Tryz.ntmps21
  go_upto_region 2 with (first | ((with_reducible refine ((HNU.out _).mono ?_)); rintro e w' ⟨n1, rfl, hn1, hb⟩; have HN1 := Lib.hid hn1; clear hn1; replace HK := Lib.hid (HK.out.keep hb); clear k0 k1 k2 k3 k4 k5 k6 k7 k8 kf0 kf1 kf2 kf3 kf4 kf5 kf6 kf7 kf8; replace HMV := Lib.hid (RowX.kept HMV.out hb); replace HPT := Lib.hid (RowX.kept HPT.out hb); replace HB := Lib.hid (bch' HB.out hb); clear hb; obtain ⟨k0, k1, k2, k3, k4, k5, k6, k7, k8, kf0, kf1, kf2, kf3, kf4, kf5, kf6, kf7, kf8⟩ := HK.out.c9))
  by_cases z : n1 = 0
  · subst z
    go_upto_region 5 with (first | ((with_reducible refine ((HLA.out _).mono ?_)); rintro e w' ⟨n2, rfl, hn1, rfl⟩; have HN2 := Lib.hid hn1; clear hn1))
    by_cases z : n2 = 0
    · subst z
      go_upto_region 8 with (first | ((with_reducible refine ((HMVC.out _ HMV.out).mono ?_)); rintro e w' ⟨n3, rfl, hn1, hb⟩; have HN3 := Lib.hid hn1; clear hn1; replace HK := Lib.hid (HK.out.keep hb); clear k0 k1 k2 k3 k4 k5 k6 k7 k8 kf0 kf1 kf2 kf3 kf4 kf5 kf6 kf7 kf8; replace HMV := Lib.hid (RowX.kept HMV.out hb); replace HPT := Lib.hid (RowX.kept HPT.out hb); replace HB := Lib.hid (bch' HB.out hb); clear hb; obtain ⟨k0, k1, k2, k3, k4, k5, k6, k7, k8, kf0, kf1, kf2, kf3, kf4, kf5, kf6, kf7, kf8⟩ := HK.out.c9))
      by_cases z : n3 = 0
      · subst z
        go_upto_region 11 with (first | ((with_reducible refine ((HPTC.out _ HPT.out).mono ?_)); rintro e w' ⟨n4, rfl, hn1, hb⟩; have HN4 := Lib.hid hn1; clear hn1; replace HK := Lib.hid (HK.out.keep hb); clear k0 k1 k2 k3 k4 k5 k6 k7 k8 kf0 kf1 kf2 kf3 kf4 kf5 kf6 kf7 kf8; replace HMV := Lib.hid (RowX.kept HMV.out hb); replace HPT := Lib.hid (RowX.kept HPT.out hb); replace HB := Lib.hid (bch' HB.out hb); clear hb; obtain ⟨k0, k1, k2, k3, k4, k5, k6, k7, k8, kf0, kf1, kf2, kf3, kf4, kf5, kf6, kf7, kf8⟩ := HK.out.c9))
        by_cases z : n4 = 0
        · subst z
          have hmb : x.c.mv.length ≤ 128 := (HN3.out (by first | rfl | trivial)).few
          go_wp2_with fail
          go_loopw [7] (fun s wr => McI x w.heap.size 32 w s wr) (fun s _ => x.c.mv.length - (intOf s).toNat)
          case atStart => exact ⟨0, rfl, Nat.zero_le _, Lib.hid (fun j _ h => absurd h (Nat.not_lt_zero _)), HB, HK, HMV⟩
          case round =>
            obtain ⟨k, rfl, hk9, HP, HB2, HK2, HMV2⟩ := hrel
            clear HB HK HMV
            clear k0 k1 k2 k3 k4 k5 k6 k7 k8 kf0 kf1 kf2 kf3 kf4 kf5 kf6 kf7 kf8
            have HB := HB2; have HK := HK2; have HMV := HMV2; clear HB2 HK2 HMV2
            obtain ⟨k0, k1, k2, k3, k4, k5, k6, k7, k8, kf0, kf1, kf2, kf3, kf4, kf5, kf6, kf7, kf8⟩ := HK.out.c9
            by_cases hkl : k < x.c.mv.length
            · have hlt : (k : Int) < (x.c.mv.length : Int) := by omega
              have hk0 : (0 : Int) ≤ (k : Int) := by omega
              have hlo : k * 5 < 9223372036854775807 := by omega
              have hun : IntKind.i64.wrap ((k : Int) + 1) = (k : Int) + 1 := IntWalk.i64_in _ (by omega)
              obtain ⟨b, o, hpm, hb, hC⟩ := HMV.out (fun h => by rw [h] at hkl; exact absurd hkl (Nat.not_lt_zero _))
              obtain ⟨m, hm⟩ : ∃ m, m = x.c.mv[k]'hkl := ⟨_, rfl⟩
              have hcell := hC k hkl
              rw [← hm] at hcell
              have HMX := Lib.hid hm
              clear hm hC
              rw [hpm] at HK
              clear k0 k1 k2 k3 k4 k5 k6 k7 k8 kf0 kf1 kf2 kf3 kf4 kf5 kf6 kf7 kf8
              obtain ⟨k0, k1, k2, k3, k4, k5, k6, k7, k8, kf0, kf1, kf2, kf3, kf4, kf5, kf6, kf7, kf8⟩ := HK.out.c9
              have y4 : wr.cell? ⟨b, o + k * 5 + 4, none⟩ = some (.int .i64 m.pt) := hcell 4 _ rfl
              have hbr := hb
              clear hcell hb
              by_cases hp : (x.c.pt.length : Int) < m.pt
              · go_upto_region 16 with fail
                go_region
                go_wp2_with fail
                go_ret
                exact ⟨6, rfl, (fun h => absurd h (by decide)), HB.out.drew⟩
              · have HP1 : Hid ((x.c.mv[k]'hkl).pt ≤ (x.c.pt.length : Int)) := Lib.hid (by rw [← HMX.out]; omega)
                go_upto_region 16 with fail
                go_region
                go_wp2_with fail
                go_roundw
                case rel => exact ⟨k + 1, by first | rfl | simp, by omega, Lib.hid (HP.out.next hkl HP1.out), Lib.hid HB.out.drew, Lib.hid (by rw [hpm]; exact HK.out.drew), Lib.hid (HMV.out.kept (Below.refl _ _).drew)⟩
                case measure => first | (simp [intOf]; done) | (simp [intOf]; omega)
            · have hlt : ¬ (k : Int) < (x.c.mv.length : Int) := by omega
              obtain rfl : k = x.c.mv.length := by omega
              go_wp2_with (first | ((with_reducible refine ((HNX.out _).mono ?_)); rintro e w' ⟨n5, rfl, hn1, hb⟩; have HN5 := Lib.hid hn1; clear hn1; replace HK := Lib.hid (HK.out.keep hb); clear k0 k1 k2 k3 k4 k5 k6 k7 k8 kf0 kf1 kf2 kf3 kf4 kf5 kf6 kf7 kf8; replace HB := Lib.hid (bch' HB.out hb); clear hb; obtain ⟨k0, k1, k2, k3, k4, k5, k6, k7, k8, kf0, kf1, kf2, kf3, kf4, kf5, kf6, kf7, kf8⟩ := HK.out.c9))
              go_ret
              exact ⟨n5, rfl, fun h => ⟨HN1.out (by first | rfl | trivial), HN2.out (by first | rfl | trivial), HN3.out (by first | rfl | trivial), HN4.out (by first | rfl | trivial), fun m hm => by obtain ⟨j, hj, rfl⟩ := List.getElem_of_mem hm; exact HP.out j hj hj, by obtain ⟨q1, q2, q3, q4, q5⟩ := HN5.out h; exact ⟨q1, q2, q3, q4, q5⟩⟩, HB.out⟩
        · have hne : ((n4 : Int) != 0) = true := by simpa using z
          have HZ := Lib.hid z; clear z
          go_wp2_with fail
          go_ret
          exact ⟨n4, rfl, fun h => absurd h HZ.out, HB.out⟩
      · have hne : ((n3 : Int) != 0) = true := by simpa using z
        have HZ := Lib.hid z; clear z
        go_wp2_with fail
        go_ret
        exact ⟨n3, rfl, fun h => absurd h HZ.out, HB.out⟩
    · have hne : ((n2 : Int) != 0) = true := by simpa using z
      have HZ := Lib.hid z; clear z
      go_wp2_with fail
      go_ret
      exact ⟨n2, rfl, fun h => absurd h HZ.out, HB.out⟩
  · have hne : ((n1 : Int) != 0) = true := by simpa using z
    have HZ := Lib.hid z; clear z
    go_wp2_with fail
    go_ret
    exact ⟨n1, rfl, fun h => absurd h HZ.out, HB.out⟩

set_option maxRecDepth 100000 in
set_option maxHeartbeats 4000000 in
theorem r16_fewmoves (p : Option Addr) (n c : Nat) (w : World) :
    Calls Tryz.prog 42 #[.slice p n c] w fun e w' => e = .returned (.bool (decide (n ≤ 300))) ∧ w = w' := by
  by_cases h : n ≤ 300
  · have hl : (n : Int) ≤ 300 := by omega
    rw [decide_eq_true h]
    go_enter Tryz.func42, Tryz.ntmps42
    go_wp2
    go_ret
    exact ⟨rfl, rfl⟩
  · have hl : ¬ (n : Int) ≤ 300 := by omega
    rw [decide_eq_false h]
    go_enter Tryz.func42, Tryz.ntmps42
    go_wp2
    go_ret
    exact ⟨rfl, rfl⟩

set_option maxRecDepth 100000 in
set_option maxHeartbeats 4000000 in
theorem r16_few (x : CuL) (w : World) :
    Calls Tryz.prog 28 #[.agg #[.string ⟨x.c.nu.toArray⟩, .string ⟨x.c.la.toArray⟩, .slice x.pm x.c.mv.length x.cm, .slice x.pp x.c.pt.length x.cp, .bool (x.c.bl), .bool (x.c.mk_), .int .i64 (x.c.fo), .string ⟨x.c.li.toArray⟩, .int .i64 (x.c.lo)]] w fun e w' => e = .returned (.bool (fewCu x.c)) ∧ Below w.heap.size w w' := by
  have HK := Lib.hid (Blk.new w 32 #[.string ⟨x.c.nu.toArray⟩, .string ⟨x.c.la.toArray⟩, .slice x.pm x.c.mv.length x.cm, .slice x.pp x.c.pt.length x.cp, .bool (x.c.bl), .bool (x.c.mk_), .int .i64 (x.c.fo), .string ⟨x.c.li.toArray⟩, .int .i64 (x.c.lo)])
  have HB := Lib.hid ((Below.refl w.heap.size w).alloc (Nat.le_refl _) (.cells #[.string ⟨x.c.nu.toArray⟩, .string ⟨x.c.la.toArray⟩, .slice x.pm x.c.mv.length x.cm, .slice x.pp x.c.pt.length x.cp, .bool (x.c.bl), .bool (x.c.mk_), .int .i64 (x.c.fo), .string ⟨x.c.li.toArray⟩, .int .i64 (x.c.lo)] 32))
  obtain ⟨k0, k1, k2, k3, k4, k5, k6, k7, k8, kf0, kf1, kf2, kf3, kf4, kf5, kf6, kf7, kf8⟩ := HK.out.c9
  by_cases d0 : (x.c.nu.length : Int) ≤ 40
  · by_cases d1 : (x.c.la.length : Int) ≤ 100
    · by_cases d2 : (x.c.li.length : Int) ≤ 40
      · by_cases d3 : (x.c.pt.length : Int) ≤ 10
        · have hfm := fun W => r16_fewmoves x.pm x.c.mv.length x.cm W
          have HF : Hid (fewCu x.c = decide (x.c.mv.length ≤ 300)) := Lib.hid (by unfold fewCu; rw [decide_eq_true (show x.c.nu.length ≤ 40 by omega), decide_eq_true (show x.c.la.length ≤ 100 by omega), decide_eq_true (show x.c.li.length ≤ 40 by omega), decide_eq_true (show x.c.pt.length ≤ 10 by omega)]; rfl)
          rw [HF.out]
          clear HF
          generalize decide (x.c.mv.length ≤ 300) = bb at *
          have HFM := Lib.hid hfm; clear hfm
          go_enter Tryz.func28, Tryz.ntmps28
          go_wp2_with (first | (with_reducible refine ((HFM.out _).mono ?_); rintro e w' ⟨rfl, rfl⟩))
          go_ret
          exact ⟨rfl, HB.out⟩
        · rw [show fewCu x.c = false by unfold fewCu; rw [decide_eq_false (show ¬ x.c.pt.length ≤ 10 by omega)]; simp]
          go_enter Tryz.func28, Tryz.ntmps28
          go_wp2_with fail
          go_ret
          exact ⟨rfl, HB.out⟩
      · rw [show fewCu x.c = false by unfold fewCu; rw [decide_eq_false (show ¬ x.c.li.length ≤ 40 by omega)]; simp]
        go_enter Tryz.func28, Tryz.ntmps28
        go_wp2_with fail
        go_ret
        exact ⟨rfl, HB.out⟩
    · rw [show fewCu x.c = false by unfold fewCu; rw [decide_eq_false (show ¬ x.c.la.length ≤ 100 by omega)]; simp]
      go_enter Tryz.func28, Tryz.ntmps28
      go_wp2_with fail
      go_ret
      exact ⟨rfl, HB.out⟩
  · rw [show fewCu x.c = false by unfold fewCu; rw [decide_eq_false (show ¬ x.c.nu.length ≤ 40 by omega)]; simp]
    go_enter Tryz.func28, Tryz.ntmps28
    go_wp2_with fail
    go_ret
    exact ⟨rfl, HB.out⟩

set_option maxRecDepth 100000 in
set_option maxHeartbeats 4000000 in
theorem r17_few (num pri : Int) (L : List CuL) (p : Option Addr) (c : Nat) (w : World) (hC : CusAt w p L) :
    Calls Tryz.prog 20 #[.agg #[.int .i64 num, .int .i64 pri, .slice p L.length c]] w (BoolP (FewL L) w) := by
  have HL := Lib.hid (Blk.new w 24 #[.int .i64 num, .int .i64 pri, .slice p L.length c])
  have HB := Lib.hid ((Below.refl w.heap.size w).alloc (Nat.le_refl _) (.cells #[.int .i64 num, .int .i64 pri, .slice p L.length c] 24))
  obtain ⟨l0, l1, l2, lf0, lf1, lf2⟩ := HL.out.c3
  have HC := Lib.hid (hC.kept HB.out); clear hC
  by_cases hm : 128 < L.length
  · have hm2 : (128 : Int) < (L.length : Int) := by omega
    go_enter Tryz.func20, Tryz.ntmps20
    go_wp2_with fail
    go_ret
    exact ⟨false, rfl, (fun h => by cases h), HB.out⟩
  · have hm2 : ¬ (128 : Int) < (L.length : Int) := by omega
    have HLN := Lib.hid (show L.length ≤ 128 by omega)
    go_enter Tryz.func20, Tryz.ntmps20
    go_wp2_with fail
    go_loopw [3] (fun s wr => FwI L [.int .i64 num, .int .i64 pri, .slice p L.length c] w.heap.size 24 p w s wr) (fun s _ => L.length - (intOf s).toNat)
    case atStart => exact ⟨0, rfl, Nat.zero_le _, Lib.hid (fun j _ h => absurd h (Nat.not_lt_zero _)), HB, HL, HC⟩
    case round =>
      obtain ⟨k, rfl, hk9, HP, HB2, HL2, HC2⟩ := hrel
      clear HB HL HC
      clear l0 l1 l2 lf0 lf1 lf2
      have HB := HB2; have HL := HL2; have HC := HC2; clear HB2 HL2 HC2
      obtain ⟨l0, l1, l2, lf0, lf1, lf2⟩ := HL.out.c3
      by_cases hkl : k < L.length
      · have hlt : (k : Int) < (L.length : Int) := by omega
        have hk0 : (0 : Int) ≤ (k : Int) := by omega
        have hlo : k * 9 < 9223372036854775807 := by have := HLN.out; omega
        have hun : IntKind.i64.wrap ((k : Int) + 1) = (k : Int) + 1 := IntWalk.i64_in _ (by have := HLN.out; omega)
        obtain ⟨b, o, hpp, hb, hC⟩ := HC.out.r (fun h => by rw [h] at hkl; exact absurd hkl (Nat.not_lt_zero _))
        obtain ⟨x, hx⟩ : ∃ x, x = L[k]'hkl := ⟨_, rfl⟩
        have hcell := hC k hkl
        rw [← hx] at hcell
        have HX := Lib.hid hx; have HCA : Hid (CuAt wr x) := Lib.hid (by rw [hx]; exact HC.out.a _ (List.getElem_mem hkl))
        subst hpp
        clear l0 l1 l2 lf0 lf1 lf2
        obtain ⟨l0, l1, l2, lf0, lf1, lf2⟩ := HL.out.c3
        have y0 : wr.cell? ⟨b, o + k * 9, none⟩ = some (.string ⟨x.c.nu.toArray⟩) := hcell 0 _ rfl
        have y1 : wr.cell? ⟨b, o + k * 9 + 1, none⟩ = some (.string ⟨x.c.la.toArray⟩) := hcell 1 _ rfl
        have y2 : wr.cell? ⟨b, o + k * 9 + 2, none⟩ = some (.slice x.pm x.c.mv.length x.cm) := hcell 2 _ rfl
        have y3 : wr.cell? ⟨b, o + k * 9 + 3, none⟩ = some (.slice x.pp x.c.pt.length x.cp) := hcell 3 _ rfl
        have y4 : wr.cell? ⟨b, o + k * 9 + 4, none⟩ = some (.bool (x.c.bl)) := hcell 4 _ rfl
        have y5 : wr.cell? ⟨b, o + k * 9 + 5, none⟩ = some (.bool (x.c.mk_)) := hcell 5 _ rfl
        have y6 : wr.cell? ⟨b, o + k * 9 + 6, none⟩ = some (.int .i64 (x.c.fo)) := hcell 6 _ rfl
        have y7 : wr.cell? ⟨b, o + k * 9 + 7, none⟩ = some (.string ⟨x.c.li.toArray⟩) := hcell 7 _ rfl
        have y8 : wr.cell? ⟨b, o + k * 9 + 8, none⟩ = some (.int .i64 (x.c.lo)) := hcell 8 _ rfl
        have hbr := hb
        have hfw := fun W => r16_few x W
        clear hcell hb hC hx
        by_cases hq : fewCu x.c = true
        · rw [hq] at hfw
          have HQ : Hid (CuF (L[k]'hkl).c) := Lib.hid (by rw [← HX.out]; exact fewCu_yes hq)
          clear hq
          have HFW := Lib.hid hfw; clear hfw
          go_wp2_with (first | (with_reducible refine ((HFW.out _).mono ?_); rintro e w' ⟨rfl, hb⟩; replace HL := Lib.hid (HL.out.keep hb); clear l0 l1 l2 lf0 lf1 lf2; replace HC := Lib.hid (CusAt.kept HC.out hb); replace HB := Lib.hid (bch' HB.out hb); clear hb; obtain ⟨l0, l1, l2, lf0, lf1, lf2⟩ := HL.out.c3))
          go_roundw
          case rel => exact ⟨k + 1, by first | rfl | simp, by omega, Lib.hid (fun j hj h => by by_cases e : j = k; (subst e; exact HQ.out); exact HP.out j hj (by omega)), HB, HL, HC⟩
          case measure => first | (simp [intOf]; done) | (simp [intOf]; omega)
        · have hq : fewCu x.c = false := by simpa using hq
          rw [hq] at hfw
          clear hq
          have HFW := Lib.hid hfw; clear hfw
          go_wp2_with (first | (with_reducible refine ((HFW.out _).mono ?_); rintro e w' ⟨rfl, hb⟩; replace HL := Lib.hid (HL.out.keep hb); clear l0 l1 l2 lf0 lf1 lf2; replace HC := Lib.hid (CusAt.kept HC.out hb); replace HB := Lib.hid (bch' HB.out hb); clear hb; obtain ⟨l0, l1, l2, lf0, lf1, lf2⟩ := HL.out.c3))
          go_ret
          exact ⟨false, rfl, (fun h => by cases h), HB.out⟩
      · have hlt : ¬ (k : Int) < (L.length : Int) := by omega
        obtain rfl : k = L.length := by omega
        go_wp2_with fail
        go_ret
        exact ⟨true, rfl, fun _ => ⟨HLN.out, fun x hx => by obtain ⟨j, hj, rfl⟩ := List.getElem_of_mem hx; exact HP.out j hj hj⟩, HB.out⟩

set_option maxRecDepth 100000 in
set_option maxHeartbeats 4000000 in
theorem r17_check (num pri : Int) (L : List CuL) (p : Option Addr) (c : Nat) (w : World) (hC : CusAt w p L) (hF : FewL L) :
    Calls Tryz.prog 13 #[.agg #[.int .i64 num, .int .i64 pri, .slice p L.length c]] w (NumP (LsR num pri (L.map CuL.c)) w) := by
  have HF := Lib.hid hF; clear hF
  have HLN := Lib.hid HF.out.few
  have HL := Lib.hid (Blk.new w 24 #[.int .i64 num, .int .i64 pri, .slice p L.length c])
  have HB := Lib.hid ((Below.refl w.heap.size w).alloc (Nat.le_refl _) (.cells #[.int .i64 num, .int .i64 pri, .slice p L.length c] 24))
  obtain ⟨l0, l1, l2, lf0, lf1, lf2⟩ := HL.out.c3
  have HC := Lib.hid (hC.kept HB.out); clear hC
  by_cases q1 : num < 1
  · go_enter Tryz.func13, Tryz.ntmps13
    go_wp2_with fail
    go_ret
    exact ⟨2, rfl, (fun h => absurd h (by decide)), HB.out⟩
  · by_cases q2 : (1048576 : Int) < num
    · go_enter Tryz.func13, Tryz.ntmps13
      go_wp2_with fail
      go_ret
      exact ⟨2, rfl, (fun h => absurd h (by decide)), HB.out⟩
    · by_cases q3 : pri < 0
      · go_enter Tryz.func13, Tryz.ntmps13
        go_wp2_with fail
        go_ret
        exact ⟨2, rfl, (fun h => absurd h (by decide)), HB.out⟩
      · by_cases q4 : (9 : Int) < pri
        · go_enter Tryz.func13, Tryz.ntmps13
          go_wp2_with fail
          go_ret
          exact ⟨2, rfl, (fun h => absurd h (by decide)), HB.out⟩
        · by_cases hm : (64 : Int) < (L.length : Int)
          · go_enter Tryz.func13, Tryz.ntmps13
            go_wp2_with fail
            go_ret
            exact ⟨5, rfl, (fun h => absurd h (by decide)), HB.out⟩
          · have HLM : Hid (L.length ≤ 64) := Lib.hid (by omega)
            go_enter Tryz.func13, Tryz.ntmps13
            go_wp2_with fail
            go_loopw [3] (fun s wr => CkI L [.int .i64 num, .int .i64 pri, .slice p L.length c] w.heap.size 24 p w s wr) (fun s _ => L.length - (intOf s).toNat)
            case atStart => exact ⟨0, rfl, Nat.zero_le _, Lib.hid (fun j _ h => absurd h (Nat.not_lt_zero _)), HB, HL, HC⟩
            case round =>
              obtain ⟨k, rfl, hk9, HP, HB2, HL2, HC2⟩ := hrel
              clear HB HL HC
              clear l0 l1 l2 lf0 lf1 lf2
              have HB := HB2; have HL := HL2; have HC := HC2; clear HB2 HL2 HC2
              obtain ⟨l0, l1, l2, lf0, lf1, lf2⟩ := HL.out.c3
              by_cases hkl : k < L.length
              · have hlt : (k : Int) < (L.length : Int) := by omega
                have hk0 : (0 : Int) ≤ (k : Int) := by omega
                have hlo : k * 9 < 9223372036854775807 := by have := HLN.out; omega
                have hun : IntKind.i64.wrap ((k : Int) + 1) = (k : Int) + 1 := IntWalk.i64_in _ (by have := HLN.out; omega)
                obtain ⟨b, o, hpp, hb, hC⟩ := HC.out.r (fun h => by rw [h] at hkl; exact absurd hkl (Nat.not_lt_zero _))
                obtain ⟨x, hx⟩ : ∃ x, x = L[k]'hkl := ⟨_, rfl⟩
                have hcell := hC k hkl
                rw [← hx] at hcell
                have HX := Lib.hid hx; have HCA : Hid (CuAt wr x) := Lib.hid (by rw [hx]; exact HC.out.a _ (List.getElem_mem hkl))
                subst hpp
                clear l0 l1 l2 lf0 lf1 lf2
                obtain ⟨l0, l1, l2, lf0, lf1, lf2⟩ := HL.out.c3
                have y0 : wr.cell? ⟨b, o + k * 9, none⟩ = some (.string ⟨x.c.nu.toArray⟩) := hcell 0 _ rfl
                have y1 : wr.cell? ⟨b, o + k * 9 + 1, none⟩ = some (.string ⟨x.c.la.toArray⟩) := hcell 1 _ rfl
                have y2 : wr.cell? ⟨b, o + k * 9 + 2, none⟩ = some (.slice x.pm x.c.mv.length x.cm) := hcell 2 _ rfl
                have y3 : wr.cell? ⟨b, o + k * 9 + 3, none⟩ = some (.slice x.pp x.c.pt.length x.cp) := hcell 3 _ rfl
                have y4 : wr.cell? ⟨b, o + k * 9 + 4, none⟩ = some (.bool (x.c.bl)) := hcell 4 _ rfl
                have y5 : wr.cell? ⟨b, o + k * 9 + 5, none⟩ = some (.bool (x.c.mk_)) := hcell 5 _ rfl
                have y6 : wr.cell? ⟨b, o + k * 9 + 6, none⟩ = some (.int .i64 (x.c.fo)) := hcell 6 _ rfl
                have y7 : wr.cell? ⟨b, o + k * 9 + 7, none⟩ = some (.string ⟨x.c.li.toArray⟩) := hcell 7 _ rfl
                have y8 : wr.cell? ⟨b, o + k * 9 + 8, none⟩ = some (.int .i64 (x.c.lo)) := hcell 8 _ rfl
                have hbr := hb
                have HFX : Hid (CuF x.c) := Lib.hid (by rw [hx]; exact HF.out.ok _ (List.getElem_mem hkl))
                have hck := fun W (h : CuAt W x) => r16_check x W h HFX.out
                clear hcell hb hC hx
                have HCK := Lib.hid hck; clear hck
                go_upto_region 9 with (first | ((with_reducible refine ((HCK.out _ HCA.out).mono ?_)); rintro e w' ⟨n1, rfl, hn1, hb⟩; have HN1 := Lib.hid hn1; clear hn1; replace HCA := Lib.hid (HCA.out.kept hb); replace HL := Lib.hid (HL.out.keep hb); clear l0 l1 l2 lf0 lf1 lf2; replace HC := Lib.hid (CusAt.kept HC.out hb); replace HB := Lib.hid (bch' HB.out hb); clear hb; obtain ⟨l0, l1, l2, lf0, lf1, lf2⟩ := HL.out.c3))
                clear y0 y1 y2 y3 y4 y5 y6 y7 y8 hbr
                by_cases z : n1 = 0
                · subst z
                  have HR1 : Hid (CuR (L[k]'hkl).c) := Lib.hid (by rw [← HX.out]; exact HN1.out (by first | rfl | trivial))
                  obtain ⟨hbb, hcc⟩ := rowX_at HC.out.r (fun h => by rw [h] at hkl; exact absurd hkl (Nat.not_lt_zero _))
                  have HBb := Lib.hid hbb; clear hbb
                  have HYK : Hid (w'.cell? ⟨b, o + k * 9, none⟩ = some (.string ⟨x.c.nu.toArray⟩)) := Lib.hid (by have := hcc k hkl 0 _ (by rw [← HX.out]; rfl); exact this)
                  go_upto_region 11 with fail
                  clear l0 l1 l2 lf0 lf1 lf2
                  by_cases k0 : k = 0
                  · have hgi : ¬ (0 : Int) < (k : Int) := by omega
                    have hd : decide (0 < k) = false := decide_eq_false (by omega)
                    have HK0 := Lib.hid k0; clear k0
                    have f0 := fun p : BelowOf _ => (HL.out.keep p.h).c3.2.2.1
                    refine wp_region_WQ (by kernel_rfl) (by kernel_rfl) ?_
                    repeat (refine WQ.step (fun K hK => ?_); go_simp; first | (refine hK.out _ ?_; clear hK K) | (apply Exists.intro; refine ⟨fun _ => ?_, hK.out _ ?_⟩; (first | rfl); clear hK K))
                    refine WQ.nil ?_
                    intro _ hw'
                    obtain ⟨⟨wq, hbq⟩, hw2⟩ := hw'
                    subst hw2
                    replace HL := Lib.hid (HL.out.keep hbq); replace HC := Lib.hid (HC.out.kept hbq)
                    replace HB := Lib.hid (bch' HB.out hbq)
                    clear f0
                    go_wp2_with fail
                    go_roundw
                    case rel => exact ⟨k + 1, by first | rfl | simp, by omega, Lib.hid (HP.out.next hkl HR1.out (fun h => absurd h (by have := HK0.out; omega))), HB, HL, HC⟩
                    case measure => first | (simp [intOf]; done) | (simp [intOf]; omega)
                  · have hi1 : k - 1 < L.length := by omega
                    have hgi : (0 : Int) < (k : Int) := by omega
                    have hd : decide (0 < k) = true := decide_eq_true (by omega)
                    have hm1 : IntKind.i64.wrap ((k : Int) - 1) = ((k - 1 : Nat) : Int) := by rw [IntWalk.i64_in _ (by have := HLN.out; omega)]; omega
                    have hlo1 : (k - 1) * 9 < 9223372036854775807 := by have := HLN.out; omega
                    obtain ⟨y, hy⟩ : ∃ y, y = L[k - 1]'hi1 := ⟨_, rfl⟩
                    have HY := Lib.hid hy; clear hy
                    have HYP : Hid (w'.cell? ⟨b, o + (k - 1) * 9, none⟩ = some (.string ⟨y.c.nu.toArray⟩)) := Lib.hid (by have := hcc (k - 1) hi1 0 _ (by rw [← HY.out]; rfl); exact this)
                    have hyn : NumR y.c.nu := by rw [HY.out]; exact (HP.out (k - 1) hi1 (by omega)).1.nu
                    have hxn : NumR x.c.nu := (HN1.out (by first | rfl | trivial)).nu
                    have hd0 := fun W => r5_order y.c.nu x.c.nu W hyn hxn
                    clear hcc hyn hxn
                    by_cases hle : val5 y.c.nu < val5 x.c.nu
                    · have hge : decide ((0 : Int) ≤ ordI (val5 y.c.nu) (val5 x.c.nu)) = false := decide_eq_false (fun h => ordI_ge.1 h hle)
                      have HLE : Hid (val5 (L[k - 1]'hi1).c.nu < val5 (L[k]'hkl).c.nu) := Lib.hid (by rw [← HX.out, ← HY.out]; exact hle)
                      clear hle
                      generalize ordI (val5 y.c.nu) (val5 x.c.nu) = zz at *
                      have HO := Lib.hid hd0; clear hd0
                      have f0 := fun p : BelowOf _ => (HL.out.keep p.h).c3.2.2.1
                      have e0 := fun p : BelowOf _ => (p.h.cell (p := ⟨b, o + k * 9, none⟩) HBb.out).trans HYK.out
                      have e1 := fun p : BelowOf _ => (p.h.cell (p := ⟨b, o + (k - 1) * 9, none⟩) HBb.out).trans HYP.out
                      have zz := fun p : BelowOf _ => Nat.lt_of_lt_of_le HBb.out p.h.size
                      refine wp_region_WQ (by kernel_rfl) (by kernel_rfl) ?_
                      repeat (refine WQ.step (fun K hK => ?_); go_simp; first | (refine hK.out _ ?_; clear hK K) | (apply Exists.intro; refine ⟨fun _ => ?_, hK.out _ ?_⟩; (first | rfl | (with_reducible exact calls_below_of _ (HO.out _))); clear hK K))
                      refine WQ.nil ?_
                      intro _ hw'
                      obtain ⟨⟨wq, hbq⟩, hw2⟩ := hw'
                      subst hw2
                      replace HL := Lib.hid (HL.out.keep hbq); replace HC := Lib.hid (HC.out.kept hbq)
                      replace HB := Lib.hid (bch' HB.out hbq)
                      clear f0 e0 e1 zz
                      go_wp2_with fail
                      go_roundw
                      case rel => exact ⟨k + 1, by first | rfl | simp, by omega, Lib.hid (HP.out.next hkl HR1.out (fun _ => HLE.out)), HB, HL, HC⟩
                      case measure => first | (simp [intOf]; done) | (simp [intOf]; omega)
                    · have hge : decide ((0 : Int) ≤ ordI (val5 y.c.nu) (val5 x.c.nu)) = true := decide_eq_true (ordI_ge.2 hle)
                      clear hle
                      generalize ordI (val5 y.c.nu) (val5 x.c.nu) = zz at *
                      have HO := Lib.hid hd0; clear hd0
                      have f0 := fun p : BelowOf _ => (HL.out.keep p.h).c3.2.2.1
                      have e0 := fun p : BelowOf _ => (p.h.cell (p := ⟨b, o + k * 9, none⟩) HBb.out).trans HYK.out
                      have e1 := fun p : BelowOf _ => (p.h.cell (p := ⟨b, o + (k - 1) * 9, none⟩) HBb.out).trans HYP.out
                      have zz := fun p : BelowOf _ => Nat.lt_of_lt_of_le HBb.out p.h.size
                      refine wp_region_WQ (by kernel_rfl) (by kernel_rfl) ?_
                      repeat (refine WQ.step (fun K hK => ?_); go_simp; first | (refine hK.out _ ?_; clear hK K) | (apply Exists.intro; refine ⟨fun _ => ?_, hK.out _ ?_⟩; (first | rfl | (with_reducible exact calls_below_of _ (HO.out _))); clear hK K))
                      refine WQ.nil ?_
                      intro _ hw'
                      obtain ⟨⟨wq, hbq⟩, hw2⟩ := hw'
                      subst hw2
                      replace HL := Lib.hid (HL.out.keep hbq); replace HC := Lib.hid (HC.out.kept hbq)
                      replace HB := Lib.hid (bch' HB.out hbq)
                      clear f0 e0 e1 zz
                      go_wp2_with fail
                      go_ret
                      exact ⟨9, rfl, (fun h => absurd h (by decide)), HB.out⟩
                · have hne : ((n1 : Int) != 0) = true := by simpa using z
                  have HZ := Lib.hid z; clear z
                  go_wp2_with fail
                  go_ret
                  exact ⟨n1, rfl, fun h => absurd h HZ.out, HB.out⟩
              · have hlt : ¬ (k : Int) < (L.length : Int) := by omega
                obtain rfl : k = L.length := by omega
                go_wp2_with fail
                go_ret
                exact ⟨0, rfl, fun _ => HP.out.done (by omega) (by omega) (by omega) (by omega) HLM.out, HB.out⟩
end Go.Proofs.YtikogofioggmlaaGreatDoor

/-
  The value of a parameter behind a cue.
-/
import Derived.Test.YtikogofioggmlaaGreatDoorLp
import Derived.Stop.RegionWithIn
import Derived.Sort.CutIn
import Derived.Test.YtikogofioggmlaaGreatDoorInR
set_option linter.unusedVariables false
set_option linter.unusedSimpArgs false
namespace Lum
open Go Go.RowKit Go.Shelf
open Go.Lib (decDigits itoa)
/-- Between two rounds. -/
def VlI (L : List CuL) (N : Nat) (ch a : Int) (n0 : Nat) (tP tV : TypeId) (pre : List Nat) (W : World) : Prop :=
  (∀ i ∈ pre, mvF (cuB L N i).c.mv (ch, a) = none) ∧ Blk W (n0 + 1) tP #[.int .i64 ch, .int .i64 a] ∧ Blk W (n0 + 1 + 1) tV #[.int .i64 0, .int .i64 0]
theorem vlI_own (L : List CuL) (N : Nat) (ch a : Int) (n0 : Nat) (tP tV : TypeId) : Own (VlI L N ch a n0 tP tV) := by
  rintro s X Y row ⟨h0, h1, h2⟩ hg hr
  exact ⟨h0, blk_own (n0 + 1) tP (fun _ : Unit => #[.int .i64 ch, .int .i64 a]) () X Y row h1 hg hr, blk_own (n0 + 1 + 1) tV (fun _ : Unit => #[.int .i64 0, .int .i64 0]) () X Y row h2 hg hr⟩
/-- It has returned out of a round. -/
def VlX (L : List CuL) (N : Nat) (ch a : Int) (n0 : Nat) (tV : TypeId) (cd : Code) (pre : List Nat) (W : World) : Prop :=
  cd = .ret ∧ ∃ (ini : List Nat) (last : Nat) (v : Int × Int), pre = ini ++ [last] ∧ (∀ i ∈ ini, mvF (cuB L N i).c.mv (ch, a) = none) ∧ mvF (cuB L N last).c.mv (ch, a) = some v ∧ Blk W (n0 + 1 + 1) tV #[.int .i64 v.1, .int .i64 v.2]
theorem vlX_own (L : List CuL) (N : Nat) (ch a : Int) (n0 : Nat) (tV : TypeId) (cd : Code) : Own (VlX L N ch a n0 tV cd) := by
  rintro s X Y row ⟨h0, ini, last, v, h1, h2, h3, h4⟩ hg hr
  exact ⟨h0, ini, last, v, h1, h2, h3, blk_own (n0 + 1 + 1) tV (fun _ : Unit => #[.int .i64 v.1, .int .i64 v.2]) () X Y row h4 hg hr⟩
def cuC (x : CuL) : Array Value := #[.string ⟨x.c.nu.toArray⟩, .string ⟨x.c.la.toArray⟩, .slice x.pm x.c.mv.length x.cm, .slice x.pp x.c.pt.length x.cp, .bool (x.c.bl), .bool (x.c.mk_), .int .i64 (x.c.fo), .string ⟨x.c.li.toArray⟩, .int .i64 (x.c.lo)]
def VlA (L : List CuL) (N n0 : Nat) (tC : TypeId) (fr : Nat → Value → Array Value) (x : Nat) (a' : Act) (W : World) : Prop :=
  ∃ A, n0 + 1 + 1 + 1 + 1 < A ∧ Blk W A tC (cuC (cuB L N x)) ∧ a' = { tmps := fr A (cuV (cuB L N x)), defers := [] }
theorem vlA_own (L : List CuL) (N n0 : Nat) (tC : TypeId) (fr : Nat → Value → Array Value) (x : Nat) (a' : Act) : Own (fun (_ : Unit) => VlA L N n0 tC fr x a') := by
  rintro s X Y row ⟨A, h1, h2, h3⟩ hg hr
  exact ⟨A, h1, blk_own A tC (fun _ : Unit => cuC (cuB L N x)) () X Y row h2 hg hr, h3⟩
theorem keepsFrom_below {B : Nat} {W W' : World} (hb : Below W.heap.size W W') : KeepsFrom B W W' := ⟨hb.size, fun i o _ hi _ => by rw [hb.block i (Array.getElem?_eq_some_iff.1 hi).1]; exact hi⟩
theorem ownFrom_size {β : Type} {B n : Nat} : OwnFrom B (fun (_ : β) W => n ≤ W.heap.size) := fun _ _ _ _ hs hg _ => Nat.le_trans hs hg.size
theorem valN_back_k {L : List CuL} {N : Nat} (hN : N < L.length) {p : Int × Int} : ∀ (k : Nat), k ≤ N + 1 → (∀ j, j < k → mvF (cuB L N j).c.mv p = none) → (∀ j, j < k → (cuB L N j).c.bl = false) → valN (L.map CuL.c) p (N + 1) = valN (L.map CuL.c) p (N + 1 - k)
  | 0, _, _, _ => rfl
  | k + 1, hk, h1, h2 => by
    have hl : N - k < (L.map CuL.c).length := by rw [List.length_map]; omega
    have he : (L.map CuL.c)[N - k]'hl = (cuB L N k).c := by rw [List.getElem_map, cuB_at hN]
    rw [valN_back_k hN k (by omega) (fun j hj => h1 j (by omega)) (fun j hj => h2 j (by omega)), show N + 1 - k = (N - k) + 1 by omega, show N + 1 - (k + 1) = N - k by omega]
    exact valN_back hl (by rw [he]; exact h1 k (by omega)) (by rw [he]; exact h2 k (by omega))
theorem valN_all {L : List CuL} {N : Nat} (hN : N < L.length) {p : Int × Int} {xs : List Nat} (h : BkAll L N xs) (hn : ∀ i ∈ xs, mvF (cuB L N i).c.mv p = none) : valN (L.map CuL.c) p (N + 1) = homeV := by
  obtain ⟨k, rfl, hk, hor, hb⟩ := h
  have hm : ∀ j, j < k → mvF (cuB L N j).c.mv p = none := fun j hj => hn j (List.mem_range.2 hj)
  rcases hor with rfl | ⟨j, rfl, hbl⟩
  · have hl : 0 < (L.map CuL.c).length := by rw [List.length_map]; omega
    rw [valN_back_k hN N (by omega) (fun j hj => hm j (by omega)) (fun j hj => hb j (by omega)), show N + 1 - N = 0 + 1 by omega]
    have he : (L.map CuL.c)[0]'hl = (cuB L N N).c := by rw [List.getElem_map, cuB_at hN]; simp
    by_cases hbb : (cuB L N N).c.bl = true
    · exact valN_block hl (by rw [he]; exact hm N (by omega)) (by rw [he]; exact hbb)
    · rw [valN_back hl (by rw [he]; exact hm N (by omega)) (by rw [he]; simpa using hbb)]; rfl
  · have hl : N - j < (L.map CuL.c).length := by rw [List.length_map]; omega
    have he : (L.map CuL.c)[N - j]'hl = (cuB L N j).c := by rw [List.getElem_map, cuB_at hN]
    rw [valN_back_k hN j (by omega) (fun i hi => hm i (by omega)) (fun i hi => hb i (by omega)), show N + 1 - j = (N - j) + 1 by omega]
    exact valN_block hl (by rw [he]; exact hm j (by omega)) (by rw [he]; exact hbl)
theorem valN_some {L : List CuL} {N : Nat} (hN : N < L.length) {p v : Int × Int} {ini : List Nat} {last : Nat} (h : BkSome L N (ini ++ [last])) (hn : ∀ i ∈ ini, mvF (cuB L N i).c.mv p = none) (hv : mvF (cuB L N last).c.mv p = some v) : valN (L.map CuL.c) p (N + 1) = v := by
  obtain ⟨k, he0, hk, hb⟩ := h
  cases k with
  | zero => simp at he0
  | succ k =>
    rw [List.range_succ] at he0
    obtain ⟨h1, h2⟩ := List.append_inj' he0 rfl
    obtain rfl : last = k := by simpa using h2
    subst h1
    have hl : N - last < (L.map CuL.c).length := by rw [List.length_map]; omega
    have he : (L.map CuL.c)[N - last]'hl = (cuB L N last).c := by rw [List.getElem_map, cuB_at hN]
    rw [valN_back_k hN last (by omega) (fun j hj => hn j (List.mem_range.2 hj)) (fun j hj => hb j (by omega)), show N + 1 - last = (N - last) + 1 by omega]
    exact valN_hit hl (by rw [he]; exact hv)
end Lum
namespace Go.Proofs.YtikogofioggmlaaGreatDoor
open Go.RowKit Go.Shelf Lum
attribute [local go_sem] Oper.semAt_some bs_get bs_extract_end bs_extract_from bs_extract bs_append

set_option maxRecDepth 100000 in
set_option maxHeartbeats 4000000 in
theorem own_tvalue (num pri : Int) (L : List CuL) (p : Option Addr) (c N : Nat) (ch a : Int) (w : World) (hC : CusAt w p L) (hN : N < L.length) (hlen : L.length ≤ 1000000) (hM : ∀ x ∈ L, MvsR x.c.mv) (hRg : ∀ x ∈ L, ∀ m ∈ x.c.mv, Rng m.ky) (h2 : Rng (ch, a)) :
    Calls Tryz.prog 27 #[.agg #[.int .i64 num, .int .i64 pri, .slice p L.length c], .int .i64 (N : Int), .agg #[.int .i64 ch, .int .i64 a]] w fun e w' => e = .returned (.agg #[.int .i64 (valN (L.map CuL.c) (ch, a) (N + 1)).1, .int .i64 (valN (L.map CuL.c) (ch, a) (N + 1)).2]) ∧ Below w.heap.size w w' := by
  have hK1 := Blk.new w 24 #[.int .i64 num, .int .i64 pri, .slice p L.length c]
  obtain ⟨k0, k1, k2, kf0, kf1, kf2⟩ := ((hK1.alloc (.cells #[.int .i64 ch, .int .i64 a] 39)).alloc (.cells #[.int .i64 0, .int .i64 0] 41)).c3
  have hP := Blk.new (w.alloc (.cells #[.int .i64 num, .int .i64 pri, .slice p L.length c] 24)) 39 #[.int .i64 ch, .int .i64 a]
  have hV := Blk.new ((w.alloc (.cells #[.int .i64 num, .int .i64 pri, .slice p L.length c] 24)).alloc (.cells #[.int .i64 ch, .int .i64 a] 39)) 41 #[.int .i64 0, .int .i64 0]
  have hS := Blk.new (((w.alloc (.cells #[.int .i64 num, .int .i64 pri, .slice p L.length c] 24)).alloc (.cells #[.int .i64 ch, .int .i64 a] 39)).alloc (.cells #[.int .i64 0, .int .i64 0] 41)) 24 #[.int .i64 num, .int .i64 pri, .slice p L.length c]
  have hNn := Blk.new ((((w.alloc (.cells #[.int .i64 num, .int .i64 pri, .slice p L.length c] 24)).alloc (.cells #[.int .i64 ch, .int .i64 a] 39)).alloc (.cells #[.int .i64 0, .int .i64 0] 41)).alloc (.cells #[.int .i64 num, .int .i64 pri, .slice p L.length c] 24)) 3 #[.int .i64 (N : Int)]
  simp only [World.size_alloc] at hP hV hS hNn
  have hB0 : Below w.heap.size w (((((w.alloc (.cells #[.int .i64 num, .int .i64 pri, .slice p L.length c] 24)).alloc (.cells #[.int .i64 ch, .int .i64 a] 39)).alloc (.cells #[.int .i64 0, .int .i64 0] 41)).alloc (.cells #[.int .i64 num, .int .i64 pri, .slice p L.length c] 24)).alloc (.cells #[.int .i64 (N : Int)] 3)) := (((((Below.refl w.heap.size w).alloc (Nat.le_refl _) _).alloc (by simp) _).alloc (by simp only [World.size_alloc]; omega) _).alloc (by simp only [World.size_alloc]; omega) _).alloc (by simp only [World.size_alloc]; omega) _
  have HK1 := Lib.hid hK1; clear hK1
  refine (callsIn_wide (n := 5)).1 ?_
  refine callsIn_of_wp_marks Tryz.func27 rfl trivial ?_ rfl
  simp only [Tryz.ntmps27, List.size_toArray, List.length_cons, List.length_nil, Nat.reduceAdd, Nat.reduceSub, Array.replicate_succ, Array.replicate_zero, List.push_toArray, List.append_toArray, List.nil_append, List.cons_append]
  gi_wp2_with (first | (refine ⟨trivial, ?_⟩; gi_at_call 39; refine (back_in Fence.wide 4 trivial rfl num pri L p c N _).mono ?_; rintro e w' ⟨rfl, rfl⟩))
  obtain ⟨W0, hW0⟩ : ∃ W0, W0 = (((((w.alloc (.cells #[.int .i64 num, .int .i64 pri, .slice p L.length c] 24)).alloc (.cells #[.int .i64 ch, .int .i64 a] 39)).alloc (.cells #[.int .i64 0, .int .i64 0] 41)).alloc (.cells #[.int .i64 num, .int .i64 pri, .slice p L.length c] 24)).alloc (.cells #[.int .i64 (N : Int)] 3)) := ⟨_, rfl⟩
  have b1 : Blk W0 (w.heap.size + 1) 39 #[.int .i64 ch, .int .i64 a] := by rw [hW0]; exact ((hP.alloc _).alloc _).alloc _
  have b2 : Blk W0 (w.heap.size + 1 + 1) 41 #[.int .i64 0, .int .i64 0] := by rw [hW0]; exact (hV.alloc _).alloc _
  have b3 : Blk W0 (w.heap.size + 1 + 1 + 1) 24 #[.int .i64 num, .int .i64 pri, .slice p L.length c] := by rw [hW0]; exact hS.alloc _
  have b4 : Blk W0 (w.heap.size + 1 + 1 + 1 + 1) 3 #[.int .i64 (N : Int)] := by rw [hW0]; exact hNn
  have hsz : W0.heap.size = w.heap.size + 1 + 1 + 1 + 1 + 1 := by rw [hW0]; simp only [World.size_alloc]
  rw [← hW0] at hB0 ⊢
  clear hW0 hP hV hS hNn k0 k1 k2 kf0 kf1 kf2 HK1
  refine wpIn_rangeFunc_ownH (n := 5) rfl (by omega) (Kp := KeepB w.heap.size (w.heap.size + 1 + 1 + 1)) (gf := 55) (lb := #[.pointer (some ⟨w.heap.size + 1 + 1 + 1 + 1, 0, none⟩), .pointer (some ⟨w.heap.size + 1 + 1 + 1, 0, none⟩)]) rfl trivial (enters_of Tryz.func55 (by kernel_rfl) rfl)
      (back_stops Fence.wide 4 trivial rfl (by omega) (w.heap.size + 1 + 1 + 1) (w.heap.size + 1 + 1 + 1 + 1) w.heap.size N num pri L p c hN (by omega) w W0 (Nat.le_refl _) (by omega) hC.r hB0 b3 b4) KeepB.t (KeepB.b (by omega) (by omega)) (Below.refl _ _) (fun _ => rfl)
      (fun pre W => VlI L N ch a w.heap.size 39 41 pre W ∧ Below w.heap.size w W ∧ W0.heap.size ≤ W.heap.size)
      (fun cd pre W => VlX L N ch a w.heap.size 41 cd pre W ∧ Below w.heap.size w W)
      (OwnFrom.and (Own.from (vlI_own L N ch a w.heap.size 39 41) _) (OwnFrom.and (ownFrom_below (Nat.le_refl _) (by omega)) ownFrom_size))
      (fun cd => OwnFrom.and (Own.from (vlX_own L N ch a w.heap.size 41 cd) _) (ownFrom_below (Nat.le_refl _) (by omega)))
      ⟨⟨by simp, b1, b2⟩, hB0, Nat.le_refl _⟩
      (VlA L N w.heap.size 32 (fun A v => #[.agg #[.int .i64 num, .int .i64 pri, .slice p L.length c], .int .i64 (N : Int), .agg #[.int .i64 ch, .int .i64 a], .pointer (some ⟨w.heap.size, 0, none⟩), undef, .pointer (some ⟨w.heap.size + 1, 0, none⟩), .pointer (some ⟨w.heap.size + 1 + 1, 0, none⟩), .pointer (some ⟨A, 0, none⟩), undef, undef, .agg #[.int .i64 num, .int .i64 pri, .slice p L.length c], .int .i64 (N : Int), .func (.func 55) #[] #[.pointer (some ⟨w.heap.size + 1 + 1 + 1 + 1, 0, none⟩), .pointer (some ⟨w.heap.size + 1 + 1 + 1, 0, none⟩)], v, undef, undef, undef, undef, undef, undef, undef, undef, undef]))
      (fun x' a' => Own.from (vlA_own L N w.heap.size 32 (fun A v => #[.agg #[.int .i64 num, .int .i64 pri, .slice p L.length c], .int .i64 (N : Int), .agg #[.int .i64 ch, .int .i64 a], .pointer (some ⟨w.heap.size, 0, none⟩), undef, .pointer (some ⟨w.heap.size + 1, 0, none⟩), .pointer (some ⟨w.heap.size + 1 + 1, 0, none⟩), .pointer (some ⟨A, 0, none⟩), undef, undef, .agg #[.int .i64 num, .int .i64 pri, .slice p L.length c], .int .i64 (N : Int), .func (.func 55) #[] #[.pointer (some ⟨w.heap.size + 1 + 1 + 1 + 1, 0, none⟩), .pointer (some ⟨w.heap.size + 1 + 1 + 1, 0, none⟩)], v, undef, undef, undef, undef, undef, undef, undef, undef, undef]) x' a') _) ?assign ?body ?done ?stop
  case assign =>
    rintro l' pre x' W K ⟨⟨h0, q1, q2⟩, hB, hz⟩ hK
    have hs := hB.size
    have H0 := Lib.hid h0; clear h0
    unfold cuV
    gi_wp2
    exact hK _ _ ((KeepsOthers.alloc _ _).from _) ((KeepB.refl _ _ W).alloc _ (by omega) (by omega)) ⟨⟨H0.out, q1.alloc _, q2.alloc _⟩, hB.alloc (by omega) _, by simp only [World.size_alloc]; omega⟩ ⟨W.heap.size, by omega, Blk.new W _ _, rfl⟩
  case body =>
    rintro l' pre x' a' W hl ⟨r, hr⟩ ⟨⟨h0, q1, q2⟩, hB, hz⟩ ⟨A, hA, bA, rfl⟩ hlt
    dsimp only
    have hmem : cuB L N x' ∈ L := by rw [cuB_at hN]; exact List.getElem_mem _
    have hrow := (hC.a _ hmem).m.kept hB
    obtain ⟨x, hx⟩ : ∃ x, x = cuB L N x' := ⟨_, rfl⟩
    rw [← hx] at bA hrow hmem ⊢
    have htm := fun W (h : RowX encMv 5 W x.pm x.c.mv) => own_tmove x.c.nu x.c.la x.c.li x.c.mv x.c.pt x.pm x.pp x.cm x.cp x.c.bl x.c.mk_ x.c.fo x.c.lo ch a W h (hM _ hmem) (hRg _ hmem) h2
    have HX := Lib.hid hx; have H0 := Lib.hid h0; have HMR := Lib.hid hrow; have HBW := Lib.hid hB; clear hx h0 hrow hB hM hRg h2 hC
    unfold cuC at bA
    unfold cuV
    have HA := Lib.hid bA; have HP := Lib.hid q1; have HV := Lib.hid q2; clear bA q1 q2
    obtain ⟨y0, y1, y2, y3, y4, y5, y6, y7, y8, yf0, yf1, yf2, yf3, yf4, yf5, yf6, yf7, yf8⟩ := HA.out.c9
    obtain ⟨p0, p1, pf0, pf1⟩ := HP.out.c2
    obtain ⟨v0, v1, vf0, vf1⟩ := HV.out.c2
    have HBX := Lib.hid (Below.refl W.heap.size W)
    by_cases hmv : (mvF x.c.mv (ch, a)).isSome = true
    · obtain ⟨vv, hvv⟩ := Option.isSome_iff_exists.1 hmv
      rw [hvv] at htm
      simp only [Option.getD_some, Option.isSome_some] at htm
      have HVV := Lib.hid hvv; clear hvv hmv
      have HTM := Lib.hid htm; clear htm
      gi_upto_region 4 with (first | (refine ⟨trivial, ?_⟩; gi_at_call 40; with_reducible refine (CallsIn.inRound l' (callsIn_wide.2 (HTM.out _ HMR.out))).mono ?_; rintro e w' ⟨rfl, hb⟩; clear y0 y1 y2 y3 y4 y5 y6 y7 y8 yf0 yf1 yf2 yf3 yf4 yf5 yf6 yf7 yf8; clear p0 p1 pf0 pf1; clear v0 v1 vf0 vf1; replace HBX := Lib.hid (bch' HBX.out hb); replace HA := Lib.hid (HA.out.keep hb); replace HP := Lib.hid (HP.out.keep hb); replace HV := Lib.hid (HV.out.keep hb); clear hb; obtain ⟨y0, y1, y2, y3, y4, y5, y6, y7, y8, yf0, yf1, yf2, yf3, yf4, yf5, yf6, yf7, yf8⟩ := HA.out.c9; obtain ⟨p0, p1, pf0, pf1⟩ := HP.out.c2; obtain ⟨v0, v1, vf0, vf1⟩ := HV.out.c2))
      have hb := (Below.refl w'.heap.size w').alloc (Nat.le_refl _) (.cells #[.int .i64 vv.1, .int .i64 vv.2] 41)
      have hz2 := Blk.new w' 41 #[.int .i64 vv.1, .int .i64 vv.2]
      obtain ⟨nz, hnz⟩ : ∃ n, n = w'.heap.size := ⟨_, rfl⟩
      obtain ⟨Wz, hWz⟩ : ∃ X, X = w'.alloc (.cells #[.int .i64 vv.1, .int .i64 vv.2] 41) := ⟨_, rfl⟩
      rw [← hnz] at hz2 ⊢
      rw [← hWz] at hb hz2 ⊢
      clear y0 y1 y2 y3 y4 y5 y6 y7 y8 yf0 yf1 yf2 yf3 yf4 yf5 yf6 yf7 yf8
      clear p0 p1 pf0 pf1
      clear v0 v1 vf0 vf1
      replace HV := Lib.hid (HV.out.keep hb)
      replace HBX := Lib.hid (bch' HBX.out hb)
      clear hWz hnz hb HA HP
      obtain ⟨z0, z1, zf0, zf1⟩ := hz2.c2
      obtain ⟨v0, v1, vf0, vf1⟩ := HV.out.c2
      gi_wp2
      exact ⟨(keepsFrom_below HBX.out).trans (((KeepsOthers.setCell _ _ _).from _).trans ((KeepsOthers.setCell _ _ _).from _)), ⟨rfl, pre, x', vv, rfl, H0.out, by rw [← HX.out]; exact HVV.out, by simpa using (HV.out.set_ 0 (.int .i64 vv.1)).set_ 1 (.int .i64 vv.2)⟩, ((bch' HBW.out HBX.out).setCell (p := ⟨w.heap.size + 1 + 1, 0, none⟩) (by show _ ≤ w.heap.size + 1 + 1; omega) _).setCell (p := ⟨w.heap.size + 1 + 1, 1, none⟩) (by show _ ≤ w.heap.size + 1 + 1; omega) _⟩
    · have hvn : mvF x.c.mv (ch, a) = none := by simpa using hmv
      rw [hvn] at htm
      simp only [Option.getD_none, Option.isSome_none, homeV] at htm
      have HVN := Lib.hid hvn; clear hvn hmv
      have HTM := Lib.hid htm; clear htm
      gi_wp2_with (first | (refine ⟨trivial, ?_⟩; gi_at_call 40; with_reducible refine (CallsIn.inRound l' (callsIn_wide.2 (HTM.out _ HMR.out))).mono ?_; rintro e w' ⟨rfl, hb⟩; clear y0 y1 y2 y3 y4 y5 y6 y7 y8 yf0 yf1 yf2 yf3 yf4 yf5 yf6 yf7 yf8; clear p0 p1 pf0 pf1; clear v0 v1 vf0 vf1; replace HBX := Lib.hid (bch' HBX.out hb); replace HA := Lib.hid (HA.out.keep hb); replace HP := Lib.hid (HP.out.keep hb); replace HV := Lib.hid (HV.out.keep hb); clear hb; obtain ⟨y0, y1, y2, y3, y4, y5, y6, y7, y8, yf0, yf1, yf2, yf3, yf4, yf5, yf6, yf7, yf8⟩ := HA.out.c9; obtain ⟨p0, p1, pf0, pf1⟩ := HP.out.c2; obtain ⟨v0, v1, vf0, vf1⟩ := HV.out.c2))
      have HB3 := Lib.hid (bch' HBX.out ((Below.refl w'.heap.size w').alloc (Nat.le_refl _) (.cells #[.int .i64 (-1), .int .i64 0] 41)))
      exact ⟨keepsFrom_below HB3.out, (KeepB.refl _ _ W).below HB3.out (by omega) (by omega), ⟨fun i hi => (List.mem_append.1 hi).elim (H0.out i) (fun e => by rw [List.mem_singleton.1 e, ← HX.out]; exact HVN.out), HP.out.alloc _, HV.out.alloc _⟩, bch' HBW.out HB3.out, Nat.le_trans hz HB3.out.size⟩
  case done =>
    rintro D xs W hD hall ⟨⟨h0, q1, q2⟩, hB, hz⟩ hK
    have hval := valN_all hN hall h0
    have HVL := Lib.hid hval; have HBW := Lib.hid hB; have HV := Lib.hid q2; clear hval hall h0 q1 q2 hB
    obtain ⟨v0, v1, vf0, vf1⟩ := HV.out.c2
    gi_wp2_with (refine ⟨trivial, ?_⟩; gi_at_call 41; refine (callsIn_wide.2 (own_thome _)).mono ?_; rintro e w3 ⟨rfl, hb3⟩; clear v0 v1 vf0 vf1; replace HV := Lib.hid (HV.out.keep hb3); obtain ⟨v0, v1, vf0, vf1⟩ := HV.out.c2)
    have hK3 := (hb3.block D (Array.getElem?_eq_some_iff.1 hK).1).trans hK
    have hV3 : Blk ((w3.setCell ⟨w.heap.size + 1 + 1, 0, none⟩ (.int .i64 (-1))).setCell ⟨w.heap.size + 1 + 1, 1, none⟩ (.int .i64 0)) (w.heap.size + 1 + 1) 41 #[.int .i64 (-1), .int .i64 0] := by simpa using (HV.out.set_ 0 (.int .i64 (-1))).set_ 1 (.int .i64 0)
    have hK4 := (KeepsOthers.setCell (w3.setCell ⟨w.heap.size + 1 + 1, 0, none⟩ (.int .i64 (-1))) ⟨w.heap.size + 1 + 1, 1, none⟩ (.int .i64 0)).same D _ ((KeepsOthers.setCell w3 ⟨w.heap.size + 1 + 1, 0, none⟩ (.int .i64 (-1))).same D _ hK3 rfl) rfl
    refine ⟨by simp, .inl ⟨_, _, rfl, run_takeDeferred hK4, ?_⟩⟩
    have r4 := (World.putObj_heap_other (o := .deferred none) (show w.heap.size + 1 + 1 ≠ D by omega)).trans hV3
    obtain ⟨u0, u1, uf0, uf1⟩ := Blk.c2 r4
    refine ⟨.agg #[.int .i64 (-1), .int .i64 0], by simp [results, Tryz.f27, go_sem, u0, u1, uf0, uf1], by rw [HVL.out]; rfl, ?_⟩
    exact (((bch' HBW.out hb3).setCell (p := ⟨w.heap.size + 1 + 1, 0, none⟩) (by show _ ≤ w.heap.size + 1 + 1; omega) _).setCell (p := ⟨w.heap.size + 1 + 1, 1, none⟩) (by show _ ≤ w.heap.size + 1 + 1; omega) _).trans (belowK_b (w := w) (Nat.le_refl _) _ D _ _ (by omega) hK4 rfl rfl)
  case stop =>
    rintro D cd pre W hD hsome ⟨⟨rfl, ini, last, vv, rfl, hini, hlast, h4'⟩, hB⟩ hK
    have hval := valN_some hN hsome hini hlast
    have r4 : Blk (W.putObj D (.deferred none)) (w.heap.size + 1 + 1) 41 _ := (World.putObj_heap_other (by omega)).trans h4'
    obtain ⟨v0, v1, vf0, vf1⟩ := r4.c2
    refine wpIn_ret ?_
    refine ⟨by simp, .inl ⟨_, _, rfl, run_takeDeferred hK, ?_⟩⟩
    refine ⟨.agg #[.int .i64 vv.1, .int .i64 vv.2], by simp [results, Tryz.f27, go_sem, v0, v1, vf0, vf1], by rw [hval], ?_⟩
    exact hB.trans (belowK_b (w := w) (Nat.le_refl _) W D _ _ (by omega) hK rfl rfl)
end Go.Proofs.YtikogofioggmlaaGreatDoor

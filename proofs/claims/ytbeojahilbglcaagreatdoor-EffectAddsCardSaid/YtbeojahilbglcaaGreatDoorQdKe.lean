/- A part of the proof of EffectAdds: contracts of functions, and plain facts. -/
import Derived.Test.YtbeojahilbglcaaGreatDoorQdKd
set_option maxHeartbeats 4000000
set_option maxRecDepth 100000
set_option linter.unusedVariables false
set_option linter.unusedSimpArgs false
namespace Lum
open Go Go.RowKit Go.Shelf
def rdB (n:Int):Bool:=decide (0 ≤ n ∧ n ≤ 8000000000)
def wiB (n lo hi:Int):Bool:=decide (lo ≤ n ∧ n ≤ hi)
theorem wiB_iff (n lo hi:Int):wiB n lo hi = true ↔ lo ≤ n ∧ n ≤ hi:=by simp [wiB]
def ckB (E R D L:Int):Bool:=rdB E && wiB L 0 10000000 && wiB R 1 400 && wiB D (-1) 1
def ckE (E R D L:Int):Int:=if ckB E R D L then 0 else 2
theorem ckB_iff (E R D L:Int):ckB E R D L = true ↔ (0 ≤ E ∧ E ≤ 8000000000) ∧ (0 ≤ L ∧ L ≤ 10000000) ∧ (1 ≤ R ∧ R ≤ 400) ∧ (-1 ≤ D ∧ D ≤ 1):=by
  simp [ckB,rdB,wiB];omega
def moE (E R D L t:Int):Int:=if ckB E R D L = false then 2 else if wiB t 0 10000000 = false then 2 else if t < L then 9 else 0
theorem moE_zero {E R D L t:Int} (h:moE E R D L t = 0):ckB E R D L = true ∧ (0 ≤ t ∧ t ≤ 10000000) ∧ L ≤ t:=by
  unfold moE at h
  by_cases h1:ckB E R D L = false
  · rw [if_pos h1] at h;cases h
  · rw [if_neg h1] at h
    by_cases h2:wiB t 0 10000000 = false
    · rw [if_pos h2] at h;cases h
    · rw [if_neg h2] at h
      by_cases h3:t < L
      · rw [if_pos h3] at h;cases h
      · exact ⟨by simpa using h1,(wiB_iff _ _ _).1 (by simpa using h2),by omega⟩
def shZ (E R D L t:Int):Int:=max 0 (E + D * R * (t - L))
theorem sh_bounds {E R D L t : Int} (h : ckB E R D L = true) (ht : 0 ≤ t ∧ t ≤ 10000000) (hl : L ≤ t) :
    -400 ≤ D * R ∧ D * R ≤ 400 ∧ -4000000000 ≤ D * R * (t - L) ∧ D * R * (t - L) ≤ 4000000000 ∧ 0 ≤ shZ E R D L t ∧ shZ E R D L t ≤ 12000000000:=by
  obtain ⟨h1,h2,h3,h4⟩:=(ckB_iff _ _ _ _).1 h
  have hd:-400 ≤ D * R ∧ D * R ≤ 400:=by
    rcases (show D = -1 ∨ D = 0 ∨ D = 1 by omega) with rfl | rfl | rfl <;> omega
  have hb:-4000000000 ≤ D * R * (t - L) ∧ D * R * (t - L) ≤ 4000000000:=by
    generalize D * R = k at *
    obtain ⟨m,hm⟩:∃ m,m = t - L:=⟨_,rfl⟩
    rw [← hm]
    have hm1:0 ≤ m ∧ m ≤ 10000000:=by omega
    have u1:k * m ≤ 400 * m:=Int.mul_le_mul_of_nonneg_right hd.2 hm1.1
    have u2:-400 * m ≤ k * m:=Int.mul_le_mul_of_nonneg_right hd.1 hm1.1
    omega
  refine ⟨hd.1,hd.2,hb.1,hb.2,?_⟩
  unfold shZ
  omega
end Lum
namespace Go.Proofs.YtbeojahilbglcaaGreatDoor
open Go.RowKit Go.Shelf Lum
attribute [local go_sem] bs_get bs_extract_end bs_extract_from bs_extract bs_append
theorem own_reading (n:Int) (w:World):Calls Tryz.prog 125 #[.int .i64 n] w fun e w' => e = .returned (.bool (rdB n)) ∧ w = w':=by
  by_cases h1:0 ≤ n
  · by_cases h2:n ≤ 8000000000
    all_goals
      go_enter Tryz.func125,Tryz.ntmps125
      go_wp2
      go_ret
      exact ⟨ret_bool (by unfold rdB;simp [h1,h2]),rfl⟩
  · go_enter Tryz.func125,Tryz.ntmps125
    go_wp2
    go_ret
    exact ⟨ret_bool (by unfold rdB;simp;omega),rfl⟩
theorem own_within (n lo hi:Int) (w:World):Calls Tryz.prog 78 #[.int .i64 n,.int .i64 lo,.int .i64 hi] w fun e w' => e = .returned (.bool (wiB n lo hi)) ∧ w = w':=by
  by_cases h1:lo ≤ n
  · by_cases h2:n ≤ hi
    all_goals
      go_enter Tryz.func78,Tryz.ntmps78
      go_wp2
      go_ret
      exact ⟨ret_bool (by unfold wiB;simp [h1,h2]),rfl⟩
  · go_enter Tryz.func78,Tryz.ntmps78
    go_wp2
    go_ret
    exact ⟨ret_bool (by unfold wiB;simp;omega),rfl⟩
theorem own_clk_check (E R D L:Int) (w:World):Calls Tryz.prog 80 #[.agg #[.int .i64 E,.int .i64 R,.int .i64 D,.int .i64 L]] w fun e w' => e = .returned (.int .i64 (ckE E R D L)) ∧ Below w.heap.size w w':=by
  have hB:=(Below.refl w.heap.size w).alloc (Nat.le_refl _) (.cells #[.int .i64 E,.int .i64 R,.int .i64 D,.int .i64 L] 66)
  go_enter Tryz.func80,Tryz.ntmps80
  go_wp2
  go_step3
  go_wp2_with fail
  refine wp_label ?_
  go_wp2_with (first | (go_at_call 125;refine (own_reading _ _).mono ?_;rintro e w' ⟨rfl,rfl⟩) | (go_at_call 78;refine (own_within _ _ _ _).mono ?_;rintro e w' ⟨rfl,rfl⟩))
  all_goals
    rw [Exit.noGoto_ret]
    go_ret
    exact ⟨ret_int (by unfold ckE ckB;simp_all),hB⟩
theorem own_clk_moment (E R D L t:Int) (w:World):Calls Tryz.prog 129 #[.agg #[.int .i64 E,.int .i64 R,.int .i64 D,.int .i64 L],.int .i64 t] w fun e w' => e = .returned (.int .i64 (moE E R D L t)) ∧ Below w.heap.size w w':=by
  have hB:=(Below.refl w.heap.size w).alloc (Nat.le_refl _) (.cells #[.int .i64 E,.int .i64 R,.int .i64 D,.int .i64 L] 166)
  have hc:=own_clk_check E R D L (w.alloc (.cells #[.int .i64 E,.int .i64 R,.int .i64 D,.int .i64 L] 166))
  obtain ⟨v,hv⟩:∃ v,v = moE E R D L t:=⟨_,rfl⟩
  rw [← hv]
  unfold moE at hv
  have HV:=Lib.hid hv;clear hv
  have hcl:(w.alloc (.cells #[.int .i64 E,.int .i64 R,.int .i64 D,.int .i64 L] 166)).cell? ⟨w.heap.size,3,none⟩ = some (.int .i64 L):=by simp [go_sem]
  have hlt:w.heap.size < (w.alloc (.cells #[.int .i64 E,.int .i64 R,.int .i64 D,.int .i64 L] 166)).heap.size:=by simp
  unfold ckE at hc
  cases hk:ckB E R D L
  · rw [hk] at hc HV
    have HC:=Lib.hid hc;clear hc hk
    go_enter Tryz.func129,Tryz.ntmps129
    go_wp2_with fail
    refine (HC.out).mono ?_
    rintro e w1 ⟨rfl,hb1⟩
    go_wp2
    go_ret
    exact ⟨ret_int (by rw [HV.out];rfl),bch' hB hb1⟩
  · rw [hk] at hc HV
    have HC:=Lib.hid hc;clear hc hk
    go_enter Tryz.func129,Tryz.ntmps129
    go_wp2_with fail
    generalize w.alloc (.cells #[.int .i64 E,.int .i64 R,.int .i64 D,.int .i64 L] 166) = W0 at *
    refine (HC.out).mono ?_
    rintro e w1 ⟨rfl,hb1⟩
    have hcl1:w1.cell? ⟨w.heap.size,3,none⟩ = some (.int .i64 L):=(hb1.cell (p:=⟨w.heap.size,3,none⟩) hlt).trans hcl
    have HB:=Lib.hid (bch' hB hb1);clear hb1 hB hcl hlt
    have hw:=own_within t 0 10000000 w1
    cases h2:wiB t 0 10000000
    · rw [h2] at hw HV
      have HW:=Lib.hid hw;clear hw h2
      go_wp2_with fail
      refine (HW.out).mono ?_
      rintro e w' ⟨rfl,rfl⟩
      go_wp2
      go_ret
      exact ⟨ret_int (by rw [HV.out];rfl),HB.out⟩
    · rw [h2] at hw HV
      have HW:=Lib.hid hw;clear hw h2
      by_cases h3:t < L
      · have HV2:Hid (v = 9):=by show _ = _;rw [HV.out];simp [h3]
        go_wp2_with fail
        refine (HW.out).mono ?_
        rintro e w' ⟨rfl,rfl⟩
        go_wp2
        go_ret
        exact ⟨ret_int HV2.out.symm,HB.out⟩
      · have HV2:Hid (v = 0):=by show _ = _;rw [HV.out];simp [h3]
        go_wp2_with fail
        refine (HW.out).mono ?_
        rintro e w' ⟨rfl,rfl⟩
        go_wp2
        go_ret
        exact ⟨ret_int HV2.out.symm,HB.out⟩
theorem own_clk_shows (E R D L t:Int) (w:World) (hk:ckB E R D L = true) (ht:0 ≤ t ∧ t ≤ 10000000) (hl:L ≤ t):Calls Tryz.prog 130 #[.agg #[.int .i64 E,.int .i64 R,.int .i64 D,.int .i64 L],.int .i64 t] w fun e w' => e = .returned (.int .i64 (shZ E R D L t)) ∧ Below w.heap.size w w':=by
  have hB:=(Below.refl w.heap.size w).alloc (Nat.le_refl _) (.cells #[.int .i64 E,.int .i64 R,.int .i64 D,.int .i64 L] 166)
  obtain ⟨b1,b2,b3,b4,b5,b6⟩:=sh_bounds hk ht hl
  obtain ⟨h1,h2,h3,h4⟩:=(ckB_iff _ _ _ _).1 hk
  have e1:IntKind.i64.wrap (D * R) = D * R:=IntWalk.i64_in _ (by omega)
  have e3:IntKind.i64.wrap (D * R * (t - L)) = D * R * (t - L):=IntWalk.i64_in _ (by omega)
  have e5:wrap64 (D * R) = D * R:=wr64 (by omega) (by omega)
  have e6:wrap64 (D * R * (t - L)) = D * R * (t - L):=wr64 (by omega) (by omega)
  have e7:wrap64 (E + D * R * (t - L)) = E + D * R * (t - L):=wr64 (by omega) (by omega)
  go_enter Tryz.func130,Tryz.ntmps130
  go_wp2
  go_ret
  exact ⟨rfl,hB⟩
theorem own_clk_at (E R D L t:Int) (w:World):Calls Tryz.prog 92 #[.agg #[.int .i64 E,.int .i64 R,.int .i64 D,.int .i64 L],.int .i64 t] w fun e w' => e = .returned (.tuple #[.int .i64 (if moE E R D L t = 0 then shZ E R D L t else 0),.int .i64 (moE E R D L t)]) ∧ Below w.heap.size w w':=by
  have hB:=(Below.refl w.heap.size w).alloc (Nat.le_refl _) (.cells #[.int .i64 E,.int .i64 R,.int .i64 D,.int .i64 L] 66)
  have hm:=own_clk_moment E R D L t (w.alloc (.cells #[.int .i64 E,.int .i64 R,.int .i64 D,.int .i64 L] 66))
  have hc:∀ j v,(#[Value.int .i64 E,.int .i64 R,.int .i64 D,.int .i64 L]:Array Value)[j]? = some v → (w.alloc (.cells #[.int .i64 E,.int .i64 R,.int .i64 D,.int .i64 L] 66)).cell? ⟨w.heap.size,j,none⟩ = some v:=fun j v h => by rw [World.cell?_alloc_new];exact h
  have c0:=hc 0 _ rfl
  have c1:=hc 1 _ rfl
  have c2:=hc 2 _ rfl
  have c3:=hc 3 _ rfl
  have hlt:w.heap.size < (w.alloc (.cells #[.int .i64 E,.int .i64 R,.int .i64 D,.int .i64 L] 66)).heap.size:=by simp
  have HM:=Lib.hid hm;clear hm hc
  by_cases hz:moE E R D L t = 0
  · obtain ⟨k1,k2,k3⟩:=moE_zero hz
    rw [hz] at HM ⊢
    rw [if_pos rfl]
    have hs:=fun W => own_clk_shows E R D L t W k1 k2 k3
    have HS:=Lib.hid hs;clear hs hz k1 k2 k3
    generalize shZ E R D L t = sh at *
    go_enter Tryz.func92,Tryz.ntmps92
    go_wp2_with fail
    generalize w.alloc (.cells #[.int .i64 E,.int .i64 R,.int .i64 D,.int .i64 L] 66) = W0 at *
    refine (HM.out).mono ?_
    rintro e w1 ⟨rfl,hb1⟩
    have d0:=(hb1.cell (p:=⟨w.heap.size,0,none⟩) hlt).trans c0
    have d1:=(hb1.cell (p:=⟨w.heap.size,1,none⟩) hlt).trans c1
    have d2:=(hb1.cell (p:=⟨w.heap.size,2,none⟩) hlt).trans c2
    have d3:=(hb1.cell (p:=⟨w.heap.size,3,none⟩) hlt).trans c3
    have HB:=Lib.hid (bch' hB hb1);clear hb1 hB c0 c1 c2 c3
    go_wp2_with fail
    refine (HS.out _).mono ?_
    rintro e w2 ⟨rfl,hb2⟩
    go_wp2
    go_ret2
    exact ⟨rfl,bch' HB.out hb2⟩
  · have hne:((moE E R D L t:Int) != 0) = true:=by simpa using hz
    rw [if_neg hz]
    generalize moE E R D L t = v at *
    clear hz
    go_enter Tryz.func92,Tryz.ntmps92
    go_wp2_with fail
    refine (HM.out).mono ?_
    rintro e w1 ⟨rfl,hb1⟩
    go_wp2
    go_ret2
    exact ⟨rfl,bch' hB hb1⟩
end Go.Proofs.YtbeojahilbglcaaGreatDoor
namespace Lum
open Go Go.RowKit Go.Shelf
structure CBox (W : World) (B : Nat) (E R D L : Int) : Prop where
  a0:W.cell? ⟨B,0,none⟩ = some (.int .i64 E)
  a1:W.cell? ⟨B,1,none⟩ = some (.int .i64 R)
  a2:W.cell? ⟨B,2,none⟩ = some (.int .i64 D)
  a3:W.cell? ⟨B,3,none⟩ = some (.int .i64 L)
  f0:W.frozen? ⟨B,0,none⟩ = false
  f1:W.frozen? ⟨B,1,none⟩ = false
  f2:W.frozen? ⟨B,2,none⟩ = false
  f3:W.frozen? ⟨B,3,none⟩ = false
  lt:B < W.heap.size
theorem CBox.keep {W W':World} {B:Nat} {E R D L:Int} (h:CBox W B E R D L) (hb:Below W.heap.size W W'):CBox W' B E R D L :=
  ⟨(hb.cell (p := ⟨B, 0, none⟩) h.lt).trans h.a0, (hb.cell (p := ⟨B, 1, none⟩) h.lt).trans h.a1, (hb.cell (p := ⟨B, 2, none⟩) h.lt).trans h.a2, (hb.cell (p := ⟨B, 3, none⟩) h.lt).trans h.a3,
    (hb.frozen (p:=⟨B,0,none⟩) h.lt).trans h.f0,(hb.frozen (p:=⟨B,1,none⟩) h.lt).trans h.f1,(hb.frozen (p:=⟨B,2,none⟩) h.lt).trans h.f2,(hb.frozen (p:=⟨B,3,none⟩) h.lt).trans h.f3,Nat.lt_of_lt_of_le h.lt hb.size⟩
theorem CBox.new (W:World) (t:TypeId) (E R D L:Int):CBox (W.alloc (.cells #[.int .i64 E,.int .i64 R,.int .i64 D,.int .i64 L] t)) W.heap.size E R D L:=by
  constructor <;> simp [go_sem]
theorem CBox.alloc {W:World} {B:Nat} {E R D L:Int} (h:CBox W B E R D L) (o:Obj):CBox (W.alloc o) B E R D L:=h.keep ((Below.refl _ W).alloc (Nat.le_refl _) o)
theorem frozen_blk {W W':World} {k o:Nat} (h:W'.heap[k]? = W.heap[k]?):W'.frozen? ⟨k,o,none⟩ = W.frozen? ⟨k,o,none⟩:=by unfold World.frozen?;rw [h]
theorem cell_blk {W W':World} {k o:Nat} (h:W'.heap[k]? = W.heap[k]?):W'.cell? ⟨k,o,none⟩ = W.cell? ⟨k,o,none⟩:=by unfold World.cell?;rw [h]
theorem CBox.only {W W':World} {B C:Nat} {E R D L:Int} (h:CBox W B E R D L) (ho:Only C W W') (hne:B ≠ C):CBox W' B E R D L:=by
  have hk:=ho.blk B h.lt hne
  exact ⟨(cell_blk hk).trans h.a0,(cell_blk hk).trans h.a1,(cell_blk hk).trans h.a2,(cell_blk hk).trans h.a3,(frozen_blk hk).trans h.f0,(frozen_blk hk).trans h.f1,(frozen_blk hk).trans h.f2,(frozen_blk hk).trans h.f3,Nat.lt_of_lt_of_le h.lt ho.size⟩
theorem Only.setAt {B:Nat} {w w':World} (h:Only B w w') (o:Nat) (v:Value):Only B w (w'.setCell ⟨B,o,none⟩ v) :=
  ⟨fun m h1 h2 => (h.below m h1 h2).setCell (p:=⟨B,o,none⟩) h1 _,by simpa [World.setCell] using h.size,fun k h1 h2 => (Below.heap_setCell _ _ _ _ h2).trans (h.blk k h1 h2)⟩
theorem CBox.set1 {W:World} {B:Nat} {E R D L:Int} (h:CBox W B E R D L) (v:Int):CBox (W.setCell ⟨B,1,none⟩ (.int .i64 v)) B E v D L:=by
  obtain ⟨a0,a1,a2,a3,f0,f1,f2,f3,lt⟩:=h
  constructor <;> simp [go_sem, *]
theorem CBox.set03 {W:World} {B:Nat} {E R D L:Int} (h:CBox W B E R D L) (v u:Int):CBox ((W.setCell ⟨B,0,none⟩ (.int .i64 v)).setCell ⟨B,3,none⟩ (.int .i64 u)) B v R D u:=by
  obtain ⟨a0,a1,a2,a3,f0,f1,f2,f3,lt⟩:=h
  constructor <;> simp [go_sem, *]
def chgT (mf:Int → Int → Int × Int) (E R D L t:Int) (right:Bool):(Int × Int × Int × Int) × Int :=
  if moE E R D L t ≠ 0 then ((0,0,0,0),moE E R D L t) else if right = false then ((0,0,0,0),2) else if rdB (shZ E R D L t) = false then ((0,0,0,0),24)
  else ((shZ E R D L t,(mf R D).1,(mf R D).2,t),0)
def clkV (c:Int × Int × Int × Int):Value:=.agg #[.int .i64 c.1,.int .i64 c.2.1,.int .i64 c.2.2.1,.int .i64 c.2.2.2]
end Lum
namespace Go.Proofs.YtbeojahilbglcaaGreatDoor
open Go.RowKit Go.Shelf Lum
attribute [local go_sem] bs_get bs_extract_end bs_extract_from bs_extract bs_append
def Meth (M:FuncId) (z:Int) (mf:Int → Int → Int × Int):Prop :=
  ∀ (W:World) (B:Nat) (E R D L:Int),CBox W B E R D L → Calls Tryz.prog M #[.pointer (some ⟨B,0,none⟩),.int .i64 z] W fun e w' => e = .returned (.tuple #[]) ∧ CBox w' B E (mf R D).1 (mf R D).2 L ∧ Only B W w'
theorem meth_pace (z:Int):Meth 89 z (fun R D => (z,D)):=by
  intro W B E R D L h
  have H:=Lib.hid h
  obtain ⟨a0,a1,a2,a3,f0,f1,f2,f3,lt⟩:=h
  go_enter Tryz.func89,Tryz.ntmps89
  go_wp2
  go_end0
  exact ⟨rfl,H.out.set1 z,(Only.refl B W).setAt 1 _⟩
theorem own_clk_new (t:Int) (w:World):Calls Tryz.prog 30 #[.int .i64 t] w fun e w' => e = .returned (.tuple #[clkV (if wiB t 0 10000000 then (0,100,1,t) else (0,0,0,0)),.int .i64 (if wiB t 0 10000000 then 0 else 2)]) ∧ Below w.heap.size w w':=by
  have hw:=fun W => own_within t 0 10000000 W
  cases hk:wiB t 0 10000000
  · simp only [hk] at hw
    have HW:=Lib.hid hw;clear hw hk
    go_enter Tryz.func30,Tryz.ntmps30
    go_wp2_with fail
    refine (HW.out _).mono ?_
    rintro e w' ⟨rfl,rfl⟩
    go_wp2
    refine bodyPost_ret_by (v:=.tuple #[clkV (0,0,0,0),.int .i64 2]) (by simp [results,Tryz.f30,go_sem,clkV]) rfl ⟨rfl,?_⟩
    exact (Below.refl _ w).alloc (Nat.le_refl _) _
  · simp only [hk] at hw
    have HW:=Lib.hid hw;clear hw hk
    go_enter Tryz.func30,Tryz.ntmps30
    go_wp2_with fail
    refine (HW.out _).mono ?_
    rintro e w' ⟨rfl,rfl⟩
    go_wp2
    refine bodyPost_ret_by (v:=.tuple #[clkV (0,100,1,t),.int .i64 0]) (by simp [results,Tryz.f30,go_sem,clkV]) rfl ⟨rfl,?_⟩
    exact (Below.refl _ w).alloc (Nat.le_refl _) _
end Go.Proofs.YtbeojahilbglcaaGreatDoor
namespace Lum
open Go Go.RowKit Go.Shelf
theorem CBox.setAll {W:World} {B:Nat} {E R D L:Int} (h:CBox W B E R D L) (e r d l:Int):CBox ((((W.setCell ⟨B,0,none⟩ (.int .i64 e)).setCell ⟨B,1,none⟩ (.int .i64 r)).setCell ⟨B,2,none⟩ (.int .i64 d)).setCell ⟨B,3,none⟩ (.int .i64 l)) B e r d l:=by
  obtain ⟨a0,a1,a2,a3,f0,f1,f2,f3,lt⟩:=h
  constructor <;> simp [go_sem, *]
theorem below_set4 {w W:World} {n B:Nat} (h:Below n w W) (hB:n ≤ B) (a b c d:Value):Below n w ((((W.setCell ⟨B,0,none⟩ a).setCell ⟨B,1,none⟩ b).setCell ⟨B,2,none⟩ c).setCell ⟨B,3,none⟩ d) :=
  (((h.setCell (p:=⟨B,0,none⟩) hB _).setCell (p:=⟨B,1,none⟩) hB _).setCell (p:=⟨B,2,none⟩) hB _).setCell (p:=⟨B,3,none⟩) hB _
end Lum
namespace Go.Proofs.YtbeojahilbglcaaGreatDoor
open Go.RowKit Go.Shelf Lum
attribute [local go_sem] bs_get bs_extract_end bs_extract_from bs_extract bs_append
theorem own_change (M : FuncId) (mf : Int → Int → Int × Int) (E R D L t z : Int) (right : Bool) (w : World) (hM : Meth M z mf) (hF : ∀ args w, (callFunc M args).run Tryz.prog w = .ok (.enter M args) w) :
    Calls Tryz.prog 88 #[.agg #[.int .i64 E,.int .i64 R,.int .i64 D,.int .i64 L],.int .i64 t,.int .i64 z,.bool right,.func (.func M) #[] #[]] w fun e w' => e = .returned (.tuple #[clkV (chgT mf E R D L t right).1,.int .i64 (chgT mf E R D L t right).2]) ∧ Below w.heap.size w w':=by
  have hB:=(((Below.refl w.heap.size w).alloc (Nat.le_refl _) (.cells #[.int .i64 E,.int .i64 R,.int .i64 D,.int .i64 L] 66)).alloc (by simp) (.cells #[.int .i64 0,.int .i64 0,.int .i64 0,.int .i64 0] 66)).alloc (by simp;omega) (.cells #[.int .i64 E,.int .i64 R,.int .i64 D,.int .i64 L] 166)
  have hr:=(CBox.new (w.alloc (.cells #[.int .i64 E,.int .i64 R,.int .i64 D,.int .i64 L] 66)) 66 0 0 0 0).alloc (.cells #[.int .i64 E,.int .i64 R,.int .i64 D,.int .i64 L] 166)
  have hf:=CBox.new ((w.alloc (.cells #[.int .i64 E,.int .i64 R,.int .i64 D,.int .i64 L] 66)).alloc (.cells #[.int .i64 0,.int .i64 0,.int .i64 0,.int .i64 0] 66)) 166 E R D L
  simp only [World.size_alloc] at hr hf
  have hm:=fun W => own_clk_moment E R D L t W
  have HM:=Lib.hid hm;clear hm
  have HMETH:=Lib.hid hM;clear hM
  obtain ⟨v,hv⟩:∃ v,v = chgT mf E R D L t right:=⟨_,rfl⟩
  rw [← hv]
  unfold chgT at hv
  have HV:=Lib.hid hv;clear hv
  go_enter Tryz.func88,Tryz.ntmps88
  go_wp2_with fail
  generalize ((w.alloc (.cells #[.int .i64 E,.int .i64 R,.int .i64 D,.int .i64 L] 66)).alloc (.cells #[.int .i64 0,.int .i64 0,.int .i64 0,.int .i64 0] 66)).alloc (.cells #[.int .i64 E,.int .i64 R,.int .i64 D,.int .i64 L] 166) = W0 at *
  by_cases hz:moE E R D L t = 0
  · obtain ⟨k1,k2,k3⟩:=moE_zero hz
    rw [hz] at HM
    have HV1:Hid (v = if right = false then ((0,0,0,0),2) else if rdB (shZ E R D L t) = false then ((0,0,0,0),24) else ((shZ E R D L t,(mf R D).1,(mf R D).2,t),0)):=by show _ = _;rw [HV.out,if_neg (by simpa using hz)]
    have hs:=fun W => own_clk_shows E R D L t W k1 k2 k3
    have HS:=Lib.hid hs;clear hs hz k1 k2 k3
    refine (HM.out _).mono ?_
    rintro e w1 ⟨rfl,hb1⟩
    have hr1:=hr.keep hb1
    have hf1:=hf.keep hb1
    have HB:=Lib.hid (bch' hB hb1);clear hb1 hB hr hf
    have HR1:=Lib.hid hr1
    have HF1:=Lib.hid hf1
    obtain ⟨a0,a1,a2,a3,f0,f1,f2,f3,lt⟩:=hr1
    obtain ⟨b0,b1,b2,b3,g0,g1,g2,g3,gt⟩:=hf1
    cases right
    · have HV2:Hid (v = ((0,0,0,0),2)):=by show _ = _;rw [HV1.out,if_pos rfl]
      clear HV HV1
      go_wp2_with fail
      refine bodyPost_ret_by (v:=.tuple #[clkV (0,0,0,0),.int .i64 2]) (by simp [results,Tryz.f88,go_sem,clkV,a0,a1,a2,a3,f0,f1,f2,f3]) rfl ⟨by rw [HV2.out],?_⟩
      exact below_set4 HB.out (by omega) _ _ _ _
    · have HV2:Hid (v = if rdB (shZ E R D L t) = false then ((0,0,0,0),24) else ((shZ E R D L t,(mf R D).1,(mf R D).2,t),0)):=by show _ = _;rw [HV1.out,if_neg (by simp)]
      clear HV HV1
      go_wp2_with fail
      refine (HS.out _).mono ?_
      rintro e w2 ⟨rfl,hb2⟩
      have hr2:=HR1.out.keep hb2
      have hf2:=HF1.out.keep hb2
      have HB2:=Lib.hid (bch' HB.out hb2);clear hb2
      clear a0 a1 a2 a3 f0 f1 f2 f3 lt b0 b1 b2 b3 g0 g1 g2 g3 gt
      have HR2:=Lib.hid hr2
      have HF2:=Lib.hid hf2
      obtain ⟨a0,a1,a2,a3,f0,f1,f2,f3,lt⟩:=hr2
      obtain ⟨b0,b1,b2,b3,g0,g1,g2,g3,gt⟩:=hf2
      have hrd:=own_reading (shZ E R D L t) w2
      cases hk:rdB (shZ E R D L t)
      · rw [hk] at hrd
        have HV3:Hid (v = ((0,0,0,0),24)):=by show _ = _;rw [HV2.out,if_pos hk]
        have HRD:=Lib.hid hrd;clear hrd hk HV2
        generalize shZ E R D L t = sh at *
        go_wp2_with fail
        refine (HRD.out).mono ?_
        rintro e w' ⟨rfl,rfl⟩
        go_wp2_with fail
        refine bodyPost_ret_by (v:=.tuple #[clkV (0,0,0,0),.int .i64 24]) (by simp [results,Tryz.f88,go_sem,clkV,a0,a1,a2,a3,f0,f1,f2,f3]) rfl ⟨by rw [HV3.out],?_⟩
        exact below_set4 HB2.out (by omega) _ _ _ _
      · rw [hk] at hrd
        have HV3:Hid (v = ((shZ E R D L t,(mf R D).1,(mf R D).2,t),0)):=by show _ = _;rw [HV2.out,if_neg (by rw [hk];simp)]
        have HRD:=Lib.hid hrd;clear hrd hk HV2
        generalize shZ E R D L t = sh at *
        have hf3:=HF2.out.set03 sh t
        have ho3:=((Only.refl (w.heap.size + 1 + 1) w2).setAt 0 (.int .i64 sh)).setAt 3 (.int .i64 t)
        have HC:=Lib.hid (HMETH.out _ _ _ _ _ _ hf3)
        have HO3:=Lib.hid ho3
        clear hf3 ho3
        have hlt2:w.heap.size + 1 + 1 ≤ w2.heap.size:=by omega
        go_wp2_with fail
        refine (HRD.out).mono ?_
        rintro e w' ⟨rfl,rfl⟩
        go_wp2_with fail
        refine (HC.out).mono ?_
        rintro e w4 ⟨rfl,hf4,ho4⟩
        have ho:=HO3.out.trans ho4
        have hr4:=HR2.out.only ho (by omega)
        have HB4:=Lib.hid (HB2.out.trans (ho.below w.heap.size (by omega) (by omega)))
        clear a0 a1 a2 a3 f0 f1 f2 f3 lt b0 b1 b2 b3 g0 g1 g2 g3 gt ho ho4
        generalize (mf R D).1 = r' at *
        generalize (mf R D).2 = d' at *
        obtain ⟨a0,a1,a2,a3,f0,f1,f2,f3,lt⟩:=hr4
        obtain ⟨b0,b1,b2,b3,g0,g1,g2,g3,gt⟩:=hf4
        go_wp2_with fail
        refine bodyPost_ret_by (v:=.tuple #[clkV (sh,r',d',t),.int .i64 0]) (by simp [results,Tryz.f88,go_sem,clkV,a0,a1,a2,a3,f0,f1,f2,f3]) rfl ⟨by rw [HV3.out],?_⟩
        exact below_set4 HB4.out (by omega) _ _ _ _
  · have HV1:Hid (v = ((0,0,0,0),moE E R D L t)):=by show _ = _;rw [HV.out,if_pos hz]
    have hne:((moE E R D L t:Int) != 0) = true:=by simpa using hz
    generalize moE E R D L t = m at *
    clear hz HV
    refine (HM.out _).mono ?_
    rintro e w1 ⟨rfl,hb1⟩
    have hr1:=hr.keep hb1
    have HB:=Lib.hid (bch' hB hb1);clear hb1 hB hr hf
    obtain ⟨a0,a1,a2,a3,f0,f1,f2,f3,lt⟩:=hr1
    go_wp2_with fail
    refine bodyPost_ret_by (v:=.tuple #[clkV (0,0,0,0),.int .i64 m]) (by simp [results,Tryz.f88,go_sem,clkV,a0,a1,a2,a3,f0,f1,f2,f3]) rfl ⟨by rw [HV1.out],?_⟩
    exact below_set4 HB.out (by omega) _ _ _ _
end Go.Proofs.YtbeojahilbglcaaGreatDoor
namespace Lum
open Go Go.RowKit Go.Shelf
open Go.Lib (decDigits itoa)
theorem keepC {w W W' : World} {B : Nat} {E R D L : Int}
    (hS:Below w.heap.size w W ∧ W.cell? ⟨B,0,none⟩ = some (.int .i64 E) ∧ W.cell? ⟨B,1,none⟩ = some (.int .i64 R) ∧ W.cell? ⟨B,2,none⟩ = some (.int .i64 D) ∧ W.cell? ⟨B,3,none⟩ = some (.int .i64 L)) (hb:Below W.heap.size W W') :
    Below w.heap.size w W' ∧ W'.cell? ⟨B,0,none⟩ = some (.int .i64 E) ∧ W'.cell? ⟨B,1,none⟩ = some (.int .i64 R) ∧ W'.cell? ⟨B,2,none⟩ = some (.int .i64 D) ∧ W'.cell? ⟨B,3,none⟩ = some (.int .i64 L):=by
  obtain ⟨h1,h2,h3,h4,h5⟩:=hS
  have l1:=World.block_lt_of_cell? W _ h2
  exact ⟨bch' h1 hb,(hb.cell (p:=⟨B,0,none⟩) l1).trans h2,(hb.cell (p:=⟨B,1,none⟩) l1).trans h3,(hb.cell (p:=⟨B,2,none⟩) l1).trans h4,(hb.cell (p:=⟨B,3,none⟩) l1).trans h5⟩
theorem keepCs {w W : World} {B C : Nat} {E R D L : Int} {a b c d : Value}
    (hS:Below w.heap.size w W ∧ W.cell? ⟨B,0,none⟩ = some (.int .i64 E) ∧ W.cell? ⟨B,1,none⟩ = some (.int .i64 R) ∧ W.cell? ⟨B,2,none⟩ = some (.int .i64 D) ∧ W.cell? ⟨B,3,none⟩ = some (.int .i64 L)) (hC:w.heap.size ≤ C) (hne:C ≠ B) :
    Below w.heap.size w ((((W.setCell ⟨C,0,none⟩ a).setCell ⟨C,1,none⟩ b).setCell ⟨C,2,none⟩ c).setCell ⟨C,3,none⟩ d) ∧ ((((W.setCell ⟨C,0,none⟩ a).setCell ⟨C,1,none⟩ b).setCell ⟨C,2,none⟩ c).setCell ⟨C,3,none⟩ d).cell? ⟨B,0,none⟩ = some (.int .i64 E) ∧ ((((W.setCell ⟨C,0,none⟩ a).setCell ⟨C,1,none⟩ b).setCell ⟨C,2,none⟩ c).setCell ⟨C,3,none⟩ d).cell? ⟨B,1,none⟩ = some (.int .i64 R) ∧ ((((W.setCell ⟨C,0,none⟩ a).setCell ⟨C,1,none⟩ b).setCell ⟨C,2,none⟩ c).setCell ⟨C,3,none⟩ d).cell? ⟨B,2,none⟩ = some (.int .i64 D) ∧ ((((W.setCell ⟨C,0,none⟩ a).setCell ⟨C,1,none⟩ b).setCell ⟨C,2,none⟩ c).setCell ⟨C,3,none⟩ d).cell? ⟨B,3,none⟩ = some (.int .i64 L):=by
  obtain ⟨g1,g2,g3,g4,g5⟩:=hS
  refine ⟨below_set4 g1 hC _ _ _ _,?_,?_,?_,?_⟩ <;> simp [World.cell?_setCell_far,hne, *]
def backT (E R D L by_:Int):(Int × Int × Int × Int) × Int :=
  if ckB E R D L = false then ((0,0,0,0),2) else if rdB by_ = false then ((0,0,0,0),2) else ((max 0 (E - by_),R,D,L),0)
def whenT (E R D L tg:Int):Txt × Bool × Int :=
  if ckB E R D L = false then ([],false,2) else if rdB tg = false then ([],false,2)
  else if tg - E ≠ 0 ∧ (tg - E) * D ≤ 0 then ([],false,0)
  else (showR ((L:Rat) + Rat.divInt (max (tg - E) (-(tg - E))) R),true,0)
end Lum
namespace Go.Proofs.YtbeojahilbglcaaGreatDoor
open Go.RowKit Go.Shelf Lum
open Go.Lib (decDigits itoa)
attribute [local go_sem] bs_get bs_extract_end bs_extract_from bs_extract bs_append
theorem own_clk_rate (E R D L t rate:Int) (w:World):Calls Tryz.prog 41 #[.agg #[.int .i64 E,.int .i64 R,.int .i64 D,.int .i64 L],.int .i64 t,.int .i64 rate] w fun e w' => e = .returned (.tuple #[clkV (chgT (fun R D => (rate,D)) E R D L t (wiB rate 1 400)).1,.int .i64 (chgT (fun R D => (rate,D)) E R D L t (wiB rate 1 400)).2]) ∧ Below w.heap.size w w':=by
  have hB:=((Below.refl w.heap.size w).alloc (Nat.le_refl _) (.cells #[.int .i64 E,.int .i64 R,.int .i64 D,.int .i64 L] 66)).alloc (by simp) (.cells #[.int .i64 0,.int .i64 0,.int .i64 0,.int .i64 0] 66)
  have hr:=CBox.new (w.alloc (.cells #[.int .i64 E,.int .i64 R,.int .i64 D,.int .i64 L] 66)) 66 0 0 0 0
  have hx:=(CBox.new w 66 E R D L).alloc (.cells #[.int .i64 0,.int .i64 0,.int .i64 0,.int .i64 0] 66)
  rw [World.size_alloc] at hr
  have hc:=fun W => own_change 89 (fun R D => (rate,D)) E R D L t rate (wiB rate 1 400) W (meth_pace _) (enters_of Tryz.func89 (by kernel_rfl) rfl)
  have HC:=Lib.hid hc;clear hc
  generalize chgT (fun R D => (rate,D)) E R D L t (wiB rate 1 400) = v at *
  obtain ⟨⟨x0,x1,x2,x3⟩,v2⟩:=v
  go_enter Tryz.func41,Tryz.ntmps41
  go_wp2_with fail
  generalize (w.alloc (.cells #[.int .i64 E,.int .i64 R,.int .i64 D,.int .i64 L] 66)).alloc (.cells #[.int .i64 0,.int .i64 0,.int .i64 0,.int .i64 0] 66) = W0 at *
  have hS0:Below w.heap.size w W0.drew ∧ W0.drew.cell? ⟨w.heap.size,0,none⟩ = some (.int .i64 E) ∧ W0.drew.cell? ⟨w.heap.size,1,none⟩ = some (.int .i64 R) ∧ W0.drew.cell? ⟨w.heap.size,2,none⟩ = some (.int .i64 D) ∧ W0.drew.cell? ⟨w.heap.size,3,none⟩ = some (.int .i64 L):=⟨hB.drew,hx.a0,hx.a1,hx.a2,hx.a3⟩
  have HS0:=Lib.hid hS0;clear hS0
  have HBD:=Lib.hid hB.drew;clear hB hx
  have HR:=Lib.hid (hr.keep (Below.refl _ W0).drew);clear hr
  unfold clkV at HC
  dsimp only at HC
  go_region_held3 (fun W' => Below w.heap.size w W' ∧ W'.cell? ⟨w.heap.size,0,none⟩ = some (.int .i64 E) ∧ W'.cell? ⟨w.heap.size,1,none⟩ = some (.int .i64 R) ∧ W'.cell? ⟨w.heap.size,2,none⟩ = some (.int .i64 D) ∧ W'.cell? ⟨w.heap.size,3,none⟩ = some (.int .i64 L)) (first | exact HS0.out | exact keepC (by assumption) (by assumption) | exact keepCs (by assumption) (by omega) (by omega)) (first | (go_at_call 78;refine (own_within _ _ _ _).mono ?_;rintro e w' ⟨rfl,rfl⟩) | (go_at_call 88;refine (HC.out _).mono ?_;rintro e w5 ⟨rfl,hb5⟩;have x5:=HR.out.keep hb5;obtain ⟨a0,a1,a2,a3,f0,f1,f2,f3,lt⟩:=id x5))
  all_goals
    go_wp2_with fail
    refine bodyPost_ret_by (v:=.tuple #[clkV (x0,x1,x2,x3),.int .i64 v2]) (by simp [results,Tryz.f41,go_sem,clkV,a0,a1,a2,a3,f0,f1,f2,f3]) rfl ⟨rfl,?_⟩
    exact below_set4 (bch' HBD.out hb5) (by omega) _ _ _ _
end Go.Proofs.YtbeojahilbglcaaGreatDoor
namespace Lum
open Go Go.RowKit Go.Shelf
open Go.Lib (decDigits itoa)
end Lum
namespace Go.Proofs.YtbeojahilbglcaaGreatDoor
open Go.RowKit Go.Shelf Lum
open Go.Lib (decDigits itoa)
attribute [local go_sem] bs_get bs_extract_end bs_extract_from bs_extract bs_append
end Go.Proofs.YtbeojahilbglcaaGreatDoor
namespace Go.Proofs.YtbeojahilbglcaaGreatDoor
open Go.RowKit Go.Shelf Lum
open Go.Lib (decDigits itoa)
attribute [local go_sem] bs_get bs_extract_end bs_extract_from bs_extract bs_append
end Go.Proofs.YtbeojahilbglcaaGreatDoor

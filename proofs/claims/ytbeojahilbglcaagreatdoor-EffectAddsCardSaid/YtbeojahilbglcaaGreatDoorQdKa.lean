/- A part of the proof of EffectAdds: contracts of functions, and plain facts. -/
import Derived.Test.YtbeojahilbglcaaGreatDoorQdMk
import Derived.Test.YtbeojahilbglcaaGreatDoorQdMe
import Derived.Deep.RegionHeld3
import Derived.Deep.LoopGhost
import Derived.Deep.QuietTactic
import Derived.BigQuiet
import Derived.BigRegion
set_option maxRecDepth 100000
set_option maxHeartbeats 2000000
set_option linter.unusedVariables false
set_option linter.unusedSimpArgs false
namespace Lum
open Go Go.RowKit Go.Shelf
open Go.Lib (decDigits itoa)
theorem intCheck_itoa (x:Int):intCheck (itoa x) = if 4096 < dl x then 23 else 0:=by
  have h1:=(intCheck_shaped (itoa x))
  rw [shaped_itoa] at h1
  have h2:¬ intCheck (itoa x) = 3:=fun h => by have:=h1.1 h;cases this
  unfold intCheck at h2 ⊢
  by_cases ha:body (itoa x) = [] ∨ ((body (itoa x)).head? = some 48 ∧ 1 < (itoa x).length)
  · rw [if_pos ha] at h2;exact absurd rfl h2
  · rw [if_neg ha] at h2 ⊢
    by_cases hb:(body (itoa x)).all isDig = false
    · rw [if_pos hb] at h2;exact absurd rfl h2
    · rw [if_neg hb,body_itoa];rfl
theorem intCheck_ok (x:Int) (h:dl x ≤ 4096):intCheck (itoa x) = 0:=by rw [intCheck_itoa,if_neg (by omega)]
theorem words_le (x:Int) (k:Nat) (h:dl x ≤ k) (hk:1 ≤ k):(magL x.natAbs).length ≤ k:=by
  rw [magL_len]
  have h1:=(dl_le hk).1 h
  refine Nat.lt_of_lt_of_le h1 (Nat.pow_le_pow_left (by decide) _)
theorem NumAt.words {W:World} {b:Bool} {p:Option Addr} {n c:Nat} {x:Int} (h:NumAt W b p n c x) {k:Nat} (hk:dl x ≤ k) (h1:1 ≤ k):n ≤ k:=by rw [h.2.n];exact words_le x k hk h1
end Lum
namespace Go.Proofs.YtbeojahilbglcaaGreatDoor
open Go.RowKit Go.Shelf Lum
open Go.Lib (decDigits itoa)
attribute [local go_sem] bs_get bs_extract_end bs_extract_from bs_extract bs_append
theorem own_pair (x y : Int) (w : World) (hx : dl x ≤ 4096) (hy : dl y ≤ 4096) :
    Calls Tryz.prog 221 #[.string ⟨(itoa x).toArray⟩,.string ⟨(itoa y).toArray⟩] w fun e w' => ∃ b1 p1 n1 c1 b2 p2 n2 c2,e = .returned (.tuple #[.agg #[.bool b1,.slice p1 n1 c1],.agg #[.bool b2,.slice p2 n2 c2],.int .i64 0]) ∧ NumAt w' b1 p1 n1 c1 x ∧ NumAt w' b2 p2 n2 c2 y ∧ Below w.heap.size w w':=by
  have hlx:=itoa_len_dl x
  have hly:=itoa_len_dl y
  have hcx:=fun W => own_check (itoa x) W (by omega)
  have hcy:=fun W => own_check (itoa y) W (by omega)
  rw [intCheck_ok x hx] at hcx
  rw [intCheck_ok y hy] at hcy
  have HCX:=Lib.hid hcx;clear hcx
  have HCY:=Lib.hid hcy;clear hcy
  have hrx:=fun W => own_read x W (by omega)
  have hry:=fun W => own_read y W (by omega)
  have HRX:=Lib.hid hrx;clear hrx
  have HRY:=Lib.hid hry;clear hry hlx hly
  have hB:=((Below.refl w.heap.size w).alloc (Nat.le_refl _) (.cells #[.bool false,.slice none 0 0] 245)).alloc (by simp) (.cells #[.bool false,.slice none 0 0] 245)
  have x1:=(NBox.new w 245 false none 0 0).alloc (.cells #[.bool false,.slice none 0 0] 245)
  have x2:=NBox.new (w.alloc (.cells #[.bool false,.slice none 0 0] 245)) 245 false none 0 0
  rw [World.size_alloc] at x2
  have i0:∀ (a b:Value) (w:World),(Instr.index 287 (.agg #[a,b]) (.int .i64 0)).run Tryz.prog w = .ok a w:=fun _ _ _ => by kernel_rfl
  have i1:∀ (a b:Value) (w:World),(Instr.index 287 (.agg #[a,b]) (.int .i64 1)).run Tryz.prog w = .ok b w:=fun _ _ _ => by kernel_rfl
  generalize itoa x = tx at *
  generalize itoa y = ty at *
  go_enter Tryz.func221,Tryz.ntmps221
  go_wp2
  generalize (w.alloc (.cells #[.bool false,.slice none 0 0] 245)).alloc (.cells #[.bool false,.slice none 0 0] 245) = W0 at *
  have X1:=Lib.hid x1;clear x1
  have X2:=Lib.hid x2;clear x2
  go_loopw [8,9,13] (fun _ _ k wr => (k = .int .i64 0 ∨ k = .int .i64 1 ∨ k = .int .i64 2) ∧ Below W0.heap.size W0 wr) (fun _ _ k _ => 2 - (intOf k).toNat)
  case atStart => exact ⟨.inl rfl,Below.refl _ _⟩
  case round =>
    obtain ⟨rfl | rfl | rfl,hb⟩:=hrel
    · go_wp2_with fail
      refine (HCX.out _).mono ?_
      rintro e w' ⟨rfl,hb2⟩
      have HB:=Lib.hid (hb.trans (hb2.mono hb.size));clear hb hb2
      go_wp2
      go_roundw
      case rel => exact ⟨.inr (.inl rfl),HB.out⟩
      case measure => simp [intOf]
    · go_wp2_with fail
      refine (HCY.out _).mono ?_
      rintro e w' ⟨rfl,hb2⟩
      have HB:=Lib.hid (hb.trans (hb2.mono hb.size));clear hb hb2
      go_wp2
      go_roundw
      case rel => exact ⟨.inr (.inr rfl),HB.out⟩
      case measure => simp [intOf]
    · go_wp2_with fail
      refine (HRX.out _).mono ?_
      rintro e w1 ⟨b1,p1,n1,c1,rfl,hN1,hb1⟩
      have HN1:=Lib.hid hN1;clear hN1
      go_wp2_with fail
      refine (HRY.out _).mono ?_
      rintro e w2 ⟨b2,p2,n2,c2,rfl,hN2,hb2⟩
      have HN1':=Lib.hid (HN1.out.below hb2)
      have HN2:=Lib.hid hN2;clear hN2
      have hbz:=(hb.trans (hb1.mono hb.size)).trans (hb2.mono (Nat.le_trans hb.size hb1.size))
      have y1:=X1.out.keep hbz
      have y2:=X2.out.keep hbz
      have HBZ:=Lib.hid (hB.trans (hbz.mono hB.size));clear hbz hb hb1 hb2 hB
      have Y1:=Lib.hid y1
      have Y2:=Lib.hid y2
      obtain ⟨k1,k2,f1,f2,l1⟩:=y1
      obtain ⟨k3,k4,f3,f4,l3⟩:=y2
      go_wp2_with fail
      refine bodyPost_ret_by (v:=.tuple #[.agg #[.bool b1,.slice p1 n1 c1],.agg #[.bool b2,.slice p2 n2 c2],.int .i64 0]) (by simp [results,Tryz.f221,go_sem,k1,k2,k3,k4]) rfl ?_
      have z2:=(Y2.out.other (a:=⟨w.heap.size,0,none⟩) (by simp) (.bool b1)).other (a:=⟨w.heap.size,1,none⟩) (by simp) (.slice p1 n1 c1)
      refine ⟨_,_,_,_,_,_,_,_,rfl,⟨HN1'.out.1,magSet2 (magSet2 HN1'.out.2 Y1.out.a0 Y1.out.a1 _ _) z2.a0 z2.a1 _ _⟩,⟨HN2.out.1,magSet2 (magSet2 HN2.out.2 Y1.out.a0 Y1.out.a1 _ _) z2.a0 z2.a1 _ _⟩,?_⟩
      exact (((HBZ.out.setCell (p:=⟨w.heap.size,0,none⟩) (Nat.le_refl _) _).setCell (p:=⟨w.heap.size,1,none⟩) (Nat.le_refl _) _).setCell (p:=⟨w.heap.size + 1,0,none⟩) (by simp) _).setCell (p:=⟨w.heap.size + 1,1,none⟩) (by simp) _
theorem own_binary (F : FuncId) (x y z : Int) (w : World) (hx : dl x ≤ 4096) (hy : dl y ≤ 4096) (hz : dl z ≤ 20000) (env : Env w)
    (hF:∀ args w,(callFunc F args).run Tryz.prog w = .ok (.enter F args) w)
    (hop:∀ (W:World) (b1 b2:Bool) (p1 p2:Option Addr) (n1 c1 n2 c2:Nat),NumAt W b1 p1 n1 c1 x → NumAt W b2 p2 n2 c2 y → n1 ≤ 5000 → n2 ≤ 5000 → Calls Tryz.prog F #[.agg #[.bool b1,.slice p1 n1 c1],.agg #[.bool b2,.slice p2 n2 c2]] W fun e w' => ∃ b' p' n' c',e = .returned (.agg #[.bool b',.slice p' n' c']) ∧ NumAt w' b' p' n' c' z ∧ Below W.heap.size W w') :
    Calls Tryz.prog 207 #[.string ⟨(itoa x).toArray⟩,.string ⟨(itoa y).toArray⟩,.func (.func F) #[] #[]] w fun e w' => e = .returned (.tuple #[.string ⟨(wrT z).1.toArray⟩,.int .i64 (wrT z).2]) ∧ Below w.heap.size w w':=by
  have hp:=own_pair x y w hx hy
  have HP:=Lib.hid hp;clear hp
  have HOP:=Lib.hid hop;clear hop
  have HX:=Lib.hid hx;clear hx
  have HY:=Lib.hid hy;clear hy
  have HZ:=Lib.hid hz;clear hz
  generalize itoa x = tx at *
  generalize itoa y = ty at *
  go_enter Tryz.func207,Tryz.ntmps207
  go_wp2_with fail
  refine (HP.out).mono ?_
  rintro e w1 ⟨b1,p1,n1,c1,b2,p2,n2,c2,rfl,hN1,hN2,hb1⟩
  have hb2:=(Below.refl w1.heap.size w1).alloc (Nat.le_refl _) (.cells #[.bool b1,.slice p1 n1 c1] 245)
  have hb3:=hb2.alloc (by simp) (.cells #[.bool b2,.slice p2 n2 c2] 245)
  have hN1':=hN1.below hb3
  have hN2':=hN2.below hb3
  have hc:=HOP.out _ _ _ _ _ _ _ _ _ hN1' hN2' (hN1.words (k:=5000) (by have:=HX.out;omega) (by omega)) (hN2.words (k:=5000) (by have:=HY.out;omega) (by omega))
  have HC:=Lib.hid hc;clear hc hN1 hN2 hN1' hN2'
  have HB3:=Lib.hid (hb1.trans (hb3.mono hb1.size));clear hb1 hb2 hb3
  go_wp2_with fail
  refine (HC.out).mono ?_
  rintro e w4 ⟨b',p',n',c',rfl,hN,hb4⟩
  have HB4:=Lib.hid (HB3.out.trans (hb4.mono HB3.out.size));clear hb4
  have hw:=own_write b' p' n' c' z w4 hN (hN.words (k:=20000) HZ.out (by omega)) (env.below HB4.out)
  have HW:=Lib.hid hw;clear hw hN
  go_wp2_with fail
  refine (HW.out).mono ?_
  rintro e w5 ⟨rfl,hb5⟩
  go_wp2
  go_ret2
  exact ⟨rfl,HB4.out.trans (hb5.mono HB4.out.size)⟩
end Go.Proofs.YtbeojahilbglcaaGreatDoor
namespace Lum
open Go Go.RowKit Go.Shelf
theorem keepD {w W W' : World} {B : Nat} {b1 b2 : Bool} {p1 p2 : Option Addr} {n1 c1 n2 c2 : Nat}
    (hS:Below w.heap.size w W ∧ W.cell? ⟨B,0,none⟩ = some (.bool b1) ∧ W.cell? ⟨B,1,none⟩ = some (.slice p1 n1 c1) ∧ W.cell? ⟨B + 1,0,none⟩ = some (.bool b2) ∧ W.cell? ⟨B + 1,1,none⟩ = some (.slice p2 n2 c2)) (hb:Below W.heap.size W W') :
    Below w.heap.size w W' ∧ W'.cell? ⟨B,0,none⟩ = some (.bool b1) ∧ W'.cell? ⟨B,1,none⟩ = some (.slice p1 n1 c1) ∧ W'.cell? ⟨B + 1,0,none⟩ = some (.bool b2) ∧ W'.cell? ⟨B + 1,1,none⟩ = some (.slice p2 n2 c2):=by
  obtain ⟨h1,h2,h3,h4,h5⟩:=hS
  have l1:=World.block_lt_of_cell? W _ h2
  have l2:=World.block_lt_of_cell? W _ h4
  exact ⟨bch' h1 hb,(hb.cell (p:=⟨B,0,none⟩) l1).trans h2,(hb.cell (p:=⟨B,1,none⟩) l1).trans h3,(hb.cell (p:=⟨B + 1,0,none⟩) l2).trans h4,(hb.cell (p:=⟨B + 1,1,none⟩) l2).trans h5⟩
theorem keepDs {w W : World} {B C : Nat} {b1 b2 : Bool} {p1 p2 : Option Addr} {n1 c1 n2 c2 : Nat} {u v : Value}
    (hS:Below w.heap.size w W ∧ W.cell? ⟨B,0,none⟩ = some (.bool b1) ∧ W.cell? ⟨B,1,none⟩ = some (.slice p1 n1 c1) ∧ W.cell? ⟨B + 1,0,none⟩ = some (.bool b2) ∧ W.cell? ⟨B + 1,1,none⟩ = some (.slice p2 n2 c2)) (hC:w.heap.size ≤ C) (h1:C ≠ B) (h2:C ≠ B + 1) :
    Below w.heap.size w ((W.setCell ⟨C,0,none⟩ u).setCell ⟨C,1,none⟩ v) ∧ ((W.setCell ⟨C,0,none⟩ u).setCell ⟨C,1,none⟩ v).cell? ⟨B,0,none⟩ = some (.bool b1) ∧ ((W.setCell ⟨C,0,none⟩ u).setCell ⟨C,1,none⟩ v).cell? ⟨B,1,none⟩ = some (.slice p1 n1 c1) ∧ ((W.setCell ⟨C,0,none⟩ u).setCell ⟨C,1,none⟩ v).cell? ⟨B + 1,0,none⟩ = some (.bool b2) ∧ ((W.setCell ⟨C,0,none⟩ u).setCell ⟨C,1,none⟩ v).cell? ⟨B + 1,1,none⟩ = some (.slice p2 n2 c2):=by
  obtain ⟨g1,g2,g3,g4,g5⟩:=hS
  refine ⟨(g1.setCell (p:=⟨C,0,none⟩) hC _).setCell (p:=⟨C,1,none⟩) hC _,?_,?_,?_,?_⟩ <;> simp [World.cell?_setCell_far,h1,h2, *]
end Lum
namespace Go.Proofs.YtbeojahilbglcaaGreatDoor
open Go.RowKit Go.Shelf Lum
open Go.Lib (decDigits itoa)
attribute [local go_sem] bs_get bs_extract_end bs_extract_from bs_extract bs_append
theorem own_add (x y : Int) (w : World) (hx : dl x ≤ 4096) (hy : dl y ≤ 4096) (env : Env w) :
    Calls Tryz.prog 178 #[.string ⟨(itoa x).toArray⟩,.string ⟨(itoa y).toArray⟩] w fun e w' => e = .returned (.tuple #[.string ⟨(wrT (x + y)).1.toArray⟩,.int .i64 (wrT (x + y)).2]) ∧ Below w.heap.size w w':=by
  have hb := own_binary 208 x y (x + y) w hx hy (by have := dl_add x y 4096 hx hy; omega) env (enters_of Tryz.func208 (by kernel_rfl) rfl)
    (fun W b1 b2 p1 p2 n1 c1 n2 c2 h1 h2 l1 l2 => num_sum b1 b2 p1 p2 n1 c1 n2 c2 x y W h1 h2 (by omega) (by omega))
  have HB:=Lib.hid hb;clear hb
  go_enter Tryz.func178,Tryz.ntmps178
  go_wp2_with fail
  refine (HB.out).mono ?_
  rintro e w' ⟨rfl,hb⟩
  go_wp2
  go_ret2
  exact ⟨rfl,hb⟩
theorem own_mul (x y : Int) (w : World) (hx : dl x ≤ 4096) (hy : dl y ≤ 4096) (env : Env w) :
    Calls Tryz.prog 199 #[.string ⟨(itoa x).toArray⟩,.string ⟨(itoa y).toArray⟩] w fun e w' => e = .returned (.tuple #[.string ⟨(wrT (x * y)).1.toArray⟩,.int .i64 (wrT (x * y)).2]) ∧ Below w.heap.size w w':=by
  have hb := own_binary 220 x y (x * y) w hx hy (by have := dl_mul x y; omega) env (enters_of Tryz.func220 (by kernel_rfl) rfl)
    (fun W b1 b2 p1 p2 n1 c1 n2 c2 h1 h2 l1 l2 => num_product b1 b2 p1 p2 n1 c1 n2 c2 x y W h1 h2 (by omega) (by omega))
  have HB:=Lib.hid hb;clear hb
  go_enter Tryz.func199,Tryz.ntmps199
  go_wp2_with fail
  refine (HB.out).mono ?_
  rintro e w' ⟨rfl,hb⟩
  go_wp2
  go_ret2
  exact ⟨rfl,hb⟩
theorem num_diff (b1 b2 : Bool) (p1 p2 : Option Addr) (n1 c1 n2 c2 : Nat) (x y : Int) (w : World) (h1 : NumAt w b1 p1 n1 c1 x) (h2 : NumAt w b2 p2 n2 c2 y) (hn1 : n1 ≤ 50000) (hn2 : n2 ≤ 50000) :
    Calls Tryz.prog 209 #[.agg #[.bool b1,.slice p1 n1 c1],.agg #[.bool b2,.slice p2 n2 c2]] w fun e w' => ∃ b' p' n' c',e = .returned (.agg #[.bool b',.slice p' n' c']) ∧ NumAt w' b' p' n' c' (x - y) ∧ Below w.heap.size w w':=by
  have hB:=(((Below.refl w.heap.size w).alloc (Nat.le_refl _) (.cells #[.bool b1,.slice p1 n1 c1] 245)).alloc (by simp) (.cells #[.bool b2,.slice p2 n2 c2] 245)).alloc (by simp;omega) (.cells #[.bool false,.slice none 0 0] 245)
  have x1:=((NBox.new w 245 b1 p1 n1 c1).alloc (.cells #[.bool b2,.slice p2 n2 c2] 245)).alloc (.cells #[.bool false,.slice none 0 0] 245)
  have x2:=(NBox.new (w.alloc (.cells #[.bool b1,.slice p1 n1 c1] 245)) 245 b2 p2 n2 c2).alloc (.cells #[.bool false,.slice none 0 0] 245)
  have x3:=NBox.new ((w.alloc (.cells #[.bool b1,.slice p1 n1 c1] 245)).alloc (.cells #[.bool b2,.slice p2 n2 c2] 245)) 245 false none 0 0
  simp only [World.size_alloc] at x2 x3
  have H1:=Lib.hid h1;clear h1
  have H2:=Lib.hid h2;clear h2
  go_enter Tryz.func209,Tryz.ntmps209
  go_wp2_with fail
  generalize ((w.alloc (.cells #[.bool b1,.slice p1 n1 c1] 245)).alloc (.cells #[.bool b2,.slice p2 n2 c2] 245)).alloc (.cells #[.bool false,.slice none 0 0] 245) = W0 at *
  have X3:=Lib.hid x3
  obtain ⟨k1,k2,f1,f2,l1⟩:=x1
  obtain ⟨k3,k4,f3,f4,l3⟩:=x2
  obtain ⟨k5,k6,f5,f6,l5⟩:=x3
  have hn:=num_negative b2 p2 n2 c2 y W0.drew (H2.out.below hB.drew)
  have HN:=Lib.hid hn;clear hn
  have HB:=Lib.hid hB.drew
  have hS0:Below w.heap.size w W0.drew ∧ W0.drew.cell? ⟨w.heap.size,0,none⟩ = some (.bool b1) ∧ W0.drew.cell? ⟨w.heap.size,1,none⟩ = some (.slice p1 n1 c1) ∧ W0.drew.cell? ⟨w.heap.size + 1,0,none⟩ = some (.bool b2) ∧ W0.drew.cell? ⟨w.heap.size + 1,1,none⟩ = some (.slice p2 n2 c2):=⟨hB.drew,k1,k2,k3,k4⟩
  have HS0:=Lib.hid hS0;clear hS0 hB
  have X3d:=Lib.hid (X3.out.keep ((Below.refl _ W0).drew))
  go_region_held3 (fun W' => Below w.heap.size w W' ∧ W'.cell? ⟨w.heap.size,0,none⟩ = some (.bool b1) ∧ W'.cell? ⟨w.heap.size,1,none⟩ = some (.slice p1 n1 c1) ∧ W'.cell? ⟨w.heap.size + 1,0,none⟩ = some (.bool b2) ∧ W'.cell? ⟨w.heap.size + 1,1,none⟩ = some (.slice p2 n2 c2)) (first | exact HS0.out | exact keepD (by assumption) (by assumption) | exact keepDs (by assumption) (by omega) (by omega) (by omega)) (first | (go_at_call 210;refine (HN.out).mono ?_;rintro e w4 ⟨b4,p4,n4,c4,rfl,hM4,hb4⟩;have HM4:=Lib.hid hM4;clear hM4) | (go_at_call 208;refine (num_sum _ _ _ _ _ _ _ _ x (-y) _ (H1.out.below (And.left (by assumption))) HM4.out (by omega) (by rw [HM4.out.2.n,Int.natAbs_neg,← H2.out.2.n];omega)).mono ?_;rintro e w5 ⟨b5,p5,n5,c5,rfl,hM5,hb5⟩;have HM5:=Lib.hid hM5;clear hM5;have x5:=(X3d.out.keep hb4).keep hb5;obtain ⟨g5,g6,e5,e6,m5⟩:=id x5;have X5:=Lib.hid x5;clear x5))
  all_goals
    go_wp2_with fail
    refine bodyPost_ret_by (v:=.agg #[.bool b5,.slice p5 n5 c5]) (by simp [results,Tryz.f209,go_sem,g5,g6]) rfl ?_
    have hbz:=bch' (bch' HB.out hb4) hb5
    exact ⟨_,_,_,_,rfl,⟨by rw [HM5.out.1];rfl,magSet2 HM5.out.2 g5 g6 _ _⟩,(hbz.setCell (p:=⟨w.heap.size + 1 + 1,0,none⟩) (by simp;omega) _).setCell (p:=⟨w.heap.size + 1 + 1,1,none⟩) (by simp;omega) _⟩
theorem own_sub (x y : Int) (w : World) (hx : dl x ≤ 4096) (hy : dl y ≤ 4096) (env : Env w) :
    Calls Tryz.prog 179 #[.string ⟨(itoa x).toArray⟩,.string ⟨(itoa y).toArray⟩] w fun e w' => e = .returned (.tuple #[.string ⟨(wrT (x - y)).1.toArray⟩,.int .i64 (wrT (x - y)).2]) ∧ Below w.heap.size w w':=by
  have hb := own_binary 209 x y (x - y) w hx hy (by have := dl_add x (-y) 4096 hx (by rw [dl_neg]; exact hy); rw [← Int.sub_eq_add_neg] at this; omega) env (enters_of Tryz.func209 (by kernel_rfl) rfl)
    (fun W b1 b2 p1 p2 n1 c1 n2 c2 h1 h2 l1 l2 => num_diff b1 b2 p1 p2 n1 c1 n2 c2 x y W h1 h2 (by omega) (by omega))
  have HB:=Lib.hid hb;clear hb
  go_enter Tryz.func179,Tryz.ntmps179
  go_wp2_with fail
  refine (HB.out).mono ?_
  rintro e w' ⟨rfl,hb⟩
  go_wp2
  go_ret2
  exact ⟨rfl,hb⟩
theorem own_neg (x : Int) (w : World) (hx : dl x ≤ 4096) (env : Env w) :
    Calls Tryz.prog 183 #[.string ⟨(itoa x).toArray⟩] w fun e w' => e = .returned (.tuple #[.string ⟨(wrT (-x)).1.toArray⟩,.int .i64 (wrT (-x)).2]) ∧ Below w.heap.size w w':=by
  have hb:=own_sub 0 x w (by unfold dl;rw [show (0:Int).natAbs = 0 from rfl,dec_zero];decide) hx env
  rw [itoa_zero,Int.zero_sub] at hb
  have HB:=Lib.hid hb;clear hb
  go_enter Tryz.func183,Tryz.ntmps183
  go_wp2_with fail
  refine (HB.out).mono ?_
  rintro e w' ⟨rfl,hb⟩
  go_wp2
  go_ret2
  exact ⟨rfl,hb⟩
theorem own_of (n : Int) (w : World) (h0 : -9223372036854775808 ≤ n) (h1 : n ≤ 9223372036854775807) (env : Env w) :
    Calls Tryz.prog 162 #[.int .i64 n] w fun e w' => e = .returned (.string ⟨(itoa n).toArray⟩) ∧ Below w.heap.size w w':=by
  have hb:=sh_itoa n h0 h1 w env
  have HB:=Lib.hid hb;clear hb
  go_enter Tryz.func162,Tryz.ntmps162
  go_wp2_with fail
  refine (HB.out).mono ?_
  rintro e w' ⟨rfl,hb⟩
  go_wp2
  go_ret
  exact ⟨rfl,hb⟩
end Go.Proofs.YtbeojahilbglcaaGreatDoor
namespace Go.Proofs.YtbeojahilbglcaaGreatDoor
open Go.RowKit Go.Shelf Lum
open Go.Lib (decDigits itoa)
attribute [local go_sem] bs_get bs_extract_end bs_extract_from bs_extract bs_append
def GcdAt (g0:Nat) (W:World) (p5:Option Addr) (n5 c5:Nat) (p6:Option Addr) (n6 c6:Nat) (b:Nat):Prop :=
  ∃ a,MagAt W p5 n5 c5 a ∧ MagAt W p6 n6 c6 b ∧ Nat.gcd a b = g0
theorem num_gcd (b1 b2 : Bool) (p1 p2 : Option Addr) (n1 c1 n2 c2 : Nat) (x y : Int) (w : World) (h1 : NumAt w b1 p1 n1 c1 x) (h2 : NumAt w b2 p2 n2 c2 y) (hn1 : n1 ≤ 20000) (hn2 : n2 ≤ 20000) :
    Calls Tryz.prog 211 #[.agg #[.bool b1,.slice p1 n1 c1],.agg #[.bool b2,.slice p2 n2 c2]] w fun e w' => ∃ b' p' n' c',e = .returned (.agg #[.bool b',.slice p' n' c']) ∧ NumAt w' b' p' n' c' (Nat.gcd x.natAbs y.natAbs:Nat) ∧ Below w.heap.size w w':=by
  have hB:=(((Below.refl w.heap.size w).alloc (Nat.le_refl _) (.cells #[.bool b1,.slice p1 n1 c1] 245)).alloc (by simp) (.cells #[.bool b2,.slice p2 n2 c2] 245)).alloc (by simp;omega) (.cells #[.bool false,.slice none 0 0] 245)
  have x1:=((NBox.new w 245 b1 p1 n1 c1).alloc (.cells #[.bool b2,.slice p2 n2 c2] 245)).alloc (.cells #[.bool false,.slice none 0 0] 245)
  have x2:=(NBox.new (w.alloc (.cells #[.bool b1,.slice p1 n1 c1] 245)) 245 b2 p2 n2 c2).alloc (.cells #[.bool false,.slice none 0 0] 245)
  have x3:=NBox.new ((w.alloc (.cells #[.bool b1,.slice p1 n1 c1] 245)).alloc (.cells #[.bool b2,.slice p2 n2 c2] 245)) 245 false none 0 0
  simp only [World.size_alloc] at x2 x3
  have H1:=Lib.hid h1;clear h1
  have H2:=Lib.hid h2;clear h2
  go_enter Tryz.func211,Tryz.ntmps211
  go_wp2_with fail
  generalize ((w.alloc (.cells #[.bool b1,.slice p1 n1 c1] 245)).alloc (.cells #[.bool b2,.slice p2 n2 c2] 245)).alloc (.cells #[.bool false,.slice none 0 0] 245) = W0 at *
  have X3:=Lib.hid x3
  obtain ⟨k1,k2,f1,f2,l1⟩:=x1
  obtain ⟨k3,k4,f3,f4,l3⟩:=x2
  clear x3
  have HB:=Lib.hid hB;clear hB
  go_quiet (fail)
  have H10:=Lib.hid (H1.out.below (below_drewN HB.out nq))
  have H20:=Lib.hid (H2.out.below (below_drewN HB.out nq))
  go_wp2_with fail
  go_loopg [5,6,7,8] y.natAbs (fun gk v q _ _ wr => ∃ (p5:Option Addr) (n5 c5:Nat) (p6:Option Addr) (n6 c6:Nat),v = .slice p5 n5 c5 ∧ q = .slice p6 n6 c6 ∧ n5 ≤ 20000 ∧ n6 ≤ 20000 ∧ Hid (GcdAt (Nat.gcd x.natAbs y.natAbs) wr p5 n5 c5 p6 n6 c6 gk) ∧ Below W0.heap.size W0 wr)
  case atStart => exact ⟨_,_,_,_,_,_,rfl,rfl,hn1,hn2,⟨_,H10.out.2,H20.out.2,rfl⟩,below_drewN (Below.refl _ _) nq⟩
  case round =>
    obtain ⟨p5,n5,c5,p6,n6,c6,rfl,rfl,hn5,hn6,HG,hb⟩:=hrel
    by_cases h0:n6 = 0
    · have HM:Hid (MagAt wr p5 n5 c5 (Nat.gcd x.natAbs y.natAbs)):=by
        obtain ⟨a,m1,m2,hg⟩:=HG.out
        have hz:gk = 0:=by have:=m2.n;rw [h0] at this;exact magL_nil.1 this.symm
        rw [hz,Nat.gcd_zero_right] at hg
        rw [← hg];exact m1
      subst h0
      have y3:=X3.out.keep hb
      have HB2:=Lib.hid (HB.out.trans (hb.mono HB.out.size));clear hb
      have Y3:=Lib.hid y3
      obtain ⟨k5,k6,f5,f6,l5⟩:=y3
      go_wp2_with fail
      refine bodyPost_ret_by (v:=.agg #[.bool false,.slice p5 n5 c5]) (by simp [results,Tryz.f211,go_sem,k5,k6]) rfl ?_
      exact ⟨_,_,_,_,rfl,⟨by symm;rw [decide_eq_false_iff_not];omega,by rw [Int.natAbs_natCast];exact magSet2 HM.out k5 k6 _ _⟩,(HB2.out.setCell (p:=⟨w.heap.size + 1 + 1,0,none⟩) (by simp;omega) _).setCell (p:=⟨w.heap.size + 1 + 1,1,none⟩) (by simp;omega) _⟩
    · have h06:0 < n6:=by omega
      have hgk:gk ≠ 0:=by
        obtain ⟨a,m1,m2,hg⟩:=HG.out
        intro e
        rw [e] at m2
        have:=m2.n
        rw [magL_zero] at this
        simp at this;omega
      obtain ⟨a,m1,m2,hg⟩:=HG.out
      have hd:=mag_divided p5 p6 n5 c5 n6 c6 a gk wr m1 m2 hn5 hn6 hgk
      have m2':=Lib.hid m2
      have hg2:Nat.gcd gk (a % gk) = Nat.gcd x.natAbs y.natAbs:=by
        rw [← hg,Nat.gcd_comm gk (a % gk),← Nat.gcd_rec,Nat.gcd_comm]
      have HD:=Lib.hid hd;clear hd
      have HG2:=Lib.hid hg2;clear hg2 m1 m2 hg
      have hgp:0 < gk:=by omega
      have hml:=Nat.mod_lt a hgp
      clear h0 hgk
      go_wp2_with fail
      refine (HD.out).mono ?_
      rintro e w4 ⟨pq,nq',cq,pr,nr,cr,rfl,hMq,hMr,hb4⟩
      have hnr:nr ≤ 20000:=by
        have h1:=magL_mono (Nat.le_of_lt hml)
        rw [hMr.n]
        have h2:=m2'.out.n
        omega
      have HM:=Lib.hid hMr;clear hMr hMq
      have HM2:=Lib.hid (m2'.out.below hb4)
      have hbz:=hb.trans (hb4.mono hb.size)
      clear hb hb4
      go_wp2_with fail
      go_roundg (a % gk)
      case rel => exact ⟨_,_,_,_,_,_,rfl,rfl,hn6,hnr,⟨_,HM2.out,HM.out,HG2.out⟩,hbz⟩
      case measure => exact hml
end Go.Proofs.YtbeojahilbglcaaGreatDoor
namespace Lum
open Go Go.RowKit Go.Shelf
open Go.Lib (decDigits itoa)
theorem dl_gcd (x y:Int) (k:Nat) (hx:dl x ≤ k) (hy:dl y ≤ k) (hk:1 ≤ k):dl (Nat.gcd x.natAbs y.natAbs:Nat) ≤ k:=by
  by_cases h:y = 0
  · subst h
    rw [show (0:Int).natAbs = 0 from rfl,Nat.gcd_zero_right]
    exact Nat.le_trans (dl_mono (by omega)) hx
  · refine Nat.le_trans (dl_mono (y:=y) ?_) hy
    rw [Int.natAbs_natCast]
    exact Nat.gcd_le_right _ (by omega)
theorem fdiv_dl (x y:Int) (k:Nat) (hx:dl x ≤ k) (hy:dl y ≤ k) (hy0:y ≠ 0):dl (x.fdiv y) ≤ k + 1:=by
  have h1:(x.fdiv y).natAbs ≤ x.natAbs + 1:=by
    have h:=fdiv_abs x y hy0
    have hd:=Nat.div_le_self x.natAbs y.natAbs
    rw [h]
    generalize x.natAbs / y.natAbs = q at *
    generalize x.natAbs % y.natAbs = r at *
    split
    · split <;> omega
    · omega
  have h2:dl (x.natAbs:Int) ≤ k:=Nat.le_trans (dl_mono (by simp)) hx
  have h3:=dl_add (x.natAbs:Int) 1 k h2 (Nat.le_trans (dl_mono (y:=y) (by omega)) hy)
  exact Nat.le_trans (dl_mono (by omega)) h3
end Lum
namespace Go.Proofs.YtbeojahilbglcaaGreatDoor
open Go.RowKit Go.Shelf Lum
open Go.Lib (decDigits itoa)
attribute [local go_sem] bs_get bs_extract_end bs_extract_from bs_extract bs_append
theorem own_gcd (x y : Int) (w : World) (hx : dl x ≤ 4096) (hy : dl y ≤ 4096) (env : Env w) :
    Calls Tryz.prog 182 #[.string ⟨(itoa x).toArray⟩,.string ⟨(itoa y).toArray⟩] w fun e w' => e = .returned (.tuple #[.string ⟨(decDigits (Nat.gcd x.natAbs y.natAbs)).toArray⟩,.int .i64 0]) ∧ Below w.heap.size w w':=by
  have hg:=dl_gcd x y 4096 hx hy (by omega)
  have hb := own_binary 211 x y (Nat.gcd x.natAbs y.natAbs : Nat) w hx hy (by omega) env (enters_of Tryz.func211 (by kernel_rfl) rfl)
    (fun W b1 b2 p1 p2 n1 c1 n2 c2 h1 h2 l1 l2 => num_gcd b1 b2 p1 p2 n1 c1 n2 c2 x y W h1 h2 (by omega) (by omega))
  have e:wrT (Nat.gcd x.natAbs y.natAbs:Nat) = (decDigits (Nat.gcd x.natAbs y.natAbs),0):=by
    unfold wrT
    rw [if_neg (by omega),itoa_nat]
  rw [e] at hb
  have HB:=Lib.hid hb;clear hb e
  go_enter Tryz.func182,Tryz.ntmps182
  go_wp2_with fail
  refine (HB.out).mono ?_
  rintro e w' ⟨rfl,hb⟩
  go_wp2
  go_ret2
  exact ⟨rfl,hb⟩
theorem own_split (x y : Int) (w : World) (hx : dl x ≤ 4096) (hy : dl y ≤ 4096) (hy0 : y ≠ 0) :
    Calls Tryz.prog 213 #[.string ⟨(itoa x).toArray⟩,.string ⟨(itoa y).toArray⟩] w fun e w' => ∃ b1 p1 n1 c1 b2 p2 n2 c2,e = .returned (.tuple #[.agg #[.bool b1,.slice p1 n1 c1],.agg #[.bool b2,.slice p2 n2 c2],.int .i64 0]) ∧ NumAt w' b1 p1 n1 c1 (x.fdiv y) ∧ NumAt w' b2 p2 n2 c2 (x.fmod y) ∧ Below w.heap.size w w':=by
  have hp:=fun W => own_pair x y W hx hy
  have HP:=Lib.hid hp;clear hp
  have HX:=Lib.hid hx;clear hx
  have HY:=Lib.hid hy;clear hy
  have HY0:=Lib.hid hy0;clear hy0
  have hB:=((Below.refl w.heap.size w).alloc (Nat.le_refl _) (.cells #[.bool false,.slice none 0 0] 245)).alloc (by simp) (.cells #[.bool false,.slice none 0 0] 245)
  have x1:=(NBox.new w 245 false none 0 0).alloc (.cells #[.bool false,.slice none 0 0] 245)
  have x2:=NBox.new (w.alloc (.cells #[.bool false,.slice none 0 0] 245)) 245 false none 0 0
  rw [World.size_alloc] at x2
  generalize itoa x = tx at *
  generalize itoa y = ty at *
  go_enter Tryz.func213,Tryz.ntmps213
  go_wp2_with fail
  generalize (w.alloc (.cells #[.bool false,.slice none 0 0] 245)).alloc (.cells #[.bool false,.slice none 0 0] 245) = W0 at *
  refine (HP.out _).mono ?_
  rintro e w1 ⟨b1,p1,n1,c1,b2,p2,n2,c2,rfl,hN1,hN2,hb1⟩
  have hn2:((n2:Int) == 0) = false:=by rw [beq_eq_false_iff_ne];have h1:=hN2.zero;have h2:=HY0.out;omega
  have hb2:=((Below.refl w1.heap.size w1).alloc (Nat.le_refl _) (.cells #[.bool b1,.slice p1 n1 c1] 245)).alloc (by simp) (.cells #[.bool b2,.slice p2 n2 c2] 245)
  have X1:=Lib.hid ((x1.keep hb1).keep hb2)
  have X2:=Lib.hid ((x2.keep hb1).keep hb2)
  have hq:=num_quotient b1 b2 p1 p2 n1 c1 n2 c2 x y _ (hN1.below hb2) (hN2.below hb2) (hN1.words (k:=20000) (by have:=HX.out;omega) (by omega)) (hN2.words (k:=20000) (by have:=HY.out;omega) (by omega)) HY0.out
  have HQ:=Lib.hid hq;clear hq hN1 hN2
  have HB:=Lib.hid (bch' (bch' hB hb1) hb2);clear hB hb1 hb2 x1 x2
  go_wp2_with fail
  refine (HQ.out).mono ?_
  rintro e w4 ⟨bq,pq,nq,cq,br,pr,nr,cr,rfl,hNq,hNr,hb4⟩
  have hb5:=(hb4.alloc hb4.size (.cells #[.bool bq,.slice pq nq cq] 245)).alloc (Nat.le_trans hb4.size (by simp)) (.cells #[.bool br,.slice pr nr cr] 245)
  have hb6:=((Below.refl w4.heap.size w4).alloc (Nat.le_refl _) (.cells #[.bool bq,.slice pq nq cq] 245)).alloc (by simp) (.cells #[.bool br,.slice pr nr cr] 245)
  have y1:=X1.out.keep hb5
  have y2:=X2.out.keep hb5
  have z1:=(NBox.new w4 245 bq pq nq cq).alloc (.cells #[.bool br,.slice pr nr cr] 245)
  have z2:=NBox.new (w4.alloc (.cells #[.bool bq,.slice pq nq cq] 245)) 245 br pr nr cr
  rw [World.size_alloc] at z2
  have HNQ:=Lib.hid (hNq.below hb6);clear hNq
  have HNR:=Lib.hid (hNr.below hb6);clear hNr hb6
  have HB5:=Lib.hid (bch' HB.out hb5)
  have hlt1:w.heap.size + 1 < w4.heap.size:=Nat.lt_of_lt_of_le X2.out.lt hb4.size
  clear hb4 hb5
  go_wp2_with fail
  generalize (w4.alloc (.cells #[.bool bq,.slice pq nq cq] 245)).alloc (.cells #[.bool br,.slice pr nr cr] 245) = W6 at *
  have Y1:=Lib.hid (y1.keep (Below.refl _ W6).drew)
  have Y2:=Lib.hid (y2.keep (Below.refl _ W6).drew)
  obtain ⟨k1,k2,f1,f2,l1⟩:=y1
  obtain ⟨k3,k4,f3,f4,l3⟩:=y2
  obtain ⟨k5,k6,f5,f6,l5⟩:=z1
  obtain ⟨k7,k8,f7,f8,l7⟩:=z2
  go_region
  all_goals go_wp2
  all_goals
    refine bodyPost_ret_by (v:=.tuple #[.agg #[.bool bq,.slice pq nq cq],.agg #[.bool br,.slice pr nr cr],.int .i64 0]) (by simp [results,Tryz.f213,go_sem,k1,k2,k3,k4]) rfl ?_
    have hz1:=HNQ.out.1
    have hz2:=HNR.out.1
    obtain ⟨a1,a2,a3⟩:=quot_post (w:=w) (q:=x.fdiv y) (r:=x.fmod y) HB5.out.drew Y1.out Y2.out (by omega) (Nat.le_refl _) (by omega) (HNQ.out.2.below (Below.refl _ W6).drew) (HNR.out.2.below (Below.refl _ W6).drew) bq br (by rw [hz1];simp) (by rw [hz2];simp)
    exact ⟨_,_,_,_,_,_,_,_,rfl,a1,a2,a3⟩
theorem own_quo (x y : Int) (w : World) (hx : dl x ≤ 4096) (hy : dl y ≤ 4096) (hy0 : y ≠ 0) (env : Env w) :
    Calls Tryz.prog 184 #[.string ⟨(itoa x).toArray⟩,.string ⟨(itoa y).toArray⟩] w fun e w' => e = .returned (.tuple #[.string ⟨(wrT (x.fdiv y)).1.toArray⟩,.int .i64 (wrT (x.fdiv y)).2]) ∧ Below w.heap.size w w':=by
  have hs:=own_split x y w hx hy hy0
  have HS:=Lib.hid hs;clear hs
  have hd:=fdiv_dl x y 4096 hx hy hy0
  have HD:=Lib.hid hd;clear hd hx hy hy0
  generalize itoa x = tx at *
  generalize itoa y = ty at *
  go_enter Tryz.func184,Tryz.ntmps184
  go_wp2_with fail
  refine (HS.out).mono ?_
  rintro e w1 ⟨b1,p1,n1,c1,b2,p2,n2,c2,rfl,hN1,hN2,hb1⟩
  have hb2:=((Below.refl w1.heap.size w1).alloc (Nat.le_refl _) (.cells #[.bool b1,.slice p1 n1 c1] 245)).alloc (by simp) (.cells #[.bool b2,.slice p2 n2 c2] 245)
  have HB:=Lib.hid (bch' hb1 hb2)
  have hw:=own_write b1 p1 n1 c1 _ _ (hN1.below hb2) (hN1.words (Nat.le_trans HD.out (by omega)) (by omega)) (env.below HB.out)
  have HW:=Lib.hid hw;clear hw hN1 hN2 hb1 hb2
  go_wp2_with fail
  refine (HW.out).mono ?_
  rintro e w5 ⟨rfl,hb5⟩
  go_wp2
  go_ret2
  exact ⟨rfl,bch' HB.out hb5⟩
end Go.Proofs.YtbeojahilbglcaaGreatDoor
namespace Go.Proofs.YtbeojahilbglcaaGreatDoor
open Go.RowKit Go.Shelf Lum
open Go.Lib (decDigits itoa)
attribute [local go_sem] bs_get bs_extract_end bs_extract_from bs_extract bs_append
theorem own_compare (x y : Int) (w : World) (hx : dl x ≤ 4096) (hy : dl y ≤ 4096) :
    Calls Tryz.prog 200 #[.string ⟨(itoa x).toArray⟩,.string ⟨(itoa y).toArray⟩] w fun e w' => e = .returned (.tuple #[.int .i64 (cmpZ x y),.int .i64 0]) ∧ Below w.heap.size w w':=by
  have hs:=own_pair x y w hx hy
  have HS:=Lib.hid hs;clear hs
  have HX:=Lib.hid hx;clear hx
  have HY:=Lib.hid hy;clear hy
  have hcz : sgnZ (x + -y) = cmpZ x y := by unfold sgnZ cmpZ; repeat' split
                                            all_goals omega
  have HCZ:=Lib.hid hcz;clear hcz
  generalize itoa x = tx at *
  generalize itoa y = ty at *
  go_enter Tryz.func200,Tryz.ntmps200
  go_wp2_with fail
  refine (HS.out).mono ?_
  rintro e w1 ⟨b1,p1,n1,c1,b2,p2,n2,c2,rfl,hN1,hN2,hb1⟩
  have hn1:n1 ≤ 5000:=hN1.words (by have:=HX.out;omega) (by omega)
  have hn2:n2 ≤ 5000:=hN2.words (by have:=HY.out;omega) (by omega)
  have hb2:=((Below.refl w1.heap.size w1).alloc (Nat.le_refl _) (.cells #[.bool b1,.slice p1 n1 c1] 245)).alloc (by simp) (.cells #[.bool b2,.slice p2 n2 c2] 245)
  have hb3:=(hb2.drew)
  have x1:=(NBox.new w1 245 b1 p1 n1 c1).alloc (.cells #[.bool b2,.slice p2 n2 c2] 245)
  have x2:=NBox.new (w1.alloc (.cells #[.bool b1,.slice p1 n1 c1] 245)) 245 b2 p2 n2 c2
  rw [World.size_alloc] at x2
  go_wp2_with fail
  generalize (w1.alloc (.cells #[.bool b1,.slice p1 n1 c1] 245)).alloc (.cells #[.bool b2,.slice p2 n2 c2] 245) = W0 at *
  obtain ⟨k1,k2,f1,f2,l1⟩:=x1
  obtain ⟨k3,k4,f3,f4,l3⟩:=x2
  have H1:=Lib.hid hN1;clear hN1
  have H2:=Lib.hid hN2;clear hN2
  have hn:=num_negative b2 p2 n2 c2 y W0.drew (H2.out.below hb3)
  have HN:=Lib.hid hn;clear hn
  have hS0:Below w1.heap.size w1 W0.drew ∧ W0.drew.cell? ⟨w1.heap.size,0,none⟩ = some (.bool b1) ∧ W0.drew.cell? ⟨w1.heap.size,1,none⟩ = some (.slice p1 n1 c1) ∧ W0.drew.cell? ⟨w1.heap.size + 1,0,none⟩ = some (.bool b2) ∧ W0.drew.cell? ⟨w1.heap.size + 1,1,none⟩ = some (.slice p2 n2 c2):=⟨hb3,k1,k2,k3,k4⟩
  have HS0:=Lib.hid hS0
  have HB:=Lib.hid (bch' hb1 hb3)
  clear hS0 hb1 hb2 hb3
  go_region_held3 (fun W' => Below w1.heap.size w1 W' ∧ W'.cell? ⟨w1.heap.size,0,none⟩ = some (.bool b1) ∧ W'.cell? ⟨w1.heap.size,1,none⟩ = some (.slice p1 n1 c1) ∧ W'.cell? ⟨w1.heap.size + 1,0,none⟩ = some (.bool b2) ∧ W'.cell? ⟨w1.heap.size + 1,1,none⟩ = some (.slice p2 n2 c2)) (first | exact HS0.out | exact keepD (by assumption) (by assumption)) (first | (go_at_call 210;refine (HN.out).mono ?_;rintro e w4 ⟨b4,p4,n4,c4,rfl,hM4,hb4⟩;have HM4:=Lib.hid hM4;clear hM4) | (go_at_call 208;refine (num_sum _ _ _ _ _ _ _ _ x (-y) _ (H1.out.below (And.left (by assumption))) HM4.out (by omega) (by rw [HM4.out.2.n,Int.natAbs_neg,← H2.out.2.n];omega)).mono ?_;rintro e w5 ⟨b5,p5,n5,c5,rfl,hM5,hb5⟩;have HM5:=Lib.hid hM5;clear hM5) | (go_at_call 222;refine (num_sign _ _ _ _ _ _ HM5.out).mono ?_;rintro e w6 ⟨rfl,hb6⟩))
  all_goals
    go_wp2
    go_ret2
    exact ⟨by rw [← HCZ.out];rfl,bch' (bch' (bch' HB.out hb4) hb5) hb6⟩
end Go.Proofs.YtbeojahilbglcaaGreatDoor

/- A part of the proof of EffectAdds: contracts of functions, and plain facts. -/
import Derived.Test.YtbeojahilbglcaaGreatDoorQdYx
import Derived.Test.YtbeojahilbglcaaGreatDoorQdYc
import Derived.Test.YtbeojahilbglcaaGreatDoorQdYd
import Derived.Test.YtbeojahilbglcaaGreatDoorQdKe
import Derived.Test.YtbeojahilbglcaaGreatDoorQdInR
import Derived.Deep.RegionHeld3
import Derived.Deep.DeepCutAuto
import Derived.Deep.Cut
set_option maxRecDepth 100000
set_option maxHeartbeats 8000000
set_option linter.unusedVariables false
set_option linter.unusedSimpArgs false
namespace Lum
open Go Go.RowKit Go.Shelf
open Go.Lib (decDigits itoa)
def Blks (W:World) (l:List (Nat × TypeId × Array Value)):Prop:=∀ b ∈ l,Blk W b.1 b.2.1 b.2.2
theorem blks_own (l:List (Nat × TypeId × Array Value)) {α:Type}:Own (fun (_:α) (W:World) => Blks W l):=by
  intro s X Y row h hg hr b hb
  exact blk_own b.1 b.2.1 (fun _:Unit => b.2.2) () X Y row (h b hb) hg hr
theorem mem_found {cs:List Int} {ch:Int} {k:Nat} (hk:k < cs.length) (h:inI cs k = ch) (hb:∀ j,j < k → inI cs j ≠ ch):memI cs ch = (k:Int):=by
  unfold memI
  have g:∀ j (hj:j < cs.length),cs[j]'hj = inI cs j:=fun j hj => by unfold inI;rw [List.getElem?_eq_getElem hj];rfl
  exact ixOf_at hk (by rw [g k hk];simpa using h) (fun j hj => by rw [g j (by omega)];simpa using hb j hj)
theorem mem_none {cs:List Int} {ch:Int} (hb:∀ j,j < cs.length → inI cs j ≠ ch):memI cs ch = -1:=by
  unfold memI
  have g:∀ j (hj:j < cs.length),cs[j]'hj = inI cs j:=fun j hj => by unfold inI;rw [List.getElem?_eq_getElem hj];rfl
  exact ixOf_no fun j hj => by rw [g j hj];simpa using hb j hj
def tolT (L:List Efx) (x:Rnx) (t ch a:Int):Txt × Int:=if moE x.ce x.cr x.cd x.cl t = 0 then (showR (toldQ L x t ch a),0) else ([],moE x.ce x.cr x.cd x.cl t)
theorem toldQ_not {L:List Efx} {x:Rnx} {t ch a:Int} (h:∀ j,j < L.length → keyAt (·.nu) L j ≠ x.ef):toldQ L x t ch a = 0:=toldQ_none (find_miss h)
theorem toldQ_other {L:List Efx} {x:Rnx} {t ch a:Int} {k:Nat} (h:Belongs (keyAt (·.nu) L) L.length x.ef k true) (ha:¬ (L[k]'(h.yes rfl).1).at_ = a):toldQ L x t ch a = 0:=by rw [toldQ_some h.find,if_pos (Or.inr ha)]
theorem toldQ_gone {L:List Efx} {x:Rnx} {t ch a:Int} {k:Nat} (h:Belongs (keyAt (·.nu) L) L.length x.ef k true) (hm:memI x.cs ch = -1):toldQ L x t ch a = 0:=by rw [toldQ_some h.find,if_pos (Or.inl (by omega))]
theorem toldQ_here {L:List Efx} {x:Rnx} {t ch a:Int} {k i:Nat} (h:Belongs (keyAt (·.nu) L) L.length x.ef k true) (ha:(L[k]'(h.yes rfl).1).at_ = a) (hm:memI x.cs ch = (i:Int)):toldQ L x t ch a = offQ (L[k]'(h.yes rfl).1) i x.cs.length (shZ x.ce x.cr x.cd x.cl t):=by
  rw [toldQ_some h.find,if_neg (by rw [hm];intro e;rcases e with e | e;omega;exact e ha),hm]
end Lum
namespace Go.Proofs.YtbeojahilbglcaaGreatDoor
open Go.RowKit Go.Shelf Lum
open Go.Lib (decDigits itoa)
attribute [local go_sem] Oper.semAt_some bs_get bs_extract_end bs_extract_from bs_extract bs_append
theorem own_told_clk (L : List (Efx × Sl3)) (pp : Option Addr) (cc : Nat) (ef ce cr cd cl t ch at_ : Int) (cs : List Int) (p : Option Addr) (c : Nat) (w : World) (hR : RowX encE 6 w pp L) (hH : HasW w L) (hok : OrdOk efE (·.nu) (L.map (·.1))) (hv : IntsAt w (.slice p cs.length c) cs) (hx : RnOk ⟨ef, cs, ce, cr, cd, cl⟩) (hz : ¬ moE ce cr cd cl t = 0) :
    Calls Tryz.prog 48 #[.slice pp L.length cc,.agg #[.int .i64 ef,.slice p cs.length c,.int .i64 ce,.int .i64 cr,.int .i64 cd,.int .i64 cl],.int .i64 t,.agg #[.int .i64 ch,.int .i64 at_]] w fun e w' => e = .returned (.tuple #[.string ⟨([]).toArray⟩,.int .i64 (moE ce cr cd cl t)]) ∧ Below w.heap.size w w':=by
  have hat:=fun W => own_clk_at ce cr cd cl t W
  rw [if_neg hz] at hat
  have hne:((moE ce cr cd cl t:Int) != 0) = true:=by simpa using hz
  clear hz hok hH hx
  generalize moE ce cr cd cl t = m at *
  have HAT:=Lib.hid hat;clear hat
  have H4:=Blk.new w 43 #[.slice pp L.length cc]
  have hB0:=(Below.refl w.heap.size w).alloc (Nat.le_refl _) (.cells #[.slice pp L.length cc] 43)
  have H5:=Blk.new (w.alloc (.cells #[.slice pp L.length cc] 43)) 68 #[.int .i64 ef,.slice p cs.length c,.int .i64 ce,.int .i64 cr,.int .i64 cd,.int .i64 cl]
  replace H4:=H4.alloc (.cells #[.int .i64 ef,.slice p cs.length c,.int .i64 ce,.int .i64 cr,.int .i64 cd,.int .i64 cl] 68)
  replace hB0:=hB0.alloc hB0.size (.cells #[.int .i64 ef,.slice p cs.length c,.int .i64 ce,.int .i64 cr,.int .i64 cd,.int .i64 cl] 68)
  have H7:=Blk.new ((w.alloc (.cells #[.slice pp L.length cc] 43)).alloc (.cells #[.int .i64 ef,.slice p cs.length c,.int .i64 ce,.int .i64 cr,.int .i64 cd,.int .i64 cl] 68)) 45 #[.int .i64 ch,.int .i64 at_]
  replace H4:=H4.alloc (.cells #[.int .i64 ch,.int .i64 at_] 45)
  replace H5:=H5.alloc (.cells #[.int .i64 ch,.int .i64 at_] 45)
  replace hB0:=hB0.alloc hB0.size (.cells #[.int .i64 ch,.int .i64 at_] 45)
  have H8:=Blk.new (((w.alloc (.cells #[.slice pp L.length cc] 43)).alloc (.cells #[.int .i64 ef,.slice p cs.length c,.int .i64 ce,.int .i64 cr,.int .i64 cd,.int .i64 cl] 68)).alloc (.cells #[.int .i64 ch,.int .i64 at_] 45)) 48 #[.string ⟨#[]⟩]
  replace H4:=H4.alloc (.cells #[.string ⟨#[]⟩] 48)
  replace H5:=H5.alloc (.cells #[.string ⟨#[]⟩] 48)
  replace H7:=H7.alloc (.cells #[.string ⟨#[]⟩] 48)
  replace hB0:=hB0.alloc hB0.size (.cells #[.string ⟨#[]⟩] 48)
  have H9:=Blk.new ((((w.alloc (.cells #[.slice pp L.length cc] 43)).alloc (.cells #[.int .i64 ef,.slice p cs.length c,.int .i64 ce,.int .i64 cr,.int .i64 cd,.int .i64 cl] 68)).alloc (.cells #[.int .i64 ch,.int .i64 at_] 45)).alloc (.cells #[.string ⟨#[]⟩] 48)) 28 #[.int .i64 0]
  replace H4:=H4.alloc (.cells #[.int .i64 0] 28)
  replace H5:=H5.alloc (.cells #[.int .i64 0] 28)
  replace H7:=H7.alloc (.cells #[.int .i64 0] 28)
  replace H8:=H8.alloc (.cells #[.int .i64 0] 28)
  replace hB0:=hB0.alloc hB0.size (.cells #[.int .i64 0] 28)
  simp only [World.size_alloc] at H5 H7 H8 H9
  have HB:=Lib.hid hB0
  have HV:=Lib.hid (IntsAt.below hv hB0);have HR:=Lib.hid (RowX.kept hR hB0);clear hB0
  replace H4:=Lib.hid H4
  replace H5:=Lib.hid H5
  replace H7:=Lib.hid H7
  replace H8:=Lib.hid H8
  replace H9:=Lib.hid H9
  obtain ⟨a0,af0⟩:=H4.out.c1
  obtain ⟨r0,r1,r2,r3,r4,r5,rf0,rf1,rf2,rf3,rf4,rf5⟩:=H5.out.c6
  obtain ⟨q0,q1,qf0,qf1⟩:=H7.out.c2
  obtain ⟨s0,sf0⟩:=H8.out.c1
  obtain ⟨t0,tf0⟩:=H9.out.c1
  clear hR hv
  go_enter Tryz.func48,Tryz.ntmps48
  go_upto_region 2 with (first | (with_reducible refine ((HAT.out _).mono ?_);rintro e w' ⟨rfl,hb⟩;replace H4:=Lib.hid (H4.out.keep hb);clear a0 af0;replace H5:=Lib.hid (H5.out.keep hb);clear r0 r1 r2 r3 r4 r5 rf0 rf1 rf2 rf3 rf4 rf5;replace H7:=Lib.hid (H7.out.keep hb);clear q0 q1 qf0 qf1;replace H8:=Lib.hid (H8.out.keep hb);clear s0 sf0;replace H9:=Lib.hid (H9.out.keep hb);clear t0 tf0;replace HV:=Lib.hid (IntsAt.below HV.out hb);replace HR:=Lib.hid (RowX.kept HR.out hb);replace HB:=Lib.hid (bch' HB.out hb);clear hb;obtain ⟨a0,af0⟩:=H4.out.c1;obtain ⟨r0,r1,r2,r3,r4,r5,rf0,rf1,rf2,rf3,rf4,rf5⟩:=H5.out.c6;obtain ⟨q0,q1,qf0,qf1⟩:=H7.out.c2;obtain ⟨s0,sf0⟩:=H8.out.c1;obtain ⟨t0,tf0⟩:=H9.out.c1))
  have hb:=(Below.refl w'.heap.size w').alloc (Nat.le_refl _) (.cells #[.int .i64 0] 3)
  have HN:=Lib.hid (Blk.new w' 3 #[.int .i64 0])
  have hsHN:w.heap.size + 4 < w'.heap.size:=by have:=H9.out.lt;omega
  obtain ⟨nHN,hnHN⟩:∃ n,n = w'.heap.size:=⟨_,rfl⟩
  obtain ⟨W1,hWHN⟩:∃ X,X = w'.alloc (.cells #[.int .i64 0] 3):=⟨_,rfl⟩
  rw [← hnHN] at HN hsHN ⊢
  rw [← hWHN] at hb HN ⊢
  replace H4:=Lib.hid (H4.out.keep hb);clear a0 af0;replace H5:=Lib.hid (H5.out.keep hb);clear r0 r1 r2 r3 r4 r5 rf0 rf1 rf2 rf3 rf4 rf5;replace H7:=Lib.hid (H7.out.keep hb);clear q0 q1 qf0 qf1;replace H8:=Lib.hid (H8.out.keep hb);clear s0 sf0;replace H9:=Lib.hid (H9.out.keep hb);clear t0 tf0;replace HV:=Lib.hid (IntsAt.below HV.out hb);replace HR:=Lib.hid (RowX.kept HR.out hb);replace HB:=Lib.hid (bch' HB.out hb);clear hb;obtain ⟨a0,af0⟩:=H4.out.c1;obtain ⟨r0,r1,r2,r3,r4,r5,rf0,rf1,rf2,rf3,rf4,rf5⟩:=H5.out.c6;obtain ⟨q0,q1,qf0,qf1⟩:=H7.out.c2;obtain ⟨s0,sf0⟩:=H8.out.c1;obtain ⟨t0,tf0⟩:=H9.out.c1
  clear hWHN hnHN
  obtain ⟨n0,nf0⟩:=HN.out.c1
  go_wp2_with fail
  refine bodyPost_ret_by (v:=.tuple #[.string ⟨([]).toArray⟩,.int .i64 m]) (by simp [results,Tryz.f48,go_sem,s0,sf0,t0,tf0]) rfl ⟨rfl,?_⟩
  exact (HB.out.setCell (p:=⟨w.heap.size + 1 + 1 + 1,0,none⟩) (by simp;try omega) _).setCell (p:=⟨w.heap.size + 1 + 1 + 1 + 1,0,none⟩) (by simp;try omega) _
theorem own_told_no (L : List (Efx × Sl3)) (pp : Option Addr) (cc : Nat) (ef ce cr cd cl t ch at_ : Int) (cs : List Int) (p : Option Addr) (c : Nat) (w : World) (hR : RowX encE 6 w pp L) (hH : HasW w L) (hok : OrdOk efE (·.nu) (L.map (·.1))) (hv : IntsAt w (.slice p cs.length c) cs) (hx : RnOk ⟨ef, cs, ce, cr, cd, cl⟩) (hz : moE ce cr cd cl t = 0) (hno : ∀ j, j < (L.map (·.1)).length → keyAt (·.nu) (L.map (·.1)) j ≠ ef) :
    Calls Tryz.prog 48 #[.slice pp L.length cc,.agg #[.int .i64 ef,.slice p cs.length c,.int .i64 ce,.int .i64 cr,.int .i64 cd,.int .i64 cl],.int .i64 t,.agg #[.int .i64 ch,.int .i64 at_]] w fun e w' => e = .returned (.tuple #[.string ⟨([48]).toArray⟩,.int .i64 0]) ∧ Below w.heap.size w w':=by
  have hat:=fun W => own_clk_at ce cr cd cl t W
  rw [if_pos hz,hz] at hat
  generalize hsh:shZ ce cr cd cl t = sh at *
  have hef:=hx.ef
  have hfi:=fun W (h:RowX encE 6 W pp L) => own_find_eff_no ef (L.map (·.1)) L pp cc W rfl h hok (by show _ ≤ (Rnx.ef ⟨ef,cs,ce,cr,cd,cl⟩);omega) (by show (Rnx.ef ⟨ef,cs,ce,cr,cd,cl⟩) ≤ _;omega) hno
  clear hok hH hx hz hsh hno hef
  have HAT:=Lib.hid hat;clear hat
  have HFI:=Lib.hid hfi;clear hfi
  have H4:=Blk.new w 43 #[.slice pp L.length cc]
  have hB0:=(Below.refl w.heap.size w).alloc (Nat.le_refl _) (.cells #[.slice pp L.length cc] 43)
  have H5:=Blk.new (w.alloc (.cells #[.slice pp L.length cc] 43)) 68 #[.int .i64 ef,.slice p cs.length c,.int .i64 ce,.int .i64 cr,.int .i64 cd,.int .i64 cl]
  replace H4:=H4.alloc (.cells #[.int .i64 ef,.slice p cs.length c,.int .i64 ce,.int .i64 cr,.int .i64 cd,.int .i64 cl] 68)
  replace hB0:=hB0.alloc hB0.size (.cells #[.int .i64 ef,.slice p cs.length c,.int .i64 ce,.int .i64 cr,.int .i64 cd,.int .i64 cl] 68)
  have H7:=Blk.new ((w.alloc (.cells #[.slice pp L.length cc] 43)).alloc (.cells #[.int .i64 ef,.slice p cs.length c,.int .i64 ce,.int .i64 cr,.int .i64 cd,.int .i64 cl] 68)) 45 #[.int .i64 ch,.int .i64 at_]
  replace H4:=H4.alloc (.cells #[.int .i64 ch,.int .i64 at_] 45)
  replace H5:=H5.alloc (.cells #[.int .i64 ch,.int .i64 at_] 45)
  replace hB0:=hB0.alloc hB0.size (.cells #[.int .i64 ch,.int .i64 at_] 45)
  have H8:=Blk.new (((w.alloc (.cells #[.slice pp L.length cc] 43)).alloc (.cells #[.int .i64 ef,.slice p cs.length c,.int .i64 ce,.int .i64 cr,.int .i64 cd,.int .i64 cl] 68)).alloc (.cells #[.int .i64 ch,.int .i64 at_] 45)) 48 #[.string ⟨#[]⟩]
  replace H4:=H4.alloc (.cells #[.string ⟨#[]⟩] 48)
  replace H5:=H5.alloc (.cells #[.string ⟨#[]⟩] 48)
  replace H7:=H7.alloc (.cells #[.string ⟨#[]⟩] 48)
  replace hB0:=hB0.alloc hB0.size (.cells #[.string ⟨#[]⟩] 48)
  have H9:=Blk.new ((((w.alloc (.cells #[.slice pp L.length cc] 43)).alloc (.cells #[.int .i64 ef,.slice p cs.length c,.int .i64 ce,.int .i64 cr,.int .i64 cd,.int .i64 cl] 68)).alloc (.cells #[.int .i64 ch,.int .i64 at_] 45)).alloc (.cells #[.string ⟨#[]⟩] 48)) 28 #[.int .i64 0]
  replace H4:=H4.alloc (.cells #[.int .i64 0] 28)
  replace H5:=H5.alloc (.cells #[.int .i64 0] 28)
  replace H7:=H7.alloc (.cells #[.int .i64 0] 28)
  replace H8:=H8.alloc (.cells #[.int .i64 0] 28)
  replace hB0:=hB0.alloc hB0.size (.cells #[.int .i64 0] 28)
  simp only [World.size_alloc] at H5 H7 H8 H9
  have HB:=Lib.hid hB0
  have HV:=Lib.hid (IntsAt.below hv hB0);have HR:=Lib.hid (RowX.kept hR hB0);clear hB0
  replace H4:=Lib.hid H4
  replace H5:=Lib.hid H5
  replace H7:=Lib.hid H7
  replace H8:=Lib.hid H8
  replace H9:=Lib.hid H9
  obtain ⟨a0,af0⟩:=H4.out.c1
  obtain ⟨r0,r1,r2,r3,r4,r5,rf0,rf1,rf2,rf3,rf4,rf5⟩:=H5.out.c6
  obtain ⟨q0,q1,qf0,qf1⟩:=H7.out.c2
  obtain ⟨s0,sf0⟩:=H8.out.c1
  obtain ⟨t0,tf0⟩:=H9.out.c1
  clear hR hv
  go_enter Tryz.func48,Tryz.ntmps48
  go_upto_region 2 with (first | (with_reducible refine ((HAT.out _).mono ?_);rintro e w' ⟨rfl,hb⟩;replace H4:=Lib.hid (H4.out.keep hb);clear a0 af0;replace H5:=Lib.hid (H5.out.keep hb);clear r0 r1 r2 r3 r4 r5 rf0 rf1 rf2 rf3 rf4 rf5;replace H7:=Lib.hid (H7.out.keep hb);clear q0 q1 qf0 qf1;replace H8:=Lib.hid (H8.out.keep hb);clear s0 sf0;replace H9:=Lib.hid (H9.out.keep hb);clear t0 tf0;replace HV:=Lib.hid (IntsAt.below HV.out hb);replace HR:=Lib.hid (RowX.kept HR.out hb);replace HB:=Lib.hid (bch' HB.out hb);clear hb;obtain ⟨a0,af0⟩:=H4.out.c1;obtain ⟨r0,r1,r2,r3,r4,r5,rf0,rf1,rf2,rf3,rf4,rf5⟩:=H5.out.c6;obtain ⟨q0,q1,qf0,qf1⟩:=H7.out.c2;obtain ⟨s0,sf0⟩:=H8.out.c1;obtain ⟨t0,tf0⟩:=H9.out.c1))
  have hb:=(Below.refl w'.heap.size w').alloc (Nat.le_refl _) (.cells #[.int .i64 sh] 3)
  have HN:=Lib.hid (Blk.new w' 3 #[.int .i64 sh])
  have hsHN:w.heap.size + 4 < w'.heap.size:=by have:=H9.out.lt;omega
  obtain ⟨nHN,hnHN⟩:∃ n,n = w'.heap.size:=⟨_,rfl⟩
  obtain ⟨W1,hWHN⟩:∃ X,X = w'.alloc (.cells #[.int .i64 sh] 3):=⟨_,rfl⟩
  rw [← hnHN] at HN hsHN ⊢
  rw [← hWHN] at hb HN ⊢
  replace H4:=Lib.hid (H4.out.keep hb);clear a0 af0;replace H5:=Lib.hid (H5.out.keep hb);clear r0 r1 r2 r3 r4 r5 rf0 rf1 rf2 rf3 rf4 rf5;replace H7:=Lib.hid (H7.out.keep hb);clear q0 q1 qf0 qf1;replace H8:=Lib.hid (H8.out.keep hb);clear s0 sf0;replace H9:=Lib.hid (H9.out.keep hb);clear t0 tf0;replace HV:=Lib.hid (IntsAt.below HV.out hb);replace HR:=Lib.hid (RowX.kept HR.out hb);replace HB:=Lib.hid (bch' HB.out hb);clear hb;obtain ⟨a0,af0⟩:=H4.out.c1;obtain ⟨r0,r1,r2,r3,r4,r5,rf0,rf1,rf2,rf3,rf4,rf5⟩:=H5.out.c6;obtain ⟨q0,q1,qf0,qf1⟩:=H7.out.c2;obtain ⟨s0,sf0⟩:=H8.out.c1;obtain ⟨t0,tf0⟩:=H9.out.c1
  clear hWHN hnHN
  obtain ⟨n0,nf0⟩:=HN.out.c1
  go_upto_region 5 with (first | ((with_reducible refine ((HFI.out _ HR.out).mono ?_));rintro e w2 ⟨i,rfl,hb⟩;replace H4:=Lib.hid (H4.out.keep hb);clear a0 af0;replace H5:=Lib.hid (H5.out.keep hb);clear r0 r1 r2 r3 r4 r5 rf0 rf1 rf2 rf3 rf4 rf5;replace H7:=Lib.hid (H7.out.keep hb);clear q0 q1 qf0 qf1;replace H8:=Lib.hid (H8.out.keep hb);clear s0 sf0;replace H9:=Lib.hid (H9.out.keep hb);clear t0 tf0;replace HN:=Lib.hid (HN.out.keep hb);clear n0 nf0;replace HV:=Lib.hid (IntsAt.below HV.out hb);replace HR:=Lib.hid (RowX.kept HR.out hb);replace HB:=Lib.hid (bch' HB.out hb);clear hb;obtain ⟨a0,af0⟩:=H4.out.c1;obtain ⟨r0,r1,r2,r3,r4,r5,rf0,rf1,rf2,rf3,rf4,rf5⟩:=H5.out.c6;obtain ⟨q0,q1,qf0,qf1⟩:=H7.out.c2;obtain ⟨s0,sf0⟩:=H8.out.c1;obtain ⟨t0,tf0⟩:=H9.out.c1;obtain ⟨n0,nf0⟩:=HN.out.c1))
  have hb:=(Below.refl w2.heap.size w2).alloc (Nat.le_refl _) (.cells #[.int .i64 ((i:Int))] 3)
  have HQ:=Lib.hid (Blk.new w2 3 #[.int .i64 ((i:Int))])
  have hsHQ:w.heap.size + 4 < w2.heap.size:=by have:=H9.out.lt;omega
  obtain ⟨nHQ,hnHQ⟩:∃ n,n = w2.heap.size:=⟨_,rfl⟩
  obtain ⟨W2,hWHQ⟩:∃ X,X = w2.alloc (.cells #[.int .i64 ((i:Int))] 3):=⟨_,rfl⟩
  rw [← hnHQ] at HQ hsHQ ⊢
  rw [← hWHQ] at hb HQ ⊢
  replace H4:=Lib.hid (H4.out.keep hb);clear a0 af0;replace H5:=Lib.hid (H5.out.keep hb);clear r0 r1 r2 r3 r4 r5 rf0 rf1 rf2 rf3 rf4 rf5;replace H7:=Lib.hid (H7.out.keep hb);clear q0 q1 qf0 qf1;replace H8:=Lib.hid (H8.out.keep hb);clear s0 sf0;replace H9:=Lib.hid (H9.out.keep hb);clear t0 tf0;replace HN:=Lib.hid (HN.out.keep hb);clear n0 nf0;replace HV:=Lib.hid (IntsAt.below HV.out hb);replace HR:=Lib.hid (RowX.kept HR.out hb);replace HB:=Lib.hid (bch' HB.out hb);clear hb;obtain ⟨a0,af0⟩:=H4.out.c1;obtain ⟨r0,r1,r2,r3,r4,r5,rf0,rf1,rf2,rf3,rf4,rf5⟩:=H5.out.c6;obtain ⟨q0,q1,qf0,qf1⟩:=H7.out.c2;obtain ⟨s0,sf0⟩:=H8.out.c1;obtain ⟨t0,tf0⟩:=H9.out.c1;obtain ⟨n0,nf0⟩:=HN.out.c1
  clear hWHQ hnHQ
  obtain ⟨z0,zf0⟩:=HQ.out.c1
  refine wp_region_WQ (by kernel_rfl) (by kernel_rfl) ?_
  repeat (refine WQ.step (fun K hK => ?_);go_simp;first | (refine hK.out _ ?_;clear hK K) | (apply Exists.intro;refine ⟨fun _ => ?_,hK.out _ ?_⟩;(first | rfl);clear hK K))
  refine WQ.nil ?_
  intro _ hw'
  obtain ⟨⟨wq,hbq⟩,hw2⟩:=hw'
  subst hw2
  replace H4:=Lib.hid (H4.out.keep hbq)
  replace H5:=Lib.hid (H5.out.keep hbq)
  replace H7:=Lib.hid (H7.out.keep hbq)
  replace H8:=Lib.hid (H8.out.keep hbq)
  replace H9:=Lib.hid (H9.out.keep hbq)
  replace HN:=Lib.hid (HN.out.keep hbq)
  replace HQ:=Lib.hid (HQ.out.keep hbq)
  replace HB:=Lib.hid (bch' HB.out hbq)
  clear a0 af0
  clear r0 r1 r2 r3 r4 r5 rf0 rf1 rf2 rf3 rf4 rf5
  clear q0 q1 qf0 qf1
  clear s0 sf0
  clear t0 tf0
  clear n0 nf0
  clear z0 zf0
  obtain ⟨a0,af0⟩:=H4.out.c1
  obtain ⟨r0,r1,r2,r3,r4,r5,rf0,rf1,rf2,rf3,rf4,rf5⟩:=H5.out.c6
  obtain ⟨q0,q1,qf0,qf1⟩:=H7.out.c2
  obtain ⟨s0,sf0⟩:=H8.out.c1
  obtain ⟨t0,tf0⟩:=H9.out.c1
  obtain ⟨n0,nf0⟩:=HN.out.c1
  obtain ⟨z0,zf0⟩:=HQ.out.c1
  go_wp2_with fail
  refine bodyPost_ret_by (v:=.tuple #[.string ⟨([48]).toArray⟩,.int .i64 0]) (by simp [results,Tryz.f48,go_sem,s0,sf0,t0,tf0]) rfl ⟨rfl,?_⟩
  exact (HB.out.setCell (p:=⟨w.heap.size + 1 + 1 + 1,0,none⟩) (by simp;try omega) _).setCell (p:=⟨w.heap.size + 1 + 1 + 1 + 1,0,none⟩) (by simp;try omega) _
theorem own_told_other (L : List (Efx × Sl3)) (pp : Option Addr) (cc : Nat) (ef ce cr cd cl t ch at_ : Int) (cs : List Int) (p : Option Addr) (c : Nat) (w : World) (hR : RowX encE 6 w pp L) (hH : HasW w L) (hok : OrdOk efE (·.nu) (L.map (·.1))) (hv : IntsAt w (.slice p cs.length c) cs) (hx : RnOk ⟨ef, cs, ce, cr, cd, cl⟩) (hz : moE ce cr cd cl t = 0) (k : Nat) (hb9 : Belongs (keyAt (·.nu) (L.map (·.1))) (L.map (·.1)).length ef k true) (ha : ¬ (L[k]'(by have := (hb9.yes rfl).1; rwa [List.length_map] at this)).1.at_ = at_) :
    Calls Tryz.prog 48 #[.slice pp L.length cc,.agg #[.int .i64 ef,.slice p cs.length c,.int .i64 ce,.int .i64 cr,.int .i64 cd,.int .i64 cl],.int .i64 t,.agg #[.int .i64 ch,.int .i64 at_]] w fun e w' => e = .returned (.tuple #[.string ⟨([48]).toArray⟩,.int .i64 0]) ∧ Below w.heap.size w w':=by
  have hat:=fun W => own_clk_at ce cr cd cl t W
  rw [if_pos hz,hz] at hat
  generalize hsh:shZ ce cr cd cl t = sh at *
  have hef:=hx.ef
  have hkl:=(hb9.yes rfl).1
  rw [List.length_map] at hkl
  have h16:L.length ≤ 16:=by have:=hok.few;rwa [List.length_map] at this
  have hki:(k:Int) < (L.length:Int):=by omega
  have hk0:(0:Int) ≤ (k:Int):=by omega
  have hlo:k * 6 < 9223372036854775807:=by omega
  have hfi:=fun W (h:RowX encE 6 W pp L) => own_find_eff_at ef (L.map (·.1)) L pp cc W rfl h hok hef k true hb9
  obtain ⟨y,hy⟩:∃ y,y = L[k]'hkl:=⟨_,rfl⟩
  obtain ⟨b,o,rfl,hbw,hC⟩:=hR (fun e => by subst e;exact absurd hkl (Nat.not_lt_zero _))
  have hcell:=hC k hkl
  rw [← hy] at hcell ha
  have HBb:=Lib.hid hbw
  have HE1:=Lib.hid (hcell 1 _ rfl)
  have hne:((y.1.at_:Int) != at_) = true:=by simpa using ha
  clear hok hH hx hz hsh hef hb9 hcell hC hy ha hkl h16
  have HAT:=Lib.hid hat;clear hat
  have HFI:=Lib.hid hfi;clear hfi
  have H4:=Blk.new w 43 #[.slice (some ⟨b,o,none⟩) L.length cc]
  have hB0:=(Below.refl w.heap.size w).alloc (Nat.le_refl _) (.cells #[.slice (some ⟨b,o,none⟩) L.length cc] 43)
  have H5:=Blk.new (w.alloc (.cells #[.slice (some ⟨b,o,none⟩) L.length cc] 43)) 68 #[.int .i64 ef,.slice p cs.length c,.int .i64 ce,.int .i64 cr,.int .i64 cd,.int .i64 cl]
  replace H4:=H4.alloc (.cells #[.int .i64 ef,.slice p cs.length c,.int .i64 ce,.int .i64 cr,.int .i64 cd,.int .i64 cl] 68)
  replace hB0:=hB0.alloc hB0.size (.cells #[.int .i64 ef,.slice p cs.length c,.int .i64 ce,.int .i64 cr,.int .i64 cd,.int .i64 cl] 68)
  have H7:=Blk.new ((w.alloc (.cells #[.slice (some ⟨b,o,none⟩) L.length cc] 43)).alloc (.cells #[.int .i64 ef,.slice p cs.length c,.int .i64 ce,.int .i64 cr,.int .i64 cd,.int .i64 cl] 68)) 45 #[.int .i64 ch,.int .i64 at_]
  replace H4:=H4.alloc (.cells #[.int .i64 ch,.int .i64 at_] 45)
  replace H5:=H5.alloc (.cells #[.int .i64 ch,.int .i64 at_] 45)
  replace hB0:=hB0.alloc hB0.size (.cells #[.int .i64 ch,.int .i64 at_] 45)
  have H8:=Blk.new (((w.alloc (.cells #[.slice (some ⟨b,o,none⟩) L.length cc] 43)).alloc (.cells #[.int .i64 ef,.slice p cs.length c,.int .i64 ce,.int .i64 cr,.int .i64 cd,.int .i64 cl] 68)).alloc (.cells #[.int .i64 ch,.int .i64 at_] 45)) 48 #[.string ⟨#[]⟩]
  replace H4:=H4.alloc (.cells #[.string ⟨#[]⟩] 48)
  replace H5:=H5.alloc (.cells #[.string ⟨#[]⟩] 48)
  replace H7:=H7.alloc (.cells #[.string ⟨#[]⟩] 48)
  replace hB0:=hB0.alloc hB0.size (.cells #[.string ⟨#[]⟩] 48)
  have H9:=Blk.new ((((w.alloc (.cells #[.slice (some ⟨b,o,none⟩) L.length cc] 43)).alloc (.cells #[.int .i64 ef,.slice p cs.length c,.int .i64 ce,.int .i64 cr,.int .i64 cd,.int .i64 cl] 68)).alloc (.cells #[.int .i64 ch,.int .i64 at_] 45)).alloc (.cells #[.string ⟨#[]⟩] 48)) 28 #[.int .i64 0]
  replace H4:=H4.alloc (.cells #[.int .i64 0] 28)
  replace H5:=H5.alloc (.cells #[.int .i64 0] 28)
  replace H7:=H7.alloc (.cells #[.int .i64 0] 28)
  replace H8:=H8.alloc (.cells #[.int .i64 0] 28)
  replace hB0:=hB0.alloc hB0.size (.cells #[.int .i64 0] 28)
  simp only [World.size_alloc] at H5 H7 H8 H9
  have HB:=Lib.hid hB0
  have HV:=Lib.hid (IntsAt.below hv hB0);have HR:=Lib.hid (RowX.kept hR hB0);clear hB0
  replace H4:=Lib.hid H4
  replace H5:=Lib.hid H5
  replace H7:=Lib.hid H7
  replace H8:=Lib.hid H8
  replace H9:=Lib.hid H9
  obtain ⟨a0,af0⟩:=H4.out.c1
  obtain ⟨r0,r1,r2,r3,r4,r5,rf0,rf1,rf2,rf3,rf4,rf5⟩:=H5.out.c6
  obtain ⟨q0,q1,qf0,qf1⟩:=H7.out.c2
  obtain ⟨s0,sf0⟩:=H8.out.c1
  obtain ⟨t0,tf0⟩:=H9.out.c1
  clear hR hv
  go_enter Tryz.func48,Tryz.ntmps48
  go_upto_region 2 with (first | (with_reducible refine ((HAT.out _).mono ?_);rintro e w' ⟨rfl,hb⟩;replace H4:=Lib.hid (H4.out.keep hb);clear a0 af0;replace H5:=Lib.hid (H5.out.keep hb);clear r0 r1 r2 r3 r4 r5 rf0 rf1 rf2 rf3 rf4 rf5;replace H7:=Lib.hid (H7.out.keep hb);clear q0 q1 qf0 qf1;replace H8:=Lib.hid (H8.out.keep hb);clear s0 sf0;replace H9:=Lib.hid (H9.out.keep hb);clear t0 tf0;replace HV:=Lib.hid (IntsAt.below HV.out hb);replace HR:=Lib.hid (RowX.kept HR.out hb);replace HB:=Lib.hid (bch' HB.out hb);clear hb;obtain ⟨a0,af0⟩:=H4.out.c1;obtain ⟨r0,r1,r2,r3,r4,r5,rf0,rf1,rf2,rf3,rf4,rf5⟩:=H5.out.c6;obtain ⟨q0,q1,qf0,qf1⟩:=H7.out.c2;obtain ⟨s0,sf0⟩:=H8.out.c1;obtain ⟨t0,tf0⟩:=H9.out.c1))
  have hb:=(Below.refl w'.heap.size w').alloc (Nat.le_refl _) (.cells #[.int .i64 sh] 3)
  have HN:=Lib.hid (Blk.new w' 3 #[.int .i64 sh])
  have hsHN:w.heap.size + 4 < w'.heap.size:=by have:=H9.out.lt;omega
  obtain ⟨nHN,hnHN⟩:∃ n,n = w'.heap.size:=⟨_,rfl⟩
  obtain ⟨W1,hWHN⟩:∃ X,X = w'.alloc (.cells #[.int .i64 sh] 3):=⟨_,rfl⟩
  rw [← hnHN] at HN hsHN ⊢
  rw [← hWHN] at hb HN ⊢
  replace H4:=Lib.hid (H4.out.keep hb);clear a0 af0;replace H5:=Lib.hid (H5.out.keep hb);clear r0 r1 r2 r3 r4 r5 rf0 rf1 rf2 rf3 rf4 rf5;replace H7:=Lib.hid (H7.out.keep hb);clear q0 q1 qf0 qf1;replace H8:=Lib.hid (H8.out.keep hb);clear s0 sf0;replace H9:=Lib.hid (H9.out.keep hb);clear t0 tf0;replace HV:=Lib.hid (IntsAt.below HV.out hb);replace HR:=Lib.hid (RowX.kept HR.out hb);replace HB:=Lib.hid (bch' HB.out hb);clear hb;obtain ⟨a0,af0⟩:=H4.out.c1;obtain ⟨r0,r1,r2,r3,r4,r5,rf0,rf1,rf2,rf3,rf4,rf5⟩:=H5.out.c6;obtain ⟨q0,q1,qf0,qf1⟩:=H7.out.c2;obtain ⟨s0,sf0⟩:=H8.out.c1;obtain ⟨t0,tf0⟩:=H9.out.c1
  clear hWHN hnHN
  obtain ⟨n0,nf0⟩:=HN.out.c1
  go_upto_region 5 with (first | ((with_reducible refine ((HFI.out _ HR.out).mono ?_));rintro e w2 ⟨rfl,hb⟩;replace H4:=Lib.hid (H4.out.keep hb);clear a0 af0;replace H5:=Lib.hid (H5.out.keep hb);clear r0 r1 r2 r3 r4 r5 rf0 rf1 rf2 rf3 rf4 rf5;replace H7:=Lib.hid (H7.out.keep hb);clear q0 q1 qf0 qf1;replace H8:=Lib.hid (H8.out.keep hb);clear s0 sf0;replace H9:=Lib.hid (H9.out.keep hb);clear t0 tf0;replace HN:=Lib.hid (HN.out.keep hb);clear n0 nf0;replace HV:=Lib.hid (IntsAt.below HV.out hb);replace HR:=Lib.hid (RowX.kept HR.out hb);replace HB:=Lib.hid (bch' HB.out hb);clear hb;obtain ⟨a0,af0⟩:=H4.out.c1;obtain ⟨r0,r1,r2,r3,r4,r5,rf0,rf1,rf2,rf3,rf4,rf5⟩:=H5.out.c6;obtain ⟨q0,q1,qf0,qf1⟩:=H7.out.c2;obtain ⟨s0,sf0⟩:=H8.out.c1;obtain ⟨t0,tf0⟩:=H9.out.c1;obtain ⟨n0,nf0⟩:=HN.out.c1))
  have hb:=(Below.refl w2.heap.size w2).alloc (Nat.le_refl _) (.cells #[.int .i64 ((k:Int))] 3)
  have HQ:=Lib.hid (Blk.new w2 3 #[.int .i64 ((k:Int))])
  have hsHQ:w.heap.size + 4 < w2.heap.size:=by have:=H9.out.lt;omega
  obtain ⟨nHQ,hnHQ⟩:∃ n,n = w2.heap.size:=⟨_,rfl⟩
  obtain ⟨W2,hWHQ⟩:∃ X,X = w2.alloc (.cells #[.int .i64 ((k:Int))] 3):=⟨_,rfl⟩
  rw [← hnHQ] at HQ hsHQ ⊢
  rw [← hWHQ] at hb HQ ⊢
  replace H4:=Lib.hid (H4.out.keep hb);clear a0 af0;replace H5:=Lib.hid (H5.out.keep hb);clear r0 r1 r2 r3 r4 r5 rf0 rf1 rf2 rf3 rf4 rf5;replace H7:=Lib.hid (H7.out.keep hb);clear q0 q1 qf0 qf1;replace H8:=Lib.hid (H8.out.keep hb);clear s0 sf0;replace H9:=Lib.hid (H9.out.keep hb);clear t0 tf0;replace HN:=Lib.hid (HN.out.keep hb);clear n0 nf0;replace HV:=Lib.hid (IntsAt.below HV.out hb);replace HR:=Lib.hid (RowX.kept HR.out hb);replace HB:=Lib.hid (bch' HB.out hb);clear hb;obtain ⟨a0,af0⟩:=H4.out.c1;obtain ⟨r0,r1,r2,r3,r4,r5,rf0,rf1,rf2,rf3,rf4,rf5⟩:=H5.out.c6;obtain ⟨q0,q1,qf0,qf1⟩:=H7.out.c2;obtain ⟨s0,sf0⟩:=H8.out.c1;obtain ⟨t0,tf0⟩:=H9.out.c1;obtain ⟨n0,nf0⟩:=HN.out.c1
  clear hWHQ hnHQ
  obtain ⟨z0,zf0⟩:=HQ.out.c1
  have f4:=fun p:BelowOf _ => (H4.out.keep p.h).c1.1
  have fq:=fun p:BelowOf _ => (HQ.out.keep p.h).c1.1
  have fe:=fun p:BelowOf _ => ((bch' HB.out p.h).cell (p:=⟨b,o + k * 6 + 1,none⟩) HBb.out).trans HE1.out
  have f7:=fun p:BelowOf _ => (H7.out.keep p.h).c2.2.1
  refine wp_region_WQ (by kernel_rfl) (by kernel_rfl) ?_
  repeat (refine WQ.step (fun K hK => ?_);go_simp;first | (refine hK.out _ ?_;clear hK K) | (apply Exists.intro;refine ⟨fun _ => ?_,hK.out _ ?_⟩;(first | rfl);clear hK K))
  refine WQ.nil ?_
  intro _ hw'
  obtain ⟨⟨wq,hbq⟩,hw2⟩:=hw'
  subst hw2
  replace H4:=Lib.hid (H4.out.keep hbq)
  replace H5:=Lib.hid (H5.out.keep hbq)
  replace H7:=Lib.hid (H7.out.keep hbq)
  replace H8:=Lib.hid (H8.out.keep hbq)
  replace H9:=Lib.hid (H9.out.keep hbq)
  replace HN:=Lib.hid (HN.out.keep hbq)
  replace HQ:=Lib.hid (HQ.out.keep hbq)
  replace HB:=Lib.hid (bch' HB.out hbq)
  clear f4 fq fe f7
  clear a0 af0
  clear r0 r1 r2 r3 r4 r5 rf0 rf1 rf2 rf3 rf4 rf5
  clear q0 q1 qf0 qf1
  clear s0 sf0
  clear t0 tf0
  clear n0 nf0
  clear z0 zf0
  obtain ⟨a0,af0⟩:=H4.out.c1
  obtain ⟨r0,r1,r2,r3,r4,r5,rf0,rf1,rf2,rf3,rf4,rf5⟩:=H5.out.c6
  obtain ⟨q0,q1,qf0,qf1⟩:=H7.out.c2
  obtain ⟨s0,sf0⟩:=H8.out.c1
  obtain ⟨t0,tf0⟩:=H9.out.c1
  obtain ⟨n0,nf0⟩:=HN.out.c1
  obtain ⟨z0,zf0⟩:=HQ.out.c1
  go_wp2_with fail
  refine bodyPost_ret_by (v:=.tuple #[.string ⟨([48]).toArray⟩,.int .i64 0]) (by simp [results,Tryz.f48,go_sem,s0,sf0,t0,tf0]) rfl ⟨rfl,?_⟩
  exact (HB.out.setCell (p:=⟨w.heap.size + 1 + 1 + 1,0,none⟩) (by simp;try omega) _).setCell (p:=⟨w.heap.size + 1 + 1 + 1 + 1,0,none⟩) (by simp;try omega) _
theorem own_told_loop (L : List (Efx × Sl3)) (pp : Option Addr) (cc : Nat) (ef ce cr cd cl t ch at_ : Int) (cs : List Int) (p : Option Addr) (c : Nat) (w : World) (hR : RowX encE 6 w pp L) (hH : HasW w L) (hok : OrdOk efE (·.nu) (L.map (·.1))) (hv : IntsAt w (.slice p cs.length c) cs) (hx : RnOk ⟨ef, cs, ce, cr, cd, cl⟩) (hz : moE ce cr cd cl t = 0) (k : Nat) (hb9 : Belongs (keyAt (·.nu) (L.map (·.1))) (L.map (·.1)).length ef k true) (ha : (L[k]'(by have := (hb9.yes rfl).1; rwa [List.length_map] at this)).1.at_ = at_) (env : Env w) :
    Calls Tryz.prog 48 #[.slice pp L.length cc,.agg #[.int .i64 ef,.slice p cs.length c,.int .i64 ce,.int .i64 cr,.int .i64 cd,.int .i64 cl],.int .i64 t,.agg #[.int .i64 ch,.int .i64 at_]] w fun e w' => e = .returned (.tuple #[.string ⟨(showR (toldQ (L.map (·.1)) ⟨ef,cs,ce,cr,cd,cl⟩ t ch at_)).toArray⟩,.int .i64 0]) ∧ Below w.heap.size w w':=by
  have hat:=fun W => own_clk_at ce cr cd cl t W
  rw [if_pos hz,hz] at hat
  generalize hsh:shZ ce cr cd cl t = sh at *
  have hef:=hx.ef
  have hkl:=(hb9.yes rfl).1
  rw [List.length_map] at hkl
  have h16:L.length ≤ 16:=by have:=hok.few;rwa [List.length_map] at this
  have hki:(k:Int) < (L.length:Int):=by omega
  have hk0:(0:Int) ≤ (k:Int):=by omega
  have hlo:k * 6 < 9223372036854775807:=by omega
  have hfi:=fun W (h:RowX encE 6 W pp L) => own_find_eff_at ef (L.map (·.1)) L pp cc W rfl h hok hef k true hb9
  obtain ⟨y,hy⟩:∃ y,y = L[k]'hkl:=⟨_,rfl⟩
  obtain ⟨b,o,rfl,hbw,hC⟩:=hR (fun e => by subst e;exact absurd hkl (Nat.not_lt_zero _))
  have hcell:=hC k hkl
  rw [← hy] at hcell ha
  have HBb:=Lib.hid hbw
  have HE0:=Lib.hid (hcell 0 _ rfl);have HE1:=Lib.hid (hcell 1 _ rfl);have HE2:=Lib.hid (hcell 2 _ rfl);have HE3:=Lib.hid (hcell 3 _ rfl);have HE4:=Lib.hid (hcell 4 _ rfl);have HE5:=Lib.hid (hcell 5 _ rfl)
  have hne:((y.1.at_:Int) != at_) = false:=by simpa using ha
  have HA:=Lib.hid ha;have HY:=Lib.hid hy;have HB9:=Lib.hid hb9
  have HEY:Hid (EfOk y.1):=Lib.hid (by have:=efOk (hok.ok k (by rw [List.length_map];exact hkl));rw [List.getElem_map,← hy] at this;exact this)
  have HPT0:=hH y (by rw [hy];exact List.getElem_mem hkl)
  have HPT:Hid (∀ W',Below w.heap.size w W' → PtsAt W' (.slice y.2.1 y.2.2.1 y.2.2.2) y.1.wv):=Lib.hid fun W' h => PtsAt.below HPT0 h
  have HSZ:=Lib.hid hsh
  have HSH:Hid (0 ≤ sh ∧ sh ≤ 20000000000):=Lib.hid (by rw [← hsh];exact sh_range hz)
  have hcp:=hx.ch.pos
  have hcf:=hx.ch.few
  change 0 < cs.length at hcp
  change cs.length ≤ 256 at hcf
  have H256:Hid (0 < cs.length ∧ cs.length ≤ 256):=Lib.hid ⟨hcp,hcf⟩
  have hcne:cs ≠ []:=fun h => by subst h;exact absurd hcp (Nat.lt_irrefl _)
  have HI:=Lib.hid hv
  have ENV:=Lib.hid env;clear env
  clear hok hH hx hz hsh hef hb9 hcell hC hy ha h16 HPT0
  have HAT:=Lib.hid hat;clear hat
  have HFI:=Lib.hid hfi;clear hfi
  have H4:=Blk.new w 43 #[.slice (some ⟨b,o,none⟩) L.length cc]
  have hB0:=(Below.refl w.heap.size w).alloc (Nat.le_refl _) (.cells #[.slice (some ⟨b,o,none⟩) L.length cc] 43)
  have H5:=Blk.new (w.alloc (.cells #[.slice (some ⟨b,o,none⟩) L.length cc] 43)) 68 #[.int .i64 ef,.slice p cs.length c,.int .i64 ce,.int .i64 cr,.int .i64 cd,.int .i64 cl]
  replace H4:=H4.alloc (.cells #[.int .i64 ef,.slice p cs.length c,.int .i64 ce,.int .i64 cr,.int .i64 cd,.int .i64 cl] 68)
  replace hB0:=hB0.alloc hB0.size (.cells #[.int .i64 ef,.slice p cs.length c,.int .i64 ce,.int .i64 cr,.int .i64 cd,.int .i64 cl] 68)
  have H7:=Blk.new ((w.alloc (.cells #[.slice (some ⟨b,o,none⟩) L.length cc] 43)).alloc (.cells #[.int .i64 ef,.slice p cs.length c,.int .i64 ce,.int .i64 cr,.int .i64 cd,.int .i64 cl] 68)) 45 #[.int .i64 ch,.int .i64 at_]
  replace H4:=H4.alloc (.cells #[.int .i64 ch,.int .i64 at_] 45)
  replace H5:=H5.alloc (.cells #[.int .i64 ch,.int .i64 at_] 45)
  replace hB0:=hB0.alloc hB0.size (.cells #[.int .i64 ch,.int .i64 at_] 45)
  have H8:=Blk.new (((w.alloc (.cells #[.slice (some ⟨b,o,none⟩) L.length cc] 43)).alloc (.cells #[.int .i64 ef,.slice p cs.length c,.int .i64 ce,.int .i64 cr,.int .i64 cd,.int .i64 cl] 68)).alloc (.cells #[.int .i64 ch,.int .i64 at_] 45)) 48 #[.string ⟨#[]⟩]
  replace H4:=H4.alloc (.cells #[.string ⟨#[]⟩] 48)
  replace H5:=H5.alloc (.cells #[.string ⟨#[]⟩] 48)
  replace H7:=H7.alloc (.cells #[.string ⟨#[]⟩] 48)
  replace hB0:=hB0.alloc hB0.size (.cells #[.string ⟨#[]⟩] 48)
  have H9:=Blk.new ((((w.alloc (.cells #[.slice (some ⟨b,o,none⟩) L.length cc] 43)).alloc (.cells #[.int .i64 ef,.slice p cs.length c,.int .i64 ce,.int .i64 cr,.int .i64 cd,.int .i64 cl] 68)).alloc (.cells #[.int .i64 ch,.int .i64 at_] 45)).alloc (.cells #[.string ⟨#[]⟩] 48)) 28 #[.int .i64 0]
  replace H4:=H4.alloc (.cells #[.int .i64 0] 28)
  replace H5:=H5.alloc (.cells #[.int .i64 0] 28)
  replace H7:=H7.alloc (.cells #[.int .i64 0] 28)
  replace H8:=H8.alloc (.cells #[.int .i64 0] 28)
  replace hB0:=hB0.alloc hB0.size (.cells #[.int .i64 0] 28)
  simp only [World.size_alloc] at H5 H7 H8 H9
  have HB:=Lib.hid hB0
  have HV:=Lib.hid (IntsAt.below hv hB0);have HR:=Lib.hid (RowX.kept hR hB0);clear hB0
  replace H4:=Lib.hid H4
  replace H5:=Lib.hid H5
  replace H7:=Lib.hid H7
  replace H8:=Lib.hid H8
  replace H9:=Lib.hid H9
  obtain ⟨a0,af0⟩:=H4.out.c1
  obtain ⟨r0,r1,r2,r3,r4,r5,rf0,rf1,rf2,rf3,rf4,rf5⟩:=H5.out.c6
  obtain ⟨q0,q1,qf0,qf1⟩:=H7.out.c2
  obtain ⟨s0,sf0⟩:=H8.out.c1
  obtain ⟨t0,tf0⟩:=H9.out.c1
  clear hR hv
  refine (callsIn_wide (n:=5)).1 ?_
  refine callsIn_of_wp_marks Tryz.func48 rfl trivial ?_ rfl
  simp only [Tryz.ntmps48,List.size_toArray,List.length_cons,List.length_nil,Nat.reduceAdd,Nat.reduceSub,Array.replicate_succ,Array.replicate_zero,List.push_toArray,List.append_toArray,List.nil_append,List.cons_append]
  refine wpIn_wide.2 ?_
  go_upto_region 2 with (first | (with_reducible refine ((HAT.out _).mono ?_);rintro e w' ⟨rfl,hb⟩;replace H4:=Lib.hid (H4.out.keep hb);clear a0 af0;replace H5:=Lib.hid (H5.out.keep hb);clear r0 r1 r2 r3 r4 r5 rf0 rf1 rf2 rf3 rf4 rf5;replace H7:=Lib.hid (H7.out.keep hb);clear q0 q1 qf0 qf1;replace H8:=Lib.hid (H8.out.keep hb);clear s0 sf0;replace H9:=Lib.hid (H9.out.keep hb);clear t0 tf0;replace HV:=Lib.hid (IntsAt.below HV.out hb);replace HR:=Lib.hid (RowX.kept HR.out hb);replace HB:=Lib.hid (bch' HB.out hb);clear hb;obtain ⟨a0,af0⟩:=H4.out.c1;obtain ⟨r0,r1,r2,r3,r4,r5,rf0,rf1,rf2,rf3,rf4,rf5⟩:=H5.out.c6;obtain ⟨q0,q1,qf0,qf1⟩:=H7.out.c2;obtain ⟨s0,sf0⟩:=H8.out.c1;obtain ⟨t0,tf0⟩:=H9.out.c1))
  have hb:=(Below.refl w'.heap.size w').alloc (Nat.le_refl _) (.cells #[.int .i64 sh] 3)
  have HN:=Lib.hid (Blk.new w' 3 #[.int .i64 sh])
  have hsHN:w.heap.size + 4 < w'.heap.size:=by have:=H9.out.lt;omega
  obtain ⟨nHN,hnHN⟩:∃ n,n = w'.heap.size:=⟨_,rfl⟩
  obtain ⟨W1,hWHN⟩:∃ X,X = w'.alloc (.cells #[.int .i64 sh] 3):=⟨_,rfl⟩
  rw [← hnHN] at HN hsHN ⊢
  rw [← hWHN] at hb HN ⊢
  replace H4:=Lib.hid (H4.out.keep hb);clear a0 af0;replace H5:=Lib.hid (H5.out.keep hb);clear r0 r1 r2 r3 r4 r5 rf0 rf1 rf2 rf3 rf4 rf5;replace H7:=Lib.hid (H7.out.keep hb);clear q0 q1 qf0 qf1;replace H8:=Lib.hid (H8.out.keep hb);clear s0 sf0;replace H9:=Lib.hid (H9.out.keep hb);clear t0 tf0;replace HV:=Lib.hid (IntsAt.below HV.out hb);replace HR:=Lib.hid (RowX.kept HR.out hb);replace HB:=Lib.hid (bch' HB.out hb);clear hb;obtain ⟨a0,af0⟩:=H4.out.c1;obtain ⟨r0,r1,r2,r3,r4,r5,rf0,rf1,rf2,rf3,rf4,rf5⟩:=H5.out.c6;obtain ⟨q0,q1,qf0,qf1⟩:=H7.out.c2;obtain ⟨s0,sf0⟩:=H8.out.c1;obtain ⟨t0,tf0⟩:=H9.out.c1
  clear hWHN hnHN
  obtain ⟨n0,nf0⟩:=HN.out.c1
  go_upto_region 5 with (first | ((with_reducible refine ((HFI.out _ HR.out).mono ?_));rintro e w2 ⟨rfl,hb⟩;replace H4:=Lib.hid (H4.out.keep hb);clear a0 af0;replace H5:=Lib.hid (H5.out.keep hb);clear r0 r1 r2 r3 r4 r5 rf0 rf1 rf2 rf3 rf4 rf5;replace H7:=Lib.hid (H7.out.keep hb);clear q0 q1 qf0 qf1;replace H8:=Lib.hid (H8.out.keep hb);clear s0 sf0;replace H9:=Lib.hid (H9.out.keep hb);clear t0 tf0;replace HN:=Lib.hid (HN.out.keep hb);clear n0 nf0;replace HV:=Lib.hid (IntsAt.below HV.out hb);replace HR:=Lib.hid (RowX.kept HR.out hb);replace HB:=Lib.hid (bch' HB.out hb);clear hb;obtain ⟨a0,af0⟩:=H4.out.c1;obtain ⟨r0,r1,r2,r3,r4,r5,rf0,rf1,rf2,rf3,rf4,rf5⟩:=H5.out.c6;obtain ⟨q0,q1,qf0,qf1⟩:=H7.out.c2;obtain ⟨s0,sf0⟩:=H8.out.c1;obtain ⟨t0,tf0⟩:=H9.out.c1;obtain ⟨n0,nf0⟩:=HN.out.c1))
  have hb:=(Below.refl w2.heap.size w2).alloc (Nat.le_refl _) (.cells #[.int .i64 ((k:Int))] 3)
  have HQ:=Lib.hid (Blk.new w2 3 #[.int .i64 ((k:Int))])
  have hsHQ:w.heap.size + 4 < w2.heap.size:=by have:=H9.out.lt;omega
  obtain ⟨nHQ,hnHQ⟩:∃ n,n = w2.heap.size:=⟨_,rfl⟩
  obtain ⟨W2,hWHQ⟩:∃ X,X = w2.alloc (.cells #[.int .i64 ((k:Int))] 3):=⟨_,rfl⟩
  rw [← hnHQ] at HQ hsHQ ⊢
  rw [← hWHQ] at hb HQ ⊢
  replace H4:=Lib.hid (H4.out.keep hb);clear a0 af0;replace H5:=Lib.hid (H5.out.keep hb);clear r0 r1 r2 r3 r4 r5 rf0 rf1 rf2 rf3 rf4 rf5;replace H7:=Lib.hid (H7.out.keep hb);clear q0 q1 qf0 qf1;replace H8:=Lib.hid (H8.out.keep hb);clear s0 sf0;replace H9:=Lib.hid (H9.out.keep hb);clear t0 tf0;replace HN:=Lib.hid (HN.out.keep hb);clear n0 nf0;replace HV:=Lib.hid (IntsAt.below HV.out hb);replace HR:=Lib.hid (RowX.kept HR.out hb);replace HB:=Lib.hid (bch' HB.out hb);clear hb;obtain ⟨a0,af0⟩:=H4.out.c1;obtain ⟨r0,r1,r2,r3,r4,r5,rf0,rf1,rf2,rf3,rf4,rf5⟩:=H5.out.c6;obtain ⟨q0,q1,qf0,qf1⟩:=H7.out.c2;obtain ⟨s0,sf0⟩:=H8.out.c1;obtain ⟨t0,tf0⟩:=H9.out.c1;obtain ⟨n0,nf0⟩:=HN.out.c1
  clear hWHQ hnHQ
  obtain ⟨z0,zf0⟩:=HQ.out.c1
  have f4:=fun p:BelowOf _ => (H4.out.keep p.h).c1.1
  have fq:=fun p:BelowOf _ => (HQ.out.keep p.h).c1.1
  have fe:=fun p:BelowOf _ => ((bch' HB.out p.h).cell (p:=⟨b,o + k * 6 + 1,none⟩) HBb.out).trans HE1.out
  have f7:=fun p:BelowOf _ => (H7.out.keep p.h).c2.2.1
  refine wp_region_WQ (by kernel_rfl) (by kernel_rfl) ?_
  repeat (refine WQ.step (fun K hK => ?_);go_simp;first | (refine hK.out _ ?_;clear hK K) | (apply Exists.intro;refine ⟨fun _ => ?_,hK.out _ ?_⟩;(first | rfl);clear hK K))
  refine WQ.nil ?_
  intro _ hw'
  obtain ⟨⟨wq,hbq⟩,hw2⟩:=hw'
  subst hw2
  replace H4:=Lib.hid (H4.out.keep hbq)
  replace H5:=Lib.hid (H5.out.keep hbq)
  replace H7:=Lib.hid (H7.out.keep hbq)
  replace H8:=Lib.hid (H8.out.keep hbq)
  replace H9:=Lib.hid (H9.out.keep hbq)
  replace HN:=Lib.hid (HN.out.keep hbq)
  replace HQ:=Lib.hid (HQ.out.keep hbq)
  replace HB:=Lib.hid (bch' HB.out hbq)
  clear f4 fq fe f7
  clear a0 af0
  clear r0 r1 r2 r3 r4 r5 rf0 rf1 rf2 rf3 rf4 rf5
  clear q0 q1 qf0 qf1
  clear s0 sf0
  clear t0 tf0
  clear n0 nf0
  clear z0 zf0
  obtain ⟨a0,af0⟩:=H4.out.c1
  obtain ⟨r0,r1,r2,r3,r4,r5,rf0,rf1,rf2,rf3,rf4,rf5⟩:=H5.out.c6
  obtain ⟨q0,q1,qf0,qf1⟩:=H7.out.c2
  obtain ⟨s0,sf0⟩:=H8.out.c1
  obtain ⟨t0,tf0⟩:=H9.out.c1
  obtain ⟨n0,nf0⟩:=HN.out.c1
  obtain ⟨z0,zf0⟩:=HQ.out.c1
  go_upto_region 7 with fail
  refine (wpIn_wide (n:=5)).1 ?_
  gi_wp2_with (refine ⟨trivial,?_⟩;gi_at_call 57;refine (members_in Fence.wide 4 trivial trivial rfl (by omega) _ _ _ _ _ _ _ _ _).mono ?_;rintro e w4 ⟨B,rfl,hle,hbox,hb⟩;have hsQ2:=HQ.out.lt;replace H4:=Lib.hid (H4.out.keep hb);clear a0 af0;obtain ⟨a0,af0⟩:=H4.out.c1;replace H5:=Lib.hid (H5.out.keep hb);clear r0 r1 r2 r3 r4 r5 rf0 rf1 rf2 rf3 rf4 rf5;obtain ⟨r0,r1,r2,r3,r4,r5,rf0,rf1,rf2,rf3,rf4,rf5⟩:=H5.out.c6;replace H7:=Lib.hid (H7.out.keep hb);clear q0 q1 qf0 qf1;obtain ⟨q0,q1,qf0,qf1⟩:=H7.out.c2;replace H8:=Lib.hid (H8.out.keep hb);clear s0 sf0;obtain ⟨s0,sf0⟩:=H8.out.c1;replace H9:=Lib.hid (H9.out.keep hb);clear t0 tf0;obtain ⟨t0,tf0⟩:=H9.out.c1;replace HN:=Lib.hid (HN.out.keep hb);clear n0 nf0;obtain ⟨n0,nf0⟩:=HN.out.c1;replace HQ:=Lib.hid (HQ.out.keep hb);clear z0 zf0;obtain ⟨z0,zf0⟩:=HQ.out.c1;replace HB:=Lib.hid (bch' HB.out hb);clear hb)
  have HB0:=HB
  have hBlt:=hbox.lt
  have hlq:=hsQ2
  have HNN:Hid (w.heap.size + 4 < nHN ∧ w.heap.size + 4 < nHQ):=Lib.hid ⟨hsHN,hsHQ⟩
  obtain ⟨W0,hW0⟩:∃ W0,W0 = w4:=⟨_,rfl⟩
  subst hW0
  refine (wpIn_wide (n:=5)).1 ?_
  try gi_wp2
  refine' wpIn_rangeFunc_ownG (n := 5) rfl (by omega) (Kp := KeepB w.heap.size B) (gf := 142) (lb := #[.pointer (some ⟨B, 0, none⟩)]) rfl trivial (enters_of Tryz.func142 (by kernel_rfl) rfl)
    (all_stops Fence.wide 4 trivial rfl (by omega) B w.heap.size _ cs (by omega) hcne _ HB.out.size hbox w HI.out rfl HB.out) KeepB.t (KeepB.b HB.out.size hBlt) (Below.refl _ _) (fun _ => rfl)
    (fun pre W => ((∀ i ∈ pre,inI cs i.1 ≠ ch) ∧ Blks W [(w.heap.size,43,#[.slice (some ⟨b,o,none⟩) L.length cc]),(w.heap.size + 1,68,#[.int .i64 ef,.slice p cs.length c,.int .i64 ce,.int .i64 cr,.int .i64 cd,.int .i64 cl]),(w.heap.size + 1 + 1,45,#[.int .i64 ch,.int .i64 at_]),(w.heap.size + 1 + 1 + 1,48,#[.string ⟨#[]⟩]),(w.heap.size + 1 + 1 + 1 + 1,28,#[.int .i64 0]),(nHN,3,#[.int .i64 sh]),(nHQ,3,#[.int .i64 (k:Int)])]) ∧ Below w.heap.size w W)
    (fun cd_ pre W => (cd_ = .ret ∧ ∃ ini last,pre = ini ++ [last] ∧ (∀ i ∈ ini,inI cs i.1 ≠ ch) ∧ inI cs last.1 = ch ∧ Blk W (w.heap.size + 1 + 1 + 1) 48 #[.string ⟨(showR (offQ y.1 (last.1:Int) cs.length sh)).toArray⟩] ∧ Blk W (w.heap.size + 1 + 1 + 1 + 1) 28 #[.int .i64 0]) ∧ Below w.heap.size w W)
    (OwnFrom.and (Own.from (fun s A B row hs hg hr => ⟨hs.1,blks_own (α:=Unit) _ () A B row hs.2 hg hr⟩) _) (ownFrom_below (Nat.le_refl _) HB.out.size))
    (fun cd_ => OwnFrom.and (Own.from (fun s A B row hs hg hr => by obtain ⟨hc,ini,last,e1,e2,e3,e4,e5⟩:=hs;exact ⟨hc,ini,last,e1,e2,e3,blk_own (w.heap.size + 1 + 1 + 1) 48 (fun _:Unit => _) () A B row e4 hg hr,blk_own (w.heap.size + 1 + 1 + 1 + 1) 28 (fun _:Unit => _) () A B row e5 hg hr⟩) _) (ownFrom_below (Nat.le_refl _) HB.out.size))
    ⟨⟨by simp,fun b hb => by simp only [List.mem_cons,List.not_mem_nil,or_false] at hb;rcases hb with rfl | rfl | rfl | rfl | rfl | rfl | rfl;exact H4.out;exact H5.out;exact H7.out;exact H8.out;exact H9.out;exact HN.out;exact HQ.out⟩,HB.out⟩ _ ?assign ?body ?done ?stop
  case assign =>
    intro l' x W K hK
    gi_wp2
    exact hK
  case body =>
    rintro l' pre x W ⟨⟨hp,hbl⟩,hBW⟩ hlt'
    have hx2:=x.2
    have HP:=Lib.hid hp;clear hp
    clear HB H4 H5 H7 H8 H9 HN HQ
    clear a0 af0;clear r0 r1 r2 r3 r4 r5 rf0 rf1 rf2 rf3 rf4 rf5;clear q0 q1 qf0 qf1;clear s0 sf0;clear t0 tf0;clear n0 nf0;clear z0 zf0
    have H4:=Lib.hid (hbl (w.heap.size,43,#[.slice (some ⟨b,o,none⟩) L.length cc]) (by simp))
    have H5:=Lib.hid (hbl (w.heap.size + 1,68,#[.int .i64 ef,.slice p cs.length c,.int .i64 ce,.int .i64 cr,.int .i64 cd,.int .i64 cl]) (by simp))
    have H7:=Lib.hid (hbl (w.heap.size + 1 + 1,45,#[.int .i64 ch,.int .i64 at_]) (by simp))
    have H8:=Lib.hid (hbl (w.heap.size + 1 + 1 + 1,48,#[.string ⟨#[]⟩]) (by simp))
    have H9:=Lib.hid (hbl (w.heap.size + 1 + 1 + 1 + 1,28,#[.int .i64 0]) (by simp))
    have HN:=Lib.hid (hbl (nHN,3,#[.int .i64 sh]) (by simp));have HQ:=Lib.hid (hbl (nHQ,3,#[.int .i64 (k:Int)]) (by simp))
    have HBL:=Lib.hid hbl;clear hbl
    dsimp only at H4 H5 H7 H8 H9 HN HQ
    have HBW:=Lib.hid hBW;clear hBW
    obtain ⟨q0,q1,qf0,qf1⟩:=H7.out.c2
    by_cases hq:inI cs x.1 = ch
    · have HX:=Lib.hid hq
      have hq2:((inI cs x.1:Int) == ch) = true:=by simpa using hq
      clear hq
      have hof:=fun W (e:Env W) (h:PtsAt W (.slice y.2.1 y.2.2.1 y.2.2.2) y.1.wv) => own_eoffset y (x.1:Int) cs.length sh W h HEY.out ⟨by have:=H256.out;omega,by omega,HSH.out⟩ e
      obtain ⟨tr,htr⟩:∃ tr,tr = showR (offQ y.1 (x.1:Int) cs.length sh):=⟨_,rfl⟩
      rw [← htr] at hof
      have HTR:=Lib.hid htr;clear htr
      have HOF:=Lib.hid hof;clear hof
      generalize hzz:inI cs x.1 = z at hq2 ⊢
      clear hzz
      gi_upto_region 11 with (fail)
      clear q0 q1 qf0 qf1 hq2
      have hmk:∀ W',Below W.heap.size W W' → (fun W' => Below w.heap.size w W' ∧ W'.cell? ⟨w.heap.size,0,none⟩ = some (.slice (some ⟨b,o,none⟩) L.length cc) ∧ W'.cell? ⟨nHQ,0,none⟩ = some (.int .i64 (k:Int)) ∧ W'.cell? ⟨b,o + k * 6,none⟩ = some (.int .i64 (y.1.nu)) ∧ W'.cell? ⟨b,o + k * 6 + 1,none⟩ = some (.int .i64 (y.1.at_)) ∧ W'.cell? ⟨b,o + k * 6 + 2,none⟩ = some (.slice y.2.1 y.2.2.1 y.2.2.2) ∧ W'.cell? ⟨b,o + k * 6 + 3,none⟩ = some (.int .i64 (y.1.pe)) ∧ W'.cell? ⟨b,o + k * 6 + 4,none⟩ = some (.int .i64 (y.1.sp)) ∧ W'.cell? ⟨b,o + k * 6 + 5,none⟩ = some (.int .i64 (y.1.sz)) ∧ W'.cell? ⟨w.heap.size + 1,1,none⟩ = some (.slice p cs.length c) ∧ W'.cell? ⟨nHN,0,none⟩ = some (.int .i64 sh)) W':=fun W' h => ⟨bch' HBW.out h,(H4.out.keep h).c1.1,(HQ.out.keep h).c1.1,((bch' HBW.out h).cell (p:=⟨b,o + k * 6 + 0,none⟩) HBb.out).trans HE0.out,((bch' HBW.out h).cell (p:=⟨b,o + k * 6 + 1,none⟩) HBb.out).trans HE1.out,((bch' HBW.out h).cell (p:=⟨b,o + k * 6 + 2,none⟩) HBb.out).trans HE2.out,((bch' HBW.out h).cell (p:=⟨b,o + k * 6 + 3,none⟩) HBb.out).trans HE3.out,((bch' HBW.out h).cell (p:=⟨b,o + k * 6 + 4,none⟩) HBb.out).trans HE4.out,((bch' HBW.out h).cell (p:=⟨b,o + k * 6 + 5,none⟩) HBb.out).trans HE5.out,(H5.out.keep h).c6.2.1,(HN.out.keep h).c1.1⟩
      have hms:∀ (A:World) (v:Value) (X:Nat),(X = w.heap.size + 1 + 1 + 1 ∨ X = w.heap.size + 1 + 1 + 1 + 1) → (fun W' => Below w.heap.size w W' ∧ W'.cell? ⟨w.heap.size,0,none⟩ = some (.slice (some ⟨b,o,none⟩) L.length cc) ∧ W'.cell? ⟨nHQ,0,none⟩ = some (.int .i64 (k:Int)) ∧ W'.cell? ⟨b,o + k * 6,none⟩ = some (.int .i64 (y.1.nu)) ∧ W'.cell? ⟨b,o + k * 6 + 1,none⟩ = some (.int .i64 (y.1.at_)) ∧ W'.cell? ⟨b,o + k * 6 + 2,none⟩ = some (.slice y.2.1 y.2.2.1 y.2.2.2) ∧ W'.cell? ⟨b,o + k * 6 + 3,none⟩ = some (.int .i64 (y.1.pe)) ∧ W'.cell? ⟨b,o + k * 6 + 4,none⟩ = some (.int .i64 (y.1.sp)) ∧ W'.cell? ⟨b,o + k * 6 + 5,none⟩ = some (.int .i64 (y.1.sz)) ∧ W'.cell? ⟨w.heap.size + 1,1,none⟩ = some (.slice p cs.length c) ∧ W'.cell? ⟨nHN,0,none⟩ = some (.int .i64 sh)) A → (fun W' => Below w.heap.size w W' ∧ W'.cell? ⟨w.heap.size,0,none⟩ = some (.slice (some ⟨b,o,none⟩) L.length cc) ∧ W'.cell? ⟨nHQ,0,none⟩ = some (.int .i64 (k:Int)) ∧ W'.cell? ⟨b,o + k * 6,none⟩ = some (.int .i64 (y.1.nu)) ∧ W'.cell? ⟨b,o + k * 6 + 1,none⟩ = some (.int .i64 (y.1.at_)) ∧ W'.cell? ⟨b,o + k * 6 + 2,none⟩ = some (.slice y.2.1 y.2.2.1 y.2.2.2) ∧ W'.cell? ⟨b,o + k * 6 + 3,none⟩ = some (.int .i64 (y.1.pe)) ∧ W'.cell? ⟨b,o + k * 6 + 4,none⟩ = some (.int .i64 (y.1.sp)) ∧ W'.cell? ⟨b,o + k * 6 + 5,none⟩ = some (.int .i64 (y.1.sz)) ∧ W'.cell? ⟨w.heap.size + 1,1,none⟩ = some (.slice p cs.length c) ∧ W'.cell? ⟨nHN,0,none⟩ = some (.int .i64 sh)) (A.setCell ⟨X,0,none⟩ v):=fun A v X hX h => ⟨h.1.setCell (p:=⟨X,0,none⟩) (by simp;omega) _,(cell_blk (Below.heap_setCell A ⟨X,0,none⟩ v _ (by show _ ≠ X;have:=HBb.out;have:=HNN.out;omega))).trans h.2.1,(cell_blk (Below.heap_setCell A ⟨X,0,none⟩ v _ (by show _ ≠ X;have:=HBb.out;have:=HNN.out;omega))).trans h.2.2.1,(cell_blk (Below.heap_setCell A ⟨X,0,none⟩ v _ (by show _ ≠ X;have:=HBb.out;have:=HNN.out;omega))).trans h.2.2.2.1,(cell_blk (Below.heap_setCell A ⟨X,0,none⟩ v _ (by show _ ≠ X;have:=HBb.out;have:=HNN.out;omega))).trans h.2.2.2.2.1,(cell_blk (Below.heap_setCell A ⟨X,0,none⟩ v _ (by show _ ≠ X;have:=HBb.out;have:=HNN.out;omega))).trans h.2.2.2.2.2.1,(cell_blk (Below.heap_setCell A ⟨X,0,none⟩ v _ (by show _ ≠ X;have:=HBb.out;have:=HNN.out;omega))).trans h.2.2.2.2.2.2.1,(cell_blk (Below.heap_setCell A ⟨X,0,none⟩ v _ (by show _ ≠ X;have:=HBb.out;have:=HNN.out;omega))).trans h.2.2.2.2.2.2.2.1,(cell_blk (Below.heap_setCell A ⟨X,0,none⟩ v _ (by show _ ≠ X;have:=HBb.out;have:=HNN.out;omega))).trans h.2.2.2.2.2.2.2.2.1,(cell_blk (Below.heap_setCell A ⟨X,0,none⟩ v _ (by show _ ≠ X;have:=HBb.out;have:=HNN.out;omega))).trans h.2.2.2.2.2.2.2.2.2.1,(cell_blk (Below.heap_setCell A ⟨X,0,none⟩ v _ (by show _ ≠ X;have:=HBb.out;have:=HNN.out;omega))).trans h.2.2.2.2.2.2.2.2.2.2⟩
      have HMK:=Lib.hid hmk;have HMS:=Lib.hid hms;clear hmk hms
      have HBX:=Lib.hid ((Below.refl W.heap.size W).drew)
      have hmx:Tryz.prog.follows .mixedOrders = true:=by kernel_rfl
      refine wpIn_region_of_any hmx (by intro a w h;exact h) (by kernel_rfl) (wpAny_of_held (S:=(fun W' => Below w.heap.size w W' ∧ W'.cell? ⟨w.heap.size,0,none⟩ = some (.slice (some ⟨b,o,none⟩) L.length cc) ∧ W'.cell? ⟨nHQ,0,none⟩ = some (.int .i64 (k:Int)) ∧ W'.cell? ⟨b,o + k * 6,none⟩ = some (.int .i64 (y.1.nu)) ∧ W'.cell? ⟨b,o + k * 6 + 1,none⟩ = some (.int .i64 (y.1.at_)) ∧ W'.cell? ⟨b,o + k * 6 + 2,none⟩ = some (.slice y.2.1 y.2.2.1 y.2.2.2) ∧ W'.cell? ⟨b,o + k * 6 + 3,none⟩ = some (.int .i64 (y.1.pe)) ∧ W'.cell? ⟨b,o + k * 6 + 4,none⟩ = some (.int .i64 (y.1.sp)) ∧ W'.cell? ⟨b,o + k * 6 + 5,none⟩ = some (.int .i64 (y.1.sz)) ∧ W'.cell? ⟨w.heap.size + 1,1,none⟩ = some (.slice p cs.length c) ∧ W'.cell? ⟨nHN,0,none⟩ = some (.int .i64 sh))) _ _ _ _ ?_)
      change wpAnyH _ _ _ _ _ _ _ _ (World.drew _)
      have hHeld:=HMK.out _ HBX.out
      refine wpAnyH_take (i:=0) (v:=?v0) rfl (by kernel_rfl) (by kernel_rfl) (by kernel_rfl) (fun _ _ _ h => h) (Or.inl ⟨by rfl,?hy0⟩) (by assumption) ?rest0
      case hy0 => ((intro w hSw;(try dsimp only at hSw);go_simp);try with_reducible rfl)
      try simp only [Act.put,List.setIfInBounds_toArray,List.set_cons_zero,List.set_cons_succ]
      refine wpAnyH_take (i:=1) (v:=?v1) rfl (by kernel_rfl) (by kernel_rfl) (by kernel_rfl) (fun _ _ _ h => h) (Or.inl ⟨by rfl,?hy1⟩) (by assumption) ?rest1
      case hy1 => ((intro w hSw;(try dsimp only at hSw);go_simp);try with_reducible rfl)
      try simp only [Act.put,List.setIfInBounds_toArray,List.set_cons_zero,List.set_cons_succ]
      refine wpAnyH_take (i:=2) (v:=?v2) rfl (by kernel_rfl) (by kernel_rfl) (by kernel_rfl) (fun _ _ _ h => h) (Or.inl ⟨by rfl,?hy2⟩) (by assumption) ?rest2
      case hy2 => ((intro w hSw;(try dsimp only at hSw);go_simp);try with_reducible rfl)
      try simp only [Act.put,List.setIfInBounds_toArray,List.set_cons_zero,List.set_cons_succ]
      refine wpAnyH_take (i:=3) (v:=?v3) rfl (by kernel_rfl) (by kernel_rfl) (by kernel_rfl) (fun _ _ _ h => h) (Or.inl ⟨by rfl,?hy3⟩) (by assumption) ?rest3
      case hy3 => ((intro w hSw;(try dsimp only at hSw);go_simp);try with_reducible rfl)
      try simp only [Act.put,List.setIfInBounds_toArray,List.set_cons_zero,List.set_cons_succ]
      refine wpAnyH_take (i:=4) (v:=?v4) rfl (by kernel_rfl) (by kernel_rfl) (by kernel_rfl) (fun _ _ _ h => h) (Or.inl ⟨by rfl,?hy4⟩) (by assumption) ?rest4
      case hy4 => ((intro w hSw;(try dsimp only at hSw);go_simp);try with_reducible rfl)
      try simp only [Act.put,List.setIfInBounds_toArray,List.set_cons_zero,List.set_cons_succ]
      refine wpAnyH_take (i:=5) (v:=?v5) rfl (by kernel_rfl) (by kernel_rfl) (by kernel_rfl) (fun _ _ _ h => h) (Or.inl ⟨by rfl,?hy5⟩) (by assumption) ?rest5
      case hy5 => ((intro w hSw;(try dsimp only at hSw);go_simp);try with_reducible rfl)
      try simp only [Act.put,List.setIfInBounds_toArray,List.set_cons_zero,List.set_cons_succ]
      refine wpAnyH_take (i:=6) (v:=?v6) rfl (by kernel_rfl) (by kernel_rfl) (by kernel_rfl) (fun _ _ _ h => h) (Or.inl ⟨by rfl,?hy6⟩) (by assumption) ?rest6
      case hy6 => ((intro w hSw;(try dsimp only at hSw);go_simp);try with_reducible rfl)
      try simp only [Act.put,List.setIfInBounds_toArray,List.set_cons_zero,List.set_cons_succ]
      refine wpAnyH_take (i:=7) (v:=?v7) rfl (by kernel_rfl) (by kernel_rfl) (by kernel_rfl) (fun _ _ _ h => h) (Or.inl ⟨by rfl,?hy7⟩) (by assumption) ?rest7
      case hy7 => ((intro w hSw;(try dsimp only at hSw);go_simp);try with_reducible rfl)
      try simp only [Act.put,List.setIfInBounds_toArray,List.set_cons_zero,List.set_cons_succ]
      refine wpAnyH_take (i:=8) (v:=?v8) rfl (by kernel_rfl) (by kernel_rfl) (by kernel_rfl) (fun _ _ _ h => h) (Or.inl ⟨by rfl,?hy8⟩) (by assumption) ?rest8
      case hy8 => ((intro w hSw;(try dsimp only at hSw);go_simp);try with_reducible rfl)
      try simp only [Act.put,List.setIfInBounds_toArray,List.set_cons_zero,List.set_cons_succ]
      refine wpAnyH_ready (rs:=[9]) (by kernel_rfl) (by simp) ?_
      refine AllReadyH.cons (o:=_) rfl (fun K hK => ?_) AllReadyH.nil
      try simp only [List.getElem_toArray,List.getElem_cons_succ,List.getElem_cons_zero]
      go_simp
      (go_at_call 77;refine (HOF.out _ (ENV.out.below (And.left (by assumption))) (HPT.out _ (And.left (by assumption)))).mono ?_;rintro e wc ⟨rfl,hb⟩;replace HBX:=Lib.hid (bch' HBX.out hb);clear hb)
      go_simp
      refine hK.out _ _ ?_ (fun hHeld2 => ?_)
      · exact HMK.out _ HBX.out
      clear hHeld hK K
      have hHeld:=hHeld2;clear hHeld2
      try simp only [Act.put,List.setIfInBounds_toArray,List.set_cons_zero,List.set_cons_succ]
      refine wpAnyH_take (i:=10) (v:=?v10) rfl (by kernel_rfl) (by kernel_rfl) (by kernel_rfl) (fun _ _ _ h => h) (Or.inl ⟨by rfl,?hy10⟩) (by assumption) ?rest10
      case hy10 => ((intro w hSw;(try dsimp only at hSw);go_simp);try with_reducible rfl)
      try simp only [Act.put,List.setIfInBounds_toArray,List.set_cons_zero,List.set_cons_succ]
      refine wpAnyH_take (i:=11) (v:=?v11) rfl (by kernel_rfl) (by kernel_rfl) (by kernel_rfl) (fun _ _ _ h => h) (Or.inl ⟨by rfl,?hy11⟩) (by assumption) ?rest11
      case hy11 => ((intro w hSw;(try dsimp only at hSw);go_simp);try with_reducible rfl)
      try simp only [Act.put,List.setIfInBounds_toArray,List.set_cons_zero,List.set_cons_succ]
      obtain ⟨s0,sf0⟩:=(H8.out.keep HBX.out).c1
      have hd8:Blk (wc.setCell ⟨w.heap.size + 1 + 1 + 1,0,none⟩ (.string ⟨tr.toArray⟩)) (w.heap.size + 1 + 1 + 1) 48 #[(.string ⟨tr.toArray⟩)]:=by simpa using (H8.out.keep HBX.out).set_ 0 (.string ⟨tr.toArray⟩)
      have hd9:Blk (wc.setCell ⟨w.heap.size + 1 + 1 + 1,0,none⟩ (.string ⟨tr.toArray⟩)) (w.heap.size + 1 + 1 + 1 + 1) 28 #[.int .i64 0]:=(H9.out.keep HBX.out).far (by simp) _
      have hdW:Below w.heap.size w (wc.setCell ⟨w.heap.size + 1 + 1 + 1,0,none⟩ (.string ⟨tr.toArray⟩)):=(bch' HBW.out HBX.out).setCell (p:=⟨w.heap.size + 1 + 1 + 1,0,none⟩) (by simp;try omega) _
      have hdK:KeepsFrom W0.heap.size W (wc.setCell ⟨w.heap.size + 1 + 1 + 1,0,none⟩ (.string ⟨tr.toArray⟩)):=(keepsFrom_below HBX.out).trans ((KeepsOthers.setCell _ _ _).from _)
      have hdS:=HMS.out wc (.string ⟨tr.toArray⟩) (w.heap.size + 1 + 1 + 1) (Or.inl rfl) (HMK.out _ HBX.out)
      have HD8:=Lib.hid hd8;have HD9:=Lib.hid hd9;have HDW:=Lib.hid hdW;have HDK:=Lib.hid hdK;have HDS:=Lib.hid hdS;clear hd8 hd9 hdW hdK hdS
      refine wpAnyH_ready (rs:=[12]) (by kernel_rfl) (by simp) ?_
      refine AllReadyH.cons (o:=_) rfl (fun K hK => ?_) AllReadyH.nil
      try simp only [List.getElem_toArray,List.getElem_cons_succ,List.getElem_cons_zero]
      go_simp
      refine hK.out _ _ ?_ (fun hHeld2 => ?_)
      · exact HDS.out
      clear hHeld hK K
      have hHeld:=hHeld2;clear hHeld2
      try simp only [Act.put,List.setIfInBounds_toArray,List.set_cons_zero,List.set_cons_succ]
      generalize wc.setCell ⟨w.heap.size + 1 + 1 + 1,0,none⟩ (.string ⟨tr.toArray⟩) = wd at *
      clear s0 sf0
      obtain ⟨t0,tf0⟩:=HD9.out.c1
      refine wpAnyH_ready (rs:=[13]) (by kernel_rfl) (by simp) ?_
      refine AllReadyH.cons (o:=_) rfl (fun K hK => ?_) AllReadyH.nil
      try simp only [List.getElem_toArray,List.getElem_cons_succ,List.getElem_cons_zero]
      go_simp
      refine hK.out _ _ ?_ (fun hHeld2 => ?_)
      · exact HMS.out wd _ (w.heap.size + 1 + 1 + 1 + 1) (Or.inr rfl) HDS.out
      clear hHeld hK K
      have hHeld:=hHeld2;clear hHeld2
      try simp only [Act.put,List.setIfInBounds_toArray,List.set_cons_zero,List.set_cons_succ]
      refine wpAnyH_done (by kernel_rfl) ?_ _
      gi_wp2
      exact ⟨HDK.out.trans ((KeepsOthers.setCell _ _ _).from _),⟨rfl,pre,x,rfl,HP.out,HX.out,by rw [← HTR.out];exact HD8.out.far (by simp) _,by simpa using HD9.out.set_ 0 (.int .i64 0)⟩,HDW.out.setCell (p:=⟨w.heap.size + 1 + 1 + 1 + 1,0,none⟩) (by simp;try omega) _⟩
    · have hq2:((inI cs x.1:Int) == ch) = false:=by simpa using hq
      have HX:=Lib.hid hq;clear hq
      generalize hzz:inI cs x.1 = z at hq2
      gi_wp2
      exact ⟨KeepsFrom.refl _ _,KeepB.refl _ _ _,⟨fun i hi => (List.mem_append.1 hi).elim (HP.out i) (fun e => by simp at e;subst e;exact HX.out),HBL.out⟩,HBW.out⟩
  case done =>
    rintro D ys W hD rfl ⟨⟨hne2,hbl⟩,hBW⟩ hK
    have hm:memI cs ch = -1:=mem_none fun j hj => hne2 ⟨j,hj⟩ upF_mem
    have HR2:Hid (toldQ (L.map (·.1)) ⟨ef,cs,ce,cr,cd,cl⟩ t ch at_ = 0):=Lib.hid (toldQ_gone HB9.out hm)
    clear hm hne2 HB H4 H5 H7 H8 H9 HN HQ
    clear a0 af0;clear r0 r1 r2 r3 r4 r5 rf0 rf1 rf2 rf3 rf4 rf5;clear q0 q1 qf0 qf1;clear s0 sf0;clear t0 tf0;clear n0 nf0;clear z0 zf0
    have H8:=Lib.hid (hbl (w.heap.size + 1 + 1 + 1,48,#[.string ⟨#[]⟩]) (by simp));have H9:=Lib.hid (hbl (w.heap.size + 1 + 1 + 1 + 1,28,#[.int .i64 0]) (by simp));clear hbl
    dsimp only at H8 H9
    obtain ⟨s0,sf0⟩:=H8.out.c1
    obtain ⟨t0,tf0⟩:=H9.out.c1
    go_wp2_with fail
    have hK1:=(KeepsOthers.setCell W ⟨w.heap.size + 1 + 1 + 1,0,none⟩ (.string ⟨#[48]⟩)).same D _ hK rfl
    have hK':=(KeepsOthers.setCell (W.setCell ⟨w.heap.size + 1 + 1 + 1,0,none⟩ (.string ⟨#[48]⟩)) ⟨w.heap.size + 1 + 1 + 1 + 1,0,none⟩ (.int .i64 0)).same D _ hK1 rfl
    refine ⟨by simp,.inl ⟨_,_,rfl,run_takeDeferred hK',?_⟩⟩
    have hb8:Blk ((W.setCell ⟨w.heap.size + 1 + 1 + 1,0,none⟩ (.string ⟨#[48]⟩)).setCell ⟨w.heap.size + 1 + 1 + 1 + 1,0,none⟩ (.int .i64 0)) (w.heap.size + 1 + 1 + 1) 48 #[.string ⟨#[48]⟩]:=by simpa using (H8.out.set_ 0 (.string ⟨#[48]⟩)).far (p:=⟨w.heap.size + 1 + 1 + 1 + 1,0,none⟩) (by simp) (.int .i64 0)
    have hb9:Blk ((W.setCell ⟨w.heap.size + 1 + 1 + 1,0,none⟩ (.string ⟨#[48]⟩)).setCell ⟨w.heap.size + 1 + 1 + 1 + 1,0,none⟩ (.int .i64 0)) (w.heap.size + 1 + 1 + 1 + 1) 28 #[.int .i64 0]:=by simpa using (H9.out.far (p:=⟨w.heap.size + 1 + 1 + 1,0,none⟩) (by simp) (.string ⟨#[48]⟩)).set_ 0 (.int .i64 0)
    have hc8:=cell_kept hb8.boxed.cell (grownBy_putObj' _ D (.deferred none)) (fun r e => by cases e;exact ⟨_,hK',rfl⟩)
    have hc9:=cell_kept hb9.boxed.cell (grownBy_putObj' _ D (.deferred none)) (fun r e => by cases e;exact ⟨_,hK',rfl⟩)
    refine ⟨.tuple #[.string ⟨([48]).toArray⟩,.int .i64 0],by simp [results,Tryz.f48,go_sem,hc8,hc9],by rw [HR2.out,showR_zero],?_⟩
    exact ((hBW.setCell (p:=⟨w.heap.size + 1 + 1 + 1,0,none⟩) (by simp;try omega) _).setCell (p:=⟨w.heap.size + 1 + 1 + 1 + 1,0,none⟩) (by simp;try omega) _).trans (belowK_b (w:=w) (Nat.le_refl _) _ D _ _ (by have:=HB0.out.size;omega) hK' rfl rfl)
  case stop =>
    rintro D cd_ pre W hD ⟨m,hm,rfl⟩ ⟨⟨rfl,ini,last,e1,e2,e3,b8,b9⟩,hBW⟩ hK
    have hR2:toldQ (L.map (·.1)) ⟨ef,cs,ce,cr,cd,cl⟩ t ch at_ = offQ y.1 (last.1:Int) cs.length sh:=by
      have hll:=congrArg List.length e1
      rw [upF_length _ _ hm,List.length_append] at hll
      simp at hll
      subst hll
      obtain ⟨a1,a2⟩:=upF_snoc e1.symm (by have:=last.2;omega)
      have h3:memI cs ch = (last.1:Int):=mem_found last.2 e3 (fun j hj => e2 ⟨j,by have:=last.2;omega⟩ (by have h9:(⟨j,by have:=last.2;omega⟩:Fin cs.length) ∈ upF cs.length ini.length:=upF_memk (by show j < _;omega);rw [← a1] at h9;exact h9))
      have h4:=toldQ_here (x:=⟨ef,cs,ce,cr,cd,cl⟩) (t:=t) (ch:=ch) (a:=at_) HB9.out (by rw [List.getElem_map,← HY.out];exact HA.out) h3
      rw [h4,List.getElem_map,← HY.out,← HSZ.out]
    have HR2:=Lib.hid hR2
    clear hR2 e1 e2 e3
    obtain ⟨tr,htt⟩:∃ tr,tr = showR (offQ y.1 (last.1:Int) cs.length sh):=⟨_,rfl⟩
    rw [← htt] at b8
    have HTT:=Lib.hid htt.symm;clear htt
    refine wpIn_ret ?_
    refine ⟨by simp,.inl ⟨_,_,rfl,run_takeDeferred hK,?_⟩⟩
    have hc8:=cell_kept b8.boxed.cell (grownBy_putObj' _ D (.deferred none)) (fun r e => by cases e;exact ⟨_,hK,rfl⟩)
    have hc9:=cell_kept b9.boxed.cell (grownBy_putObj' _ D (.deferred none)) (fun r e => by cases e;exact ⟨_,hK,rfl⟩)
    refine ⟨.tuple #[.string ⟨(tr).toArray⟩,.int .i64 0],by simp [results,Tryz.f48,go_sem,hc8,hc9],by rw [HR2.out,HTT.out],?_⟩
    exact hBW.trans (belowK_b (w:=w) (Nat.le_refl _) W D _ _ (by have:=HB0.out.size;omega) hK rfl rfl)
theorem own_told0 (L : List (Efx × Sl3)) (pp : Option Addr) (cc : Nat) (ef ce cr cd cl t ch at_ : Int) (cs : List Int) (p : Option Addr) (c : Nat) (w : World) (hR : RowX encE 6 w pp L) (hH : HasW w L) (hok : OrdOk efE (·.nu) (L.map (·.1))) (hv : IntsAt w (.slice p cs.length c) cs) (hx : RnOk ⟨ef, cs, ce, cr, cd, cl⟩) (env : Env w) :
    Calls Tryz.prog 48 #[.slice pp L.length cc,.agg #[.int .i64 ef,.slice p cs.length c,.int .i64 ce,.int .i64 cr,.int .i64 cd,.int .i64 cl],.int .i64 t,.agg #[.int .i64 ch,.int .i64 at_]] w fun e w' => e = .returned (.tuple #[.string ⟨((tolT (L.map (·.1)) ⟨ef,cs,ce,cr,cd,cl⟩ t ch at_).1).toArray⟩,.int .i64 ((tolT (L.map (·.1)) ⟨ef,cs,ce,cr,cd,cl⟩ t ch at_).2)]) ∧ Below w.heap.size w w':=by
  unfold tolT
  dsimp only
  by_cases hz:moE ce cr cd cl t = 0
  · rw [if_pos hz]
    dsimp only
    obtain ⟨k,hit,hb9⟩:=belongs_key hok ef
    cases hit with
    | false => rw [toldQ_not (x:=⟨ef,cs,ce,cr,cd,cl⟩) hb9.miss,showR_zero];exact own_told_no L pp cc ef ce cr cd cl t ch at_ cs p c w hR hH hok hv hx hz hb9.miss
    | true =>
      by_cases ha:(L[k]'(by have:=(hb9.yes rfl).1;rwa [List.length_map] at this)).1.at_ = at_
      · exact own_told_loop L pp cc ef ce cr cd cl t ch at_ cs p c w hR hH hok hv hx hz k hb9 ha env
      · rw [toldQ_other (x:=⟨ef,cs,ce,cr,cd,cl⟩) hb9 (by rw [List.getElem_map];exact ha),showR_zero];exact own_told_other L pp cc ef ce cr cd cl t ch at_ cs p c w hR hH hok hv hx hz k hb9 ha
  · rw [if_neg hz]
    exact own_told_clk L pp cc ef ce cr cd cl t ch at_ cs p c w hR hH hok hv hx hz
theorem own_told (L : List (Efx × Sl3)) (pp : Option Addr) (cc : Nat) (ef ce cr cd cl t ch at_ : Int) (cs : List Int) (p : Option Addr) (n c : Nat) (w : World) (hR : RowX encE 6 w pp L) (hH : HasW w L) (hok : OrdOk efE (·.nu) (L.map (·.1))) (hv : IntsAt w (.slice p n c) cs) (hx : RnOk ⟨ef, cs, ce, cr, cd, cl⟩) (env : Env w) :
    Calls Tryz.prog 48 #[.slice pp L.length cc,.agg #[.int .i64 ef,.slice p n c,.int .i64 ce,.int .i64 cr,.int .i64 cd,.int .i64 cl],.int .i64 t,.agg #[.int .i64 ch,.int .i64 at_]] w fun e w' => e = .returned (.tuple #[.string ⟨((tolT (L.map (·.1)) ⟨ef,cs,ce,cr,cd,cl⟩ t ch at_).1).toArray⟩,.int .i64 ((tolT (L.map (·.1)) ⟨ef,cs,ce,cr,cd,cl⟩ t ch at_).2)]) ∧ Below w.heap.size w w':=by
  obtain rfl:=hv.len
  exact own_told0 L pp cc ef ce cr cd cl t ch at_ cs p c w hR hH hok hv hx env
end Go.Proofs.YtbeojahilbglcaaGreatDoor
namespace Lum
open Go Go.RowKit Go.Shelf
open Go.Lib (decDigits itoa)
def ofE (L:List Efx) (R:List Rnx) (n t ch a:Int):Txt × Int :=
  if pbE L R ch a ≠ 0 then ([],pbE L R ch a) else match R.find? (fun x => x.ef == n) with
    | some x => tolT L x t ch a
    | none => ([48],0)
theorem ofE_pb {L:List Efx} {R:List Rnx} {n t ch a:Int} (h:¬ pbE L R ch a = 0):ofE L R n t ch a = ([],pbE L R ch a):=by unfold ofE;rw [if_pos h]
theorem ofE_no {L:List Efx} {R:List Rnx} {n t ch a:Int} (h:pbE L R ch a = 0) (h2:R.find? (fun x => x.ef == n) = none):ofE L R n t ch a = ([48],0):=by unfold ofE;rw [if_neg (by simpa using h),h2]
theorem ofE_at {L:List Efx} {R:List Rnx} {n t ch a:Int} {x:Rnx} (h:pbE L R ch a = 0) (h2:R.find? (fun x => x.ef == n) = some x):ofE L R n t ch a = tolT L x t ch a:=by unfold ofE;rw [if_neg (by simpa using h),h2]
def suE (L:List Efx) (R:List Rnx) (t ch a:Int):Txt × Int :=
  if pbE L R ch a ≠ 0 then ([],pbE L R ch a) else if atF t R ≠ 0 then ([],atF t R) else (showR (sumQ L R t ch a),0)
theorem suE_pb {L:List Efx} {R:List Rnx} {t ch a:Int} (h:¬ pbE L R ch a = 0):suE L R t ch a = ([],pbE L R ch a):=by unfold suE;rw [if_pos h]
theorem suE_at {L:List Efx} {R:List Rnx} {t ch a:Int} (h:pbE L R ch a = 0) (h2:¬ atF t R = 0):suE L R t ch a = ([],atF t R):=by unfold suE;rw [if_neg (by simpa using h),if_pos h2]
theorem suE_ok {L:List Efx} {R:List Rnx} {t ch a:Int} (h:pbE L R ch a = 0) (h2:atF t R = 0):suE L R t ch a = (showR (sumQ L R t ch a),0):=by unfold suE;rw [if_neg (by simpa using h),if_neg (by simpa using h2)]
theorem tolT_bad {L:List Efx} {x:Rnx} {t ch a:Int} (h:¬ moE x.ce x.cr x.cd x.cl t = 0):tolT L x t ch a = ([],moE x.ce x.cr x.cd x.cl t):=by unfold tolT;rw [if_neg h]
theorem tolT_ok {L:List Efx} {x:Rnx} {t ch a:Int} (h:moE x.ce x.cr x.cd x.cl t = 0):tolT L x t ch a = (showR (toldQ L x t ch a),0):=by unfold tolT;rw [if_pos h]
theorem sumQ_fits1 {L:List Efx} {R:List Rnx} {t ch a:Int} (hL:OrdOk efE (·.nu) L) (hR:OrdOk rnE (·.ef) R) {i:Nat} (hi:i ≤ R.length) (h:∀ j (hj:j < R.length),j < i → moE (R[j]'hj).ce (R[j]'hj).cr (R[j]'hj).cd (R[j]'hj).cl t = 0):Fits 1000 (sumQ L (R.take i) t ch a):=by
  have h2:=sumQ_fits (R:=R.take i) (ch:=ch) (a:=a) hL (fun x hx => by obtain ⟨j,hj,-,rfl⟩:=mem_take_at hx;exact rnOk (hR.ok j hj)) (fun x hx => by obtain ⟨j,hj,h1,rfl⟩:=mem_take_at hx;exact h j hj h1) (R.take i).length (Nat.le_refl _)
  rw [List.take_length] at h2
  exact h2.mono (by have:=hR.few;rw [List.length_take];omega)
end Lum
namespace Go.Proofs.YtbeojahilbglcaaGreatDoor
open Go.RowKit Go.Shelf Lum
open Go.Lib (decDigits itoa)
attribute [local go_sem] bs_get bs_extract_end bs_extract_from bs_extract bs_append
theorem own_eboth (L : List Efx) (R : List Rnx) (v u : Value) (w : World) (hl : EfsAt w v L) (hr : RunsAt w u R) :
    Calls Tryz.prog 54 #[v,u] w fun e w' => e = .returned (.int .i64 (boE L R)) ∧ Below w.heap.size w w':=by
  have hck:=fun W (h:EfsAt W v L) => own_echeck L v W h
  have hru:=fun W (h:RunsAt W u R) => own_eruns R u W h
  have HL:=Lib.hid hl;have HN:=Lib.hid hr;clear hl hr
  have HB:=Lib.hid (Below.refl w.heap.size w)
  change ∀ W,EfsAt W v L → Calls _ _ _ _ (fun e w' => e = .returned (.int .i64 (efsE L)) ∧ _) at hck
  change ∀ W,RunsAt W u R → Calls _ _ _ _ (fun e w' => e = .returned (.int .i64 (rnsE R)) ∧ _) at hru
  by_cases hz:efsE L = 0
  · rw [boE_rn hz]
    rw [hz] at hck
    clear hz
    generalize rnsE R = m at *
    have HCK:=Lib.hid hck;clear hck
    have HRU:=Lib.hid hru;clear hru
    go_enter Tryz.func54,Tryz.ntmps54
    go_wp2_with (first | (with_reducible refine ((HCK.out _ HL.out).mono ?_);rintro e w' ⟨rfl,hb⟩;replace HL:=Lib.hid (EfsAt.kept HL.out hb);replace HN:=Lib.hid (RunsAt.kept HN.out hb);replace HB:=Lib.hid (bch' HB.out hb);clear hb) | (with_reducible refine ((HRU.out _ HN.out).mono ?_);rintro e w' ⟨rfl,hb⟩;replace HL:=Lib.hid (EfsAt.kept HL.out hb);replace HN:=Lib.hid (RunsAt.kept HN.out hb);replace HB:=Lib.hid (bch' HB.out hb);clear hb))
    go_ret
    exact ⟨rfl,HB.out⟩
  · rw [boE_ef hz]
    have hne:((efsE L:Int) != 0) = true:=by simpa using hz
    clear hz
    generalize efsE L = m at *
    have HCK:=Lib.hid hck;clear hck
    have HRU:=Lib.hid hru;clear hru
    go_enter Tryz.func54,Tryz.ntmps54
    go_wp2_with (first | (with_reducible refine ((HCK.out _ HL.out).mono ?_);rintro e w' ⟨rfl,hb⟩;replace HL:=Lib.hid (EfsAt.kept HL.out hb);replace HN:=Lib.hid (RunsAt.kept HN.out hb);replace HB:=Lib.hid (bch' HB.out hb);clear hb))
    go_ret
    exact ⟨rfl,HB.out⟩
theorem own_eparam (L : List Efx) (R : List Rnx) (v u : Value) (ch at_ : Int) (w : World) (hl : EfsAt w v L) (hr : RunsAt w u R) :
    Calls Tryz.prog 47 #[v,u,.agg #[.int .i64 ch,.int .i64 at_]] w fun e w' => e = .returned (.int .i64 (pbE L R ch at_)) ∧ Below w.heap.size w w':=by
  have hbo:=fun W (h:EfsAt W v L) (h2:RunsAt W u R) => own_eboth L R v u W h h2
  have hal:=(Below.refl w.heap.size w).alloc (Nat.le_refl _) (.cells #[.int .i64 ch,.int .i64 at_] 45)
  have HL:=Lib.hid (hl.kept hal);have HN:=Lib.hid (hr.kept hal);clear hl hr hal
  have HK:=Lib.hid (Blk.new w 45 #[.int .i64 ch,.int .i64 at_])
  have HB:=Lib.hid ((Below.refl w.heap.size w).alloc (Nat.le_refl _) (.cells #[.int .i64 ch,.int .i64 at_] 45))
  obtain ⟨k0,k1,kf0,kf1⟩:=HK.out.c2
  by_cases hz:boE L R = 0
  · rw [pbE_pa hz]
    rw [hz] at hbo
    clear hz
    have HBO:=Lib.hid hbo;clear hbo
    by_cases o0:ch < 1
    · rw [paE_out (by omega)]
      go_enter Tryz.func47,Tryz.ntmps47
      go_wp2_with (first | (with_reducible refine ((HBO.out _ HL.out HN.out).mono ?_);rintro e w' ⟨rfl,hb⟩;replace HK:=Lib.hid (HK.out.keep hb);clear k0 k1 kf0 kf1;replace HL:=Lib.hid (EfsAt.kept HL.out hb);replace HN:=Lib.hid (RunsAt.kept HN.out hb);replace HB:=Lib.hid (bch' HB.out hb);clear hb;obtain ⟨k0,k1,kf0,kf1⟩:=HK.out.c2))
      go_ret
      exact ⟨rfl,HB.out⟩
    by_cases o1:999 < ch
    · rw [paE_out (by omega)]
      go_enter Tryz.func47,Tryz.ntmps47
      go_wp2_with (first | (with_reducible refine ((HBO.out _ HL.out HN.out).mono ?_);rintro e w' ⟨rfl,hb⟩;replace HK:=Lib.hid (HK.out.keep hb);clear k0 k1 kf0 kf1;replace HL:=Lib.hid (EfsAt.kept HL.out hb);replace HN:=Lib.hid (RunsAt.kept HN.out hb);replace HB:=Lib.hid (bch' HB.out hb);clear hb;obtain ⟨k0,k1,kf0,kf1⟩:=HK.out.c2))
      go_ret
      exact ⟨rfl,HB.out⟩
    by_cases o2:at_ < 0
    · rw [paE_out (by omega)]
      go_enter Tryz.func47,Tryz.ntmps47
      go_wp2_with (first | (with_reducible refine ((HBO.out _ HL.out HN.out).mono ?_);rintro e w' ⟨rfl,hb⟩;replace HK:=Lib.hid (HK.out.keep hb);clear k0 k1 kf0 kf1;replace HL:=Lib.hid (EfsAt.kept HL.out hb);replace HN:=Lib.hid (RunsAt.kept HN.out hb);replace HB:=Lib.hid (bch' HB.out hb);clear hb;obtain ⟨k0,k1,kf0,kf1⟩:=HK.out.c2))
      go_ret
      exact ⟨rfl,HB.out⟩
    by_cases o3:15 ≤ at_
    · rw [paE_out (by omega)]
      go_enter Tryz.func47,Tryz.ntmps47
      go_wp2_with (first | (with_reducible refine ((HBO.out _ HL.out HN.out).mono ?_);rintro e w' ⟨rfl,hb⟩;replace HK:=Lib.hid (HK.out.keep hb);clear k0 k1 kf0 kf1;replace HL:=Lib.hid (EfsAt.kept HL.out hb);replace HN:=Lib.hid (RunsAt.kept HN.out hb);replace HB:=Lib.hid (bch' HB.out hb);clear hb;obtain ⟨k0,k1,kf0,kf1⟩:=HK.out.c2))
      go_ret
      exact ⟨rfl,HB.out⟩
    rw [paE_in (by omega)]
    go_enter Tryz.func47,Tryz.ntmps47
    go_wp2_with (first | (with_reducible refine ((HBO.out _ HL.out HN.out).mono ?_);rintro e w' ⟨rfl,hb⟩;replace HK:=Lib.hid (HK.out.keep hb);clear k0 k1 kf0 kf1;replace HL:=Lib.hid (EfsAt.kept HL.out hb);replace HN:=Lib.hid (RunsAt.kept HN.out hb);replace HB:=Lib.hid (bch' HB.out hb);clear hb;obtain ⟨k0,k1,kf0,kf1⟩:=HK.out.c2))
    go_ret
    exact ⟨rfl,HB.out⟩
  · rw [pbE_bo hz]
    have hne:((boE L R:Int) != 0) = true:=by simpa using hz
    clear hz
    generalize boE L R = m at *
    have HBO:=Lib.hid hbo;clear hbo
    go_enter Tryz.func47,Tryz.ntmps47
    go_wp2_with (first | (with_reducible refine ((HBO.out _ HL.out HN.out).mono ?_);rintro e w' ⟨rfl,hb⟩;replace HK:=Lib.hid (HK.out.keep hb);clear k0 k1 kf0 kf1;replace HL:=Lib.hid (EfsAt.kept HL.out hb);replace HN:=Lib.hid (RunsAt.kept HN.out hb);replace HB:=Lib.hid (bch' HB.out hb);clear hb;obtain ⟨k0,k1,kf0,kf1⟩:=HK.out.c2))
    go_ret
    exact ⟨rfl,HB.out⟩
theorem own_eof (L : List Efx) (R : List Rnx) (v u : Value) (n t ch at_ : Int) (w : World) (hl : EfsAt w v L) (hr : RunsAt w u R) (n0 : -9223372036854775808 ≤ n) (n1 : n ≤ 9223372036854775807) (env : Env w) :
    Calls Tryz.prog 17 #[v,u,.int .i64 n,.int .i64 t,.agg #[.int .i64 ch,.int .i64 at_]] w fun e w' => e = .returned (.tuple #[.string ⟨((ofE L R n t ch at_).1).toArray⟩,.int .i64 ((ofE L R n t ch at_).2)]) ∧ Below w.heap.size w w':=by
  have hpa:=fun W (h:EfsAt W v L) (h2:RunsAt W u R) => own_eparam L R v u ch at_ W h h2
  have hal:=(Below.refl w.heap.size w).alloc (Nat.le_refl _) (.cells #[.int .i64 ch,.int .i64 at_] 45)
  have HL:=Lib.hid (hl.kept hal);have HN:=Lib.hid (hr.kept hal)
  have ENV:=Lib.hid env;clear env
  have HK:=Lib.hid (Blk.new w 45 #[.int .i64 ch,.int .i64 at_])
  have HB:=Lib.hid ((Below.refl w.heap.size w).alloc (Nat.le_refl _) (.cells #[.int .i64 ch,.int .i64 at_] 45))
  obtain ⟨k0,k1,kf0,kf1⟩:=HK.out.c2
  by_cases hz:pbE L R ch at_ = 0
  · have hok:=ordOk (show ordE rnE (·.ef) R = 0 from (pbE_zero hz).2.1)
    obtain ⟨i,hit,hq⟩:=belongs_key hok n
    cases hit with
    | false =>
      have hno:∀ j,j < R.length → keyAt (·.ef) R j ≠ n:=hq.miss
      have hfi:=fun W (h:RunsAt W u R) => (show Calls Tryz.prog 40 #[u,.int .i64 n,.func (.func 38) #[] #[]] W fun e w' => ∃ i:Nat,e = .returned (.tuple #[.int .i64 (i:Int),.bool false]) ∧ Below W.heap.size W w' from by
        obtain ⟨M,p,c,rfl,hM,hRX,-⟩:=h
        exact own_find_run_no n R M p c W hM hRX hok n0 n1 hno)
      rw [ofE_no hz (find_miss hno)]
      rw [hz] at hpa
      dsimp only
      clear hz hl hr hal hok hno hq
      have HPA:=Lib.hid hpa;clear hpa
      have HFI:=Lib.hid hfi;clear hfi
      go_enter Tryz.func17,Tryz.ntmps17
      go_wp2_with (first | (with_reducible refine ((HPA.out _ HL.out HN.out).mono ?_);rintro e w' ⟨rfl,hb⟩;replace HK:=Lib.hid (HK.out.keep hb);clear k0 k1 kf0 kf1;replace HL:=Lib.hid (EfsAt.kept HL.out hb);replace HN:=Lib.hid (RunsAt.kept HN.out hb);replace HB:=Lib.hid (bch' HB.out hb);clear hb;obtain ⟨k0,k1,kf0,kf1⟩:=HK.out.c2) | (with_reducible refine ((HFI.out _ HN.out).mono ?_);rintro e w' ⟨i,rfl,hb⟩;replace HK:=Lib.hid (HK.out.keep hb);clear k0 k1 kf0 kf1;replace HL:=Lib.hid (EfsAt.kept HL.out hb);replace HN:=Lib.hid (RunsAt.kept HN.out hb);replace HB:=Lib.hid (bch' HB.out hb);clear hb;obtain ⟨k0,k1,kf0,kf1⟩:=HK.out.c2))
      go_ret2
      exact ⟨rfl,HB.out⟩
    | true =>
      have hb9:=hq
      have hil0:=(hb9.yes rfl).1
      have hn:1 ≤ n ∧ n ≤ 1048576:=by have:=(hb9.yes rfl).2;have:=rns_key hok i hil0;omega
      have hfi:=fun W (h:RunsAt W u R) => (show Calls Tryz.prog 40 #[u,.int .i64 n,.func (.func 38) #[] #[]] W fun e w' => e = .returned (.tuple #[.int .i64 (i:Int),.bool true]) ∧ Below W.heap.size W w' from by
        obtain ⟨M,p,c,rfl,hM,hRX,-⟩:=h
        exact own_find_run_at n R M p c W hM hRX hok hn i true hb9)
      rw [ofE_at hz hb9.find]
      rw [hz] at hpa
      obtain ⟨hzE,hzR,hzP⟩:=pbE_zero hz
      have hokE:=ordOk (show ordE efE (·.nu) L = 0 from hzE)
      obtain ⟨E0,pe0,ce0,rfl,hE0,hER,hEH⟩:=hl
      obtain ⟨M,pm,cm,rfl,hM,hMR,hMC⟩:=hr
      have hil:i < M.length:=by rw [← hM,List.length_map] at hil0;exact hil0
      obtain ⟨bb,oo,rfl,hbb,hCC⟩:=hMR (fun e => by subst e;exact absurd hil (Nat.not_lt_zero _))
      obtain ⟨y,hy⟩:∃ y,y = M[i]'hil:=⟨_,rfl⟩
      have hyr:R[i]'hil0 = y.1:=by subst hM;rw [List.getElem_map,hy]
      rw [hyr]
      have hyo:RnOk y.1:=by rw [← hyr];exact rnOk (hok.ok i hil0)
      have hcell:=hCC i hil
      rw [← hy] at hcell
      have HBb:=Lib.hid hbb
      have HX0:=Lib.hid (hcell 0 _ rfl);have HX1:=Lib.hid (hcell 1 _ rfl);have HX2:=Lib.hid (hcell 2 _ rfl);have HX3:=Lib.hid (hcell 3 _ rfl);have HX4:=Lib.hid (hcell 4 _ rfl);have HX5:=Lib.hid (hcell 5 _ rfl)
      have hyI:=(hMC y (by rw [hy];exact List.getElem_mem hil)).1
      have hii:(i:Int) < (M.length:Int):=by omega
      have hi0:(0:Int) ≤ (i:Int):=by omega
      have hlo:i * 6 < 9223372036854775807:=by have:=hok.few;omega
      have hto:=fun W (e:Env W) (hb:Below w.heap.size w W) => own_told E0 pe0 ce0 y.1.ef y.1.ce y.1.cr y.1.cd y.1.cl t ch at_ y.1.cs y.2.1 y.2.2.1 y.2.2.2 W (hER.kept hb) (hEH.kept hb) (by rw [hE0];exact hokE) (IntsAt.below hyI hb) hyo e
      rw [hE0] at hto
      change ∀ W (e:Env W) (hb:Below w.heap.size w W),Calls _ _ _ _ (fun e w' => e = .returned (.tuple #[.string ⟨((tolT L y.1 t ch at_).1).toArray⟩,.int .i64 (tolT L y.1 t ch at_).2]) ∧ _) at hto
      clear hz hal hok hokE hzE hzR hzP hn hq hb9 hil0 hE0 hER hEH hM hMR hMC hCC hcell hy hyr hyo hyI hbb hil
      generalize tolT L y.1 t ch at_ = T at *
      obtain ⟨tt,tm⟩:=T
      dsimp only at hto ⊢
      have HPA:=Lib.hid hpa;clear hpa
      have HFI:=Lib.hid hfi;clear hfi
      have HTO:=Lib.hid hto;clear hto
      go_enter Tryz.func17,Tryz.ntmps17
      go_wp2_with (first | (with_reducible refine ((HPA.out _ HL.out HN.out).mono ?_);rintro e w' ⟨rfl,hb⟩;replace HK:=Lib.hid (HK.out.keep hb);clear k0 k1 kf0 kf1;replace HL:=Lib.hid (EfsAt.kept HL.out hb);replace HN:=Lib.hid (RunsAt.kept HN.out hb);replace HB:=Lib.hid (bch' HB.out hb);clear hb;obtain ⟨k0,k1,kf0,kf1⟩:=HK.out.c2) | (with_reducible refine ((HFI.out _ HN.out).mono ?_);rintro e w' ⟨rfl,hb⟩;replace HK:=Lib.hid (HK.out.keep hb);clear k0 k1 kf0 kf1;replace HL:=Lib.hid (EfsAt.kept HL.out hb);replace HN:=Lib.hid (RunsAt.kept HN.out hb);replace HB:=Lib.hid (bch' HB.out hb);clear hb;obtain ⟨k0,k1,kf0,kf1⟩:=HK.out.c2))
      have x0:=fun p:BelowOf _ => ((bch' HB.out p.h).cell (p:=⟨bb,oo + i * 6,none⟩) HBb.out).trans HX0.out
      have x1:=fun p:BelowOf _ => ((bch' HB.out p.h).cell (p:=⟨bb,oo + i * 6 + 1,none⟩) HBb.out).trans HX1.out
      have x2:=fun p:BelowOf _ => ((bch' HB.out p.h).cell (p:=⟨bb,oo + i * 6 + 2,none⟩) HBb.out).trans HX2.out
      have x3:=fun p:BelowOf _ => ((bch' HB.out p.h).cell (p:=⟨bb,oo + i * 6 + 3,none⟩) HBb.out).trans HX3.out
      have x4:=fun p:BelowOf _ => ((bch' HB.out p.h).cell (p:=⟨bb,oo + i * 6 + 4,none⟩) HBb.out).trans HX4.out
      have x5:=fun p:BelowOf _ => ((bch' HB.out p.h).cell (p:=⟨bb,oo + i * 6 + 5,none⟩) HBb.out).trans HX5.out
      have g0:=fun p:BelowOf _ => (HK.out.keep p.h).c2.1
      have g1:=fun p:BelowOf _ => (HK.out.keep p.h).c2.2.1
      refine wp_region_WQ (by kernel_rfl) (by kernel_rfl) ?_
      repeat (refine WQ.step (fun K hK => ?_);go_simp;first | (refine hK.out _ ?_;clear hK K) | (apply Exists.intro;refine ⟨fun _ => ?_,hK.out _ ?_⟩;(first | rfl | (go_at_call 48;exact calls_below_of _ (HTO.out _ (ENV.out.below (bch' HB.out (BelowOf.h _))) (bch' HB.out (BelowOf.h _)))));clear hK K))
      refine WQ.nil ?_
      intro _ hw'
      obtain ⟨⟨wq,hbq⟩,hw2⟩:=hw'
      subst hw2
      replace HB:=Lib.hid (bch' HB.out hbq)
      clear x0 x1 x2 x3 x4 x5 g0 g1
      go_wp2_with fail
      go_ret2
      exact ⟨rfl,HB.out⟩
  · rw [ofE_pb hz]
    dsimp only
    have hne:((pbE L R ch at_:Int) != 0) = true:=by simpa using hz
    clear hz hl hr hal
    generalize pbE L R ch at_ = m at *
    have HPA:=Lib.hid hpa;clear hpa
    go_enter Tryz.func17,Tryz.ntmps17
    go_wp2_with (first | (with_reducible refine ((HPA.out _ HL.out HN.out).mono ?_);rintro e w' ⟨rfl,hb⟩;replace HK:=Lib.hid (HK.out.keep hb);clear k0 k1 kf0 kf1;replace HL:=Lib.hid (EfsAt.kept HL.out hb);replace HN:=Lib.hid (RunsAt.kept HN.out hb);replace HB:=Lib.hid (bch' HB.out hb);clear hb;obtain ⟨k0,k1,kf0,kf1⟩:=HK.out.c2))
    go_ret2
    exact ⟨rfl,HB.out⟩
theorem own_esum (L : List Efx) (R : List Rnx) (v u : Value) (t ch at_ : Int) (w : World) (hl : EfsAt w v L) (hr : RunsAt w u R) (env : Env w) :
    Calls Tryz.prog 19 #[v,u,.int .i64 t,.agg #[.int .i64 ch,.int .i64 at_]] w fun e w' => e = .returned (.tuple #[.string ⟨((suE L R t ch at_).1).toArray⟩,.int .i64 ((suE L R t ch at_).2)]) ∧ Below w.heap.size w w':=by
  have hpa:=fun W (h:EfsAt W v L) (h2:RunsAt W u R) => own_eparam L R v u ch at_ W h h2
  have hal:=(Below.refl w.heap.size w).alloc (Nat.le_refl _) (.cells #[.int .i64 ch,.int .i64 at_] 45)
  have HL:=Lib.hid (hl.kept hal);have HN:=Lib.hid (hr.kept hal)
  have ENV:=Lib.hid env;clear env
  have HK:=Lib.hid (Blk.new w 45 #[.int .i64 ch,.int .i64 at_])
  have HB:=Lib.hid ((Below.refl w.heap.size w).alloc (Nat.le_refl _) (.cells #[.int .i64 ch,.int .i64 at_] 45))
  obtain ⟨k0,k1,kf0,kf1⟩:=HK.out.c2
  by_cases hz:pbE L R ch at_ = 0
  · have hok:=ordOk (show ordE rnE (·.ef) R = 0 from (pbE_zero hz).2.1)
    have hokE:=ordOk (show ordE efE (·.nu) L = 0 from (pbE_zero hz).1)
    rw [hz] at hpa
    have HPZ:=Lib.hid hz
    obtain ⟨E0,pe0,ce0,rfl,hE0,hER,hEH⟩:=hl
    obtain ⟨M,pm,cm,rfl,hM,hMR,hMC⟩:=hr
    have HML:Hid (M.length = R.length):=Lib.hid (by rw [← hM,List.length_map])
    have HER:=Lib.hid hER;have HEH:=Lib.hid hEH;have HM:=Lib.hid hMR;have HC:=Lib.hid hMC;have HOK:=Lib.hid hok;have HOKE:=Lib.hid hokE
    clear hER hEH hMR hMC hok hokE hz hal
    have HPA:=Lib.hid hpa;clear hpa
    go_enter Tryz.func19,Tryz.ntmps19
    go_wp2_with (first | (with_reducible refine ((HPA.out _ HL.out HN.out).mono ?_);rintro e w' ⟨rfl,hb⟩;replace HK:=Lib.hid (HK.out.keep hb);clear k0 k1 kf0 kf1;replace HB:=Lib.hid (bch' HB.out hb);clear hb;obtain ⟨k0,k1,kf0,kf1⟩:=HK.out.c2))
    go_loopw [25,11] (fun s25 s11 wr => ∃ i r:Nat,s25 = .int .i64 (i:Int) ∧ s11 = .string ⟨(showR (sumQ L (R.take i) t ch at_)).toArray⟩ ∧ Hid (i + r = R.length) ∧ Hid (Below w.heap.size w wr) ∧ Hid (Blk wr w.heap.size 45 #[.int .i64 ch,.int .i64 at_]) ∧ Hid (atF t (R.drop i) = atF t R) ∧ Hid (∀ j (hj:j < R.length),j < i → moE (R[j]'hj).ce (R[j]'hj).cr (R[j]'hj).cd (R[j]'hj).cl t = 0)) (fun s25 _ _ => R.length - (intOf s25).toNat)
    case atStart => exact ⟨0,R.length,rfl,by rw [List.take_zero,sumQ_nil,showR_zero],Lib.hid (by omega),HB,HK,Lib.hid rfl,Lib.hid (fun j hj h => absurd h (Nat.not_lt_zero _))⟩
    case round =>
      clear HB HK k0 k1 kf0 kf1
      obtain ⟨i,r,rfl,rfl,hkr,HB,HK,HS,HZ⟩:=hrel
      obtain ⟨k0,k1,kf0,kf1⟩:=HK.out.c2
      cases r with
      | zero =>
        have hlt:¬ (i:Int) < (M.length:Int):=by have:=hkr.out;have:=HML.out;omega
        have hiR:i = R.length:=by have:=hkr.out;omega
        have HE:Hid (suE L R t ch at_ = (showR (sumQ L (R.take i) t ch at_),0)):=Lib.hid (by rw [hiR,List.take_length];exact suE_ok HPZ.out (by rw [← HS.out,hiR];exact atF_end))
        clear hiR
        go_wp2_with fail
        go_ret2
        exact ⟨by rw [HE.out];rfl,HB.out⟩
      | succ r =>
        have hkl:i < R.length:=by have:=hkr.out;omega
        have hlt:(i:Int) < (M.length:Int):=by have:=HML.out;omega
        have hi0:(0:Int) ≤ (i:Int):=by omega
        have hlo:i * 6 < 9223372036854775807:=by have:=HOK.out.few;omega
        have hun:IntKind.i64.wrap ((i:Int) + 1) = (i:Int) + 1:=IntWalk.i64_in _ (by have:=HOK.out.few;omega)
        have hil:i < M.length:=by rw [HML.out];exact hkl
        obtain ⟨bb,oo,rfl,hbb,hCC⟩:=HM.out (fun e => by subst e;exact absurd hil (Nat.not_lt_zero _))
        obtain ⟨y,hy⟩:∃ y,y = M[i]'hil:=⟨_,rfl⟩
        have hyr:R[i]'hkl = y.1:=by subst hM;rw [List.getElem_map,hy]
        have hyo:RnOk y.1:=by rw [← hyr];exact rnOk (HOK.out.ok i hkl)
        have hcell:=hCC i hil
        rw [← hy] at hcell
        have x0:wr.cell? ⟨bb,oo + i * 6,none⟩ = some (.int .i64 (y.1.ef)):=(HB.out.cell (p:=⟨bb,oo + i * 6 + 0,none⟩) hbb).trans (hcell 0 _ rfl)
        have x1:wr.cell? ⟨bb,oo + i * 6 + 1,none⟩ = some (.slice y.2.1 y.2.2.1 y.2.2.2):=(HB.out.cell (p:=⟨bb,oo + i * 6 + 1,none⟩) hbb).trans (hcell 1 _ rfl)
        have x2:wr.cell? ⟨bb,oo + i * 6 + 2,none⟩ = some (.int .i64 (y.1.ce)):=(HB.out.cell (p:=⟨bb,oo + i * 6 + 2,none⟩) hbb).trans (hcell 2 _ rfl)
        have x3:wr.cell? ⟨bb,oo + i * 6 + 3,none⟩ = some (.int .i64 (y.1.cr)):=(HB.out.cell (p:=⟨bb,oo + i * 6 + 3,none⟩) hbb).trans (hcell 3 _ rfl)
        have x4:wr.cell? ⟨bb,oo + i * 6 + 4,none⟩ = some (.int .i64 (y.1.cd)):=(HB.out.cell (p:=⟨bb,oo + i * 6 + 4,none⟩) hbb).trans (hcell 4 _ rfl)
        have x5:wr.cell? ⟨bb,oo + i * 6 + 5,none⟩ = some (.int .i64 (y.1.cl)):=(HB.out.cell (p:=⟨bb,oo + i * 6 + 5,none⟩) hbb).trans (hcell 5 _ rfl)
        have hbr:bb < wr.heap.size:=by have:=HB.out.size;omega
        have hyI:=(HC.out y (by rw [hy];exact List.getElem_mem hil)).1
        have hto:=fun W (e:Env W) (hb:Below w.heap.size w W) => own_told E0 pe0 ce0 y.1.ef y.1.ce y.1.cr y.1.cd y.1.cl t ch at_ y.1.cs y.2.1 y.2.2.1 y.2.2.2 W (HER.out.kept hb) (HEH.out.kept hb) (by rw [hE0];exact HOKE.out) (IntsAt.below hyI hb) hyo e
        rw [hE0] at hto
        change ∀ W (e:Env W) (hb:Below w.heap.size w W),Calls _ _ _ _ (fun e w' => e = .returned (.tuple #[.string ⟨((tolT L y.1 t ch at_).1).toArray⟩,.int .i64 (tolT L y.1 t ch at_).2]) ∧ _) at hto
        have hG:=Blk.new wr 68 #[.int .i64 (y.1.ef),.slice y.2.1 y.2.2.1 y.2.2.2,.int .i64 (y.1.ce),.int .i64 (y.1.cr),.int .i64 (y.1.cd),.int .i64 (y.1.cl)]
        have HG:=Lib.hid hG;clear hG
        replace HB:=Lib.hid (HB.out.alloc HB.out.size (.cells #[.int .i64 (y.1.ef),.slice y.2.1 y.2.2.1 y.2.2.2,.int .i64 (y.1.ce),.int .i64 (y.1.cr),.int .i64 (y.1.cd),.int .i64 (y.1.cl)] 68))
        replace HK:=Lib.hid (HK.out.alloc (.cells #[.int .i64 (y.1.ef),.slice y.2.1 y.2.2.1 y.2.2.2,.int .i64 (y.1.ce),.int .i64 (y.1.cr),.int .i64 (y.1.cd),.int .i64 (y.1.cl)] 68))
        clear k0 k1 kf0 kf1
        obtain ⟨k0,k1,kf0,kf1⟩:=HK.out.c2
        obtain ⟨g0,g1,g2,g3,g4,g5,gf0,gf1,gf2,gf3,gf4,gf5⟩:=HG.out.c6
        by_cases hz2:moE y.1.ce y.1.cr y.1.cd y.1.cl t = 0
        · have hz3:moE (R[i]'hkl).ce (R[i]'hkl).cr (R[i]'hkl).cd (R[i]'hkl).cl t = 0:=by rw [hyr];exact hz2
          rw [tolT_ok hz2] at hto
          dsimp only at hto
          have fs:=sumQ_fits1 (ch:=ch) (a:=at_) HOKE.out HOK.out (Nat.le_of_lt hkl) HZ.out
          have fq:=toldQ_fits (ch:=ch) (a:=at_) HOKE.out hyo hz2
          have had:=fun W (e:Env W) => own_radd (showR (sumQ L (R.take i) t ch at_)) (showR (toldQ L y.1 t ch at_)) W e (len_ok fs (by omega)) (len_ok fq (by omega))
          rw [add_gen fs fq (by omega)] at had
          dsimp only at had
          have hnx:sumQ L (R.take i) t ch at_ + toldQ L y.1 t ch at_ = sumQ L (R.take (i + 1)) t ch at_:=by rw [sumQ_take hkl,hyr]
          rw [hnx] at had
          have HS2:Hid (atF t (R.drop (i + 1)) = atF t R):=Lib.hid (by rw [← HS.out];exact (atF_drop_ok hkl hz3).symm)
          have HZ2:Hid (∀ j (hj:j < R.length),j < i + 1 → moE (R[j]'hj).ce (R[j]'hj).cr (R[j]'hj).cd (R[j]'hj).cl t = 0):=Lib.hid (fun j hj h => by by_cases e:j = i;(subst e;exact hz3);exact HZ.out j hj (by omega))
          clear hz2 hz3 hnx fs fq hcell hCC hy hyr hyo hyI hbb
          have HTO:=Lib.hid hto;clear hto
          have HAD:=Lib.hid had;clear had
          generalize toldQ L y.1 t ch at_ = q1 at *
          go_wp2_with (first | (with_reducible refine ((HTO.out _ (ENV.out.below HB.out) HB.out).mono ?_);rintro e w' ⟨rfl,hb⟩;replace HK:=Lib.hid (HK.out.keep hb);clear k0 k1 kf0 kf1;replace HG:=Lib.hid (HG.out.keep hb);clear g0 g1 g2 g3 g4 g5 gf0 gf1 gf2 gf3 gf4 gf5;replace HB:=Lib.hid (bch' HB.out hb);clear hb;obtain ⟨k0,k1,kf0,kf1⟩:=HK.out.c2;obtain ⟨g0,g1,g2,g3,g4,g5,gf0,gf1,gf2,gf3,gf4,gf5⟩:=HG.out.c6) | (with_reducible refine ((HAD.out _ (ENV.out.below HB.out)).mono ?_);rintro e w' ⟨rfl,hb⟩;replace HK:=Lib.hid (HK.out.keep hb);clear k0 k1 kf0 kf1;replace HG:=Lib.hid (HG.out.keep hb);clear g0 g1 g2 g3 g4 g5 gf0 gf1 gf2 gf3 gf4 gf5;replace HB:=Lib.hid (bch' HB.out hb);clear hb;obtain ⟨k0,k1,kf0,kf1⟩:=HK.out.c2;obtain ⟨g0,g1,g2,g3,g4,g5,gf0,gf1,gf2,gf3,gf4,gf5⟩:=HG.out.c6))
          go_roundw
          case rel => exact ⟨i + 1,r,rfl,by first | rfl | simp,Lib.hid (by have:=hkr.out;omega),HB,HK,HS2,HZ2⟩
          case measure => first | (simp [intOf];done) | (simp [intOf];omega)
        · have hz3:¬ moE (R[i]'hkl).ce (R[i]'hkl).cr (R[i]'hkl).cd (R[i]'hkl).cl t = 0:=by rw [hyr];exact hz2
          have hA:atF t R = moE y.1.ce y.1.cr y.1.cd y.1.cl t:=by rw [← HS.out,atF_drop_err hkl hz3,hyr]
          have HE:Hid (suE L R t ch at_ = ([],moE y.1.ce y.1.cr y.1.cd y.1.cl t)):=Lib.hid (by rw [← hA];exact suE_at HPZ.out (by rw [hA];exact hz2))
          rw [tolT_bad hz2] at hto
          dsimp only at hto
          have hne:((moE y.1.ce y.1.cr y.1.cd y.1.cl t:Int) != 0) = true:=by simpa using hz2
          clear hz2 hz3 hA hcell hCC hy hyr hyo hyI hbb
          have HTO:=Lib.hid hto;clear hto
          generalize moE y.1.ce y.1.cr y.1.cd y.1.cl t = m at *
          go_wp2_with (first | (with_reducible refine ((HTO.out _ (ENV.out.below HB.out) HB.out).mono ?_);rintro e w' ⟨rfl,hb⟩;replace HK:=Lib.hid (HK.out.keep hb);clear k0 k1 kf0 kf1;replace HG:=Lib.hid (HG.out.keep hb);clear g0 g1 g2 g3 g4 g5 gf0 gf1 gf2 gf3 gf4 gf5;replace HB:=Lib.hid (bch' HB.out hb);clear hb;obtain ⟨k0,k1,kf0,kf1⟩:=HK.out.c2;obtain ⟨g0,g1,g2,g3,g4,g5,gf0,gf1,gf2,gf3,gf4,gf5⟩:=HG.out.c6))
          go_ret2
          exact ⟨by rw [HE.out];rfl,HB.out⟩
  · rw [suE_pb hz]
    dsimp only
    have hne:((pbE L R ch at_:Int) != 0) = true:=by simpa using hz
    clear hz hl hr hal
    generalize pbE L R ch at_ = m at *
    have HPA:=Lib.hid hpa;clear hpa
    go_enter Tryz.func19,Tryz.ntmps19
    go_wp2_with (first | (with_reducible refine ((HPA.out _ HL.out HN.out).mono ?_);rintro e w' ⟨rfl,hb⟩;replace HK:=Lib.hid (HK.out.keep hb);clear k0 k1 kf0 kf1;replace HB:=Lib.hid (bch' HB.out hb);clear hb;obtain ⟨k0,k1,kf0,kf1⟩:=HK.out.c2))
    go_ret2
    exact ⟨rfl,HB.out⟩
end Go.Proofs.YtbeojahilbglcaaGreatDoor

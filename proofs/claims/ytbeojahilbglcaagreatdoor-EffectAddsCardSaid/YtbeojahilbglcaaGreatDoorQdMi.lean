/- A part of the proof of EffectAdds: contracts of functions, and plain facts. -/
import Derived.Test.YtbeojahilbglcaaGreatDoorQdMh
import Derived.Test.YtbeojahilbglcaaGreatDoorQdMe
import Derived.Deep.RegionHeld3
set_option maxHeartbeats 4000000
set_option linter.unusedVariables false
set_option linter.unusedSimpArgs false
namespace Lum
open Go Go.RowKit Go.Shelf
def NumAt (W:World) (b:Bool) (p:Option Addr) (n c:Nat) (x:Int):Prop:=b = decide (x < 0) ∧ MagAt W p n c x.natAbs
theorem NumAt.below {W W':World} {b:Bool} {p:Option Addr} {n c:Nat} {x:Int} (h:NumAt W b p n c x) (hb:Below W.heap.size W W'):NumAt W' b p n c x:=⟨h.1,h.2.below hb⟩
theorem NumAt.zero {W:World} {b:Bool} {p:Option Addr} {n c:Nat} {x:Int} (h:NumAt W b p n c x):n = 0 ↔ x = 0:=by
  rw [h.2.n,magL_nil];omega
theorem natsSet {k:IntKind} {W:World} {v:Value} {ws:List Nat} (h:NatsAt k W v ws) {a:Addr} {u:Value} (hc:W.cell? a = some u) (hu:∀ n:Int,u ≠ .int k n) (x:Value):NatsAt k (W.setCell a x) v ws:=by
  rcases h with h | ⟨b,of,c,e,h1,h2,h3,h4⟩
  · exact .inl h
  · refine .inr ⟨b,of,c,e,by simpa [World.setCell] using h1,h2,h3,fun j hj => ?_⟩
    have h5:=h4 j hj
    by_cases ha:a = ⟨b,of + j,none⟩
    · subst ha
      rw [hc] at h5
      exact absurd (Option.some.inj h5) (hu _)
    · rw [World.cell?_setCell_other (w:=W) (h:=ha)];exact h5
theorem natsSet2 {k : IntKind} {W : World} {v : Value} {ws : List Nat} (h : NatsAt k W v ws) {B : Nat} {b : Bool} {p : Option Addr} {n c : Nat} (h0 : W.cell? ⟨B, 0, none⟩ = some (.bool b)) (h1 : W.cell? ⟨B, 1, none⟩ = some (.slice p n c)) (x y : Value) :
    NatsAt k ((W.setCell ⟨B,0,none⟩ x).setCell ⟨B,1,none⟩ y) v ws:=by
  refine natsSet (natsSet h h0 (fun n e => by cases e) x) (u:=.slice p n c) ?_ (fun n e => by cases e) y
  rw [World.cell?_setCell_other (w:=W) (h:=by simp)];exact h1
theorem magSet2 {W : World} {p' : Option Addr} {n' c' m : Nat} (h : MagAt W p' n' c' m) {B : Nat} {b : Bool} {p : Option Addr} {n c : Nat} (h0 : W.cell? ⟨B, 0, none⟩ = some (.bool b)) (h1 : W.cell? ⟨B, 1, none⟩ = some (.slice p n c)) (x y : Value) :
    MagAt ((W.setCell ⟨B,0,none⟩ x).setCell ⟨B,1,none⟩ y) p' n' c' m:=⟨natsSet2 h.1 h0 h1 x y,h.2⟩
end Lum
namespace Go.Proofs.YtbeojahilbglcaaGreatDoor
open Go.RowKit Go.Shelf Lum
attribute [local go_sem] bs_get bs_extract_end bs_extract_from bs_extract bs_append
theorem num_negative (b : Bool) (p : Option Addr) (n c : Nat) (x : Int) (w : World) (h : NumAt w b p n c x) :
    Calls Tryz.prog 210 #[.agg #[.bool b,.slice p n c]] w fun e w' => ∃ b' p' n' c',e = .returned (.agg #[.bool b',.slice p' n' c']) ∧ NumAt w' b' p' n' c' (-x) ∧ Below w.heap.size w w':=by
  have hz:=h.zero
  have hb:=h.1
  have hm:=h.2
  have HZ:=Lib.hid hz;clear hz
  have HB:=Lib.hid hb;clear hb
  have HM:=Lib.hid hm;clear hm h
  have hB:=((Below.refl w.heap.size w).alloc (Nat.le_refl _) (.cells #[.bool b,.slice p n c] 245))
  cases b
  · go_enter Tryz.func210,Tryz.ntmps210
    go_wp2
    refine bodyPost_ret_by (v:=.agg #[.bool (decide (0 < n)),.slice p n c]) (by simp [results,Tryz.f210,go_sem]) rfl ?_
    have hbb:=hB.alloc (by simp) (.cells #[.bool (decide (0 < n)),.slice p n c] 245)
    refine ⟨_,p,n,c,rfl,⟨?_,?_⟩,hbb⟩
    · have h1:=HB.out
      have h2:=HZ.out
      have h3:¬ x < 0:=by simpa using h1.symm
      rw [decide_eq_decide];omega
    · rw [Int.natAbs_neg];exact HM.out.below hbb
  · go_enter Tryz.func210,Tryz.ntmps210
    go_wp2
    refine bodyPost_ret_by (v:=.agg #[.bool false,.slice p n c]) (by simp [results,Tryz.f210,go_sem]) rfl ?_
    have hbb:=hB.alloc (by simp) (.cells #[.bool false,.slice p n c] 245)
    refine ⟨_,p,n,c,rfl,⟨?_,?_⟩,hbb⟩
    · have h3:x < 0:=by simpa using HB.out.symm
      symm;rw [decide_eq_false_iff_not];omega
    · rw [Int.natAbs_neg];exact HM.out.below hbb
theorem num_sign (b : Bool) (p : Option Addr) (n c : Nat) (x : Int) (w : World) (h : NumAt w b p n c x) :
    Calls Tryz.prog 222 #[.agg #[.bool b,.slice p n c]] w fun e w' => e = .returned (.int .i64 (sgnZ x)) ∧ Below w.heap.size w w':=by
  have hz:=h.zero
  have hb:=h.1
  have HZ:=Lib.hid hz;clear hz
  have HB:=Lib.hid hb;clear hb h
  have hB:=((Below.refl w.heap.size w).alloc (Nat.le_refl _) (.cells #[.bool b,.slice p n c] 245))
  by_cases hn:n = 0
  · have HX0:Hid (x = 0):=HZ.out.1 hn
    subst hn
    go_enter Tryz.func222,Tryz.ntmps222
    go_wp2
    go_ret
    exact ⟨ret_int (by rw [HX0.out];rfl),hB⟩
  · have hx:x ≠ 0:=fun h => hn (HZ.out.2 h)
    have HX:=Lib.hid hx;clear hx
    have hn2:((n:Int) == 0) = false:=by rw [beq_eq_false_iff_ne];omega
    clear hn
    cases b
    · go_enter Tryz.func222,Tryz.ntmps222
      go_wp2
      go_ret
      have h3:¬ x < 0:=by simpa using HB.out.symm
      exact ⟨ret_int (by unfold sgnZ; have := HX.out; repeat' split
                         all_goals omega),hB⟩
    · go_enter Tryz.func222,Tryz.ntmps222
      go_wp2
      go_ret
      have h3:x < 0:=by simpa using HB.out.symm
      exact ⟨ret_int (by unfold sgnZ; have := HX.out; repeat' split
                         all_goals omega),hB⟩
end Go.Proofs.YtbeojahilbglcaaGreatDoor
namespace Go.Proofs.YtbeojahilbglcaaGreatDoor
open Go.RowKit Go.Shelf Lum
attribute [local go_sem] bs_get bs_extract_end bs_extract_from bs_extract bs_append
theorem num_product (b1 b2 : Bool) (p1 p2 : Option Addr) (n1 c1 n2 c2 : Nat) (x y : Int) (w : World) (h1 : NumAt w b1 p1 n1 c1 x) (h2 : NumAt w b2 p2 n2 c2 y) (hn1 : n1 ≤ 20000) (hn2 : n2 ≤ 20000) :
    Calls Tryz.prog 220 #[.agg #[.bool b1,.slice p1 n1 c1],.agg #[.bool b2,.slice p2 n2 c2]] w fun e w' => ∃ b' p' n' c',e = .returned (.agg #[.bool b',.slice p' n' c']) ∧ NumAt w' b' p' n' c' (x * y) ∧ Below w.heap.size w w':=by
  have hs1:=h1.1
  have hs2:=h2.1
  have HS1:=Lib.hid hs1;clear hs1
  have HS2:=Lib.hid hs2;clear hs2
  have hT:=fun W (hb:Below w.heap.size w W) => mag_times p1 p2 n1 c1 n2 c2 x.natAbs y.natAbs W (h1.2.below hb) (h2.2.below hb) (by omega) (by omega)
  have HT:=Lib.hid hT;clear hT h1 h2
  have hB:=(((Below.refl w.heap.size w).alloc (Nat.le_refl _) (.cells #[.bool b1,.slice p1 n1 c1] 245)).alloc (by simp) (.cells #[.bool b2,.slice p2 n2 c2] 245)).alloc (by simp;omega) (.cells #[.bool false,.slice none 0 0] 245)
  obtain ⟨w1,hw1⟩:∃ w1:World,w1 = ((w.alloc (.cells #[.bool b1,.slice p1 n1 c1] 245)).alloc (.cells #[.bool b2,.slice p2 n2 c2] 245)).alloc (.cells #[.bool false,.slice none 0 0] 245):=⟨_,rfl⟩
  rw [← hw1] at hB
  have k1:w1.cell? ⟨w.heap.size,0,none⟩ = some (.bool b1):=by rw [hw1];simp [go_sem]
  have k2:w1.cell? ⟨w.heap.size + 1,0,none⟩ = some (.bool b2):=by rw [hw1];simp [go_sem]
  have k3:w1.cell? ⟨w.heap.size + 1 + 1,0,none⟩ = some (.bool false):=by rw [hw1];simp [go_sem]
  have k4:w1.cell? ⟨w.heap.size + 1 + 1,1,none⟩ = some (.slice none 0 0):=by rw [hw1];simp [go_sem]
  have f3:w1.frozen? ⟨w.heap.size + 1 + 1,0,none⟩ = false:=by rw [hw1];simp [go_sem]
  have f4:w1.frozen? ⟨w.heap.size + 1 + 1,1,none⟩ = false:=by rw [hw1];simp [go_sem]
  have k5:w1.heap.size = w.heap.size + 3:=by rw [hw1];simp
  go_enter Tryz.func220,Tryz.ntmps220
  go_wp2_with fail
  rw [← hw1]
  clear hw1
  refine (HT.out _ hB).mono ?_
  rintro e w2 ⟨p',n',c',rfl,hM,hb⟩
  have HM:=Lib.hid hM;clear hM HT
  have j1:w2.cell? ⟨w.heap.size,0,none⟩ = some (.bool b1):=(hb.cell (p:=⟨w.heap.size,0,none⟩) (by simp;omega)).trans k1
  have j2:w2.cell? ⟨w.heap.size + 1,0,none⟩ = some (.bool b2):=(hb.cell (p:=⟨w.heap.size + 1,0,none⟩) (by simp;omega)).trans k2
  have j3:w2.cell? ⟨w.heap.size + 1 + 1,0,none⟩ = some (.bool false):=(hb.cell (p:=⟨w.heap.size + 1 + 1,0,none⟩) (by simp;omega)).trans k3
  have j4:w2.cell? ⟨w.heap.size + 1 + 1,1,none⟩ = some (.slice none 0 0):=(hb.cell (p:=⟨w.heap.size + 1 + 1,1,none⟩) (by simp;omega)).trans k4
  have g3:w2.frozen? ⟨w.heap.size + 1 + 1,0,none⟩ = false:=(hb.frozen (p:=⟨w.heap.size + 1 + 1,0,none⟩) (by simp;omega)).trans f3
  have g4:w2.frozen? ⟨w.heap.size + 1 + 1,1,none⟩ = false:=(hb.frozen (p:=⟨w.heap.size + 1 + 1,1,none⟩) (by simp;omega)).trans f4
  clear k1 k2 k3 k4 f3 f4
  have hb3:=bch' hB hb
  clear hB hb
  have res:∀ b',NumAt ((w2.setCell ⟨w.heap.size + 1 + 1,0,none⟩ (.bool b')).setCell ⟨w.heap.size + 1 + 1,1,none⟩ (.slice p' n' c')) b' p' n' c' (x * y) ∨ b' ≠ decide (x * y < 0):=by
    intro b'
    by_cases h:b' = decide (x * y < 0)
    · exact .inl ⟨h,by rw [Int.natAbs_mul];exact magSet2 HM.out j3 j4 _ _⟩
    · exact .inr h
  have hn0:n' = 0 ↔ x * y = 0:=by rw [HM.out.n,magL_nil,← Int.natAbs_mul];omega
  have HN0:=Lib.hid hn0;clear hn0
  have HRES:=Lib.hid res;clear res
  have bel:∀ b',Below w.heap.size w ((w2.setCell ⟨w.heap.size + 1 + 1,0,none⟩ (.bool b')).setCell ⟨w.heap.size + 1 + 1,1,none⟩ (.slice p' n' c')):=fun b' => (hb3.setCell (p:=⟨w.heap.size + 1 + 1,0,none⟩) (by simp;omega) _).setCell (p:=⟨w.heap.size + 1 + 1,1,none⟩) (by simp;omega) _
  have HBEL:=Lib.hid bel;clear bel
  have lem:∀ b',(b' = decide (x * y < 0)) → NumAt ((w2.setCell ⟨w.heap.size + 1 + 1,0,none⟩ (.bool b')).setCell ⟨w.heap.size + 1 + 1,1,none⟩ (.slice p' n' c')) b' p' n' c' (x * y):=fun b' h => (HRES.out b').resolve_right (fun h2 => h2 h)
  have HLEM:=Lib.hid lem;clear lem HRES
  have sgs:(b1 = b2 → 0 ≤ x * y) ∧ (b1 ≠ b2 → x * y ≤ 0):=by
    have e1:=HS1.out
    have e2:=HS2.out
    have d1:x < 0 ∨ 0 ≤ x:=by omega
    have d2:y < 0 ∨ 0 ≤ y:=by omega
    rcases d1 with d1 | d1 <;> rcases d2 with d2 | d2
    · refine ⟨fun _ => Int.mul_nonneg_of_nonpos_of_nonpos (by omega) (by omega),fun h => absurd ?_ h⟩
      rw [e1,e2];simp [d1,d2]
    · refine ⟨fun h => ?_,fun _ => Int.mul_nonpos_of_nonpos_of_nonneg (by omega) d2⟩
      rw [e1,e2] at h;simp [d1] at h;omega
    · refine ⟨fun h => ?_,fun _ => Int.mul_nonpos_of_nonneg_of_nonpos d1 (by omega)⟩
      rw [e1,e2] at h;simp [d2] at h;omega
    · refine ⟨fun _ => Int.mul_nonneg d1 d2,fun h => absurd ?_ h⟩
      rw [e1,e2,decide_eq_decide];omega
  have HSG:=Lib.hid sgs;clear sgs
  clear HS1 HS2
  cases b1 <;> cases b2
  · go_wp2_with fail
    refine bodyPost_ret_by (v:=.agg #[.bool false,.slice p' n' c']) (by simp [results,Tryz.f220,go_sem,j3,j4]) rfl ?_
    exact ⟨_,_,_,_,rfl,HLEM.out _ (by symm;rw [decide_eq_false_iff_not];have:=HSG.out.1 (by simp);omega),HBEL.out _⟩
  · go_wp2_with fail
    refine bodyPost_ret_by (v:=.agg #[.bool (decide (0 < n')),.slice p' n' c']) (by simp [results,Tryz.f220,go_sem,j3,j4]) rfl ?_
    exact ⟨_,_,_,_,rfl,HLEM.out _ (by rw [decide_eq_decide];have:=HSG.out.2 (by simp);have:=HN0.out;omega),HBEL.out _⟩
  · go_wp2_with fail
    refine bodyPost_ret_by (v:=.agg #[.bool (decide (0 < n')),.slice p' n' c']) (by simp [results,Tryz.f220,go_sem,j3,j4]) rfl ?_
    exact ⟨_,_,_,_,rfl,HLEM.out _ (by rw [decide_eq_decide];have:=HSG.out.2 (by simp);have:=HN0.out;omega),HBEL.out _⟩
  · go_wp2_with fail
    refine bodyPost_ret_by (v:=.agg #[.bool false,.slice p' n' c']) (by simp [results,Tryz.f220,go_sem,j3,j4]) rfl ?_
    exact ⟨_,_,_,_,rfl,HLEM.out _ (by symm;rw [decide_eq_false_iff_not];have:=HSG.out.1 (by simp);omega),HBEL.out _⟩
end Go.Proofs.YtbeojahilbglcaaGreatDoor
namespace Lum
open Go Go.RowKit Go.Shelf
structure Box3 (W : World) (B : Nat) (b1 : Bool) (p1 : Option Addr) (n1 c1 : Nat) (b2 : Bool) (p2 : Option Addr) (n2 c2 : Nat) (b3 : Bool) (p3 : Option Addr) (n3 c3 : Nat) : Prop where
  a0:W.cell? ⟨B,0,none⟩ = some (.bool b1)
  a1:W.cell? ⟨B,1,none⟩ = some (.slice p1 n1 c1)
  b0:W.cell? ⟨B + 1,0,none⟩ = some (.bool b2)
  b1:W.cell? ⟨B + 1,1,none⟩ = some (.slice p2 n2 c2)
  c0:W.cell? ⟨B + 1 + 1,0,none⟩ = some (.bool b3)
  c1:W.cell? ⟨B + 1 + 1,1,none⟩ = some (.slice p3 n3 c3)
  fa0:W.frozen? ⟨B,0,none⟩ = false
  fa1:W.frozen? ⟨B,1,none⟩ = false
  fb0:W.frozen? ⟨B + 1,0,none⟩ = false
  fb1:W.frozen? ⟨B + 1,1,none⟩ = false
  fc0:W.frozen? ⟨B + 1 + 1,0,none⟩ = false
  fc1:W.frozen? ⟨B + 1 + 1,1,none⟩ = false
  lt:B + 1 + 1 < W.heap.size
theorem Box3.below {W W':World} {B:Nat} {b1 b2 b3:Bool} {p1 p2 p3:Option Addr} {n1 c1 n2 c2 n3 c3:Nat} (h:Box3 W B b1 p1 n1 c1 b2 p2 n2 c2 b3 p3 n3 c3) {m:Nat} (hb:Below m W W') (hm:B + 1 + 1 < m):Box3 W' B b1 p1 n1 c1 b2 p2 n2 c2 b3 p3 n3 c3:=by
  have q1:B < m:=by omega
  have q2:B + 1 < m:=by omega
  exact ⟨(hb.cell (p := ⟨B, 0, none⟩) q1).trans h.a0, (hb.cell (p := ⟨B, 1, none⟩) q1).trans h.a1, (hb.cell (p := ⟨B + 1, 0, none⟩) q2).trans h.b0, (hb.cell (p := ⟨B + 1, 1, none⟩) q2).trans h.b1, (hb.cell (p := ⟨B + 1 + 1, 0, none⟩) hm).trans h.c0, (hb.cell (p := ⟨B + 1 + 1, 1, none⟩) hm).trans h.c1,
    (hb.frozen (p:=⟨B,0,none⟩) q1).trans h.fa0,(hb.frozen (p:=⟨B,1,none⟩) q1).trans h.fa1,(hb.frozen (p:=⟨B + 1,0,none⟩) q2).trans h.fb0,(hb.frozen (p:=⟨B + 1,1,none⟩) q2).trans h.fb1,(hb.frozen (p:=⟨B + 1 + 1,0,none⟩) hm).trans h.fc0,(hb.frozen (p:=⟨B + 1 + 1,1,none⟩) hm).trans h.fc1,Nat.lt_of_lt_of_le h.lt hb.size⟩
theorem Box3.new (w : World) (t : TypeId) (b1 b2 b3 : Bool) (p1 p2 p3 : Option Addr) (n1 c1 n2 c2 n3 c3 : Nat) :
    Box3 (((w.alloc (.cells #[.bool b1,.slice p1 n1 c1] t)).alloc (.cells #[.bool b2,.slice p2 n2 c2] t)).alloc (.cells #[.bool b3,.slice p3 n3 c3] t)) w.heap.size b1 p1 n1 c1 b2 p2 n2 c2 b3 p3 n3 c3:=by
  constructor <;> simp [go_sem]
end Lum
namespace Go.Proofs.YtbeojahilbglcaaGreatDoor
open Go.RowKit Go.Shelf Lum
attribute [local go_sem] bs_get bs_extract_end bs_extract_from bs_extract bs_append
theorem num_sum_same (b1 : Bool) (p1 p2 : Option Addr) (n1 c1 n2 c2 : Nat) (x y : Int) (w : World) (h1 : NumAt w b1 p1 n1 c1 x) (h2 : NumAt w b1 p2 n2 c2 y) (hn1 : n1 ≤ 50000) (hn2 : n2 ≤ 50000) :
    Calls Tryz.prog 208 #[.agg #[.bool b1,.slice p1 n1 c1],.agg #[.bool b1,.slice p2 n2 c2]] w fun e w' => ∃ b' p' n' c',e = .returned (.agg #[.bool b',.slice p' n' c']) ∧ NumAt w' b' p' n' c' (x + y) ∧ Below w.heap.size w w':=by
  have hs1:=h1.1
  have hs2:=h2.1
  have hT:=fun W (hb:Below w.heap.size w W) => mag_plus p1 p2 n1 c1 n2 c2 x.natAbs y.natAbs W (h1.2.below hb) (h2.2.below hb) (by omega) (by omega)
  have HT:=Lib.hid hT;clear hT h1 h2
  have sgs:b1 = decide (x + y < 0) ∧ x.natAbs + y.natAbs = (x + y).natAbs:=by
    have e:decide (x < 0) = decide (y < 0):=hs1.symm.trans hs2
    rw [decide_eq_decide] at e
    refine ⟨?_,by omega⟩
    rw [hs1,decide_eq_decide];omega
  have HSG:=Lib.hid sgs;clear sgs hs1 hs2
  have hB:=(((Below.refl w.heap.size w).alloc (Nat.le_refl _) (.cells #[.bool b1,.slice p1 n1 c1] 245)).alloc (by simp) (.cells #[.bool b1,.slice p2 n2 c2] 245)).alloc (by simp;omega) (.cells #[.bool false,.slice none 0 0] 245)
  have bx:=Box3.new w 245 b1 b1 false p1 p2 none n1 c1 n2 c2 0 0
  have beq:(b1 == b1) = true:=by simp
  go_enter Tryz.func208,Tryz.ntmps208
  go_wp2
  generalize ((w.alloc (.cells #[.bool b1,.slice p1 n1 c1] 245)).alloc (.cells #[.bool b1,.slice p2 n2 c2] 245)).alloc (.cells #[.bool false,.slice none 0 0] 245) = W0 at *
  obtain ⟨k1,k2,k3,k4,k5,k6,f1,f2,f3,f4,f5,f6,klt⟩:=id bx
  have HBX:=Lib.hid (bx.below ((Below.refl _ W0).drew) klt);clear bx
  go_region_with (go_at_call 224;refine (HT.out _ hB.drew).mono ?_;rintro e w4 ⟨p',n',c',rfl,hM,hb4⟩;have HM:=Lib.hid hM;clear hM;obtain ⟨g1,g2,g3,g4,g5,g6,e1,e2,e3,e4,e5,e6,glt⟩:=HBX.out.below hb4 klt)
  all_goals
    go_wp2
    refine bodyPost_ret_by (v:=.agg #[.bool b1,.slice p' n' c']) (by simp [results,Tryz.f208,go_sem,g5,g6]) rfl ?_
    have hbz:=hB.drew.trans (hb4.mono hB.drew.size)
    exact ⟨_,_,_,_,rfl,⟨HSG.out.1,by rw [← HSG.out.2];exact magSet2 HM.out g5 g6 _ _⟩,(hbz.setCell (p:=⟨w.heap.size + 1 + 1,0,none⟩) (by simp;omega) _).setCell (p:=⟨w.heap.size + 1 + 1,1,none⟩) (by simp;omega) _⟩
end Go.Proofs.YtbeojahilbglcaaGreatDoor
namespace Lum
open Go Go.RowKit Go.Shelf
theorem Box3.swap {W : World} {B : Nat} {b1 b2 b3 : Bool} {p1 p2 p3 : Option Addr} {n1 c1 n2 c2 n3 c3 : Nat} (h : Box3 W B b1 p1 n1 c1 b2 p2 n2 c2 b3 p3 n3 c3) :
    Box3 ((((W.setCell ⟨B,0,none⟩ (.bool b2)).setCell ⟨B,1,none⟩ (.slice p2 n2 c2)).setCell ⟨B + 1,0,none⟩ (.bool b1)).setCell ⟨B + 1,1,none⟩ (.slice p1 n1 c1)) B b2 p2 n2 c2 b1 p1 n1 c1 b3 p3 n3 c3:=by
  obtain ⟨a0,a1,k0,k1,c0,c1,fa0,fa1,fb0,fb1,fc0,fc1,lt⟩:=h
  constructor <;> simp [go_sem, *]
theorem sum_abs (x y:Int) (h:decide (x < 0) ≠ decide (y < 0)) (hle:y.natAbs ≤ x.natAbs):x.natAbs - y.natAbs = (x + y).natAbs ∧ (x + y < 0 ↔ x < 0 ∧ x.natAbs - y.natAbs ≠ 0):=by
  have:¬ (x < 0 ↔ y < 0):=by rwa [ne_eq,decide_eq_decide] at h
  omega
end Lum
namespace Go.Proofs.YtbeojahilbglcaaGreatDoor
open Go.RowKit Go.Shelf Lum
attribute [local go_sem] bs_get bs_extract_end bs_extract_from bs_extract bs_append
theorem num_sum_other (b1 b2 : Bool) (p1 p2 : Option Addr) (n1 c1 n2 c2 : Nat) (x y : Int) (w : World) (h1 : NumAt w b1 p1 n1 c1 x) (h2 : NumAt w b2 p2 n2 c2 y) (hn1 : n1 ≤ 50000) (hn2 : n2 ≤ 50000) (hne : b1 ≠ b2) :
    Calls Tryz.prog 208 #[.agg #[.bool b1,.slice p1 n1 c1],.agg #[.bool b2,.slice p2 n2 c2]] w fun e w' => ∃ b' p' n' c',e = .returned (.agg #[.bool b',.slice p' n' c']) ∧ NumAt w' b' p' n' c' (x + y) ∧ Below w.heap.size w w':=by
  have hs1:=h1.1
  have hs2:=h2.1
  have hC:=fun W (hb:Below w.heap.size w W) => mag_compare p1 p2 n1 c1 n2 c2 x.natAbs y.natAbs W (h1.2.below hb) (h2.2.below hb) (by omega) (by omega)
  have hL1:=fun W (hb:Below w.heap.size w W) (hle:y.natAbs ≤ x.natAbs) => mag_less p1 p2 n1 c1 n2 c2 x.natAbs y.natAbs W (h1.2.below hb) (h2.2.below hb) (by omega) (by omega) hle
  have hL2:=fun W (hb:Below w.heap.size w W) (hle:x.natAbs ≤ y.natAbs) => mag_less p2 p1 n2 c2 n1 c1 y.natAbs x.natAbs W (h2.2.below hb) (h1.2.below hb) (by omega) (by omega) hle
  have hd:decide (x < 0) ≠ decide (y < 0):=by rw [← hs1,← hs2];exact hne
  have HD:=Lib.hid hd;clear hd
  have HC:=Lib.hid hC;clear hC
  have HL1:=Lib.hid hL1;clear hL1
  have HL2:=Lib.hid hL2;clear hL2
  have HS1:=Lib.hid hs1;clear hs1
  have HS2:=Lib.hid hs2;clear hs2 h1 h2
  have hB:=(((Below.refl w.heap.size w).alloc (Nat.le_refl _) (.cells #[.bool b1,.slice p1 n1 c1] 245)).alloc (by simp) (.cells #[.bool b2,.slice p2 n2 c2] 245)).alloc (by simp;omega) (.cells #[.bool false,.slice none 0 0] 245)
  have bx:=Box3.new w 245 b1 b2 false p1 p2 none n1 c1 n2 c2 0 0
  have hbq:(b1 == b2) = false:=by simpa using hne
  have hmf:∀ (fn:Fn) (first cap:Array Value) (w:World),(Instr.makeFunc fn first cap).run Tryz.prog w = .ok (.func fn first cap) w:=fun _ _ _ _ => rfl
  go_enter Tryz.func208,Tryz.ntmps208
  go_wp2_with fail
  generalize ((w.alloc (.cells #[.bool b1,.slice p1 n1 c1] 245)).alloc (.cells #[.bool b2,.slice p2 n2 c2] 245)).alloc (.cells #[.bool false,.slice none 0 0] 245) = W0 at *
  refine (HC.out _ hB).mono ?_
  rintro e w4 ⟨z,rfl,hz,hb4⟩
  have hlt0:=bx.lt
  have bx4:=bx.below hb4 hlt0
  have hB4:=bch' hB hb4
  have hz0:w.heap.size + 1 + 1 < w4.heap.size:=bx4.lt
  clear hB bx hlt0 hb4
  by_cases hlt:x.natAbs < y.natAbs
  · have hzn:z < 0:=by unfold SgnOf at hz;omega
    have HL:=Lib.hid hlt;clear hlt hz
    have bx5:=bx4.swap
    have hB5:=(((hB4.setCell (p:=⟨w.heap.size,0,none⟩) (Nat.le_refl _) (.bool b2)).setCell (p:=⟨w.heap.size,1,none⟩) (Nat.le_refl _) (.slice p2 n2 c2)).setCell (p:=⟨w.heap.size + 1,0,none⟩) (by simp) (.bool b1)).setCell (p:=⟨w.heap.size + 1,1,none⟩) (by simp) (.slice p1 n1 c1)
    obtain ⟨W5,hW5⟩:∃ W5:World,W5 = (((w4.setCell ⟨w.heap.size,0,none⟩ (.bool b2)).setCell ⟨w.heap.size,1,none⟩ (.slice p2 n2 c2)).setCell ⟨w.heap.size + 1,0,none⟩ (.bool b1)).setCell ⟨w.heap.size + 1,1,none⟩ (.slice p1 n1 c1):=⟨_,rfl⟩
    rw [← hW5] at bx5 hB5
    have HW5:=Lib.hid hW5;clear hW5
    have HB5:=Lib.hid bx5
    have HBB5:=Lib.hid hB5
    obtain ⟨k1,k2,k3,k4,k5,k6,f1,f2,f3,f4,f5,f6,klt⟩:=bx4
    clear bx5 hB5 hB4
    go_wp2_with fail
    rw [← HW5.out]
    clear k1 k2 k3 k4 k5 k6 f1 f2 f3 f4 f5 f6 klt
    refine (HL2.out _ HBB5.out (Nat.le_of_lt HL.out)).mono ?_
    rintro e w6 ⟨p',n',c',rfl,hM,hb6⟩
    have HM:=Lib.hid hM;clear hM
    have hlt6:=HB5.out.lt
    obtain ⟨g1,g2,g3,g4,g5,g6,e1,e2,e3,e4,e5,e6,glt⟩:=HB5.out.below hb6 hlt6
    have HB6:=Lib.hid (bch' HBB5.out hb6);clear hb6
    have hx:=sum_abs y x (fun h => HD.out h.symm) (Nat.le_of_lt HL.out)
    have HX:=Lib.hid hx;clear hx
    have hn0:n' = 0 ↔ y.natAbs - x.natAbs = 0:=by rw [HM.out.n,magL_nil]
    have HN0:=Lib.hid hn0;clear hn0
    have HRES:Hid (∀ b',(b' = true ↔ x + y < 0) → NumAt ((w6.setCell ⟨w.heap.size + 1 + 1,0,none⟩ (.bool b')).setCell ⟨w.heap.size + 1 + 1,1,none⟩ (.slice p' n' c')) b' p' n' c' (x + y) ∧ Below w.heap.size w ((w6.setCell ⟨w.heap.size + 1 + 1,0,none⟩ (.bool b')).setCell ⟨w.heap.size + 1 + 1,1,none⟩ (.slice p' n' c'))):=by
      intro b' hb'
      refine ⟨⟨by rw [Bool.eq_iff_iff,hb'];simp,?_⟩,(HB6.out.setCell (p:=⟨w.heap.size + 1 + 1,0,none⟩) (by simp;omega) _).setCell (p:=⟨w.heap.size + 1 + 1,1,none⟩) (by simp;omega) _⟩
      have hh:y.natAbs - x.natAbs = (x + y).natAbs:=by have:=HX.out.1;rw [Int.add_comm y x] at this;exact this
      rw [← hh]
      exact magSet2 HM.out g5 g6 _ _
    cases b2
    · go_wp2_with fail
      refine bodyPost_ret_by (v:=.agg #[.bool false,.slice p' n' c']) (by simp [results,Tryz.f208,go_sem,g5,g6]) rfl ?_
      exact ⟨_, _, _, _, rfl, HRES.out _ (by have h1 := HS2.out; have h2 : ¬ y < 0 := by simpa using h1.symm
                                             have h3:=HX.out.2;rw [Int.add_comm y x] at h3
                                             simp only [Bool.false_eq_true,false_iff];omega)⟩
    · go_wp2_with fail
      refine bodyPost_ret_by (v:=.agg #[.bool (decide (0 < n')),.slice p' n' c']) (by simp [results,Tryz.f208,go_sem,g5,g6]) rfl ?_
      exact ⟨_, _, _, _, rfl, HRES.out _ (by have h1 := HS2.out; have h2 : y < 0 := by simpa using h1.symm
                                             have h3:=HX.out.2;rw [Int.add_comm y x] at h3
                                             have h4:=HN0.out
                                             rw [decide_eq_true_eq];omega)⟩
  · have hzn:¬ z < 0:=by unfold SgnOf at hz;omega
    have hle:y.natAbs ≤ x.natAbs:=by omega
    have HL:=Lib.hid hle;clear hle hlt hz
    have HB4:=Lib.hid bx4
    have HBB4:=Lib.hid hB4
    obtain ⟨k1,k2,k3,k4,k5,k6,f1,f2,f3,f4,f5,f6,klt⟩:=bx4
    clear hB4
    go_wp2_with fail
    clear k1 k2 k3 k4 k5 k6 f1 f2 f3 f4 f5 f6 klt
    refine (HL1.out _ HBB4.out HL.out).mono ?_
    rintro e w6 ⟨p',n',c',rfl,hM,hb6⟩
    have HM:=Lib.hid hM;clear hM
    have hlt6:=HB4.out.lt
    obtain ⟨g1,g2,g3,g4,g5,g6,e1,e2,e3,e4,e5,e6,glt⟩:=HB4.out.below hb6 hlt6
    have HB6:=Lib.hid (bch' HBB4.out hb6);clear hb6
    have hx:=sum_abs x y HD.out HL.out
    have HX:=Lib.hid hx;clear hx
    have hn0:n' = 0 ↔ x.natAbs - y.natAbs = 0:=by rw [HM.out.n,magL_nil]
    have HN0:=Lib.hid hn0;clear hn0
    have HRES:Hid (∀ b',(b' = true ↔ x + y < 0) → NumAt ((w6.setCell ⟨w.heap.size + 1 + 1,0,none⟩ (.bool b')).setCell ⟨w.heap.size + 1 + 1,1,none⟩ (.slice p' n' c')) b' p' n' c' (x + y) ∧ Below w.heap.size w ((w6.setCell ⟨w.heap.size + 1 + 1,0,none⟩ (.bool b')).setCell ⟨w.heap.size + 1 + 1,1,none⟩ (.slice p' n' c'))):=by
      intro b' hb'
      refine ⟨⟨by rw [Bool.eq_iff_iff,hb'];simp,?_⟩,(HB6.out.setCell (p:=⟨w.heap.size + 1 + 1,0,none⟩) (by simp;omega) _).setCell (p:=⟨w.heap.size + 1 + 1,1,none⟩) (by simp;omega) _⟩
      have hh:x.natAbs - y.natAbs = (x + y).natAbs:=HX.out.1
      rw [← hh]
      exact magSet2 HM.out g5 g6 _ _
    cases b1
    · go_wp2_with fail
      refine bodyPost_ret_by (v:=.agg #[.bool false,.slice p' n' c']) (by simp [results,Tryz.f208,go_sem,g5,g6]) rfl ?_
      exact ⟨_, _, _, _, rfl, HRES.out _ (by have h1 := HS1.out; have h2 : ¬ x < 0 := by simpa using h1.symm
                                             have h3:=HX.out.2
                                             simp only [Bool.false_eq_true,false_iff];omega)⟩
    · go_wp2_with fail
      refine bodyPost_ret_by (v:=.agg #[.bool (decide (0 < n')),.slice p' n' c']) (by simp [results,Tryz.f208,go_sem,g5,g6]) rfl ?_
      exact ⟨_, _, _, _, rfl, HRES.out _ (by have h1 := HS1.out; have h2 : x < 0 := by simpa using h1.symm
                                             have h3:=HX.out.2
                                             have h4:=HN0.out
                                             rw [decide_eq_true_eq];omega)⟩
theorem num_sum (b1 b2 : Bool) (p1 p2 : Option Addr) (n1 c1 n2 c2 : Nat) (x y : Int) (w : World) (h1 : NumAt w b1 p1 n1 c1 x) (h2 : NumAt w b2 p2 n2 c2 y) (hn1 : n1 ≤ 50000) (hn2 : n2 ≤ 50000) :
    Calls Tryz.prog 208 #[.agg #[.bool b1,.slice p1 n1 c1],.agg #[.bool b2,.slice p2 n2 c2]] w fun e w' => ∃ b' p' n' c',e = .returned (.agg #[.bool b',.slice p' n' c']) ∧ NumAt w' b' p' n' c' (x + y) ∧ Below w.heap.size w w':=by
  by_cases h:b1 = b2
  · subst h
    exact num_sum_same b1 p1 p2 n1 c1 n2 c2 x y w h1 h2 hn1 hn2
  · exact num_sum_other b1 b2 p1 p2 n1 c1 n2 c2 x y w h1 h2 hn1 hn2 h
end Go.Proofs.YtbeojahilbglcaaGreatDoor
namespace Lum
open Go Go.RowKit Go.Shelf
theorem quot_all (x y : Int) (hy : y ≠ 0) :
    (decide (x < 0) = decide (y < 0) → (x.fdiv y).natAbs = x.natAbs / y.natAbs ∧ ¬ x.fdiv y < 0 ∧ (x.fmod y).natAbs = x.natAbs % y.natAbs ∧ (x.fmod y < 0 ↔ y < 0 ∧ x.natAbs % y.natAbs ≠ 0)) ∧
    (decide (x < 0) ≠ decide (y < 0) → x.natAbs % y.natAbs = 0 → (x.fdiv y).natAbs = x.natAbs / y.natAbs ∧ (x.fdiv y < 0 ↔ x.natAbs / y.natAbs ≠ 0) ∧ (x.fmod y).natAbs = x.natAbs % y.natAbs ∧ ¬ x.fmod y < 0) ∧
    (decide (x < 0) ≠ decide (y < 0) → x.natAbs % y.natAbs ≠ 0 → (x.fdiv y).natAbs = x.natAbs / y.natAbs + 1 ∧ x.fdiv y < 0 ∧ (x.fmod y).natAbs = y.natAbs - x.natAbs % y.natAbs ∧ (x.fmod y < 0 ↔ y < 0)):=by
  have hf:=fdiv_abs x y hy
  have hm:=Int.fmod_def x y
  have hd:=Nat.div_add_mod x.natAbs y.natAbs
  have hl:=Nat.mod_lt x.natAbs (show y.natAbs > 0 by omega)
  have hd':((y.natAbs:Int)) * ((x.natAbs / y.natAbs:Nat):Int) + ((x.natAbs % y.natAbs:Nat):Int) = (x.natAbs:Int):=by exact_mod_cast hd
  clear hd
  generalize x.natAbs / y.natAbs = q at *
  generalize x.natAbs % y.natAbs = r at *
  have hys:y = (y.natAbs:Int) ∧ 0 < y ∨ y = -(y.natAbs:Int) ∧ y < 0:=by omega
  have hxs:x = (x.natAbs:Int) ∧ 0 ≤ x ∨ x = -(x.natAbs:Int) ∧ x < 0:=by omega
  have key:∀ F:Int,x.fdiv y = F → x.fmod y = x - y * F:=fun F h => by rw [hm,h]
  clear hm
  refine ⟨fun hs => ?_,fun hs h0 => ?_,fun hs h0 => ?_⟩
  · rw [if_neg (by simp [hs])] at hf
    have hk:=key _ hf
    rw [hf]
    have hs':x < 0 ↔ y < 0:=by rwa [decide_eq_decide] at hs
    rcases hys with ⟨h1,h2⟩ | ⟨h1,h2⟩
    · have e:=congrArg (· * (q:Int)) h1
      omega
    · have e:=congrArg (· * (q:Int)) h1
      rw [Int.neg_mul] at e
      omega
  · rw [if_pos (by simpa using hs),if_pos h0] at hf
    have hs':¬ (x < 0 ↔ y < 0):=by rwa [ne_eq,decide_eq_decide] at hs
    have hf2:x.fdiv y = -(q:Int):=by rw [hf];omega
    have hk:=key _ hf2
    rw [hf2]
    rw [Int.mul_neg] at hk
    rcases hys with ⟨h1,h2⟩ | ⟨h1,h2⟩
    · have e:=congrArg (· * (q:Int)) h1
      omega
    · have e:=congrArg (· * (q:Int)) h1
      rw [Int.neg_mul] at e
      omega
  · rw [if_pos (by simpa using hs),if_neg h0] at hf
    have hs':¬ (x < 0 ↔ y < 0):=by rwa [ne_eq,decide_eq_decide] at hs
    have hk:=key _ hf
    rw [hf]
    rw [Int.mul_neg,Int.mul_add,Int.mul_one] at hk
    rcases hys with ⟨h1,h2⟩ | ⟨h1,h2⟩
    · have e:=congrArg (· * (q:Int)) h1
      omega
    · have e:=congrArg (· * (q:Int)) h1
      rw [Int.neg_mul] at e
      omega
structure NBox (W : World) (B : Nat) (b : Bool) (p : Option Addr) (n c : Nat) : Prop where
  a0:W.cell? ⟨B,0,none⟩ = some (.bool b)
  a1:W.cell? ⟨B,1,none⟩ = some (.slice p n c)
  f0:W.frozen? ⟨B,0,none⟩ = false
  f1:W.frozen? ⟨B,1,none⟩ = false
  lt:B < W.heap.size
theorem NBox.below {W W':World} {B:Nat} {b:Bool} {p:Option Addr} {n c:Nat} (h:NBox W B b p n c) {m:Nat} (hb:Below m W W') (hm:B < m):NBox W' B b p n c :=
  ⟨(hb.cell (p:=⟨B,0,none⟩) hm).trans h.a0,(hb.cell (p:=⟨B,1,none⟩) hm).trans h.a1,(hb.frozen (p:=⟨B,0,none⟩) hm).trans h.f0,(hb.frozen (p:=⟨B,1,none⟩) hm).trans h.f1,Nat.lt_of_lt_of_le h.lt hb.size⟩
theorem NBox.keep {W W':World} {B:Nat} {b:Bool} {p:Option Addr} {n c:Nat} (h:NBox W B b p n c) (hb:Below W.heap.size W W'):NBox W' B b p n c:=h.below hb h.lt
theorem NBox.new (W:World) (t:TypeId) (b:Bool) (p:Option Addr) (n c:Nat):NBox (W.alloc (.cells #[.bool b,.slice p n c] t)) W.heap.size b p n c:=by
  constructor <;> simp [go_sem]
theorem NBox.alloc {W:World} {B:Nat} {b:Bool} {p:Option Addr} {n c:Nat} (h:NBox W B b p n c) (o:Obj):NBox (W.alloc o) B b p n c:=h.keep ((Below.refl _ W).alloc (Nat.le_refl _) o)
theorem NBox.other {W:World} {B:Nat} {b:Bool} {p:Option Addr} {n c:Nat} (h:NBox W B b p n c) {a:Addr} (ha:a.block ≠ B) (v:Value):NBox (W.setCell a v) B b p n c:=by
  have hne:∀ o:Nat,a ≠ ⟨B,o,none⟩:=fun o e => ha (by rw [e])
  exact ⟨(World.cell?_setCell_other (w:=W) (h:=hne 0) (v:=v)).trans h.a0,(World.cell?_setCell_other (w:=W) (h:=hne 1) (v:=v)).trans h.a1,by rw [World.frozen?_setCell];exact h.f0,by rw [World.frozen?_setCell];exact h.f1,by simpa [World.setCell] using h.lt⟩
theorem NBox.set {W:World} {B:Nat} {b:Bool} {p:Option Addr} {n c:Nat} (h:NBox W B b p n c) (b':Bool) (p':Option Addr) (n' c':Nat):NBox ((W.setCell ⟨B,0,none⟩ (.bool b')).setCell ⟨B,1,none⟩ (.slice p' n' c')) B b' p' n' c':=by
  obtain ⟨a0,a1,f0,f1,lt⟩:=h
  constructor <;> simp [go_sem, *]
theorem quot_post {w w6 : World} {B2 B3 : Nat} {q r : Int} {pq pr : Option Addr} {nq cq nr cr : Nat} (hB : Below w.heap.size w w6) (h2 : NBox w6 B2 false none 0 0) (h3 : NBox w6 B3 false none 0 0) (hne : B2 ≠ B3) (l2 : w.heap.size ≤ B2) (l3 : w.heap.size ≤ B3)
    (hq:MagAt w6 pq nq cq q.natAbs) (hr:MagAt w6 pr nr cr r.natAbs) (bq br:Bool) (eq:bq = true ↔ q < 0) (er:br = true ↔ r < 0) :
    NumAt ((((w6.setCell ⟨B2,0,none⟩ (.bool bq)).setCell ⟨B2,1,none⟩ (.slice pq nq cq)).setCell ⟨B3,0,none⟩ (.bool br)).setCell ⟨B3,1,none⟩ (.slice pr nr cr)) bq pq nq cq q ∧
    NumAt ((((w6.setCell ⟨B2,0,none⟩ (.bool bq)).setCell ⟨B2,1,none⟩ (.slice pq nq cq)).setCell ⟨B3,0,none⟩ (.bool br)).setCell ⟨B3,1,none⟩ (.slice pr nr cr)) br pr nr cr r ∧
    Below w.heap.size w ((((w6.setCell ⟨B2,0,none⟩ (.bool bq)).setCell ⟨B2,1,none⟩ (.slice pq nq cq)).setCell ⟨B3,0,none⟩ (.bool br)).setCell ⟨B3,1,none⟩ (.slice pr nr cr)):=by
  have h3':=(h3.other (a:=⟨B2,0,none⟩) hne (.bool bq)).other (a:=⟨B2,1,none⟩) hne (.slice pq nq cq)
  refine ⟨⟨by rw [Bool.eq_iff_iff,eq];simp,magSet2 (magSet2 hq h2.a0 h2.a1 _ _) h3'.a0 h3'.a1 _ _⟩,⟨by rw [Bool.eq_iff_iff,er];simp,magSet2 (magSet2 hr h2.a0 h2.a1 _ _) h3'.a0 h3'.a1 _ _⟩,?_⟩
  exact (((hB.setCell (p:=⟨B2,0,none⟩) l2 _).setCell (p:=⟨B2,1,none⟩) l2 _).setCell (p:=⟨B3,0,none⟩) l3 _).setCell (p:=⟨B3,1,none⟩) l3 _
end Lum
namespace Go.Proofs.YtbeojahilbglcaaGreatDoor
open Go.RowKit Go.Shelf Lum
attribute [local go_sem] bs_get bs_extract_end bs_extract_from bs_extract bs_append
theorem num_quotient_same (b : Bool) (p1 p2 : Option Addr) (n1 c1 n2 c2 : Nat) (x y : Int) (w : World) (h1 : NumAt w b p1 n1 c1 x) (h2 : NumAt w b p2 n2 c2 y) (hn1 : n1 ≤ 20000) (hn2 : n2 ≤ 20000) (hy : y ≠ 0) :
    Calls Tryz.prog 231 #[.agg #[.bool b,.slice p1 n1 c1],.agg #[.bool b,.slice p2 n2 c2]] w fun e w' => ∃ bq pq nq cq br pr nr cr,e = .returned (.tuple #[.agg #[.bool bq,.slice pq nq cq],.agg #[.bool br,.slice pr nr cr]]) ∧ NumAt w' bq pq nq cq (x.fdiv y) ∧ NumAt w' br pr nr cr (x.fmod y) ∧ Below w.heap.size w w':=by
  have hs2:=h2.1
  have hd:decide (x < 0) = decide (y < 0):=h1.1.symm.trans h2.1
  have hq:=(quot_all x y hy).1 hd
  have hD:=fun W (hb:Below w.heap.size w W) => mag_divided p1 p2 n1 c1 n2 c2 x.natAbs y.natAbs W (h1.2.below hb) (h2.2.below hb) (by omega) (by omega) (by omega)
  have HQ:=Lib.hid hq;clear hq
  have HD:=Lib.hid hD;clear hD hd
  have HS2:=Lib.hid hs2;clear hs2 h1 h2
  have hB:=((((Below.refl w.heap.size w).alloc (Nat.le_refl _) (.cells #[.bool b,.slice p1 n1 c1] 245)).alloc (by simp) (.cells #[.bool b,.slice p2 n2 c2] 245)).alloc (by simp;omega) (.cells #[.bool false,.slice none 0 0] 245)).alloc (by simp;omega) (.cells #[.bool false,.slice none 0 0] 245)
  have x1:=(((NBox.new w 245 b p1 n1 c1).alloc (.cells #[.bool b,.slice p2 n2 c2] 245)).alloc (.cells #[.bool false,.slice none 0 0] 245)).alloc (.cells #[.bool false,.slice none 0 0] 245)
  have x2:=((NBox.new (w.alloc (.cells #[.bool b,.slice p1 n1 c1] 245)) 245 b p2 n2 c2).alloc (.cells #[.bool false,.slice none 0 0] 245)).alloc (.cells #[.bool false,.slice none 0 0] 245)
  have x3:=(NBox.new ((w.alloc (.cells #[.bool b,.slice p1 n1 c1] 245)).alloc (.cells #[.bool b,.slice p2 n2 c2] 245)) 245 false none 0 0).alloc (.cells #[.bool false,.slice none 0 0] 245)
  have x4:=NBox.new (((w.alloc (.cells #[.bool b,.slice p1 n1 c1] 245)).alloc (.cells #[.bool b,.slice p2 n2 c2] 245)).alloc (.cells #[.bool false,.slice none 0 0] 245)) 245 false none 0 0
  simp only [World.size_alloc] at x2 x3 x4
  have beq:(b != b) = false:=by simp
  go_enter Tryz.func231,Tryz.ntmps231
  go_wp2_with fail
  generalize (((w.alloc (.cells #[.bool b,.slice p1 n1 c1] 245)).alloc (.cells #[.bool b,.slice p2 n2 c2] 245)).alloc (.cells #[.bool false,.slice none 0 0] 245)).alloc (.cells #[.bool false,.slice none 0 0] 245) = W0 at *
  refine (HD.out _ hB).mono ?_
  rintro e w1 ⟨pq,nq,cq,pr,nr,cr,rfl,hMq,hMr,hb1⟩
  have HMQ:=Lib.hid hMq;clear hMq
  have HMR:=Lib.hid hMr;clear hMr
  have hbz:=bch' hB hb1
  have y1:=x1.keep hb1
  have y2:=x2.keep hb1
  have y3:=x3.keep hb1
  have y4:=x4.keep hb1
  have HBZ:=Lib.hid hbz;clear hbz hB hb1 x1 x2 x3 x4
  have HRES:=fun bq br eq er => quot_post (q:=x.fdiv y) (r:=x.fmod y) HBZ.out y3 y4 (by simp) (by omega) (by omega) (by rw [HQ.out.1];exact HMQ.out) (by rw [HQ.out.2.2.1];exact HMR.out) bq br eq er
  have HRS:=Lib.hid HRES;clear HRES
  have hnr:nr = 0 ↔ x.natAbs % y.natAbs = 0:=by rw [HMR.out.n,magL_nil]
  have HNR:=Lib.hid hnr;clear hnr
  obtain ⟨k1,k2,f1,f2,l1⟩:=y1
  obtain ⟨k3,k4,f3,f4,l3⟩:=y2
  obtain ⟨k5,k6,f5,f6,l5⟩:=y3
  obtain ⟨k7,k8,f7,f8,l7⟩:=y4
  cases b
  · go_wp2_with fail
    refine bodyPost_ret_by (v:=.tuple #[.agg #[.bool false,.slice pq nq cq],.agg #[.bool false,.slice pr nr cr]]) (by simp [results,Tryz.f231,go_sem,k5,k6,k7,k8]) rfl ?_
    have hh:=HS2.out
    obtain ⟨a1,a2,a3⟩:=HRS.out false false (by simpa using HQ.out.2.1) (by rw [HQ.out.2.2.2];simp at hh;simp;omega)
    exact ⟨_,_,_,_,_,_,_,_,rfl,a1,a2,a3⟩
  · go_wp2_with fail
    refine bodyPost_ret_by (v:=.tuple #[.agg #[.bool false,.slice pq nq cq],.agg #[.bool (decide (0 < nr)),.slice pr nr cr]]) (by simp [results,Tryz.f231,go_sem,k5,k6,k7,k8]) rfl ?_
    have hh:=HS2.out
    have hn:=HNR.out
    obtain ⟨a1,a2,a3⟩:=HRS.out false (decide (0 < nr)) (by simpa using HQ.out.2.1) (by rw [HQ.out.2.2.2];simp at hh;rw [decide_eq_true_eq];omega)
    exact ⟨_,_,_,_,_,_,_,_,rfl,a1,a2,a3⟩
end Go.Proofs.YtbeojahilbglcaaGreatDoor
namespace Lum
open Go Go.RowKit Go.Shelf
theorem keepS {w1 W W':World} {a:Addr} {v:Value} (hS:Below w1.heap.size w1 W ∧ W.cell? a = some v) (hb:Below W.heap.size W W') (ha:a.block < w1.heap.size):Below w1.heap.size w1 W' ∧ W'.cell? a = some v :=
  ⟨bch' hS.1 hb,(hb.cell (Nat.lt_of_lt_of_le ha hS.1.size)).trans hS.2⟩
theorem keepS_alloc {w1 W:World} {a:Addr} {v:Value} (hS:Below w1.heap.size w1 W ∧ W.cell? a = some v) (o:Obj) (ha:a.block < w1.heap.size):Below w1.heap.size w1 (W.alloc o) ∧ (W.alloc o).cell? a = some v :=
  keepS hS ((Below.refl _ W).alloc (Nat.le_refl _) o) ha
theorem keepS_allocd {w1 W:World} {a:Addr} {v:Value} (hS:Below w1.heap.size w1 W.drew ∧ W.drew.cell? a = some v) (o:Obj) (ha:a.block < w1.heap.size):Below w1.heap.size w1 (W.alloc o).drew ∧ (W.alloc o).drew.cell? a = some v :=
  keepS hS (((Below.refl _ W.drew).alloc (Nat.le_refl _) o)) ha
theorem nats_u1 (k:IntKind) (e:TypeId) (W:World):NatsAt k (W.alloc (.cells #[.int k 1] e)) (.slice (some ⟨W.heap.size,0,none⟩) 1 1) [1]:=nats_one k e W 1
theorem nats_u1d (k:IntKind) (e:TypeId) (W:World):NatsAt k (W.alloc (.cells #[.int k 1] e)).drew (.slice (some ⟨W.heap.size,0,none⟩) 1 1) [1]:=nats_one k e W 1
end Lum
namespace Go.Proofs.YtbeojahilbglcaaGreatDoor
open Go.RowKit Go.Shelf Lum
attribute [local go_sem] bs_get bs_extract_end bs_extract_from bs_extract bs_append
theorem num_quotient_zero (b1 b2 : Bool) (p1 p2 : Option Addr) (n1 c1 n2 c2 : Nat) (x y : Int) (w : World) (h1 : NumAt w b1 p1 n1 c1 x) (h2 : NumAt w b2 p2 n2 c2 y) (hn1 : n1 ≤ 20000) (hn2 : n2 ≤ 20000) (hy : y ≠ 0) (hne : b1 ≠ b2) (h0 : x.natAbs % y.natAbs = 0) :
    Calls Tryz.prog 231 #[.agg #[.bool b1,.slice p1 n1 c1],.agg #[.bool b2,.slice p2 n2 c2]] w fun e w' => ∃ bq pq nq cq br pr nr cr,e = .returned (.tuple #[.agg #[.bool bq,.slice pq nq cq],.agg #[.bool br,.slice pr nr cr]]) ∧ NumAt w' bq pq nq cq (x.fdiv y) ∧ NumAt w' br pr nr cr (x.fmod y) ∧ Below w.heap.size w w':=by
  have hs2:=h2.1
  have hd:decide (x < 0) ≠ decide (y < 0):=by rw [← h1.1,← h2.1];exact hne
  have hq:=(quot_all x y hy).2.1 hd h0
  have hD:=fun W (hb:Below w.heap.size w W) => mag_divided p1 p2 n1 c1 n2 c2 x.natAbs y.natAbs W (h1.2.below hb) (h2.2.below hb) (by omega) (by omega) (by omega)
  have HQ:=Lib.hid hq;clear hq
  have H0:=Lib.hid h0;clear h0
  have HD:=Lib.hid hD;clear hD hd
  have HS2:=Lib.hid hs2;clear hs2
  have hn1l:=h1.2.n
  have hn2l:=h2.2.n
  have HN1:=Lib.hid hn1l;clear hn1l
  have HN2:=Lib.hid hn2l;clear hn2l h1 h2
  have hB:=((((Below.refl w.heap.size w).alloc (Nat.le_refl _) (.cells #[.bool b1,.slice p1 n1 c1] 245)).alloc (by simp) (.cells #[.bool b2,.slice p2 n2 c2] 245)).alloc (by simp;omega) (.cells #[.bool false,.slice none 0 0] 245)).alloc (by simp;omega) (.cells #[.bool false,.slice none 0 0] 245)
  have x1:=(((NBox.new w 245 b1 p1 n1 c1).alloc (.cells #[.bool b2,.slice p2 n2 c2] 245)).alloc (.cells #[.bool false,.slice none 0 0] 245)).alloc (.cells #[.bool false,.slice none 0 0] 245)
  have x2:=((NBox.new (w.alloc (.cells #[.bool b1,.slice p1 n1 c1] 245)) 245 b2 p2 n2 c2).alloc (.cells #[.bool false,.slice none 0 0] 245)).alloc (.cells #[.bool false,.slice none 0 0] 245)
  have x3:=(NBox.new ((w.alloc (.cells #[.bool b1,.slice p1 n1 c1] 245)).alloc (.cells #[.bool b2,.slice p2 n2 c2] 245)) 245 false none 0 0).alloc (.cells #[.bool false,.slice none 0 0] 245)
  have x4:=NBox.new (((w.alloc (.cells #[.bool b1,.slice p1 n1 c1] 245)).alloc (.cells #[.bool b2,.slice p2 n2 c2] 245)).alloc (.cells #[.bool false,.slice none 0 0] 245)) 245 false none 0 0
  simp only [World.size_alloc] at x2 x3 x4
  have beq:(b1 != b2) = true:=by simpa using hne
  go_enter Tryz.func231,Tryz.ntmps231
  go_wp2_with fail
  generalize (((w.alloc (.cells #[.bool b1,.slice p1 n1 c1] 245)).alloc (.cells #[.bool b2,.slice p2 n2 c2] 245)).alloc (.cells #[.bool false,.slice none 0 0] 245)).alloc (.cells #[.bool false,.slice none 0 0] 245) = W0 at *
  refine (HD.out _ hB).mono ?_
  rintro e w1 ⟨pq,nq,cq,pr,nr,cr,rfl,hMq,hMr,hb1⟩
  have HMQ:=Lib.hid hMq;clear hMq
  have HMR:=Lib.hid hMr;clear hMr
  have hbz:=bch' hB hb1
  have y1:=x1.keep hb1
  have y2:=x2.keep hb1
  have y3:=x3.keep hb1
  have y4:=x4.keep hb1
  have HBZ:=Lib.hid hbz;clear hbz hB hb1 x1 x2 x3 x4
  have HRES:=fun bq br eq er => quot_post (q:=x.fdiv y) (r:=x.fmod y) HBZ.out y3 y4 (by simp) (by omega) (by omega) (by rw [HQ.out.1];exact HMQ.out) (by rw [HQ.out.2.2.1];exact HMR.out) bq br eq er
  have HRS:=Lib.hid HRES;clear HRES
  have hnr:nr = 0 ↔ x.natAbs % y.natAbs = 0:=by rw [HMR.out.n,magL_nil]
  have HNR:=Lib.hid hnr;clear hnr
  obtain ⟨k1,k2,f1,f2,l1⟩:=y1
  obtain ⟨k3,k4,f3,f4,l3⟩:=y2
  obtain ⟨k5,k6,f5,f6,l5⟩:=y3
  obtain ⟨k7,k8,f7,f8,l7⟩:=y4
  obtain rfl:nr = 0:=HNR.out.2 H0.out
  have hnq:nq = 0 ↔ x.natAbs / y.natAbs = 0:=by rw [HMQ.out.n,magL_nil]
  have HNQ:=Lib.hid hnq;clear hnq
  have hr0:(x.fdiv y < 0 ↔ 0 < nq):=by have h1:=HQ.out.2.1;have h2:=HNQ.out;omega
  have HR0:=Lib.hid hr0;clear hr0
  cases b1 <;> cases b2 <;> first | exact absurd rfl hne | skip
  all_goals
    go_wp2_with fail
    refine bodyPost_ret_by (v:=.tuple #[.agg #[.bool (decide (0 < nq)),.slice pq nq cq],.agg #[.bool false,.slice pr 0 cr]]) (by simp [results,Tryz.f231,go_sem,k5,k6,k7,k8]) rfl ?_
    obtain ⟨a1,a2,a3⟩:=HRS.out (decide (0 < nq)) false (by rw [HR0.out,decide_eq_true_eq]) (by simpa using HQ.out.2.2.2)
    exact ⟨_,_,_,_,_,_,_,_,rfl,a1,a2,a3⟩
theorem num_quotient_rest (b1 b2 : Bool) (p1 p2 : Option Addr) (n1 c1 n2 c2 : Nat) (x y : Int) (w : World) (h1 : NumAt w b1 p1 n1 c1 x) (h2 : NumAt w b2 p2 n2 c2 y) (hn1 : n1 ≤ 20000) (hn2 : n2 ≤ 20000) (hy : y ≠ 0) (hne : b1 ≠ b2) (h0 : x.natAbs % y.natAbs ≠ 0) :
    Calls Tryz.prog 231 #[.agg #[.bool b1,.slice p1 n1 c1],.agg #[.bool b2,.slice p2 n2 c2]] w fun e w' => ∃ bq pq nq cq br pr nr cr,e = .returned (.tuple #[.agg #[.bool bq,.slice pq nq cq],.agg #[.bool br,.slice pr nr cr]]) ∧ NumAt w' bq pq nq cq (x.fdiv y) ∧ NumAt w' br pr nr cr (x.fmod y) ∧ Below w.heap.size w w':=by
  have hs2:=h2.1
  have hd:decide (x < 0) ≠ decide (y < 0):=by rw [← h1.1,← h2.1];exact hne
  have hq:=(quot_all x y hy).2.2 hd h0
  have hD:=fun W (hb:Below w.heap.size w W) => mag_divided p1 p2 n1 c1 n2 c2 x.natAbs y.natAbs W (h1.2.below hb) (h2.2.below hb) (by omega) (by omega) (by omega)
  have HQ:=Lib.hid hq;clear hq
  have H0:=Lib.hid h0;clear h0
  have HD:=Lib.hid hD;clear hD hd
  have hL:=fun p' n' c' r' W (hb:Below w.heap.size w W) (hm:MagAt W p' n' c' r') (hn':n' ≤ 20000) (hle:r' ≤ y.natAbs) => mag_less p2 p' n2 c2 n' c' y.natAbs r' W (h2.2.below hb) hm (by omega) (by omega) hle
  have HL:=Lib.hid hL;clear hL
  have HS2:=Lib.hid hs2;clear hs2
  have hn1l:=h1.2.n
  have hn2l:=h2.2.n
  have HN1:=Lib.hid hn1l;clear hn1l
  have HN2:=Lib.hid hn2l;clear hn2l h1 h2
  have hB:=((((Below.refl w.heap.size w).alloc (Nat.le_refl _) (.cells #[.bool b1,.slice p1 n1 c1] 245)).alloc (by simp) (.cells #[.bool b2,.slice p2 n2 c2] 245)).alloc (by simp;omega) (.cells #[.bool false,.slice none 0 0] 245)).alloc (by simp;omega) (.cells #[.bool false,.slice none 0 0] 245)
  have x1:=(((NBox.new w 245 b1 p1 n1 c1).alloc (.cells #[.bool b2,.slice p2 n2 c2] 245)).alloc (.cells #[.bool false,.slice none 0 0] 245)).alloc (.cells #[.bool false,.slice none 0 0] 245)
  have x2:=((NBox.new (w.alloc (.cells #[.bool b1,.slice p1 n1 c1] 245)) 245 b2 p2 n2 c2).alloc (.cells #[.bool false,.slice none 0 0] 245)).alloc (.cells #[.bool false,.slice none 0 0] 245)
  have x3:=(NBox.new ((w.alloc (.cells #[.bool b1,.slice p1 n1 c1] 245)).alloc (.cells #[.bool b2,.slice p2 n2 c2] 245)) 245 false none 0 0).alloc (.cells #[.bool false,.slice none 0 0] 245)
  have x4:=NBox.new (((w.alloc (.cells #[.bool b1,.slice p1 n1 c1] 245)).alloc (.cells #[.bool b2,.slice p2 n2 c2] 245)).alloc (.cells #[.bool false,.slice none 0 0] 245)) 245 false none 0 0
  simp only [World.size_alloc] at x2 x3 x4
  have beq:(b1 != b2) = true:=by simpa using hne
  go_enter Tryz.func231,Tryz.ntmps231
  go_wp2_with fail
  generalize (((w.alloc (.cells #[.bool b1,.slice p1 n1 c1] 245)).alloc (.cells #[.bool b2,.slice p2 n2 c2] 245)).alloc (.cells #[.bool false,.slice none 0 0] 245)).alloc (.cells #[.bool false,.slice none 0 0] 245) = W0 at *
  refine (HD.out _ hB).mono ?_
  rintro e w1 ⟨pq,nq,cq,pr,nr,cr,rfl,hMq,hMr,hb1⟩
  have HMQ:=Lib.hid hMq;clear hMq
  have HMR:=Lib.hid hMr;clear hMr
  have hbz:=bch' hB hb1
  have y1:=x1.keep hb1
  have y2:=x2.keep hb1
  have y3:=x3.keep hb1
  have y4:=x4.keep hb1
  have HBZ:=Lib.hid hbz;clear hbz hB hb1 x1 x2 x3 x4
  have hnr:nr = 0 ↔ x.natAbs % y.natAbs = 0:=by rw [HMR.out.n,magL_nil]
  have HNR:=Lib.hid hnr;clear hnr
  have hrl:nr ≤ 20000:=by
    have h1:=magL_mono (show x.natAbs % y.natAbs ≤ y.natAbs from Nat.le_of_lt (Nat.mod_lt _ (by omega)))
    have h2:=HN2.out
    rw [HMR.out.n];omega
  have hql:nq ≤ 100000:=by
    have h1:=magL_mono (Nat.div_le_self x.natAbs y.natAbs)
    have h2:=HN1.out
    rw [HMQ.out.n];omega
  have hle:x.natAbs % y.natAbs ≤ y.natAbs:=Nat.le_of_lt (Nat.mod_lt _ (by omega))
  have hP:=fun W (b:Nat) (hb:Below w1.heap.size w1 W) (hm:NatsAt .u64 W (.slice (some ⟨b,0,none⟩) 1 1) [1]) => mag_plus pq (some ⟨b,0,none⟩) nq cq 1 1 (x.natAbs / y.natAbs) 1 W (HMQ.out.below hb) ⟨by rw [magL_one 1 (by omega) (by decide)];exact hm,by rw [magL_one 1 (by omega) (by decide)];rfl⟩ hql (by omega)
  have hLL:=fun W (hb:Below w1.heap.size w1 W) => HL.out pr nr cr _ W (bch' HBZ.out hb) (HMR.out.below hb) hrl hle
  have HP:=Lib.hid hP;clear hP
  have HLL:=Lib.hid hLL;clear hLL HL hle
  have hpos:0 < nr:=by have h1:=HNR.out;have h2:=H0.out;omega
  have hposi:(0:Int) < (nr:Int):=by omega
  have hposd:decide (0 < nr) = true:=by simpa using hpos
  have Y2:=Lib.hid y2
  have Y1:=Lib.hid y1
  have Y3:=Lib.hid y3
  have Y4:=Lib.hid y4
  have hlw:w.heap.size + 1 < w1.heap.size:=y2.lt
  obtain ⟨k1,k2,f1,f2,l1⟩:=y1
  obtain ⟨k3,k4,f3,f4,l3⟩:=y2
  clear y3 y4
  cases b1 <;> cases b2 <;> first | exact absurd rfl hne | skip
  all_goals
    go_wp2_with fail
    have hS0:Below w1.heap.size w1 w1.drew ∧ w1.drew.cell? ⟨w.heap.size + 1,1,none⟩ = some (.slice p2 n2 c2):=⟨(Below.refl _ _).drew,k4⟩
    have HS0:=Lib.hid hS0;clear hS0
    go_region_held3 (fun w' => Below w1.heap.size w1 w' ∧ w'.cell? ⟨w.heap.size + 1,1,none⟩ = some (.slice p2 n2 c2)) (first | exact HS0.out | exact keepS (by assumption) (by assumption) (by simp;omega) | exact keepS_alloc (by assumption) _ (by simp;omega) | exact keepS_allocd HS0.out _ (by simp;omega)) (first | (go_at_call 226;refine (HLL.out _ (And.left (by assumption))).mono ?_;rintro e w5 ⟨p5,n5,c5,rfl,hM5,hb5⟩;have HM5:=Lib.hid hM5;clear hM5) | (go_at_call 224;refine (HP.out _ _ (And.left (by assumption)) (by first | exact nats_u1d _ _ _ | exact nats_u1 _ _ _ | exact NatsAt.below (nats_u1d .u64 197 w1) (by assumption))).mono ?_;rintro e w4 ⟨p4,n4,c4,rfl,hM4,hb4⟩;have HM4:=Lib.hid hM4;clear hM4))
  all_goals
    first
      | have hpk:MagAt w5 p4 n4 c4 _ ∧ MagAt w5 p5 n5 c5 _ ∧ Below w1.heap.size w1 w5:=⟨HM4.out.below hb5,HM5.out,And.left (by assumption)⟩
      | have hpk:MagAt w4 p4 n4 c4 _ ∧ MagAt w4 p5 n5 c5 _ ∧ Below w1.heap.size w1 w4:=⟨HM4.out,HM5.out.below hb4,And.left (by assumption)⟩
      | have hpk:MagAt w4 p4 n4 c4 _ ∧ MagAt w4 p5 n5 c5 _ ∧ Below w1.heap.size w1 w4:=⟨HM4.out,(HM5.out.below ((Below.refl _ w5).alloc (Nat.le_refl _) _)).below hb4,And.left (by assumption)⟩
    obtain ⟨F4,F5,FB⟩:=hpk
    have y3:=Y3.out.keep FB
    have y4:=Y4.out.keep FB
    have z2:=Y2.out.keep FB
    have z1:=Y1.out.keep FB
    clear k1 k2 f1 f2 l1 k3 k4 f3 f4 l3 hb4 hb5
    have HRES:=fun bq br eq er => quot_post (q:=x.fdiv y) (r:=x.fmod y) (bch' HBZ.out FB) y3 y4 (by simp) (by omega) (by omega) (by rw [HQ.out.1];exact F4) (by rw [HQ.out.2.2.1];exact F5) bq br eq er
    have HRS:=Lib.hid HRES;clear HRES
    have h4n:0 < n4:=by rw [F4.n];exact magL_ne _ (Nat.succ_ne_zero _)
    have h4d:decide (0 < n4) = true:=by simpa using h4n
    have h4p:0 < n5:=by rw [F5.n];exact magL_ne _ (Nat.sub_ne_zero_of_lt (Nat.mod_lt x.natAbs (by omega)))
    have h5d:decide (0 < n5) = true:=by simpa using h4p
    obtain ⟨k1,k2,f1,f2,l1⟩:=z1
    obtain ⟨k3,k4,f3,f4,l3⟩:=z2
    obtain ⟨k5,k6,f5,f6,l5⟩:=y3
    obtain ⟨k7,k8,f7,f8,l7⟩:=y4
    clear F4 F5 FB
    go_wp2_with fail
    first
      | (refine bodyPost_ret_by (v := .tuple #[.agg #[.bool true, .slice p4 n4 c4], .agg #[.bool true, .slice p5 n5 c5]]) (by simp [results, Tryz.f231, go_sem, k5, k6, k7, k8]) rfl ?_
         have hh:=HS2.out
         obtain ⟨a1,a2,a3⟩:=HRS.out true true (by simpa using HQ.out.2.1) (by rw [HQ.out.2.2.2];simpa using hh.symm)
         exact ⟨_,_,_,_,_,_,_,_,rfl,a1,a2,a3⟩)
      | (refine bodyPost_ret_by (v := .tuple #[.agg #[.bool true, .slice p4 n4 c4], .agg #[.bool false, .slice p5 n5 c5]]) (by simp [results, Tryz.f231, go_sem, k5, k6, k7, k8]) rfl ?_
         have hh:=HS2.out
         obtain ⟨a1,a2,a3⟩:=HRS.out true false (by simpa using HQ.out.2.1) (by rw [HQ.out.2.2.2];simpa using hh.symm)
         exact ⟨_,_,_,_,_,_,_,_,rfl,a1,a2,a3⟩)
theorem num_quotient (b1 b2 : Bool) (p1 p2 : Option Addr) (n1 c1 n2 c2 : Nat) (x y : Int) (w : World) (h1 : NumAt w b1 p1 n1 c1 x) (h2 : NumAt w b2 p2 n2 c2 y) (hn1 : n1 ≤ 20000) (hn2 : n2 ≤ 20000) (hy : y ≠ 0) :
    Calls Tryz.prog 231 #[.agg #[.bool b1,.slice p1 n1 c1],.agg #[.bool b2,.slice p2 n2 c2]] w fun e w' => ∃ bq pq nq cq br pr nr cr,e = .returned (.tuple #[.agg #[.bool bq,.slice pq nq cq],.agg #[.bool br,.slice pr nr cr]]) ∧ NumAt w' bq pq nq cq (x.fdiv y) ∧ NumAt w' br pr nr cr (x.fmod y) ∧ Below w.heap.size w w':=by
  by_cases h:b1 = b2
  · subst h
    exact num_quotient_same b1 p1 p2 n1 c1 n2 c2 x y w h1 h2 hn1 hn2 hy
  · by_cases h0:x.natAbs % y.natAbs = 0
    · exact num_quotient_zero b1 b2 p1 p2 n1 c1 n2 c2 x y w h1 h2 hn1 hn2 hy h h0
    · exact num_quotient_rest b1 b2 p1 p2 n1 c1 n2 c2 x y w h1 h2 hn1 hn2 hy h h0
end Go.Proofs.YtbeojahilbglcaaGreatDoor

/- A part of the proof of EffectAdds: contracts of functions, and plain facts. -/
import Derived.Test.YtbeojahilbglcaaGreatDoorQdYi
import Derived.Test.YtbeojahilbglcaaGreatDoorQdYf
set_option maxRecDepth 100000
set_option maxHeartbeats 8000000
set_option linter.unusedVariables false
set_option linter.unusedSimpArgs false
namespace Lum
open Go Go.RowKit Go.Shelf
open Go.Lib (decDigits itoa)
def exC:Efx:=⟨5,1,[(0,0),(500,1000),(1000,0)],2000,500,400⟩
theorem pts_three28 (W:World) (a b c d e f:Int) (t:TypeId):PtsAt (W.alloc (.cells #[.int .i64 a,.int .i64 b,.int .i64 c,.int .i64 d,.int .i64 e,.int .i64 f] t)) (.slice (some ⟨W.heap.size,0,none⟩) 3 3) [(a,b),(c,d),(e,f)]:=by
  refine ⟨_,_,rfl,fun _ => ⟨W.heap.size,0,rfl,by simp,fun i hi => ?_⟩⟩
  rw [World.cell?_alloc_new,World.cell?_alloc_new]
  match i,hi with
  | 0,_ => exact ⟨rfl,rfl⟩
  | 1,_ => exact ⟨rfl,rfl⟩
  | 2,_ => exact ⟨rfl,rfl⟩
theorem runsAt_nil28 (w:World):RunsAt w (.slice none 0 0) []:=⟨[],none,0,rfl,rfl,fun h => absurd rfl h,fun x hx => by cases hx⟩
theorem efsAt_one28 {w:World} {g:Nat} {t:TypeId} {x:Efx × Sl3} {c:Nat} (h:Blk w g t (encE x).toArray) (hx:PtsAt w (.slice x.2.1 x.2.2.1 x.2.2.2) x.1.wv):EfsAt w (.slice (some ⟨g,0,none⟩) 1 c) [x.1]:=by
  refine ⟨[x],some ⟨g,0,none⟩,c,rfl,rfl,fun _ => ⟨g,0,rfl,h.lt,fun i hi j u hu => ?_⟩,fun y hy => ?_⟩
  · obtain rfl:i = 0:=by simp at hi;omega
    have:=h.cell j
    rw [Nat.zero_mul,Nat.zero_add,this]
    simpa using hu
  · obtain rfl:=List.mem_singleton.1 hy;exact hx
end Lum
namespace Go.Proofs.YtbeojahilbglcaaGreatDoor
open Go.RowKit Go.Shelf Lum
open Go.Lib (decDigits itoa)
attribute [local go_sem] bs_get bs_extract_end bs_extract_from bs_extract bs_append
theorem l28_example (w : World) :
    Calls Tryz.prog 28 #[] w fun e w' => ∃ B,e = .returned (.agg #[.int .i64 5,.int .i64 1,.slice (some ⟨B,0,none⟩) 3 3,.int .i64 2000,.int .i64 500,.int .i64 400]) ∧ PtsAt w' (.slice (some ⟨B,0,none⟩) 3 3) exC.wv ∧ Below w.heap.size w w':=by
  go_enter Tryz.func28,Tryz.ntmps28
  go_wp2_with fail
  have hs:∀ o:Obj,(w.alloc o).heap.size = w.heap.size + 1:=fun o => by simp
  have hal:=(((Below.refl w.heap.size w).alloc (Nat.le_refl _) (.cells #[.int .i64 5,.int .i64 1,.slice (some ⟨w.heap.size + 1,0,none⟩) 3 3,.int .i64 2000,.int .i64 500,.int .i64 400] 71)).alloc (by rw [hs];exact Nat.le_succ _) (.cells #[.int .i64 0,.int .i64 0,.int .i64 500,.int .i64 1000,.int .i64 1000,.int .i64 0] 124):Below w.heap.size w ((w.alloc (.cells #[.int .i64 5,.int .i64 1,.slice (some ⟨w.heap.size + 1,0,none⟩) 3 3,.int .i64 2000,.int .i64 500,.int .i64 400] 71)).alloc (.cells #[.int .i64 0,.int .i64 0,.int .i64 500,.int .i64 1000,.int .i64 1000,.int .i64 0] 124)))
  have hpt:=pts_three28 (w.alloc (.cells #[.int .i64 5,.int .i64 1,.slice (some ⟨w.heap.size + 1,0,none⟩) 3 3,.int .i64 2000,.int .i64 500,.int .i64 400] 71)) 0 0 500 1000 1000 0 124
  rw [hs] at hpt
  have HX:=Lib.hid ((Blk.new w 71 #[.int .i64 5,.int .i64 1,.slice (some ⟨w.heap.size + 1,0,none⟩) 3 3,.int .i64 2000,.int .i64 500,.int .i64 400]).alloc (.cells #[.int .i64 0,.int .i64 0,.int .i64 500,.int .i64 1000,.int .i64 1000,.int .i64 0] 124))
  generalize (w.alloc (.cells #[.int .i64 5,.int .i64 1,.slice (some ⟨w.heap.size + 1,0,none⟩) 3 3,.int .i64 2000,.int .i64 500,.int .i64 400] 71)).alloc (.cells #[.int .i64 0,.int .i64 0,.int .i64 500,.int .i64 1000,.int .i64 1000,.int .i64 0] 124) = W2 at *
  obtain ⟨x0,x1,x2,x3,x4,x5,xf0,xf1,xf2,xf3,xf4,xf5⟩:=HX.out.c6
  refine bodyPost_ret_by (v:=.agg #[.int .i64 5,.int .i64 1,.slice (some ⟨w.heap.size + 1,0,none⟩) 3 3,.int .i64 2000,.int .i64 500,.int .i64 400]) (by simp [results,Tryz.f28,go_sem,x0,x1,x2,x3,x4,x5,xf0,xf1,xf2,xf3,xf4,xf5]) rfl ⟨_,rfl,hpt,hal⟩
theorem l28_awake (w : World) (env : Env w) :
    Calls Tryz.prog 7 #[] w fun e w' => e = .returned (.bool true) ∧ Below w.heap.size w w':=by
  have hex:=fun W => l28_example W
  have HEX:=Lib.hid hex;clear hex
  have hq0:ofsT exC 0 2 0 = ([48],0):=by decide +kernel
  have hq1:ofsT exC 1 2 0 = ([50,48,48],0):=by decide +kernel
  have hq2:ofsT exC 0 2 100000 = ([52,48,48],0):=by decide +kernel
  have hq3:ofsT exC 1 2 100000 = ([50,48,48],0):=by decide +kernel
  have hstE:stE [] 5 [7,3] 100 = 0:=by decide +kernel
  have hsu1:suE [exC] [newR 5 [7,3] 100] 1100 3 1 = ([50,48,48],0):=by decide +kernel
  have hof1:ofE [exC] [newR 5 [7,3] 100] 5 1100 7 1 = ([52,48,48],0):=by decide +kernel
  have hrtE:rtE [newR 5 [7,3] 100] 5 1100 200 = 0:=by decide +kernel
  have hsu2:suE [exC] (rtL [newR 5 [7,3] 100] 5 1100 200) 1600 7 1 = ([48],0):=by decide +kernel
  have ENV:=Lib.hid env;clear env
  have HB:=Lib.hid (Below.refl w.heap.size w)
  go_enter Tryz.func7,Tryz.ntmps7
  go_wp2_with fail
  refine ((HEX.out _).mono ?_)
  rintro e w1 ⟨B,rfl,hp,hb⟩
  have HP:=Lib.hid hp;clear hp HEX
  replace HB:=Lib.hid (bch' HB.out hb);clear hb
  go_upto_region 2 with fail
  have hb:=(Below.refl w1.heap.size w1).alloc (Nat.le_refl _) (.cells #[.int .i64 5,.int .i64 1,.slice (some ⟨B,0,none⟩) 3 3,.int .i64 2000,.int .i64 500,.int .i64 400] 71)
  have HX:=Lib.hid (Blk.new w1 71 #[.int .i64 5,.int .i64 1,.slice (some ⟨B,0,none⟩) 3 3,.int .i64 2000,.int .i64 500,.int .i64 400])
  obtain ⟨W2,hW2⟩:∃ X,X = w1.alloc (.cells #[.int .i64 5,.int .i64 1,.slice (some ⟨B,0,none⟩) 3 3,.int .i64 2000,.int .i64 500,.int .i64 400] 71):=⟨_,rfl⟩
  obtain ⟨gx,hgx⟩:∃ g,g = w1.heap.size:=⟨_,rfl⟩
  rw [← hW2] at hb HX ⊢
  rw [← hgx] at HX ⊢
  replace HP:=Lib.hid (PtsAt.below HP.out hb);replace HB:=Lib.hid (bch' HB.out hb);clear hb
  clear hW2 hgx
  obtain ⟨x0,x1,x2,x3,x4,x5,xf0,xf1,xf2,xf3,xf4,xf5⟩:=HX.out.c6
  go_upto_region 3 with fail
  have hb:=(Below.refl W2.heap.size W2).alloc (Nat.le_refl _) (.cells #[.int .i64 0,.int .i64 0,.string ⟨#[48]⟩,.int .i64 1,.int .i64 0,.string ⟨#[50,48,48]⟩,.int .i64 0,.int .i64 100000,.string ⟨#[52,48,48]⟩,.int .i64 1,.int .i64 100000,.string ⟨#[50,48,48]⟩] 73)
  have HT:=Lib.hid (Blk.new W2 73 #[.int .i64 0,.int .i64 0,.string ⟨#[48]⟩,.int .i64 1,.int .i64 0,.string ⟨#[50,48,48]⟩,.int .i64 0,.int .i64 100000,.string ⟨#[52,48,48]⟩,.int .i64 1,.int .i64 100000,.string ⟨#[50,48,48]⟩])
  obtain ⟨W3,hW3⟩:∃ X,X = W2.alloc (.cells #[.int .i64 0,.int .i64 0,.string ⟨#[48]⟩,.int .i64 1,.int .i64 0,.string ⟨#[50,48,48]⟩,.int .i64 0,.int .i64 100000,.string ⟨#[52,48,48]⟩,.int .i64 1,.int .i64 100000,.string ⟨#[50,48,48]⟩] 73):=⟨_,rfl⟩
  obtain ⟨gt,hgt⟩:∃ g,g = W2.heap.size:=⟨_,rfl⟩
  rw [← hW3] at hb HT ⊢
  rw [← hgt] at HT ⊢
  replace HX:=Lib.hid (HX.out.keep hb);clear x0 x1 x2 x3 x4 x5 xf0 xf1 xf2 xf3 xf4 xf5;replace HP:=Lib.hid (PtsAt.below HP.out hb);replace HB:=Lib.hid (bch' HB.out hb);clear hb;obtain ⟨x0,x1,x2,x3,x4,x5,xf0,xf1,xf2,xf3,xf4,xf5⟩:=HX.out.c6
  clear hW3 hgt
  obtain ⟨t0,t1,t2,t3,t4,t5,t6,t7,t8,t9,t10,t11,tf0,tf1,tf2,tf3,tf4,tf5,tf6,tf7,tf8,tf9,tf10,tf11⟩:=HT.out.c12
  have ho0:=fun W (h:PtsAt W (.slice (some ⟨B,0,none⟩) 3 3) exC.wv) (e:Env W) => own_eOffset (exC,(some ⟨B,0,none⟩,3,3)) 0 2 0 W h e
  rw [show ofsT (exC,((some ⟨B,0,none⟩:Option Addr),3,3)).1 0 2 0 = ([48],0) from hq0] at ho0
  dsimp only [exC] at ho0
  have ho1:=fun W (h:PtsAt W (.slice (some ⟨B,0,none⟩) 3 3) exC.wv) (e:Env W) => own_eOffset (exC,(some ⟨B,0,none⟩,3,3)) 1 2 0 W h e
  rw [show ofsT (exC,((some ⟨B,0,none⟩:Option Addr),3,3)).1 1 2 0 = ([50,48,48],0) from hq1] at ho1
  dsimp only [exC] at ho1
  have ho2:=fun W (h:PtsAt W (.slice (some ⟨B,0,none⟩) 3 3) exC.wv) (e:Env W) => own_eOffset (exC,(some ⟨B,0,none⟩,3,3)) 0 2 100000 W h e
  rw [show ofsT (exC,((some ⟨B,0,none⟩:Option Addr),3,3)).1 0 2 100000 = ([52,48,48],0) from hq2] at ho2
  dsimp only [exC] at ho2
  have ho3:=fun W (h:PtsAt W (.slice (some ⟨B,0,none⟩) 3 3) exC.wv) (e:Env W) => own_eOffset (exC,(some ⟨B,0,none⟩,3,3)) 1 2 100000 W h e
  rw [show ofsT (exC,((some ⟨B,0,none⟩:Option Addr),3,3)).1 1 2 100000 = ([50,48,48],0) from hq3] at ho3
  dsimp only [exC] at ho3
  clear hq0 hq1 hq2 hq3
  have HO0:=Lib.hid ho0;clear ho0
  have HO1:=Lib.hid ho1;clear ho1
  have HO2:=Lib.hid ho2;clear ho2
  have HO3:=Lib.hid ho3;clear ho3
  go_loopw [21] (fun s21 wr => ∃ i:Nat,s21 = .int .i64 (i:Int) ∧ i ≤ 4 ∧ Hid (Below w.heap.size w wr) ∧ Hid (Blk wr gx 71 #[.int .i64 5,.int .i64 1,.slice (some ⟨B,0,none⟩) 3 3,.int .i64 2000,.int .i64 500,.int .i64 400]) ∧ Hid (Blk wr gt 73 #[.int .i64 0,.int .i64 0,.string ⟨#[48]⟩,.int .i64 1,.int .i64 0,.string ⟨#[50,48,48]⟩,.int .i64 0,.int .i64 100000,.string ⟨#[52,48,48]⟩,.int .i64 1,.int .i64 100000,.string ⟨#[50,48,48]⟩]) ∧ Hid (PtsAt wr (.slice (some ⟨B,0,none⟩) 3 3) exC.wv)) (fun s21 _ => 4 - (intOf s21).toNat)
  case atStart => exact ⟨0,rfl,by omega,HB,HX,HT,HP⟩
  case round =>
    clear HB HX HT HP x0 x1 x2 x3 x4 x5 t0 t1 t2 t3 t4 t5 t6 t7 t8 t9 t10 t11 xf0 xf1 xf2 xf3 xf4 xf5 tf0 tf1 tf2 tf3 tf4 tf5 tf6 tf7 tf8 tf9 tf10 tf11
    obtain ⟨i,rfl,hi4,HB,HX,HT,HP⟩:=hrel
    obtain ⟨x0,x1,x2,x3,x4,x5,xf0,xf1,xf2,xf3,xf4,xf5⟩:=HX.out.c6
    obtain ⟨t0,t1,t2,t3,t4,t5,t6,t7,t8,t9,t10,t11,tf0,tf1,tf2,tf3,tf4,tf5,tf6,tf7,tf8,tf9,tf10,tf11⟩:=HT.out.c12
    rcases (show i = 0 ∨ i = 1 ∨ i = 2 ∨ i = 3 ∨ i = 4 by omega) with rfl | rfl | rfl | rfl | rfl
    · go_upto_region 5 with fail
      have hb:=(Below.refl wr.heap.size wr).alloc (Nat.le_refl _) (.cells #[.int .i64 0,.int .i64 0,.string ⟨#[48]⟩] 73)
      have HR:=Lib.hid (Blk.new wr 73 #[.int .i64 0,.int .i64 0,.string ⟨#[48]⟩])
      obtain ⟨W5,hW5⟩:∃ X,X = wr.alloc (.cells #[.int .i64 0,.int .i64 0,.string ⟨#[48]⟩] 73):=⟨_,rfl⟩
      obtain ⟨g5,hg5⟩:∃ g,g = wr.heap.size:=⟨_,rfl⟩
      rw [← hW5] at hb HR ⊢
      rw [← hg5] at HR ⊢
      replace HT:=Lib.hid (HT.out.keep hb);clear t0 t1 t2 t3 t4 t5 t6 t7 t8 t9 t10 t11 tf0 tf1 tf2 tf3 tf4 tf5 tf6 tf7 tf8 tf9 tf10 tf11
      replace HX:=Lib.hid (HX.out.keep hb);clear x0 x1 x2 x3 x4 x5 xf0 xf1 xf2 xf3 xf4 xf5;replace HP:=Lib.hid (PtsAt.below HP.out hb);replace HB:=Lib.hid (bch' HB.out hb);clear hb;obtain ⟨x0,x1,x2,x3,x4,x5,xf0,xf1,xf2,xf3,xf4,xf5⟩:=HX.out.c6
      clear hW5 hg5
      obtain ⟨r0,r1,r2,rf0,rf1,rf2⟩:=HR.out.c3
      go_wp2_with (first | (with_reducible refine ((HO0.out _ HP.out (ENV.out.below HB.out)).mono ?_);rintro e w' ⟨rfl,hb⟩;replace HT:=Lib.hid (HT.out.keep hb);replace HX:=Lib.hid (HX.out.keep hb);clear x0 x1 x2 x3 x4 x5 xf0 xf1 xf2 xf3 xf4 xf5;replace HR:=Lib.hid (HR.out.keep hb);clear r0 r1 r2 rf0 rf1 rf2;replace HP:=Lib.hid (PtsAt.below HP.out hb);replace HB:=Lib.hid (bch' HB.out hb);clear hb;obtain ⟨x0,x1,x2,x3,x4,x5,xf0,xf1,xf2,xf3,xf4,xf5⟩:=HX.out.c6;obtain ⟨r0,r1,r2,rf0,rf1,rf2⟩:=HR.out.c3))
      go_roundw
      case rel => exact ⟨1,by first | rfl | simp,by omega,HB,HX,HT,HP⟩
      case measure => first | (simp [intOf];done) | (simp [intOf];omega)
    · go_upto_region 5 with fail
      have hb:=(Below.refl wr.heap.size wr).alloc (Nat.le_refl _) (.cells #[.int .i64 1,.int .i64 0,.string ⟨#[50,48,48]⟩] 73)
      have HR:=Lib.hid (Blk.new wr 73 #[.int .i64 1,.int .i64 0,.string ⟨#[50,48,48]⟩])
      obtain ⟨W5,hW5⟩:∃ X,X = wr.alloc (.cells #[.int .i64 1,.int .i64 0,.string ⟨#[50,48,48]⟩] 73):=⟨_,rfl⟩
      obtain ⟨g5,hg5⟩:∃ g,g = wr.heap.size:=⟨_,rfl⟩
      rw [← hW5] at hb HR ⊢
      rw [← hg5] at HR ⊢
      replace HT:=Lib.hid (HT.out.keep hb);clear t0 t1 t2 t3 t4 t5 t6 t7 t8 t9 t10 t11 tf0 tf1 tf2 tf3 tf4 tf5 tf6 tf7 tf8 tf9 tf10 tf11
      replace HX:=Lib.hid (HX.out.keep hb);clear x0 x1 x2 x3 x4 x5 xf0 xf1 xf2 xf3 xf4 xf5;replace HP:=Lib.hid (PtsAt.below HP.out hb);replace HB:=Lib.hid (bch' HB.out hb);clear hb;obtain ⟨x0,x1,x2,x3,x4,x5,xf0,xf1,xf2,xf3,xf4,xf5⟩:=HX.out.c6
      clear hW5 hg5
      obtain ⟨r0,r1,r2,rf0,rf1,rf2⟩:=HR.out.c3
      go_wp2_with (first | (with_reducible refine ((HO1.out _ HP.out (ENV.out.below HB.out)).mono ?_);rintro e w' ⟨rfl,hb⟩;replace HT:=Lib.hid (HT.out.keep hb);replace HX:=Lib.hid (HX.out.keep hb);clear x0 x1 x2 x3 x4 x5 xf0 xf1 xf2 xf3 xf4 xf5;replace HR:=Lib.hid (HR.out.keep hb);clear r0 r1 r2 rf0 rf1 rf2;replace HP:=Lib.hid (PtsAt.below HP.out hb);replace HB:=Lib.hid (bch' HB.out hb);clear hb;obtain ⟨x0,x1,x2,x3,x4,x5,xf0,xf1,xf2,xf3,xf4,xf5⟩:=HX.out.c6;obtain ⟨r0,r1,r2,rf0,rf1,rf2⟩:=HR.out.c3))
      go_roundw
      case rel => exact ⟨2,by first | rfl | simp,by omega,HB,HX,HT,HP⟩
      case measure => first | (simp [intOf];done) | (simp [intOf];omega)
    · go_upto_region 5 with fail
      have hb:=(Below.refl wr.heap.size wr).alloc (Nat.le_refl _) (.cells #[.int .i64 0,.int .i64 100000,.string ⟨#[52,48,48]⟩] 73)
      have HR:=Lib.hid (Blk.new wr 73 #[.int .i64 0,.int .i64 100000,.string ⟨#[52,48,48]⟩])
      obtain ⟨W5,hW5⟩:∃ X,X = wr.alloc (.cells #[.int .i64 0,.int .i64 100000,.string ⟨#[52,48,48]⟩] 73):=⟨_,rfl⟩
      obtain ⟨g5,hg5⟩:∃ g,g = wr.heap.size:=⟨_,rfl⟩
      rw [← hW5] at hb HR ⊢
      rw [← hg5] at HR ⊢
      replace HT:=Lib.hid (HT.out.keep hb);clear t0 t1 t2 t3 t4 t5 t6 t7 t8 t9 t10 t11 tf0 tf1 tf2 tf3 tf4 tf5 tf6 tf7 tf8 tf9 tf10 tf11
      replace HX:=Lib.hid (HX.out.keep hb);clear x0 x1 x2 x3 x4 x5 xf0 xf1 xf2 xf3 xf4 xf5;replace HP:=Lib.hid (PtsAt.below HP.out hb);replace HB:=Lib.hid (bch' HB.out hb);clear hb;obtain ⟨x0,x1,x2,x3,x4,x5,xf0,xf1,xf2,xf3,xf4,xf5⟩:=HX.out.c6
      clear hW5 hg5
      obtain ⟨r0,r1,r2,rf0,rf1,rf2⟩:=HR.out.c3
      go_wp2_with (first | (with_reducible refine ((HO2.out _ HP.out (ENV.out.below HB.out)).mono ?_);rintro e w' ⟨rfl,hb⟩;replace HT:=Lib.hid (HT.out.keep hb);replace HX:=Lib.hid (HX.out.keep hb);clear x0 x1 x2 x3 x4 x5 xf0 xf1 xf2 xf3 xf4 xf5;replace HR:=Lib.hid (HR.out.keep hb);clear r0 r1 r2 rf0 rf1 rf2;replace HP:=Lib.hid (PtsAt.below HP.out hb);replace HB:=Lib.hid (bch' HB.out hb);clear hb;obtain ⟨x0,x1,x2,x3,x4,x5,xf0,xf1,xf2,xf3,xf4,xf5⟩:=HX.out.c6;obtain ⟨r0,r1,r2,rf0,rf1,rf2⟩:=HR.out.c3))
      go_roundw
      case rel => exact ⟨3,by first | rfl | simp,by omega,HB,HX,HT,HP⟩
      case measure => first | (simp [intOf];done) | (simp [intOf];omega)
    · go_upto_region 5 with fail
      have hb:=(Below.refl wr.heap.size wr).alloc (Nat.le_refl _) (.cells #[.int .i64 1,.int .i64 100000,.string ⟨#[50,48,48]⟩] 73)
      have HR:=Lib.hid (Blk.new wr 73 #[.int .i64 1,.int .i64 100000,.string ⟨#[50,48,48]⟩])
      obtain ⟨W5,hW5⟩:∃ X,X = wr.alloc (.cells #[.int .i64 1,.int .i64 100000,.string ⟨#[50,48,48]⟩] 73):=⟨_,rfl⟩
      obtain ⟨g5,hg5⟩:∃ g,g = wr.heap.size:=⟨_,rfl⟩
      rw [← hW5] at hb HR ⊢
      rw [← hg5] at HR ⊢
      replace HT:=Lib.hid (HT.out.keep hb);clear t0 t1 t2 t3 t4 t5 t6 t7 t8 t9 t10 t11 tf0 tf1 tf2 tf3 tf4 tf5 tf6 tf7 tf8 tf9 tf10 tf11
      replace HX:=Lib.hid (HX.out.keep hb);clear x0 x1 x2 x3 x4 x5 xf0 xf1 xf2 xf3 xf4 xf5;replace HP:=Lib.hid (PtsAt.below HP.out hb);replace HB:=Lib.hid (bch' HB.out hb);clear hb;obtain ⟨x0,x1,x2,x3,x4,x5,xf0,xf1,xf2,xf3,xf4,xf5⟩:=HX.out.c6
      clear hW5 hg5
      obtain ⟨r0,r1,r2,rf0,rf1,rf2⟩:=HR.out.c3
      go_wp2_with (first | (with_reducible refine ((HO3.out _ HP.out (ENV.out.below HB.out)).mono ?_);rintro e w' ⟨rfl,hb⟩;replace HT:=Lib.hid (HT.out.keep hb);replace HX:=Lib.hid (HX.out.keep hb);clear x0 x1 x2 x3 x4 x5 xf0 xf1 xf2 xf3 xf4 xf5;replace HR:=Lib.hid (HR.out.keep hb);clear r0 r1 r2 rf0 rf1 rf2;replace HP:=Lib.hid (PtsAt.below HP.out hb);replace HB:=Lib.hid (bch' HB.out hb);clear hb;obtain ⟨x0,x1,x2,x3,x4,x5,xf0,xf1,xf2,xf3,xf4,xf5⟩:=HX.out.c6;obtain ⟨r0,r1,r2,rf0,rf1,rf2⟩:=HR.out.c3))
      go_roundw
      case rel => exact ⟨4,by first | rfl | simp,by omega,HB,HX,HT,HP⟩
      case measure => first | (simp [intOf];done) | (simp [intOf];omega)
    · go_upto_region 10 with fail
      have hb:=(Below.refl wr.heap.size wr).alloc (Nat.le_refl _) (.cells #[.int .i64 5,.int .i64 1,.slice (some ⟨B,0,none⟩) 3 3,.int .i64 2000,.int .i64 500,.int .i64 400] 71)
      have HL:=Lib.hid (efsAt_one28 (x:=(exC,(some ⟨B,0,none⟩,3,3))) (c:=1) (Blk.new wr 71 _) (HP.out.below hb))
      obtain ⟨gl,hgl⟩:∃ g,g = wr.heap.size:=⟨_,rfl⟩
      obtain ⟨W6,hW6⟩:∃ X,X = wr.alloc (.cells #[.int .i64 5,.int .i64 1,.slice (some ⟨B,0,none⟩) 3 3,.int .i64 2000,.int .i64 500,.int .i64 400] 71):=⟨_,rfl⟩
      change Hid (EfsAt (wr.alloc (.cells #[.int .i64 5,.int .i64 1,.slice (some ⟨B,0,none⟩) 3 3,.int .i64 2000,.int .i64 500,.int .i64 400] 71)) (.slice (some ⟨wr.heap.size,0,none⟩) 1 1) [exC]) at HL
      rw [← hgl] at HL ⊢
      rw [← hW6] at hb HL ⊢
      clear x0 x1 x2 x3 x4 x5 xf0 xf1 xf2 xf3 xf4 xf5
      clear t0 t1 t2 t3 t4 t5 t6 t7 t8 t9 t10 t11 tf0 tf1 tf2 tf3 tf4 tf5 tf6 tf7 tf8 tf9 tf10 tf11
      replace HB:=Lib.hid (bch' HB.out hb);clear hb hW6 hgl HX HT HP
      have hst:=own_estart [] (.slice none 0 0) 5 100 [7,3] (some ⟨W6.heap.size,0,none⟩) 2 2 (W6.alloc (.cells #[.int .i64 7,.int .i64 3] 3)) (runsAt_nil28 _) ⟨_,2,rfl,fun _ => ⟨W6.heap.size,0,rfl,by simp,fun i hi => by
        have hw2:=Blk.new W6 3 #[.int .i64 7,.int .i64 3]
        have hi3:i < 2:=hi
        match i,hi3 with
        | 0,_ => exact hw2.cell 0
        | 1,_ => exact hw2.cell 1⟩⟩ (by simp) (by simp)
      rw [hstE] at hst
      have HST:=Lib.hid hst;clear hst
      go_wp2_with fail
      refine (HST.out.mono ?_)
      rintro e w2 ⟨v,rfl,hv1,-,hb⟩
      have hb1:=(Below.refl W6.heap.size W6).alloc (Nat.le_refl _) (.cells #[.int .i64 7,.int .i64 3] 3)
      replace hb:=bch' hb1 hb
      have HN:=Lib.hid (hv1 rfl);clear hv1 HST hb1
      replace HL:=Lib.hid (EfsAt.kept HL.out hb);replace HB:=Lib.hid (bch' HB.out hb);clear hb
      change Hid (RunsAt w2 v [newR 5 [7,3] 100]) at HN
      have hs1:=fun W (h1:EfsAt W (.slice (some ⟨gl,0,none⟩) 1 1) [exC]) (h2:RunsAt W v [newR 5 [7,3] 100]) (e:Env W) => own_esum [exC] [newR 5 [7,3] 100] (.slice (some ⟨gl,0,none⟩) 1 1) v 1100 3 1 W h1 h2 e
      rw [hsu1] at hs1
      have hf1:=fun W (h1:EfsAt W (.slice (some ⟨gl,0,none⟩) 1 1) [exC]) (h2:RunsAt W v [newR 5 [7,3] 100]) (e:Env W) => own_eof [exC] [newR 5 [7,3] 100] (.slice (some ⟨gl,0,none⟩) 1 1) v 5 1100 7 1 W h1 h2 (by decide) (by decide) e
      rw [hof1] at hf1
      have hr1:=fun W (h2:RunsAt W v [newR 5 [7,3] 100]) => own_erate [newR 5 [7,3] 100] v 5 1100 200 W h2 (by decide) (by decide)
      rw [hrtE] at hr1
      dsimp only at hs1 hf1
      have HS1:=Lib.hid hs1;clear hs1
      have HF1:=Lib.hid hf1;clear hf1
      have HR1:=Lib.hid hr1;clear hr1
      go_upto_region 15 with (first | (with_reducible refine ((HS1.out _ HL.out HN.out (ENV.out.below HB.out)).mono ?_);rintro e w' ⟨rfl,hb⟩;replace HL:=Lib.hid (EfsAt.kept HL.out hb);replace HN:=Lib.hid (RunsAt.kept HN.out hb);replace HB:=Lib.hid (bch' HB.out hb);clear hb) | (with_reducible refine ((HF1.out _ HL.out HN.out (ENV.out.below HB.out)).mono ?_);rintro e w' ⟨rfl,hb⟩;replace HL:=Lib.hid (EfsAt.kept HL.out hb);replace HN:=Lib.hid (RunsAt.kept HN.out hb);replace HB:=Lib.hid (bch' HB.out hb);clear hb))
      go_wp2_with fail
      refine ((HR1.out _ HN.out).mono ?_)
      rintro e w3 ⟨v2,rfl,hv1,-,hb⟩
      have HN2:=Lib.hid (hv1 rfl);clear hv1 HR1 HN HS1 HF1
      replace HL:=Lib.hid (EfsAt.kept HL.out hb);replace HB:=Lib.hid (bch' HB.out hb);clear hb
      have HN:=HN2;clear HN2
      obtain ⟨R2,hR2⟩:∃ R2,R2 = rtL [newR 5 [7,3] 100] 5 1100 200:=⟨_,rfl⟩
      rw [← hR2] at HN hsu2
      clear hR2
      have hs2:=fun W (h1:EfsAt W (.slice (some ⟨gl,0,none⟩) 1 1) [exC]) (h2:RunsAt W v2 R2) (e:Env W) => own_esum [exC] R2 (.slice (some ⟨gl,0,none⟩) 1 1) v2 1600 7 1 W h1 h2 e
      rw [hsu2] at hs2
      dsimp only at hs2
      have HS2:=Lib.hid hs2;clear hs2
      go_wp2_with (first | (with_reducible refine ((HS2.out _ HL.out HN.out (ENV.out.below HB.out)).mono ?_);rintro e w' ⟨rfl,hb⟩;replace HL:=Lib.hid (EfsAt.kept HL.out hb);replace HN:=Lib.hid (RunsAt.kept HN.out hb);replace HB:=Lib.hid (bch' HB.out hb);clear hb))
      go_ret
      exact ⟨rfl,HB.out⟩
end Go.Proofs.YtbeojahilbglcaaGreatDoor

/- A part of the proof of EffectAdds: contracts of functions, and plain facts. -/
import Derived.Test.YtbeojahilbglcaaGreatDoorQdYd
import Derived.Test.YtbeojahilbglcaaGreatDoorQdYf
import Derived.Deep.RegionHeld3
import Derived.Deep.DeepCutAuto
import Derived.Deep.Cut
set_option maxRecDepth 100000
set_option maxHeartbeats 8000000
set_option linter.unusedVariables false
set_option linter.unusedSimpArgs false
namespace Lum
open Go Go.RowKit Go.Shelf
open Go.Lib (decDigits itoa)
def putL (R:List Rnx) (x:Rnx):List Rnx:=R.filter (fun y => decide (y.ef < x.ef)) ++ x :: R.filter (fun y => decide (x.ef < y.ef))
theorem filter_all {α:Type} {p:α → Bool} {l:List α} (h:∀ x ∈ l,p x = true):l.filter p = l:=List.filter_eq_self.2 h
theorem filter_nil {α:Type} {p:α → Bool} {l:List α} (h:∀ x ∈ l,p x = false):l.filter p = []:=List.filter_eq_nil_iff.2 fun x hx => by rw [h x hx];decide
theorem insL_putL {R:List Rnx} {x:Rnx} {i:Nat} {hit:Bool} (hb:Belongs (keyAt (·.ef) R) R.length x.ef i hit):insL R i hit x = putL R x:=by
  have hk:∀ j (hj:j < R.length),keyAt (·.ef) R j = (R[j]'hj).ef:=fun j hj => keyAt_at hj
  have e1:R.filter (fun y => decide (y.ef < x.ef)) = R.take i:=by
    conv => lhs;rw [← List.take_append_drop i R]
    rw [List.filter_append,filter_all,filter_nil,List.append_nil]
    · intro y hy
      obtain ⟨j,hj,h1,rfl⟩:=mem_drop_at hy
      refine decide_eq_false ?_
      rw [← hk j hj]
      by_cases e:j = i
      · subst e
        cases hit with
        | true => have:=(hb.yes rfl).2;omega
        | false => have:=hb.no rfl j (Nat.le_refl _) hj;omega
      · have:=hb.aft j (by omega) hj;omega
    · intro y hy
      obtain ⟨j,hj,h1,rfl⟩:=mem_take_at hy
      refine decide_eq_true ?_
      rw [← hk j hj]
      exact hb.bef j h1
  have e2:R.filter (fun y => decide (x.ef < y.ef)) = R.drop (if hit then i + 1 else i):=by
    conv => lhs;rw [← List.take_append_drop (if hit then i + 1 else i) R]
    rw [List.filter_append,filter_nil,filter_all,List.nil_append]
    · intro y hy
      obtain ⟨j,hj,h1,rfl⟩:=mem_drop_at hy
      refine decide_eq_true ?_
      rw [← hk j hj]
      cases hit with
      | true => rw [if_pos rfl] at h1;exact hb.aft j (by omega) hj
      | false => rw [if_neg (by decide)] at h1;exact hb.no rfl j h1 hj
    · intro y hy
      obtain ⟨j,hj,h1,rfl⟩:=mem_take_at hy
      refine decide_eq_false ?_
      rw [← hk j hj]
      cases hit with
      | true =>
        rw [if_pos rfl] at h1
        by_cases e:j = i
        · subst e;have:=(hb.yes rfl).2;omega
        · have:=hb.bef j (by omega);omega
      | false => rw [if_neg (by decide)] at h1;have:=hb.bef j h1;omega
  unfold insL putL
  rw [e1,e2]
abbrev newR (n:Int) (cs:List Int) (t:Int):Rnx:=⟨n,cs,0,100,1,t⟩
def stE (R:List Rnx) (n:Int) (cs:List Int) (t:Int):Int :=
  if rnsE R ≠ 0 then rnsE R else if wiB t 0 10000000 = false then 2 else if rnE (newR n cs t) ≠ 0 then rnE (newR n cs t) else if 16 < (putL R (newR n cs t)).length then 5 else 0
theorem stE_tab {R:List Rnx} {n t:Int} {cs:List Int} (h:¬ rnsE R = 0):stE R n cs t = rnsE R:=by unfold stE;rw [if_pos h]
theorem stE_time {R:List Rnx} {n t:Int} {cs:List Int} (h:rnsE R = 0) (h2:wiB t 0 10000000 = false):stE R n cs t = 2:=by unfold stE;rw [if_neg (by simpa using h),if_pos h2]
theorem stE_run {R:List Rnx} {n t:Int} {cs:List Int} (h:rnsE R = 0) (h2:wiB t 0 10000000 = true) (h3:¬ rnE (newR n cs t) = 0):stE R n cs t = rnE (newR n cs t):=by unfold stE;rw [if_neg (by simpa using h),if_neg (by rw [h2];decide),if_pos h3]
theorem stE_many {R:List Rnx} {n t:Int} {cs:List Int} (h:rnsE R = 0) (h2:wiB t 0 10000000 = true) (h3:rnE (newR n cs t) = 0) (h4:16 < (putL R (newR n cs t)).length):stE R n cs t = 5:=by unfold stE;rw [if_neg (by simpa using h),if_neg (by rw [h2];decide),if_neg (by simpa using h3),if_pos h4]
theorem stE_ok {R:List Rnx} {n t:Int} {cs:List Int} (h:rnsE R = 0) (h2:wiB t 0 10000000 = true) (h3:rnE (newR n cs t) = 0) (h4:¬ 16 < (putL R (newR n cs t)).length):stE R n cs t = 0:=by unfold stE;rw [if_neg (by simpa using h),if_neg (by rw [h2];decide),if_neg (by simpa using h3),if_neg h4]
def StR (R:List Rnx) (E:Int) (x:Rnx) (w:World) (e:Ending) (w':World):Prop:=∃ v,e = .returned (.tuple #[v,.int .i64 E]) ∧ (E = 0 → RunsAt w' v (putL R x)) ∧ (¬ E = 0 → v = .slice none 0 0) ∧ Below w.heap.size w w'
theorem use2 {P Q:Prop} (h:P) (f:P → Q):Q:=f h
theorem blk_newE {w:World} {t:TypeId} {cs:Array Value} {g:Nat} (h:g = w.heap.size):Blk (w.alloc (.cells cs t)) g t cs:=by subst h;exact Blk.new w t cs
theorem blk_ne {W:World} {g r:Nat} {t u:TypeId} {c d:Array Value} (h:Blk W g t c) (h2:Blk W r u d) (ht:t ≠ u):g ≠ r:=by
  intro e
  subst e
  have:=(h.symm.trans h2)
  injection this with this
  injection this with h3 h4
  exact ht h4
theorem IntsAt.far {W:World} {p:Option Addr} {n c:Nat} {l:List Int} (h:IntsAt W (.slice p n c) l) {g:Nat} (hg:∀ a,p = some a → a.block ≠ g) (i:Nat) (u:Value):IntsAt (W.setCell ⟨g,i,none⟩ u) (.slice p n c) l:=by
  obtain ⟨p',c',e,h2⟩:=h
  refine ⟨p',c',e,fun hn => ?_⟩
  obtain ⟨b,o,hp,hb,hc⟩:=h2 hn
  injection e with e1
  have hbg:b ≠ g:=hg _ (e1.trans hp)
  exact ⟨b,o,hp,by simpa using hb,fun j hj => (cell_blk (Below.heap_setCell W ⟨g,i,none⟩ u b hbg)).trans (hc j hj)⟩
theorem runsAt_of {base:Nat} {e:TypeId} {W:World} {p:Option Addr} {c:Nat} {L:List (Rnx × Sl3)} {l:List Rnx} (h:OwnR encN 6 base e W p c L) (hl:L.map (·.1) = l) (hc:HasC W L):RunsAt W (.slice p L.length c) l:=⟨L,p,c,rfl,hl,h.row encN_len,hc⟩
theorem hasC_ins {W:World} {L:List (Rnx × Sl3)} {i:Nat} {hit:Bool} {x:Rnx × Sl3} (h:HasC W L) (hx:IntsAt W (.slice x.2.1 x.2.2.1 x.2.2.2) x.1.cs ∧ x.1.cs.length ≤ x.2.2.2):HasC W (insL L i hit x):=fun y hy => by
  unfold insL at hy
  rcases List.mem_append.1 hy with h1 | h1
  · exact h y (List.mem_of_mem_take h1)
  · rcases List.mem_cons.1 h1 with rfl | h2
    · exact hx
    · exact h y (List.mem_of_mem_drop h2)
theorem Blk.all6 {w:World} {g:Nat} {t:TypeId} {a0 a1 a2 a3 a4 a5:Value} (h:Blk w g t #[a0,a1,a2,a3,a4,a5]) (b0 b1 b2 b3 b4 b5:Value):Blk ((((((w.setCell ⟨g,0,none⟩ b0).setCell ⟨g,1,none⟩ b1).setCell ⟨g,2,none⟩ b2).setCell ⟨g,3,none⟩ b3).setCell ⟨g,4,none⟩ b4).setCell ⟨g,5,none⟩ b5) g t #[b0,b1,b2,b3,b4,b5]:=by
  have h0:Blk (w.setCell ⟨g,0,none⟩ b0) g t #[b0,a1,a2,a3,a4,a5]:=h.set_ 0 b0
  have h1:Blk ((w.setCell ⟨g,0,none⟩ b0).setCell ⟨g,1,none⟩ b1) g t #[b0,b1,a2,a3,a4,a5]:=h0.set_ 1 b1
  have h2:Blk (((w.setCell ⟨g,0,none⟩ b0).setCell ⟨g,1,none⟩ b1).setCell ⟨g,2,none⟩ b2) g t #[b0,b1,b2,a3,a4,a5]:=h1.set_ 2 b2
  have h3:Blk ((((w.setCell ⟨g,0,none⟩ b0).setCell ⟨g,1,none⟩ b1).setCell ⟨g,2,none⟩ b2).setCell ⟨g,3,none⟩ b3) g t #[b0,b1,b2,b3,a4,a5]:=h2.set_ 3 b3
  have h4:Blk (((((w.setCell ⟨g,0,none⟩ b0).setCell ⟨g,1,none⟩ b1).setCell ⟨g,2,none⟩ b2).setCell ⟨g,3,none⟩ b3).setCell ⟨g,4,none⟩ b4) g t #[b0,b1,b2,b3,b4,a5]:=h3.set_ 4 b4
  have h5:Blk ((((((w.setCell ⟨g,0,none⟩ b0).setCell ⟨g,1,none⟩ b1).setCell ⟨g,2,none⟩ b2).setCell ⟨g,3,none⟩ b3).setCell ⟨g,4,none⟩ b4).setCell ⟨g,5,none⟩ b5) g t #[b0,b1,b2,b3,b4,b5]:=h4.set_ 5 b5
  exact h5
theorem ints_row {W:World} {p:Option Addr} {n c:Nat} {l:List Int} (h:IntsAt W (.slice p n c) l):RowX encI 1 W p l:=fun hn => by
  obtain ⟨p',c',e,h2⟩:=h
  injection e with e1
  obtain ⟨b,o,hp,hb,hc⟩:=h2 hn
  refine ⟨b,o,e1.trans hp,hb,fun i hi j v hj => ?_⟩
  have hj1:j < 1:=(List.getElem?_eq_some_iff.1 hj).1
  obtain rfl:j = 0:=by omega
  have:=hc i hi
  rw [Nat.mul_one,Nat.add_zero,this]
  have e3:inI l i = l[i]'hi:=by unfold inI;rw [List.getElem?_eq_getElem hi];rfl
  rw [e3]
  exact hj
end Lum
namespace Go.Proofs.YtbeojahilbglcaaGreatDoor
open Go.RowKit Go.Shelf Lum
open Go.Lib (decDigits itoa)
attribute [local go_sem] bs_get bs_extract_end bs_extract_from bs_extract bs_append
theorem own_estart (R : List Rnx) (u : Value) (n t : Int) (cs : List Int) (p : Option Addr) (m c : Nat) (w : World) (hr : RunsAt w u R) (hi : IntsAt w (.slice p m c) cs) (hcap : cs.length ≤ c) (hlen : cs.length ≤ 17592186044416) :
    Calls Tryz.prog 8 #[u,.int .i64 n,.slice p m c,.int .i64 t] w (StR R (stE R n cs t) (newR n cs t) w):=by
  obtain rfl:=hi.len
  have hru:=fun W (h:RunsAt W u R) => own_eruns R u W h
  change ∀ W,RunsAt W u R → Calls _ _ _ _ (fun e w' => e = .returned (.int .i64 (rnsE R)) ∧ _) at hru
  have hnw:=fun W => own_clk_new t W
  have HN:=Lib.hid hr;have HI:=Lib.hid hi
  have HB:=Lib.hid (Below.refl w.heap.size w)
  by_cases hz:rnsE R = 0
  · cases ht:wiB t 0 10000000
    · have HE:Hid (¬ (2:Int) = 0):=Lib.hid (by decide)
      rw [stE_time hz ht]
      rw [hz] at hru
      rw [if_neg (by rw [ht];decide),if_neg (by rw [ht];decide)] at hnw
      dsimp only [clkV] at hnw
      clear hz ht hr hi
      have HRU:=Lib.hid hru;clear hru
      have HNW:=Lib.hid hnw;clear hnw
      go_enter Tryz.func8,Tryz.ntmps8
      go_wp2_with (first | (with_reducible refine ((HRU.out _ HN.out).mono ?_);rintro e w' ⟨rfl,hb⟩;replace HN:=Lib.hid (RunsAt.kept HN.out hb);replace HI:=Lib.hid (IntsAt.below HI.out hb);replace HB:=Lib.hid (bch' HB.out hb);clear hb) | (with_reducible refine ((HNW.out _).mono ?_);rintro e w2 ⟨rfl,hb⟩;replace HN:=Lib.hid (RunsAt.kept HN.out hb);replace HI:=Lib.hid (IntsAt.below HI.out hb);replace HB:=Lib.hid (bch' HB.out hb);clear hb))
      go_ret2
      exact ⟨_,rfl,fun h => absurd h HE.out,fun _ => rfl,(HB.out.alloc HB.out.size _)⟩
    · by_cases hx:rnE (newR n cs t) = 0
      · by_cases hl:16 < (putL R (newR n cs t)).length
        · rw [hz] at hru
          rw [if_pos ht,if_pos ht] at hnw
          dsimp only [clkV] at hnw
          have hcl:=fun W (h:RowX encI 1 W p cs) => own_iclone W cs p c h (by omega)
          have hrn:=fun W (pc:Option Addr) (cc:Nat) (h:IntsAt W (.slice pc cs.length cc) cs) (h2:cs.length ≤ cc) => own_erun n 0 100 1 t cs pc cs.length cc W h h2
          change ∀ W (pc:Option Addr) (cc:Nat) (h:IntsAt W (.slice pc cs.length cc) cs) (h2:cs.length ≤ cc),Calls _ _ _ _ (fun e w' => e = .returned (.int .i64 (rnE (newR n cs t))) ∧ _) at hrn
          rw [hx] at hrn
          have HRU:=Lib.hid hru;clear hru
          have HNW:=Lib.hid hnw;clear hnw
          have HCL:=Lib.hid hcl;clear hcl
          have HRN:=Lib.hid hrn;clear hrn
          have hok:=ordOk (show ordE rnE (·.ef) R = 0 from hz)
          obtain ⟨M,pm,cm,rfl,hM,hMR,hMC⟩:=hr
          obtain ⟨i,hit,hb9⟩:=belongs_key hok n
          have hxe:=(rnOk hx).ef
          have hpu:=fun W (h:RowX encN 6 W pm M) (pc:Option Addr) (cc:Nat) => own_eput W M (newR n cs t,(pc,cs.length,cc)) pm cm i hit h (by rw [hM];exact hok) hxe (by rw [hM];show Belongs _ M.length n i hit;rw [← List.length_map (f:=fun x:Rnx × Sl3 => x.1),hM];exact hb9)
          have HRX:Hid (∀ W,Below w.heap.size w W → RowX encN 6 W pm M):=Lib.hid fun W h => hMR.kept h
          have HMC:Hid (∀ W,Below w.heap.size w W → HasC W M):=Lib.hid fun W h => hMC.kept h
          have hpl:∀ pc cc,(insL M i hit (newR n cs t,((pc:Option Addr),cs.length,(cc:Nat)))).map (·.1) = putL R (newR n cs t):=fun pc cc => by rw [insL_map,hM];exact insL_putL (x:=newR n cs t) hb9
          have HPL:=Lib.hid hpl;clear hpl
          have HLN:Hid (∀ pc cc,(insL M i hit (newR n cs t,((pc:Option Addr),cs.length,(cc:Nat)))).length = (putL R (newR n cs t)).length):=Lib.hid fun pc cc => by rw [← HPL.out pc cc,List.length_map]
          have hlq:(16:Int) < ((putL R (newR n cs t)).length:Int):=by omega
          rw [stE_many hz ht hx hl]
          clear hz ht hx hok hb9 hxe hMR hMC hM hl
          have HPU:=Lib.hid hpu;clear hpu
          go_enter Tryz.func8,Tryz.ntmps8
          go_upto_region 5 with (first | (with_reducible refine ((HRU.out _ HN.out).mono ?_);rintro e w' ⟨rfl,hb⟩;replace HN:=Lib.hid (RunsAt.kept HN.out hb);replace HI:=Lib.hid (IntsAt.below HI.out hb);replace HB:=Lib.hid (bch' HB.out hb);clear hb) | (with_reducible refine ((HNW.out _).mono ?_);rintro e w2 ⟨rfl,hb⟩;replace HN:=Lib.hid (RunsAt.kept HN.out hb);replace HI:=Lib.hid (IntsAt.below HI.out hb);replace HB:=Lib.hid (bch' HB.out hb);clear hb))
          have hb:=(Below.refl w2.heap.size w2).alloc (Nat.le_refl _) (.cells #[.int .i64 0,.int .i64 100,.int .i64 1,.int .i64 t] 66)
          have HC:=Lib.hid (Blk.new w2 66 #[.int .i64 0,.int .i64 100,.int .i64 1,.int .i64 t])
          replace HN:=Lib.hid (RunsAt.kept HN.out hb);replace HI:=Lib.hid (IntsAt.below HI.out hb);replace HB:=Lib.hid (bch' HB.out hb);clear hb
          obtain ⟨g,hg⟩:∃ g,g = w2.heap.size:=⟨_,rfl⟩
          obtain ⟨W1,hW1⟩:∃ X,X = w2.alloc (.cells #[.int .i64 0,.int .i64 100,.int .i64 1,.int .i64 t] 66):=⟨_,rfl⟩
          rw [← hg] at HC ⊢
          rw [← hW1] at HB HN HI HC ⊢
          clear hg hW1
          clear HI HN
          go_upto_region 7 with fail
          obtain ⟨SS,hSS⟩:∃ SS:World → Prop,∀ W',SS W' ↔ (Below w.heap.size w W' ∧ Blk W' g 66 #[.int .i64 0,.int .i64 100,.int .i64 1,.int .i64 t]):=⟨fun W' => Below w.heap.size w W' ∧ Blk W' g 66 #[.int .i64 0,.int .i64 100,.int .i64 1,.int .i64 t],fun _ => Iff.rfl⟩
          have HBO:Hid (∀ W',SS W' → (W'.cell? ⟨g,0,none⟩ = some (.int .i64 0) ∧ W'.cell? ⟨g,1,none⟩ = some (.int .i64 100) ∧ W'.cell? ⟨g,2,none⟩ = some (.int .i64 1) ∧ W'.cell? ⟨g,3,none⟩ = some (.int .i64 t) ∧ SS W')):=Lib.hid fun W' hs => by obtain ⟨h1,h2⟩:=(hSS W').1 hs;exact ⟨h2.c4.1,h2.c4.2.1,h2.c4.2.2.1,h2.c4.2.2.2.1,hs⟩
          have HS1:Hid (SS W1):=Lib.hid ((hSS _).2 ⟨HB.out,HC.out⟩)
          have HKE:Hid (∀ A B,SS A → Below A.heap.size A B → SS B):=Lib.hid fun A B hs hb => by obtain ⟨h1,h2⟩:=(hSS A).1 hs;exact (hSS B).2 ⟨bch' h1 hb,h2.keep hb⟩
          have HKD:Hid (∀ A,SS A → SS A.drew):=Lib.hid fun A h => HKE.out _ _ h ((Below.refl _ _).drew)
          have HKA:Hid (∀ A c,SS A → SS (A.alloc c)):=Lib.hid fun A c h => HKE.out _ _ h ((Below.refl _ _).alloc (Nat.le_refl _) _)
          have HSZ:Hid (∀ W,SS W → w.heap.size ≤ W.heap.size):=Lib.hid fun W hs => ((hSS W).1 hs).1.size
          have HII:Hid (∀ W,SS W → RowX encI 1 W p cs):=Lib.hid fun W hs => ints_row (IntsAt.below hi ((hSS W).1 hs).1)
          have HSE:Hid (∀ (A:World) (n:Nat) (c:Array Value) (v0 v1 v2 v3 v4 v5:Value),SS A → w.heap.size ≤ n → Blk A n 68 c → SS ((((((A.setCell ⟨n,0,none⟩ v0).setCell ⟨n,1,none⟩ v1).setCell ⟨n,2,none⟩ v2).setCell ⟨n,3,none⟩ v3).setCell ⟨n,4,none⟩ v4).setCell ⟨n,5,none⟩ v5)):=Lib.hid fun A n c v0 v1 v2 v3 v4 v5 hs hn hb => by obtain ⟨h1,h2⟩:=(hSS A).1 hs;have hne:=blk_ne h2 hb (by decide);exact (hSS _).2 ⟨(((((h1.setCell hn _).setCell hn _).setCell hn _).setCell hn _).setCell hn _).setCell hn _,(((((h2.far hne _).far hne _).far hne _).far hne _).far hne _).far hne _⟩
          have HFI:Hid (∀ A,SS A → Below w.heap.size w A):=Lib.hid fun A hs => ((hSS A).1 hs).1
          clear hSS HC HB
          go_cut [13] (fun s13 wx => ∃ (n7:Nat) (pc:Option Addr) (cc:Nat),s13 = .pointer (some ⟨n7,0,none⟩) ∧ Hid (SS wx) ∧ Hid (Blk wx n7 68 #[.int .i64 n,.slice pc cs.length cc,.int .i64 0,.int .i64 100,.int .i64 1,.int .i64 t]) ∧ Hid (IntsAt wx (.slice pc cs.length cc) cs) ∧ Hid (cs.length ≤ cc))
          case first =>
            go_region_held3 (fun W' => W'.cell? ⟨g,0,none⟩ = some (.int .i64 0) ∧ W'.cell? ⟨g,1,none⟩ = some (.int .i64 100) ∧ W'.cell? ⟨g,2,none⟩ = some (.int .i64 1) ∧ W'.cell? ⟨g,3,none⟩ = some (.int .i64 t) ∧ SS W') (with_reducible refine HBO.out _ ?_;((repeat (first | with_reducible refine HSE.out _ _ _ _ _ _ _ _ _ ?_ HZ.1 HZ.2 | with_reducible refine HKE.out _ _ ?_ hb9 | with_reducible refine HKA.out _ _ ?_ | with_reducible refine HKD.out _ ?_));with_reducible exact HS1.out)) (first | (go_at_call 31;with_reducible refine (HCL.out _ (HII.out _ (by ((repeat (first | with_reducible refine HSE.out _ _ _ _ _ _ _ _ _ ?_ HZ.1 HZ.2 | with_reducible refine HKE.out _ _ ?_ hb9 | with_reducible refine HKA.out _ _ ?_ | with_reducible refine HKD.out _ ?_));with_reducible exact HS1.out)))).mono ?_;rintro e w9 ⟨p9,c9,rfl,ho9,hb9⟩;first | (with_reducible refine use2 (And.intro (HSZ.out _ HS1.out) (Blk.keep (Blk.drew (blk_newE rfl)) hb9):w.heap.size ≤ W1.heap.size ∧ Blk w9 W1.heap.size 68 #[.int .i64 0,.slice none 0 0,.int .i64 0,.int .i64 0,.int .i64 0,.int .i64 0]) (fun HZ => ?_);obtain ⟨y0,y1,y2,y3,y4,y5,yf0,yf1,yf2,yf3,yf4,yf5⟩:=HZ.2.c6) | skip))
            all_goals (go_wp2_with fail;go_meet;have hi9:=OwnR.ints ho9;have ha9:∀ o,IntsAt (w9.alloc o) (.slice p9 cs.length c9) cs:=fun o => hi9.below ((Below.refl w9.heap.size w9).alloc (Nat.le_refl _) o);refine ⟨_,p9,c9,rfl,Lib.hid ?_,Lib.hid ?_,Lib.hid ?_,Lib.hid ho9.cap⟩)
            all_goals first | ((repeat (first | with_reducible refine HSE.out _ _ _ _ _ _ _ _ _ ?_ HZ.1 HZ.2 | with_reducible refine HKE.out _ _ ?_ hb9 | with_reducible refine HKA.out _ _ ?_ | with_reducible refine HKD.out _ ?_));with_reducible exact HS1.out) | with_reducible exact blk_newE rfl | with_reducible exact Blk.all6 HZ.2 _ _ _ _ _ _ | with_reducible exact ha9 _ | (have hne:∀ a,p9 = some a → a.block ≠ W1.heap.size:=fun a ha => (by have h:=(ho9.lt a ha).1;simp [World.drew] at h;omega);(repeat with_reducible refine IntsAt.far ?_ hne _ _);with_reducible exact hi9)
          case rest =>
            obtain ⟨n7,pc,cc,rfl,HSS,HX,HI,HCC⟩:=hcut
            have hB:=HFI.out _ HSS.out
            have HB:=Lib.hid hB;clear hB
            clear HSS HFI HSE HSZ HKA HKD HKE HS1 HBO HII
            obtain ⟨x0,x1,x2,x3,x4,x5,xf0,xf1,xf2,xf3,xf4,xf5⟩:=HX.out.c6
            go_upto_region 11 with (first | (with_reducible refine ((HRN.out _ _ _ HI.out HCC.out).mono ?_);rintro e w8 ⟨rfl,hb⟩;replace HX:=Lib.hid (HX.out.keep hb);clear x0 x1 x2 x3 x4 x5 xf0 xf1 xf2 xf3 xf4 xf5;replace HI:=Lib.hid (IntsAt.below HI.out hb);replace HB:=Lib.hid (bch' HB.out hb);clear hb;obtain ⟨x0,x1,x2,x3,x4,x5,xf0,xf1,xf2,xf3,xf4,xf5⟩:=HX.out.c6))
            have hlen:=HLN.out pc cc
            go_upto_region 12 with (first | (with_reducible refine ((HPU.out _ (HRX.out _ HB.out) _ _).mono ?_);rintro e w7 ⟨p7,c7,rfl,ho,hb⟩;have HO:=Lib.hid ho;clear ho;replace HX:=Lib.hid (HX.out.keep hb);clear x0 x1 x2 x3 x4 x5 xf0 xf1 xf2 xf3 xf4 xf5;replace HI:=Lib.hid (IntsAt.below HI.out hb);replace HB:=Lib.hid (bch' HB.out hb);clear hb;obtain ⟨x0,x1,x2,x3,x4,x5,xf0,xf1,xf2,xf3,xf4,xf5⟩:=HX.out.c6))
            go_wp2_with fail
            go_ret2
            exact ⟨_,rfl,fun h => absurd h (by decide),fun _ => rfl,HB.out⟩
        · rw [hz] at hru
          rw [if_pos ht,if_pos ht] at hnw
          dsimp only [clkV] at hnw
          have hcl:=fun W (h:RowX encI 1 W p cs) => own_iclone W cs p c h (by omega)
          have hrn:=fun W (pc:Option Addr) (cc:Nat) (h:IntsAt W (.slice pc cs.length cc) cs) (h2:cs.length ≤ cc) => own_erun n 0 100 1 t cs pc cs.length cc W h h2
          change ∀ W (pc:Option Addr) (cc:Nat) (h:IntsAt W (.slice pc cs.length cc) cs) (h2:cs.length ≤ cc),Calls _ _ _ _ (fun e w' => e = .returned (.int .i64 (rnE (newR n cs t))) ∧ _) at hrn
          rw [hx] at hrn
          have HRU:=Lib.hid hru;clear hru
          have HNW:=Lib.hid hnw;clear hnw
          have HCL:=Lib.hid hcl;clear hcl
          have HRN:=Lib.hid hrn;clear hrn
          have hok:=ordOk (show ordE rnE (·.ef) R = 0 from hz)
          obtain ⟨M,pm,cm,rfl,hM,hMR,hMC⟩:=hr
          obtain ⟨i,hit,hb9⟩:=belongs_key hok n
          have hxe:=(rnOk hx).ef
          have hpu:=fun W (h:RowX encN 6 W pm M) (pc:Option Addr) (cc:Nat) => own_eput W M (newR n cs t,(pc,cs.length,cc)) pm cm i hit h (by rw [hM];exact hok) hxe (by rw [hM];show Belongs _ M.length n i hit;rw [← List.length_map (f:=fun x:Rnx × Sl3 => x.1),hM];exact hb9)
          have HRX:Hid (∀ W,Below w.heap.size w W → RowX encN 6 W pm M):=Lib.hid fun W h => hMR.kept h
          have HMC:Hid (∀ W,Below w.heap.size w W → HasC W M):=Lib.hid fun W h => hMC.kept h
          have hpl:∀ pc cc,(insL M i hit (newR n cs t,((pc:Option Addr),cs.length,(cc:Nat)))).map (·.1) = putL R (newR n cs t):=fun pc cc => by rw [insL_map,hM];exact insL_putL (x:=newR n cs t) hb9
          have HPL:=Lib.hid hpl;clear hpl
          have HLN:Hid (∀ pc cc,(insL M i hit (newR n cs t,((pc:Option Addr),cs.length,(cc:Nat)))).length = (putL R (newR n cs t)).length):=Lib.hid fun pc cc => by rw [← HPL.out pc cc,List.length_map]
          have hlq:¬ (16:Int) < ((putL R (newR n cs t)).length:Int):=by omega
          rw [stE_ok hz ht hx hl]
          clear hz ht hx hok hb9 hxe hMR hMC hM hl
          have HPU:=Lib.hid hpu;clear hpu
          go_enter Tryz.func8,Tryz.ntmps8
          go_upto_region 5 with (first | (with_reducible refine ((HRU.out _ HN.out).mono ?_);rintro e w' ⟨rfl,hb⟩;replace HN:=Lib.hid (RunsAt.kept HN.out hb);replace HI:=Lib.hid (IntsAt.below HI.out hb);replace HB:=Lib.hid (bch' HB.out hb);clear hb) | (with_reducible refine ((HNW.out _).mono ?_);rintro e w2 ⟨rfl,hb⟩;replace HN:=Lib.hid (RunsAt.kept HN.out hb);replace HI:=Lib.hid (IntsAt.below HI.out hb);replace HB:=Lib.hid (bch' HB.out hb);clear hb))
          have hb:=(Below.refl w2.heap.size w2).alloc (Nat.le_refl _) (.cells #[.int .i64 0,.int .i64 100,.int .i64 1,.int .i64 t] 66)
          have HC:=Lib.hid (Blk.new w2 66 #[.int .i64 0,.int .i64 100,.int .i64 1,.int .i64 t])
          replace HN:=Lib.hid (RunsAt.kept HN.out hb);replace HI:=Lib.hid (IntsAt.below HI.out hb);replace HB:=Lib.hid (bch' HB.out hb);clear hb
          obtain ⟨g,hg⟩:∃ g,g = w2.heap.size:=⟨_,rfl⟩
          obtain ⟨W1,hW1⟩:∃ X,X = w2.alloc (.cells #[.int .i64 0,.int .i64 100,.int .i64 1,.int .i64 t] 66):=⟨_,rfl⟩
          rw [← hg] at HC ⊢
          rw [← hW1] at HB HN HI HC ⊢
          clear hg hW1
          clear HI HN
          go_upto_region 7 with fail
          obtain ⟨SS,hSS⟩:∃ SS:World → Prop,∀ W',SS W' ↔ (Below w.heap.size w W' ∧ Blk W' g 66 #[.int .i64 0,.int .i64 100,.int .i64 1,.int .i64 t]):=⟨fun W' => Below w.heap.size w W' ∧ Blk W' g 66 #[.int .i64 0,.int .i64 100,.int .i64 1,.int .i64 t],fun _ => Iff.rfl⟩
          have HBO:Hid (∀ W',SS W' → (W'.cell? ⟨g,0,none⟩ = some (.int .i64 0) ∧ W'.cell? ⟨g,1,none⟩ = some (.int .i64 100) ∧ W'.cell? ⟨g,2,none⟩ = some (.int .i64 1) ∧ W'.cell? ⟨g,3,none⟩ = some (.int .i64 t) ∧ SS W')):=Lib.hid fun W' hs => by obtain ⟨h1,h2⟩:=(hSS W').1 hs;exact ⟨h2.c4.1,h2.c4.2.1,h2.c4.2.2.1,h2.c4.2.2.2.1,hs⟩
          have HS1:Hid (SS W1):=Lib.hid ((hSS _).2 ⟨HB.out,HC.out⟩)
          have HKE:Hid (∀ A B,SS A → Below A.heap.size A B → SS B):=Lib.hid fun A B hs hb => by obtain ⟨h1,h2⟩:=(hSS A).1 hs;exact (hSS B).2 ⟨bch' h1 hb,h2.keep hb⟩
          have HKD:Hid (∀ A,SS A → SS A.drew):=Lib.hid fun A h => HKE.out _ _ h ((Below.refl _ _).drew)
          have HKA:Hid (∀ A c,SS A → SS (A.alloc c)):=Lib.hid fun A c h => HKE.out _ _ h ((Below.refl _ _).alloc (Nat.le_refl _) _)
          have HSZ:Hid (∀ W,SS W → w.heap.size ≤ W.heap.size):=Lib.hid fun W hs => ((hSS W).1 hs).1.size
          have HII:Hid (∀ W,SS W → RowX encI 1 W p cs):=Lib.hid fun W hs => ints_row (IntsAt.below hi ((hSS W).1 hs).1)
          have HSE:Hid (∀ (A:World) (n:Nat) (c:Array Value) (v0 v1 v2 v3 v4 v5:Value),SS A → w.heap.size ≤ n → Blk A n 68 c → SS ((((((A.setCell ⟨n,0,none⟩ v0).setCell ⟨n,1,none⟩ v1).setCell ⟨n,2,none⟩ v2).setCell ⟨n,3,none⟩ v3).setCell ⟨n,4,none⟩ v4).setCell ⟨n,5,none⟩ v5)):=Lib.hid fun A n c v0 v1 v2 v3 v4 v5 hs hn hb => by obtain ⟨h1,h2⟩:=(hSS A).1 hs;have hne:=blk_ne h2 hb (by decide);exact (hSS _).2 ⟨(((((h1.setCell hn _).setCell hn _).setCell hn _).setCell hn _).setCell hn _).setCell hn _,(((((h2.far hne _).far hne _).far hne _).far hne _).far hne _).far hne _⟩
          have HFI:Hid (∀ A,SS A → Below w.heap.size w A):=Lib.hid fun A hs => ((hSS A).1 hs).1
          clear hSS HC HB
          go_cut [13] (fun s13 wx => ∃ (n7:Nat) (pc:Option Addr) (cc:Nat),s13 = .pointer (some ⟨n7,0,none⟩) ∧ Hid (SS wx) ∧ Hid (Blk wx n7 68 #[.int .i64 n,.slice pc cs.length cc,.int .i64 0,.int .i64 100,.int .i64 1,.int .i64 t]) ∧ Hid (IntsAt wx (.slice pc cs.length cc) cs) ∧ Hid (cs.length ≤ cc))
          case first =>
            go_region_held3 (fun W' => W'.cell? ⟨g,0,none⟩ = some (.int .i64 0) ∧ W'.cell? ⟨g,1,none⟩ = some (.int .i64 100) ∧ W'.cell? ⟨g,2,none⟩ = some (.int .i64 1) ∧ W'.cell? ⟨g,3,none⟩ = some (.int .i64 t) ∧ SS W') (with_reducible refine HBO.out _ ?_;((repeat (first | with_reducible refine HSE.out _ _ _ _ _ _ _ _ _ ?_ HZ.1 HZ.2 | with_reducible refine HKE.out _ _ ?_ hb9 | with_reducible refine HKA.out _ _ ?_ | with_reducible refine HKD.out _ ?_));with_reducible exact HS1.out)) (first | (go_at_call 31;with_reducible refine (HCL.out _ (HII.out _ (by ((repeat (first | with_reducible refine HSE.out _ _ _ _ _ _ _ _ _ ?_ HZ.1 HZ.2 | with_reducible refine HKE.out _ _ ?_ hb9 | with_reducible refine HKA.out _ _ ?_ | with_reducible refine HKD.out _ ?_));with_reducible exact HS1.out)))).mono ?_;rintro e w9 ⟨p9,c9,rfl,ho9,hb9⟩;first | (with_reducible refine use2 (And.intro (HSZ.out _ HS1.out) (Blk.keep (Blk.drew (blk_newE rfl)) hb9):w.heap.size ≤ W1.heap.size ∧ Blk w9 W1.heap.size 68 #[.int .i64 0,.slice none 0 0,.int .i64 0,.int .i64 0,.int .i64 0,.int .i64 0]) (fun HZ => ?_);obtain ⟨y0,y1,y2,y3,y4,y5,yf0,yf1,yf2,yf3,yf4,yf5⟩:=HZ.2.c6) | skip))
            all_goals (go_wp2_with fail;go_meet;have hi9:=OwnR.ints ho9;have ha9:∀ o,IntsAt (w9.alloc o) (.slice p9 cs.length c9) cs:=fun o => hi9.below ((Below.refl w9.heap.size w9).alloc (Nat.le_refl _) o);refine ⟨_,p9,c9,rfl,Lib.hid ?_,Lib.hid ?_,Lib.hid ?_,Lib.hid ho9.cap⟩)
            all_goals first | ((repeat (first | with_reducible refine HSE.out _ _ _ _ _ _ _ _ _ ?_ HZ.1 HZ.2 | with_reducible refine HKE.out _ _ ?_ hb9 | with_reducible refine HKA.out _ _ ?_ | with_reducible refine HKD.out _ ?_));with_reducible exact HS1.out) | with_reducible exact blk_newE rfl | with_reducible exact Blk.all6 HZ.2 _ _ _ _ _ _ | with_reducible exact ha9 _ | (have hne:∀ a,p9 = some a → a.block ≠ W1.heap.size:=fun a ha => (by have h:=(ho9.lt a ha).1;simp [World.drew] at h;omega);(repeat with_reducible refine IntsAt.far ?_ hne _ _);with_reducible exact hi9)
          case rest =>
            obtain ⟨n7,pc,cc,rfl,HSS,HX,HI,HCC⟩:=hcut
            have hB:=HFI.out _ HSS.out
            have HB:=Lib.hid hB;clear hB
            clear HSS HFI HSE HSZ HKA HKD HKE HS1 HBO HII
            obtain ⟨x0,x1,x2,x3,x4,x5,xf0,xf1,xf2,xf3,xf4,xf5⟩:=HX.out.c6
            go_upto_region 11 with (first | (with_reducible refine ((HRN.out _ _ _ HI.out HCC.out).mono ?_);rintro e w8 ⟨rfl,hb⟩;replace HX:=Lib.hid (HX.out.keep hb);clear x0 x1 x2 x3 x4 x5 xf0 xf1 xf2 xf3 xf4 xf5;replace HI:=Lib.hid (IntsAt.below HI.out hb);replace HB:=Lib.hid (bch' HB.out hb);clear hb;obtain ⟨x0,x1,x2,x3,x4,x5,xf0,xf1,xf2,xf3,xf4,xf5⟩:=HX.out.c6))
            have hlen:=HLN.out pc cc
            go_upto_region 12 with (first | (with_reducible refine ((HPU.out _ (HRX.out _ HB.out) _ _).mono ?_);rintro e w7 ⟨p7,c7,rfl,ho,hb⟩;have HO:=Lib.hid ho;clear ho;replace HX:=Lib.hid (HX.out.keep hb);clear x0 x1 x2 x3 x4 x5 xf0 xf1 xf2 xf3 xf4 xf5;replace HI:=Lib.hid (IntsAt.below HI.out hb);replace HB:=Lib.hid (bch' HB.out hb);clear hb;obtain ⟨x0,x1,x2,x3,x4,x5,xf0,xf1,xf2,xf3,xf4,xf5⟩:=HX.out.c6))
            go_wp2_with fail
            go_ret2
            rw [← hlen]
            exact ⟨_,rfl,fun _ => runsAt_of HO.out (HPL.out pc cc) (hasC_ins (HMC.out _ HB.out) ⟨HI.out,HCC.out⟩),fun h => absurd rfl h,HB.out⟩
      · rw [hz] at hru
        rw [if_pos ht,if_pos ht] at hnw
        dsimp only [clkV] at hnw
        have hcl:=fun W (h:RowX encI 1 W p cs) => own_iclone W cs p c h (by omega)
        have hrn:=fun W (pc:Option Addr) (cc:Nat) (h:IntsAt W (.slice pc cs.length cc) cs) (h2:cs.length ≤ cc) => own_erun n 0 100 1 t cs pc cs.length cc W h h2
        change ∀ W (pc:Option Addr) (cc:Nat) (h:IntsAt W (.slice pc cs.length cc) cs) (h2:cs.length ≤ cc),Calls _ _ _ _ (fun e w' => e = .returned (.int .i64 (rnE (newR n cs t))) ∧ _) at hrn
        have HRU:=Lib.hid hru;clear hru
        have HNW:=Lib.hid hnw;clear hnw
        have HCL:=Lib.hid hcl;clear hcl
        have HRN:=Lib.hid hrn;clear hrn
        have HE:Hid (¬ rnE (newR n cs t) = 0):=Lib.hid hx
        have hne:((rnE (newR n cs t):Int) != 0) = true:=by simpa using hx
        rw [stE_run hz ht hx]
        clear hz ht hx hr
        generalize rnE (newR n cs t) = m at *
        go_enter Tryz.func8,Tryz.ntmps8
        go_upto_region 5 with (first | (with_reducible refine ((HRU.out _ HN.out).mono ?_);rintro e w' ⟨rfl,hb⟩;replace HN:=Lib.hid (RunsAt.kept HN.out hb);replace HI:=Lib.hid (IntsAt.below HI.out hb);replace HB:=Lib.hid (bch' HB.out hb);clear hb) | (with_reducible refine ((HNW.out _).mono ?_);rintro e w2 ⟨rfl,hb⟩;replace HN:=Lib.hid (RunsAt.kept HN.out hb);replace HI:=Lib.hid (IntsAt.below HI.out hb);replace HB:=Lib.hid (bch' HB.out hb);clear hb))
        have hb:=(Below.refl w2.heap.size w2).alloc (Nat.le_refl _) (.cells #[.int .i64 0,.int .i64 100,.int .i64 1,.int .i64 t] 66)
        have HC:=Lib.hid (Blk.new w2 66 #[.int .i64 0,.int .i64 100,.int .i64 1,.int .i64 t])
        replace HN:=Lib.hid (RunsAt.kept HN.out hb);replace HI:=Lib.hid (IntsAt.below HI.out hb);replace HB:=Lib.hid (bch' HB.out hb);clear hb
        obtain ⟨g,hg⟩:∃ g,g = w2.heap.size:=⟨_,rfl⟩
        obtain ⟨W1,hW1⟩:∃ X,X = w2.alloc (.cells #[.int .i64 0,.int .i64 100,.int .i64 1,.int .i64 t] 66):=⟨_,rfl⟩
        rw [← hg] at HC ⊢
        rw [← hW1] at HB HN HI HC ⊢
        clear hg hW1
        clear HI HN
        go_upto_region 7 with fail
        obtain ⟨SS,hSS⟩:∃ SS:World → Prop,∀ W',SS W' ↔ (Below w.heap.size w W' ∧ Blk W' g 66 #[.int .i64 0,.int .i64 100,.int .i64 1,.int .i64 t]):=⟨fun W' => Below w.heap.size w W' ∧ Blk W' g 66 #[.int .i64 0,.int .i64 100,.int .i64 1,.int .i64 t],fun _ => Iff.rfl⟩
        have HBO:Hid (∀ W',SS W' → (W'.cell? ⟨g,0,none⟩ = some (.int .i64 0) ∧ W'.cell? ⟨g,1,none⟩ = some (.int .i64 100) ∧ W'.cell? ⟨g,2,none⟩ = some (.int .i64 1) ∧ W'.cell? ⟨g,3,none⟩ = some (.int .i64 t) ∧ SS W')):=Lib.hid fun W' hs => by obtain ⟨h1,h2⟩:=(hSS W').1 hs;exact ⟨h2.c4.1,h2.c4.2.1,h2.c4.2.2.1,h2.c4.2.2.2.1,hs⟩
        have HS1:Hid (SS W1):=Lib.hid ((hSS _).2 ⟨HB.out,HC.out⟩)
        have HKE:Hid (∀ A B,SS A → Below A.heap.size A B → SS B):=Lib.hid fun A B hs hb => by obtain ⟨h1,h2⟩:=(hSS A).1 hs;exact (hSS B).2 ⟨bch' h1 hb,h2.keep hb⟩
        have HKD:Hid (∀ A,SS A → SS A.drew):=Lib.hid fun A h => HKE.out _ _ h ((Below.refl _ _).drew)
        have HKA:Hid (∀ A c,SS A → SS (A.alloc c)):=Lib.hid fun A c h => HKE.out _ _ h ((Below.refl _ _).alloc (Nat.le_refl _) _)
        have HSZ:Hid (∀ W,SS W → w.heap.size ≤ W.heap.size):=Lib.hid fun W hs => ((hSS W).1 hs).1.size
        have HII:Hid (∀ W,SS W → RowX encI 1 W p cs):=Lib.hid fun W hs => ints_row (IntsAt.below hi ((hSS W).1 hs).1)
        have HSE:Hid (∀ (A:World) (n:Nat) (c:Array Value) (v0 v1 v2 v3 v4 v5:Value),SS A → w.heap.size ≤ n → Blk A n 68 c → SS ((((((A.setCell ⟨n,0,none⟩ v0).setCell ⟨n,1,none⟩ v1).setCell ⟨n,2,none⟩ v2).setCell ⟨n,3,none⟩ v3).setCell ⟨n,4,none⟩ v4).setCell ⟨n,5,none⟩ v5)):=Lib.hid fun A n c v0 v1 v2 v3 v4 v5 hs hn hb => by obtain ⟨h1,h2⟩:=(hSS A).1 hs;have hne:=blk_ne h2 hb (by decide);exact (hSS _).2 ⟨(((((h1.setCell hn _).setCell hn _).setCell hn _).setCell hn _).setCell hn _).setCell hn _,(((((h2.far hne _).far hne _).far hne _).far hne _).far hne _).far hne _⟩
        have HFI:Hid (∀ A,SS A → Below w.heap.size w A):=Lib.hid fun A hs => ((hSS A).1 hs).1
        clear hSS HC HB
        go_cut [13] (fun s13 wx => ∃ (n7:Nat) (pc:Option Addr) (cc:Nat),s13 = .pointer (some ⟨n7,0,none⟩) ∧ Hid (SS wx) ∧ Hid (Blk wx n7 68 #[.int .i64 n,.slice pc cs.length cc,.int .i64 0,.int .i64 100,.int .i64 1,.int .i64 t]) ∧ Hid (IntsAt wx (.slice pc cs.length cc) cs) ∧ Hid (cs.length ≤ cc))
        case first =>
          go_region_held3 (fun W' => W'.cell? ⟨g,0,none⟩ = some (.int .i64 0) ∧ W'.cell? ⟨g,1,none⟩ = some (.int .i64 100) ∧ W'.cell? ⟨g,2,none⟩ = some (.int .i64 1) ∧ W'.cell? ⟨g,3,none⟩ = some (.int .i64 t) ∧ SS W') (with_reducible refine HBO.out _ ?_;((repeat (first | with_reducible refine HSE.out _ _ _ _ _ _ _ _ _ ?_ HZ.1 HZ.2 | with_reducible refine HKE.out _ _ ?_ hb9 | with_reducible refine HKA.out _ _ ?_ | with_reducible refine HKD.out _ ?_));with_reducible exact HS1.out)) (first | (go_at_call 31;with_reducible refine (HCL.out _ (HII.out _ (by ((repeat (first | with_reducible refine HSE.out _ _ _ _ _ _ _ _ _ ?_ HZ.1 HZ.2 | with_reducible refine HKE.out _ _ ?_ hb9 | with_reducible refine HKA.out _ _ ?_ | with_reducible refine HKD.out _ ?_));with_reducible exact HS1.out)))).mono ?_;rintro e w9 ⟨p9,c9,rfl,ho9,hb9⟩;first | (with_reducible refine use2 (And.intro (HSZ.out _ HS1.out) (Blk.keep (Blk.drew (blk_newE rfl)) hb9):w.heap.size ≤ W1.heap.size ∧ Blk w9 W1.heap.size 68 #[.int .i64 0,.slice none 0 0,.int .i64 0,.int .i64 0,.int .i64 0,.int .i64 0]) (fun HZ => ?_);obtain ⟨y0,y1,y2,y3,y4,y5,yf0,yf1,yf2,yf3,yf4,yf5⟩:=HZ.2.c6) | skip))
          all_goals (go_wp2_with fail;go_meet;have hi9:=OwnR.ints ho9;have ha9:∀ o,IntsAt (w9.alloc o) (.slice p9 cs.length c9) cs:=fun o => hi9.below ((Below.refl w9.heap.size w9).alloc (Nat.le_refl _) o);refine ⟨_,p9,c9,rfl,Lib.hid ?_,Lib.hid ?_,Lib.hid ?_,Lib.hid ho9.cap⟩)
          all_goals first | ((repeat (first | with_reducible refine HSE.out _ _ _ _ _ _ _ _ _ ?_ HZ.1 HZ.2 | with_reducible refine HKE.out _ _ ?_ hb9 | with_reducible refine HKA.out _ _ ?_ | with_reducible refine HKD.out _ ?_));with_reducible exact HS1.out) | with_reducible exact blk_newE rfl | with_reducible exact Blk.all6 HZ.2 _ _ _ _ _ _ | with_reducible exact ha9 _ | (have hne:∀ a,p9 = some a → a.block ≠ W1.heap.size:=fun a ha => (by have h:=(ho9.lt a ha).1;simp [World.drew] at h;omega);(repeat with_reducible refine IntsAt.far ?_ hne _ _);with_reducible exact hi9)
        case rest =>
          obtain ⟨n7,pc,cc,rfl,HSS,HX,HI,HCC⟩:=hcut
          have hB:=HFI.out _ HSS.out
          have HB:=Lib.hid hB;clear hB
          clear HSS HFI HSE HSZ HKA HKD HKE HS1 HBO HII
          obtain ⟨x0,x1,x2,x3,x4,x5,xf0,xf1,xf2,xf3,xf4,xf5⟩:=HX.out.c6
          go_wp2_with (first | (with_reducible refine ((HRN.out _ _ _ HI.out HCC.out).mono ?_);rintro e w8 ⟨rfl,hb⟩;replace HX:=Lib.hid (HX.out.keep hb);clear x0 x1 x2 x3 x4 x5 xf0 xf1 xf2 xf3 xf4 xf5;replace HI:=Lib.hid (IntsAt.below HI.out hb);replace HB:=Lib.hid (bch' HB.out hb);clear hb;obtain ⟨x0,x1,x2,x3,x4,x5,xf0,xf1,xf2,xf3,xf4,xf5⟩:=HX.out.c6))
          go_ret2
          exact ⟨_,rfl,fun h => absurd h HE.out,fun _ => rfl,HB.out⟩
  · have HE:Hid (¬ rnsE R = 0):=Lib.hid hz
    have hne:((rnsE R:Int) != 0) = true:=by simpa using hz
    rw [stE_tab hz]
    clear hz hnw hr hi
    generalize rnsE R = m at *
    have HRU:=Lib.hid hru;clear hru
    go_enter Tryz.func8,Tryz.ntmps8
    go_wp2_with (first | (with_reducible refine ((HRU.out _ HN.out).mono ?_);rintro e w' ⟨rfl,hb⟩;replace HN:=Lib.hid (RunsAt.kept HN.out hb);replace HI:=Lib.hid (IntsAt.below HI.out hb);replace HB:=Lib.hid (bch' HB.out hb);clear hb))
    go_ret2
    exact ⟨_,rfl,fun h => absurd h HE.out,fun _ => rfl,HB.out⟩
end Go.Proofs.YtbeojahilbglcaaGreatDoor
namespace Lum
open Go Go.RowKit Go.Shelf
open Go.Lib (decDigits itoa)
def rateC (x:Rnx) (t z:Int):(Int × Int × Int × Int) × Int:=chgT (fun _ D => (z,D)) x.ce x.cr x.cd x.cl t (wiB z 1 400)
def ratedR (x:Rnx) (t z:Int):Rnx:=⟨x.ef,x.cs,(rateC x t z).1.1,(rateC x t z).1.2.1,(rateC x t z).1.2.2.1,(rateC x t z).1.2.2.2⟩
def rtE (R:List Rnx) (n t z:Int):Int:=if rnsE R ≠ 0 then rnsE R else match R.find? (fun x => x.ef == n) with | some x => (rateC x t z).2 | none => 6
theorem rtE_tab {R:List Rnx} {n t z:Int} (h:¬ rnsE R = 0):rtE R n t z = rnsE R:=by unfold rtE;rw [if_pos h]
theorem rtE_no {R:List Rnx} {n t z:Int} (h:rnsE R = 0) (h2:R.find? (fun x => x.ef == n) = none):rtE R n t z = 6:=by unfold rtE;rw [if_neg (by simpa using h),h2]
theorem rtE_at {R:List Rnx} {n t z:Int} {x:Rnx} (h:rnsE R = 0) (h2:R.find? (fun x => x.ef == n) = some x):rtE R n t z = (rateC x t z).2:=by unfold rtE;rw [if_neg (by simpa using h),h2]
def rtL (R:List Rnx) (n t z:Int):List Rnx:=match R.find? (fun x => x.ef == n) with | some x => putL R (ratedR x t z) | none => []
theorem rtL_at {R:List Rnx} {n t z:Int} {x:Rnx} (h2:R.find? (fun x => x.ef == n) = some x):rtL R n t z = putL R (ratedR x t z):=by unfold rtL;rw [h2]
def RtR (l:List Rnx) (E:Int) (w:World) (e:Ending) (w':World):Prop:=∃ v,e = .returned (.tuple #[v,.int .i64 E]) ∧ (E = 0 → RunsAt w' v l) ∧ (¬ E = 0 → v = .slice none 0 0) ∧ Below w.heap.size w w'
end Lum
namespace Go.Proofs.YtbeojahilbglcaaGreatDoor
open Go.RowKit Go.Shelf Lum
open Go.Lib (decDigits itoa)
attribute [local go_sem] bs_get bs_extract_end bs_extract_from bs_extract bs_append
theorem own_erate (R : List Rnx) (u : Value) (n t z : Int) (w : World) (hr : RunsAt w u R) (n0 : -9223372036854775808 ≤ n) (n1 : n ≤ 9223372036854775807) :
    Calls Tryz.prog 13 #[u,.int .i64 n,.int .i64 t,.int .i64 z] w (RtR (rtL R n t z) (rtE R n t z) w):=by
  have hru:=fun W (h:RunsAt W u R) => own_eruns R u W h
  change ∀ W,RunsAt W u R → Calls _ _ _ _ (fun e w' => e = .returned (.int .i64 (rnsE R)) ∧ _) at hru
  have HN:=Lib.hid hr
  have HB:=Lib.hid (Below.refl w.heap.size w)
  by_cases hz:rnsE R = 0
  · have hok:=ordOk (show ordE rnE (·.ef) R = 0 from hz)
    obtain ⟨i,hit,hq⟩:=belongs_key hok n
    cases hit with
    | false =>
      have HE:Hid (¬ (6:Int) = 0):=Lib.hid (by decide)
      have hfi:=fun W (h:RunsAt W u R) => (show Calls Tryz.prog 40 #[u,.int .i64 n,.func (.func 38) #[] #[]] W fun e w' => ∃ i:Nat,e = .returned (.tuple #[.int .i64 (i:Int),.bool false]) ∧ Below W.heap.size W w' from by
        obtain ⟨M,p,c,rfl,hM,hRX,-⟩:=h
        exact own_find_run_no n R M p c W hM hRX hok n0 n1 hq.miss)
      rw [rtE_no hz (find_miss hq.miss)]
      rw [hz] at hru
      clear hz hr hok hq
      have HRU:=Lib.hid hru;clear hru
      have HFI:=Lib.hid hfi;clear hfi
      go_enter Tryz.func13,Tryz.ntmps13
      go_wp2_with (first | (with_reducible refine ((HRU.out _ HN.out).mono ?_);rintro e w' ⟨rfl,hb⟩;replace HN:=Lib.hid (RunsAt.kept HN.out hb);replace HB:=Lib.hid (bch' HB.out hb);clear hb) | (with_reducible refine ((HFI.out _ HN.out).mono ?_);rintro e w' ⟨i,rfl,hb⟩;replace HN:=Lib.hid (RunsAt.kept HN.out hb);replace HB:=Lib.hid (bch' HB.out hb);clear hb))
      go_ret2
      exact ⟨_,rfl,fun h => absurd h HE.out,fun _ => rfl,HB.out⟩
    | true =>
      by_cases hcz0:(rateC (R[i]'(hq.yes rfl).1) t z).2 = 0
      · have hb9:=hq
        have hil0:=(hb9.yes rfl).1
        have hn:1 ≤ n ∧ n ≤ 1048576:=by have:=(hb9.yes rfl).2;have:=rns_key hok i hil0;omega
        have hfi:=fun W (h:RunsAt W u R) => (show Calls Tryz.prog 40 #[u,.int .i64 n,.func (.func 38) #[] #[]] W fun e w' => e = .returned (.tuple #[.int .i64 (i:Int),.bool true]) ∧ Below W.heap.size W w' from by
          obtain ⟨M,p,c,rfl,hM,hRX,-⟩:=h
          exact own_find_run_at n R M p c W hM hRX hok hn i true hb9)
        obtain ⟨M,pm,cm,rfl,hM,hMR,hMC⟩:=hr
        have hil:i < M.length:=by rw [← hM,List.length_map] at hil0;exact hil0
        obtain ⟨y,hy⟩:∃ y,y = M[i]'hil:=⟨_,rfl⟩
        have hyr:R[i]'hil0 = y.1:=by subst hM;rw [List.getElem_map,hy]
        have hcz:(rateC y.1 t z).2 = 0:=by rw [← hyr];exact hcz0
        clear hcz0
        have hfd:R.find? (fun x => x.ef == n) = some y.1:=by rw [hb9.find,hyr]
        rw [rtE_at hz hfd,rtL_at hfd]
        rw [hz] at hru
        obtain ⟨bb,oo,rfl,hbb,hCC⟩:=hMR (fun e => by subst e;exact absurd hil (Nat.not_lt_zero _))
        have hcell:=hCC i hil
        rw [← hy] at hcell
        have HBb:=Lib.hid hbb
        have HX0:=Lib.hid (hcell 0 _ rfl);have HX1:=Lib.hid (hcell 1 _ rfl);have HX2:=Lib.hid (hcell 2 _ rfl);have HX3:=Lib.hid (hcell 3 _ rfl);have HX4:=Lib.hid (hcell 4 _ rfl);have HX5:=Lib.hid (hcell 5 _ rfl)
        have hii:(i:Int) < (M.length:Int):=by omega
        have hi0:(0:Int) ≤ (i:Int):=by omega
        have hlo:i * 6 < 9223372036854775807:=by have:=hok.few;omega
        have hcr:=fun W => own_clk_rate y.1.ce y.1.cr y.1.cd y.1.cl t z W
        have hyn:y.1.ef = n:=by rw [← hyr,← keyAt_at (key:=fun x:Rnx => x.ef) hil0];exact (hb9.yes rfl).2
        have hml:M.length = R.length:=by rw [← hM,List.length_map]
        have hpu:=fun W (h:RowX encN 6 W (some ⟨bb,oo,none⟩) M) => own_eput W M (ratedR y.1 t z,y.2) (some ⟨bb,oo,none⟩) cm i true h (by rw [hM];exact hok) (by show 1 ≤ y.1.ef ∧ y.1.ef ≤ 1048576;rw [hyn];exact hn) (by rw [hM,hml];show Belongs _ _ y.1.ef _ _;rw [hyn];exact hb9)
        have HRX:Hid (∀ W,Below w.heap.size w W → RowX encN 6 W (some ⟨bb,oo,none⟩) M):=Lib.hid fun W h => hMR.kept h
        have HMC:Hid (∀ W,Below w.heap.size w W → HasC W M):=Lib.hid fun W h => hMC.kept h
        have HYI:Hid (∀ W,Below w.heap.size w W → IntsAt W (.slice y.2.1 y.2.2.1 y.2.2.2) y.1.cs ∧ y.1.cs.length ≤ y.2.2.2):=Lib.hid fun W h => ⟨IntsAt.below (hMC y (by rw [hy];exact List.getElem_mem hil)).1 h,(hMC y (by rw [hy];exact List.getElem_mem hil)).2⟩
        have HPL:Hid ((insL M i true (ratedR y.1 t z,y.2)).map (·.1) = putL R (ratedR y.1 t z)):=Lib.hid (by rw [insL_map,hM];exact insL_putL (x:=ratedR y.1 t z) (by show Belongs _ _ y.1.ef _ _;rw [hyn];exact hb9))
        clear hml
        unfold ratedR at hpu HPL ⊢
        dsimp only at hpu
        change ∀ W,Calls _ _ _ _ (fun e w' => e = .returned (.tuple #[clkV (rateC y.1 t z).1,.int .i64 (rateC y.1 t z).2]) ∧ _) at hcr
        have hz2:=hcz
        generalize rateC y.1 t z = C at *
        obtain ⟨⟨C0,C1,C2,C3⟩,C4⟩:=C
        dsimp only [clkV] at hpu hcr hz2 HPL ⊢
        subst hz2
        clear hz hM hMR hMC hCC hcell hy hyr hok hq hb9 hil0 hn hfd hyn hbb hil hcz
        have HRU:=Lib.hid hru;clear hru
        have HFI:=Lib.hid hfi;clear hfi
        have HCR:=Lib.hid hcr;clear hcr
        have HPU:=Lib.hid hpu;clear hpu
        go_enter Tryz.func13,Tryz.ntmps13
        go_upto_region 7 with (first | (with_reducible refine ((HRU.out _ HN.out).mono ?_);rintro e w' ⟨rfl,hb⟩;replace HN:=Lib.hid (RunsAt.kept HN.out hb);replace HB:=Lib.hid (bch' HB.out hb);clear hb) | (with_reducible refine ((HFI.out _ HN.out).mono ?_);rintro e w' ⟨rfl,hb⟩;replace HN:=Lib.hid (RunsAt.kept HN.out hb);replace HB:=Lib.hid (bch' HB.out hb);clear hb))
        have x0:w'.cell? ⟨bb,oo + i * 6,none⟩ = some (.int .i64 (y.1.ef)):=(HB.out.cell (p:=⟨bb,oo + i * 6 + 0,none⟩) HBb.out).trans HX0.out
        have x1:w'.cell? ⟨bb,oo + i * 6 + 1,none⟩ = some (.slice y.2.1 y.2.2.1 y.2.2.2):=(HB.out.cell (p:=⟨bb,oo + i * 6 + 1,none⟩) HBb.out).trans HX1.out
        have x2:w'.cell? ⟨bb,oo + i * 6 + 2,none⟩ = some (.int .i64 (y.1.ce)):=(HB.out.cell (p:=⟨bb,oo + i * 6 + 2,none⟩) HBb.out).trans HX2.out
        have x3:w'.cell? ⟨bb,oo + i * 6 + 3,none⟩ = some (.int .i64 (y.1.cr)):=(HB.out.cell (p:=⟨bb,oo + i * 6 + 3,none⟩) HBb.out).trans HX3.out
        have x4:w'.cell? ⟨bb,oo + i * 6 + 4,none⟩ = some (.int .i64 (y.1.cd)):=(HB.out.cell (p:=⟨bb,oo + i * 6 + 4,none⟩) HBb.out).trans HX4.out
        have x5:w'.cell? ⟨bb,oo + i * 6 + 5,none⟩ = some (.int .i64 (y.1.cl)):=(HB.out.cell (p:=⟨bb,oo + i * 6 + 5,none⟩) HBb.out).trans HX5.out
        have hbr:bb < w'.heap.size:=Nat.lt_of_lt_of_le HBb.out HB.out.size
        go_upto_region 8 with fail
        clear x0 x1 x2 x3 x4 x5 hbr HN
        have hb:=(Below.refl w'.heap.size w').alloc (Nat.le_refl _) (.cells #[.int .i64 (y.1.ef),.slice y.2.1 y.2.2.1 y.2.2.2,.int .i64 (y.1.ce),.int .i64 (y.1.cr),.int .i64 (y.1.cd),.int .i64 (y.1.cl)] 68)
        have HX:=Lib.hid (Blk.new w' 68 #[.int .i64 (y.1.ef),.slice y.2.1 y.2.2.1 y.2.2.2,.int .i64 (y.1.ce),.int .i64 (y.1.cr),.int .i64 (y.1.cd),.int .i64 (y.1.cl)])
        have hg0:w.heap.size ≤ w'.heap.size:=HB.out.size
        obtain ⟨g,hg⟩:∃ g,g = w'.heap.size:=⟨_,rfl⟩
        obtain ⟨W3,hW3⟩:∃ X,X = w'.alloc (.cells #[.int .i64 (y.1.ef),.slice y.2.1 y.2.2.1 y.2.2.2,.int .i64 (y.1.ce),.int .i64 (y.1.cr),.int .i64 (y.1.cd),.int .i64 (y.1.cl)] 68):=⟨_,rfl⟩
        rw [← hg] at HX hg0 ⊢
        rw [← hW3] at hb HX ⊢
        replace HB:=Lib.hid (bch' HB.out hb);clear hb
        clear hW3 hg
        obtain ⟨x0,x1,x2,x3,x4,x5,xf0,xf1,xf2,xf3,xf4,xf5⟩:=HX.out.c6
        go_wp2_with (first | (with_reducible refine ((HCR.out _).mono ?_);rintro e w' ⟨rfl,hb⟩;replace HX:=Lib.hid (HX.out.keep hb);clear x0 x1 x2 x3 x4 x5 xf0 xf1 xf2 xf3 xf4 xf5;replace HB:=Lib.hid (bch' HB.out hb);clear hb;obtain ⟨x0,x1,x2,x3,x4,x5,xf0,xf1,xf2,xf3,xf4,xf5⟩:=HX.out.c6))
        refine ((HPU.out _ (HRX.out _ ?hs)).mono ?_)
        case hs => exact ((((HB.out.setCell (p:=⟨g,2,none⟩) hg0 _).setCell (p:=⟨g,3,none⟩) hg0 _).setCell (p:=⟨g,4,none⟩) hg0 _).setCell (p:=⟨g,5,none⟩) hg0 _)
        skip
        rintro e w7 ⟨p7,c7,rfl,ho,hb⟩
        have HB8:=Lib.hid (bch' (show Below w.heap.size w _ from ((((HB.out.setCell (p:=⟨g,2,none⟩) hg0 _).setCell (p:=⟨g,3,none⟩) hg0 _).setCell (p:=⟨g,4,none⟩) hg0 _).setCell (p:=⟨g,5,none⟩) hg0 _)) hb)
        go_wp2_with fail
        go_ret2
        exact ⟨_,rfl,fun _ => runsAt_of ho HPL.out (hasC_ins (HMC.out _ HB8.out) (HYI.out _ HB8.out)),fun h => absurd rfl h,HB8.out⟩
      · have hb9:=hq
        have hil0:=(hb9.yes rfl).1
        have hn:1 ≤ n ∧ n ≤ 1048576:=by have:=(hb9.yes rfl).2;have:=rns_key hok i hil0;omega
        have hfi:=fun W (h:RunsAt W u R) => (show Calls Tryz.prog 40 #[u,.int .i64 n,.func (.func 38) #[] #[]] W fun e w' => e = .returned (.tuple #[.int .i64 (i:Int),.bool true]) ∧ Below W.heap.size W w' from by
          obtain ⟨M,p,c,rfl,hM,hRX,-⟩:=h
          exact own_find_run_at n R M p c W hM hRX hok hn i true hb9)
        obtain ⟨M,pm,cm,rfl,hM,hMR,hMC⟩:=hr
        have hil:i < M.length:=by rw [← hM,List.length_map] at hil0;exact hil0
        obtain ⟨y,hy⟩:∃ y,y = M[i]'hil:=⟨_,rfl⟩
        have hyr:R[i]'hil0 = y.1:=by subst hM;rw [List.getElem_map,hy]
        have hcz:¬ (rateC y.1 t z).2 = 0:=by rw [← hyr];exact hcz0
        clear hcz0
        have hfd:R.find? (fun x => x.ef == n) = some y.1:=by rw [hb9.find,hyr]
        rw [rtE_at hz hfd,rtL_at hfd]
        rw [hz] at hru
        obtain ⟨bb,oo,rfl,hbb,hCC⟩:=hMR (fun e => by subst e;exact absurd hil (Nat.not_lt_zero _))
        have hcell:=hCC i hil
        rw [← hy] at hcell
        have HBb:=Lib.hid hbb
        have HX0:=Lib.hid (hcell 0 _ rfl);have HX1:=Lib.hid (hcell 1 _ rfl);have HX2:=Lib.hid (hcell 2 _ rfl);have HX3:=Lib.hid (hcell 3 _ rfl);have HX4:=Lib.hid (hcell 4 _ rfl);have HX5:=Lib.hid (hcell 5 _ rfl)
        have hii:(i:Int) < (M.length:Int):=by omega
        have hi0:(0:Int) ≤ (i:Int):=by omega
        have hlo:i * 6 < 9223372036854775807:=by have:=hok.few;omega
        have hcr:=fun W => own_clk_rate y.1.ce y.1.cr y.1.cd y.1.cl t z W
        have hyn:y.1.ef = n:=by rw [← hyr,← keyAt_at (key:=fun x:Rnx => x.ef) hil0];exact (hb9.yes rfl).2
        have HE:=Lib.hid hcz
        have hne:(((rateC y.1 t z).2:Int) != 0) = true:=by simpa using hcz
        change ∀ W,Calls _ _ _ _ (fun e w' => e = .returned (.tuple #[clkV (rateC y.1 t z).1,.int .i64 (rateC y.1 t z).2]) ∧ _) at hcr
        clear hz hM hMR hMC hCC hcell hy hyr hok hq hb9 hil0 hn hfd hyn hbb hil hcz
        generalize rateC y.1 t z = C at *
        obtain ⟨⟨C0,C1,C2,C3⟩,C4⟩:=C
        dsimp only [clkV] at hne hcr HE ⊢
        have HRU:=Lib.hid hru;clear hru
        have HFI:=Lib.hid hfi;clear hfi
        have HCR:=Lib.hid hcr;clear hcr
        go_enter Tryz.func13,Tryz.ntmps13
        go_upto_region 7 with (first | (with_reducible refine ((HRU.out _ HN.out).mono ?_);rintro e w' ⟨rfl,hb⟩;replace HN:=Lib.hid (RunsAt.kept HN.out hb);replace HB:=Lib.hid (bch' HB.out hb);clear hb) | (with_reducible refine ((HFI.out _ HN.out).mono ?_);rintro e w' ⟨rfl,hb⟩;replace HN:=Lib.hid (RunsAt.kept HN.out hb);replace HB:=Lib.hid (bch' HB.out hb);clear hb))
        have x0:w'.cell? ⟨bb,oo + i * 6,none⟩ = some (.int .i64 (y.1.ef)):=(HB.out.cell (p:=⟨bb,oo + i * 6 + 0,none⟩) HBb.out).trans HX0.out
        have x1:w'.cell? ⟨bb,oo + i * 6 + 1,none⟩ = some (.slice y.2.1 y.2.2.1 y.2.2.2):=(HB.out.cell (p:=⟨bb,oo + i * 6 + 1,none⟩) HBb.out).trans HX1.out
        have x2:w'.cell? ⟨bb,oo + i * 6 + 2,none⟩ = some (.int .i64 (y.1.ce)):=(HB.out.cell (p:=⟨bb,oo + i * 6 + 2,none⟩) HBb.out).trans HX2.out
        have x3:w'.cell? ⟨bb,oo + i * 6 + 3,none⟩ = some (.int .i64 (y.1.cr)):=(HB.out.cell (p:=⟨bb,oo + i * 6 + 3,none⟩) HBb.out).trans HX3.out
        have x4:w'.cell? ⟨bb,oo + i * 6 + 4,none⟩ = some (.int .i64 (y.1.cd)):=(HB.out.cell (p:=⟨bb,oo + i * 6 + 4,none⟩) HBb.out).trans HX4.out
        have x5:w'.cell? ⟨bb,oo + i * 6 + 5,none⟩ = some (.int .i64 (y.1.cl)):=(HB.out.cell (p:=⟨bb,oo + i * 6 + 5,none⟩) HBb.out).trans HX5.out
        have hbr:bb < w'.heap.size:=Nat.lt_of_lt_of_le HBb.out HB.out.size
        go_upto_region 8 with fail
        clear x0 x1 x2 x3 x4 x5 hbr HN
        have hb:=(Below.refl w'.heap.size w').alloc (Nat.le_refl _) (.cells #[.int .i64 (y.1.ef),.slice y.2.1 y.2.2.1 y.2.2.2,.int .i64 (y.1.ce),.int .i64 (y.1.cr),.int .i64 (y.1.cd),.int .i64 (y.1.cl)] 68)
        have HX:=Lib.hid (Blk.new w' 68 #[.int .i64 (y.1.ef),.slice y.2.1 y.2.2.1 y.2.2.2,.int .i64 (y.1.ce),.int .i64 (y.1.cr),.int .i64 (y.1.cd),.int .i64 (y.1.cl)])
        have hg0:w.heap.size ≤ w'.heap.size:=HB.out.size
        obtain ⟨g,hg⟩:∃ g,g = w'.heap.size:=⟨_,rfl⟩
        obtain ⟨W3,hW3⟩:∃ X,X = w'.alloc (.cells #[.int .i64 (y.1.ef),.slice y.2.1 y.2.2.1 y.2.2.2,.int .i64 (y.1.ce),.int .i64 (y.1.cr),.int .i64 (y.1.cd),.int .i64 (y.1.cl)] 68):=⟨_,rfl⟩
        rw [← hg] at HX hg0 ⊢
        rw [← hW3] at hb HX ⊢
        replace HB:=Lib.hid (bch' HB.out hb);clear hb
        clear hW3 hg
        obtain ⟨x0,x1,x2,x3,x4,x5,xf0,xf1,xf2,xf3,xf4,xf5⟩:=HX.out.c6
        go_wp2_with (first | (with_reducible refine ((HCR.out _).mono ?_);rintro e w' ⟨rfl,hb⟩;replace HX:=Lib.hid (HX.out.keep hb);clear x0 x1 x2 x3 x4 x5 xf0 xf1 xf2 xf3 xf4 xf5;replace HB:=Lib.hid (bch' HB.out hb);clear hb;obtain ⟨x0,x1,x2,x3,x4,x5,xf0,xf1,xf2,xf3,xf4,xf5⟩:=HX.out.c6))
        go_ret2
        exact ⟨_,rfl,fun h => absurd h HE.out,fun _ => rfl,((((HB.out.setCell (p:=⟨g,2,none⟩) hg0 _).setCell (p:=⟨g,3,none⟩) hg0 _).setCell (p:=⟨g,4,none⟩) hg0 _).setCell (p:=⟨g,5,none⟩) hg0 _)⟩
  · have HE:Hid (¬ rnsE R = 0):=Lib.hid hz
    have hne:((rnsE R:Int) != 0) = true:=by simpa using hz
    rw [rtE_tab hz]
    clear hz hr
    generalize rnsE R = m at *
    have HRU:=Lib.hid hru;clear hru
    go_enter Tryz.func13,Tryz.ntmps13
    go_wp2_with (first | (with_reducible refine ((HRU.out _ HN.out).mono ?_);rintro e w' ⟨rfl,hb⟩;replace HN:=Lib.hid (RunsAt.kept HN.out hb);replace HB:=Lib.hid (bch' HB.out hb);clear hb))
    go_ret2
    exact ⟨_,rfl,fun h => absurd h HE.out,fun _ => rfl,HB.out⟩
end Go.Proofs.YtbeojahilbglcaaGreatDoor

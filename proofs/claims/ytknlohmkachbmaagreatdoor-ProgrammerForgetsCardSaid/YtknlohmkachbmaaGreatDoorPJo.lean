import Derived.Test.YtknlohmkachbmaaGreatDoorPJl
import Derived.Test.YtknlohmkachbmaaGreatDoorPJn
import Derived.Test.YtknlohmkachbmaaGreatDoorPJb
set_option maxRecDepth 100000
set_option maxHeartbeats 8000000
set_option linter.unusedVariables false
set_option linter.unusedSimpArgs false
namespace Go.Proofs.YtknlohmkachbmaaGreatDoor
open Go.RowKit Go.Shelf Lum
open Go.Lib (decDigits itoa)
attribute [local go_sem] bs_get bs_extract_end bs_extract_from bs_extract bs_append
theorem ent1_index (M : FuncId) (fv : Value) (l : List Ent) (pr : Ent → Bool) (pp : Option Addr) (cc base : Nat) (w : World) (hR : RowX encEn 4 w pp l) (hbase : base ≤ w.heap.size) (hn : l.length ≤ 1000000) (hF : ∀ args w, (callFunc M args).run Tryz.prog w = .ok (.enter M args) w)
    (hcm:∀ x ∈ l,∀ W,Below base w W → Calls Tryz.prog M #[.agg #[.int .i64 x.ch,.int .i64 x.at_,.int .i64 x.pa,.int .i64 x.lv],fv] W fun e w' => e = .returned (.bool (pr x)) ∧ Below W.heap.size W w') :
    Calls Tryz.prog 74 #[.slice pp l.length cc,.func (.func M) #[] #[fv]] w fun e w' => e = .returned (.int .i64 (ixOf pr l)) ∧ Below w.heap.size w w':=by
  have hv2:=Lib.hid hR;clear hR
  have hcc:=Lib.hid hcm;clear hcm
  have HB:=Lib.hid (Below.refl w.heap.size w)
  go_enter Tryz.func74,Tryz.ntmps74
  go_wp2_with fail
  go_loopw [8] (fun s8 wr => ∃ i r:Nat,s8 = .int .i64 (i:Int) ∧ Hid (i + r = l.length) ∧ Hid (Below w.heap.size w wr) ∧ Hid (∀ j (hj:j < l.length),j < i → pr (l[j]'hj) = false)) (fun s8 _ => l.length - (intOf s8).toNat)
  case atStart => exact ⟨0,l.length,rfl,Lib.hid (by omega),HB,Lib.hid (fun j hj h => absurd h (Nat.not_lt_zero _))⟩
  case round =>
    clear HB
    obtain ⟨i,r,rfl,hkr,HB,HN⟩:=hrel
    cases r with
    | zero =>
      have hlt:¬ (i:Int) < (l.length:Int):=by have:=hkr.out;omega
      have HR:Hid (ixOf pr l = -1):=Lib.hid (ixOf_no fun j hj => HN.out j hj (by have:=hkr.out;omega))
      go_wp2_with fail
      go_ret
      exact ⟨by rw [HR.out];rfl,HB.out⟩
    | succ r =>
      have hkl:i < l.length:=by have:=hkr.out;omega
      have hlt:(i:Int) < (l.length:Int):=by omega
      have hi0:(0:Int) ≤ (i:Int):=by omega
      have hun:IntKind.i64.wrap ((i:Int) + 1) = (i:Int) + 1:=IntWalk.i64_in _ (by omega)
      obtain ⟨b,o,rfl,hb,hC⟩:=hv2.out (fun h => by subst h;exact absurd hkl (Nat.not_lt_zero _))
      obtain ⟨x,hx⟩:∃ x,x = l[i]'hkl:=⟨_,rfl⟩
      have hcell:=hC i hkl
      rw [← hx] at hcell
      have x0:wr.cell? ⟨b,o + i * 4,none⟩ = some (.int .i64 x.ch):=(HB.out.cell (p:=⟨b,o + i * 4 + 0,none⟩) hb).trans (hcell 0 _ rfl)
      have x1:wr.cell? ⟨b,o + i * 4 + 1,none⟩ = some (.int .i64 x.at_):=(HB.out.cell (p:=⟨b,o + i * 4 + 1,none⟩) hb).trans (hcell 1 _ rfl)
      have x2:wr.cell? ⟨b,o + i * 4 + 2,none⟩ = some (.int .i64 x.pa):=(HB.out.cell (p:=⟨b,o + i * 4 + 2,none⟩) hb).trans (hcell 2 _ rfl)
      have x3:wr.cell? ⟨b,o + i * 4 + 3,none⟩ = some (.int .i64 x.lv):=(HB.out.cell (p:=⟨b,o + i * 4 + 3,none⟩) hb).trans (hcell 3 _ rfl)
      have hcm:=hcc.out x (by rw [hx];exact List.getElem_mem hkl)
      have HBB:=Lib.hid (HB.out.mono hbase)
      have hbr:b < wr.heap.size:=by have:=HB.out.size;omega
      have hlo:i * 4 < 9223372036854775807:=by omega
      have HXE:=Lib.hid hx
      have HCM0:=Lib.hid hcm
      clear hC hcell hb hx hcm
      cases hpx:pr x
      · have HN2:Hid (∀ j (hj:j < l.length),j < i + 1 → pr (l[j]'hj) = false):=Lib.hid (fun j hj h => by by_cases e:j = i;(subst e;rw [← HXE.out];exact hpx);exact HN.out j hj (by omega))
        have hcm:=HCM0.out
        rw [hpx] at hcm
        clear hpx
        have HCM:=Lib.hid hcm;clear hcm
        go_wp2_with (first | (with_reducible refine ((HCM.out _ HBB.out).mono ?_);rintro e w' ⟨rfl,hb⟩;replace HB:=Lib.hid (bch' HB.out hb);clear hb))
        go_roundw
        case rel => exact ⟨i + 1,r,by first | rfl | simp,Lib.hid (by have:=hkr.out;omega),HB,HN2⟩
        case measure => first | (simp [intOf];done) | (simp [intOf];omega)
      · have HR:Hid (ixOf pr l = (i:Int)):=Lib.hid (ixOf_at hkl (by rw [← HXE.out];exact hpx) (fun j hj => HN.out j (by omega) hj))
        have hcm:=HCM0.out
        rw [hpx] at hcm
        clear hpx
        have HCM:=Lib.hid hcm;clear hcm
        go_wp2_with (first | (with_reducible refine ((HCM.out _ HBB.out).mono ?_);rintro e w' ⟨rfl,hb⟩;replace HB:=Lib.hid (bch' HB.out hb);clear hb))
        go_ret
        exact ⟨by rw [HR.out];rfl,HB.out⟩
theorem ent1_contains (M : FuncId) (fv : Value) (l : List Ent) (pr : Ent → Bool) (pp : Option Addr) (cc base : Nat) (w : World) (hR : RowX encEn 4 w pp l) (hbase : base ≤ w.heap.size) (hn : l.length ≤ 1000000) (hF : ∀ args w, (callFunc M args).run Tryz.prog w = .ok (.enter M args) w)
    (hcm:∀ x ∈ l,∀ W,Below base w W → Calls Tryz.prog M #[.agg #[.int .i64 x.ch,.int .i64 x.at_,.int .i64 x.pa,.int .i64 x.lv],fv] W fun e w' => e = .returned (.bool (pr x)) ∧ Below W.heap.size W w') :
    Calls Tryz.prog 26 #[.slice pp l.length cc,.func (.func M) #[] #[fv]] w fun e w' => e = .returned (.bool (l.any pr)) ∧ Below w.heap.size w w':=by
  have h:=ent1_index M fv l pr pp cc base w hR hbase hn hF hcm
  have hd:decide ((0:Int) ≤ ixOf pr l) = l.any pr:=ixOf_has _ _
  generalize ixOf pr l = m at *
  generalize l.any pr = r at *
  have H:=Lib.hid h;have HD:=Lib.hid hd;clear h hcm hF hR hd
  go_enter Tryz.func26,Tryz.ntmps26
  go_wp2_with ((with_reducible refine ((H.out).mono ?_));rintro e w' ⟨rfl,hb⟩;have HB:=Lib.hid hb;clear hb)
  go_ret
  exact ⟨by rw [← HD.out];rfl,HB.out⟩
theorem neq_val (W:World) (a b:Int):(binOp .neq 26 (.agg #[.int .i64 a,.int .i64 b]) (.agg #[.int .i64 a,.int .i64 b])).run Tryz.prog W = .ok (.bool false) W:=by
  have h1:Tryz.prog.underlying 26 = some (.struct (Tryz.prog.fieldsOf 26)):=by kernel_rfl
  have h2:Tryz.prog.stoodInHeld 26 = false:=by kernel_rfl
  rw [run_neq_struct,run_equalIn_agg W 9999 _ _ _ h1 h2]
  have hf:=TypeDesc.struct.inj (Option.some.inj (h1.symm.trans Tryz.underlying26))
  rw [hf]
  simp [Op.eqFields,go_sem,Tryz.underlying3]
theorem cl_keeps (y : Ent) (x : Hnd) (B : Nat) (w : World) (hx : Blk w B 28 #[.int .i64 (x.ch), .int .i64 (x.at_), .string ⟨x.fr.toArray⟩, .int .i64 (x.pa), .int .i64 (x.lv), .int .i64 (x.st), .int .i64 (x.ti)]) :
    Calls Tryz.prog 27 #[.agg #[.int .i64 (y.ch),.int .i64 (y.at_),.int .i64 (y.pa),.int .i64 (y.lv)],.pointer (some ⟨B,0,none⟩)] w fun e w' => e = .returned (.bool (decide (y.ky = x.ky))) ∧ Below w.heap.size w w':=by
  have heqr:=fun W => eq_par W y.ch y.at_ x.ch x.at_
  by_cases hq:y.ky = x.ky
  · have hb2:((y.ch == x.ch) && (y.at_ == x.at_)) = true:=by rw [Hnd.ky,Ent.ky,Prod.mk.injEq] at hq;simp [hq.1,hq.2]
    have HE:Hid (decide (y.ky = x.ky) = true):=Lib.hid (decide_eq_true hq)
    clear hq
    have hal:=(Below.refl w.heap.size w).alloc (Nat.le_refl _) (.cells #[.int .i64 (y.ch),.int .i64 (y.at_),.int .i64 (y.pa),.int .i64 (y.lv)] 55)
    have HX:=Lib.hid (Blk.keep hx hal)
    have HB:=Lib.hid hal;clear hal hx
    have HK:=Lib.hid (Blk.new w 55 #[.int .i64 (y.ch),.int .i64 (y.at_),.int .i64 (y.pa),.int .i64 (y.lv)])
    obtain ⟨k0,k1,k2,k3,kf0,kf1,kf2,kf3⟩:=HK.out.c4
    obtain ⟨x0,x1,x2,x3,x4,x5,x6,xf0,xf1,xf2,xf3,xf4,xf5,xf6⟩:=HX.out.c7
    rw [hb2] at heqr
    go_enter Tryz.func27,Tryz.ntmps27
    go_wp2_with fail
    go_ret
    exact ⟨by rw [HE.out];rfl,HB.out⟩
  · have hb2:((y.ch == x.ch) && (y.at_ == x.at_)) = false:=by rw [Bool.eq_false_iff];intro h;rw [Bool.and_eq_true,beq_iff_eq,beq_iff_eq] at h;exact hq (Prod.ext h.1 h.2)
    have HE:Hid (decide (y.ky = x.ky) = false):=Lib.hid (decide_eq_false hq)
    clear hq
    have hal:=(Below.refl w.heap.size w).alloc (Nat.le_refl _) (.cells #[.int .i64 (y.ch),.int .i64 (y.at_),.int .i64 (y.pa),.int .i64 (y.lv)] 55)
    have HX:=Lib.hid (Blk.keep hx hal)
    have HB:=Lib.hid hal;clear hal hx
    have HK:=Lib.hid (Blk.new w 55 #[.int .i64 (y.ch),.int .i64 (y.at_),.int .i64 (y.pa),.int .i64 (y.lv)])
    obtain ⟨k0,k1,k2,k3,kf0,kf1,kf2,kf3⟩:=HK.out.c4
    obtain ⟨x0,x1,x2,x3,x4,x5,x6,xf0,xf1,xf2,xf3,xf4,xf5,xf6⟩:=HX.out.c7
    rw [hb2] at heqr
    go_enter Tryz.func27,Tryz.ntmps27
    go_wp2_with fail
    go_ret
    exact ⟨by rw [HE.out];rfl,HB.out⟩
theorem law_pkeeps (l : List Hnd) (v : Value) (t ti : Int) (es : List Ent) (now : List Amt) (p1 p2 : Option Addr) (c1 c2 : Nat) (w : World) (hv : HndsAt w v l) (hu : EntsAt w (.slice p1 es.length c1) es) (hz : AmtsAt w (.slice p2 now.length c2) now) (env : Env w) :
    Calls Tryz.prog 7 #[v,.agg #[.int .i64 t,.int .i64 ti,.slice p1 es.length c1,.slice p2 now.length c2]] w fun e w' => e = .returned (.bool (true)) ∧ Below w.heap.size w w':=by
  have ENV:=Lib.hid env;clear env
  have hal:=(Below.refl w.heap.size w).alloc (Nat.le_refl _) (.cells #[.int .i64 t,.int .i64 ti,.slice p1 es.length c1,.slice p2 now.length c2] 48)
  have HV:=Lib.hid (HndsAt.kept hv hal);have HU:=Lib.hid (EntsAt.kept hu hal);have HZ:=Lib.hid (AmtsAt.kept hz hal);have HB:=Lib.hid hal;clear hal hv hu hz
  have HK:=Lib.hid (Blk.new w 48 #[.int .i64 t,.int .i64 ti,.slice p1 es.length c1,.slice p2 now.length c2])
  obtain ⟨k0,k1,k2,k3,kf0,kf1,kf2,kf3⟩:=HK.out.c4
  have haw:=fun W (e:Env W) => l29_awake W e
  have hrg:=fun W (h1:HndsAt W v l) (h2:EntsAt W (.slice p1 es.length c1) es) (h3:AmtsAt W (.slice p2 now.length c2) now) => l29_right l v t ti es now p1 p2 c1 c2 W h1 h2 h3
  by_cases hr:rgtB l t ti es now = true
  · obtain ⟨hf,hx,hc,hs⟩:=rgtB_parts hr
    have hS:=setR_of hs
    obtain ⟨-,hx2,hx3⟩:=fewX_parts hx
    have hlen:∀ y ∈ now,y.le.length ≤ 1000:=fun y hy => by have:=hx3 y hy;omega
    have hlsh:=((fewH_short hf).1 hS.hl.few).2
    have h1:=fun W (e:Env W) (h1:HndsAt W v l) (h2:EntsAt W (.slice p1 es.length c1) es) (h3:AmtsAt W (.slice p2 now.length c2) now) => own_pset l t es ti now v (.slice p1 es.length c1) (.slice p2 now.length c2) W h1 h2 h3 (fewH_thou hf) (by omega) hlen e
    rw [show setO l t es ti now = (setL l t es ti now) from by unfold setO;rw [if_pos hs],hs] at h1
    unfold SetP at h1
    have hMr:=hS.right
    have hMs:=hS.short hlsh hx3
    have hMf:=hS.few
    have hMa:=hS.asc
    have hMz:=hS.size
    have hfd:∀ k (h1:k < es.length),∃ i,∃ hi:i < (setL l t es ti now).length,BelP Hnd.ky (setL l t es ti now) (es[k]'h1).ky i true ∧ ((setL l t es ti now)[i]'hi).pa = (es[k]'h1).pa ∧ ((setL l t es ti now)[i]'hi).lv = (es[k]'h1).lv ∧ ((setL l t es ti now)[i]'hi).st = t ∧ ((setL l t es ti now)[i]'hi).ti = ti:=fun k h1 => by obtain ⟨i,hi,hb,he⟩:=hS.find h1 (by rw [hS.len];exact h1);exact ⟨i,hi,hb,by rw [he];rfl,by rw [he];rfl,by rw [he];rfl,by rw [he];rfl⟩
    have hkp:∀ x ∈ l,es.any (fun y => decide (y.ky = x.ky)) = false → x ∈ (setL l t es ti now):=fun x hx hn => hS.keeps hx hn
    obtain ⟨M,hM⟩:∃ M,M = (setL l t es ti now):=⟨_,rfl⟩
    rw [← hM] at h1 hMr hMs hMf hMa hMz
    rw [← hM] at hfd
    rw [← hM] at hkp
    have HEL:Hid (es.length ≤ 4096):=Lib.hid hS.he.few
    have HLL:Hid (l.length ≤ 256):=Lib.hid hS.hl.few
    have hcm:=fun W p c (h:HndsAt W (.slice p M.length c) M) (e:Env W) => own_pcheck M (.slice p M.length c) W h (fun _ x hx => by have:=hMs x hx;omega) e
    change ∀ W p c,HndsAt W (.slice p M.length c) M → Env W → Calls _ _ _ _ (fun e w' => e = .returned (.int .i64 (hnsE M)) ∧ _) at hcm
    rw [hMr] at hcm
    have HMR:=Lib.hid hMr;have HMS:Hid (∀ x ∈ M,x.fr.length ≤ 1000):=Lib.hid (fun x hx => by have:=hMs x hx;omega);have HMF:=Lib.hid hMf;have HMZ:=Lib.hid hMz;have HFD:=Lib.hid hfd;have HKP:=Lib.hid hkp
    rw [hr] at hrg
    clear hf hx hc hs hS hx2 hx3 hlen hlsh hMr hMs hMf hMa hMz hfd hkp hM hr
    have HAW:=Lib.hid haw;clear haw
    have HRG:=Lib.hid hrg;clear hrg
    have H1:=Lib.hid h1;clear h1
    have HCM:=Lib.hid hcm;clear hcm
    have HRV:Hid (∃ p c,v = .slice p l.length c):=Lib.hid (by obtain ⟨p,c,h,-⟩:=HV.out;exact ⟨p,c,h⟩)
    obtain ⟨pv,cv,rfl⟩:=HRV.out
    clear HRV
    go_enter Tryz.func7,Tryz.ntmps7
    go_upto_region 6 with (first | (with_reducible refine ((HRG.out _ HV.out HU.out HZ.out).mono ?_);rintro e w' ⟨rfl,hb⟩;replace HK:=Lib.hid (HK.out.keep hb);clear k0 k1 k2 k3 kf0 kf1 kf2 kf3;replace HV:=Lib.hid (HndsAt.kept HV.out hb);replace HU:=Lib.hid (EntsAt.kept HU.out hb);replace HZ:=Lib.hid (AmtsAt.kept HZ.out hb);replace HB:=Lib.hid (bch' HB.out hb);clear hb;obtain ⟨k0,k1,k2,k3,kf0,kf1,kf2,kf3⟩:=HK.out.c4) | ((with_reducible refine ((H1.out _ (ENV.out.below HB.out) HV.out HU.out HZ.out).mono ?_));rintro e w2 ⟨v1,rfl,⟨pm,cm,rfl,hRm⟩,hb⟩;have HM:=Lib.hid (show HndsAt w2 (.slice pm M.length cm) M from ⟨_,_,rfl,hRm⟩);clear hRm;replace HK:=Lib.hid (HK.out.keep hb);clear k0 k1 k2 k3 kf0 kf1 kf2 kf3;replace HV:=Lib.hid (HndsAt.kept HV.out hb);replace HU:=Lib.hid (EntsAt.kept HU.out hb);replace HZ:=Lib.hid (AmtsAt.kept HZ.out hb);replace HB:=Lib.hid (bch' HB.out hb);clear hb;obtain ⟨k0,k1,k2,k3,kf0,kf1,kf2,kf3⟩:=HK.out.c4) | (with_reducible refine ((HCM.out _ _ _ HM.out (ENV.out.below HB.out)).mono ?_);rintro e w' ⟨rfl,hb⟩;replace HK:=Lib.hid (HK.out.keep hb);clear k0 k1 k2 k3 kf0 kf1 kf2 kf3;replace HV:=Lib.hid (HndsAt.kept HV.out hb);replace HU:=Lib.hid (EntsAt.kept HU.out hb);replace HZ:=Lib.hid (AmtsAt.kept HZ.out hb);replace HM:=Lib.hid (HndsAt.kept HM.out hb);replace HB:=Lib.hid (bch' HB.out hb);clear hb;obtain ⟨k0,k1,k2,k3,kf0,kf1,kf2,kf3⟩:=HK.out.c4))
    obtain ⟨w2,hw2⟩:∃ X,X = w':=⟨_,rfl⟩
    subst hw2
    have HBw:=HB;clear HB
    have HB:=Lib.hid (Below.refl w2.heap.size w2)
    have HK1:=HK
    have HRV:Hid (RowX encHd 7 w2 pv l):=Lib.hid (by obtain ⟨p,c,e9,h⟩:=HV.out;injection e9 with e1 e2 e3;subst e1;exact h)
    go_wp2_with fail
    go_loopw [43] (fun s wr => ∃ k:Nat,s = .int .i64 (k:Int) ∧ k ≤ es.length ∧ Hid (Below w2.heap.size w2 wr)) (fun s _ => es.length - (intOf s).toNat)
    case atStart => exact ⟨0,rfl,Nat.zero_le _,HB⟩
    case round =>
      clear HK
      obtain ⟨k,rfl,hk9,HB2⟩:=hrel
      clear HB k0 k1 k2 k3 kf0 kf1 kf2 kf3
      have HB:=HB2;clear HB2
      have HK:=Lib.hid (HK1.out.keep HB.out)
      obtain ⟨k0,k1,k2,k3,kf0,kf1,kf2,kf3⟩:=HK.out.c4
      by_cases hke:k < es.length
      · have hlt:(k:Int) < (es.length:Int):=by omega
        have hk0:(0:Int) ≤ (k:Int):=by omega
        have hlo:k * 4 < 9223372036854775807:=by have:=HEL.out;omega
        have hun:IntKind.i64.wrap ((k:Int) + 1) = (k:Int) + 1:=IntWalk.i64_in _ (by have:=HEL.out;omega)
        have hu1:=HU.out
        obtain ⟨pe,ce,e9,hRe⟩:=hu1
        injection e9 with e91 e92 e93
        subst e91
        clear e92 e93
        obtain ⟨b1,o1,rfl,hb1,hC1⟩:=hRe (fun h => by subst h;exact absurd hke (Nat.not_lt_zero _))
        obtain ⟨y,hy⟩:∃ y,y = es[k]'hke:=⟨_,rfl⟩
        have hc1:=hC1 k hke
        rw [← hy] at hc1
        obtain ⟨i,hi,hbl,g1,g2,g3,g4⟩:=HFD.out k hke
        rw [← hy] at hbl g1 g2
        have hfd:=fun W (e:Env W) (h:HndsAt W (.slice pm M.length cm) M) => own_pfind M (.slice pm M.length cm) y.ch y.at_ W h (fun _ => HMS.out) e
        rw [finT_ok HMR.out,show finI M (y.ch,y.at_) = (i:Int) from (fin_hit hbl).1,show finB M (y.ch,y.at_) = true from (fin_hit hbl).2] at hfd
        dsimp only at hfd
        clear hbl
        have y0:wr.cell? ⟨b1,o1 + k * 4,none⟩ = some (.int .i64 (y.ch)):=(HB.out.cell (p:=⟨b1,o1 + k * 4 + 0,none⟩) hb1).trans (hc1 0 _ rfl)
        have y1:wr.cell? ⟨b1,o1 + k * 4 + 1,none⟩ = some (.int .i64 (y.at_)):=(HB.out.cell (p:=⟨b1,o1 + k * 4 + 1,none⟩) hb1).trans (hc1 1 _ rfl)
        have y2:wr.cell? ⟨b1,o1 + k * 4 + 2,none⟩ = some (.int .i64 (y.pa)):=(HB.out.cell (p:=⟨b1,o1 + k * 4 + 2,none⟩) hb1).trans (hc1 2 _ rfl)
        have y3:wr.cell? ⟨b1,o1 + k * 4 + 3,none⟩ = some (.int .i64 (y.lv)):=(HB.out.cell (p:=⟨b1,o1 + k * 4 + 3,none⟩) hb1).trans (hc1 3 _ rfl)
        have hbr:b1 < wr.heap.size:=Nat.lt_of_lt_of_le hb1 HB.out.size
        have hm1:=HM.out
        obtain ⟨pq,cq,e9,hRq⟩:=hm1
        injection e9 with e91 e92 e93
        subst e91
        clear e92 e93
        obtain ⟨bm,om,rfl,hbm,hCm⟩:=hRq (fun h => by rw [h] at hi;exact absurd hi (Nat.not_lt_zero _))
        have hcm:=hCm i hi
        have HCM:=Lib.hid hcm;have HBM:=Lib.hid hbm
        have HG1:=Lib.hid g1;have HG2:=Lib.hid g2;have HG3:=Lib.hid g3;have HG4:=Lib.hid g4
        clear hcm hbm hCm hRq hc1 hb1 hC1 hRe hy g1 g2 g3 g4
        go_upto_region 9 with fail
        clear y0 y1 y2 y3 hbr
        have hb:=(Below.refl wr.heap.size wr).alloc (Nat.le_refl _) (.cells #[.int .i64 (y.ch),.int .i64 (y.at_),.int .i64 (y.pa),.int .i64 (y.lv)] 55)
        have HY:=Lib.hid (Blk.new wr 55 #[.int .i64 (y.ch),.int .i64 (y.at_),.int .i64 (y.pa),.int .i64 (y.lv)])
        obtain ⟨n8,hn8⟩:∃ n,n = wr.heap.size:=⟨_,rfl⟩
        obtain ⟨Wa,hWWa⟩:∃ X,X = wr.alloc (.cells #[.int .i64 (y.ch),.int .i64 (y.at_),.int .i64 (y.pa),.int .i64 (y.lv)] 55):=⟨_,rfl⟩
        rw [← hn8] at HY ⊢
        rw [← hWWa] at hb HY ⊢
        replace HK:=Lib.hid (HK.out.keep hb);clear k0 k1 k2 k3 kf0 kf1 kf2 kf3;replace HB:=Lib.hid (bch' HB.out hb);clear hb;obtain ⟨k0,k1,k2,k3,kf0,kf1,kf2,kf3⟩:=HK.out.c4
        clear hWWa hn8
        obtain ⟨y0,y1,y2,y3,yf0,yf1,yf2,yf3⟩:=HY.out.c4
        have HFA:=Lib.hid hfd;clear hfd
        go_upto_region 10 with (first | (with_reducible refine ((HFA.out _ (ENV.out.below (bch' HBw.out HB.out)) (HndsAt.kept HM.out HB.out)).mono ?_);rintro e w' ⟨rfl,hb⟩;replace HK:=Lib.hid (HK.out.keep hb);clear k0 k1 k2 k3 kf0 kf1 kf2 kf3;replace HY:=Lib.hid (HY.out.keep hb);clear y0 y1 y2 y3 yf0 yf1 yf2 yf3;replace HB:=Lib.hid (bch' HB.out hb);clear hb;obtain ⟨k0,k1,k2,k3,kf0,kf1,kf2,kf3⟩:=HK.out.c4;obtain ⟨y0,y1,y2,y3,yf0,yf1,yf2,yf3⟩:=HY.out.c4))
        have hq3:w2.cell? ⟨bm,om + i * 7 + 3,none⟩ = some (.int .i64 y.pa):=(HCM.out 3 _ rfl).trans (by rw [HG1.out])
        have hq4:w2.cell? ⟨bm,om + i * 7 + 4,none⟩ = some (.int .i64 y.lv):=(HCM.out 4 _ rfl).trans (by rw [HG2.out])
        have hq5:w2.cell? ⟨bm,om + i * 7 + 5,none⟩ = some (.int .i64 t):=(HCM.out 5 _ rfl).trans (by rw [HG3.out])
        have hq6:w2.cell? ⟨bm,om + i * 7 + 6,none⟩ = some (.int .i64 ti):=(HCM.out 6 _ rfl).trans (by rw [HG4.out])
        have hii:(i:Int) < (M.length:Int):=by omega
        have hi0:(0:Int) ≤ (i:Int):=by omega
        have him:i * 7 < 9223372036854775807:=by have:=HMF.out;omega
        have hge:decide ((M.length:Int) ≤ (i:Int)) = false:=decide_eq_false (by omega)
        have hge2:decide (M.length ≤ i) = false:=decide_eq_false (by omega)
        have hneqr:=fun W => neq_val W y.pa y.lv
        have m3:=fun p:BelowOf _ => ((bch' HB.out p.h).cell (p:=⟨bm,om + i * 7 + 3,none⟩) HBM.out).trans (hq3)
        have m4:=fun p:BelowOf _ => ((bch' HB.out p.h).cell (p:=⟨bm,om + i * 7 + 4,none⟩) HBM.out).trans (hq4)
        have m5:=fun p:BelowOf _ => ((bch' HB.out p.h).cell (p:=⟨bm,om + i * 7 + 5,none⟩) HBM.out).trans (hq5)
        have m6:=fun p:BelowOf _ => ((bch' HB.out p.h).cell (p:=⟨bm,om + i * 7 + 6,none⟩) HBM.out).trans (hq6)
        have f0:=fun p:BelowOf _ => (HY.out.keep p.h).c4.1
        have f1:=fun p:BelowOf _ => (HY.out.keep p.h).c4.2.1
        have f2:=fun p:BelowOf _ => (HY.out.keep p.h).c4.2.2.1
        have f3:=fun p:BelowOf _ => (HY.out.keep p.h).c4.2.2.2.1
        have g0:=fun p:BelowOf _ => (HK.out.keep p.h).c4.1
        have g1:=fun p:BelowOf _ => (HK.out.keep p.h).c4.2.1
        have zm:=fun p:BelowOf _ => Nat.lt_of_lt_of_le HBM.out (bch' HB.out p.h).size
        refine wp_region_WQ (by kernel_rfl) (by kernel_rfl) ?_
        repeat (refine WQ.step (fun K hK => ?_);go_simp;first | (refine hK.out _ ?_;clear hK K) | (apply Exists.intro;refine ⟨fun _ => ?_,hK.out _ ?_⟩;(first | rfl);clear hK K))
        refine WQ.nil ?_
        intro _ hw'
        obtain ⟨⟨wq,hbq⟩,hw2⟩:=hw'
        subst hw2
        replace HB:=Lib.hid (bch' HB.out hbq)
        clear m3 m4 m5 m6 f0 f1 f2 f3 g0 g1 zm
        clear hneqr
        go_wp2_with fail
        go_roundw
        case rel => exact ⟨k + 1,by first | rfl | simp,by omega,HB⟩
        case measure => first | (simp [intOf];done) | (simp [intOf];omega)
      · have hlt:¬ (k:Int) < (es.length:Int):=by omega
        go_wp2_with fail
        go_loopw [100] (fun s wr => ∃ m:Nat,s = .int .i64 (m:Int) ∧ m ≤ l.length ∧ Hid (Below w2.heap.size w2 wr)) (fun s _ => l.length - (intOf s).toNat)
        case atStart => exact ⟨0,rfl,Nat.zero_le _,HB⟩
        case round =>
          clear HK
          obtain ⟨m,rfl,hm9,HB2⟩:=hrel
          clear HB k0 k1 k2 k3 kf0 kf1 kf2 kf3
          have HB:=HB2;clear HB2
          have HK:=Lib.hid (HK1.out.keep HB.out)
          obtain ⟨k0,k1,k2,k3,kf0,kf1,kf2,kf3⟩:=HK.out.c4
          by_cases hml:m < l.length
          · have hlt:(m:Int) < (l.length:Int):=by omega
            have hk0:(0:Int) ≤ (m:Int):=by omega
            have hlo:m * 7 < 9223372036854775807:=by have:=HLL.out;omega
            have hun:IntKind.i64.wrap ((m:Int) + 1) = (m:Int) + 1:=IntWalk.i64_in _ (by have:=HLL.out;omega)
            obtain ⟨b1,o1,rfl,hb1,hC1⟩:=HRV.out (fun h => by subst h;exact absurd hml (Nat.not_lt_zero _))
            obtain ⟨x,hx⟩:∃ x,x = l[m]'hml:=⟨_,rfl⟩
            have hc1:=hC1 m hml
            rw [← hx] at hc1
            have hkp:=HKP.out x (by rw [hx];exact List.getElem_mem hml)
            have y0:wr.cell? ⟨b1,o1 + m * 7,none⟩ = some (.int .i64 (x.ch)):=(HB.out.cell (p:=⟨b1,o1 + m * 7 + 0,none⟩) hb1).trans (hc1 0 _ rfl)
            have y1:wr.cell? ⟨b1,o1 + m * 7 + 1,none⟩ = some (.int .i64 (x.at_)):=(HB.out.cell (p:=⟨b1,o1 + m * 7 + 1,none⟩) hb1).trans (hc1 1 _ rfl)
            have y2:wr.cell? ⟨b1,o1 + m * 7 + 2,none⟩ = some (.string ⟨x.fr.toArray⟩):=(HB.out.cell (p:=⟨b1,o1 + m * 7 + 2,none⟩) hb1).trans (hc1 2 _ rfl)
            have y3:wr.cell? ⟨b1,o1 + m * 7 + 3,none⟩ = some (.int .i64 (x.pa)):=(HB.out.cell (p:=⟨b1,o1 + m * 7 + 3,none⟩) hb1).trans (hc1 3 _ rfl)
            have y4:wr.cell? ⟨b1,o1 + m * 7 + 4,none⟩ = some (.int .i64 (x.lv)):=(HB.out.cell (p:=⟨b1,o1 + m * 7 + 4,none⟩) hb1).trans (hc1 4 _ rfl)
            have y5:wr.cell? ⟨b1,o1 + m * 7 + 5,none⟩ = some (.int .i64 (x.st)):=(HB.out.cell (p:=⟨b1,o1 + m * 7 + 5,none⟩) hb1).trans (hc1 5 _ rfl)
            have y6:wr.cell? ⟨b1,o1 + m * 7 + 6,none⟩ = some (.int .i64 (x.ti)):=(HB.out.cell (p:=⟨b1,o1 + m * 7 + 6,none⟩) hb1).trans (hc1 6 _ rfl)
            have hbr:b1 < wr.heap.size:=Nat.lt_of_lt_of_le hb1 HB.out.size
            clear hx hc1 hb1 hC1
            go_upto_region 16 with fail
            clear y0 y1 y2 y3 y4 y5 y6 hbr
            have hb:=(Below.refl wr.heap.size wr).alloc (Nat.le_refl _) (.cells #[.int .i64 (x.ch),.int .i64 (x.at_),.string ⟨x.fr.toArray⟩,.int .i64 (x.pa),.int .i64 (x.lv),.int .i64 (x.st),.int .i64 (x.ti)] 28)
            have HY:=Lib.hid (Blk.new wr 28 #[.int .i64 (x.ch),.int .i64 (x.at_),.string ⟨x.fr.toArray⟩,.int .i64 (x.pa),.int .i64 (x.lv),.int .i64 (x.st),.int .i64 (x.ti)])
            obtain ⟨n8,hn8⟩:∃ n,n = wr.heap.size:=⟨_,rfl⟩
            obtain ⟨Wa,hWWa⟩:∃ X,X = wr.alloc (.cells #[.int .i64 (x.ch),.int .i64 (x.at_),.string ⟨x.fr.toArray⟩,.int .i64 (x.pa),.int .i64 (x.lv),.int .i64 (x.st),.int .i64 (x.ti)] 28):=⟨_,rfl⟩
            rw [← hn8] at HY ⊢
            rw [← hWWa] at hb HY ⊢
            replace HK:=Lib.hid (HK.out.keep hb);clear k0 k1 k2 k3 kf0 kf1 kf2 kf3;replace HB:=Lib.hid (bch' HB.out hb);clear hb;obtain ⟨k0,k1,k2,k3,kf0,kf1,kf2,kf3⟩:=HK.out.c4
            clear hWWa hn8
            obtain ⟨y0,y1,y2,y3,y4,y5,y6,yf0,yf1,yf2,yf3,yf4,yf5,yf6⟩:=HY.out.c7
            have hct:∀ W,EntsAt W (.slice p1 es.length c1) es → Blk W n8 28 #[.int .i64 (x.ch),.int .i64 (x.at_),.string ⟨x.fr.toArray⟩,.int .i64 (x.pa),.int .i64 (x.lv),.int .i64 (x.st),.int .i64 (x.ti)] → Calls Tryz.prog 26 #[(.slice p1 es.length c1),.func (.func 27) #[] #[.pointer (some ⟨n8,0,none⟩)]] W fun e w' => e = .returned (.bool (es.any (fun y => decide (y.ky = x.ky)))) ∧ Below W.heap.size W w':=fun W h hB => by
              obtain ⟨p,c,e9,hR⟩:=h
              injection e9 with e1 e2 e3
              subst e1 e3
              exact ent1_contains 27 (.pointer (some ⟨n8,0,none⟩)) es (fun y => decide (y.ky = x.ky)) p1 c1 W.heap.size W hR (Nat.le_refl _) (by have:=HEL.out;omega) (enters_of Tryz.func27 (by kernel_rfl) rfl) (fun y _ W2 hW => cl_keeps y x n8 W2 (hB.keep hW))
            have hco:=fun W (h:HndsAt W (.slice pm M.length cm) M) => hd_contains M (.slice pm M.length cm) x W h (by have:=HMF.out;omega)
            cases ha:es.any (fun y => decide (y.ky = x.ky)) with
            | true =>
              rw [ha] at hct
              clear hkp hco ha
              have HCT:=Lib.hid hct;clear hct
              go_wp2_with (first | (with_reducible refine ((HCT.out _ (EntsAt.kept HU.out HB.out) HY.out).mono ?_);rintro e w' ⟨rfl,hb⟩;replace HK:=Lib.hid (HK.out.keep hb);clear k0 k1 k2 k3 kf0 kf1 kf2 kf3;replace HY:=Lib.hid (HY.out.keep hb);clear y0 y1 y2 y3 y4 y5 y6 yf0 yf1 yf2 yf3 yf4 yf5 yf6;replace HB:=Lib.hid (bch' HB.out hb);clear hb;obtain ⟨k0,k1,k2,k3,kf0,kf1,kf2,kf3⟩:=HK.out.c4;obtain ⟨y0,y1,y2,y3,y4,y5,y6,yf0,yf1,yf2,yf3,yf4,yf5,yf6⟩:=HY.out.c7))
              go_roundw
              case rel => exact ⟨m + 1,by first | rfl | simp,by omega,HB⟩
              case measure => first | (simp [intOf];done) | (simp [intOf];omega)
            | false =>
              rw [ha] at hct
              rw [decide_eq_true (hkp ha)] at hco
              clear hkp ha
              have HCT:=Lib.hid hct;clear hct
              have HCO:=Lib.hid hco;clear hco
              go_wp2_with (first | (with_reducible refine ((HCT.out _ (EntsAt.kept HU.out HB.out) HY.out).mono ?_);rintro e w' ⟨rfl,hb⟩;replace HK:=Lib.hid (HK.out.keep hb);clear k0 k1 k2 k3 kf0 kf1 kf2 kf3;replace HY:=Lib.hid (HY.out.keep hb);clear y0 y1 y2 y3 y4 y5 y6 yf0 yf1 yf2 yf3 yf4 yf5 yf6;replace HB:=Lib.hid (bch' HB.out hb);clear hb;obtain ⟨k0,k1,k2,k3,kf0,kf1,kf2,kf3⟩:=HK.out.c4;obtain ⟨y0,y1,y2,y3,y4,y5,y6,yf0,yf1,yf2,yf3,yf4,yf5,yf6⟩:=HY.out.c7) | (with_reducible refine ((HCO.out _ (HndsAt.kept HM.out HB.out)).mono ?_);rintro e w' ⟨rfl,hb⟩;replace HK:=Lib.hid (HK.out.keep hb);clear k0 k1 k2 k3 kf0 kf1 kf2 kf3;replace HY:=Lib.hid (HY.out.keep hb);clear y0 y1 y2 y3 y4 y5 y6 yf0 yf1 yf2 yf3 yf4 yf5 yf6;replace HB:=Lib.hid (bch' HB.out hb);clear hb;obtain ⟨k0,k1,k2,k3,kf0,kf1,kf2,kf3⟩:=HK.out.c4;obtain ⟨y0,y1,y2,y3,y4,y5,y6,yf0,yf1,yf2,yf3,yf4,yf5,yf6⟩:=HY.out.c7))
              go_roundw
              case rel => exact ⟨m + 1,by first | rfl | simp,by omega,HB⟩
              case measure => first | (simp [intOf];done) | (simp [intOf];omega)
          · have hlt:¬ (m:Int) < (l.length:Int):=by omega
            have hsz:(M.length:Int) ≤ (l.length:Int) + (es.length:Int):=by have:=HMZ.out;omega
            have hws:IntKind.i64.wrap ((l.length:Int) + (es.length:Int)) = (l.length:Int) + (es.length:Int):=IntWalk.i64_in _ (by have:=HEL.out;have:=HLL.out;omega)
            have hsz2:decide ((M.length:Int) ≤ (l.length:Int) + (es.length:Int)) = true:=decide_eq_true hsz
            go_wp2_with (first | (with_reducible refine ((HAW.out _ (ENV.out.below (bch' HBw.out HB.out))).mono ?_);rintro e w' ⟨rfl,hb⟩;replace HK:=Lib.hid (HK.out.keep hb);clear k0 k1 k2 k3 kf0 kf1 kf2 kf3;replace HB:=Lib.hid (bch' HB.out hb);clear hb;obtain ⟨k0,k1,k2,k3,kf0,kf1,kf2,kf3⟩:=HK.out.c4))
            go_ret
            exact ⟨by first | rfl | simp,bch' HBw.out HB.out⟩
  · have hr:rgtB l t ti es now = false:=by simpa using hr
    rw [hr] at hrg
    clear hr
    have HAW:=Lib.hid haw;clear haw
    have HRG:=Lib.hid hrg;clear hrg
    go_enter Tryz.func7,Tryz.ntmps7
    go_wp2_with (first | (with_reducible refine ((HRG.out _ HV.out HU.out HZ.out).mono ?_);rintro e w' ⟨rfl,hb⟩;replace HK:=Lib.hid (HK.out.keep hb);clear k0 k1 k2 k3 kf0 kf1 kf2 kf3;replace HV:=Lib.hid (HndsAt.kept HV.out hb);replace HU:=Lib.hid (EntsAt.kept HU.out hb);replace HZ:=Lib.hid (AmtsAt.kept HZ.out hb);replace HB:=Lib.hid (bch' HB.out hb);clear hb;obtain ⟨k0,k1,k2,k3,kf0,kf1,kf2,kf3⟩:=HK.out.c4) | (with_reducible refine ((HAW.out _ (ENV.out.below HB.out)).mono ?_);rintro e w' ⟨rfl,hb⟩;replace HK:=Lib.hid (HK.out.keep hb);clear k0 k1 k2 k3 kf0 kf1 kf2 kf3;replace HV:=Lib.hid (HndsAt.kept HV.out hb);replace HU:=Lib.hid (EntsAt.kept HU.out hb);replace HZ:=Lib.hid (AmtsAt.kept HZ.out hb);replace HB:=Lib.hid (bch' HB.out hb);clear hb;obtain ⟨k0,k1,k2,k3,kf0,kf1,kf2,kf3⟩:=HK.out.c4))
    go_ret
    exact ⟨rfl,HB.out⟩
end Go.Proofs.YtknlohmkachbmaaGreatDoor

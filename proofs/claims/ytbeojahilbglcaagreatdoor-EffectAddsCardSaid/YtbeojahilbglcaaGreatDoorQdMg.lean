/- A part of the proof of EffectAdds: contracts of functions, and plain facts. -/
import Derived.Test.YtbeojahilbglcaaGreatDoorQdMf
import Derived.Test.YtbeojahilbglcaaGreatDoorQdMd
set_option maxHeartbeats 4000000
set_option maxRecDepth 100000
set_option linter.unusedVariables false
set_option linter.unusedSimpArgs false
namespace Lum
open Go Go.RowKit Go.Shelf
def wd (m k:Nat):Nat:=m / B9 ^ k % B9
theorem wd_lt (m k:Nat):wd m k < 1000000000:=Nat.mod_lt _ B9_pos
theorem wd_beyond (m k:Nat) (h:(magL m).length ≤ k):wd m k = 0:=word_beyond B9 m _ k (lt_len m) h B9_pos
theorem magL_get (m k:Nat):(magL m)[k]?.getD 0 = wd m k:=by rw [← List.getD_eq_getElem?_getD,magL_getD];rfl
theorem MagAt.cells {W : World} {p : Option Addr} {n c m : Nat} (h : MagAt W p n c m) (h0 : 0 < n) :
    ∃ b o,p = some ⟨b,o,none⟩ ∧ b < W.heap.size ∧ ∀ j,j < n → W.cell? ⟨b,o + j,none⟩ = some (.int .u64 (wd m j:Nat)):=by
  obtain ⟨b,o,rfl⟩:=h.1.some (by rw [← h.2];exact h0)
  obtain ⟨h1,h2,h3⟩:=h.1.cell
  exact ⟨b,o,rfl,h1,fun j hj => by rw [h3 j (by omega),magL_get]⟩
theorem MagAt.n {W:World} {p:Option Addr} {n c m:Nat} (h:MagAt W p n c m):n = (magL m).length:=h.2
theorem sum_len (m n K:Nat) (hm:(magL m).length ≤ K) (hn:(magL n).length ≤ K):m + n < B9 ^ (K + 1):=by
  have h1:=(magL_len m K).1 hm
  have h2:=(magL_len n K).1 hn
  have hb:2 ≤ B9:=by decide
  rw [Nat.pow_succ]
  have:=Nat.mul_le_mul_left (B9 ^ K) hb
  omega
theorem bch' {w w1 w2:World} (h1:Below w.heap.size w w1) (h2:Below w1.heap.size w1 w2):Below w.heap.size w w2:=h1.trans (h2.mono h1.size)
end Lum
namespace Go.Proofs.YtbeojahilbglcaaGreatDoor
open Go.RowKit Go.Shelf Lum
attribute [local go_sem] bs_get bs_extract_end bs_extract_from bs_extract bs_append
theorem mag_at (p : Option Addr) (n c m i : Nat) (w : World) (h : MagAt w p n c m) (hn : n ≤ 1000000) (hi : i ≤ 1000000) :
    Calls Tryz.prog 253 #[.slice p n c,.int .i64 (i:Int)] w fun e w' => e = .returned (.int .u64 (wd m i:Nat)) ∧ w = w':=by
  by_cases hlt:i < n
  · obtain ⟨b,o,rfl,hb,hc⟩:=h.cells (by omega)
    have hci:=hc i hlt
    clear hc
    generalize wd m i = x at *
    have H:=Lib.hid h;clear h
    go_enter Tryz.func253,Tryz.ntmps253
    go_wp2
    go_ret
    exact ⟨rfl,rfl⟩
  · have hz:wd m i = 0:=wd_beyond m i (by rw [← h.n];omega)
    rw [hz]
    have H:=Lib.hid h;clear h hz
    go_enter Tryz.func253,Tryz.ntmps253
    go_wp2
    go_ret
    exact ⟨rfl,rfl⟩
theorem mag_plus (p1 p2 : Option Addr) (n1 c1 n2 c2 m n : Nat) (w : World) (h1 : MagAt w p1 n1 c1 m) (h2 : MagAt w p2 n2 c2 n) (hn1 : n1 ≤ 100000) (hn2 : n2 ≤ 100000) :
    Calls Tryz.prog 224 #[.slice p1 n1 c1,.slice p2 n2 c2] w fun e w' => ∃ p' n' c',e = .returned (.slice p' n' c') ∧ MagAt w' p' n' c' (m + n) ∧ Below w.heap.size w w':=by
  obtain ⟨i0,hi,hz0,hz1,hz2⟩:=info_parts info_u64
  have a1:=fun W (hb:Below w.heap.size w W) i hi => mag_at p1 n1 c1 m i W (h1.below hb) (by omega) hi
  have a2:=fun W (hb:Below w.heap.size w W) i hi => mag_at p2 n2 c2 n i W (h2.below hb) (by omega) hi
  have key:∃ K,(n1 < n2 ∧ K = n2) ∨ (¬ n1 < n2 ∧ K = n1):=by
    by_cases h:n1 < n2
    · exact ⟨n2,.inl ⟨h,rfl⟩⟩
    · exact ⟨n1,.inr ⟨h,rfl⟩⟩
  obtain ⟨K,hK⟩:=key
  have hs:=sum_len m n K (by rw [← h1.n];omega) (by rw [← h2.n];omega)
  have HS:=Lib.hid hs;clear hs h1 h2
  have hK2:K ≤ 100000:=by omega
  have A1:=Lib.hid a1;clear a1
  have A2:=Lib.hid a2;clear a2
  rcases hK with ⟨hlt,hK⟩ | ⟨hlt,hK⟩
  all_goals
    subst hK
    go_enter Tryz.func224,Tryz.ntmps224
    go_wp2
    clear hlt
    go_loopw [5, 6, 7, 14] (fun v q _ kk wr => ∃ (p : Option Addr) (cc : Nat) (ws : List Nat) (k c : Nat), v = .slice p ws.length cc ∧ q = .int .u64 c ∧ kk = .int .i64 k ∧ c ≤ 1 ∧ Hid (ws.length = k) ∧ Hid (mv B9 ws + c * B9 ^ k = m % B9 ^ k + n % B9 ^ k) ∧ Hid (∀ d ∈ ws, d < B9) ∧
      k ≤ K + 1 ∧ Hid (OwnN .u64 w.heap.size 197 wr p cc ws) ∧ Below w.heap.size w wr) (fun _ _ _ kk _ => K + 2 - (intOf kk).toNat)
    case atStart =>
      exact ⟨none,0,[],0,0,rfl,rfl,rfl,by omega,rfl,(show _ = _ by simp [mv,Nat.mod_one]),(show ∀ d ∈ _,_ by simp),by omega,OwnN.nil _ _ _ _,Below.refl _ _⟩
    case round =>
      obtain ⟨p,cc,ws,k,c,rfl,rfl,rfl,hc,HK,HV,HD,hkm,HO,hbr⟩:=hrel
      by_cases hlt:k < K + 1
      · have e1:=fun W hb => A1.out W hb k (by omega)
        have e2:=fun W hb => A2.out W hb k (by omega)
        have hx1:=wd_lt m k
        have hy1:=wd_lt n k
        have hstep:=plus_step B9 k m n c (mv B9 ws) HV.out
        change _ + _ * ((c + (wd m k + wd n k)) % 1000000000) + (c + (wd m k + wd n k)) / 1000000000 * _ = _ at hstep
        generalize wd m k = x at *
        generalize wd n k = y at *
        have hc':(c + (x + y)) / 1000000000 ≤ 1:=by omega
        have HS2:Hid (mv B9 (ws ++ [(c + (x + y)) % 1000000000]) + (c + (x + y)) / 1000000000 * B9 ^ (k + 1) = m % B9 ^ (k + 1) + n % B9 ^ (k + 1)):=by
          show _ = _
          rw [mv_snoc,HK.out];exact hstep
        clear hstep
        have HD2:Hid (∀ d ∈ ws ++ [(c + (x + y)) % 1000000000],d < B9):=by
          intro d hd
          rcases List.mem_append.1 hd with h | h
          · exact HD.out d h
          · simp at h;rw [h];exact Nat.mod_lt _ (by omega)
        have hO:=HO.out
        have hbs:=hbr.size
        have hwl:ws.length < 1000000000:=by have:=HK.out;omega
        go_wp2_with fail
        refine (e1 _ hbr).mono ?_;rintro e w' ⟨rfl,rfl⟩
        go_wp2_with fail
        refine (e2 _ hbr).mono ?_;rintro e w' ⟨rfl,rfl⟩
        go_wp2_with (at_builtin;refine wpList_appN rfl _ _ 243 rfl .u64 w.heap.size 197 i0 (.int .u64 0) 8 Tryz.underlying243 hi hz0 hz1 hz2 rfl (by decide) p cc ws _ ((c + (x + y)) % 1000000000) _ (by omega) rfl hO rfl hwl hbs ?_;rintro p1 cc1 w3 hO1 hb1)
        go_roundw
        case rel => exact ⟨p1,cc1,ws ++ [(c + (x + y)) % 1000000000],k + 1,(c + (x + y)) / 1000000000,by simp,val_int (by omega),by go_num,hc',(show _ = _ by simp [HK.out]),HS2,HD2,by omega,hO1,hbr.trans hb1⟩
        case measure => simp [intOf];omega
      · obtain rfl:k = K + 1:=by omega
        obtain ⟨hend,-⟩:=plus_end B9 (K + 1) m n c _ HV.out HS.out
        have HE:=Lib.hid hend;clear hend
        have hcut:=fun W h => cut_any p cc ws W h HD.out (by have:=HK.out;omega)
        rw [HE.out] at hcut
        have HC:=Lib.hid hcut;clear hcut
        go_wp2_with fail
        refine (HC.out _ (OwnN.nats HO.out)).mono ?_
        rintro e w4 ⟨p',n',c',rfl,hM,hb4⟩
        have HM:=Lib.hid hM;clear hM
        go_wp2_with fail
        go_ret
        exact ⟨p',n',c',rfl,HM.out,bch' hbr hb4⟩
end Go.Proofs.YtbeojahilbglcaaGreatDoor
namespace Lum
open Go Go.RowKit Go.Shelf
theorem below_len (m K:Nat) (h:(magL m).length ≤ K):m < B9 ^ K:=(magL_len m K).1 h
def Fresh (w:World) (p:Option Addr):Prop:=∀ a,p = some a → w.heap.size ≤ a.block
theorem own_fresh {k:IntKind} {e:Nat} {w W:World} {p p':Option Addr} {c:Nat} {ws:List Nat} (h:OwnN k w.heap.size e W p c ws) (hp:p' = p ∨ p' = none):Fresh w p':=by
  rintro a rfl
  rcases hp with rfl | h0
  · exact (OwnL.lt h a rfl).1
  · cases h0
end Lum
namespace Go.Proofs.YtbeojahilbglcaaGreatDoor
open Go.RowKit Go.Shelf Lum
attribute [local go_sem] bs_get bs_extract_end bs_extract_from bs_extract bs_append
theorem mag_less_more (p1 p2 : Option Addr) (n1 c1 n2 c2 m n : Nat) (w : World) (h1 : MagAt w p1 n1 c1 m) (h2 : MagAt w p2 n2 c2 n) (hn1 : n1 ≤ 100000) (hn2 : n2 ≤ 100000) (hle : n ≤ m) :
    Calls Tryz.prog 226 #[.slice p1 n1 c1,.slice p2 n2 c2] w fun e w' => ∃ p' n' c',e = .returned (.slice p' n' c') ∧ MagAt w' p' n' c' (m - n) ∧ Below w.heap.size w w' ∧ Fresh w p':=by
  obtain ⟨i0,hi,hz0,hz1,hz2⟩:=info_parts info_u64
  have a2:=fun W (hb:Below w.heap.size w W) i hi => mag_at p2 n2 c2 n i W (h2.below hb) (by omega) hi
  have hm:=below_len m n1 (by rw [← h1.n];omega)
  have HM:=Lib.hid hm;clear hm
  have HL:=Lib.hid hle;clear hle
  have A2:=Lib.hid a2;clear a2
  have H1:=Lib.hid h1;clear h1 h2
  go_enter Tryz.func226,Tryz.ntmps226
  go_wp2
  go_loopw [5, 6, 7, 8, 11] (fun v q _ _ kk wr => ∃ (p : Option Addr) (cc : Nat) (ws : List Nat) (k c : Nat), v = .slice p ws.length cc ∧ q = .int .u64 c ∧ kk = .int .i64 k ∧ c ≤ 1 ∧ Hid (ws.length = k) ∧ Hid (mv B9 ws + n % B9 ^ k = m % B9 ^ k + c * B9 ^ k) ∧ Hid (∀ d ∈ ws, d < B9) ∧
    k ≤ n1 ∧ Hid (OwnN .u64 w.heap.size 197 wr p cc ws) ∧ Below w.heap.size w wr) (fun _ _ _ _ kk _ => n1 + 1 - (intOf kk).toNat)
  case atStart =>
    exact ⟨none,0,[],0,0,rfl,rfl,rfl,by omega,rfl,(show _ = _ by simp [mv,Nat.mod_one]),(show ∀ d ∈ _,_ by simp),by omega,OwnN.nil _ _ _ _,Below.refl _ _⟩
  case round =>
    obtain ⟨p,cc,ws,k,c,rfl,rfl,rfl,hc,HK,HV,HD,hkm,HO,hbr⟩:=hrel
    by_cases hlt:k < n1
    · obtain ⟨b,o,rfl,hb,hcs⟩:=H1.out.cells (by omega)
      have hcx:wr.cell? ⟨b,o + k,none⟩ = some (.int .u64 (wd m k:Nat)):=(hbr.cell (p:=⟨b,o + k,none⟩) hb).trans (hcs k hlt)
      clear hcs
      have e2:=fun W hb => A2.out W hb k (by omega)
      have hx1:=wd_lt m k
      have hy1:=wd_lt n k
      have hstep:=less_step B9 k m n c (mv B9 ws) B9_pos hc HV.out
      change _ + _ * ((wd m k + (1000000000 - wd n k - c)) % 1000000000) + _ = _ + (1 - (wd m k + (1000000000 - wd n k - c)) / 1000000000) * _ at hstep
      generalize wd m k = x at *
      generalize wd n k = y at *
      obtain ⟨z,hz⟩:∃ z,z = x + (1000000000 - y - c):=⟨_,rfl⟩
      rw [← hz] at hstep
      have hq1:(z:Int) = x + (1000000000 - y - c):=by omega
      have hq2:z < 2000000000:=by omega
      have HS2:Hid (mv B9 (ws ++ [z % 1000000000]) + n % B9 ^ (k + 1) = m % B9 ^ (k + 1) + (1 - z / 1000000000) * B9 ^ (k + 1)):=by
        show _ = _
        rw [mv_snoc,HK.out];exact hstep
      clear hstep
      have HD2:Hid (∀ d ∈ ws ++ [z % 1000000000],d < B9):=by
        intro d hd
        rcases List.mem_append.1 hd with h | h
        · exact HD.out d h
        · simp at h;rw [h];exact Nat.mod_lt _ (by omega)
      have HZ:=Lib.hid hq1;clear hq1 hz
      have hO:=HO.out
      have hbs:=hbr.size
      have hwl:ws.length < 1000000000:=by have:=HK.out;omega
      go_wp2_with fail
      refine (e2 _ hbr).mono ?_;rintro e w' ⟨rfl,rfl⟩
      go_wp2_with (at_builtin;refine wpList_appN rfl _ _ 243 rfl .u64 w.heap.size 197 i0 (.int .u64 0) 8 Tryz.underlying243 hi hz0 hz1 hz2 rfl (by decide) p cc ws _ (z % 1000000000) _ (by have:=HZ.out;omega) rfl hO rfl hwl hbs ?_;rintro p1 cc1 w3 hO1 hb1)
      go_roundw
      case rel => exact ⟨p1,cc1,ws ++ [z % 1000000000],k + 1,1 - z / 1000000000,by simp,val_int (by have:=HZ.out;omega),by go_num,by omega,(show _ = _ by simp [HK.out]),HS2,HD2,by omega,hO1,hbr.trans hb1⟩
      case measure => simp [intOf];omega
    · obtain rfl:k = n1:=by omega
      have hend:=less_end B9 k m n c _ HV.out HM.out HL.out (by have:=mv_lt B9 ws HD.out;rw [HK.out] at this;exact this)
      have HE:=Lib.hid hend;clear hend
      have hcut:=fun W h => cut_more p cc ws W h HD.out (by have:=HK.out;omega)
      rw [HE.out] at hcut
      have HC:=Lib.hid hcut;clear hcut
      go_wp2_with fail
      refine (HC.out _ (OwnN.nats HO.out)).mono ?_
      rintro e w4 ⟨p',n',c',rfl,hM,hb4,hpp⟩
      have HPP:=Lib.hid hpp;clear hpp
      have HM:=Lib.hid hM;clear hM
      go_wp2_with fail
      go_ret
      exact ⟨p',n',c',rfl,HM.out,bch' hbr hb4,own_fresh HO.out HPP.out⟩
theorem mag_less (p1 p2 : Option Addr) (n1 c1 n2 c2 m n : Nat) (w : World) (h1 : MagAt w p1 n1 c1 m) (h2 : MagAt w p2 n2 c2 n) (hn1 : n1 ≤ 100000) (hn2 : n2 ≤ 100000) (hle : n ≤ m) :
    Calls Tryz.prog 226 #[.slice p1 n1 c1,.slice p2 n2 c2] w fun e w' => ∃ p' n' c',e = .returned (.slice p' n' c') ∧ MagAt w' p' n' c' (m - n) ∧ Below w.heap.size w w' :=
  (mag_less_more p1 p2 n1 c1 n2 c2 m n w h1 h2 hn1 hn2 hle).mono fun e w' ⟨p',n',c',h1,h2,h3,_⟩ => ⟨p',n',c',h1,h2,h3⟩
end Go.Proofs.YtbeojahilbglcaaGreatDoor
namespace Go.Proofs.YtbeojahilbglcaaGreatDoor
open Go.RowKit Go.Shelf Lum
attribute [local go_sem] bs_get bs_extract_end bs_extract_from bs_extract bs_append
theorem mag_times (p1 p2 : Option Addr) (n1 c1 n2 c2 m n : Nat) (w : World) (h1 : MagAt w p1 n1 c1 m) (h2 : MagAt w p2 n2 c2 n) (hn1 : n1 ≤ 100000) (hn2 : n2 ≤ 100000) :
    Calls Tryz.prog 229 #[.slice p1 n1 c1,.slice p2 n2 c2] w fun e w' => ∃ p' n' c',e = .returned (.slice p' n' c') ∧ MagAt w' p' n' c' (m * n) ∧ Below w.heap.size w w':=by
  obtain ⟨i0,hi,hz0,hz1,hz2⟩:=info_parts info_u64
  have a2:=fun W (hb:Below w.heap.size w W) i hi => mag_at p2 n2 c2 n i W (h2.below hb) (by omega) hi
  have hm:=below_len m n1 (by rw [← h1.n];omega)
  have HM:=Lib.hid hm;clear hm
  have hn:=below_len n n2 (by rw [← h2.n];omega)
  have HN:=Lib.hid hn;clear hn
  have A2:=Lib.hid a2;clear a2
  have H1:=Lib.hid h1;clear h1 h2
  go_enter Tryz.func229,Tryz.ntmps229
  go_wp2_with (at_make;refine wpList_makeN _ rfl _ _ 243 rfl .u64 w.heap.size 197 i0 Tryz.underlying243 hi hz0 hz1 (by rw [hz2];decide) .i64 .i64 _ _ (n1 + n2) rfl rfl (by omega) (by omega) (by omega) (Nat.le_refl _) ?_;rintro w3 hr3 hb3 hs3)
  have HR3:=Lib.hid hr3;clear hr3
  go_loopw [6, 7, 8, 9, 18, 26] (fun _ _ _ _ q _ wr => ∃ (ws : List Nat) (i : Nat), q = .int .i64 i ∧ i ≤ n1 ∧ Hid (ws.length = n1 + n2) ∧ Hid (mv B9 ws = m % B9 ^ i * n) ∧ Hid (∀ d ∈ ws, d < B9) ∧
    Hid (RowN .u64 197 wr w.heap.size ws) ∧ Below w.heap.size w wr) (fun _ _ _ _ q _ _ => n1 - (intOf q).toNat)
  case atStart =>
    exact ⟨List.replicate (n1 + n2) 0,0,rfl,by omega,(show _ = _ by simp),(show _ = _ by simp [mv_zeros,Nat.mod_one]),(show ∀ d ∈ _,_ by simp [B9_pos]),HR3,hb3⟩
  case round =>
    obtain ⟨ws,i,rfl,hil,HL,HV,HD,HR,hbr⟩:=hrel
    by_cases h1:i < n1
    · obtain ⟨b1,o1,rfl,hs1,hcs⟩:=H1.out.cells (by omega)
      have hcv:=hcs i h1
      clear hcs
      have hv1:=wd_lt m i
      have hT:=mod_mul_lt B9 (i + 1) m n n2 HN.out B9_pos
      have HT:=Lib.hid hT;clear hT
      have hsum:=row_sum B9 i m n
      change _ + wd m i * n * _ = _ at hsum
      have hvx:wd m i = m / B9 ^ i % B9:=rfl
      generalize wd m i = v at *
      have HVX:=Lib.hid hvx;clear hvx
      have HSUM:=Lib.hid hsum;clear hsum
      have hcv2:wr.cell? ⟨b1,o1 + i,none⟩ = some (.int .u64 (v:Nat)):=(hbr.cell (p:=⟨b1,o1 + i,none⟩) hs1).trans hcv
      go_wp2
      clear hcv2
      obtain ⟨wo,hwo⟩:∃ wo:World,wo = wr:=⟨_,rfl⟩
      rw [← hwo] at HR hbr ⊢
      clear hwo
      go_loopw [8, 9, 26] (fun cs _ q wi => ∃ (zs : List Nat) (k c : Nat), cs = .int .u64 c ∧ q = .int .i64 k ∧ k ≤ n2 + 1 ∧ c < 1000000000 ∧ Hid (zs.length = n1 + n2) ∧
        Hid (mv B9 zs + c * B9 ^ (i + k) = mv B9 ws + v * (n % B9 ^ k) * B9 ^ i) ∧ Hid (∀ d ∈ zs,d < B9) ∧ Hid (RowN .u64 197 wi w.heap.size zs) ∧ Below w.heap.size w wi) (fun _ _ q _ => n2 + 2 - (intOf q).toNat)
      case atStart => exact ⟨ws,0,0,rfl,rfl,by omega,by omega,HL,(show _ = _ by simp [Nat.mod_one]),HD,HR,hbr⟩
      case round =>
        obtain ⟨zs,k,c,rfl,rfl,hk,hc,HLz,HVz,HDz,HRz,hbz⟩:=hrel
        by_cases h2:k < n2 + 1
        · have hik:i + k < zs.length:=by have:=HLz.out;omega
          obtain ⟨o,hoe⟩:∃ o,o = mv B9 zs / B9 ^ (i + k) % B9:=⟨_,rfl⟩
          have ho1:o < 1000000000:=by rw [hoe];exact Nat.mod_lt _ B9_pos
          have hco:wr.cell? ⟨w.heap.size,i + k,none⟩ = some (.int .u64 (o:Nat)):=by
            rw [HRz.out.cell (i + k) hik,word_at B9 B9_pos zs HDz.out,← hoe]
          have hfr:=HRz.out.frozen (i + k)
          have hos:zs.getD (i + k) 0 = o:=by
            rw [List.getD_eq_getElem?_getD,word_at B9 B9_pos zs HDz.out,← hoe]
          have e2:=fun j => (A2.out (wr.drewN j) (below_drewN hbz _) k (by omega)).mono (fun e w' h => (⟨h.1,h.2.symm⟩:_ ∧ w' = wr.drewN j))
          have hx1:=wd_lt n k
          have hrow:=fun V' hV' => row_step B9 i k v n c (mv B9 zs) (mv B9 ws) o HVz.out V' hV'
          change ∀ V':Nat,V' + _ = mv B9 zs + _ * ((c + (o + v * wd n k)) % B9) → V' + (c + (o + v * wd n k)) / B9 * _ = _ at hrow
          generalize wd n k = x at *
          have hrc:=row_carry B9 c o v x B9_pos hc ho1 hv1 hx1
          obtain ⟨t,ht⟩:∃ t,t = v * x:=⟨_,rfl⟩
          rw [← ht] at hrc
          have hti:(v:Int) * (x:Int) = (t:Int):=by rw [ht];simp
          have hrow2:=hrow (mv B9 (zs.set (i + k) ((c + (o + t)) % B9))) (by
            have:=mv_set B9 zs (i + k) ((c + (o + t)) % B9) hik
            rw [hos] at this
            rw [← ht];exact this)
          rw [← ht] at hrow2
          clear hrow
          have HROW:=Lib.hid hrow2;clear hrow2
          have hd2:=set_lt B9 zs (i + k) ((c + (o + t)) % B9) HDz.out (Nat.mod_lt _ B9_pos)
          have HD2:=Lib.hid hd2;clear hd2
          have HOE:=Lib.hid hoe;clear hoe
          have HTE:=Lib.hid ht;clear ht
          have HOS:=Lib.hid hos;clear hos
          obtain ⟨hrc1,hrc2⟩:=hrc
          have hrc3:c + (o + t) < 1000000000000000000:=hrc1
          have hrc4:(c + (o + t)) / 1000000000 < 1000000000:=hrc2
          clear hrc1 hrc2
          have hne:((i:Int) + (k:Int) == (n1:Int) + (n2:Int)) = false:=by
            rw [beq_eq_false_iff_ne];have:=HLz.out;omega
          have hw0:IntKind.i64.wrap ((i:Int) + (k:Int)) = (i:Int) + (k:Int):=IntWalk.i64_in _ (by omega)
          have hw1:IntKind.u64.wrap (t:Int) = (t:Int):=IntWalk.u64_in _ (by omega)
          have hw3:IntKind.u64.wrap ((o:Int) + (t:Int)) = (o:Int) + (t:Int):=IntWalk.u64_in _ (by omega)
          have hw2:IntKind.u64.wrap ((c:Int) + ((o:Int) + (t:Int))) = (c:Int) + ((o:Int) + (t:Int)):=IntWalk.u64_in _ (by omega)
          have j1:(0:Int) ≤ (i:Int) + (k:Int):=by omega
          have j2:(i:Int) + (k:Int) < (n1:Int) + (n2:Int):=by have:=HLz.out;omega
          have j3:((i:Int) + (k:Int)).toNat = i + k:=by omega
          go_wp2
          go_quiet ((go_at_call 253;exact Calls.quiet_of_same (e2 _)))
          clear hw0 hw1 hw2 hw3 hne
          go_wp2
          go_roundw
          case rel =>
            refine ⟨zs.set (i + k) ((c + (o + t)) % B9),k + 1,(c + (o + t)) / 1000000000,val_int (by omega),by go_num,by omega,hrc4,(show _ = _ by rw [List.length_set];exact HLz.out),HROW.out,HD2.out,?_,?_⟩
            · have hset:=(HRz.out.drewN nq).set (i + k) ((c + (o + t)) % B9)
              rw [show (((c + (o + t)) % B9:Nat):Int) = ((c:Int) + (o + t)) % 1000000000 by rw [B9_num];omega] at hset
              exact hset
            · exact (below_drewN hbz _).setCell (p:=⟨w.heap.size,i + k,none⟩) (Nat.le_refl _) _
          case measure => simp [intOf];omega
        · obtain rfl:k = n2 + 1:=by omega
          have hend:=row_end B9 i n2 m n c _ (Nat.lt_of_lt_of_le HN.out (Nat.pow_le_pow_right B9_pos (by omega))) (by
            refine Nat.lt_of_lt_of_le HT.out (Nat.pow_le_pow_right B9_pos (by omega))) (by
            have h3:=HVz.out
            rw [HV.out,HVX.out] at h3
            exact h3)
          have HVN:=Lib.hid hend.1;clear hend
          go_wp2
          go_roundw
          case rel => exact ⟨zs,i + 1,by go_num,by omega,HLz,HVN,HDz,HRz,hbz⟩
          case measure => simp [intOf];omega
    · obtain rfl:i = n1:=by omega
      have hend:=HV.out
      rw [mod_all B9 m _ HM.out] at hend
      have hN:=HR.out.nats (by have:=HL.out;unfold maxLen;omega)
      have hcut:=fun W h => cut_any (some ⟨w.heap.size,0,none⟩) ws.length ws W h HD.out (by have:=HL.out;omega)
      rw [hend] at hcut
      rw [HL.out] at hcut hN
      have HC:=Lib.hid hcut;clear hcut hend
      have HNN:=Lib.hid hN;clear hN
      go_wp2_with fail
      refine (HC.out _ HNN.out).mono ?_
      rintro e w4 ⟨p',n',c',rfl,hM,hb4⟩
      have HMM:=Lib.hid hM;clear hM
      go_wp2_with fail
      go_ret
      exact ⟨p',n',c',rfl,HMM.out,bch' hbr hb4⟩
end Go.Proofs.YtbeojahilbglcaaGreatDoor
namespace Lum
open Go Go.RowKit Go.Shelf
def SgnOf (z:Int) (m n:Nat):Prop:=(m < n ∧ z < 0) ∨ (m = n ∧ z = 0) ∨ (n < m ∧ 0 < z)
theorem wd_high (m n j:Nat) (h:∀ i,j ≤ i → wd m i = wd n i):m / B9 ^ j = n / B9 ^ j:=by
  obtain ⟨L,hm,hn⟩:∃ L,m < B9 ^ L ∧ n < B9 ^ L:=by
    refine ⟨max (magL m).length (magL n).length,?_,?_⟩
    · exact below_len _ _ (Nat.le_max_left _ _)
    · exact below_len _ _ (Nat.le_max_right _ _)
  have main:∀ d j,L - j = d → (∀ i,j ≤ i → wd m i = wd n i) → m / B9 ^ j = n / B9 ^ j:=by
    intro d
    induction d with
    | zero =>
      intro j hj _
      rw [Nat.div_eq_of_lt (Nat.lt_of_lt_of_le hm (Nat.pow_le_pow_right B9_pos (by omega))),Nat.div_eq_of_lt (Nat.lt_of_lt_of_le hn (Nat.pow_le_pow_right B9_pos (by omega)))]
    | succ d ih =>
      intro j hj hh
      have h1:=ih (j + 1) (by omega) (fun i hi => hh i (by omega))
      have h2:=hh j (Nat.le_refl _)
      unfold wd at h2
      rw [Nat.pow_succ,← Nat.div_div_eq_div_mul,← Nat.div_div_eq_div_mul] at h1
      rw [← Nat.div_add_mod (m / B9 ^ j) B9,← Nat.div_add_mod (n / B9 ^ j) B9,h1,h2]
  exact main _ j rfl h
theorem wd_all (m n:Nat) (h:∀ i,wd m i = wd n i):m = n:=by
  have:=wd_high m n 0 (fun i _ => h i)
  simpa using this
theorem wd_cmp (m n j:Nat) (h:∀ i,j < i → wd m i = wd n i) (hj:wd m j < wd n j):m < n:=by
  have h1:=wd_high m n (j + 1) (fun i hi => h i (by omega))
  rw [Nat.pow_succ,← Nat.div_div_eq_div_mul,← Nat.div_div_eq_div_mul] at h1
  unfold wd at hj
  have h2:m / B9 ^ j < n / B9 ^ j:=by
    have e1:=Nat.div_add_mod (m / B9 ^ j) B9
    have e2:=Nat.div_add_mod (n / B9 ^ j) B9
    rw [h1] at e1
    omega
  rcases Nat.lt_or_ge m n with h3 | h3
  · exact h3
  · have:=Nat.div_le_div_right (c:=B9 ^ j) h3;omega
theorem len_cmp (m n:Nat) (h:(magL m).length < (magL n).length):m < n:=by
  rcases Nat.lt_or_ge m n with h1 | h1
  · exact h1
  · have:=magL_mono h1;omega
theorem wAt_magL (m:Nat) (i:Fin (magL m).length):wAt (magL m) i = wd m i.1:=by unfold wAt;rw [magL_get]
end Lum
namespace Go.Proofs.YtbeojahilbglcaaGreatDoor
open Go.RowKit Go.Shelf Lum
attribute [local go_sem] Oper.semAt_some
theorem mag_compare (p1 p2 : Option Addr) (n1 c1 n2 c2 m n : Nat) (w : World) (h1 : MagAt w p1 n1 c1 m) (h2 : MagAt w p2 n2 c2 n) (hn1 : n1 ≤ 100000) (hn2 : n2 ≤ 100000) :
    Calls Tryz.prog 225 #[.slice p1 n1 c1,.slice p2 n2 c2] w fun e W' => ∃ z:Int,e = .returned (.int .i64 z) ∧ SgnOf z m n ∧ Below w.heap.size w W':=by
  refine (callsIn_wide (n:=5)).1 ?_
  refine callsIn_of_wp_marks Tryz.func225 rfl trivial ?_ rfl
  simp only [Tryz.ntmps225,List.size_toArray,List.length_cons,List.length_nil,Nat.reduceAdd,Nat.reduceSub,Array.replicate_succ,Array.replicate_zero,List.push_toArray,List.append_toArray,List.nil_append,List.cons_append]
  by_cases hne:n1 = n2
  · subst hne
    obtain rfl:n1 = (magL m).length:=h1.n
    have hln:=h2.n
    have hlen:(magL m).length ≤ 1000000000:=by omega
    have H1:=Lib.hid h1;clear h1
    have H2:=Lib.hid h2;clear h2
    have HLN:=Lib.hid hln;clear hln
    gi_wp2_with (refine ⟨trivial,?_⟩;gi_at_call 232;refine (down_in Fence.wide 4 trivial rfl _ _ _ _).mono ?_;rintro e w' ⟨rfl,rfl⟩)
    have cM:=Boxed.new w 243 (.slice p2 (magL m).length c2)
    have cR:=Boxed.new (w.alloc (.cells #[.slice p2 (magL m).length c2] 243)) 3 (.int .i64 0)
    have cN:=Boxed.new ((w.alloc (.cells #[.slice p2 (magL m).length c2] 243)).alloc (.cells #[.int .i64 0] 3)) 243 (.slice p1 (magL m).length c1)
    rw [World.size_alloc] at cR cN
    rw [World.size_alloc] at cN
    have hB0:Below w.heap.size w (((w.alloc (.cells #[.slice p2 (magL m).length c2] 243)).alloc (.cells #[.int .i64 0] 3)).alloc (.cells #[.slice p1 (magL m).length c1] 243)):=(((Below.refl _ w).alloc (Nat.le_refl _) _).alloc (by simp) _).alloc (by simp;omega) _
    refine wpIn_rangeFunc_ownG (n := 5) rfl (by omega) (Kp := KeepB w.heap.size (w.heap.size + 1 + 1)) (gf := 254) (lb := #[.pointer (some ⟨w.heap.size + 1 + 1, 0, none⟩)]) rfl trivial (enters_of Tryz.func254 (by kernel_rfl) rfl)
      (down_stops Fence.wide 4 trivial rfl (by omega) (w.heap.size + 1 + 1) w.heap.size _ (magL m) hlen _ (by simp;omega) cN w H1.out.1 rfl hB0) KeepB.t (KeepB.b (by simp;omega) (by simp)) (Below.refl _ _) (fun _ => rfl)
      (fun pre W => ((∀ i ∈ pre,wd m i.1 = wd n i.1) ∧ Boxed W w.heap.size 243 (.slice p2 (magL m).length c2) ∧ Boxed W (w.heap.size + 1) 3 (.int .i64 0)) ∧ Below w.heap.size w W)
      (fun cd pre W => (cd = .ret ∧ ∃ ini last,pre = ini ++ [last] ∧ (∀ i ∈ ini,wd m i.1 = wd n i.1) ∧ ∃ z:Int,((wd m last.1 < wd n last.1 ∧ z = -1) ∨ (wd n last.1 < wd m last.1 ∧ z = 1)) ∧ Boxed W (w.heap.size + 1) 3 (.int .i64 z)) ∧ Below w.heap.size w W)
      (OwnFrom.and (Own.from (fun s A B row hs hg hr => ⟨hs.1,boxed_own _ _ (fun _:Unit => _) () A B row hs.2.1 hg hr,boxed_own _ _ (fun _:Unit => _) () A B row hs.2.2 hg hr⟩) _) (ownFrom_below (Nat.le_refl _) (by simp;omega)))
      (fun cd => OwnFrom.and (Own.from (fun s A B row hs hg hr => by obtain ⟨hc,ini,last,e1,e2,z,e3,e4⟩:=hs;exact ⟨hc,ini,last,e1,e2,z,e3,boxed_own _ _ (fun _:Unit => _) () A B row e4 hg hr⟩) _) (ownFrom_below (Nat.le_refl _) (by simp;omega)))
      ⟨⟨by simp,(cM.alloc _).alloc _,cR.alloc _⟩,hB0⟩
      (fun x => { tmps := #[.slice p1 (magL m).length c1, .slice p2 (magL m).length c2, undef, .pointer (some ⟨w.heap.size, 0, none⟩), .pointer (some ⟨w.heap.size + 1, 0, none⟩), .int .i64 (x.1 : Int), .int .u64 (wAt (magL m) x : Int),
        .slice p1 (magL m).length c1,.int .i64 ((magL m).length:Int),.slice p2 (magL m).length c2,.int .i64 ((magL m).length:Int),.bool false,undef,undef,undef,undef,undef,.slice p1 (magL m).length c1,.func (.func 254) #[] #[.pointer (some ⟨w.heap.size + 1 + 1,0,none⟩)],.int .i64 (x.1:Int),.int .u64 (wAt (magL m) x:Int),
        undef,undef,undef,undef,undef,undef,undef,undef,undef,undef,undef,undef,undef,undef],defers:=[] }) ?assign ?body ?done ?stop
    case assign =>
      intro l x W K hK
      gi_wp2
      exact hK
    case body =>
      rintro l pre x W ⟨⟨hp,bM,bR⟩,hB⟩ _
      have hMc:=bM.cell
      have hRc:=bR.cell
      have hRf:=bR.frozen
      have hx:=x.2
      obtain ⟨b,o,rfl,hb,hcs⟩:=H2.out.cells (by omega)
      have hcx:W.cell? ⟨b,o + x.1,none⟩ = some (.int .u64 (wd n x.1:Nat)):=(hB.cell (p:=⟨b,o + x.1,none⟩) hb).trans (hcs x.1 hx)
      clear hcs
      have HP:=Lib.hid hp;clear hp
      rw [wAt_magL]
      clear cM cR cN
      by_cases t1:wd m x.1 < wd n x.1
      · have T1:=Lib.hid t1
        generalize wd m x.1 = u at t1 ⊢
        generalize wd n x.1 = v at t1 hcx ⊢
        gi_wp2
        exact ⟨(KeepsOthers.setCell _ _ _).from _,⟨rfl,pre,x,rfl,HP.out,-1,.inl ⟨T1.out,rfl⟩,bR.set _⟩,hB.setCell (p:=⟨w.heap.size + 1,0,none⟩) (by simp) _⟩
      · by_cases t2:wd n x.1 < wd m x.1
        · have T1:=Lib.hid t2
          generalize wd m x.1 = u at t1 t2 ⊢
          generalize wd n x.1 = v at t1 t2 hcx ⊢
          gi_wp2
          exact ⟨(KeepsOthers.setCell _ _ _).from _,⟨rfl,pre,x,rfl,HP.out,1,.inr ⟨T1.out,rfl⟩,bR.set _⟩,hB.setCell (p:=⟨w.heap.size + 1,0,none⟩) (by simp) _⟩
        · have T1:Hid (wd m x.1 = wd n x.1):=by show _ = _;omega
          generalize wd m x.1 = u at t1 t2 ⊢
          generalize wd n x.1 = v at t1 t2 hcx ⊢
          gi_wp2
          exact ⟨KeepsFrom.refl _ _,KeepB.refl _ _ _,⟨fun i hi => (List.mem_append.1 hi).elim (HP.out i) (fun e => by simp at e;subst e;exact T1.out),bM,bR⟩,hB⟩
    case done =>
      rintro D ys W hD rfl ⟨⟨hne,bM,bR⟩,hB⟩ hK
      have hcr:=bR.cell
      have hfr:=bR.frozen
      have HN:=Lib.hid hne;clear hne
      gi_wp2
      have hK':=(KeepsOthers.setCell W ⟨w.heap.size + 1,0,none⟩ (.int .i64 0)).same D _ hK rfl
      refine ⟨by simp,.inl ⟨_,_,rfl,run_takeDeferred hK',?_⟩⟩
      have hc5:=cell_kept (bR.set (.int .i64 0)).cell (grownBy_putObj' _ D (.deferred none)) (fun r e => by cases e;exact ⟨_,hK',rfl⟩)
      refine ⟨.int .i64 0,?_,0,rfl,?_,(hB.setCell (p:=⟨w.heap.size + 1,0,none⟩) (by simp) _).trans (belowK_b (w:=w) (Nat.le_refl _) _ D _ _ (by simp at hD;omega) hK' rfl rfl)⟩
      · simp [results,Tryz.f225,go_sem,hc5]
      · refine .inr (.inl ⟨wd_all m n (fun i => ?_),rfl⟩)
        by_cases hi:i < (magL m).length
        · exact HN.out ⟨i,hi⟩ ((mem_dnF (Nat.le_refl _) _).2 (by omega))
        · rw [wd_beyond m i (by omega),wd_beyond n i (by rw [← HLN.out];omega)]
    case stop =>
      rintro D cd pre W hD ⟨k,hk,rfl⟩ ⟨⟨rfl,ini,last,e1,e2,z,e3,bR⟩,hB⟩ hK
      have hcr:=bR.cell
      have HE1:=Lib.hid e1
      have HE2:=Lib.hid e2
      have HE3:=Lib.hid e3
      clear e1 e2 e3
      gi_wp2
      refine ⟨by simp,.inl ⟨_,_,rfl,run_takeDeferred hK,?_⟩⟩
      have hc5:=cell_kept hcr (grownBy_putObj' _ D (.deferred none)) (fun r e => by cases e;exact ⟨_,hK,rfl⟩)
      have hBW:=hB.trans (belowK_b (w:=w) (Nat.le_refl _) W D _ (.deferred none) (by simp at hD;omega) hK rfl rfl)
      refine ⟨.int .i64 z,?_,z,rfl,?_,hBW⟩
      · simp [results,Tryz.f225,go_sem,hc5]
      · obtain ⟨k',rfl⟩:∃ k',k = k' + 1:=by
          cases k with
          | zero => have:=HE1.out;simp [dnF] at this
          | succ k' => exact ⟨k',rfl⟩
        have e1:=HE1.out
        rw [dnF_succ _ _ (by omega)] at e1
        obtain ⟨rfl,e5⟩:=List.append_inj' e1 rfl
        have hlast:last = ⟨(magL m).length - 1 - k',by omega⟩:=by simpa using e5.symm
        have hl1:last.1 = (magL m).length - 1 - k':=by rw [hlast]
        have hh:∀ i,last.1 < i → wd m i = wd n i:=fun i hi => by
          by_cases h:i < (magL m).length
          · exact HE2.out ⟨i,h⟩ ((mem_dnF (by omega) _).2 (by simp;omega))
          · rw [wd_beyond m i (by omega),wd_beyond n i (by rw [← HLN.out];omega)]
        rcases HE3.out with ⟨h1,rfl⟩ | ⟨h1,rfl⟩
        · exact .inl ⟨wd_cmp m n _ hh h1,by omega⟩
        · exact .inr (.inr ⟨wd_cmp n m _ (fun i hi => (hh i hi).symm) h1,by omega⟩)
  · have hne':((n1:Int) != (n2:Int)) = true:=by rw [bne_iff_ne];omega
    have hz:SgnOf ((n1:Int) - n2) m n:=by
      have e1:=h1.n
      have e2:=h2.n
      rcases Nat.lt_or_ge n1 n2 with h | h
      · exact .inl ⟨len_cmp m n (by omega),by omega⟩
      · exact .inr (.inr ⟨len_cmp n m (by omega),by omega⟩)
    have HZ:=Lib.hid hz;clear hz h1 h2 hne
    gi_wp2
    refine ⟨.int .i64 ((n1:Int) - n2),?_,_,rfl,HZ.out,((Below.refl _ w).alloc (Nat.le_refl _) _).alloc (by simp) _⟩
    simp [results,Tryz.f225,go_sem]
end Go.Proofs.YtbeojahilbglcaaGreatDoor

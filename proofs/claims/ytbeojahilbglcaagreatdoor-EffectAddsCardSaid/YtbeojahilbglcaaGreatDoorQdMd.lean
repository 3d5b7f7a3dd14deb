/- A part of the proof of EffectAdds: contracts of functions, and plain facts. -/
import Derived.Test.YtbeojahilbglcaaGreatDoorQdMc
import Derived.Test.YtbeojahilbglcaaGreatDoorQdMf
set_option maxHeartbeats 4000000
set_option maxRecDepth 20000
set_option linter.unusedVariables false
set_option linter.unusedSimpArgs false
namespace Lum
open Go.Lib (decDigits itoa)
def seg (l:Txt) (a m:Nat):Nat:=natOf ((l.drop a).take (m - a))
theorem seg_zero (l:Txt) (a:Nat):seg l a a = 0:=by simp [seg,natOf]
theorem seg_succ (l:Txt) (a m:Nat) (h:a ≤ m) (hm:m < l.length):seg l a (m + 1) = 10 * seg l a m + (l[m].toNat - 48):=by
  unfold seg
  rw [show m + 1 - a = (m - a) + 1 by omega,List.take_succ_eq_append_getElem (by simp;omega),natOf_snoc]
  congr 3;rw [List.getElem_drop];congr 2;omega
theorem seg_lt (l:Txt) (ha:l.all isDig = true) (a m:Nat) (h:m ≤ a + 4):seg l a m < 10000:=by
  have h1:((l.drop a).take (m - a)).all isDig = true:=by
    rw [List.all_eq_true] at ha ⊢
    exact fun c hc => ha c (List.mem_of_mem_drop (List.mem_of_mem_take hc))
  have:=natOf_lt _ h1
  have h2:((l.drop a).take (m - a)).length ≤ 4:=by simp;omega
  exact Nat.lt_of_lt_of_le this (Nat.le_trans (Nat.pow_le_pow_right (by omega) h2) (by decide))
theorem seg_take (l:Txt) (a m:Nat) (h:a ≤ m) (hm:m ≤ l.length):natOf (l.take m) = natOf (l.take a) * 10 ^ (m - a) + seg l a m:=by
  have e:l.take m = l.take a ++ (l.drop a).take (m - a):=by
    rw [← List.take_append_drop a (l.take m),List.take_take,Nat.min_eq_left h,List.drop_take]
  rw [e,natOf_append,seg]
  congr 3;simp;omega
def Worded (b:Nat) (n:Nat) (l:Txt) (q:Int) (ws:List Nat):Prop:=mv b ws + b ^ ws.length * natOf (l.take q.toNat) = n ∧ ∀ d ∈ ws,d < b
theorem worded_step (b s n : Nat) (l : Txt) (q : Int) (ws : List Nat) (hb : b = 10 ^ s) (hs : 1 ≤ s) (h : Worded b n l q ws) (hq : 0 < q) (hl : q ≤ l.length) (hd : seg l (q.toNat - s) q.toNat < b) :
    Worded b n l (q - s) (ws ++ [seg l (q.toNat - s) q.toNat]):=by
  obtain ⟨h1,h2⟩:=h
  refine ⟨?_,fun d hm => ?_⟩
  · rw [mv_snoc,List.length_append,List.length_singleton,Nat.pow_succ,← h1]
    have h3:=seg_take l (q.toNat - s) q.toNat (by omega) (by omega)
    rcases Int.lt_or_le q s with h4 | h4
    · have e1:(q - s).toNat = 0:=by omega
      have e2:q.toNat - s = 0:=by omega
      rw [e1];rw [e2] at h3 ⊢
      rw [h3];simp [natOf]
    · have e1:(q - s).toNat = q.toNat - s:=by omega
      rw [e1,h3,show q.toNat - (q.toNat - s) = s by omega,← hb]
      grind
  · rcases List.mem_append.1 hm with h | h
    · exact h2 d h
    · simp at h;subst h;exact hd
end Lum
namespace Go.Proofs.YtbeojahilbglcaaGreatDoor
open Go.RowKit Lum
open Go.Lib (decDigits itoa)
attribute [local go_sem] bs_get bs_extract_end bs_extract_from bs_extract bs_append
theorem info_int:(Tryz.prog.info? 3).map (fun i => (i.zero,i.size,i.bytes)) = some (some (.int .i64 0),1,8):=by kernel_rfl
theorem info_u8:(Tryz.prog.info? 5).map (fun i => (i.zero,i.size,i.bytes)) = some (some (.int .u8 0),1,1):=by kernel_rfl
theorem info_u64:(Tryz.prog.info? 197).map (fun i => (i.zero,i.size,i.bytes)) = some (some (.int .u64 0),1,8):=by kernel_rfl
theorem r1_words (l : Txt) (w : World) (hd : l.all isDig = true) (hne : l ≠ []) (hl : l.length ≤ 100000) :
    Calls Tryz.prog 158 #[.string ⟨l.toArray⟩] w fun e w' => ∃ b o c ws, e = .returned (.slice (some ⟨b, o, none⟩) ws.length c) ∧
      mv 10000 ws = natOf l ∧ (∀ d ∈ ws,d < 10000) ∧ 0 < ws.length ∧ ws.length ≤ l.length ∧ NatsAt .i64 w' (.slice (some ⟨b,o,none⟩) ws.length c) ws ∧ Below w.heap.size w w':=by
  have hl0:0 < l.length:=by cases l with
    | nil => exact absurd rfl hne
    | cons => simp
  clear hne
  obtain ⟨i0,hi,hz0,hz1,hz2⟩:=info_parts info_int
  have HD:=Lib.hid hd;clear hd
  go_enter Tryz.func158,Tryz.ntmps158
  go_wp2
  go_loopw [3, 4, 5, 6] (fun v q _ _ wr => ∃ (p : Option Addr) (c : Nat) (ws : List Nat) (i : Int), v = .slice p ws.length c ∧ q = .int .i64 i ∧ i ≤ l.length ∧ -3 ≤ i ∧ Hid (Worded 10000 (natOf l) l i ws) ∧
    Hid (4 * (ws.length:Int) + i = l.length) ∧ Hid (OwnN .i64 w.heap.size 3 wr p c ws) ∧ Below w.heap.size w wr) (fun _ q _ _ _ => (intOf q).toNat)
  case atStart =>
    exact ⟨none,0,[],l.length,rfl,rfl,by omega,by omega,⟨by simp [mv],by simp⟩,(show _ = _ by simp),OwnN.nil _ _ _ _,Below.refl _ _⟩
  case round =>
    obtain ⟨p,c,ws,i,rfl,rfl,hi1,hi2,HW,HS,HO,hb⟩:=hrel
    by_cases hq:0 < i
    · obtain ⟨I,rfl⟩:∃ I:Nat,i = I:=⟨i.toNat,by omega⟩
      obtain ⟨a,ha⟩:∃ a:Nat,a = I - 4:=⟨_,rfl⟩
      have a1:a ≤ I:=by omega
      have a2:I ≤ a + 4:=by omega
      have HA:=Lib.hid ha;clear ha
      by_cases hq4:(I:Int) ≤ 4
      all_goals
        go_wp2
        go_loop [5,6] (fun n k => ∃ m:Nat,a ≤ m ∧ m ≤ I ∧ k = .int .i64 m ∧ n = .int .i64 (seg l a m)) (fun _ k => I - (intOf k).toNat)
        case atStart => exact ⟨a,by omega,by omega,val_int (by have:=HA.out;omega),val_int (by rw [seg_zero];rfl)⟩
        case round =>
          obtain ⟨m,hm1,hm2,rfl,rfl⟩:=hrel
          by_cases hlt:m < I
          · have hml:m < l.length:=by omega
            have h1:=seg_succ l a m hm1 hml
            have h2:=seg_lt l HD.out a m (by omega)
            have h3:=(isDig_iff l[m]).1 (by have:=HD.out;rw [List.all_eq_true] at this;exact this _ (List.getElem_mem hml))
            have H1:=Lib.hid h1;clear h1
            go_wp2
            go_round
            case rel => exact ⟨m + 1,by omega,by omega,by go_num,val_int (by rw [H1.out];omega)⟩
            case measure => simp [intOf];omega
          · obtain rfl:m = I:=by omega
            have h2:=seg_lt l HD.out a m (by omega)
            have hstep:=worded_step 10000 4 (natOf l) l m ws (by decide) (by omega) HW.out hq hi1
            rw [Int.toNat_natCast,← HA.out] at hstep
            have hstep:=hstep h2
            obtain ⟨d,hdd⟩:∃ d,d = seg l a m:=⟨_,rfl⟩
            rw [← hdd] at h2 hstep ⊢
            clear hdd
            have HST:=Lib.hid hstep;clear hstep
            have hO:=HO.out
            have hwl:ws.length < 1000000000:=by have:=HS.out;omega
            have hbs:=hb.size
            go_wp2_with (at_builtin;refine wpList_appN rfl _ _ 25 rfl .i64 w.heap.size 3 i0 (.int .i64 0) 8 Tryz.underlying25 hi hz0 hz1 hz2 rfl (by decide) p c ws _ d _ rfl rfl hO rfl hwl hbs ?_;rintro p1 c1 w1 hO1 hb1)
            go_roundw
            case rel => exact ⟨p1,c1,ws ++ [d],m - 4,by simp,rfl,by omega,by omega,HST.out,(show _ = _ by have:=HS.out;simp;omega),hO1,hb.trans hb1⟩
            case measure => simp [intOf];omega
    · go_wp2
      go_ret
      have h1:=HW.out.1
      rw [show i.toNat = 0 by omega] at h1
      have h2:=HS.out
      obtain ⟨b,o,rfl⟩:=(OwnN.nats HO.out).some (by omega)
      refine ⟨b,o,c,ws,rfl,by simpa [natOf] using h1,HW.out.2,by omega,?_,OwnN.nats HO.out,hb⟩
      omega
end Go.Proofs.YtbeojahilbglcaaGreatDoor
namespace Lum
open Go.Lib (decDigits itoa)
def outD (V:Nat):Txt:=if V = 0 then [] else decDigits V
theorem outD_nil (V:Nat):outD V = [] ↔ V = 0:=by
  unfold outD;split
  · simp [*]
  · simp [*,dec_ne]
theorem outD_yes (V d:Nat) (hd:d < 10) (h:d ≠ 0 ∨ V ≠ 0):outD (V * 10 + d) = outD V ++ [UInt8.ofNat (48 + d)]:=by
  unfold outD
  rw [if_neg (by omega)]
  by_cases hV:V = 0
  · subst hV;rw [if_pos rfl,dec_small (by omega)];simp
  · rw [if_neg hV,dec_big (by omega)]
    congr 2
    · congr 1;omega
    · congr 3;omega
theorem outD_no (V d:Nat) (h:d = 0) (h2:V = 0):outD (V * 10 + d) = outD V:=by subst h h2;rfl
theorem outD_len (V k:Nat) (h:V < 10 ^ k) (hk:1 ≤ k):(outD V).length ≤ k:=by
  unfold outD;split
  · simp
  · exact (dec_length_lt V k hk).2 h
def Placed (T V m pl:Nat):Prop:=(pl = 0 ∧ V = T) ∨ ((pl = 1 ∨ pl = 10 ∨ pl = 100 ∨ pl = 1000) ∧ m < 10 * pl ∧ V * (10 * pl) + m = T)
theorem placed_step (T V m pl:Nat) (h:Placed T V m pl) (h0:pl ≠ 0):Placed T (V * 10 + m / pl) (m % pl) (pl / 10) ∧ m / pl < 10:=by
  rcases h with h | ⟨h1,h2,h3⟩
  · exact absurd h.1 h0
  · unfold Placed
    rcases h1 with rfl | rfl | rfl | rfl <;> omega
theorem mv_drop (b:Nat) (ws:List Nat) (j:Nat) (h:j < ws.length):mv b (ws.drop j) = ws[j]?.getD 0 + b * mv b (ws.drop (j + 1)):=by
  rw [List.drop_eq_getElem_cons h,mv];simp [h]
end Lum
namespace Go.Proofs.YtbeojahilbglcaaGreatDoor
open Go.RowKit Lum
open Go.Lib (decDigits itoa)
attribute [local go_sem] bs_get bs_extract_end bs_extract_from bs_extract bs_append
theorem r1_text (b o c : Nat) (ws : List Nat) (w : World) (h : NatsAt .i64 w (.slice (some ⟨b, o, none⟩) ws.length c) ws) (hd : ∀ d ∈ ws, d < 10000) (hl : ws.length ≤ 100000) :
    Calls Tryz.prog 159 #[.slice (some ⟨b,o,none⟩) ws.length c] w fun e w' => e = .returned (.string ⟨(decDigits (mv 10000 ws)).toArray⟩) ∧ Below w.heap.size w w':=by
  obtain ⟨i0,hi,hz0,hz1,hz2⟩:=info_parts info_u8
  obtain ⟨hbw,_,hcell⟩:=h.cell
  have HC:=Lib.hid hcell;clear hcell h
  have HD:=Lib.hid hd;clear hd
  go_enter Tryz.func159,Tryz.ntmps159
  go_wp2
  go_loopw [3, 4, 5, 6, 7] (fun v q _ _ _ wr => ∃ (p : Option Addr) (cc : Nat) (i : Int) (V : Nat), v = .slice p (outD V).length cc ∧ q = .int .i64 i ∧ i < ws.length ∧ -1 ≤ i ∧ Hid (V = mv 10000 (ws.drop (i + 1).toNat)) ∧
    Hid (OwnN .u8 w.heap.size 5 wr p cc ((outD V).map (·.toNat))) ∧ Below w.heap.size w wr) (fun _ q _ _ _ _ => (intOf q + 1).toNat)
  case atStart =>
    exact ⟨none,0,(ws.length:Int) - 1,0,rfl,rfl,by omega,by omega,(show _ = _ by rw [show ((ws.length:Int) - 1 + 1).toNat = ws.length by omega];simp [mv]),OwnN.nil _ _ _ _,Below.refl _ _⟩
  case round =>
    obtain ⟨p,cc,i,V,rfl,rfl,hi1,hi2,HV,HO,hb⟩:=hrel
    by_cases hq:0 ≤ i
    · obtain ⟨J,rfl⟩:∃ J:Nat,i = J:=⟨i.toNat,by omega⟩
      have hJ:J < ws.length:=by omega
      have hc1:=HC.out J hJ
      have hc2:wr.cell? ⟨b,o + J,none⟩ = some (.int .i64 (ws[J]?.getD 0:Nat)):=(hb.cell (p:=⟨b,o + J,none⟩) hbw).trans hc1
      clear hc1
      have hdj:ws[J]?.getD 0 < 10000:=by
        have:=HD.out ws[J] (List.getElem_mem hJ);simpa [hJ] using this
      have hmv:=mv_drop 10000 ws J hJ
      have HMV:=Lib.hid hmv;clear hmv
      generalize ws[J]?.getD 0 = x at *
      have hT:V * 10000 + x < 10 ^ (4 * ws.length):=by
        have h1:=mv_lt 10000 (ws.drop J) (fun d hd => HD.out d (List.mem_of_mem_drop hd))
        rw [HMV.out,show mv 10000 (ws.drop (J + 1)) = V from (HV.out).symm] at h1
        have h2:(10000:Nat) ^ (ws.drop J).length ≤ 10000 ^ ws.length:=Nat.pow_le_pow_right (by omega) (by simp)
        rw [Nat.pow_mul,show (10:Nat) ^ 4 = 10000 by decide];omega
      have HT:=Lib.hid hT;clear hT
      go_wp2
      obtain ⟨wo,hwo⟩:∃ wo:World,wo = wr:=⟨_,rfl⟩
      rw [← hwo] at hc2 HO hb ⊢
      clear hwo
      go_loopw [3, 5, 6, 7] (fun v n pl _ wi => ∃ (p : Option Addr) (cc : Nat) (V' m q : Nat), v = .slice p (outD V').length cc ∧ n = .int .i64 m ∧ pl = .int .i64 q ∧ Hid (Placed (V * 10000 + x) V' m q) ∧ m < 10000 ∧ q ≤ 1000 ∧
        Hid (OwnN .u8 w.heap.size 5 wi p cc ((outD V').map (·.toNat))) ∧ Below w.heap.size w wi) (fun _ _ pl _ _ => (intOf pl).toNat)
      case atStart =>
        exact ⟨p,cc,V,x,1000,rfl,rfl,rfl,.inr ⟨by omega,by omega,by omega⟩,by omega,by omega,HO,hb⟩
      case round =>
        obtain ⟨p1,c1,V',m,q,rfl,rfl,rfl,HP,hm,hq1,HO1,hb1⟩:=hrel
        have hlen:(outD V').length ≤ 400004:=by
          have h1:V' < 10 ^ (4 * ws.length + 1):=by
            have h2:V' ≤ V * 10000 + x:=by
              rcases HP.out with h | ⟨h1,h2,h3⟩
              · omega
              · rcases h1 with rfl | rfl | rfl | rfl <;> omega
            have:=HT.out
            rw [Nat.pow_succ];omega
          have:=outD_len V' _ h1 (by omega)
          omega
        by_cases hq0:q = 0
        · subst hq0
          have hV':V' = V * 10000 + x:=by
            rcases HP.out with h | ⟨h1,h2,h3⟩
            · exact h.2
            · omega
          have HV':=Lib.hid hV';clear hV'
          go_wp2
          go_roundw
          case rel =>
            refine ⟨p1,c1,J - 1,V',rfl,rfl,by omega,by omega,?_,HO1,hb1⟩
            show _ = _
            rw [HV'.out,show ((J:Int) - 1 + 1).toNat = J by omega,HMV.out,show mv 10000 (ws.drop (J + 1)) = V from (HV.out).symm];omega
          case measure => simp [intOf]
        · obtain ⟨hstep,hd10⟩:=placed_step _ _ _ _ HP.out hq0
          have HST:=Lib.hid hstep;clear hstep
          have q0:0 < (q:Int):=by omega
          obtain ⟨d,hd⟩:∃ d:Nat,(m:Int) / (q:Int) = d:=⟨m / q,by simp⟩
          have hd2:m / q = d:=by omega
          rw [hd2] at hd10
          have hstep:=HST.out
          rw [hd2] at hstep
          clear hd2 HST
          have HST:=Lib.hid hstep;clear hstep
          by_cases hd0:d = 0
          · subst hd0
            have hd':(m:Int) / (q:Int) = 0:=hd
            clear hd
            by_cases hV0:V' = 0
            · subst hV0
              have hl0:(outD 0).length = 0:=rfl
              go_wp2
              go_roundw
              case rel =>
                refine ⟨p1,c1,0,m % q,q / 10,?_,val_int (by simp),val_int (by simp),HST.out,by have:=Nat.mod_le m q;omega,by omega,HO1,hb1⟩
                rfl
              case measure => simp [intOf];omega
            · have hl0:0 < (outD V').length:=by
                have:=mt (outD_nil V').1 hV0
                cases h:outD V' with
                | nil => exact absurd h this
                | cons => simp
              have hy:=outD_yes V' 0 (by omega) (.inr hV0)
              have HY:=Lib.hid hy;clear hy
              have hO1:=HO1.out
              have hbs:=hb1.size
              go_wp2_with (at_builtin;refine wpList_appN rfl _ _ 202 rfl .u8 w.heap.size 5 i0 (.int .u8 0) 1 Tryz.underlying202 hi hz0 hz1 hz2 rfl (by decide) p1 c1 ((outD V').map (·.toNat)) _ 48 _ (by omega) (by rw [List.length_map];rfl) hO1 rfl (by rw [List.length_map];omega) hbs ?_;rintro p2 c2 w2 hO2 hb2)
              go_roundw
              case rel =>
                refine ⟨p2,c2,V' * 10 + 0,m % q,q / 10,?_,val_int (by simp),val_int (by simp),HST.out,by have:=Nat.mod_le m q;omega,by omega,?_,hb1.trans hb2⟩
                · rw [HY.out];simp
                · show OwnN _ _ _ _ _ _ _
                  rw [HY.out,List.map_append];exact hO2
              case measure => simp [intOf];omega
          · have hd0':((d:Int) != 0) = true:=by simp;omega
            have hy:=outD_yes V' d hd10 (.inl hd0)
            have HY:=Lib.hid hy;clear hy
            have hO1:=HO1.out
            have hbs:=hb1.size
            go_wp2_with (at_builtin;refine wpList_appN rfl _ _ 202 rfl .u8 w.heap.size 5 i0 (.int .u8 0) 1 Tryz.underlying202 hi hz0 hz1 hz2 rfl (by decide) p1 c1 ((outD V').map (·.toNat)) _ (48 + d) _ (by omega) (by rw [List.length_map];rfl) hO1 rfl (by rw [List.length_map];omega) hbs ?_;rintro p2 c2 w2 hO2 hb2)
            go_roundw
            case rel =>
              refine ⟨p2,c2,V' * 10 + d,m % q,q / 10,?_,val_int (by simp),val_int (by simp),HST.out,by have:=Nat.mod_le m q;omega,by omega,?_,hb1.trans hb2⟩
              · rw [HY.out];simp
              · show OwnN _ _ _ _ _ _ _
                rw [HY.out,List.map_append]
                rw [show [UInt8.ofNat (48 + d)].map (·.toNat) = [48 + d] by rw [List.map_cons,List.map_nil,dig_toNat hd10]]
                exact hO2
            case measure => simp [intOf];omega
    · have hV:=HV.out
      rw [show (i + 1).toNat = 0 by omega,List.drop_zero] at hV
      have HVe:=Lib.hid hV
      have hO:=HO.out.nats
      clear HV HO hV
      by_cases hV0:V = 0
      · subst hV0
        have hl0:(outD 0).length = 0:=rfl
        go_wp2
        go_ret
        exact ⟨ret_str (by rw [← HVe.out,dec_zero]),hb⟩
      · have ho:outD V = decDigits V:=by rw [outD,if_neg hV0]
        rw [ho] at hO ⊢
        rw [List.length_map] at hO
        have hl0:(((decDigits V).length:Int) == 0) = false:=by
          have:=dec_length_pos V
          rw [beq_eq_false_iff_ne];omega
        have kc:=conv_nats (P:=Tryz.prog) 202 9 5 Tryz.underlying202 Tryz.underlying5 Tryz.underlying9 wr p cc (decDigits V) hO (dec_ne V)
        clear hO ho
        go_wp2
        go_ret
        exact ⟨ret_str (by rw [← HVe.out]),hb⟩
end Go.Proofs.YtbeojahilbglcaaGreatDoor
namespace Go.Proofs.YtbeojahilbglcaaGreatDoor
open Go.RowKit Lum
open Go.Lib (decDigits itoa)
attribute [local go_sem] bs_get bs_extract_end bs_extract_from bs_extract bs_append
theorem r1_plus (m n : Nat) (w : World) (hm : (decDigits m).length ≤ 40000) (hn : (decDigits n).length ≤ 40000) :
    Calls Tryz.prog 116 #[.string ⟨(decDigits m).toArray⟩,.string ⟨(decDigits n).toArray⟩] w fun e w' => e = .returned (.string ⟨(decDigits (m + n)).toArray⟩) ∧ Below w.heap.size w w':=by
  obtain ⟨i0,hi,hz0,hz1,hz2⟩:=info_parts info_int
  have k1:=fun W => r1_words (decDigits m) W (dec_digits m) (dec_ne m) (by omega)
  have k2:=fun W => r1_words (decDigits n) W (dec_digits n) (dec_ne n) (by omega)
  rw [natOf_dec] at k1 k2
  have K1:=Lib.hid k1;clear k1
  have K2:=Lib.hid k2;clear k2
  generalize decDigits m = a at *
  generalize decDigits n = b at *
  go_enter Tryz.func116,Tryz.ntmps116
  go_wp2_with fail
  refine (K1.out _).mono ?_
  rintro e w1 ⟨b1,o1,c1,xs,rfl,ha1,ha2,ha0,ha3,ha4,hb1⟩
  have HA1:=Lib.hid ha1;clear ha1
  have HA2:=Lib.hid ha2;clear ha2
  have HA4:=Lib.hid ha4;clear ha4
  go_wp2_with fail
  refine (K2.out _).mono ?_
  rintro e w2 ⟨b2,o2,c2,ys,rfl,hc1,hc2,hc0,hc3,hc4,hb2⟩
  have HC1:=Lib.hid hc1;clear hc1
  have HC2:=Lib.hid hc2;clear hc2
  have HC4:=Lib.hid hc4;clear hc4
  have hb:=hb1.trans (hb2.mono hb1.size)
  have HA5:=Lib.hid (HA4.out.below hb2);clear HA4 hb1 hb2
  obtain ⟨hs1,_,hx⟩:=HA5.out.cell
  obtain ⟨hs2,_,hy⟩:=HC4.out.cell
  have HX:=Lib.hid hx;clear hx
  have HY:=Lib.hid hy;clear hy
  have hmx:=mv_lt 10000 xs HA2.out
  have hny:=mv_lt 10000 ys HC2.out
  rw [HA1.out] at hmx
  rw [HC1.out] at hny
  have HMX:=Lib.hid hmx;clear hmx
  have HNY:=Lib.hid hny;clear hny
  go_wp2
  go_loopw [7, 8, 9, 10] (fun v q kk _ wr => ∃ (p : Option Addr) (cc : Nat) (ws : List Nat) (k c : Nat), v = .slice p ws.length cc ∧ q = .int .i64 c ∧ kk = .int .i64 k ∧ c ≤ 1 ∧ Hid (ws.length = k) ∧ Hid (mv 10000 ws + c * 10000 ^ k = m % 10000 ^ k + n % 10000 ^ k) ∧ Hid (∀ d ∈ ws, d < 10000) ∧
    (k ≤ xs.length ∨ k ≤ ys.length ∨ c = 0) ∧ k ≤ xs.length + ys.length + 1 ∧ Hid (OwnN .i64 w2.heap.size 3 wr p cc ws) ∧ Below w2.heap.size w2 wr) (fun _ _ kk _ _ => xs.length + ys.length + 2 - (intOf kk).toNat)
  case atStart =>
    exact ⟨none,0,[],0,0,rfl,rfl,rfl,by omega,rfl,(show _ = _ by simp [mv,Nat.mod_one]),(show ∀ d ∈ _,_ by simp),.inl (by omega),by omega,OwnN.nil _ _ _ _,Below.refl _ _⟩
  case round =>
    obtain ⟨p,cc,ws,k,c,rfl,rfl,rfl,hc,HK,HV,HD,hor,hkm,HO,hbr⟩:=hrel
    obtain ⟨x,hxe⟩:∃ x,x = m / 10000 ^ k % 10000:=⟨_,rfl⟩
    obtain ⟨y,hye⟩:∃ y,y = n / 10000 ^ k % 10000:=⟨_,rfl⟩
    have hx1:x < 10000:=by rw [hxe];exact Nat.mod_lt _ (by omega)
    have hy1:y < 10000:=by rw [hye];exact Nat.mod_lt _ (by omega)
    have hcx:k < xs.length → wr.cell? ⟨b1,o1 + k,none⟩ = some (.int .i64 (x:Nat)):=fun h => by
      rw [hbr.cell (p:=⟨b1,o1 + k,none⟩) hs1,HX.out k h,word_at 10000 (by omega) xs HA2.out,HA1.out,← hxe]
    have hcy:k < ys.length → wr.cell? ⟨b2,o2 + k,none⟩ = some (.int .i64 (y:Nat)):=fun h => by
      rw [hbr.cell (p:=⟨b2,o2 + k,none⟩) hs2,HY.out k h,word_at 10000 (by omega) ys HC2.out,HC1.out,← hye]
    have hx0:¬ k < xs.length → x = 0:=fun h => by rw [hxe];exact word_beyond 10000 m _ k HMX.out (by omega) (by omega)
    have hy0:¬ k < ys.length → y = 0:=fun h => by rw [hye];exact word_beyond 10000 n _ k HNY.out (by omega) (by omega)
    have HXE:=Lib.hid hxe;clear hxe
    have HYE:=Lib.hid hye;clear hye
    by_cases h1:k < xs.length
    · have hcx':=hcx h1
      clear hcx hx0
      by_cases h2:k < ys.length
      · have hcy':=hcy h2
        clear hcy hy0
        have hstep:=plus_step 10000 k m n c (mv 10000 ws) HV.out
        rw [← HXE.out,← HYE.out] at hstep
        have hc':=carry_le 10000 c x y hc hx1 hy1
        have HS:Hid (mv 10000 (ws ++ [(c + (x + y)) % 10000]) + (c + (x + y)) / 10000 * 10000 ^ (k + 1) = m % 10000 ^ (k + 1) + n % 10000 ^ (k + 1)):=by
          show _ = _
          rw [mv_snoc,HK.out];exact hstep
        clear hstep
        have HD2:Hid (∀ d ∈ ws ++ [(c + (x + y)) % 10000],d < 10000):=by
          intro d hd
          rcases List.mem_append.1 hd with h | h
          · exact HD.out d h
          · simp at h;omega
        have hO:=HO.out
        have hbs:=hbr.size
        have hwl:ws.length < 1000000000:=by have:=HK.out;omega
        go_wp2_with (at_builtin;refine wpList_appN rfl _ _ 25 rfl .i64 w2.heap.size 3 i0 (.int .i64 0) 8 Tryz.underlying25 hi hz0 hz1 hz2 rfl (by decide) p cc ws _ ((c + (x + y)) % 10000) _ (by omega) rfl hO rfl hwl hbs ?_;rintro p1 cc1 w3 hO1 hb1)
        go_roundw
        case rel => exact ⟨p1,cc1,ws ++ [(c + (x + y)) % 10000],k + 1,(c + (x + y)) / 10000,by simp,val_int (by omega),by go_num,hc',(show _ = _ by simp [HK.out]),HS,HD2,by omega,by omega,hO1,hbr.trans hb1⟩
        case measure => simp [intOf];omega
      · obtain rfl:=hy0 h2
        clear hcy hy0
        have hstep:=plus_step 10000 k m n c (mv 10000 ws) HV.out
        rw [← HXE.out,← HYE.out] at hstep
        have hc':=carry_le 10000 c x 0 hc hx1 hy1
        have HS:Hid (mv 10000 (ws ++ [(c + (x + 0)) % 10000]) + (c + (x + 0)) / 10000 * 10000 ^ (k + 1) = m % 10000 ^ (k + 1) + n % 10000 ^ (k + 1)):=by
          show _ = _
          rw [mv_snoc,HK.out];exact hstep
        clear hstep
        have HD2:Hid (∀ d ∈ ws ++ [(c + (x + 0)) % 10000],d < 10000):=by
          intro d hd
          rcases List.mem_append.1 hd with h | h
          · exact HD.out d h
          · simp at h;omega
        have hO:=HO.out
        have hbs:=hbr.size
        have hwl:ws.length < 1000000000:=by have:=HK.out;omega
        go_wp2_with (at_builtin;refine wpList_appN rfl _ _ 25 rfl .i64 w2.heap.size 3 i0 (.int .i64 0) 8 Tryz.underlying25 hi hz0 hz1 hz2 rfl (by decide) p cc ws _ ((c + (x + 0)) % 10000) _ (by omega) rfl hO rfl hwl hbs ?_;rintro p1 cc1 w3 hO1 hb1)
        go_roundw
        case rel => exact ⟨p1,cc1,ws ++ [(c + (x + 0)) % 10000],k + 1,(c + (x + 0)) / 10000,by simp,val_int (by omega),by go_num,hc',(show _ = _ by simp [HK.out]),HS,HD2,by omega,by omega,hO1,hbr.trans hb1⟩
        case measure => simp [intOf];omega
    · obtain rfl:=hx0 h1
      clear hcx hx0
      by_cases h2:k < ys.length
      · have hcy':=hcy h2
        clear hcy hy0
        have hstep:=plus_step 10000 k m n c (mv 10000 ws) HV.out
        rw [← HXE.out,← HYE.out] at hstep
        have hc':=carry_le 10000 c 0 y hc hx1 hy1
        have HS:Hid (mv 10000 (ws ++ [(c + (0 + y)) % 10000]) + (c + (0 + y)) / 10000 * 10000 ^ (k + 1) = m % 10000 ^ (k + 1) + n % 10000 ^ (k + 1)):=by
          show _ = _
          rw [mv_snoc,HK.out];exact hstep
        clear hstep
        have HD2:Hid (∀ d ∈ ws ++ [(c + (0 + y)) % 10000],d < 10000):=by
          intro d hd
          rcases List.mem_append.1 hd with h | h
          · exact HD.out d h
          · simp at h;omega
        have hO:=HO.out
        have hbs:=hbr.size
        have hwl:ws.length < 1000000000:=by have:=HK.out;omega
        go_wp2_with (at_builtin;refine wpList_appN rfl _ _ 25 rfl .i64 w2.heap.size 3 i0 (.int .i64 0) 8 Tryz.underlying25 hi hz0 hz1 hz2 rfl (by decide) p cc ws _ ((c + (0 + y)) % 10000) _ (by omega) rfl hO rfl hwl hbs ?_;rintro p1 cc1 w3 hO1 hb1)
        go_roundw
        case rel => exact ⟨p1,cc1,ws ++ [(c + (0 + y)) % 10000],k + 1,(c + (0 + y)) / 10000,by simp,val_int (by omega),by go_num,hc',(show _ = _ by simp [HK.out]),HS,HD2,by omega,by omega,hO1,hbr.trans hb1⟩
        case measure => simp [intOf];omega
      · obtain rfl:=hy0 h2
        clear hcy hy0
        by_cases h0:c = 0
        · subst h0
          have hend:=HV.out
          rw [mod_all 10000 m k (Nat.lt_of_lt_of_le HMX.out (Nat.pow_le_pow_right (by omega) (by omega))),mod_all 10000 n k (Nat.lt_of_lt_of_le HNY.out (Nat.pow_le_pow_right (by omega) (by omega)))] at hend
          obtain ⟨b3,o3,rfl⟩:=(OwnN.nats HO.out).some (by have:=HK.out;omega)
          have hwl:ws.length ≤ 100000:=by have:=HK.out;omega
          have ht:=fun W hW => r1_text b3 o3 cc ws W hW HD.out hwl
          have hN:=OwnN.nats HO.out
          rw [show mv 10000 ws = m + n by omega] at ht
          have HT:=Lib.hid ht;clear ht hend
          go_wp2_with (go_at_call 159;refine (HT.out _ hN).mono ?_;rintro e w3 ⟨rfl,hb3⟩)
          go_ret
          exact ⟨rfl,(hb.trans (hbr.mono hb.size)).trans (hb3.mono (Nat.le_trans hb.size hbr.size))⟩
        · obtain rfl:c = 1:=by omega
          have hstep:=plus_step 10000 k m n 1 (mv 10000 ws) HV.out
          rw [← HXE.out,← HYE.out] at hstep
          have hc':=carry_le 10000 1 0 0 hc hx1 hy1
          have HS:Hid (mv 10000 (ws ++ [(1 + (0 + 0)) % 10000]) + (1 + (0 + 0)) / 10000 * 10000 ^ (k + 1) = m % 10000 ^ (k + 1) + n % 10000 ^ (k + 1)):=by
            show _ = _
            rw [mv_snoc,HK.out];exact hstep
          clear hstep
          have HD2:Hid (∀ d ∈ ws ++ [(1 + (0 + 0)) % 10000],d < 10000):=by
            intro d hd
            rcases List.mem_append.1 hd with h | h
            · exact HD.out d h
            · simp at h;omega
          have hO:=HO.out
          have hbs:=hbr.size
          have hwl:ws.length < 1000000000:=by have:=HK.out;omega
          go_wp2_with (at_builtin;refine wpList_appN rfl _ _ 25 rfl .i64 w2.heap.size 3 i0 (.int .i64 0) 8 Tryz.underlying25 hi hz0 hz1 hz2 rfl (by decide) p cc ws _ ((1 + (0 + 0)) % 10000) _ (by omega) rfl hO rfl hwl hbs ?_;rintro p1 cc1 w3 hO1 hb1)
          go_roundw
          case rel => exact ⟨p1,cc1,ws ++ [(1 + (0 + 0)) % 10000],k + 1,(1 + (0 + 0)) / 10000,by simp,val_int (by omega),by go_num,hc',(show _ = _ by simp [HK.out]),HS,HD2,by omega,by omega,hO1,hbr.trans hb1⟩
          case measure => simp [intOf];omega
theorem r1_minus (m n : Nat) (w : World) (hm : (decDigits m).length ≤ 40000) (hn : (decDigits n).length ≤ 40000) (hmn : n ≤ m) :
    Calls Tryz.prog 118 #[.string ⟨(decDigits m).toArray⟩,.string ⟨(decDigits n).toArray⟩] w fun e w' => e = .returned (.string ⟨(decDigits (m - n)).toArray⟩) ∧ Below w.heap.size w w':=by
  obtain ⟨i0,hi,hz0,hz1,hz2⟩:=info_parts info_int
  have k1:=fun W => r1_words (decDigits m) W (dec_digits m) (dec_ne m) (by omega)
  have k2:=fun W => r1_words (decDigits n) W (dec_digits n) (dec_ne n) (by omega)
  rw [natOf_dec] at k1 k2
  have K1:=Lib.hid k1;clear k1
  have K2:=Lib.hid k2;clear k2
  generalize decDigits m = a at *
  generalize decDigits n = b at *
  go_enter Tryz.func118,Tryz.ntmps118
  go_wp2_with fail
  refine (K1.out _).mono ?_
  rintro e w1 ⟨b1,o1,c1,xs,rfl,ha1,ha2,ha0,ha3,ha4,hb1⟩
  have HA1:=Lib.hid ha1;clear ha1
  have HA2:=Lib.hid ha2;clear ha2
  have HA4:=Lib.hid ha4;clear ha4
  go_wp2_with fail
  refine (K2.out _).mono ?_
  rintro e w2 ⟨b2,o2,c2,ys,rfl,hc1,hc2,hc0,hc3,hc4,hb2⟩
  have HC1:=Lib.hid hc1;clear hc1
  have HC2:=Lib.hid hc2;clear hc2
  have HC4:=Lib.hid hc4;clear hc4
  have hb:=hb1.trans (hb2.mono hb1.size)
  have HA5:=Lib.hid (HA4.out.below hb2);clear HA4 hb1 hb2
  obtain ⟨hs1,_,hx⟩:=HA5.out.cell
  obtain ⟨hs2,_,hy⟩:=HC4.out.cell
  have HX:=Lib.hid hx;clear hx
  have HY:=Lib.hid hy;clear hy
  have hmx:=mv_lt 10000 xs HA2.out
  have hny:=mv_lt 10000 ys HC2.out
  rw [HA1.out] at hmx
  rw [HC1.out] at hny
  have HMX:=Lib.hid hmx;clear hmx
  have HNY:=Lib.hid hny;clear hny
  go_wp2
  go_loopw [7, 8, 9, 10] (fun v q kk _ wr => ∃ (p : Option Addr) (cc : Nat) (ws : List Nat) (k c : Nat), v = .slice p ws.length cc ∧ q = .int .i64 c ∧ kk = .int .i64 k ∧ c ≤ 1 ∧ Hid (ws.length = k) ∧ Hid (mv 10000 ws + n % 10000 ^ k = m % 10000 ^ k + c * 10000 ^ k) ∧ Hid (∀ d ∈ ws, d < 10000) ∧
    k ≤ xs.length ∧ Hid (OwnN .i64 w2.heap.size 3 wr p cc ws) ∧ Below w2.heap.size w2 wr) (fun _ _ kk _ _ => xs.length - (intOf kk).toNat)
  case atStart =>
    exact ⟨none,0,[],0,0,rfl,rfl,rfl,by omega,rfl,(show _ = _ by simp [mv,Nat.mod_one]),(show ∀ d ∈ _,_ by simp),by omega,OwnN.nil _ _ _ _,Below.refl _ _⟩
  case round =>
    obtain ⟨p,cc,ws,k,c,rfl,rfl,rfl,hc,HK,HV,HD,hkm,HO,hbr⟩:=hrel
    obtain ⟨x,hxe⟩:∃ x,x = m / 10000 ^ k % 10000:=⟨_,rfl⟩
    obtain ⟨y,hye⟩:∃ y,y = n / 10000 ^ k % 10000:=⟨_,rfl⟩
    have hx1:x < 10000:=by rw [hxe];exact Nat.mod_lt _ (by omega)
    have hy1:y < 10000:=by rw [hye];exact Nat.mod_lt _ (by omega)
    have hcx:k < xs.length → wr.cell? ⟨b1,o1 + k,none⟩ = some (.int .i64 (x:Nat)):=fun h => by
      rw [hbr.cell (p:=⟨b1,o1 + k,none⟩) hs1,HX.out k h,word_at 10000 (by omega) xs HA2.out,HA1.out,← hxe]
    have hcy:k < ys.length → wr.cell? ⟨b2,o2 + k,none⟩ = some (.int .i64 (y:Nat)):=fun h => by
      rw [hbr.cell (p:=⟨b2,o2 + k,none⟩) hs2,HY.out k h,word_at 10000 (by omega) ys HC2.out,HC1.out,← hye]
    have hy0:¬ k < ys.length → y = 0:=fun h => by rw [hye];exact word_beyond 10000 n _ k HNY.out (by omega) (by omega)
    have HXE:=Lib.hid hxe;clear hxe
    have HYE:=Lib.hid hye;clear hye
    by_cases h1:k < xs.length
    · have hcx':=hcx h1
      clear hcx
      by_cases h2:k < ys.length
      · have hcy':=hcy h2
        clear hcy hy0
        by_cases hneg:(x:Int) - c - y < 0
        · skip
          have hstep:=less_step 10000 k m n c (mv 10000 ws) (by omega) hc HV.out
          rw [← HXE.out,← HYE.out] at hstep
          have e1:(x + (10000 - y - c)) % 10000 = (x + (10000 - y - c)):=Nat.mod_eq_of_lt (by omega)
          have e2:1 - (x + (10000 - y - c)) / 10000 = 1:=by omega
          rw [e1,e2] at hstep
          clear e1 e2
          have HS:Hid (mv 10000 (ws ++ [(x + (10000 - y - c))]) + n % 10000 ^ (k + 1) = m % 10000 ^ (k + 1) + 1 * 10000 ^ (k + 1)):=by
            show _ = _
            rw [mv_snoc,HK.out];exact hstep
          clear hstep
          have HD2:Hid (∀ d ∈ ws ++ [(x + (10000 - y - c))],d < 10000):=by
            intro d hd
            rcases List.mem_append.1 hd with h | h
            · exact HD.out d h
            · simp at h;omega
          have hO:=HO.out
          have hbs:=hbr.size
          have hwl:ws.length < 1000000000:=by have:=HK.out;omega
          go_wp2_with (at_builtin;refine wpList_appN rfl _ _ 25 rfl .i64 w2.heap.size 3 i0 (.int .i64 0) 8 Tryz.underlying25 hi hz0 hz1 hz2 rfl (by decide) p cc ws _ (x + (10000 - y - c)) _ (by omega) rfl hO rfl hwl hbs ?_;rintro p1 cc1 w3 hO1 hb1)
          go_roundw
          case rel => exact ⟨p1,cc1,ws ++ [(x + (10000 - y - c))],k + 1,1,by simp,rfl,by go_num,by omega,(show _ = _ by simp [HK.out]),HS,HD2,by omega,hO1,hbr.trans hb1⟩
          case measure => simp [intOf];omega
        · skip
          have hstep:=less_step 10000 k m n c (mv 10000 ws) (by omega) hc HV.out
          rw [← HXE.out,← HYE.out] at hstep
          have e1:(x + (10000 - y - c)) % 10000 = (x - y - c):=by omega
          have e2:1 - (x + (10000 - y - c)) / 10000 = 0:=by omega
          rw [e1,e2] at hstep
          clear e1 e2
          have HS:Hid (mv 10000 (ws ++ [(x - y - c)]) + n % 10000 ^ (k + 1) = m % 10000 ^ (k + 1) + 0 * 10000 ^ (k + 1)):=by
            show _ = _
            rw [mv_snoc,HK.out];exact hstep
          clear hstep
          have HD2:Hid (∀ d ∈ ws ++ [(x - y - c)],d < 10000):=by
            intro d hd
            rcases List.mem_append.1 hd with h | h
            · exact HD.out d h
            · simp at h;omega
          have hO:=HO.out
          have hbs:=hbr.size
          have hwl:ws.length < 1000000000:=by have:=HK.out;omega
          go_wp2_with (at_builtin;refine wpList_appN rfl _ _ 25 rfl .i64 w2.heap.size 3 i0 (.int .i64 0) 8 Tryz.underlying25 hi hz0 hz1 hz2 rfl (by decide) p cc ws _ (x - y - c) _ (by omega) rfl hO rfl hwl hbs ?_;rintro p1 cc1 w3 hO1 hb1)
          go_roundw
          case rel => exact ⟨p1,cc1,ws ++ [(x - y - c)],k + 1,0,by simp,rfl,by go_num,by omega,(show _ = _ by simp [HK.out]),HS,HD2,by omega,hO1,hbr.trans hb1⟩
          case measure => simp [intOf];omega
      · obtain rfl:=hy0 h2
        clear hcy hy0
        by_cases hneg:(x:Int) - c < 0
        · skip
          have hstep:=less_step 10000 k m n c (mv 10000 ws) (by omega) hc HV.out
          rw [← HXE.out,← HYE.out] at hstep
          have e1:(x + (10000 - 0 - c)) % 10000 = (x + (10000 - 0 - c)):=Nat.mod_eq_of_lt (by omega)
          have e2:1 - (x + (10000 - 0 - c)) / 10000 = 1:=by omega
          rw [e1,e2] at hstep
          clear e1 e2
          have HS:Hid (mv 10000 (ws ++ [(x + (10000 - 0 - c))]) + n % 10000 ^ (k + 1) = m % 10000 ^ (k + 1) + 1 * 10000 ^ (k + 1)):=by
            show _ = _
            rw [mv_snoc,HK.out];exact hstep
          clear hstep
          have HD2:Hid (∀ d ∈ ws ++ [(x + (10000 - 0 - c))],d < 10000):=by
            intro d hd
            rcases List.mem_append.1 hd with h | h
            · exact HD.out d h
            · simp at h;omega
          have hO:=HO.out
          have hbs:=hbr.size
          have hwl:ws.length < 1000000000:=by have:=HK.out;omega
          go_wp2_with (at_builtin;refine wpList_appN rfl _ _ 25 rfl .i64 w2.heap.size 3 i0 (.int .i64 0) 8 Tryz.underlying25 hi hz0 hz1 hz2 rfl (by decide) p cc ws _ (x + (10000 - 0 - c)) _ (by omega) rfl hO rfl hwl hbs ?_;rintro p1 cc1 w3 hO1 hb1)
          go_roundw
          case rel => exact ⟨p1,cc1,ws ++ [(x + (10000 - 0 - c))],k + 1,1,by simp,rfl,by go_num,by omega,(show _ = _ by simp [HK.out]),HS,HD2,by omega,hO1,hbr.trans hb1⟩
          case measure => simp [intOf];omega
        · skip
          have hstep:=less_step 10000 k m n c (mv 10000 ws) (by omega) hc HV.out
          rw [← HXE.out,← HYE.out] at hstep
          have e1:(x + (10000 - 0 - c)) % 10000 = (x - 0 - c):=by omega
          have e2:1 - (x + (10000 - 0 - c)) / 10000 = 0:=by omega
          rw [e1,e2] at hstep
          clear e1 e2
          have HS:Hid (mv 10000 (ws ++ [(x - 0 - c)]) + n % 10000 ^ (k + 1) = m % 10000 ^ (k + 1) + 0 * 10000 ^ (k + 1)):=by
            show _ = _
            rw [mv_snoc,HK.out];exact hstep
          clear hstep
          have HD2:Hid (∀ d ∈ ws ++ [(x - 0 - c)],d < 10000):=by
            intro d hd
            rcases List.mem_append.1 hd with h | h
            · exact HD.out d h
            · simp at h;omega
          have hO:=HO.out
          have hbs:=hbr.size
          have hwl:ws.length < 1000000000:=by have:=HK.out;omega
          go_wp2_with (at_builtin;refine wpList_appN rfl _ _ 25 rfl .i64 w2.heap.size 3 i0 (.int .i64 0) 8 Tryz.underlying25 hi hz0 hz1 hz2 rfl (by decide) p cc ws _ (x - 0 - c) _ (by omega) rfl hO rfl hwl hbs ?_;rintro p1 cc1 w3 hO1 hb1)
          go_roundw
          case rel => exact ⟨p1,cc1,ws ++ [(x - 0 - c)],k + 1,0,by simp,rfl,by go_num,by omega,(show _ = _ by simp [HK.out]),HS,HD2,by omega,hO1,hbr.trans hb1⟩
          case measure => simp [intOf];omega
    · obtain rfl:k = xs.length:=by omega
      have hend:=less_end 10000 xs.length m n c (mv 10000 ws) HV.out HMX.out hmn (by rw [← HK.out];exact mv_lt 10000 ws HD.out)
      obtain ⟨b3,o3,rfl⟩:=(OwnN.nats HO.out).some (by have:=HK.out;omega)
      have hwl:ws.length ≤ 100000:=by have:=HK.out;omega
      have ht:=fun W hW => r1_text b3 o3 cc ws W hW HD.out hwl
      have hN:=OwnN.nats HO.out
      rw [hend] at ht
      have HT:=Lib.hid ht;clear ht hend
      clear hcx hcy hy0
      go_wp2_with (go_at_call 159;refine (HT.out _ hN).mono ?_;rintro e w3 ⟨rfl,hb3⟩)
      go_ret
      exact ⟨rfl,(hb.trans (hbr.mono hb.size)).trans (hb3.mono (Nat.le_trans hb.size hbr.size))⟩
end Go.Proofs.YtbeojahilbglcaaGreatDoor
namespace Lum
theorem carry_out (b t c V T:Nat) (hb:0 < b) (h:V + c * b ^ t = T) (hT:T < b ^ (t + 1)):(c + (V / b ^ t % b + 0)) / b = 0:=by
  have hp:0 < b ^ t:=Nat.pow_pos hb
  have h1:V / b ^ t + c = T / b ^ t:=by rw [← h,Nat.add_mul_div_right _ _ hp]
  have h2:T / b ^ t < b:=by rw [Nat.div_lt_iff_lt_mul hp];rw [Nat.pow_succ] at hT;grind
  have h3:=Nat.mod_le (V / b ^ t) b
  exact Nat.div_eq_of_lt (by omega)
theorem mod_mul_lt (b i m n l:Nat) (hn:n < b ^ l) (hb:0 < b):m % b ^ i * n < b ^ (i + l):=by
  have h1:=Nat.mod_lt m (Nat.pow_pos hb:0 < b ^ i)
  rw [Nat.pow_add]
  rcases Nat.eq_zero_or_pos n with h0 | h0
  · subst h0;rw [Nat.mul_zero];exact Nat.mul_pos (Nat.pow_pos hb) (Nat.pow_pos hb)
  · exact Nat.lt_of_lt_of_le (Nat.mul_lt_mul_of_pos_right h1 h0) (Nat.mul_le_mul_left _ (by omega))
theorem row_sum (b i m n:Nat):m % b ^ i * n + m / b ^ i % b * n * b ^ i = m % b ^ (i + 1) * n:=by
  rw [mod_succ b m];grind
theorem set_lt (b:Nat) (ws:List Nat) (j d:Nat) (h:∀ x ∈ ws,x < b) (hd:d < b):∀ x ∈ ws.set j d,x < b:=by
  intro x hx
  rcases List.mem_or_eq_of_mem_set hx with h1 | h1
  · exact h x h1
  · subst h1;exact hd
end Lum
namespace Go.Proofs.YtbeojahilbglcaaGreatDoor
open Go.RowKit Lum
open Go.Lib (decDigits itoa)
attribute [local go_sem] bs_get bs_extract_end bs_extract_from bs_extract bs_append
theorem r1_times (m n : Nat) (w : World) (hm : (decDigits m).length ≤ 40000) (hn : (decDigits n).length ≤ 40000) :
    Calls Tryz.prog 119 #[.string ⟨(decDigits m).toArray⟩,.string ⟨(decDigits n).toArray⟩] w fun e w' => e = .returned (.string ⟨(decDigits (m * n)).toArray⟩) ∧ Below w.heap.size w w':=by
  obtain ⟨i0,hi,hz0,hz1,hz2⟩:=info_parts info_int
  have k1:=fun W => r1_words (decDigits m) W (dec_digits m) (dec_ne m) (by omega)
  have k2:=fun W => r1_words (decDigits n) W (dec_digits n) (dec_ne n) (by omega)
  rw [natOf_dec] at k1 k2
  have K1:=Lib.hid k1;clear k1
  have K2:=Lib.hid k2;clear k2
  generalize decDigits m = a at *
  generalize decDigits n = b at *
  go_enter Tryz.func119,Tryz.ntmps119
  go_wp2_with fail
  refine (K1.out _).mono ?_
  rintro e w1 ⟨b1,o1,c1,xs,rfl,ha1,ha2,ha0,ha3,ha4,hb1⟩
  have HA1:=Lib.hid ha1;clear ha1
  have HA2:=Lib.hid ha2;clear ha2
  have HA4:=Lib.hid ha4;clear ha4
  go_wp2_with fail
  refine (K2.out _).mono ?_
  rintro e w2 ⟨b2,o2,c2,ys,rfl,hc1,hc2,hc0,hc3,hc4,hb2⟩
  have HC1:=Lib.hid hc1;clear hc1
  have HC2:=Lib.hid hc2;clear hc2
  have HC4:=Lib.hid hc4;clear hc4
  have hb:=hb1.trans (hb2.mono hb1.size)
  have HA5:=Lib.hid (HA4.out.below hb2);clear HA4 hb1 hb2
  obtain ⟨hs1,_,hx⟩:=HA5.out.cell
  obtain ⟨hs2,_,hy⟩:=HC4.out.cell
  have HX:=Lib.hid hx;clear hx
  have HY:=Lib.hid hy;clear hy
  have hmx:=mv_lt 10000 xs HA2.out
  have hny:=mv_lt 10000 ys HC2.out
  rw [HA1.out] at hmx
  rw [HC1.out] at hny
  have HMX:=Lib.hid hmx;clear hmx
  have HNY:=Lib.hid hny;clear hny
  go_wp2_with (at_make;refine wpList_makeN _ rfl _ _ 25 rfl .i64 w2.heap.size 3 i0 Tryz.underlying25 hi hz0 hz1 (by rw [hz2];decide) .i64 .i64 _ _ (xs.length + ys.length + 1) rfl rfl (by omega) (by omega) (by omega) (Nat.le_refl _) ?_;rintro w3 hr3 hb3 hs3)
  have HR3:=Lib.hid hr3;clear hr3
  go_loopw [8, 9, 10, 11] (fun q _ _ _ wr => ∃ (ws : List Nat) (i : Nat), q = .int .i64 i ∧ i ≤ xs.length ∧ Hid (ws.length = xs.length + ys.length + 1) ∧ Hid (mv 10000 ws = m % 10000 ^ i * n) ∧ Hid (∀ d ∈ ws, d < 10000) ∧
    Hid (RowN .i64 3 wr w2.heap.size ws) ∧ Below w2.heap.size w2 wr) (fun q _ _ _ _ => xs.length - (intOf q).toNat)
  case atStart =>
    exact ⟨List.replicate (xs.length + ys.length + 1) 0,0,rfl,by omega,(show _ = _ by simp),(show _ = _ by simp [mv_zeros,Nat.mod_one]),(show ∀ d ∈ _,_ by simp),HR3,hb3⟩
  case round =>
    obtain ⟨ws,i,rfl,hil,HL,HV,HD,HR,hbr⟩:=hrel
    by_cases h1:i < xs.length
    · obtain ⟨v,hve⟩:∃ v,v = m / 10000 ^ i % 10000:=⟨_,rfl⟩
      have hv1:v < 10000:=by rw [hve];exact Nat.mod_lt _ (by omega)
      have hcv:w2.cell? ⟨b1,o1 + i,none⟩ = some (.int .i64 (v:Nat)):=by
        rw [HX.out i h1,word_at 10000 (by omega) xs HA2.out,HA1.out,← hve]
      have HVE:=Lib.hid hve;clear hve
      have hT:=mod_mul_lt 10000 (i + 1) m n ys.length HNY.out (by omega)
      have HT:=Lib.hid hT;clear hT
      have hsum:=row_sum 10000 i m n
      rw [← HVE.out] at hsum
      have HSUM:=Lib.hid hsum;clear hsum
      go_wp2
      obtain ⟨wo,hwo⟩:∃ wo:World,wo = wr:=⟨_,rfl⟩
      rw [← hwo] at HR hbr ⊢
      clear hwo
      go_loopw [9, 10, 11] (fun cs q _ wi => ∃ (zs : List Nat) (k c : Nat), cs = .int .i64 c ∧ q = .int .i64 k ∧ k ≤ ys.length + 1 ∧ (k ≤ ys.length ∨ c = 0) ∧ c < 10000 ∧ Hid (zs.length = xs.length + ys.length + 1) ∧
        Hid (mv 10000 zs + c * 10000 ^ (i + k) = mv 10000 ws + v * (n % 10000 ^ k) * 10000 ^ i) ∧ Hid (∀ d ∈ zs,d < 10000) ∧ Hid (RowN .i64 3 wi w2.heap.size zs) ∧ Below w2.heap.size w2 wi) (fun _ q _ _ => ys.length + 2 - (intOf q).toNat)
      case atStart => exact ⟨ws,0,0,rfl,rfl,by omega,by omega,by omega,HL,(show _ = _ by simp [Nat.mod_one]),HD,HR,hbr⟩
      case round =>
        obtain ⟨zs,k,c,rfl,rfl,hk,hor,hc,HLz,HVz,HDz,HRz,hbz⟩:=hrel
        obtain ⟨o,hoe⟩:∃ o,o = mv 10000 zs / 10000 ^ (i + k) % 10000:=⟨_,rfl⟩
        have ho1:o < 10000:=by rw [hoe];exact Nat.mod_lt _ (by omega)
        have hlz:i + k < zs.length ∨ ys.length < k:=by have:=HLz.out;omega
        have hco:i + k < zs.length → wr.cell? ⟨w2.heap.size,i + k,none⟩ = some (.int .i64 (o:Nat)):=fun h => by
          rw [HRz.out.cell (i + k) h,word_at 10000 (by omega) zs HDz.out,← hoe]
        have hfr:=HRz.out.frozen (i + k)
        have hos:i + k < zs.length → zs.getD (i + k) 0 = o:=fun h => by
          rw [List.getD_eq_getElem?_getD,word_at 10000 (by omega) zs HDz.out,← hoe]
        have hcv':wr.cell? ⟨b1,o1 + i,none⟩ = some (.int .i64 (v:Nat)):=(hbz.cell (p:=⟨b1,o1 + i,none⟩) hs1).trans hcv
        by_cases h2:k < ys.length
        · obtain ⟨x,hxe⟩:∃ x,x = n / 10000 ^ k % 10000:=⟨_,rfl⟩
          have hx1:x < 10000:=by rw [hxe];exact Nat.mod_lt _ (by omega)
          have hcx:wr.cell? ⟨b2,o2 + k,none⟩ = some (.int .i64 (x:Nat)):=by
            rw [hbz.cell (p:=⟨b2,o2 + k,none⟩) hs2,HY.out k h2,word_at 10000 (by omega) ys HC2.out,HC1.out,← hxe]
          have hik:i + k < zs.length:=by have:=HLz.out;omega
          have hco':=hco hik
          have hos':=hos hik
          clear hco hlz hos
          have hrc:=row_carry 10000 c o v x (by omega) hc ho1 hv1 hx1
          obtain ⟨t,ht⟩:∃ t,t = v * x:=⟨_,rfl⟩
          rw [← ht] at hrc
          have hti:(v:Int) * (x:Int) = (t:Int):=by rw [ht];simp
          have hrow:=row_step 10000 i k v n c (mv 10000 zs) (mv 10000 ws) o HVz.out (mv 10000 (zs.set (i + k) ((c + (o + t)) % 10000))) (by
            have:=mv_set 10000 zs (i + k) ((c + (o + t)) % 10000) hik
            rw [hos'] at this
            rw [← hxe,← ht];exact this)
          rw [← hxe,← ht] at hrow
          have HROW:=Lib.hid hrow;clear hrow
          have hd2:=set_lt 10000 zs (i + k) ((c + (o + t)) % 10000) HDz.out (Nat.mod_lt _ (by omega))
          have HD2:=Lib.hid hd2;clear hd2
          have HOE:=Lib.hid hoe;clear hoe
          have HXE:=Lib.hid hxe;clear hxe
          have HTE:=Lib.hid ht;clear ht
          have HOS:=Lib.hid hos';clear hos'
          obtain ⟨hrc1,hrc2⟩:=hrc
          have hw1:IntKind.i64.wrap (t:Int) = (t:Int):=IntWalk.i64_in _ (by omega)
          have hw2:IntKind.i64.wrap ((o:Int) + (c:Int) + (t:Int)) = (o:Int) + (c:Int) + (t:Int):=IntWalk.i64_in _ (by omega)
          have j1:(0:Int) ≤ (i:Int):=by omega
          have j2:(i:Int) < (xs.length:Int):=by omega
          have j3:(0:Int) ≤ (k:Int):=by omega
          have j4:(k:Int) < (ys.length:Int):=by omega
          go_wp2
          go_quiet (fail)
          clear hw1 hw2
          go_wp2
          go_roundw
          case rel =>
            refine ⟨zs.set (i + k) ((c + (o + t)) % 10000),k + 1,(c + (o + t)) / 10000,val_int (by omega),by go_num,by omega,by omega,hrc2,(show _ = _ by rw [List.length_set];exact HLz.out),HROW.out,HD2.out,?_,?_⟩
            · have hset:=(HRz.out.drewN nq).set (i + k) ((c + (o + t)) % 10000)
              rw [show (((c + (o + t)) % 10000:Nat):Int) = ((o:Int) + c + t) % 10000 by omega] at hset
              exact hset
            · exact (below_drewN hbz _).setCell (p:=⟨w2.heap.size,i + k,none⟩) (Nat.le_refl _) _
          case measure => simp [intOf];omega
        · by_cases h0:c = 0
          · subst h0
            have hvn:mv 10000 zs = m % 10000 ^ (i + 1) * n:=by
              have h3:=HVz.out
              rw [mod_all 10000 n k (Nat.lt_of_lt_of_le HNY.out (Nat.pow_le_pow_right (by omega) (by omega))),HV.out] at h3
              rw [← HSUM.out];omega
            have HVN:=Lib.hid hvn;clear hvn hco hos hoe hlz hfr
            go_wp2
            go_roundw
            case rel => exact ⟨zs,i + 1,by go_num,by omega,HLz,HVN,HDz,HRz,hbz⟩
            case measure => simp [intOf];omega
          · have hk0:k = ys.length:=by omega
            have hik:i + k < zs.length:=by have:=HLz.out;omega
            have hco':=hco hik
            have hos':=hos hik
            clear hco hlz hos
            have hx0:n / 10000 ^ k % 10000 = 0:=word_beyond 10000 n _ k HNY.out (by omega) (by omega)
            have hcar:(c + (o + 0)) / 10000 = 0:=by
              have h3:=HVz.out
              rw [mod_all 10000 n k (Nat.lt_of_lt_of_le HNY.out (Nat.pow_le_pow_right (by omega) (by omega))),HV.out] at h3
              rw [hoe]
              refine carry_out 10000 (i + k) c (mv 10000 zs) _ (by omega) h3 ?_
              rw [HSUM.out,show i + k + 1 = i + 1 + ys.length by omega];exact HT.out
            have hrow:=row_step 10000 i k v n c (mv 10000 zs) (mv 10000 ws) o HVz.out (mv 10000 (zs.set (i + k) ((c + (o + 0)) % 10000))) (by
              have:=mv_set 10000 zs (i + k) ((c + (o + 0)) % 10000) hik
              rw [hos'] at this
              rw [hx0,Nat.mul_zero];exact this)
            rw [hx0,Nat.mul_zero,hcar] at hrow
            have HROW:=Lib.hid hrow;clear hrow
            have hd2:=set_lt 10000 zs (i + k) ((c + (o + 0)) % 10000) HDz.out (Nat.mod_lt _ (by omega))
            have HD2:=Lib.hid hd2;clear hd2
            have hoc:o + c < 10000:=by omega
            clear hoe hos' hx0 hcar
            have HK:=Lib.hid hk0;clear hk0
            have hcp:0 < (c:Int):=by omega
            go_wp2
            go_roundw
            case rel =>
              refine ⟨zs.set (i + k) ((c + (o + 0)) % 10000),k + 1,0,val_int (by omega),by go_num,by omega,by omega,by omega,(show _ = _ by rw [List.length_set];exact HLz.out),HROW.out,HD2.out,?_,?_⟩
              · have hset:=HRz.out.set (i + k) ((c + (o + 0)) % 10000)
                rw [show (((c + (o + 0)) % 10000:Nat):Int) = ((o:Int) + c) % 10000 by omega] at hset
                exact hset
              · exact hbz.setCell (p:=⟨w2.heap.size,i + k,none⟩) (Nat.le_refl _) _
            case measure => simp [intOf];omega
    · obtain rfl:i = xs.length:=by omega
      have hend:=HV.out
      rw [mod_all 10000 m _ HMX.out] at hend
      have hN:=HR.out.nats (by have:=HL.out;unfold maxLen;omega)
      have ht:=fun W hW => r1_text w2.heap.size 0 ws.length ws W hW HD.out (by have:=HL.out;omega)
      rw [hend] at ht
      rw [HL.out] at ht hN
      have HT:=Lib.hid ht;clear ht hend
      go_wp2_with (go_at_call 159;refine (HT.out _ hN).mono ?_;rintro e w4 ⟨rfl,hb4⟩)
      go_ret
      exact ⟨rfl,(hb.trans (hbr.mono hb.size)).trans (hb4.mono (Nat.le_trans hb.size hbr.size))⟩
end Go.Proofs.YtbeojahilbglcaaGreatDoor
namespace Lum
open Go.Lib (decDigits itoa)
theorem dec_snoc (r d:Nat) (hr:r ≠ 0) (hd:d < 10):decDigits (10 * r + d) = decDigits r ++ [UInt8.ofNat (48 + d)]:=by
  rw [dec_big (by omega)]
  congr 2
  · congr 1;omega
  · congr 3;omega
theorem dec_eq_zero (r:Nat):decDigits r = [48] ↔ r = 0:=by
  rw [← dec_zero];exact ⟨fun h => dec_inj h,fun h => by rw [h]⟩
theorem dec_len_mono {m n:Nat} (h:m ≤ n):(decDigits m).length ≤ (decDigits n).length:=by
  rcases Nat.lt_or_ge (decDigits n).length (decDigits m).length with h1 | h1
  · have:=dec_len_lt h1;omega
  · exact h1
theorem dec_len_ten {R n:Nat} (h:R < 10 * n):(decDigits R).length ≤ (decDigits n).length + 1:=by
  refine (dec_length_lt R _ (by omega)).2 ?_
  have:=(dec_length_lt n _ (dec_length_pos n)).1 (Nat.le_refl _)
  rw [Nat.pow_succ];omega
theorem div_step (Q n r d R j P:Nat) (h:Q * n + r = P) (hR:R = 10 * r + d) (hj:R - j * n < n) (hj2:j * n ≤ R):(Q * 10 + j) * n + (R - j * n) = 10 * P + d:=by
  have:(Q * 10 + j) * n = 10 * (Q * n) + j * n:=by rw [Nat.add_mul];congr 1;rw [Nat.mul_assoc,Nat.mul_comm 10 n,← Nat.mul_assoc,Nat.mul_comm (Q * n) 10]
  omega
end Lum
namespace Go.Proofs.YtbeojahilbglcaaGreatDoor
open Go.RowKit Lum
open Go.Lib (decDigits itoa)
attribute [local go_sem] bs_get bs_extract_end bs_extract_from bs_extract bs_append
theorem r1_divided (m n : Nat) (w : World) (hm : (decDigits m).length ≤ 20000) (hn : (decDigits n).length ≤ 20000) (hn0 : 0 < n) :
    Calls Tryz.prog 157 #[.string ⟨(decDigits m).toArray⟩,.string ⟨(decDigits n).toArray⟩] w fun e w' =>
      e = .returned (.tuple #[.string ⟨(decDigits (m / n)).toArray⟩,.string ⟨(decDigits (m % n)).toArray⟩]) ∧ Below w.heap.size w w':=by
  obtain ⟨i0,hi,hz0,hz1,hz2⟩:=info_parts info_u8
  have hdm:=dec_digits m
  have hnm:=natOf_dec m
  generalize hae:decDigits m = a at *
  have HDM:=Lib.hid hdm;clear hdm
  have HNM:=Lib.hid hnm;clear hnm
  have HAE:=Lib.hid hae;clear hae
  go_enter Tryz.func157,Tryz.ntmps157
  go_wp2
  go_loopw [6, 7, 8, 9] (fun v rs q _ wr => ∃ (p : Option Addr) (cc i Q r : Nat), v = .slice p (outD Q).length cc ∧ rs = .string ⟨(decDigits r).toArray⟩ ∧ q = .int .i64 i ∧ i ≤ a.length ∧ r < n ∧ Hid (Q * n + r = natOf (a.take i)) ∧ (outD Q).length ≤ i ∧
    Hid (OwnN .u8 w.heap.size 5 wr p cc ((outD Q).map (·.toNat))) ∧ Below w.heap.size w wr) (fun _ _ q _ _ => a.length - (intOf q).toNat)
  case atStart =>
    exact ⟨none,0,0,0,0,rfl,by rw [dec_zero],rfl,by omega,hn0,(show _ = _ by simp [natOf]),by simp [outD],OwnN.nil _ _ _ _,Below.refl _ _⟩
  case round =>
    obtain ⟨p,cc,i,Q,r,rfl,rfl,rfl,hil,hr,HQ,hlo,HO,hb⟩:=hrel
    by_cases h1:i < a.length
    · have hdg:=(isDig_iff a[i]).1 (by have:=HDM.out;rw [List.all_eq_true] at this;exact this _ (List.getElem_mem h1))
      have hde:=dig_eq ((isDig_iff a[i]).2 hdg)
      have hnt:=natOf_take a i h1
      have hone:(a.drop i).take 1 = [a[i]]:=by rw [List.drop_eq_getElem_cons h1];rfl
      obtain ⟨d,hdd⟩:∃ d,d = a[i].toNat - 48:=⟨_,rfl⟩
      rw [← hdd] at hde hnt
      have hd10:d < 10:=by omega
      rw [hde] at hone
      clear hdd hde hdg
      have HNT:=Lib.hid hnt;clear hnt
      have hR:10 * r + d < 10 * n:=by omega
      obtain ⟨R,hRe⟩:∃ R,R = 10 * r + d:=⟨_,rfl⟩
      rw [← hRe] at hR
      have hcase:(decDigits r = [48] ∧ (a.drop i).take 1 = decDigits R) ∨ ((decDigits r == [48]) = false ∧ (a.drop i).take 1 = [UInt8.ofNat (48 + d)] ∧ decDigits r ++ [UInt8.ofNat (48 + d)] = decDigits R):=by
        by_cases h0:r = 0
        · subst h0
          left;refine ⟨dec_zero,?_⟩
          rw [hone,hRe,show 10 * 0 + d = d by omega,dec_small hd10]
        · right
          refine ⟨?_,hone,by rw [hRe,dec_snoc r d h0 hd10]⟩
          rw [beq_eq_false_iff_ne];exact fun h => h0 ((dec_eq_zero r).1 h)
      have HRE:=Lib.hid hRe;clear hRe hone
      have hrl:=dec_len_mono (Nat.le_of_lt hr)
      have hrl2:(decDigits r).length ≤ 20000:=by omega
      clear hrl
      have hRl:=dec_len_ten hR
      have HRL:=Lib.hid hRl;clear hRl
      rcases hcase with ⟨h0,hone⟩ | ⟨h0,hone,hsn⟩
      all_goals
        first | (have HSN:=Lib.hid hsn;clear hsn) | (have HSN:=trivial)
        go_wp2
        clear h0 hone
        go_loopw [7,9] (fun rs q wi => ∃ (j:Nat),rs = .string ⟨(decDigits (R - j * n)).toArray⟩ ∧ q = .int .u8 (48 + j:Nat) ∧ Hid (j * n ≤ R) ∧ j ≤ 9 ∧ Hid (OwnN .u8 w.heap.size 5 wi p cc ((outD Q).map (·.toNat))) ∧ Below w.heap.size w wi) (fun _ q _ => 58 - (intOf q).toNat)
        case atStart =>
          refine ⟨0,?_,rfl,(show _ ≤ _ by omega),by omega,HO,hb⟩
          first | (simp;done) | exact val_str (by have:=HSN.out;simp at this ⊢;exact this)
        case round =>
          obtain ⟨j,rfl,rfl,hj,hj9,HOj,hbj⟩:=hrel
          have hcl:=dec_len_mono (Nat.sub_le R (j * n))
          have hcl2:(decDigits (R - j * n)).length ≤ 40000:=by have:=HRL.out;omega
          have hmi:=r1_compare (R - j * n) n wr (by omega) (by omega)
          have HMI:=Lib.hid hmi;clear hmi hcl
          by_cases hge:n ≤ R - j * n
          · have hcm:cmpN (R - j * n) n = 0 ∨ cmpN (R - j * n) n = 1:=by unfold cmpN;split <;> (try split) <;> omega
            have hcm2:(0:Int) ≤ cmpN (R - j * n) n:=by omega
            clear hcm
            have hj10:j + 1 ≤ 9:=by
              have:(j + 1) * n ≤ R:=by rw [Nat.add_mul];omega
              rcases Nat.lt_or_ge 9 (j + 1) with h | h
              · have:=Nat.mul_le_mul_right n h;omega
              · exact h
            have hmm:=fun W => r1_minus (R - j * n) n W (by omega) (by omega) hge
            have he:R - j * n - n = R - (j + 1) * n:=by rw [Nat.add_mul];omega
            rw [he] at hmm
            have hj2:(j + 1) * n ≤ R:=by rw [Nat.add_mul];omega
            have HJ2:=Lib.hid hj2
            have HMM:=Lib.hid hmm;clear hmm he hj2
            clear hge
            generalize cmpN (R - j * n) n = cmp at *
            go_wp2_with (first | (go_at_call 117;refine HMI.out.mono ?_;rintro e w3 ⟨rfl,hb3⟩) | (go_at_call 118;refine (HMM.out _).mono ?_;rintro e w4 ⟨rfl,hb4⟩))
            go_roundw
            case rel => exact ⟨j + 1,rfl,val_int (by omega),HJ2.out,hj10,(HOj.out.keep hb3).keep hb4,(hbj.trans (hb3.mono hbj.size)).trans (hb4.mono (Nat.le_trans hbj.size hb3.size))⟩
            case measure => simp [intOf];omega
          · have hcm:cmpN (R - j * n) n = -1:=by unfold cmpN;rw [if_pos (by omega)]
            have hRn:R - j * n < n:=by omega
            have hstep:=div_step Q n r d R j _ HQ.out HRE.out hRn hj.out
            rw [← HNT.out] at hstep
            have HST:=Lib.hid hstep;clear hstep hge
            have HRN:=Lib.hid hRn;clear hRn
            by_cases hj0:j = 0
            · have hj0':((48:Int) + (j:Int) != 48) = false:=by simp [hj0]
              by_cases hQ0:Q = 0
              · have hl0:(outD Q).length = 0:=by rw [hQ0];rfl
                have hy:=outD_no Q j hj0 hQ0
                have HY:=Lib.hid hy
                have HJ0:=Lib.hid hj0
                clear hy hj0 hQ0
                go_wp2_with (go_at_call 117;refine HMI.out.mono ?_;rintro e w3 ⟨rfl,hb3⟩)
                go_roundw
                case rel =>
                  refine ⟨p,cc,i + 1,Q * 10 + j,R - j * n,?_,rfl,by go_num,by omega,HRN.out,(show _ = _ by rw [HST.out]),?_,?_,hbj.trans (hb3.mono hbj.size)⟩
                  · rw [HY.out];simp [hl0]
                  · rw [HY.out];omega
                  · show OwnN _ _ _ _ _ _ _
                    rw [HY.out];exact HOj.out.keep hb3
                case measure => simp [intOf];omega
              · have hl0:0 < (outD Q).length:=by
                  have:=mt (outD_nil Q).1 hQ0
                  cases h:outD Q with
                  | nil => exact absurd h this
                  | cons => simp
                have hy:=outD_yes Q j (by omega) (.inr hQ0)
                have HY:=Lib.hid hy
                clear hy hj0 hQ0
                go_wp2_with (first | (go_at_call 117;refine HMI.out.mono ?_;rintro e w3 ⟨rfl,hb3⟩;have hO3:=HOj.out.keep hb3;have hbt:=hbj.trans (hb3.mono hbj.size);have hbs:=hbt.size) | (at_builtin;refine wpList_appN rfl _ _ 202 rfl .u8 w.heap.size 5 i0 (.int .u8 0) 1 Tryz.underlying202 hi hz0 hz1 hz2 rfl (by decide) p cc ((outD Q).map (·.toNat)) _ (48 + j) _ (by omega) (by rw [List.length_map];rfl) hO3 rfl (by rw [List.length_map];omega) hbs ?_;rintro p2 c2 w2 hO2 hb2))
                go_roundw
                case rel =>
                  refine ⟨p2,c2,i + 1,Q * 10 + j,R - j * n,?_,rfl,by go_num,by omega,HRN.out,(show _ = _ by rw [HST.out]),?_,?_,hbt.trans hb2⟩
                  · rw [HY.out];simp
                  · rw [HY.out];simp;omega
                  · show OwnN _ _ _ _ _ _ _
                    rw [HY.out,List.map_append,show [UInt8.ofNat (48 + j)].map (·.toNat) = [48 + j] by rw [List.map_cons,List.map_nil,dig_toNat (by omega)]]
                    exact hO2
                case measure => simp [intOf];omega
            · have hj0':((48:Int) + (j:Int) != 48) = true:=by simp;omega
              have hy:=outD_yes Q j (by omega) (.inl hj0)
              have HY:=Lib.hid hy
              clear hy
              go_wp2_with (first | (go_at_call 117;refine HMI.out.mono ?_;rintro e w3 ⟨rfl,hb3⟩;have hO3:=HOj.out.keep hb3;have hbt:=hbj.trans (hb3.mono hbj.size);have hbs:=hbt.size) | (at_builtin;refine wpList_appN rfl _ _ 202 rfl .u8 w.heap.size 5 i0 (.int .u8 0) 1 Tryz.underlying202 hi hz0 hz1 hz2 rfl (by decide) p cc ((outD Q).map (·.toNat)) _ (48 + j) _ (by omega) (by rw [List.length_map];rfl) hO3 rfl (by rw [List.length_map];omega) hbs ?_;rintro p2 c2 w2 hO2 hb2))
              go_roundw
              case rel =>
                refine ⟨p2,c2,i + 1,Q * 10 + j,R - j * n,?_,rfl,by go_num,by omega,HRN.out,(show _ = _ by rw [HST.out]),?_,?_,hbt.trans hb2⟩
                · rw [HY.out];simp
                · rw [HY.out];simp;omega
                · show OwnN _ _ _ _ _ _ _
                  rw [HY.out,List.map_append,show [UInt8.ofNat (48 + j)].map (·.toNat) = [48 + j] by rw [List.map_cons,List.map_nil,dig_toNat (by omega)]]
                  exact hO2
              case measure => simp [intOf];omega
    · obtain rfl:i = a.length:=by omega
      have hq:=HQ.out
      rw [List.take_of_length_le (Nat.le_refl _),HNM.out] at hq
      have hQm:Q = m / n:=by
        rw [← hq,Nat.add_comm,Nat.add_mul_div_right _ _ hn0,Nat.div_eq_of_lt hr];omega
      have hrm:r = m % n:=by
        rw [← hq,Nat.add_comm,Nat.add_mul_mod_self_right,Nat.mod_eq_of_lt hr]
      have HQM:=Lib.hid hQm
      have HRM:=Lib.hid hrm
      have hO:=HO.out.nats
      clear hq hQm hrm HO HQ
      by_cases hQ0:Q = 0
      · have hl0:(outD Q).length = 0:=by rw [hQ0];rfl
        have HQ0:=Lib.hid hQ0;clear hQ0
        go_wp2
        go_ret2
        exact ⟨by rw [← HQM.out,← HRM.out,HQ0.out,dec_zero];rfl,hb⟩
      · have ho:outD Q = decDigits Q:=by rw [outD,if_neg hQ0]
        rw [ho] at hO
        rw [List.length_map] at hO
        have hl0:(((outD Q).length:Int) == 0) = false:=by
          have:=dec_length_pos Q
          rw [beq_eq_false_iff_ne,ho];omega
        have kc:=conv_nats (P:=Tryz.prog) 202 9 5 Tryz.underlying202 Tryz.underlying5 Tryz.underlying9 wr p cc (decDigits Q) hO (dec_ne Q)
        rw [← ho] at kc
        have HOE:=Lib.hid ho
        clear hO ho hQ0
        go_wp2
        go_ret2
        exact ⟨by rw [← HQM.out,← HRM.out,HOE.out];rfl,hb⟩
end Go.Proofs.YtbeojahilbglcaaGreatDoor

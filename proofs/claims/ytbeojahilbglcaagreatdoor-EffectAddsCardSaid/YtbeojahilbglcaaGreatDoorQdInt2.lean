/- A part of the proof of EffectAdds: contracts of functions, and plain facts. -/
import Derived.Test.YtbeojahilbglcaaGreatDoorQdInt1
import Derived.Test.YtbeojahilbglcaaGreatDoorQdMi
import Derived.Test.YtbeojahilbglcaaGreatDoorQdMd
import Derived.Lib.AtoiErrMem
set_option maxHeartbeats 1000000
set_option maxRecDepth 20000
set_option linter.unusedVariables false
set_option linter.unusedSimpArgs false
namespace Lum
open Go Go.RowKit Go.Shelf
open Go.Lib (decDigits itoa)
theorem parseM_digits (t:Txt):∀ acc:Nat,t.all isDig = true → (acc + 1) * 10 ^ t.length ≤ 10 ^ 9 → Lib.parseUintM (2 ^ 64 - 1) acc t = .ok (acc * 10 ^ t.length + natOf t):=by
  induction t with
  | nil => intro acc _ _;simp [Lib.parseUintM,natOf]
  | cons c r ih =>
    intro acc hd hb
    simp only [List.all_cons,Bool.and_eq_true] at hd
    obtain ⟨h1,h2⟩:=hd
    have h3:=(isDig_iff c).1 h1
    have hp:1 ≤ 10 ^ r.length:=Nat.one_le_pow _ _ (by omega)
    rw [List.length_cons,Nat.pow_succ] at hb
    have hb2:(acc + 1) * 10 ≤ 10 ^ 9:=by
      calc (acc + 1) * 10 = (acc + 1) * (1 * 10) := by omega
        _ ≤ (acc + 1) * (10 ^ r.length * 10):=Nat.mul_le_mul_left _ (Nat.mul_le_mul_right _ hp)
        _ ≤ 10 ^ 9:=hb
    unfold Lib.parseUintM
    rw [if_pos h3,if_neg (by omega),if_neg (by omega),ih _ h2,natOf_cons,List.length_cons,Nat.pow_succ]
    · congr 1
      rw [Nat.add_mul,Nat.mul_assoc,Nat.mul_comm 10];omega
    · refine Nat.le_trans (Nat.mul_le_mul_right _ (show acc * 10 + (c.toNat - 48) + 1 ≤ (acc + 1) * 10 by omega)) ?_
      rw [Nat.mul_assoc,Nat.mul_comm 10];exact hb
theorem parse_digits (t:Txt) (hd:t.all isDig = true) (h0:t ≠ []) (hl:t.length ≤ 9):Lib.parseUintB 64 t = .ok (natOf t):=by
  unfold Lib.parseUintB
  rw [if_neg h0,parseM_digits t 0 hd]
  · simp
  · rw [Nat.zero_add,Nat.one_mul];exact Nat.pow_le_pow_right (by omega) hl
theorem seg_lt9 (l:Txt) (ha:l.all isDig = true) (a m:Nat) (h:m ≤ a + 9):seg l a m < B9:=by
  unfold seg
  have hd:((l.drop a).take (m - a)).all isDig = true:=by
    rw [List.all_eq_true] at ha ⊢
    intro x hx
    exact ha x (List.mem_of_mem_drop (List.mem_of_mem_take hx))
  refine Nat.lt_of_lt_of_le (natOf_lt _ hd) ?_
  rw [B9_eq]
  refine Nat.pow_le_pow_right (by omega) ?_
  rw [List.length_take];omega
end Lum
namespace Go.Proofs.YtbeojahilbglcaaGreatDoor
open Go.RowKit Go.Shelf Lum
open Go.Lib (decDigits itoa)
attribute [local go_sem] bs_get bs_extract_end bs_extract_from bs_extract bs_append
theorem sh_parse (t : Txt) (w : World) (hd : t.all isDig = true) (h0 : t ≠ []) (hl : t.length ≤ 9) :
    Calls Tryz.prog 270 #[.string ⟨t.toArray⟩,.int .i64 10,.int .i64 64] w fun e w' => e = .returned (.tuple #[.int .u64 (natOf t:Nat),.nilIface]) ∧ Below w.heap.size w w' :=
  (Any.strconv_ParseUint_10_at64_ok Tryz.laysPu14 ⟨t.toArray⟩ (by simp [ByteArray.size];omega) (natOf t) (by simpa using parse_digits t hd h0 hl) w).mono fun e w' ⟨h1,h2⟩ => ⟨h1,by
    rcases h2 with rfl | rfl
    · exact Below.refl _ _
    · exact Lib.bytesWorld_below _ _ _⟩
theorem sh_parse_at (l : Txt) (a m : Nat) (w : World) (hd : l.all isDig = true) (h0 : a < m) (hm : m ≤ l.length) (hl : m ≤ a + 9) :
    Calls Tryz.prog 270 #[.string ⟨((l.drop a).take (m - a)).toArray⟩,.int .i64 10,.int .i64 64] w fun e w' => e = .returned (.tuple #[.int .u64 (seg l a m:Nat),.nilIface]) ∧ Below w.heap.size w w':=by
  refine sh_parse _ w ?_ ?_ ?_
  · rw [List.all_eq_true] at hd ⊢
    intro x hx
    exact hd x (List.mem_of_mem_drop (List.mem_of_mem_take hx))
  · apply List.ne_nil_of_length_pos
    rw [List.length_take,List.length_drop];omega
  · rw [List.length_take];omega
theorem own_read (x : Int) (w : World) (hx : dl x ≤ 100000) :
    Calls Tryz.prog 248 #[.string ⟨(itoa x).toArray⟩] w fun e w' => ∃ b p n c,e = .returned (.agg #[.bool b,.slice p n c]) ∧ NumAt w' b p n c x ∧ Below w.heap.size w w':=by
  obtain ⟨i0,hi,hz0,hz1,hz2⟩:=info_parts info_u64
  have hbr:=fun W => own_bare (itoa x) W
  simp only [body_itoa,minus_itoa] at hbr
  have HBR:=Lib.hid hbr;clear hbr
  have hd:(decDigits x.natAbs).all isDig = true:=dec_digits _
  have hn:natOf (decDigits x.natAbs) = x.natAbs:=natOf_dec _
  unfold dl at hx
  generalize decDigits x.natAbs = l at *
  have HD:=Lib.hid hd;clear hd
  have HN:=Lib.hid hn;clear hn
  have hB:=(Below.refl w.heap.size w).alloc (Nat.le_refl _) (.cells #[.bool false,.slice none 0 0] 245)
  have x1:=NBox.new w 245 false none 0 0
  go_enter Tryz.func248,Tryz.ntmps248
  go_wp2_with fail
  generalize w.alloc (.cells #[.bool false,.slice none 0 0] 245) = W0 at *
  refine (HBR.out _).mono ?_
  rintro e w' ⟨rfl,rfl⟩
  have X1:=Lib.hid x1;clear x1
  go_wp2
  go_loopw [5, 6, 7, 8] (fun v q _ _ wr => ∃ (p : Option Addr) (c : Nat) (ws : List Nat) (i : Int), v = .slice p ws.length c ∧ q = .int .i64 i ∧ i ≤ l.length ∧ -8 ≤ i ∧ Hid (Worded B9 (natOf l) l i ws) ∧
    Hid (9 * (ws.length:Int) + i = l.length) ∧ Hid (OwnN .u64 W0.heap.size 197 wr p c ws) ∧ Below W0.heap.size W0 wr) (fun _ q _ _ _ => (intOf q).toNat)
  case atStart =>
    exact ⟨none,0,[],l.length,rfl,rfl,by omega,by omega,⟨by simp [mv],by simp⟩,(show _ = _ by simp),OwnN.nil _ _ _ _,Below.refl _ _⟩
  case round =>
    obtain ⟨p,c,ws,i,rfl,rfl,hi1,hi2,HW,HS,HO,hb⟩:=hrel
    by_cases hq:0 < i
    · obtain ⟨I,rfl⟩:∃ I:Nat,i = I:=⟨i.toNat,by omega⟩
      obtain ⟨a,ha⟩:∃ a:Nat,a = I - 9:=⟨_,rfl⟩
      have a1:a < I:=by omega
      have a2:I ≤ a + 9:=by omega
      have hstep:=worded_step B9 9 (natOf l) l I ws B9_eq (by omega) HW.out hq hi1
      rw [Int.toNat_natCast,← ha] at hstep
      have hlt:=seg_lt9 l HD.out a I a2
      have hstep:=hstep hlt
      have hp:=fun W => sh_parse_at l a I W HD.out a1 (by omega) a2
      obtain ⟨d,hdd⟩:∃ d,d = seg l a I:=⟨_,rfl⟩
      have hlt2:d < 1000000000:=by rw [hdd];exact hlt
      rw [← hdd] at hstep hlt hp
      have hmx:(max 0 ((I:Int) - 9)).toNat = a:=by omega
      rw [← hmx] at hp
      have HP:=Lib.hid hp;clear hp
      have HST:=Lib.hid hstep;clear hstep
      have HA:=Lib.hid ha;clear ha
      have HDD:=Lib.hid hdd;clear hdd
      clear hmx a1 a2
      have hO:=HO.out
      have hwl:ws.length < 1000000000:=by have:=HS.out;omega
      have hbs:=hb.size
      go_wp2_with fail
      refine (HP.out _).mono ?_
      rintro e w' ⟨rfl,hb5⟩
      have hO5:=hO.keep hb5
      clear hO
      have hbs5:W0.heap.size ≤ w'.heap.size:=Nat.le_trans hbs hb5.size
      go_wp2_with (at_builtin;refine wpList_appN rfl _ _ 243 rfl .u64 W0.heap.size 197 i0 (.int .u64 0) 8 Tryz.underlying243 hi hz0 hz1 hz2 rfl (by decide) p c ws _ d _ rfl rfl hO5 rfl hwl hbs5 ?_;rintro p1 c1 w1 hO1 hb1)
      go_roundw
      case rel => exact ⟨p1,c1,ws ++ [d],I - 9,by simp,rfl,by omega,by omega,HST.out,(show _ = _ by have:=HS.out;simp;omega),hO1,(hb.trans (hb5.mono hbs)).trans hb1⟩
      case measure => simp [intOf];omega
    · have h1:=HW.out.1
      rw [show i.toNat = 0 by omega] at h1
      have h2:mv B9 ws = x.natAbs:=by rw [← HN.out,← h1];simp [natOf]
      have hcut:=fun W (h:NatsAt .u64 W (.slice p ws.length c) ws) => cut_any p c ws W h HW.out.2 (by have:=HS.out;omega)
      rw [h2] at hcut
      have HC:=Lib.hid hcut;clear hcut h1 h2
      go_wp2_with fail
      refine (HC.out _ (OwnN.nats HO.out)).mono ?_
      rintro e w4 ⟨p',n',c',rfl,hM,hb4⟩
      have HM:=Lib.hid hM;clear hM
      have hbw:Below W0.heap.size W0 w4:=hb.trans (hb4.mono hb.size)
      have x4:=X1.out.keep hbw
      obtain ⟨k1,k2,f1,f2,l1⟩:=id x4
      have HX:=Lib.hid x4;clear x4
      go_wp2_with fail
      refine bodyPost_ret_by (v:=.agg #[.bool (decide (x < 0)),.slice p' n' c']) (by simp [results,Tryz.f248,go_sem,k1,k2]) rfl ?_
      refine ⟨_,_,_,_,rfl,⟨rfl,magSet2 HM.out k1 k2 _ _⟩,(((hB.trans (hbw.mono hB.size)).setCell (p:=⟨w.heap.size,0,none⟩) (Nat.le_refl _) _).setCell (p:=⟨w.heap.size,1,none⟩) (Nat.le_refl _) _)⟩
end Go.Proofs.YtbeojahilbglcaaGreatDoor

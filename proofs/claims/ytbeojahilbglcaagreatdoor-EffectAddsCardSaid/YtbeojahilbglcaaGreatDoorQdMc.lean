/- A part of the proof of EffectAdds: contracts of functions, and plain facts. -/
import Derived.Test.YtbeojahilbglcaaGreatDoorQdMb
import Derived.Deep.QuietTactic
import Derived.BigQuiet
set_option maxHeartbeats 400000
set_option maxRecDepth 20000
set_option linter.unusedVariables false
set_option linter.unusedSimpArgs false
namespace Lum
theorem all_take (l:Txt) (k:Nat) (h:k < l.length) (ha:(l.take k).all isDig = true) (hd:isDig l[k] = true):(l.take (k + 1)).all isDig = true:=by
  rw [List.take_succ_eq_append_getElem h,List.all_append,ha];simpa using hd
theorem body_le (l:Txt):(body l).length ≤ l.length:=by
  unfold body;split
  · rw [List.length_tail];omega
  · exact Nat.le_refl _
theorem not_all (l:Txt) (k:Nat) (h:k < l.length) (hd:(l[k].toNat:Int) < 48 ∨ 57 < (l[k].toNat:Int)):l.all isDig = false:=by
  rw [List.all_eq_false]
  refine ⟨l[k],List.getElem_mem h,?_⟩
  rw [isDig_iff];omega
end Lum
namespace Go.Proofs.YtbeojahilbglcaaGreatDoor
open Go.RowKit Lum
open Go.Lib (decDigits itoa)
attribute [local go_sem] bs_get bs_extract_end bs_extract_from bs_extract bs_append
theorem r1_check (l : Txt) (w : World) (hl : l.length ≤ 1000000) :
    Calls Tryz.prog 106 #[.string ⟨l.toArray⟩] w fun e w' => e = .returned (.int .i64 (intCheck l)) ∧ w = w':=by
  have hbl:(body l).length ≤ 1000000:=Nat.le_trans (body_le l) hl
  have hB:=r1_body l w
  have hI : intCheck l = if body l = [] ∨ ((body l).head? = some 48 ∧ 1 < l.length) then 3
      else if (body l).all isDig = false then 3 else if 4096 < (body l).length then 23 else 0:=rfl
  generalize body l = b at *
  have HI:=Lib.hid hI;clear hI
  by_cases e0:b = []
  · subst e0
    go_enter Tryz.func106,Tryz.ntmps106
    go_wp2_with (go_at_call 107;refine hB.mono ?_;rintro e w' ⟨rfl,rfl⟩)
    go_ret
    exact ⟨ret_int (by rw [HI.out];rfl),rfl⟩
  · have h0:0 < b.length:=by cases b with
      | nil => exact absurd rfl e0
      | cons => simp
    have hn:((b.length:Int) == 0) = false:=by simp;omega
    have hh:=head_get b h0
    have HH:=Lib.hid hh;clear hh
    have h48:((b[0].toNat:Int) = 48) ↔ b.head? = some 48:=by
      rw [HH.out];constructor
      · intro h;congr 1;apply UInt8.toNat_inj.1;show b[0].toNat = 48;omega
      · intro h;rw [Option.some.inj h];rfl
    have H48:=Lib.hid h48;clear h48
    by_cases h12:(b[0].toNat:Int) = 48 ∧ (1:Int) < (l.length:Int)
    · obtain ⟨h1,h2⟩:=h12
      go_enter Tryz.func106,Tryz.ntmps106
      go_wp2_with (go_at_call 107;refine hB.mono ?_;rintro e w' ⟨rfl,rfl⟩)
      go_ret
      exact ⟨ret_int (by rw [HI.out,if_pos (.inr ⟨H48.out.1 h1,by omega⟩)]),rfl⟩
    · have hI2:intCheck l = if b.all isDig = false then 3 else if 4096 < b.length then 23 else 0:=by
        rw [HI.out,if_neg]
        rintro (h | h)
        · exact e0 h
        · exact h12 ⟨H48.out.2 h.1,by omega⟩
      have HI2:=Lib.hid hI2;clear hI2
      have hcase:((b[0].toNat:Int) = 48 ∧ decide ((1:Int) < (l.length:Int)) = false) ∨ ((b[0].toNat:Int) == 48) = false:=by
        by_cases h1:(b[0].toNat:Int) = 48
        · exact .inl ⟨h1,by simpa using fun h => h12 ⟨h1,h⟩⟩
        · exact .inr (by simpa using h1)
      clear h12
      rcases hcase with ⟨h1,h2⟩ | h1
      all_goals
        go_enter Tryz.func106,Tryz.ntmps106
        go_wp2_with (go_at_call 107;refine hB.mono ?_;rintro e w' ⟨rfl,rfl⟩)
        go_loop [4] (fun i => ∃ k:Nat,k ≤ b.length ∧ i = .int .i64 k ∧ (b.take k).all isDig = true) (fun i => b.length - (intOf i).toNat)
        case atStart => exact ⟨0,Nat.zero_le _,rfl,by simp⟩
        case round =>
          obtain ⟨k,hk,rfl,ha⟩:=hrel
          have HA:=Lib.hid ha;clear ha
          by_cases hlt:k < b.length
          · by_cases hdg:isDig b[k] = true
            · have hx:=(isDig_iff _).1 hdg
              have HD:=Lib.hid hdg;clear hdg
              go_wp2
              go_round
              case rel => exact ⟨k + 1,by omega,by go_num,all_take b k hlt HA.out HD.out⟩
              case measure => simp [intOf];omega
            · have hx:¬ (48 ≤ b[k].toNat ∧ b[k].toNat ≤ 57):=fun h => hdg ((isDig_iff _).2 h)
              clear hdg
              go_wp2
              all_goals go_ret
              all_goals exact ⟨ret_int (by rw [HI2.out,if_pos (not_all b k hlt (by omega))]),rfl⟩
          · have hk2:b.take k = b:=List.take_of_length_le (by omega)
            have hall:b.all isDig = true:=by rw [← hk2];exact HA.out
            have HL:=Lib.hid hall;clear hall hk2
            go_wp2
            all_goals go_ret
            all_goals refine ⟨ret_int ?_,rfl⟩
            · rw [HI2.out,if_neg (by rw [HL.out];simp),if_pos (by omega)]
            · rw [HI2.out,if_neg (by rw [HL.out];simp),if_neg (by omega)]
theorem natOf_take (l:Txt) (k:Nat) (h:k < l.length):natOf (l.take (k + 1)) = 10 * natOf (l.take k) + (l[k].toNat - 48):=by
  rw [List.take_succ_eq_append_getElem h,natOf_snoc]
theorem natOf_take_lt (l:Txt) (h:l.all isDig = true) (k:Nat) (hk:k ≤ 17):natOf (l.take k) < 100000000000000000:=by
  have h1:(l.take k).all isDig = true:=by
    rw [List.all_eq_true] at h ⊢
    exact fun c hc => h c (List.mem_of_mem_take hc)
  refine Nat.lt_of_lt_of_le (natOf_lt _ h1) (Nat.le_trans (Nat.pow_le_pow_right (by omega) (?_:_ ≤ 17)) (by decide))
  simp;omega
theorem r1_number (z : Int) (w : World) (hz : (itoa z).length ≤ 17) :
    Calls Tryz.prog 114 #[.string ⟨(itoa z).toArray⟩] w fun e w' => e = .returned (.int .i64 z) ∧ w = w':=by
  have hb:=body_itoa z
  have hB:=r1_body (itoa z) w
  have hS:=r1_sign (itoa z)
  have hbl:=body_le (itoa z)
  have hd:=dec_digits z.natAbs
  have hn:=natOf_dec z.natAbs
  rw [hb] at hB hbl
  have hs:sgnT (itoa z) < 0 ↔ z < 0:=by
    unfold sgnT
    rw [minus_itoa]
    by_cases h0:z = 0
    · subst h0;simp [itoa_zero]
    · rw [if_neg (fun h => h0 (itoa_inj (h.trans itoa_zero.symm)))]
      by_cases h1:z < 0 <;> simp [h1]
  generalize itoa z = l at *
  generalize decDigits z.natAbs = b at *
  have HN:=Lib.hid hn;clear hn
  have HD:=Lib.hid hd;clear hd
  clear hb
  go_enter Tryz.func114,Tryz.ntmps114
  go_wp2_with (go_at_call 107;refine hB.mono ?_;rintro e w' ⟨rfl,rfl⟩)
  go_loop [3,5] (fun n i => ∃ k:Nat,k ≤ b.length ∧ i = .int .i64 k ∧ n = .int .i64 (natOf (b.take k))) (fun _ i => b.length - (intOf i).toNat)
  case atStart => exact ⟨0,Nat.zero_le _,rfl,rfl⟩
  case round =>
    obtain ⟨k,hk,rfl,rfl⟩:=hrel
    by_cases hlt:k < b.length
    · have h1:=natOf_take b k hlt
      have h2:=natOf_take_lt b HD.out k (by omega)
      have h3:=(isDig_iff b[k]).1 (by have:=HD.out;rw [List.all_eq_true] at this;exact this _ (List.getElem_mem hlt))
      have H1:=Lib.hid h1;clear h1
      go_wp2
      go_round
      case rel => exact ⟨k + 1,by omega,by go_num,val_int (by rw [H1.out];omega)⟩
      case measure => simp [intOf];omega
    · have hk2:b.take k = b:=List.take_of_length_le (by omega)
      rw [hk2]
      have h2:=natOf_take_lt b HD.out k (by omega)
      rw [hk2] at h2
      clear hk2
      go_wp2_with (go_at_call 69;refine (hS _).mono ?_;rintro e w' ⟨rfl,rfl⟩)
      all_goals go_ret
      all_goals refine ⟨ret_int ?_,rfl⟩
      all_goals (rw [HN.out];omega)
end Go.Proofs.YtbeojahilbglcaaGreatDoor
namespace Lum
open Go.Lib (decDigits itoa)
def Cutting (a k:Nat) (s:Txt):Prop:=(k = 0 ∧ s = decDigits a) ∨ (k ≠ 0 ∧ decDigits k ++ s = decDigits a)
theorem cutting_start (a:Nat) (h:a ≠ 0):Cutting a a []:=.inr ⟨h,by simp⟩
theorem cutting_step (a k:Nat) (s:Txt) (h:Cutting a k s) (hk:k ≠ 0):Cutting a (k / 10) (UInt8.ofNat (48 + k % 10) :: s):=by
  rcases h with h | ⟨_,h⟩
  · exact absurd h.1 hk
  · by_cases h10:k < 10
    · rw [dec_small h10] at h
      exact .inl ⟨by omega,by rw [Nat.mod_eq_of_lt h10];simpa using h⟩
    · rw [dec_big h10] at h
      exact .inr ⟨by omega,by simpa using h⟩
theorem tdiv_neg10 (q:Int) (h:q < 0):q.tdiv 10 = -(-q / 10) ∧ q.tmod 10 = -(-q % 10):=by
  obtain ⟨p,rfl⟩:∃ p,q = -p:=⟨-q,by omega⟩
  rw [Int.neg_tdiv,Int.neg_tmod,Int.tdiv_eq_ediv_of_nonneg (by omega),Int.tmod_eq_emod_of_nonneg (by omega),Int.neg_neg]
  exact ⟨rfl,rfl⟩
theorem tdiv_pos10 (q:Int) (h:0 ≤ q):q.tdiv 10 = q / 10 ∧ q.tmod 10 = q % 10 :=
  ⟨Int.tdiv_eq_ediv_of_nonneg h,Int.tmod_eq_emod_of_nonneg h⟩
theorem cutting_neg (a : Nat) (q : Int) (l : Txt) (h : Cutting a q.natAbs l) (h0 : -9223372036854775808 ≤ q) (hq : q < 0) :
    Cutting a (Go.RowKit.wrap64 (q.tdiv 10)).natAbs (UInt8.ofNat (Go.RowKit.wrap64 (48 + Go.RowKit.wrap64 (-q.tmod 10)) % 256).toNat :: l):=by
  have h1:=cutting_step a q.natAbs l h (by omega)
  obtain ⟨t1,t2⟩:=tdiv_neg10 q hq
  have e1:Go.RowKit.wrap64 (q.tdiv 10) = q.tdiv 10:=wr64 (by omega) (by omega)
  have e2:(q.tdiv 10).natAbs = q.natAbs / 10:=by omega
  have e3:Go.RowKit.wrap64 (-q.tmod 10) = -q.tmod 10:=wr64 (by omega) (by omega)
  have e4:Go.RowKit.wrap64 (48 + -q.tmod 10) = 48 + -q.tmod 10:=wr64 (by omega) (by omega)
  have e5:((48 + -q.tmod 10) % 256).toNat = 48 + q.natAbs % 10:=by omega
  rw [e1,e2,e3,e4,e5];exact h1
theorem cutting_pos (a : Nat) (q : Int) (l : Txt) (h : Cutting a q.natAbs l) (h0 : -9223372036854775808 ≤ q ∧ q ≤ 9223372036854775807) (hq : q ≠ 0) (hd : 0 ≤ q.tmod 10) :
    Cutting a (Go.RowKit.wrap64 (q.tdiv 10)).natAbs (UInt8.ofNat (Go.RowKit.wrap64 (48 + q.tmod 10) % 256).toNat :: l):=by
  have h1:=cutting_step a q.natAbs l h (by omega)
  rcases Int.lt_or_le q 0 with h2 | h2
  · obtain ⟨t1,t2⟩:=tdiv_neg10 q h2
    have e1:Go.RowKit.wrap64 (q.tdiv 10) = q.tdiv 10:=wr64 (by omega) (by omega)
    have e2:(q.tdiv 10).natAbs = q.natAbs / 10:=by omega
    have e4:Go.RowKit.wrap64 (48 + q.tmod 10) = 48 + q.tmod 10:=wr64 (by omega) (by omega)
    have e5:((48 + q.tmod 10) % 256).toNat = 48 + q.natAbs % 10:=by omega
    rw [e1,e2,e4,e5];exact h1
  · obtain ⟨t1,t2⟩:=tdiv_pos10 q (by omega)
    have e1:Go.RowKit.wrap64 (q.tdiv 10) = q.tdiv 10:=wr64 (by omega) (by omega)
    have e2:(q.tdiv 10).natAbs = q.natAbs / 10:=by omega
    have e4:Go.RowKit.wrap64 (48 + q.tmod 10) = 48 + q.tmod 10:=wr64 (by omega) (by omega)
    have e5:((48 + q.tmod 10) % 256).toNat = 48 + q.natAbs % 10:=by omega
    rw [e1,e2,e4,e5];exact h1
theorem tdiv10 (q : Int) (h0 : -9223372036854775808 ≤ q ∧ q ≤ 9223372036854775807) (hq : q ≠ 0) :
    Go.RowKit.wrap64 (q.tdiv 10) = q.tdiv 10 ∧ (0 ≤ q → 0 ≤ q.tdiv 10 ∧ q.tdiv 10 ≤ q) ∧ (q ≤ 0 → q.tdiv 10 ≤ 0 ∧ q ≤ q.tdiv 10) ∧ (q.tdiv 10).natAbs < q.natAbs:=by
  rcases Int.lt_or_le q 0 with h2 | h2
  · obtain ⟨t1,t2⟩:=tdiv_neg10 q h2
    have e1:Go.RowKit.wrap64 (q.tdiv 10) = q.tdiv 10:=wr64 (by omega) (by omega)
    omega
  · obtain ⟨t1,t2⟩:=tdiv_pos10 q (by omega)
    have e1:Go.RowKit.wrap64 (q.tdiv 10) = q.tdiv 10:=wr64 (by omega) (by omega)
    omega
theorem cutting_len (a k:Nat) (l:Txt) (h:Cutting a k l):l.length ≤ (decDigits a).length:=by
  rcases h with h | ⟨_,h⟩
  · rw [h.2];exact Nat.le_refl _
  · rw [← h];simp
theorem cutting_end (a:Nat) (s:Txt) (h:Cutting a 0 s):s = decDigits a:=by
  rcases h with h | h
  · exact h.2
  · exact absurd rfl h.1
def cmpN (m n:Nat):Int:=if m < n then -1 else if n < m then 1 else 0
theorem digit_head (a b : Txt) (k : Nat) (ha : a.all isDig = true) (hb : b.all isDig = true) (hl : a.length = b.length) (h : k < a.length) (he : a.take k = b.take k)
    (hlt:(a[k].toNat:Int) < (b[k]'(by omega)).toNat):natOf a < natOf b:=by
  have ea:a = a.take k ++ (a[k] :: a.drop (k + 1)):=by rw [List.getElem_cons_drop,List.take_append_drop]
  have eb:b = b.take k ++ (b[k]'(by omega) :: b.drop (k + 1)):=by rw [List.getElem_cons_drop,List.take_append_drop]
  have da:=natOf_lt (a.drop (k + 1)) (by rw [List.all_eq_true] at ha ⊢;exact fun c hc => ha c (List.mem_of_mem_drop hc))
  have ja:=(isDig_iff a[k]).1 (by rw [List.all_eq_true] at ha;exact ha _ (List.getElem_mem h))
  rw [ea,eb,natOf_append,natOf_append,he,natOf_cons,natOf_cons]
  simp only [List.length_cons,List.length_drop] at da ⊢
  have hbk:k < b.length:=by omega
  have e3:b.length - (k + 1) = a.length - (k + 1):=by omega
  generalize hx:b[k]'hbk = x at *
  generalize b.length - (k + 1) = j at *
  subst e3
  generalize a.length - (k + 1) = m at *
  generalize 10 ^ (m + 1) = q at *
  generalize 10 ^ m = p at *
  generalize natOf (b.take k) * q = z at *
  generalize natOf (b.drop (k + 1)) = y at *
  have:(a[k].toNat - 48 + 1) * p ≤ (x.toNat - 48) * p:=Nat.mul_le_mul_right _ (by omega)
  rw [Nat.add_mul] at this
  omega
theorem dec_len_lt {m n:Nat} (h:(decDigits m).length < (decDigits n).length):m < n:=by
  rcases Nat.lt_or_ge m n with h1 | h1
  · exact h1
  · have h2:=(dec_length_lt m _ (dec_length_pos m)).1 (Nat.le_refl _)
    have:=(dec_length_lt n _ (dec_length_pos m)).2 (Nat.lt_of_le_of_lt h1 h2)
    omega
theorem take_succ_eq (a b:Txt) (k:Nat) (ha:k < a.length) (hb:k < b.length) (he:a.take k = b.take k) (h:(a[k].toNat:Int) = b[k].toNat):a.take (k + 1) = b.take (k + 1):=by
  rw [List.take_succ_eq_append_getElem ha,List.take_succ_eq_append_getElem hb,he]
  congr 2;apply UInt8.toNat_inj.1;omega
end Lum
namespace Go.Proofs.YtbeojahilbglcaaGreatDoor
open Go.RowKit Lum
open Go.Lib (decDigits itoa)
attribute [local go_sem] bs_get bs_extract_end bs_extract_from bs_extract bs_append
theorem r1_whole (n : Int) (w : World) (h0 : -9223372036854775808 ≤ n) (h1 : n ≤ 9223372036854775807) :
    Calls Tryz.prog 113 #[.int .i64 n] w fun e w' => e = .returned (.string ⟨(itoa n).toArray⟩) ∧ Below w.heap.size w w':=by
  by_cases hz:n = 0
  · subst hz
    go_enter Tryz.func113,Tryz.ntmps113
    go_wp2
    go_ret
    exact ⟨ret_str itoa_zero.symm,Below.refl _ _⟩
  · have hz':(n == 0) = false:=by simpa using hz
    go_enter Tryz.func113,Tryz.ntmps113
    go_wp2
    go_loopw [3,4,5] (fun s k _ wr => ∃ (l:Txt) (q:Int),s = .string ⟨l.toArray⟩ ∧ k = .int .i64 q ∧ (0 ≤ n → 0 ≤ q ∧ q ≤ n) ∧ (n < 0 → q ≤ 0 ∧ n ≤ q) ∧ Cutting n.natAbs q.natAbs l ∧ l.length ≤ 20 ∧ Below w.heap.size w wr) (fun _ k _ _ => (intOf k).natAbs)
    case atStart => exact ⟨[],n,rfl,rfl,fun h => ⟨h,by omega⟩,fun h => ⟨by omega,by omega⟩,cutting_start _ (by omega),by simp,Below.refl _ _⟩
    case round =>
      obtain ⟨l,q,rfl,rfl,hp,hm,hc,hl,hb⟩:=hrel
      by_cases hq:q = 0
      · subst hq
        have he:=cutting_end _ l (by simpa using hc)
        have HE:=Lib.hid he
        clear hc he hp hm h0 h1
        by_cases hn:n < 0
        · go_wp2
          go_ret
          refine ⟨ret_str ?_,hb⟩
          have e:=HE.out;unfold itoa;rw [if_pos hn,e]
        · go_wp2
          go_ret
          refine ⟨ret_str ?_,hb⟩
          have e:=HE.out;unfold itoa;rw [if_neg (by omega),e,show n.natAbs = n.toNat by omega]
      · have hq':(q != 0) = true:=by simpa using hq
        have HC:=Lib.hid hc;clear hc
        have Hp:=Lib.hid hp;clear hp
        have Hm:=Lib.hid hm;clear hm
        have H0:=Lib.hid h0;clear h0
        have H1:=Lib.hid h1;clear h1
        clear hz hz'
        have kc:=fun (W:World) (d:Int) => conv_str_one (P:=Tryz.prog) 202 9 5 Tryz.underlying202 Tryz.underlying5 Tryz.underlying9 W d
        go_wp2
        all_goals
          have hn:=Hm.out
          have hp:=Hp.out
          have h0:=H0.out
          have h1:=H1.out
          obtain ⟨hw,t1,t2,t3⟩:=tdiv10 q (by omega) hq
          have hl3:=(dec_length_lt n.natAbs 20 (by omega)).2 (by omega)
        · have hneg:q < 0:=by
            have h:q.tmod 10 < 0:=by assumption
            rcases Int.lt_or_le q 0 with h2 | h2
            · exact h2
            · have:=(tdiv_pos10 q h2).2;omega
          have hc:=cutting_neg _ q l HC.out (by omega) hneg
          have hl2:=cutting_len _ _ _ hc
          go_roundw
          case rel => exact ⟨_,_,rfl,rfl,by omega,by omega,hc,by omega,hb.alloc hb.size _⟩
          case measure => simp only [intOf];rw [hw];omega
        · have hc:=cutting_pos _ q l HC.out (by omega) hq (by assumption)
          have hl2:=cutting_len _ _ _ hc
          go_roundw
          case rel => exact ⟨_,_,rfl,rfl,by omega,by omega,hc,by omega,hb.alloc hb.size _⟩
          case measure => simp only [intOf];rw [hw];omega
theorem r1_compare (m n : Nat) (w : World) (hm : (decDigits m).length ≤ 1000000) (hn : (decDigits n).length ≤ 1000000) :
    Calls Tryz.prog 117 #[.string ⟨(decDigits m).toArray⟩,.string ⟨(decDigits n).toArray⟩] w fun e w' => e = .returned (.int .i64 (cmpN m n)) ∧ Below w.heap.size w w':=by
  have dm:=dec_digits m
  have dn:=dec_digits n
  have em:=natOf_dec m
  have en:=natOf_dec n
  have l1:=@dec_len_lt m n
  have l2:=@dec_len_lt n m
  generalize decDigits m = a at *
  generalize decDigits n = b at *
  have EM:=Lib.hid em;clear em
  have EN:=Lib.hid en;clear en
  have L1:=Lib.hid l1;clear l1
  have L2:=Lib.hid l2;clear l2
  have DM:=Lib.hid dm;clear dm
  have DN:=Lib.hid dn;clear dn
  by_cases hl:a.length = b.length
  · have HL:=Lib.hid hl
    have hl2:((a.length:Int) != (b.length:Int)) = false:=by simp [hl]
    have hb1:b.length ≤ a.length:=by omega
    have hb2:a.length ≤ b.length:=by omega
    clear hl
    go_enter Tryz.func117,Tryz.ntmps117
    go_wp2
    go_loopw [5] (fun i wr => ∃ k:Nat,k ≤ a.length ∧ i = .int .i64 k ∧ a.take k = b.take k ∧ Below w.heap.size w wr) (fun i _ => a.length - (intOf i).toNat)
    case atStart => exact ⟨0,Nat.zero_le _,rfl,by simp,Below.refl _ _⟩
    case round =>
      obtain ⟨k,hk,rfl,he,hb⟩:=hrel
      have HE:=Lib.hid he;clear he
      by_cases hlt:k < a.length
      · have hltb:k < b.length:=by omega
        have i1:(0:Int) ≤ (k:Int):=by omega
        have i2:(k:Int) < (a.length:Int):=by omega
        have i3:(k:Int) < (b.length:Int):=by omega
        by_cases hne:(a[k].toNat:Int) = b[k].toNat
        · have hne':((a[k].toNat:Int) != (b[k].toNat:Int)) = false:=by simp [hne]
          have HNE:=Lib.hid hne;clear hne
          go_wp2
          go_quiet (fail)
          go_wp2
          go_roundw
          case rel => exact ⟨k + 1,by omega,by go_num,take_succ_eq a b k hlt hltb HE.out HNE.out,below_drewN hb _⟩
          case measure => simp [intOf];omega
        · have hne':((a[k].toNat:Int) != (b[k].toNat:Int)) = true:=by simpa using hne
          by_cases hlt2:(a[k].toNat:Int) < (b[k].toNat:Int)
          · go_wp2
            go_quiet (fail)
            go_wp2
            go_quiet (fail)
            go_wp2
            go_ret
            refine ⟨ret_int ?_,below_drewN (below_drewN hb _) _⟩
            have:=digit_head a b k DM.out DN.out HL.out hlt HE.out hlt2
            rw [← EM.out,← EN.out,cmpN,if_pos this]
          · have hgt:(b[k].toNat:Int) < (a[k].toNat:Int):=by omega
            go_wp2
            go_quiet (fail)
            go_wp2
            go_quiet (fail)
            go_wp2
            go_ret
            refine ⟨ret_int ?_,below_drewN (below_drewN hb _) _⟩
            have:=digit_head b a k DN.out DM.out HL.out.symm hltb HE.out.symm hgt
            rw [← EM.out,← EN.out,cmpN,if_neg (by omega),if_pos this]
      · have hall:a = b:=by
          have:=HE.out
          rwa [List.take_of_length_le (by omega),List.take_of_length_le (by omega)] at this
        have HA:=Lib.hid hall;clear hall
        go_wp2
        go_ret
        refine ⟨ret_int ?_,hb⟩
        rw [← EM.out,← EN.out,HA.out,cmpN,if_neg (by omega),if_neg (by omega)]
  · have hl2:((a.length:Int) != (b.length:Int)) = true:=by simp;omega
    by_cases hlt:a.length < b.length
    · go_enter Tryz.func117,Tryz.ntmps117
      go_wp2
      go_ret
      refine ⟨ret_int ?_,Below.refl _ _⟩
      rw [cmpN,if_pos (L1.out hlt)]
    · have hgt:b.length < a.length:=by omega
      go_enter Tryz.func117,Tryz.ntmps117
      go_wp2
      go_ret
      refine ⟨ret_int ?_,Below.refl _ _⟩
      have:=L2.out hgt
      rw [cmpN,if_neg (by omega),if_pos this]
end Go.Proofs.YtbeojahilbglcaaGreatDoor

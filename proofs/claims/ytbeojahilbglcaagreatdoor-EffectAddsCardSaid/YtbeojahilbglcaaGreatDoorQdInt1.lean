/- A part of the proof of EffectAdds: contracts of functions, and plain facts. -/
import Derived.Test.YtbeojahilbglcaaGreatDoorQdEv
import Derived.Test.YtbeojahilbglcaaGreatDoorQdMc
set_option maxHeartbeats 1000000
set_option maxRecDepth 100000
set_option linter.unusedVariables false
set_option linter.unusedSimpArgs false
namespace Lum
open Go Go.RowKit Go.Shelf
theorem check_bare (l:Txt) (c:UInt8) (r:Txt) (h:body l = c :: r) (hd:(c :: r).all isDig = true) (h1:¬ (c = 48 ∧ (r ≠ [] ∨ minus l = true))):intCheck l = if 4096 < (c :: r).length then 23 else 0:=by
  have hl:(body l).length + (if minus l then 1 else 0) = l.length:=by
    unfold body minus
    cases l with
    | nil => rfl
    | cons a t => by_cases ha:a = 45 <;> simp [ha]
  unfold intCheck
  rw [if_neg,if_neg (by rw [h,hd];simp),h]
  rw [h]
  rintro (h2 | ⟨h2,h3⟩)
  · cases h2
  · simp at h2
    refine h1 ⟨h2,?_⟩
    rw [h] at hl
    by_cases hr:r = []
    · subst hr
      right
      cases hm:minus l with
      | true => rfl
      | false => rw [hm] at hl;simp at hl;omega
    · exact .inl hr
end Lum
namespace Go.Proofs.YtbeojahilbglcaaGreatDoor
open Go.RowKit Go.Shelf Lum
attribute [local go_sem] bs_get bs_extract_end bs_extract_from bs_extract bs_append
theorem own_bare (l : Txt) (w : World) :
    Calls Tryz.prog 216 #[.string ⟨l.toArray⟩] w fun e w' => e = .returned (.tuple #[.string ⟨(body l).toArray⟩,.bool (minus l)]) ∧ w = w':=by
  have hc:=sh_cutPrefix ⟨l.toArray⟩ ⟨#[45]⟩ w
  simp only [trimPrefix_minus,hasPrefix_minus] at hc
  have HC:=Lib.hid hc;clear hc
  go_enter Tryz.func216,Tryz.ntmps216
  go_wp2_with fail
  refine (HC.out).mono ?_
  rintro e w' ⟨rfl,rfl⟩
  go_wp2
  go_ret2
  exact ⟨rfl,rfl⟩
theorem sh_trim_yes (l : Txt) (w : World) (hl : l.length ≤ 1000000) (h : l.all isDig = true) :
    Calls Tryz.prog 217 #[.string ⟨l.toArray⟩,.string ⟨#[48,49,50,51,52,53,54,55,56,57]⟩] w fun e w' => e = .returned (.string ⟨#[]⟩) ∧ Below w.heap.size w w':=by
  have:=sh_trim ⟨l.toArray⟩ ⟨#[48,49,50,51,52,53,54,55,56,57]⟩ w (by simp [ByteArray.size];omega) (by decide) (ascii_of_all (by decide))
  rw [(trim_digits l).2 h] at this
  exact this
theorem sh_trim_no (l : Txt) (w : World) (hl : l.length ≤ 1000000) (h : l.all isDig = false) :
    Calls Tryz.prog 217 #[.string ⟨l.toArray⟩,.string ⟨#[48,49,50,51,52,53,54,55,56,57]⟩] w fun e w' => ∃ c r,e = .returned (.string ⟨(c :: r:Txt).toArray⟩) ∧ Below w.heap.size w w':=by
  have:=sh_trim ⟨l.toArray⟩ ⟨#[48,49,50,51,52,53,54,55,56,57]⟩ w (by simp [ByteArray.size];omega) (by decide) (ascii_of_all (by decide))
  cases ht:Lib.trimS l [48,49,50,51,52,53,54,55,56,57] with
  | nil => rw [(trim_digits l).1 ht] at h;cases h
  | cons c r =>
    exact this.mono fun e w' ⟨h1,h2⟩ => ⟨c,r,by rw [h1];show Ending.returned (.string ⟨(Lib.trimS l _).toArray⟩) = _;rw [ht],h2⟩
theorem own_check (l : Txt) (w : World) (hl : l.length ≤ 1000000) :
    Calls Tryz.prog 191 #[.string ⟨l.toArray⟩] w fun e w' => e = .returned (.int .i64 (intCheck l)) ∧ Below w.heap.size w w':=by
  have hbl:=body_le l
  have hb:=own_bare l w
  have HB:=Lib.hid hb;clear hb
  cases hbd:body l with
  | nil =>
    rw [hbd] at HB
    go_enter Tryz.func191,Tryz.ntmps191
    go_wp2_with fail
    refine (HB.out).mono ?_
    rintro e w' ⟨rfl,rfl⟩
    go_wp2
    go_ret
    exact ⟨ret_int (by simp [intCheck,shaped,canon,hbd]),Below.refl _ _⟩
  | cons c r =>
    rw [hbd] at HB hbl
    have HBD:=Lib.hid hbd;clear hbd
    by_cases hd:(c :: r).all isDig = true
    · have HT:Hid (∀ W:World,Calls Tryz.prog 217 #[.string ⟨(c :: r:Txt).toArray⟩,.string ⟨#[48,49,50,51,52,53,54,55,56,57]⟩] W fun e w' => e = .returned (.string ⟨#[]⟩) ∧ Below W.heap.size W w'):=fun W => sh_trim_yes (c :: r) W (by omega) hd
      have HD:=Lib.hid hd;clear hd
      by_cases h48:c = 48 ∧ (r ≠ [] ∨ minus l = true)
      · have HV:Hid (intCheck l = 3):=by
          show _ = _
          unfold intCheck
          rw [if_pos]
          refine .inr ⟨by rw [HBD.out,h48.1];rfl,?_⟩
          rcases h48.2 with h | h
          · have:=body_le l
            rw [HBD.out] at this
            have h2:=List.length_pos_iff.2 h
            simp at this;omega
          · have hx:=HBD.out
            unfold body minus at *
            cases l with
            | nil => cases h
            | cons a t => simp at h;subst h;simp at hx;subst hx;simp
        obtain ⟨rfl,h2⟩:=h48
        cases hm:minus l <;> rw [hm] at HB h2
        · cases r with
          | nil => simp at h2
          | cons c2 r2 =>
            clear h2
            go_enter Tryz.func191,Tryz.ntmps191
            go_wp2_with fail
            refine (HB.out).mono ?_
            rintro e w' ⟨rfl,rfl⟩
            go_wp2_with fail
            refine (HT.out _).mono ?_
            rintro e w5 ⟨rfl,hb5⟩
            go_wp2
            go_ret
            exact ⟨ret_int HV.out.symm,hb5⟩
        · clear h2
          by_cases hr:1 < ((48:UInt8) :: r).length
          all_goals
            go_enter Tryz.func191,Tryz.ntmps191
            go_wp2_with fail
            refine (HB.out).mono ?_
            rintro e w' ⟨rfl,rfl⟩
            go_wp2_with fail
            refine (HT.out _).mono ?_
            rintro e w5 ⟨rfl,hb5⟩
            go_wp2
          all_goals
            go_ret
            exact ⟨ret_int HV.out.symm,hb5⟩
      · have hv:=check_bare l c r HBD.out HD.out h48
        have HV:=Lib.hid hv;clear hv
        by_cases hc:c = 48
        · subst hc
          have hr:r = []:=by
            cases r with
            | nil => rfl
            | cons a t => exact absurd ⟨rfl,.inl (by simp)⟩ h48
          have hm:minus l = false:=by
            cases h:minus l with
            | false => rfl
            | true => exact absurd ⟨rfl,.inr h⟩ h48
          subst hr
          rw [hm] at HB
          clear h48
          go_enter Tryz.func191,Tryz.ntmps191
          go_wp2_with fail
          refine (HB.out).mono ?_
          rintro e w' ⟨rfl,rfl⟩
          go_wp2_with fail
          refine (HT.out _).mono ?_
          rintro e w5 ⟨rfl,hb5⟩
          go_wp2
          go_ret
          exact ⟨ret_int (by rw [HV.out];rfl),hb5⟩
        · have hc8:((c.toNat:Int) == 48) = false:=by
            rw [beq_eq_false_iff_ne]
            intro h
            exact hc (UInt8.toNat.inj (show c.toNat = (48:UInt8).toNat by simp;omega))
          clear h48
          have HC:=Lib.hid hc;clear hc
          have hlt:(c :: r).length ≤ 1000000:=by omega
          go_enter Tryz.func191,Tryz.ntmps191
          go_wp2_with fail
          refine (HB.out).mono ?_
          rintro e w' ⟨rfl,rfl⟩
          go_wp2_with fail
          refine (HT.out _).mono ?_
          rintro e w5 ⟨rfl,hb5⟩
          go_wp2
          all_goals go_ret
          · exact ⟨ret_int (by rw [HV.out,if_pos (by simp only [List.length_cons];omega)]),hb5⟩
          · exact ⟨ret_int (by rw [HV.out,if_neg (by simp only [List.length_cons];omega)]),hb5⟩
    · have HT:Hid (∀ W:World,Calls Tryz.prog 217 #[.string ⟨(c :: r:Txt).toArray⟩,.string ⟨#[48,49,50,51,52,53,54,55,56,57]⟩] W fun e w' => ∃ c2 r2,e = .returned (.string ⟨(c2 :: r2:Txt).toArray⟩) ∧ Below W.heap.size W w'):=fun W => sh_trim_no (c :: r) W (by omega) (by simpa using hd)
      have HD:=Lib.hid hd;clear hd
      go_enter Tryz.func191,Tryz.ntmps191
      go_wp2_with fail
      refine (HB.out).mono ?_
      rintro e w' ⟨rfl,rfl⟩
      go_wp2_with fail
      refine (HT.out _).mono ?_
      rintro e w5 ⟨c2,r2,rfl,hb5⟩
      go_wp2
      go_ret
      refine ⟨ret_int ?_,hb5⟩
      unfold intCheck
      by_cases h:body l = [] ∨ ((body l).head? = some 48 ∧ 1 < l.length)
      · rw [if_pos h]
      · rw [if_neg h,if_pos (by rw [HBD.out];simpa using HD.out)]
end Go.Proofs.YtbeojahilbglcaaGreatDoor

/- A part of the proof of EffectAdds: contracts of functions, and plain facts. -/
import Derived.Test.YtbeojahilbglcaaGreatDoorProg
import Derived.WalkKit
import Derived.WalkSpells
import Derived.WalkLawsBesides
import Derived.Test.YtbeojahilbglcaaGreatDoorQdMa
set_option maxHeartbeats 400000
set_option linter.unusedVariables false
set_option linter.unusedSimpArgs false
namespace Lum
open Go
theorem bs_get (l:Txt) (i:Nat) (h:i < (⟨l.toArray⟩:ByteArray).size):(⟨l.toArray⟩:ByteArray)[i]'h = l[i]'(by simpa [ByteArray.size] using h):=rfl
theorem bs_extract (l:Txt) (a b:Nat):(⟨l.toArray⟩:ByteArray).extract a b = ⟨((l.drop a).take (b - a)).toArray⟩:=by
  rw [Go.Lib.extract_eq]
theorem bs_extract_end (l:Txt) (a:Nat):(⟨l.toArray⟩:ByteArray).extract a l.length = ⟨(l.drop a).toArray⟩:=by
  rw [bs_extract,List.take_of_length_le (by simp)]
theorem bs_extract_from (l:Txt) (b:Nat):(⟨l.toArray⟩:ByteArray).extract 0 b = ⟨(l.take b).toArray⟩:=by
  rw [bs_extract];simp
theorem bs_append (a b:Txt):(⟨a.toArray⟩:ByteArray) ++ (⟨b.toArray⟩:ByteArray) = ⟨(a ++ b).toArray⟩:=by
  apply ByteArray.ext;simp
theorem wr64 {x:Int} (h0:-9223372036854775808 ≤ x) (h1:x ≤ 9223372036854775807):Go.RowKit.wrap64 x = x:=by
  unfold Go.RowKit.wrap64;omega
theorem ret_str {a b:Txt} (h:a = b):Ending.returned (.string ⟨a.toArray⟩) = .returned (.string ⟨b.toArray⟩):=by rw [h]
theorem ret_int {k:IntKind} {a b:Int} (h:a = b):Ending.returned (.int k a) = .returned (.int k b):=by rw [h]
theorem val_int {k:IntKind} {a b:Int} (h:a = b):Value.int k a = .int k b:=by rw [h]
theorem val_str {a b:Txt} (h:a = b):Value.string ⟨a.toArray⟩ = .string ⟨b.toArray⟩:=by rw [h]
theorem ret_bool {a b:Bool} (h:a = b):Ending.returned (.bool a) = .returned (.bool b):=by rw [h]
theorem conv_str {P : Program} (src dst e : TypeId) (hs : P.underlying src = some (.slice e)) (he : P.underlying e = some (.int .u8)) (hd : P.underlying dst = some .string)
    (w:World) (a:Addr) (c:Nat) (ns:List Int) (h:∀ j v,(ns.map (Value.int .u8))[j]? = some v → w.cell? (a.add j) = some v) :
    (convert src dst (.slice (some a) ns.length c)).run P w = .ok (.string ⟨(ns.map fun n => UInt8.ofNat n.toNat).toArray⟩) w:=by
  rw [run_convert_bytes_string w src dst e (some a) ns.length c hs he hd]
  have h1:=run_loadCells_list (P:=P) w a (ns.map (Value.int .u8)) h
  rw [List.length_map] at h1
  rw [run_bytesToString w a ns.length c ns h1]
  congr 2
  have:∀ (l:List Int) (b:ByteArray),l.foldl (fun r n => r.push (UInt8.ofNat n.toNat)) b = ⟨(b.data.toList ++ l.map fun n => UInt8.ofNat n.toNat).toArray⟩:=by
    intro l
    induction l with
    | nil => intro b;cases b;simp
    | cons x r ih => intro b;rw [List.foldl_cons,ih];cases b;simp [ByteArray.push]
  rw [this];simp
theorem conv_str_one {P : Program} (src dst e : TypeId) (hs : P.underlying src = some (.slice e)) (he : P.underlying e = some (.int .u8)) (hd : P.underlying dst = some .string)
    (w:World) (n:Int) :
    (convert src dst (.slice (some ⟨w.heap.size,0,none⟩) 1 1)).run P (w.alloc (.cells #[.int .u8 n] e)) = .ok (.string ⟨#[UInt8.ofNat n.toNat]⟩) (w.alloc (.cells #[.int .u8 n] e)) :=
  conv_str src dst e hs he hd _ _ 1 [n] (by
    intro j v hv
    cases j with
    | zero => simp at hv;subst hv;exact cell_one_new w _ _ 0 _ rfl
    | succ j => simp at hv)
end Lum
namespace Lum
open Go.Lib (decDigits itoa)
def intCheck (l:Txt):Int :=
  if body l = [] ∨ ((body l).head? = some 48 ∧ 1 < l.length) then 3
  else if (body l).all isDig = false then 3 else if 4096 < (body l).length then 23 else 0
def sgnT (l:Txt):Int:=if l = [48] then 0 else if minus l then -1 else 1
def negT (l:Txt):Txt:=if l = [48] then l else if minus l then l.tail else 45 :: l
def signedT (l:Txt) (neg:Bool):Txt:=if neg && l != [48] then 45 :: l else l
theorem head_get (l:Txt) (h:0 < l.length):l.head? = some l[0]:=by cases l with
  | nil => simp at h
  | cons c r => rfl
theorem toNat_45 (c:UInt8):(((c.toNat:Int) == 45) = true) ↔ c = 45:=by
  rw [beq_iff_eq];constructor
  · intro h;apply UInt8.toNat_inj.1;show c.toNat = 45;omega
  · rintro rfl;rfl
theorem body_yes (l:Txt) (h:0 < l.length) (e:((l[0].toNat:Int) == 45) = true):body l = l.tail:=by
  rw [body,if_pos (by rw [head_get l h,(toNat_45 _).1 e])]
theorem minus_yes (l:Txt) (h:0 < l.length) (e:((l[0].toNat:Int) == 45) = true):minus l = true:=by
  rw [minus,head_get l h,(toNat_45 _).1 e];rfl
theorem minus_no (l:Txt) (h:0 < l.length) (e:((l[0].toNat:Int) == 45) = false):minus l = false:=by
  rw [minus,head_get l h]
  have:l[0] ≠ 45:=fun e2 => by rw [e2] at e;simp at e
  simpa using this
theorem minus_nil (l:Txt) (h:¬ 0 < l.length):minus l = false:=by
  have:l = []:=by cases l with
    | nil => rfl
    | cons => simp at h
  subst this;rfl
theorem body_no (l:Txt) (h:minus l = false):body l = l:=by
  simp only [minus,beq_eq_false_iff_ne] at h
  rw [body,if_neg h]
end Lum
namespace Go.Proofs.YtbeojahilbglcaaGreatDoor
open Go.RowKit Lum
attribute [local go_sem] bs_get bs_extract_end bs_extract_from bs_extract bs_append
theorem r1_body (l : Txt) (w : World) :
    Calls Tryz.prog 107 #[.string ⟨l.toArray⟩] w fun e w' => e = .returned (.string ⟨(body l).toArray⟩) ∧ w = w':=by
  go_enter Tryz.func107,Tryz.ntmps107
  go_wp2
  all_goals go_ret
  all_goals refine ⟨?_,rfl⟩
  · exact ret_str (by rw [body_yes l ‹_› ‹_›,List.take_of_length_le (by simp)])
  · exact ret_str (body_no l (minus_no l ‹_› ‹_›)).symm
  · exact ret_str (body_no l (minus_nil l ‹_›)).symm
theorem r1_sign (l : Txt) (w : World) :
    Calls Tryz.prog 69 #[.string ⟨l.toArray⟩] w fun e w' => e = .returned (.int .i64 (sgnT l)) ∧ w = w':=by
  go_enter Tryz.func69,Tryz.ntmps69
  go_wp2
  all_goals go_ret
  all_goals refine ⟨?_,rfl⟩
  · exact ret_int (by rw [sgnT,if_pos (by simp_all)])
  · exact ret_int (by rw [sgnT,if_neg (by simp_all),if_pos (minus_yes l ‹_› ‹_›)])
  · exact ret_int (by rw [sgnT,if_neg (by simp_all),if_neg (by simp [minus_no l ‹_› ‹_›])])
  · exact ret_int (by rw [sgnT,if_neg (by simp_all),if_neg (by simp [minus_nil l ‹_›])])
theorem r1_negated (l : Txt) (w : World) (hl : l.length ≤ 1000000) :
    Calls Tryz.prog 110 #[.string ⟨l.toArray⟩] w fun e w' => e = .returned (.string ⟨(negT l).toArray⟩) ∧ w = w':=by
  go_enter Tryz.func110,Tryz.ntmps110
  go_wp2
  all_goals go_ret
  all_goals refine ⟨?_,rfl⟩
  · exact ret_str (by rw [negT,if_pos (by simp_all)])
  · exact ret_str (by rw [negT,if_neg (by simp_all),if_pos (minus_yes l ‹_› ‹_›),List.take_of_length_le (by simp)])
  · exact ret_str (by rw [negT,if_neg (by simp_all),if_neg (by simp [minus_no l ‹_› ‹_›])])
  · exact ret_str (by rw [negT,if_neg (by simp_all),if_neg (by simp [minus_nil l ‹_›])])
theorem r1_digits (l : Txt) (w : World) :
    Calls Tryz.prog 70 #[.string ⟨l.toArray⟩] w fun e w' => e = .returned (.int .i64 ((body l).length:Int)) ∧ w = w':=by
  go_enter Tryz.func70,Tryz.ntmps70
  go_wp2_with (go_at_call 107;refine (r1_body _ _).mono ?_;rintro e w' ⟨rfl,rfl⟩)
  go_ret
  exact ⟨rfl,rfl⟩
theorem r1_magnitude (l : Txt) (w : World) :
    Calls Tryz.prog 108 #[.string ⟨l.toArray⟩] w fun e w' => e = .returned (.string ⟨(body l).toArray⟩) ∧ w = w':=by
  go_enter Tryz.func108,Tryz.ntmps108
  go_wp2_with (go_at_call 107;refine (r1_body _ _).mono ?_;rintro e w' ⟨rfl,rfl⟩)
  go_ret
  exact ⟨rfl,rfl⟩
theorem r1_short (l : Txt) (w : World) :
    Calls Tryz.prog 112 #[.string ⟨l.toArray⟩] w fun e w' => e = .returned (.bool (decide (l.length ≤ 17))) ∧ w = w':=by
  go_enter Tryz.func112,Tryz.ntmps112
  go_wp2
  all_goals go_ret
  exact ⟨ret_bool (by simp;omega),rfl⟩
theorem r1_signed (l : Txt) (b : Bool) (w : World) (hl : l.length ≤ 1000000) :
    Calls Tryz.prog 115 #[.string ⟨l.toArray⟩,.bool b] w fun e w' => e = .returned (.string ⟨(signedT l b).toArray⟩) ∧ w = w':=by
  go_enter Tryz.func115,Tryz.ntmps115
  cases b
  all_goals go_wp2
  all_goals go_ret
  all_goals refine ⟨?_,rfl⟩
  · exact ret_str rfl
  · exact ret_str (by have : l ≠ [48] := by simp_all
                      simp [signedT,this])
  · exact ret_str (by have : l = [48] := by simp_all
                      subst this;rfl)
end Go.Proofs.YtbeojahilbglcaaGreatDoor

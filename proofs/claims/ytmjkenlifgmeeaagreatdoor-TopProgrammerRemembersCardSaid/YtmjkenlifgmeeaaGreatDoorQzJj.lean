import Derived.Test.YtmjkenlifgmeeaaGreatDoorQzJc
import Derived.Test.YtmjkenlifgmeeaaGreatDoorQzJb
import Derived.Test.YtmjkenlifgmeeaaGreatDoorQzHl
set_option maxRecDepth 100000
set_option maxHeartbeats 4000000
set_option linter.unusedVariables false
set_option linter.unusedSimpArgs false
namespace Lum
open Go Go.RowKit Go.Shelf
open Go.Lib (decDigits itoa)
def pmsE : List (Int × Int) → Int
  | [] => 0
  | p :: r => if paE p.1 p.2 ≠ 0 then paE p.1 p.2 else pmsE r
theorem pmsE_at {l:List (Int × Int)} {k:Nat} (h:k < l.length):pmsE (l.drop k) = if paE (l[k]'h).1 (l[k]'h).2 ≠ 0 then paE (l[k]'h).1 (l[k]'h).2 else pmsE (l.drop (k + 1)):=by rw [List.drop_eq_getElem_cons h];rfl
theorem pmsE_end {l:List (Int × Int)}:pmsE (l.drop l.length) = 0:=by rw [List.drop_length];rfl
def clrK (ps:List (Int × Int)) (x:Hnd):Bool:=decide (0 < ps.length) && !decide (x.ky ∈ ps)
def clrL (l:List Hnd) (ps:List (Int × Int)):List Hnd:=l.filter (clrK ps)
def clrE (l:List Hnd) (ps:List (Int × Int)):Int:=if hnsE l ≠ 0 then hnsE l else if 256 < ps.length then 5 else pmsE ps
def clrO (l:List Hnd) (ps:List (Int × Int)):List Hnd:=if clrE l ps = 0 then clrL l ps else []
theorem clrE_h {l:List Hnd} {ps:List (Int × Int)} (h:¬ hnsE l = 0):clrE l ps = hnsE l:=by unfold clrE;rw [if_pos h]
theorem clrE_many {l:List Hnd} {ps:List (Int × Int)} (h:hnsE l = 0) (h2:256 < ps.length):clrE l ps = 5:=by unfold clrE;rw [if_neg (by simpa using h),if_pos h2]
theorem clrE_p {l:List Hnd} {ps:List (Int × Int)} (h:hnsE l = 0) (h2:¬ 256 < ps.length):clrE l ps = pmsE ps:=by unfold clrE;rw [if_neg (by simpa using h),if_neg h2]
theorem clrO_bad {l:List Hnd} {ps:List (Int × Int)} (h:¬ clrE l ps = 0):clrO l ps = []:=by unfold clrO;rw [if_neg h]
theorem clrO_ok {l:List Hnd} {ps:List (Int × Int)} (h:clrE l ps = 0):clrO l ps = clrL l ps:=by unfold clrO;rw [if_pos h]
theorem clrL_none (l:List Hnd):clrL l [] = []:=by unfold clrL;rw [List.filter_eq_nil_iff];intro x _;unfold clrK;simp
theorem clrL_some {l:List Hnd} {ps:List (Int × Int)} (h:0 < ps.length):clrL l ps = l.filter (fun x => !decide (x.ky ∈ ps)):=by
  unfold clrL;congr 1;funext x;unfold clrK;rw [decide_eq_true h,Bool.true_and]
theorem entE_par (p:Int × Int):ordP 4096 entE Ent.ky [(⟨p.1,p.2,0,0⟩:Ent)] = paE p.1 p.2:=by
  have hv:valE 0 0 = 0:=by decide
  rw [ordP_few (by simp)]
  by_cases hz:paE p.1 p.2 = 0
  · have h1:entE (⟨p.1,p.2,0,0⟩:Ent) = 0:=(entE_va (x:=⟨p.1,p.2,0,0⟩) hz).trans hv
    rw [hz,ordQ_first (l:=[(⟨p.1,p.2,0,0⟩:Ent)]) (by simp) h1];rfl
  · have h1:entE (⟨p.1,p.2,0,0⟩:Ent) = paE p.1 p.2:=entE_pa (x:=⟨p.1,p.2,0,0⟩) hz
    rw [ordQ_err (l:=[(⟨p.1,p.2,0,0⟩:Ent)]) (by simp) (by rw [List.getElem_cons_zero,h1];exact hz)];exact h1
end Lum
namespace Go.Proofs.YtmjkenlifgmeeaaGreatDoor
open Go.RowKit Go.Shelf Lum
open Go.Lib (decDigits itoa)
attribute [local go_sem] bs_get bs_extract_end bs_extract_from bs_extract bs_append
theorem cl_clear (x : Hnd) (ps : List (Int × Int)) (p : Option Addr) (c B : Nat) (w : World) (hv : PmsAt w (.slice p ps.length c) ps) (hn : ps.length ≤ 1000000) (hB : B < w.heap.size) (hc : w.cell? ⟨B, 0, none⟩ = some (.slice p ps.length c)) :
    Calls Tryz.prog 31 #[.agg #[.int .i64 (x.ch),.int .i64 (x.at_),.string ⟨x.fr.toArray⟩,.int .i64 (x.pa),.int .i64 (x.lv),.int .i64 (x.st),.int .i64 (x.ti)],.pointer (some ⟨B,0,none⟩)] w fun e w' => e = .returned (.bool (decide (x.ky ∈ ps))) ∧ Below w.heap.size w w':=by
  have hpc:=fun W (h:PmsAt W (.slice p ps.length c) ps) => pm_contains ps (.slice p ps.length c) x.ch x.at_ W h hn
  have HBL:=Lib.hid hB;have HCC:=Lib.hid hc;clear hB hc
  have HK:=Lib.hid (Blk.new w 77 #[.int .i64 (x.ch),.int .i64 (x.at_),.string ⟨x.fr.toArray⟩,.int .i64 (x.pa),.int .i64 (x.lv),.int .i64 (x.st),.int .i64 (x.ti)])
  have HB:=Lib.hid ((Below.refl w.heap.size w).alloc (Nat.le_refl _) (.cells #[.int .i64 (x.ch),.int .i64 (x.at_),.string ⟨x.fr.toArray⟩,.int .i64 (x.pa),.int .i64 (x.lv),.int .i64 (x.st),.int .i64 (x.ti)] 77))
  obtain ⟨k0,k1,k2,k3,k4,k5,k6,kf0,kf1,kf2,kf3,kf4,kf5,kf6⟩:=HK.out.c7
  have HV:=Lib.hid (PmsAt.kept hv HB.out)
  clear hv
  have hcl:(w.alloc (.cells #[.int .i64 (x.ch),.int .i64 (x.at_),.string ⟨x.fr.toArray⟩,.int .i64 (x.pa),.int .i64 (x.lv),.int .i64 (x.st),.int .i64 (x.ti)] 77)).cell? ⟨B,0,none⟩ = some (.slice p ps.length c):=(HB.out.cell (p:=⟨B,0,none⟩) HBL.out).trans HCC.out
  have HPC:=Lib.hid hpc;clear hpc
  go_enter Tryz.func31,Tryz.ntmps31
  go_wp2_with (first | (with_reducible refine ((HPC.out _ HV.out).mono ?_);rintro e w' ⟨rfl,hb⟩;replace HB:=Lib.hid (bch' HB.out hb);clear hb))
  go_ret
  exact ⟨rfl,HB.out⟩
end Go.Proofs.YtmjkenlifgmeeaaGreatDoor

/-
  
-/
import Derived.Test.YtmjkenlifgmeeaaGreatDoorQzMb
import Derived.Test.YtmjkenlifgmeeaaGreatDoorQzShelf
import Derived.WalkSmall
import Derived.Lib.AppendIntMem
import Derived.Lib.ItoaMem
import Derived.Sort.Row
import Derived.Test.YtmjkenlifgmeeaaGreatDoorCards
import Derived.Test.YtmjkenlifgmeeaaGreatDoorTie
import Derived.WalkKit
import Derived.ProofKit
import Derived.OpenShut
import Derived.LaidSub
import Derived.Shelf.Vars
import Derived.Deep.DeepHandedRow
import Derived.Deep.DeepWitnessRowRef
import Derived.Lib.LaidTab
import Derived.Lib.SmallJoins
set_option linter.unusedVariables false
set_option linter.unusedSimpArgs false
namespace Lum
open Go Go.RowKit Go.Shelf
theorem below_cell {w w':World} {b o:Nat} (h:Below w.heap.size w w') (hb:b < w.heap.size):w'.cell? ⟨b,o,none⟩ = w.cell? ⟨b,o,none⟩:=h.cell (p:=⟨b,o,none⟩) hb
theorem grow_below {w w':World} {k:Nat} {os:Array Obj} (h:w' = Go.Sort.grow (w.drewN k) os):Below w.heap.size w w':=by
  subst h
  refine ⟨rfl,rfl,rfl,?_,fun b hb => ?_⟩
  · simp [Go.Sort.grow]
  · simp [Go.Sort.grow,Array.getElem?_append,hb]
theorem hasPrefix_minus (l:Txt):Lib.hasPrefix l [45] = minus l:=by
  cases l with
  | nil => rfl
  | cons c r => simp [Lib.hasPrefix,minus,List.isPrefixOf];rw [Bool.eq_iff_iff];simp;exact eq_comm
theorem trimPrefix_minus (l:Txt):Lib.trimPrefix l [45] = body l:=by
  unfold Lib.trimPrefix
  rw [hasPrefix_minus]
  cases l with
  | nil => rfl
  | cons c r => unfold body minus;by_cases h:c = 45 <;> simp [h]
theorem dropWhile_nil (l:Txt) (p:UInt8 → Bool):l.dropWhile p = [] ↔ l.all p = true:=by
  induction l with
  | nil => simp
  | cons c r ih => by_cases h:p c <;> simp [List.dropWhile_cons,h,ih]
theorem trim_all (l cs:Txt):Lib.trimS l cs = [] ↔ l.all (cs.contains ·) = true:=by
  unfold Lib.trimS Lib.trimLeftS Lib.trimRightS
  rw [dropWhile_nil,List.all_reverse]
  constructor
  · intro h
    cases hd:l.reverse.dropWhile (cs.contains ·) with
    | nil => rw [dropWhile_nil,List.all_reverse] at hd;exact hd
    | cons c r =>
      have hc:=List.head?_dropWhile_not (fun x => cs.contains x) l.reverse
      rw [hd] at hc h
      simp at hc h
      exact absurd h.1 hc
  · intro h
    have:l.reverse.dropWhile (cs.contains ·) = []:=by rw [dropWhile_nil,List.all_reverse];exact h
    rw [this];rfl
theorem digits_contains (c:UInt8):([48,49,50,51,52,53,54,55,56,57]:Txt).contains c = isDig c:=by
  rw [Bool.eq_iff_iff,isDig_iff]
  simp only [List.contains_iff_mem,List.mem_cons,List.not_mem_nil,or_false]
  have hk:∀ d:UInt8,c = d ↔ c.toNat = d.toNat:=fun d => ⟨fun h => by rw [h],UInt8.toNat.inj⟩
  simp only [hk]
  have:c.toNat < 256:=c.toNat_lt
  simp
  omega
theorem trim_digits (l:Txt):Lib.trimS l [48,49,50,51,52,53,54,55,56,57] = [] ↔ l.all isDig = true:=by
  rw [trim_all]
  simp only [digits_contains]
theorem index_slash (l:Txt):Lib.index l [47] = if hasSlash l then ((top l).length:Int) else -1:=by
  induction l with
  | nil => rfl
  | cons c r ih =>
    unfold Lib.index
    by_cases h:c = 47
    · subst h;simp [hasSlash,top]
    · have h':(47:UInt8) ≠ c:=fun e => h e.symm
      have e1:hasSlash (c :: r) = hasSlash r:=by simp [hasSlash,h']
      have e2:top (c :: r) = c :: top r:=by simp [top,h]
      rw [ih,e1,e2]
      cases hs:hasSlash r <;> simp [h']
theorem cut_slash (l:Txt):Lib.cut l [47] = if hasSlash l then (top l,bot l,true) else (l,[],false):=by
  unfold Lib.cut
  rw [index_slash]
  cases hs:hasSlash l with
  | false => simp
  | true =>
    simp only [if_true]
    rw [if_pos (by omega)]
    have e:=split_slash l hs
    have e3:(([47]:Txt)).length = 1:=rfl
    rw [Int.toNat_natCast,e3]
    have t1:l.take (top l).length = top l:=by
      have:=List.take_left (l₁:=top l) (l₂:=47 :: bot l)
      rwa [← e] at this
    have t2:l.drop ((top l).length + 1) = bot l:=by
      have:=List.drop_left (l₁:=top l ++ [47]) (l₂:=bot l)
      rw [List.append_assoc,List.singleton_append,← e,List.length_append] at this
      exact this
    rw [t1,t2]
end Lum
namespace Go.Proofs.YtmjkenlifgmeeaaGreatDoor
open Go.RowKit Go.Shelf Lum
structure Env (w : World) : Prop where
  tab:Lib.TabIs Tryz.prog w "internal/strconv.uint64pow10" .u64 Lib.pow10Tab
  len:∃ m,w.cell? ⟨0,0,none⟩ = some (.int .i64 m)
  l1:1 < w.heap.size
  l2:0 < w.heap.size
theorem named_pow:Tryz.prog.globalNamed "internal/strconv.uint64pow10" = some 1:=by kernel_rfl
theorem Env.below {w w':World} (h:Env w) (hb:Below w.heap.size w w'):Env w' :=
  ⟨var?_below hb named_pow h.l1 h.tab,h.len.imp fun m hm => (below_cell hb h.l2).trans hm,Nat.lt_of_lt_of_le h.l1 hb.size,Nat.lt_of_lt_of_le h.l2 hb.size⟩
theorem sh_cutPrefix (s p:ByteArray) (w:World):Calls Tryz.prog 240 #[.string s,.string p] w fun e w' => e = .returned (.tuple #[.string ⟨(Lib.trimPrefix s.data.toList p.data.toList).toArray⟩,.bool (Lib.hasPrefix s.data.toList p.data.toList)]) ∧ w' = w :=
  Any.strings_CutPrefix Tryz.lays103 s p w
theorem sh_trimPrefix (s p:ByteArray) (w:World):Calls Tryz.prog 181 #[.string s,.string p] w fun e w' => e = .returned (.string ⟨(Lib.trimPrefix s.data.toList p.data.toList).toArray⟩) ∧ w' = w :=
  Any.strings_TrimPrefix Tryz.lays101 s p w
theorem sh_trim (s cs : ByteArray) (w : World) (hs : s.size ≤ 9223372036854775807) (hcs : cs.size < 4294967281) (ha : ∀ (j : Nat) b, cs.data.toList[j]? = some b → b.toNat < 128) :
    Calls Tryz.prog 180 #[.string s,.string cs] w fun e w' => e = .returned (.string ⟨(Lib.trimS s.data.toList cs.data.toList).toArray⟩) ∧ Below w.heap.size w w' :=
  Any.strings_Trim_laid Tryz.lays160 (by kernel_rfl) s cs w hs hcs ha
theorem sh_itoa (n : Int) (h0 : -9223372036854775808 ≤ n) (h1 : n ≤ 9223372036854775807) (w : World) (h : Env w) :
    Calls Tryz.prog 179 #[.int .i64 n] w fun e w' => e = .returned (.string ⟨(Go.Lib.itoa n).toArray⟩) ∧ Below w.heap.size w w' :=
  (Any.strconv_Itoa Tryz.laysM171 n h0 h1 w h.tab).mono fun e w' ⟨h1,k,os,h2⟩ => ⟨h1,grow_below h2⟩
theorem sh_cut (s sep : ByteArray) (w : World) (h : Env w) (hs : s.size < 4294967281) :
    Calls Tryz.prog 113 #[.string s,.string sep] w fun e w' => e = .returned (.tuple #[.string ⟨(Lib.cut s.data.toList sep.data.toList).1.toArray⟩,.string ⟨(Lib.cut s.data.toList sep.data.toList).2.1.toArray⟩,.bool (Lib.cut s.data.toList sep.data.toList).2.2]) ∧ Below w.heap.size w w':=by
  obtain ⟨m,hm⟩:=h.len
  exact (Any.strings_Cut Tryz.lays145 s sep m w hs hm).mono fun e w' ⟨h1,n,h2⟩ => ⟨h1,by subst h2;exact below_drewN (Below.refl _ w) n⟩
end Go.Proofs.YtmjkenlifgmeeaaGreatDoor
set_option maxHeartbeats 2000000
set_option maxRecDepth 100000
namespace Go.Proofs.YtmjkenlifgmeeaaGreatDoor
open Go.RowKit Go.Shelf Lum Go.Sort Go.Lib
theorem sh_small (i:Nat) (h:i < 100) (w:World):Calls Tryz.prog 231 #[.int .i64 i] w fun e w' => e = .returned (.string ⟨(decDigits i).toArray⟩) ∧ w' = w :=
  Any.internal_strconv_small Tryz.lays283 i h w
theorem sh_numDigits (u:Nat) (h1:1 ≤ u) (h2:u < 18446744073709551616) (w:World) (h:Env w):Calls Tryz.prog 232 #[.int .u64 u] w fun e w' => e = .returned (.int .i64 (nDigits u)) ∧ w' = w :=
  Any.internal_strconv_numDigits Tryz.laysM284 u h1 h2 w h.tab
theorem sh_format10 (blk off cap : Nat) (u : Nat) (d : Array UInt8) (w : World) (hH : Holds (fun (b : UInt8) => Value.int .u8 (b.toNat : Int)) w blk off d) (hu : u < 10 ^ d.size) (hu64 : u < 18446744073709551616) (hsz : d.size < 4611686018427387904) :
    Calls Tryz.prog 233 #[.slice (some ⟨blk,off,none⟩) d.size cap,.int .u64 u] w fun e w' =>
      e = .returned (.tuple #[]) ∧ ∃ (n v':Nat) (dk:Array UInt8),w' = (putRow (fun (b:UInt8) => Value.int .u8 (b.toNat:Int)) w blk off dk).drewN n ∧ FmtInv d.size u 0 v' dk :=
  Any.internal_strconv_formatBase10 Tryz.lays285 blk off cap u d w hH hu hu64 hsz
theorem sh_formatUint (u : Nat) (hu : u < 1000000000000000000) (w : World) (h : Env w) :
    Calls Tryz.prog 191 #[.int .u64 u,.int .i64 10] w fun e w' => e = .returned (.string ⟨(decDigits u).toArray⟩) ∧ Below w.heap.size w w':=by
  by_cases hs:u < 100
  · have hS:=sh_small u hs w
    have HS:=hid hS;clear hS
    go_enter Tryz.func191,Tryz.ntmps191
    go_wp2_with fail
    refine HS.out.mono ?_
    rintro e w' ⟨rfl,rfl⟩
    go_wp2
    go_ret
    exact ⟨rfl,Below.refl _ _⟩
  · have hu1:1 ≤ u:=by omega
    have hu64:u < 18446744073709551616:=by omega
    have hnd20:nDigits u ≤ 20:=by have:=numDigits_eq u hu1 hu64;split at this <;> omega
    have hb3:nDigits u ≤ 24:=by omega
    have hal:Tryz.prog.arrayLen 280 = 24:=by kernel_rfl
    have hsl1:∀ W,(Instr.sliceAt 280 (.pointer (some ⟨w.heap.size,0,none⟩)) none (some (.int .i64 (nDigits u:Int))) none).run Tryz.prog W = .ok (.slice (some ⟨w.heap.size,0,none⟩) (nDigits u) 24) W:=fun W => by
      rw [run_sliceAt_array_h W 280 ⟨w.heap.size,0,none⟩ (by kernel_rfl) .i64 (nDigits u:Int) (by omega) (by rw [hal];omega)]
      have hsz:(sizeOf (Tryz.prog.elem 280)).run Tryz.prog W = .ok 1 W:=by kernel_rfl
      rw [hsz]
      simp [hal,Result.andThen,slicedAt,add_plain]
    have hH0:=holds_zero0 w 280 (nDigits u) (by omega)
    have hfmt:=sh_format10 w.heap.size 0 24 u (Array.replicate (nDigits u) 0) (w.alloc (.cells zeros24 280)) hH0 (by rw [Array.size_replicate];exact lt_pow_nDigits u) hu64 (by rw [Array.size_replicate];omega)
    rw [Array.size_replicate] at hfmt
    have HH0:=hid hH0
    have HF:=hid hfmt;clear hfmt
    have hN:=sh_numDigits u hu1 hu64 (w.alloc (.cells zeros24 280)) (h.below ((Below.refl _ w).alloc (Nat.le_refl _) _))
    have HN:=hid hN;clear hN
    clear hH0 hal
    go_enter Tryz.func191,Tryz.ntmps191
    go_wp2_with fail
    refine HN.out.mono ?_
    rintro e w' ⟨rfl,rfl⟩
    go_wp2_with fail
    refine HF.out.mono ?_
    rintro e w' ⟨rfl,k,v',dk,rfl,hF⟩
    have hcv:(convert 210 9 (.slice (some ⟨w.heap.size,0,none⟩) (nDigits u) 24)).run Tryz.prog ((putRow (fun (b:UInt8) => Value.int .u8 (b.toNat:Int)) (w.alloc (.cells zeros24 280)) w.heap.size 0 dk).drewN k) = .ok (.string ⟨(decDigits u).toArray⟩) ((putRow (fun (b:UInt8) => Value.int .u8 (b.toNat:Int)) (w.alloc (.cells zeros24 280)) w.heap.size 0 dk).drewN k):=by
      have h:=run_convert_bytes_back (P:=Tryz.prog) ((putRow (fun (b:UInt8) => Value.int .u8 (b.toNat:Int)) (w.alloc (.cells zeros24 280)) w.heap.size 0 dk).drewN k) 210 9 5 ⟨w.heap.size,0,none⟩ 24 (decDigits u) Tryz.underlying210 Tryz.underlying5 Tryz.underlying9 (fun j hj => by
        rw [row_is_numeral hF j hj,add_plain,World.cell?_drewN]
        exact cell?_putRow (fun (b:UInt8) => Value.int .u8 (b.toNat:Int)) _ w.heap.size 0 _ dk HH0.out (by rw [hF.size,Array.size_replicate]) j (by rw [hF.size];rw [decDigits_length] at hj;exact hj))
      rw [decDigits_length] at h
      exact h
    have HB:Hid (Below w.heap.size w ((putRow (fun (b:UInt8) => Value.int .u8 (b.toNat:Int)) (w.alloc (.cells zeros24 280)) w.heap.size 0 dk).drewN k)):=by
      obtain ⟨os,eo⟩:∃ os,(putRow (fun (b:UInt8) => Value.int .u8 (b.toNat:Int)) (w.alloc (.cells zeros24 280)) w.heap.size 0 dk).drewN k = grow (w.drewN k) os:=by
        rw [alloc_eq_grow]
        obtain ⟨os',_,e⟩:=putRow_grow_new (fun (b:UInt8) => Value.int .u8 (b.toNat:Int)) w #[.cells zeros24 280] w.heap.size 0 dk (Nat.le_refl _)
        exact ⟨os',by rw [e];rfl⟩
      exact grow_below eo
    clear hF
    go_wp2
    go_ret
    exact ⟨rfl,HB.out⟩
theorem sh_formatU (u : Nat) (hu : u < 1000000000000000000) (w : World) (h : Env w) :
    Calls Tryz.prog 147 #[.int .u64 u,.int .i64 10] w fun e w' => e = .returned (.string ⟨(decDigits u).toArray⟩) ∧ Below w.heap.size w w':=by
  have hS:=sh_formatUint u hu w h
  have HS:=hid hS;clear hS
  go_enter Tryz.func147,Tryz.ntmps147
  go_wp2_with fail
  refine HS.out.mono ?_
  rintro e w' ⟨rfl,hb⟩
  go_wp2
  go_ret
  exact ⟨rfl,hb⟩
end Go.Proofs.YtmjkenlifgmeeaaGreatDoor
namespace Go.Proofs.YtmjkenlifgmeeaaGreatDoor
open Go.ChangeShapes Go.WideShapes Go.ChangeAt Go.RowKit Lum
theorem own:ownKnob Tryz.prog.godebug = none:=by kernel_rfl
theorem gPowType:(Tryz.prog.globals[1]?).map (·.type) = some 302:=by kernel_rfl
theorem cellsPow:Tryz.prog.cellsOf 302 = 20:=by kernel_rfl
theorem cellsU64:Tryz.prog.cellsOf 144 = 1:=by kernel_rfl
theorem lenCell {w:World} (h:w.ShapedOpen Tryz.prog):∃ m,w.cell? ⟨0,0,none⟩ = some (.int .i64 m) :=
  cell_of_shapedOpen_int (t:=3) (zero:=#[.int .i64 0]) h (of_decide_eq_true (by kernel_rfl)) (by kernel_rfl) rfl (by kernel_rfl) (by kernel_rfl) Tryz.underlying3
theorem env_of {w:World} (h:laidMetH Tryz.prog Rows.topProgrammerRemembersRow.laid w) (hs:w.ShapedOpen Tryz.prog):Env w:=by
  have tab:Lib.TabIs Tryz.prog w "internal/strconv.uint64pow10" .u64 Lib.pow10Tab:=by
    have h':=(laidMetH.filter (fun x => x.1 == "internal/strconv.uint64pow10") h)
    exact Lib.tabIs_of_head (rest:=[]) named_pow gPowType Tryz.underlying302 Tryz.underlying144 cellsU64 cellsPow h'
  have l1:=World.block_lt_of_cell? w _ (tab.cell named_pow 0 (by decide))
  obtain ⟨m,hm⟩:=lenCell hs
  exact ⟨tab,⟨m,hm⟩,l1,World.block_lt_of_cell? w _ hm⟩
def flat : Nat → DataW Unit → List Value
  | 0,_ => []
  | _ + 1,.lit (.int k z) => [.int k z]
  | n + 1,.agg ds => ds.flatMap (flat n)
  | _ + 1,_ => []
def layVar (h:Array Obj) (g:Nat) (cs:List Value):Array Obj :=
  h.modify g fun
    | .cells _ t frozen => .cells cs.toArray t frozen
    | o => o
noncomputable def laidWorld (os:Os):World :=
  let w0:=World.holding Tryz.prog os ⟨#[],#[],[]⟩
  let n:=w0.heap.size
  let w1:=(w0.alloc (.cells #[.string ⟨#[118,97,108,117,101,32,111,117,116,32,111,102,32,114,97,110,103,101]⟩] 327)).alloc (.cells #[.string ⟨#[105,110,118,97,108,105,100,32,115,121,110,116,97,120]⟩] 327)
  { w1 with heap :=
      layVar (layVar (layVar (layVar (layVar (layVar (layVar w1.heap 6 (flat 3 Rows.laid_math_bits_deBruijn32tab)) 7 (flat 3 Rows.laid_math_bits_deBruijn64tab))
        1 (flat 3 Rows.laid_internal_strconv_uint64pow10)) 5 (flat 3 Rows.laid_unicode_utf8_acceptRanges)) 4 (flat 3 Rows.laid_unicode_utf8_first))
        3 [.iface 325 (.pointer (some ⟨n,0,none⟩))]) 2 [.iface 325 (.pointer (some ⟨n + 1,0,none⟩))] }
theorem laid_met (os:Os) (args:Array Value):laidMet Tryz.prog Rows.topProgrammerRemembersRow.laid ((laidWorld os).forCall (fun _ _ => 0) ⟨#[],args,[]⟩).memory :=
  laidMet_of_run' 8 (by kernel_rfl) (by kernel_rfl)
theorem laid_rows (os : Os) (args : Array Value) : (((laidWorld os).forCall (fun _ _ => 0) ⟨#[], args, []⟩).heap.toList.drop Tryz.prog.globals.size).take ((begin Tryz.prog (fun _ _ => 0) default).world.heap.size - Tryz.prog.globals.size) =
      (begin Tryz.prog (fun _ _ => 0) default).world.heap.toList.drop Tryz.prog.globals.size:=by kernel_rfl
theorem laid_vars (os:Os) (args:Array Value):((laidWorld os).forCall (fun _ _ => 0) ⟨#[],args,[]⟩).variablesB Tryz.prog = true:=by kernel_rfl
theorem post_of_below {H : Type} {enc : TypeId × Value → H} {P : Program} {f : Func} {s : ChangeSpec} {apart fresh handsOn again : Bool} {W W' : World} {args : Array Value} {v : Value} {ds gs : List (DataW H)} {before pa pv : List MemPlace}
    (hW:DataW.Whole enc P f.params.toList s.vars apart W args.toList ds gs before)
    (hres:∀ (b:Nat) (sp:Nat → Bool) (hd:Bool),DataW.TrodAll enc P W' b sp hd f.resultTypes.toList (v.resultList f.resultTypes.size) (s.fn H (ds ++ gs)).results [])
    (hargs:∀ sp:Nat → Bool,(∀ p ∈ before,sp p.block = true) → DataW.TrodAll enc P W' 0 sp true f.params.toList args.toList (s.fn H (ds ++ gs)).args pa)
    (hvars:∀ sp:Nat → Bool,(∀ p ∈ before,sp p.block = true) → DataW.TrodVars enc P W' sp s.vars (s.fn H (ds ++ gs)).vars pv)
    (hps:before = pa ++ pv) (hb:Below W.heap.size W W')
    (hok:∀ (j:Nat) (t:TypeId) (r:Value),f.resultTypes[j]? = some t → (v.resultList f.resultTypes.size)[j]? = some r → Value.okWide P W' .any 0 t r) :
    s.post enc P f apart fresh handsOn again W args v W':=by
  have hold:∀ p ∈ before,(fun b => decide (b < W.heap.size)) p.block = true:=fun p hp => by simpa using hW.lt p hp
  have hlt:=hW.lt
  refine ⟨ds,gs,before,[],pa,pv,hW,hres _ _ _,hargs _ hold,hvars _ hold,World.keptBut_mono (fun p hp => ⟨hp,?_⟩) (hb.frame (· ∈ before)),fun _ => ?_⟩
  · rw [hps,List.mem_append] at hp
    exact Or.inr hp
  · obtain ⟨_,_,_,_,_,hz,hn⟩:=hW
    refine ⟨hok,_,_,([] ++ pa) ++ pv,⟨[] ++ pa,pv,trodAll_append (hargs _ (fun _ _ => rfl)) (hres _ _ _),hvars _ (fun _ _ => rfl),rfl,?_,?_⟩,?_⟩
    · intro b off hp
      have hp':MemPlace.cell b off ∈ before:=by rw [hps];simpa using hp
      rw [hb.frozen (p:=⟨b,off,none⟩) (hlt _ hp')]
      exact hz b off hp'
    · intro ha
      have:=hn ha
      rw [hps] at this
      simpa using this
    · intro p hp _
      rw [hps]
      simpa using hp
theorem wf_i64 {n:Int} (h:(Lit.int .i64 n).wf = true):-9223372036854775808 ≤ n ∧ n ≤ 9223372036854775807:=by
  simpa [Lit.wf,IntKind.min,IntKind.max,IntKind.signed,IntKind.bits] using h
theorem wf_u16 {n:Int} (h:(Lit.int .u16 n).wf = true):0 ≤ n ∧ n ≤ 65535:=by
  simpa [Lit.wf,IntKind.min,IntKind.max,IntKind.signed,IntKind.bits] using h
end Go.Proofs.YtmjkenlifgmeeaaGreatDoor

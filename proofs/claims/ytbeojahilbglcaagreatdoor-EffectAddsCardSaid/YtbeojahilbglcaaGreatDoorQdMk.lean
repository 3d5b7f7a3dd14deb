/- A part of the proof of EffectAdds: contracts of functions, and plain facts. -/
import Derived.Test.YtbeojahilbglcaaGreatDoorQdInt2
import Derived.Test.YtbeojahilbglcaaGreatDoorQdEv
import Derived.Shelf.Strings.BuilderX
set_option maxRecDepth 100000
set_option maxHeartbeats 2000000
set_option linter.unusedVariables false
set_option linter.unusedSimpArgs false
namespace Lum
open Go Go.RowKit Go.Shelf
open Go.Lib (decDigits itoa)
def wpart (ws:List Nat) (x:Fin ws.length):Txt:=if x.1 + 1 < ws.length then padk 9 (wAt ws x) else decDigits (wAt ws x)
def wtxt (ws:List Nat) (pre:List (Fin ws.length)):Txt:=pre.flatMap (wpart ws)
theorem wtxt_snoc (ws:List Nat) (pre:List (Fin ws.length)) (x:Fin ws.length):wtxt ws (pre ++ [x]) = wtxt ws pre ++ wpart ws x:=by simp [wtxt]
theorem wAt_lt (ws:List Nat) (h:∀ d ∈ ws,d < B9) (x:Fin ws.length):wAt ws x < B9:=by
  unfold wAt
  rw [List.getElem?_eq_getElem x.2]
  exact h _ (List.getElem_mem _)
theorem wpart_len (ws:List Nat) (h:∀ d ∈ ws,d < B9) (x:Fin ws.length):(wpart ws x).length ≤ 9:=by
  have h1:=wAt_lt ws h x
  rw [B9_eq] at h1
  unfold wpart
  split
  · rw [padk_len 9 _ (by omega) h1];exact Nat.le_refl _
  · exact (dec_length_lt _ _ (by omega)).2 h1
theorem wtxt_len (ws:List Nat) (h:∀ d ∈ ws,d < B9) (pre:List (Fin ws.length)):(wtxt ws pre).length ≤ 9 * pre.length:=by
  induction pre with
  | nil => simp [wtxt]
  | cons x r ih =>
    have e:wtxt ws (x :: r) = wpart ws x ++ wtxt ws r:=by simp [wtxt]
    have:=wpart_len ws h x
    rw [e,List.length_append,List.length_cons];omega
theorem wtxt_all (m:Nat) (hm:m ≠ 0):wtxt (magL m) (dnF (magL m).length (magL m).length) = decDigits m:=by
  have hn:=magL_ne m hm
  have hlt:=lt_len m
  have key:∀ k,k < (magL m).length → wtxt (magL m) (dnF (magL m).length (k + 1)) = decDigits (m / B9 ^ ((magL m).length - (k + 1))):=by
    intro k
    induction k with
    | zero =>
      intro hk
      rw [dnF_succ _ _ hk,dnF_zero]
      simp only [List.nil_append,wtxt,List.flatMap_cons,List.flatMap_nil,List.append_nil]
      unfold wpart
      rw [if_neg (by simp;omega),wAt_magL]
      simp only [Nat.sub_zero]
      unfold wd
      rw [Nat.mod_eq_of_lt]
      refine Nat.div_lt_of_lt_mul ?_
      rw [← Nat.pow_succ,show ((magL m).length - 1).succ = (magL m).length by omega];exact hlt
    | succ k ih =>
      intro hk
      rw [dnF_succ _ _ hk,wtxt_snoc,ih (by omega)]
      unfold wpart
      rw [if_pos (by simp;omega),wAt_magL]
      simp only
      have e1:(magL m).length - (k + 1) = ((magL m).length - (k + 1 + 1)) + 1:=by omega
      have e2:(magL m).length - 1 - (k + 1) = (magL m).length - (k + 1 + 1):=by omega
      rw [e2,e1]
      generalize (magL m).length - (k + 1 + 1) = j at *
      have hne:m / B9 ^ (j + 1) ≠ 0:=by
        have h1:=magL_top m hm
        have h2:B9 ^ (j + 1) ≤ B9 ^ ((magL m).length - 1):=Nat.pow_le_pow_right B9_pos (by omega)
        have h3:=Nat.div_pos (Nat.le_trans h2 h1) (Nat.pow_pos B9_pos)
        omega
      have hw:=wd_lt m j
      rw [← dec_word 9 _ _ (by omega) hne (by rw [← B9_eq];exact hw)]
      congr 1
      unfold wd
      rw [← B9_eq,Nat.pow_succ,← Nat.div_div_eq_div_mul]
      have:=Nat.div_add_mod (m / B9 ^ j) B9
      rw [Nat.mul_comm] at this;exact this
  have:=key ((magL m).length - 1) (by omega)
  rw [show (magL m).length - 1 + 1 = (magL m).length by omega,Nat.sub_self,Nat.pow_zero,Nat.div_one] at this
  exact this
theorem repeat0 (c:Nat):Lib.repeatL [48] c = List.replicate c 48:=by
  induction c with
  | zero => rfl
  | succ c ih => rw [List.replicate_succ,← ih];rfl
def wrT (x:Int):Txt × Int:=if 4096 < dl x then ([],23) else (itoa x,0)
theorem ownsRowF_kept {W W':World} {B e:Nat} {v:Value} {n:Nat} {xs:List Value} (h:W.ownsRowF B e 1 v n xs) {row:Option Nat} (hg:W.grownBy W' row) (hr:∀ j,row = some j → ∃ o:Obj,W.heap[j]? = some o ∧ o.isCells = false):W'.ownsRowF B e 1 v n xs:=by
  obtain ⟨h1,h2⟩:=h
  refine ⟨h1,?_⟩
  rcases h2 with h2 | ⟨g,cap,cur,fz,hv,hg2,hh,r⟩
  · exact .inl h2
  · refine .inr ⟨g,cap,cur,fz,hv,hg2,?_,r⟩
    rw [hg.block g (Array.getElem?_eq_some_iff.1 hh).1 (fun e' => by obtain ⟨o,ho,hc⟩:=hr g e'.symm;rw [hh] at ho;cases ho;cases hc)]
    exact hh
theorem builderAtF_kept {W W':World} {T e:TypeId} {B b:Nat} {p:Value} {bs:List Value} (h:Lib.BuilderAtF T e B b p bs W) {row:Option Nat} (hg:W.grownBy W' row) (hr:∀ j,row = some j → ∃ o:Obj,W.heap[j]? = some o ∧ o.isCells = false):Lib.BuilderAtF T e B b p bs W':=by
  obtain ⟨h1,v,h2,h3,h4⟩:=h
  refine ⟨h1,v,?_,ownsRowF_kept h3 hg hr,h4⟩
  rw [hg.block b (Array.getElem?_eq_some_iff.1 h2).1 (fun e' => by obtain ⟨o,ho,hc⟩:=hr b e'.symm;rw [h2] at ho;cases ho;cases hc)]
  exact h2
theorem isBuilderF_kept {W W':World} {T e:TypeId} {B b:Nat} {bs:List Value} (h:Lib.IsBuilderF T e B b bs W) {row:Option Nat} (hg:W.grownBy W' row) (hr:∀ j,row = some j → ∃ o:Obj,W.heap[j]? = some o ∧ o.isCells = false):Lib.IsBuilderF T e B b bs W' :=
  h.elim (fun x => .inl (builderAtF_kept x hg hr)) (fun x => .inr (builderAtF_kept x hg hr))
theorem isBuilderF_below {W W':World} {T e:TypeId} {B b:Nat} {bs:List Value} (h:Lib.IsBuilderF T e B b bs W) (hb:Below W.heap.size W W'):Lib.IsBuilderF T e B b bs W':=by
  have key:∀ p,Lib.BuilderAtF T e B b p bs W → Lib.BuilderAtF T e B b p bs W':=by
    rintro p ⟨h1,v,h2,⟨h3,h4⟩,h5⟩
    refine ⟨h1,v,(hb.block b (Array.getElem?_eq_some_iff.1 h2).1).trans h2,⟨h3,?_⟩,h5⟩
    rcases h4 with h4 | ⟨g,cap,cur,fz,hv,hg2,hh,r⟩
    · exact .inl h4
    · exact .inr ⟨g,cap,cur,fz,hv,hg2,(hb.block g (Array.getElem?_eq_some_iff.1 hh).1).trans hh,r⟩
  exact h.elim (fun x => .inl (key _ x)) (fun x => .inr (key _ x))
theorem keeps_below {W W':World} (hb:Below W.heap.size W W'):KeepsOthers W W':=⟨hb.size,fun k o hk _ => (hb.block k (Array.getElem?_eq_some_iff.1 hk).1).trans hk⟩
theorem keeps_others {W W':World} {e:TypeId} {b:Nat} (hs:W.heap.size ≤ W'.heap.size) (h:Lib.OthersKept e (some b) W W') (hbc:∀ o,W.heap[b]? = some o → o.isCells = true):KeepsOthers W W' :=
  ⟨hs,fun k o hk ho => h k o hk (fun e' => by cases e';rw [hbc o hk] at ho;cases ho) (fun c fz e' => by subst e';cases ho)⟩
theorem builder_cells {T e:TypeId} {B b:Nat} {bs:List Value} {W:World} (h:Lib.IsBuilderF T e B b bs W):∀ o,W.heap[b]? = some o → o.isCells = true:=by
  intro o ho
  rcases h with ⟨_,v,h2,_⟩ | ⟨_,v,h2,_⟩ <;> (rw [h2] at ho;cases ho;rfl)
structure Wr (T e t2 t3 : TypeId) (w : World) (b : Bool) (p : Option Addr) (n c : Nat) (W : World) (txt : Txt) : Prop where
  bx:W.heap[w.heap.size]? = some (.cells #[.bool b,.slice p n c] t2 (0,0))
  bl:Lib.IsBuilderF T e (w.heap.size + 1) (w.heap.size + 1) (Lib.byteCells txt) W
  bi:W.heap[w.heap.size + 1 + 1]? = some (.cells #[.slice p n c] t3 (0,0))
  hB:Below w.heap.size w W
theorem Wr.quiet {T e t2 t3:TypeId} {w:World} {b:Bool} {p:Option Addr} {n c:Nat} {W W':World} {txt:Txt} (h:Wr T e t2 t3 w b p n c W txt) (hb:Below W.heap.size W W'):Wr T e t2 t3 w b p n c W' txt ∧ KeepsOthers W W' ∧ KeepB w.heap.size (w.heap.size + 1 + 1) W W' :=
  ⟨⟨(hb.block _ (Array.getElem?_eq_some_iff.1 h.bx).1).trans h.bx,isBuilderF_below h.bl hb,(hb.block _ (Array.getElem?_eq_some_iff.1 h.bi).1).trans h.bi,h.hB.trans (hb.mono h.hB.size)⟩,keeps_below hb,⟨hb.mono h.hB.size,hb.block _ (Array.getElem?_eq_some_iff.1 h.bi).1⟩⟩
theorem Wr.wrote {T e t2 t3 : TypeId} {w : World} {b : Bool} {p : Option Addr} {n c : Nat} {W W' : World} {txt s : Txt} (h : Wr T e t2 t3 w b p n c W txt) (hte : t3 ≠ e)
    (h1:Lib.BuilderAtF T e (w.heap.size + 1) (w.heap.size + 1) (.pointer (some ⟨w.heap.size + 1,0,none⟩)) (Lib.byteCells txt ++ Lib.byteCells s) W') (h2:Below (w.heap.size + 1) W W') (h3:Lib.OthersKept e (some (w.heap.size + 1)) W W') :
    Wr T e t2 t3 w b p n c W' (txt ++ s) ∧ KeepsOthers W W' ∧ KeepB w.heap.size (w.heap.size + 1 + 1) W W':=by
  have hbi:=h3 _ _ h.bi (by simp) (fun c fz e' => by cases e';exact hte rfl)
  refine ⟨⟨(h2.block _ (by omega)).trans h.bx,?_,hbi,h.hB.trans (h2.mono (by omega))⟩,keeps_others h2.size h3 (builder_cells h.bl),⟨h2.mono (by omega),by rw [hbi,h.bi]⟩⟩
  rw [Lib.byteCells_append];exact .inr h1
theorem Wr.own (T e t2 t3:TypeId) (w:World) (b:Bool) (p:Option Addr) (n c:Nat) {β:Type} (f:β → Txt) (N:Nat) (hN:w.heap.size ≤ N):OwnFrom N (fun s W => Wr T e t2 t3 w b p n c W (f s)):=by
  intro s W W' row h hg hr
  have hr':=fun r e => (hr r e).2
  have blk:∀ (k:Nat) (cs:Array Value) (t:TypeId),W.heap[k]? = some (Obj.cells cs t (0,0)) → W'.heap[k]? = some (Obj.cells cs t (0,0)):=fun k cs t hk => by
    rw [hg.block k (Array.getElem?_eq_some_iff.1 hk).1 (fun e' => by obtain ⟨o,ho,hc⟩:=hr' k e'.symm;rw [hk] at ho;cases ho;cases hc)]
    exact hk
  exact ⟨blk _ _ _ h.bx,isBuilderF_kept h.bl hg hr',blk _ _ _ h.bi,h.hB.grown hg h.hB.size (fun k e => Nat.le_trans hN (hr k e).1)⟩
end Lum
namespace Go.Proofs.YtbeojahilbglcaaGreatDoor
open Go.RowKit Go.Shelf Lum
open Go.Lib (decDigits itoa)
theorem shelf166:Lays.n166 Tryz.prog Tryz.lays105_ren:={ Tryz.lays105 with }
theorem shelf169:Lays.n169 Tryz.prog Tryz.lays105_ren:={ Tryz.lays105 with }
theorem shelfX : Builder.Extra Tryz.prog Tryz.lays105_ren := {
  sizeBuilder:=by kernel_rfl
  liesBuilder:=by kernel_rfl
  t5:=Tryz.underlying5
  a5:=Tryz.isAgg5
  z5:=Tryz.sizeOf5
  v5:=Tryz.zeroValue5
  infoByte:=by kernel_rfl
  cellsByte:=by kernel_rfl
  sizeByte:=by kernel_rfl
  neB5:=by decide }
theorem sh_writeString (B b : Nat) (bs : List Value) (s : ByteArray) (w : World) (h : Lib.IsBuilderF 267 5 B b bs w) (hlen : bs.length + s.size ≤ 140737488355328) (hBw : B ≤ w.heap.size) :
    Calls Tryz.prog 234 #[.pointer (some ⟨b,0,none⟩),.string s] w fun e w' => e = .returned (.tuple #[.int .i64 s.size,.nilIface]) ∧ (Lib.BuilderAtF 267 5 B b (.pointer (some ⟨b,0,none⟩)) (bs ++ Lib.strCells s) w' ∧ Below B w w' ∧ Lib.OthersKept 5 (some b) w w') :=
  Any.Builder_WriteString_k shelf166 shelfX B b bs s w h hlen hBw
theorem sh_builderString (B b : Nat) (l : List UInt8) (w : World) (h : Lib.IsBuilderF 267 5 B b (Lib.byteCells l) w) (hBw : B ≤ w.heap.size) :
    Calls Tryz.prog 237 #[.pointer (some ⟨b,0,none⟩)] w fun e w' => e = .returned (.string ⟨l.toArray⟩) ∧ (Lib.IsBuilderF 267 5 B b (Lib.byteCells l) w' ∧ Below B w w' ∧ Lib.OthersKept 5 (some b) w w') :=
  Any.Builder_String_any_k shelf169 shelfX B b l w h hBw
theorem sh_builderLen (B b : Nat) (bs : List Value) (w : World) (h : Lib.IsBuilderF 267 5 B b bs w) :
    Calls Tryz.prog 236 #[.pointer (some ⟨b,0,none⟩)] w fun e w' => e = .returned (.int .i64 bs.length) ∧ w' = w :=
  Any.Builder_Len_f Tryz.lays170 B b bs w h
theorem sh_repeat (s : ByteArray) (c : Nat) (w : World) (hc : c ≤ 9223372036854775807) (hlen : s.size * c ≤ 140737488355328) :
    Calls Tryz.prog 235 #[.string s,.int .i64 c] w fun e w' => e = .returned (.string ⟨(Lib.repeatL s.data.toList c).toArray⟩) ∧ Below w.heap.size w w' :=
  Any.strings_Repeat Tryz.lays105 shelfX s c w hc hlen
end Go.Proofs.YtbeojahilbglcaaGreatDoor
namespace Go.Proofs.YtbeojahilbglcaaGreatDoor
open Go.RowKit Go.Shelf Lum
open Go.Lib (decDigits itoa)
attribute [local go_sem] Oper.semAt_some
theorem own_write_some (b : Bool) (p : Option Addr) (c : Nat) (x : Int) (w : World) (h : NumAt w b p (magL x.natAbs).length c x) (hx : x ≠ 0) (hn : (magL x.natAbs).length ≤ 20000) (env : Env w) :
    Calls Tryz.prog 214 #[.agg #[.bool b,.slice p (magL x.natAbs).length c]] w fun e w' => e = .returned (.tuple #[.string ⟨(wrT x).1.toArray⟩,.int .i64 (wrT x).2]) ∧ Below w.heap.size w w':=by
  refine (callsIn_wide (n:=5)).1 ?_
  refine callsIn_of_wp_marks Tryz.func214 rfl trivial ?_ rfl
  simp only [Tryz.ntmps214,List.size_toArray,List.length_cons,List.length_nil,Nat.reduceAdd,Nat.reduceSub,Array.replicate_succ,Array.replicate_zero,List.push_toArray,List.append_toArray,List.nil_append,List.cons_append]
  have hI:=h.2.1
  have hb:=h.1
  have hwd:=magL_lt x.natAbs
  have htx:=wtxt_all x.natAbs (by omega)
  have hne:=magL_ne x.natAbs (by omega)
  have HT:=Lib.hid htx;clear htx
  have HW:=Lib.hid hwd;clear hwd
  have HI:=Lib.hid hI;clear hI
  have HB:=Lib.hid hb;clear hb h
  generalize magL x.natAbs = ws at *
  have hnz:((ws.length:Int) == 0) = false:=by rw [beq_eq_false_iff_ne];omega
  have hlw:ws ≠ []:=by intro e;rw [e] at hne;simp at hne
  gi_wp2_with (refine ⟨trivial,?_⟩;gi_at_call 232;refine (down_in Fence.wide 4 trivial rfl _ _ _ _).mono ?_;rintro e w' ⟨rfl,rfl⟩)
  have hW0:Wr 267 5 245 243 w b p ws.length c (((w.alloc (.cells #[.bool b,.slice p ws.length c] 245)).alloc (.cells #[.pointer none,.slice none 0 0] 267)).alloc (.cells #[.slice p ws.length c] 243)) []:=by
    refine ⟨(Below.heap_alloc _ _ _ (by simp;omega)).trans ((Below.heap_alloc _ _ _ (by simp)).trans (World.alloc_heap_new w _)),?_,?_,(((Below.refl _ w).alloc (Nat.le_refl _) _).alloc (by simp) _).alloc (by simp;omega) _⟩
    rotate_left
    · have:=World.alloc_heap_new ((w.alloc (.cells #[.bool b,.slice p ws.length c] 245)).alloc (.cells #[.pointer none,.slice none 0 0] 267)) (.cells #[.slice p ws.length c] 243)
      rwa [World.size_alloc,World.size_alloc] at this
    have:=Lib.IsBuilderF.of (Lib.fresh_isBuilder 267 5 (w.alloc (.cells #[.bool b,.slice p ws.length c] 245)))
    rw [World.size_alloc] at this
    exact this.alloc _
  have cN:=Boxed.new ((w.alloc (.cells #[.bool b,.slice p ws.length c] 245)).alloc (.cells #[.pointer none,.slice none 0 0] 267)) 243 (.slice p ws.length c)
  rw [World.size_alloc,World.size_alloc] at cN
  refine wpIn_rangeFunc_ownG (n := 5) rfl (by omega) (Kp := KeepB w.heap.size (w.heap.size + 1 + 1)) (gf := 254) (lb := #[.pointer (some ⟨w.heap.size + 1 + 1, 0, none⟩)]) rfl trivial (enters_of Tryz.func254 (by kernel_rfl) rfl)
    (down_stops Fence.wide 4 trivial rfl (by omega) (w.heap.size + 1 + 1) w.heap.size _ ws (by omega) _ (by simp;omega) cN w HI.out rfl hW0.hB) KeepB.t (KeepB.b (by simp;omega) (by simp)) (Below.refl _ _) (fun _ => rfl)
    (fun pre W => Wr 267 5 245 243 w b p ws.length c W (wtxt ws pre))
    (fun _ _ _ => False)
    (Wr.own _ _ _ _ w b p ws.length c (wtxt ws) _ (by simp;omega))
    (fun _ _ _ _ _ h _ _ => h)
    hW0
    (fun x => { tmps:=#[.agg #[.bool b,.slice p ws.length c],.pointer (some ⟨w.heap.size,0,none⟩),.string ⟨#[]⟩,.int .i64 0,.pointer (some ⟨w.heap.size + 1,0,none⟩),.int .i64 (x.1:Int),.int .u64 (wAt ws x:Int),undef,.pointer (some ⟨w.heap.size,1,none⟩),.slice p ws.length c,.int .i64 (ws.length:Int),.bool false,.pointer (some ⟨w.heap.size,1,none⟩),.slice p ws.length c,.func (.func 254) #[] #[.pointer (some ⟨w.heap.size + 1 + 1,0,none⟩)],.int .i64 (x.1:Int),.int .u64 (wAt ws x:Int),undef,undef,undef,undef,undef,undef,undef,undef,undef,undef,undef,undef,undef,undef,undef,undef,undef,undef,undef,undef,undef,undef],defers:=[] }) ?assign ?body ?done ?stop
  case assign =>
    intro l x W K hK
    gi_wp2
    exact hK
  case body =>
    rintro l pre x W hWr hpre
    have hx2:=x.2
    obtain ⟨u,hu⟩:∃ u,u = wAt ws x:=⟨_,rfl⟩
    have hu9:u < B9:=by rw [hu];exact wAt_lt ws HW.out x
    have hul:(decDigits u).length ≤ 9:=(dec_length_lt _ _ (by omega)).2 (by rw [← B9_eq];exact hu9)
    have hu1:1 ≤ (decDigits u).length:=dec_length_pos u
    have hu18:u < 1000000000000000000:=Nat.lt_trans hu9 (by decide)
    have htl:=wtxt_len ws HW.out pre
    have hpart:wtxt ws (pre ++ [x]) = wtxt ws pre ++ (if x.1 + 1 < ws.length then padk 9 u else decDigits u):=by rw [wtxt_snoc,hu];rfl
    rw [← hu]
    have HU:=Lib.hid hu;clear hu
    have HP:=Lib.hid hpart;clear hpart
    generalize wtxt ws pre = txt at *
    have hlt1:txt.length ≤ 1000000:=by omega
    have hF:=sh_formatU u hu18 W (env.below hWr.hB)
    have HF:=Lib.hid hF;clear hF
    have hS:=fun (W:World) (t s:Txt) (h:Wr 267 5 245 243 w b p ws.length c W t) (ht:t.length ≤ 2000000) (hs:s.length ≤ 1000000) => sh_writeString (w.heap.size + 1) (w.heap.size + 1) (Lib.byteCells t) ⟨s.toArray⟩ W h.bl (by rw [Lib.byteCells_length];simp [ByteArray.size];omega) (by have:=(Array.getElem?_eq_some_iff.1 h.bi).1;omega)
    have HS:=Lib.hid hS;clear hS
    have hR:=fun W => sh_repeat ⟨#[48]⟩ (9 - (decDigits u).length) W (by omega) (by simp [ByteArray.size];omega)
    have er:(((9 - (decDigits u).length:Nat)):Int) = 9 - ((decDigits u).length:Int):=by omega
    have er2:(⟨#[48]⟩:ByteArray).data.toList = [48]:=rfl
    rw [er] at hR
    simp only [er2,repeat0] at hR
    have HR:=Lib.hid hR;clear hR er er2
    generalize hdd:decDigits u = dd at *
    have HDD:=Lib.hid hdd;clear hdd
    have HWr:=Lib.hid hWr
    have c1:W.cell? ⟨w.heap.size,1,none⟩ = some (.slice p ws.length c):=Lib.cell_of_heap hWr.bx 1
    clear hWr
    by_cases hlt:x.1 + 1 < ws.length
    · have HL:=Lib.hid hlt
      have hlti:(x.1:Int) < (ws.length:Int) - 1:=by omega
      clear hlt
      gi_wp2_with (first | (refine ⟨trivial,?_⟩;gi_at_call 233;refine (CallsIn.inRound l (callsIn_wide.2 HF.out)).mono ?_;rintro e W1 ⟨rfl,hb1⟩;have q1:=HWr.out.quiet hb1;have c2:W1.cell? ⟨w.heap.size,1,none⟩ = some (.slice p ws.length c):=Lib.cell_of_heap q1.1.bx 1;have Q1:=Lib.hid q1;clear q1 hb1) | (refine ⟨trivial,?_⟩;gi_at_call 235;refine (CallsIn.inRound l (callsIn_wide.2 (HR.out _))).mono ?_;rintro e W2 ⟨rfl,hb2⟩;have q2:=Q1.out.1.quiet hb2;have Q2:=Lib.hid q2;clear q2 hb2) | (refine ⟨trivial,?_⟩;gi_at_call 234;refine (CallsIn.inRound l (callsIn_wide.2 (HS.out _ _ dd Q3.out.1 (by rw [List.length_append,List.length_replicate];omega) (by omega)))).mono ?_;rintro e W4 ⟨rfl,h31,h32,h33⟩;have q:=Q3.out.1.wrote (by decide) h31 h32 h33;have Q4:=Lib.hid q;clear q h31 h32 h33) | (refine ⟨trivial,?_⟩;gi_at_call 234;refine (CallsIn.inRound l (callsIn_wide.2 (HS.out _ _ (List.replicate (9 - dd.length) 48) Q2.out.1 (by omega) (by rw [List.length_replicate];omega)))).mono ?_;rintro e W3 ⟨rfl,h31,h32,h33⟩;have q:=Q2.out.1.wrote (by decide) h31 h32 h33;have Q3:=Lib.hid q;clear q h31 h32 h33))
      refine ⟨(((Q1.out.2.1.trans Q2.out.2.1).trans Q3.out.2.1).trans Q4.out.2.1).from _,((Q1.out.2.2.t Q2.out.2.2).t Q3.out.2.2).t Q4.out.2.2,?_⟩
      have:=Q4.out.1
      show Wr _ _ _ _ w b p ws.length c W4 (wtxt ws (pre ++ [x]))
      rw [HP.out,if_pos HL.out]
      rw [List.append_assoc] at this
      have e:padk 9 u = List.replicate (9 - dd.length) 48 ++ dd:=by rw [← HDD.out];rfl
      rw [e];exact this
    · have HL:=Lib.hid hlt
      have hlti:¬ (x.1:Int) < (ws.length:Int) - 1:=by omega
      clear hlt
      gi_wp2_with (first | (refine ⟨trivial,?_⟩;gi_at_call 233;refine (CallsIn.inRound l (callsIn_wide.2 HF.out)).mono ?_;rintro e W1 ⟨rfl,hb1⟩;have q1:=HWr.out.quiet hb1;have c2:W1.cell? ⟨w.heap.size,1,none⟩ = some (.slice p ws.length c):=Lib.cell_of_heap q1.1.bx 1;have Q1:=Lib.hid q1;clear q1 hb1) | (refine ⟨trivial,?_⟩;gi_at_call 234;refine (CallsIn.inRound l (callsIn_wide.2 (HS.out _ _ dd Q1.out.1 (by omega) (by omega)))).mono ?_;rintro e W4 ⟨rfl,h31,h32,h33⟩;have q:=Q1.out.1.wrote (by decide) h31 h32 h33;have Q4:=Lib.hid q;clear q h31 h32 h33))
      refine ⟨(Q1.out.2.1.trans Q4.out.2.1).from _,Q1.out.2.2.t Q4.out.2.2,?_⟩
      have:=Q4.out.1
      show Wr _ _ _ _ w b p ws.length c W4 (wtxt ws (pre ++ [x]))
      rw [HP.out,if_neg HL.out]
      exact this
  case done =>
    rintro D ys W hD rfl hWr hK
    have hWr:Wr 267 5 245 243 w b p ws.length c W (wtxt ws (dnF ws.length ws.length)):=hWr
    rw [HT.out] at hWr
    have hsw:itoa x = if b then 45 :: decDigits x.natAbs else decDigits x.natAbs:=by
      have hb:=HB.out
      cases b with
      | false =>
        have:¬ x < 0:=by simpa using hb.symm
        have e:x = (x.natAbs:Int):=by omega
        rw [if_neg (by simp)]
        conv => lhs;rw [e]
        rw [itoa_nat]
      | true =>
        have:x < 0:=by simpa using hb.symm
        have e:x = -(x.natAbs:Int):=by omega
        rw [if_pos rfl]
        conv => lhs;rw [e]
        rw [itoa_negsucc _ (by omega)]
    have hwr:wrT x = if 4096 < (decDigits x.natAbs).length then ([],23) else (if b then 45 :: decDigits x.natAbs else decDigits x.natAbs,0):=by unfold wrT dl;rw [hsw]
    have HWT:=Lib.hid hwr;clear hwr hsw
    generalize decDigits x.natAbs = dd at *
    have hL:=sh_builderLen _ _ _ W hWr.bl
    rw [Lib.byteCells_length] at hL
    have hT:=sh_builderString _ _ dd W hWr.bl (by have:=(Array.getElem?_eq_some_iff.1 hWr.bi).1;omega)
    have HL:=Lib.hid hL;clear hL
    have HTS:=Lib.hid hT;clear hT
    have c0:W.cell? ⟨w.heap.size,0,none⟩ = some (.bool b):=Lib.cell_of_heap hWr.bx 0
    have HWr:=Lib.hid hWr;clear hWr
    by_cases h4:4096 < dd.length
    · have H4:=Lib.hid h4
      have h4i:(4096:Int) < (dd.length:Int):=by omega
      clear h4
      gi_wp2_with (refine ⟨trivial,?_⟩;gi_at_call 236;refine (callsIn_wide.2 HL.out).mono ?_;rintro e w' ⟨rfl,rfl⟩)
      refine ⟨by simp,.inl ⟨_,_,rfl,run_takeDeferred hK,?_⟩⟩
      refine ⟨.tuple #[.string ⟨#[]⟩,.int .i64 23],by simp [results,Tryz.f214,go_sem],by rw [HWT.out,if_pos H4.out],?_⟩
      exact HWr.out.hB.trans (belowK_b (w:=w) (Nat.le_refl _) _ D _ (.deferred none) (by simp at hD;omega) hK rfl rfl)
    · have H4:=Lib.hid h4
      have h4i:¬ (4096:Int) < (dd.length:Int):=by omega
      clear h4
      cases b
      all_goals
        gi_wp2_with (first | (refine ⟨trivial,?_⟩;gi_at_call 236;refine (callsIn_wide.2 HL.out).mono ?_;rintro e w' ⟨rfl,rfl⟩) | (refine ⟨trivial,?_⟩;gi_at_call 237;refine (callsIn_wide.2 HTS.out).mono ?_;rintro e W5 ⟨rfl,h51,h52,h53⟩;have hK5:=h53 D _ hK (by simp at hD ⊢;omega) (fun c fz e' => by cases e');have HB5:=Lib.hid (HWr.out.hB.trans (h52.mono (by omega)));clear h51 h52 h53))
        refine ⟨by simp,.inl ⟨_,_,rfl,run_takeDeferred hK5,?_⟩⟩
      · refine ⟨.tuple #[.string ⟨dd.toArray⟩,.int .i64 0],by simp [results,Tryz.f214,go_sem],by rw [HWT.out,if_neg H4.out];rfl,?_⟩
        exact HB5.out.trans (belowK_b (w:=w) (Nat.le_refl _) W5 D _ (.deferred none) (by simp at hD;omega) hK5 rfl rfl)
      · refine ⟨.tuple #[.string ⟨(45 :: dd:Txt).toArray⟩,.int .i64 0],by simp [results,Tryz.f214,go_sem];exact bs_append [45] dd,by rw [HWT.out,if_neg H4.out];rfl,?_⟩
        exact HB5.out.trans (belowK_b (w:=w) (Nat.le_refl _) W5 D _ (.deferred none) (by simp at hD;omega) hK5 rfl rfl)
  case stop =>
    rintro D cd pre W _ _ h _
    exact h.elim
theorem own_write (b : Bool) (p : Option Addr) (n c : Nat) (x : Int) (w : World) (h : NumAt w b p n c x) (hn : n ≤ 20000) (env : Env w) :
    Calls Tryz.prog 214 #[.agg #[.bool b,.slice p n c]] w fun e w' => e = .returned (.tuple #[.string ⟨(wrT x).1.toArray⟩,.int .i64 (wrT x).2]) ∧ Below w.heap.size w w':=by
  by_cases hx:x = 0
  · have h0:n = 0:=h.zero.2 hx
    subst h0
    have HX:=Lib.hid hx;clear hx h
    have hB:=(Below.refl w.heap.size w).alloc (Nat.le_refl _) (.cells #[.bool b,.slice p 0 c] 245)
    go_enter Tryz.func214,Tryz.ntmps214
    go_wp2
    go_ret2
    refine ⟨?_,hB⟩
    rw [HX.out]
    have:wrT 0 = ([48],0):=by
      unfold wrT dl
      rw [if_neg (by rw [show (0:Int).natAbs = 0 from rfl,dec_zero];decide),itoa_zero]
    rw [this]
    rfl
  · obtain rfl:n = (magL x.natAbs).length:=h.2.n
    exact own_write_some b p c x w h hx hn env
end Go.Proofs.YtbeojahilbglcaaGreatDoor

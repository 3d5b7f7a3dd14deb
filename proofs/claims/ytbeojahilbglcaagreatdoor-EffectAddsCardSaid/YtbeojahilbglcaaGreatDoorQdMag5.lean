/- A part of the proof of EffectAdds: contracts of functions, and plain facts. -/
import Derived.Test.YtbeojahilbglcaaGreatDoorQdMg
import Derived.Deep.RegionHeld3
import Derived.Test.YtbeojahilbglcaaGreatDoorQdTl
set_option maxRecDepth 100000
set_option maxHeartbeats 4000000
set_option linter.unusedVariables false
set_option linter.unusedSimpArgs false
namespace Lum
open Go Go.RowKit Go.Shelf
theorem wpListIn_makeN {F : Fence} {nn : Nat} {P : Program} (w : World) {ops : Array Oper} {rest : List Oper} {o : Oper} {a : Act} {Q : Exit → Act → World → Prop}
    (hg:o.guard = none) (l c:Operand) (t:TypeId) (hop:o.op = Op.makeSlice t l c)
    (k:IntKind) (base:Nat) (e:TypeId) (i:TypeInfo) (h1:P.underlying t = some (.slice e)) (h2:P.info? e = some i) (h3:i.zero = some (.int k 0)) (h4:i.size = 1) (h5:i.bytes ≤ 16)
    (kl kc:IntKind) (L C:Int) (n:Nat) (hl:a.eval l = .int kl L) (hc:a.eval c = .int kc C) (hL:L = (n:Int)) (hC:C = (n:Int)) (hn:n ≤ 1000000000) (b4:base ≤ w.heap.size)
    (hK:∀ w',RowN k e w' w.heap.size (List.replicate n 0) → Below base w w' → w.heap.size < w'.heap.size → w.grownBy w' none → wpListIn F nn P ops Q rest (a.put o.dst (.slice (Option.some ⟨w.heap.size,0,none⟩) n n)) w') :
    wpListIn F nn P ops Q (o :: rest) a w:=by
  refine wpListIn_plain hg fun K hK' => ?_
  obtain ⟨w',hrun,hown,hgrow⟩:=run_make_full (P:=P) w base t e i (.int k 0) 1 h1 h2 h3 h4 kl kc n (Nat.le_trans (Nat.mul_le_mul h5 hn) (by omega)) (by unfold maxLen;omega) b4
  subst hL
  subst hC
  unfold Oper.wpIn
  refine ⟨?_,?_⟩
  · simp [Oper.about,hop]
  · rw [Oper.semAt_plain F _ _ (by rw [hop];intro c hc';cases hc')]
    simp [execOp,hop,hl,hc,hrun,Result.andThen]
    have hrow:RowN k e w' w.heap.size (List.replicate n 0):=by
      rcases hown.2 with ⟨h6,_⟩ | ⟨g,cap,cur,hv,_,hh,_,_,hsz,htk⟩
      · cases h6
      · injection hv with hv1 hv2 hv3
        injection hv1 with hv1;injection hv1 with hv4 _ _
        subst hv4 hv3
        unfold RowN
        rw [hh]
        have e1:cur.toList = List.replicate n (.int k 0):=by
          rw [List.take_of_length_le (by simp [hsz])] at htk
          rw [htk,Nat.mul_one];exact madeCells_one _ _
        have e2:cur = (List.replicate n (.int k 0):List Value).toArray:=by rw [← e1]
        rw [e2];simp
    exact hK' _ _ (hK w' hrow ((Below.refl base w).grown hgrow b4 (fun k hk => by cases hk)) hrow.lt hgrow)
theorem RowN.kept {k:IntKind} {e:TypeId} {W W':World} {g:Nat} {ws:List Nat} {row:Option Nat} (h:RowN k e W g ws) (hg:W.grownBy W' row) (hne:some g ≠ row):RowN k e W' g ws:=(hg.block g h.lt hne).trans h
theorem rowN_own {β:Type} (k:IntKind) (e:TypeId) (g:Nat) (f:β → List Nat):Own (fun s W => RowN k e W g (f s)):=fun s X Y row hs hg hrow =>
  hs.kept hg (fun e' => by obtain ⟨o,ho,hc⟩:=hrow g e'.symm;rw [show X.heap[g]? = _ from hs] at ho;cases ho;cases hc)
theorem RowN.other {k:IntKind} {e:TypeId} {W:World} {g B':Nat} {ws:List Nat} (h:RowN k e W g ws) (hne:g ≠ B') (o:Nat) (u:Value):RowN k e (W.setCell ⟨B',o,none⟩ u) g ws:=(Below.heap_setCell _ _ _ _ hne).trans h
theorem boxed_other {W:World} {B B':Nat} {t:TypeId} {v:Value} (h:Boxed W B t v) (hne:B ≠ B') (o:Nat) (u:Value):Boxed (W.setCell ⟨B',o,none⟩ u) B t v:=(Below.heap_setCell _ _ _ _ hne).trans h
def WSpec (m d L:Nat) (pre:List (Fin L)) (zs:List Nat) (r:Nat):Prop:=pre = dnF L pre.length → pre.length ≤ L → ∃ Q,mv B9 zs = Q * B9 ^ (L - pre.length) ∧ Q * d + r = m / B9 ^ (L - pre.length)
theorem wspec_start (m d L:Nat) (hm:m < B9 ^ L):WSpec m d L [] (List.replicate L 0) 0:=fun _ _ => ⟨0,by simp [mv_zeros],by simp [Nat.div_eq_of_lt hm]⟩
theorem wspec_step (m d L : Nat) (pre : List (Fin L)) (x : Fin L) (zs : List Nat) (r : Nat) (hl : zs.length = L) (h : WSpec m d L pre zs r) (hz : ∀ e ∈ zs, e < B9) :
    WSpec m d L (pre ++ [x]) (zs.set x.1 ((r * B9 + wd m x.1) / d)) ((r * B9 + wd m x.1) % d):=by
  intro h1 h2
  rw [List.length_append] at h1 h2
  simp only [List.length_cons,List.length_nil,Nat.zero_add] at h1 h2
  obtain ⟨h3,h4⟩:=dnF_snoc h1 (by omega)
  obtain ⟨Q,e1,e2⟩:=h h3 (by omega)
  have hx:L - pre.length = x.1 + 1:=by omega
  rw [hx] at e1 e2
  have hs:=word_step B9 x.1 m d Q r e2
  have hset:=mv_set B9 zs x.1 ((r * B9 + wd m x.1) / d) (by rw [hl];exact x.2)
  have h0:zs.getD x.1 0 = 0:=by
    rw [mv_getD B9 B9_pos zs hz,e1,Nat.pow_succ,Nat.mul_comm (B9 ^ x.1) B9,← Nat.mul_assoc,Nat.mul_div_cancel _ (Nat.pow_pos B9_pos),Nat.mul_mod_left]
  rw [h0,Nat.mul_zero,Nat.add_zero,e1] at hset
  refine ⟨Q * B9 + (r * B9 + wd m x.1) / d,?_,?_⟩
  · rw [List.length_append]
    simp only [List.length_cons,List.length_nil,Nat.zero_add]
    rw [show L - (pre.length + 1) = x.1 by omega,hset,Nat.pow_succ]
    grind
  · rw [List.length_append]
    simp only [List.length_cons,List.length_nil,Nat.zero_add]
    rw [show L - (pre.length + 1) = x.1 by omega];exact hs
theorem NatsAt.putDef {k:IntKind} {W:World} {v:Value} {ws:List Nat} (h:NatsAt k W v ws) {D:Nat} {ob o:Obj} (hK:W.heap[D]? = Option.some ob) (hc:ob.isCells = false):NatsAt k (W.putObj D o) v ws:=by
  rcases h with h | ⟨b,of,c,e,h1,h2,h3,h4⟩
  · exact .inl h
  · exact .inr ⟨b,of,c,e,Nat.lt_of_lt_of_le h1 (grownBy_putObj' W D o).size,h2,h3,fun j hj => cell_kept (h4 j hj) (grownBy_putObj' W D o) (fun r e => by cases e;exact ⟨_,hK,hc⟩)⟩
def atEnd (R : Act → World → Prop) : Exit → Act → World → Prop
  | .normal,a,w => R a w
  | _,_,_ => False
theorem wspec_end (m d L:Nat) (zs:List Nat) (r:Nat) (hr:r < d) (h:WSpec m d L (dnF L L) zs r):mv B9 zs = m / d ∧ r = m % d:=by
  have hl:=dnF_length L L (Nat.le_refl _)
  obtain ⟨Q,e1,e2⟩:=h (by rw [hl]) (by omega)
  rw [hl,Nat.sub_self,Nat.pow_zero,Nat.mul_one] at e1
  rw [hl,Nat.sub_self,Nat.pow_zero,Nat.div_one] at e2
  have h1:m / d = Q:=by rw [← e2,Nat.mul_comm,Nat.mul_add_div (by omega),Nat.div_eq_of_lt hr];rfl
  have h2:m % d = r:=by rw [← e2,Nat.mul_comm,Nat.mul_add_mod,Nat.mod_eq_of_lt hr]
  exact ⟨by omega,by omega⟩
end Lum
namespace Go.Proofs.YtbeojahilbglcaaGreatDoor
open Go.RowKit Go.Shelf Lum
attribute [local go_sem] Oper.semAt_some
theorem mag_word (p1 : Option Addr) (c1 m d : Nat) (w : World) (h1 : MagAt w p1 (magL m).length c1 m) (hn1 : (magL m).length ≤ 100000) (hd0 : 0 < d) (hd : d < 1000000000) :
    Calls Tryz.prog 227 #[.slice p1 (magL m).length c1,.int .u64 (d:Int)] w fun e W' => ∃ p' n' c',e = .returned (.tuple #[.slice p' n' c',.int .u64 ((m % d:Nat):Int)]) ∧ MagAt W' p' n' c' (m / d) ∧ Below w.heap.size w W':=by
  obtain ⟨i0,hi,hz0,hz1,hz2⟩:=info_parts info_u64
  refine (callsIn_wide (n:=5)).1 ?_
  refine callsIn_of_wp_marks Tryz.func227 rfl trivial ?_ rfl
  simp only [Tryz.ntmps227,List.size_toArray,List.length_cons,List.length_nil,Nat.reduceAdd,Nat.reduceSub,Array.replicate_succ,Array.replicate_zero,List.push_toArray,List.append_toArray,List.nil_append,List.cons_append]
  have H1:=Lib.hid h1;clear h1
  have hm:=lt_len m
  have HM:=Lib.hid hm;clear hm
  gi_wp2_with (first | (gi_at_make;refine wpListIn_makeN _ rfl _ _ 243 rfl .u64 w.heap.size 197 i0 Tryz.underlying243 hi hz0 hz1 (by rw [hz2];decide) .i64 .i64 _ _ (magL m).length rfl rfl (by omega) (by omega) (by omega) (by simp) ?_;rintro w3 hr3 hb3 hs3 hg3;rw [World.size_alloc] at hr3 hs3 ⊢) | (refine ⟨trivial,?_⟩;gi_at_call 232;refine (down_in Fence.wide 4 trivial rfl _ _ _ _).mono ?_;rintro e w' ⟨rfl,rfl⟩))
  have cD:=(Boxed.new w 197 (.int .u64 (d:Int))).kept hg3 (by simp)
  have cO:=Boxed.new w3 243 (.slice (some ⟨w.heap.size + 1,0,none⟩) (magL m).length (magL m).length)
  have cR:=Boxed.new (w3.alloc (.cells #[.slice (some ⟨w.heap.size + 1,0,none⟩) (magL m).length (magL m).length] 243)) 197 (.int .u64 0)
  have cN:=Boxed.new ((w3.alloc (.cells #[.slice (some ⟨w.heap.size + 1,0,none⟩) (magL m).length (magL m).length] 243)).alloc (.cells #[.int .u64 0] 197)) 243 (.slice p1 (magL m).length c1)
  rw [World.size_alloc] at cR cN
  rw [World.size_alloc] at cN
  have hB3:Below w.heap.size w w3:=((Below.refl _ w).alloc (Nat.le_refl _) _).trans hb3
  have hB0:Below w.heap.size w (((w3.alloc (.cells #[.slice (some ⟨w.heap.size + 1,0,none⟩) (magL m).length (magL m).length] 243)).alloc (.cells #[.int .u64 0] 197)).alloc (.cells #[.slice p1 (magL m).length c1] 243)):=((hB3.alloc (by omega) _).alloc (by simp;omega) _).alloc (by simp;omega) _
  refine wpIn_rangeFunc_ownG (n := 5) rfl (by omega) (Kp := KeepB w.heap.size (w3.heap.size + 1 + 1)) (gf := 254) (lb := #[.pointer (some ⟨w3.heap.size + 1 + 1, 0, none⟩)]) rfl trivial (enters_of Tryz.func254 (by kernel_rfl) rfl)
    (down_stops Fence.wide 4 trivial rfl (by omega) (w3.heap.size + 1 + 1) w.heap.size _ (magL m) (by omega) _ (by simp;omega) cN w H1.out.1 rfl hB0) KeepB.t (KeepB.b (by simp;omega) (by simp)) (Below.refl _ _) (fun _ => rfl)
    (fun pre W => (∃ (r : Nat) (zs : List Nat), r < d ∧ zs.length = (magL m).length ∧ Hid (∀ e ∈ zs, e < B9) ∧ Hid (WSpec m d (magL m).length pre zs r) ∧ Boxed W w.heap.size 197 (.int .u64 (d : Int)) ∧
      Boxed W w3.heap.size 243 (.slice (some ⟨w.heap.size + 1,0,none⟩) (magL m).length (magL m).length) ∧ Boxed W (w3.heap.size + 1) 197 (.int .u64 (r:Int)) ∧ RowN .u64 197 W (w.heap.size + 1) zs) ∧ Below w.heap.size w W)
    (fun _ _ _ => False)
    (OwnFrom.and (Own.from (fun s A B row hs hg hr => by
      obtain ⟨r,zs,e1,e2,e3,e4,e5,e6,e7,e8⟩:=hs
      exact ⟨r,zs,e1,e2,e3,e4,boxed_own _ _ (fun _:Unit => _) () A B row e5 hg hr,boxed_own _ _ (fun _:Unit => _) () A B row e6 hg hr,boxed_own _ _ (fun _:Unit => _) () A B row e7 hg hr,rowN_own _ _ _ (fun _:Unit => _) () A B row e8 hg hr⟩) _) (ownFrom_below (Nat.le_refl _) (by simp;omega)))
    (fun _ _ _ _ _ hs _ _ => hs)
    ⟨⟨0,List.replicate (magL m).length 0,hd0,by simp,(show ∀ e ∈ _,_ by simp [B9_pos]),wspec_start _ _ _ HM.out,((cD.alloc _).alloc _).alloc _,(cO.alloc _).alloc _,cR.alloc _,((hr3.kept (World.grownBy_alloc _ _ none) (by simp)).kept (World.grownBy_alloc _ _ none) (by simp)).kept (World.grownBy_alloc _ _ none) (by simp)⟩,hB0⟩
    (fun x => { tmps := #[.slice p1 (magL m).length c1, .int .u64 (d : Int), undef, .pointer (some ⟨w.heap.size, 0, none⟩), .slice none 0 0, .int .u64 0, .pointer (some ⟨w3.heap.size, 0, none⟩), .pointer (some ⟨w3.heap.size + 1, 0, none⟩), .int .i64 (x.1 : Int), .int .u64 (wAt (magL m) x : Int),
        .slice p1 (magL m).length c1,.int .i64 ((magL m).length:Int),.slice (some ⟨w.heap.size + 1,0,none⟩) (magL m).length (magL m).length,.slice p1 (magL m).length c1,.func (.func 254) #[] #[.pointer (some ⟨w3.heap.size + 1 + 1,0,none⟩)],.int .i64 (x.1:Int),.int .u64 (wAt (magL m) x:Int),
        undef,undef,undef,undef,undef,undef,undef,undef,undef,undef,undef,undef,undef,undef,undef,undef],defers:=[] }) ?assign ?body ?done ?stop
  case assign =>
    intro l x W K hK
    gi_wp2
    exact hK
  case body =>
    clear cD cO cR cN
    rintro l pre x W ⟨⟨r,zs,hr,hzl,hzs,hsp,bD,bO,bR,hrow⟩,hB⟩ _
    rw [wAt_magL]
    have hx:=x.2
    have hw:=wd_lt m x.1
    have hst:=wspec_step m d _ pre x zs r hzl hsp.out hzs.out
    have HST:=Lib.hid hst;clear hst
    have hDc:=bD.cell
    have hOc:=bO.cell
    have hRc:=bR.cell
    have hRf:=bR.frozen
    have hZf:=hrow.frozen x.1
    have hZc:=hrow.cell x.1 (by omega)
    obtain ⟨u,hu⟩:∃ u,u = wd m x.1:=⟨_,rfl⟩
    rw [← hu] at HST hw ⊢
    have HU:=Lib.hid hu;clear hu
    obtain ⟨t,ht⟩:∃ t,t = r * B9 + u:=⟨_,rfl⟩
    rw [← ht] at HST
    have hti:(r:Int) * 1000000000 + u = (t:Int):=by rw [ht,B9_num];simp
    have htl:(t:Int) < 1000000000000000000:=by omega
    have HT:=Lib.hid ht;clear ht
    have bD1:=boxed_other bD (B':=w3.heap.size + 1) (by omega) 0 (.int .u64 (t:Int))
    have bO1:=boxed_other bO (B':=w3.heap.size + 1) (by omega) 0 (.int .u64 (t:Int))
    have bR1:=bR.set (.int .u64 (t:Int))
    have hrow1:=hrow.other (B':=w3.heap.size + 1) (by omega) 0 (.int .u64 (t:Int))
    have hB1:=hB.setCell (p:=⟨w3.heap.size + 1,0,none⟩) (by simp;omega) (.int .u64 (t:Int))
    have kB1:KeepB w.heap.size (w3.heap.size + 1 + 1) W _:=(KeepB.refl _ _ W).setCell (p:=⟨w3.heap.size + 1,0,none⟩) (by simp;omega) (by simp) (.int .u64 (t:Int))
    have kF1:=(KeepsOthers.setCell W ⟨w3.heap.size + 1,0,none⟩ (.int .u64 (t:Int))).from (((w3.alloc (.cells #[.slice (some ⟨w.heap.size + 1,0,none⟩) (magL m).length (magL m).length] 243)).alloc (.cells #[.int .u64 0] 197)).alloc (.cells #[.slice p1 (magL m).length c1] 243)).heap.size
    gi_wp2
    clear hDc hOc hRc hRf hZf hZc
    generalize hW1:W.setCell ⟨w3.heap.size + 1,0,none⟩ (.int .u64 (t:Int)) = W1 at *
    clear hW1
    have hDc:=bD1.cell
    have hOc:=bO1.cell
    have hRc:=bR1.cell
    have hRf:=bR1.frozen
    have hZf:=hrow1.frozen x.1
    have hZc:=hrow1.cell x.1 (by omega)
    obtain ⟨q,hqe⟩:∃ q,q = t / d:=⟨_,rfl⟩
    obtain ⟨s,hse⟩:∃ s,s = t % d:=⟨_,rfl⟩
    have hq2:((t:Int) / (d:Int)) = (q:Int):=by rw [hqe];simp
    have hr2:((t:Int) % (d:Int)) = (s:Int):=by rw [hse];simp
    have hq1:(t:Int).tdiv (d:Int) = (q:Int):=by rw [Int.tdiv_eq_ediv_of_nonneg (by omega)];exact hq2
    have hr1:(t:Int).tmod (d:Int) = (s:Int):=by rw [Int.tmod_eq_emod_of_nonneg (by omega)];exact hr2
    have hql:q < 1000000000000000000:=by rw [hqe];exact Nat.lt_of_le_of_lt (Nat.div_le_self _ _) (by omega)
    have hsl:s < d:=by rw [hse];exact Nat.mod_lt _ hd0
    have hdz:¬ d = 0:=by omega
    have HQE:=Lib.hid hqe;clear hqe
    have HSE:=Lib.hid hse;clear hse
    generalize zs[x.1]?.getD 0 = zz at hZc
    have HZL:=Lib.hid hzl;clear hzl
    have KB1:=Lib.hid kB1;clear kB1
    have KF1:=Lib.hid kF1;clear kF1
    have HB1:=Lib.hid hB1;clear hB1
    have HROW1:=Lib.hid hrow1;clear hrow1
    have BD1:=Lib.hid bD1;clear bD1
    have BO1:=Lib.hid bO1;clear bO1
    have BR1:=Lib.hid bR1;clear bR1
    clear bD bO bR hrow hB hB0 hB3 hb3 hg3 hr3
    have hmx:Tryz.prog.follows .mixedOrders = true:=by kernel_rfl
    obtain ⟨X0,hX0⟩:∃ X0:World,X0 = { W1 with drawn:=W1.drawn + 1 }:=⟨_,rfl⟩
    have x0c:∀ p,X0.cell? p = W1.cell? p:=fun p => by rw [hX0];rfl
    have x0f:∀ p,X0.frozen? p = W1.frozen? p:=fun p => by rw [hX0];rfl
    have y3:X0.cell? ⟨w.heap.size,0,none⟩ = some (.int .u64 (d:Int)):=(x0c _).trans hDc
    have y6:X0.cell? ⟨w3.heap.size,0,none⟩ = some (.slice (some ⟨w.heap.size + 1,0,none⟩) (magL m).length (magL m).length):=(x0c _).trans hOc
    have y7:X0.cell? ⟨w3.heap.size + 1,0,none⟩ = some (.int .u64 (t:Int)):=(x0c _).trans hRc
    have yf7:X0.frozen? ⟨w3.heap.size + 1,0,none⟩ = false:=(x0f _).trans hRf
    have yz:X0.cell? ⟨w.heap.size + 1,x.1,none⟩ = some (.int .u64 (zz:Int)):=(x0c _).trans hZc
    have yfz:X0.frozen? ⟨w.heap.size + 1,x.1,none⟩ = false:=(x0f _).trans hZf
    obtain ⟨X1,hX1⟩:∃ X1:World,X1 = X0.setCell ⟨w.heap.size + 1,x.1,none⟩ (.int .u64 (q:Int)):=⟨_,rfl⟩
    have z3:X1.cell? ⟨w.heap.size,0,none⟩ = some (.int .u64 (d:Int)):=by rw [hX1,World.cell?_setCell_far _ _ _ _ (by simp)];exact y3
    have z6:X1.cell? ⟨w3.heap.size,0,none⟩ = some (.slice (some ⟨w.heap.size + 1,0,none⟩) (magL m).length (magL m).length):=by rw [hX1,World.cell?_setCell_far _ _ _ _ (by simp;omega)];exact y6
    have z7:X1.cell? ⟨w3.heap.size + 1,0,none⟩ = some (.int .u64 (t:Int)):=by rw [hX1,World.cell?_setCell_far _ _ _ _ (by simp;omega)];exact y7
    have zf7:X1.frozen? ⟨w3.heap.size + 1,0,none⟩ = false:=by rw [hX1,World.frozen?_setCell];exact yf7
    clear hDc hOc hRc hRf hZf hZc x0c x0f
    have HX0:=Lib.hid hX0;clear hX0
    have hqw:IntKind.u64.wrap (q:Int) = (q:Int):=IntWalk.u64_in _ (by omega)
    have hsw:IntKind.u64.wrap (s:Int) = (s:Int):=IntWalk.u64_in _ (by omega)
    refine wpIn_region_inv hmx (by kernel_rfl) (fun listed a' w' => (a'.tmps.size = 33 ∧ a'.tmps[3]?.getD undef = .pointer (some ⟨w.heap.size, 0, none⟩) ∧ a'.tmps[6]?.getD undef = .pointer (some ⟨w3.heap.size, 0, none⟩) ∧ a'.tmps[7]?.getD undef = .pointer (some ⟨w3.heap.size + 1, 0, none⟩) ∧ a'.tmps[8]?.getD undef = .int .i64 (x.1 : Int)) ∧
      (listed[0]?.getD false = true → a'.tmps[21]?.getD undef = .slice (some ⟨w.heap.size + 1,0,none⟩) (magL m).length (magL m).length) ∧ (listed[1]?.getD false = true → a'.tmps[22]?.getD undef = .int .i64 (x.1:Int)) ∧ (listed[2]?.getD false = true → a'.tmps[23]?.getD undef = .int .u64 (t:Int)) ∧
      (listed[3]?.getD false = true → a'.tmps[24]?.getD undef = .int .u64 (d:Int)) ∧ (listed[4]?.getD false = true → a'.tmps[25]?.getD undef = .int .u64 (q:Int)) ∧ (listed[5]?.getD false = true → a'.tmps[26]?.getD undef = .int .u64 (t:Int)) ∧ (listed[6]?.getD false = true → a'.tmps[27]?.getD undef = .int .u64 (d:Int)) ∧
      (listed[7]?.getD false = true → a'.tmps[28]?.getD undef = .int .u64 (s:Int)) ∧ (listed[8]?.getD false = true → a'.tmps[29]?.getD undef = .pointer (some ⟨w.heap.size + 1,x.1,none⟩)) ∧
      ((listed[9]?.getD false = false ∧ listed[10]?.getD false = false ∧ w' = X0) ∨ (listed[9]?.getD false = true ∧ listed[10]?.getD false = false ∧ w' = X1) ∨ (listed[10]?.getD false = true ∧ (∀ i,i < 11 → listed[i]?.getD false = true) ∧ w' = X1.setCell ⟨w3.heap.size + 1,0,none⟩ (.int .u64 (s:Int))))) ?_ ?_ ?_
    · exact ⟨⟨rfl,rfl,rfl,rfl,rfl⟩,by simp,by simp,by simp,by simp,by simp,by simp,by simp,by simp,by simp,.inl ⟨rfl,rfl,HX0.out.symm⟩⟩
    · rintro listed a' w' i o ⟨⟨hsz,h3,h6,h7,h8⟩,g0,g1,g2,g3,g4,g5,g6,g7,g8,hw'⟩ ho hun hall
      have hi:i < 11:=(List.getElem?_eq_some_iff.1 ho).1
      have hls:i < listed.size:=by
        rcases Nat.lt_or_ge i listed.size with h | h
        · exact h
        · rw [Array.getD_eq_getD_getElem?,Array.getElem?_eq_none h] at hun;cases hun
      have hun2:listed[i]?.getD false = false:=by have:=getD_both hun;rwa [Array.getD_eq_getD_getElem?] at this
      have hall2:∀ e ∈ o.after,Region.binds .any e = true → listed[e.on]?.getD false = true:=fun e h1 h2 => by have:=hall e h1 h2;rwa [Array.getD_eq_getD_getElem?] at this
      clear hall
      have hw2 : (listed[10]?.getD false = false ∧ w'.cell? ⟨w.heap.size, 0, none⟩ = some (.int .u64 (d : Int)) ∧ w'.cell? ⟨w3.heap.size, 0, none⟩ = some (.slice (some ⟨w.heap.size + 1, 0, none⟩) (magL m).length (magL m).length) ∧
          w'.cell? ⟨w3.heap.size + 1,0,none⟩ = some (.int .u64 (t:Int)) ∧ w'.frozen? ⟨w3.heap.size + 1,0,none⟩ = false) ∧ ((listed[9]?.getD false = false ∧ w' = X0) ∨ (listed[9]?.getD false = true ∧ w' = X1)):=by
        rcases hw' with ⟨k1,k2,rfl⟩ | ⟨k1,k2,rfl⟩ | ⟨k1,k2,rfl⟩
        · exact ⟨⟨k2,y3,y6,y7,yf7⟩,.inl ⟨k1,rfl⟩⟩
        · exact ⟨⟨k2,z3,z6,z7,zf7⟩,.inr ⟨k1,rfl⟩⟩
        · rw [k2 i hi] at hun2;cases hun2
      clear hw'
      obtain ⟨⟨k10,v3,v6,v7,vf7⟩,hw9⟩:=hw2
      have hcase:i = 0 ∨ i = 1 ∨ i = 2 ∨ i = 3 ∨ i = 4 ∨ i = 5 ∨ i = 6 ∨ i = 7 ∨ i = 8 ∨ i = 9 ∨ i = 10:=by omega
      rcases hcase with rfl | rfl | rfl | rfl | rfl | rfl | rfl | rfl | rfl | rfl | rfl
      · have hoe:_ = o:=Option.some.inj ho
        subst hoe
        simp [go_sem,h6,v6]
        repeat' apply And.intro
        all_goals first | assumption | (intro _ h;omega) | (intro h;omega) | skip
        rcases hw9 with ⟨k9,e9⟩ | ⟨k9,e9⟩
        · exact .inl ⟨k9,k10,e9⟩
        · exact .inr (.inl ⟨k9,k10,e9⟩)
      · have hoe:_ = o:=Option.some.inj ho
        subst hoe
        simp [go_sem,h8]
        repeat' apply And.intro
        all_goals first | assumption | (intro _ h;omega) | (intro h;omega) | skip
        rcases hw9 with ⟨k9,e9⟩ | ⟨k9,e9⟩
        · exact .inl ⟨k9,k10,e9⟩
        · exact .inr (.inl ⟨k9,k10,e9⟩)
      · have hoe:_ = o:=Option.some.inj ho
        subst hoe
        simp [go_sem,h7,v7]
        repeat' apply And.intro
        all_goals first | assumption | (intro _ h;omega) | (intro h;omega) | skip
        rcases hw9 with ⟨k9,e9⟩ | ⟨k9,e9⟩
        · exact .inl ⟨k9,k10,e9⟩
        · exact .inr (.inl ⟨k9,k10,e9⟩)
      · have hoe:_ = o:=Option.some.inj ho
        subst hoe
        simp [go_sem,h3,v3]
        repeat' apply And.intro
        all_goals first | assumption | (intro _ h;omega) | (intro h;omega) | skip
        rcases hw9 with ⟨k9,e9⟩ | ⟨k9,e9⟩
        · exact .inl ⟨k9,k10,e9⟩
        · exact .inr (.inl ⟨k9,k10,e9⟩)
      · have hoe:_ = o:=Option.some.inj ho
        subst hoe
        have e1:=g2 (hall2 ⟨2,.data⟩ (by simp) rfl)
        have e2:=g3 (hall2 ⟨3,.data⟩ (by simp) rfl)
        simp [go_sem,e1,e2,hdz,hq1,hq2,hqw]
        repeat' apply And.intro
        all_goals first | assumption | (intro _ h;omega) | (intro h;omega) | skip
        rcases hw9 with ⟨k9,e9⟩ | ⟨k9,e9⟩
        · exact .inl ⟨k9,k10,e9⟩
        · exact .inr (.inl ⟨k9,k10,e9⟩)
      · have hoe:_ = o:=Option.some.inj ho
        subst hoe
        simp [go_sem,h7,v7]
        repeat' apply And.intro
        all_goals first | assumption | (intro _ h;omega) | (intro h;omega) | skip
        rcases hw9 with ⟨k9,e9⟩ | ⟨k9,e9⟩
        · exact .inl ⟨k9,k10,e9⟩
        · exact .inr (.inl ⟨k9,k10,e9⟩)
      · have hoe:_ = o:=Option.some.inj ho
        subst hoe
        simp [go_sem,h3,v3]
        repeat' apply And.intro
        all_goals first | assumption | (intro _ h;omega) | (intro h;omega) | skip
        rcases hw9 with ⟨k9,e9⟩ | ⟨k9,e9⟩
        · exact .inl ⟨k9,k10,e9⟩
        · exact .inr (.inl ⟨k9,k10,e9⟩)
      · have hoe:_ = o:=Option.some.inj ho
        subst hoe
        have e1:=g5 (hall2 ⟨5,.data⟩ (by simp) rfl)
        have e2:=g6 (hall2 ⟨6,.data⟩ (by simp) rfl)
        simp [go_sem,e1,e2,hdz,hr1,hr2,hsw]
        repeat' apply And.intro
        all_goals first | assumption | (intro _ h;omega) | (intro h;omega) | skip
        rcases hw9 with ⟨k9,e9⟩ | ⟨k9,e9⟩
        · exact .inl ⟨k9,k10,e9⟩
        · exact .inr (.inl ⟨k9,k10,e9⟩)
      · have hoe:_ = o:=Option.some.inj ho
        subst hoe
        have e1:=g0 (hall2 ⟨0,.data⟩ (by simp) rfl)
        have e2:=g1 (hall2 ⟨1,.data⟩ (by simp) rfl)
        simp [go_sem,e1,e2,hx]
        repeat' apply And.intro
        all_goals first | assumption | (intro _ h;omega) | (intro h;omega) | skip
        rcases hw9 with ⟨k9,e9⟩ | ⟨k9,e9⟩
        · exact .inl ⟨k9,k10,e9⟩
        · exact .inr (.inl ⟨k9,k10,e9⟩)
      · have hoe:_ = o:=Option.some.inj ho
        subst hoe
        have e1:=g8 (hall2 ⟨8,.data⟩ (by simp) rfl)
        have e2:=g4 (hall2 ⟨4,.data⟩ (by simp) rfl)
        obtain rfl:w' = X0:=by
          rcases hw9 with ⟨_,e⟩ | ⟨k9,_⟩
          · exact e
          · rw [hun2] at k9;cases k9
        simp [go_sem,e1,e2,yz,yfz,← hX1]
        repeat' apply And.intro
        all_goals first | assumption | (intro _ h;omega) | (intro h;omega) | skip
        exact .inr (.inl ⟨hls,k10⟩)
      · have hoe:_ = o:=Option.some.inj ho
        subst hoe
        have e1:=g7 (hall2 ⟨7,.data⟩ (by simp) rfl)
        have k9:=hall2 ⟨9,.chain⟩ (by simp) rfl
        obtain rfl:w' = X1:=by
          rcases hw9 with ⟨k,_⟩ | ⟨_,e⟩
          · rw [k9] at k;cases k
          · exact e
        simp [go_sem,e1,h7,z7,zf7]
        repeat' apply And.intro
        all_goals first | assumption | (intro _ h;omega) | (intro h;omega) | skip
        refine .inr (.inr ⟨hls,fun i hi => ?_⟩)
        by_cases h10:i = 10
        · subst h10;simp [hls]
        · rw [Array.getElem?_setIfInBounds_ne (by omega)]
          have hc2:i = 0 ∨ i = 1 ∨ i = 2 ∨ i = 3 ∨ i = 4 ∨ i = 5 ∨ i = 6 ∨ i = 7 ∨ i = 8 ∨ i = 9:=by omega
          rcases hc2 with rfl | rfl | rfl | rfl | rfl | rfl | rfl | rfl | rfl | rfl
          all_goals exact hall2 ⟨_,.phase⟩ (by simp) rfl
    · rintro listed a' w' ⟨_,_,_,_,_,_,_,_,_,_,hw'⟩ hall
      have h10:=hall 10 (by decide)
      rw [Array.getD_eq_getD_getElem?] at h10
      rcases hw' with ⟨_,k,_⟩ | ⟨_,k,_⟩ | ⟨_,_,rfl⟩
      · rw [h10] at k;cases k
      · rw [h10] at k;cases k
      · have hh:X0.heap = W1.heap:=by rw [HX0.out]
        have hqb:q < B9:=by rw [HQE.out,HT.out];exact word_lt B9 d r u hd0 hr hw
        have kb0:KeepB w.heap.size (w3.heap.size + 1 + 1) W X0:=by rw [HX0.out];exact ⟨KB1.out.1.drew,KB1.out.2⟩
        have kb1:=kb0.setCell (p:=⟨w.heap.size + 1,x.1,none⟩) (by simp) (by simp;omega) (.int .u64 (q:Int))
        rw [← hX1] at kb1
        have kf0:=KF1.out
        have kf1:KeepsFrom (((w3.alloc (.cells #[.slice (some ⟨w.heap.size + 1,0,none⟩) (magL m).length (magL m).length] 243)).alloc (.cells #[.int .u64 0] 197)).alloc (.cells #[.slice p1 (magL m).length c1] 243)).heap.size W X0:=by rw [HX0.out];exact ⟨kf0.size,kf0.same⟩
        have kf2:=kf1.trans ((KeepsOthers.setCell X0 ⟨w.heap.size + 1,x.1,none⟩ (.int .u64 (q:Int))).from _)
        rw [← hX1] at kf2
        have hb0:Below w.heap.size w X0:=by rw [HX0.out];exact HB1.out.drew
        have hb1:=hb0.setCell (p:=⟨w.heap.size + 1,x.1,none⟩) (by simp) (.int .u64 (q:Int))
        rw [← hX1] at hb1
        have row0:RowN .u64 197 X0 (w.heap.size + 1) zs:=by unfold RowN;rw [hh];exact HROW1.out
        have row1:=row0.set x.1 q
        rw [← hX1] at row1
        have bD0:Boxed X0 w.heap.size 197 (.int .u64 (d:Int)):=by unfold Boxed;rw [hh];exact BD1.out
        have bO0:Boxed X0 w3.heap.size 243 (.slice (some ⟨w.heap.size + 1,0,none⟩) (magL m).length (magL m).length):=by unfold Boxed;rw [hh];exact BO1.out
        have bR0:Boxed X0 (w3.heap.size + 1) 197 (.int .u64 (t:Int)):=by unfold Boxed;rw [hh];exact BR1.out
        have bD1:=boxed_other bD0 (B':=w.heap.size + 1) (by omega) x.1 (.int .u64 (q:Int))
        have bO1:=boxed_other bO0 (B':=w.heap.size + 1) (by omega) x.1 (.int .u64 (q:Int))
        have bR1:=boxed_other bR0 (B':=w.heap.size + 1) (by omega) x.1 (.int .u64 (q:Int))
        rw [← hX1] at bD1 bO1 bR1
        refine ⟨kf2.trans ((KeepsOthers.setCell _ _ _).from _),kb1.setCell (p:=⟨w3.heap.size + 1,0,none⟩) (by simp;omega) (by simp) _,⟨s,zs.set x.1 q,hsl,by rw [List.length_set];exact HZL.out,(show ∀ e ∈ _,_ from set_lt B9 zs x.1 q hzs.out hqb),?_,?_,?_,?_,?_⟩,?_⟩
        · rw [HQE.out,HSE.out];exact HST
        · exact boxed_other bD1 (by omega) 0 _
        · exact boxed_other bO1 (by omega) 0 _
        · exact bR1.set _
        · exact row1.other (by omega) 0 _
        · exact hb1.setCell (p:=⟨w3.heap.size + 1,0,none⟩) (by simp;omega) _
  case done =>
    clear cD cO cR cN
    rintro D ys W hD rfl ⟨⟨r,zs,hr,hzl,hzs,hsp,bD,bO,bR,hrow⟩,hB⟩ hK
    obtain ⟨hmv,hrv⟩:=wspec_end m d _ zs r hr hsp.out
    have hcut:=fun W' h => cut_any (some ⟨w.heap.size + 1,0,none⟩) zs.length zs W' h hzs.out (by omega)
    rw [hmv,hzl] at hcut
    have HC:=Lib.hid hcut;clear hcut hmv
    have HRV:=Lib.hid hrv;clear hrv
    have hOc:=bO.cell
    have hRc:=bR.cell
    have hnat:=hrow.nats (by unfold maxLen;omega)
    rw [hzl] at hnat
    have HN:=Lib.hid (hnat.below ((Below.refl _ W).drew));clear hnat
    have hRlt:=bR.lt
    gi_wp2
    refine wpIn_wide.2 (wp_mono (Q:=atEnd (fun a' w' => a'.defers = [{ target:=.collected D,args:=#[] }] ∧ ∃ p' n' c',a'.tmps[4]? = some (.slice p' n' c') ∧ a'.tmps[5]? = some (.int .u64 (r:Int)) ∧ Hid (MagAt w' p' n' c' (m / d)) ∧ Below W.heap.size W w')) ?_ ?_)
    · go_region_with (go_at_call 228;refine (HC.out _ HN.out).mono ?_;rintro e w4 ⟨p',n',c',rfl,hM,hb4⟩;have hR4:w4.cell? ⟨w3.heap.size + 1,0,none⟩ = some (.int .u64 (r:Int)):=(hb4.cell (p:=⟨w3.heap.size + 1,0,none⟩) hRlt).trans hRc;have HM:=Lib.hid hM;clear hM)
      all_goals exact ⟨rfl,_,_,_,rfl,rfl,HM,(Below.refl _ W).drew.trans hb4⟩
    · rintro e a' w' hq
      cases e with
      | normal =>
        obtain ⟨hd1,p',n',c',h4,h5,HM,hb4⟩:=hq
        have hK4:w'.heap[D]? = some (.deferred (some [])):=(hb4.block D (Array.getElem?_eq_some_iff.1 hK).1).trans hK
        obtain ⟨tm,df⟩:=a'
        dsimp only at hd1 h4 h5
        subst hd1
        have H4:=Lib.hid h4;clear h4
        have H5:=Lib.hid h5;clear h5
        gi_wp2
        refine ⟨by simp,.inl ⟨_,_,rfl,run_takeDeferred hK4,?_⟩⟩
        refine ⟨.tuple #[.slice p' n' c',.int .u64 (r:Int)],?_,p',n',c',by rw [← HRV.out],?_,?_⟩
        · have h4:=H4.out
          have h5:=H5.out
          simp [results,Tryz.f227,go_sem,h4,h5]
        · exact ⟨NatsAt.putDef HM.out.1 hK4 rfl,HM.out.2⟩
        · exact (hB.trans (hb4.mono hB.size)).trans (belowK_b (w:=w) (Nat.le_refl _) w' D _ _ (by simp at hD;omega) hK4 rfl rfl)
      | _ => exact hq.elim
  case stop =>
    rintro D c pre W _ _ h _
    exact h.elim
end Go.Proofs.YtbeojahilbglcaaGreatDoor

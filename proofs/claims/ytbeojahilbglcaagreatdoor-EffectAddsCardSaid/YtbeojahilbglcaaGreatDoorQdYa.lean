/- A part of the proof of EffectAdds: contracts of functions, and plain facts. -/
import Derived.Test.YtbeojahilbglcaaGreatDoorQdWa
import Derived.Test.YtbeojahilbglcaaGreatDoorQdWc
import Derived.Maps.AppendAt
import Derived.Laws.CopyRow
import Derived.Laws.IdiomCopy
import Derived.Lib.SliceRun
import Derived.Lib.AppendZerosOnto
import Derived.Laws.CopyOwn
import Derived.Test.YtbeojahilbglcaaGreatDoorQdQq
set_option maxRecDepth 100000
set_option maxHeartbeats 4000000
set_option linter.unusedVariables false
set_option linter.unusedSimpArgs false
namespace Lum
open Go Go.RowKit Go.Shelf
open Go.Lib (decDigits itoa)
def OwnR {β:Type} (enc:β → List Value) (k base:Nat) (e:TypeId) (W:World) (p:Option Addr) (c:Nat) (l:List β):Prop:=W.ownsRow base e k (.slice p l.length c) l.length (l.flatMap enc)
section
variable {β:Type} {enc:β → List Value} {k:Nat}
theorem flat_at (hk:∀ x,(enc x).length = k):∀ (l:List β) (i:Nat) (h:i < l.length) (j:Nat) (v:Value),(enc (l[i]'h))[j]? = some v → (l.flatMap enc)[i * k + j]? = some v:=by
  intro l
  induction l with
  | nil => intro i h;simp at h
  | cons x r ih =>
    intro i h j v hv
    rw [List.flatMap_cons]
    cases i with
    | zero =>
      have hj:=(List.getElem?_eq_some_iff.1 hv).1
      rw [Nat.zero_mul,Nat.zero_add,List.getElem?_append_left (by simpa using hj)]
      simpa using hv
    | succ i =>
      rw [List.getElem?_append_right (by rw [hk];rw [Nat.add_one_mul];omega),hk,show (i + 1) * k + j - k = i * k + j by rw [Nat.add_one_mul];omega]
      exact ih i (by simpa using h) j v (by simpa using hv)
theorem OwnR.nil (base:Nat) (e:TypeId) (W:World):OwnR enc k base e W none 0 []:=World.ownsRow_nil W base e k
theorem OwnR.keep {base:Nat} {e:TypeId} {W W':World} {p:Option Addr} {c:Nat} {l:List β} (h:OwnR enc k base e W p c l) (hb:Below W.heap.size W W'):OwnR enc k base e W' p c l:=by
  obtain ⟨h1,h2⟩:=h
  refine ⟨h1,?_⟩
  rcases h2 with h2 | ⟨g,cap,cur,hv,hg,hh,r⟩
  · exact .inl h2
  · exact .inr ⟨g,cap,cur,hv,hg,by rw [hb.block g (Array.getElem?_eq_some_iff.1 hh).1];exact hh,r⟩
theorem OwnR.lt {base:Nat} {e:TypeId} {W:World} {p:Option Addr} {c:Nat} {l:List β} (h:OwnR enc k base e W p c l):∀ a,p = some a → base ≤ a.block ∧ a.block < W.heap.size:=by
  intro a ha
  subst ha
  exact World.ownsRow.lt h a.block rfl
theorem OwnR.cap {base:Nat} {e:TypeId} {W:World} {p:Option Addr} {c:Nat} {l:List β} (h:OwnR enc k base e W p c l):l.length ≤ c:=by
  rcases h.2 with ⟨h1,h2⟩ | ⟨g,cap,cur,hv,hg,hh,h5,h6,_⟩
  · rw [h2];exact Nat.zero_le _
  · injection hv with hv1 hv2 hv3
    subst hv3;exact h5
theorem OwnR.at_ {base : Nat} {e : TypeId} {W : World} {p : Option Addr} {c : Nat} {l : List β} (h : OwnR enc k base e W p c l) (hk : ∀ x, (enc x).length = k) (hn : l ≠ []) :
    ∃ b,p = some ⟨b,0,none⟩ ∧ b < W.heap.size ∧ ∀ (i:Nat) (hi:i < l.length) (j:Nat) (v:Value),(enc (l[i]'hi))[j]? = some v → W.cell? ⟨b,0 + i * k + j,none⟩ = some v:=by
  have hc:=fun g (hg:Value.ownBlock (.slice p l.length c) = some g) => World.ownsRow.cells h hg
  have hl:=World.ownsRow.lt h
  rcases h.2 with ⟨h1,h2⟩ | ⟨g,cap,cur,hv,hg,hh,h5,h6,_⟩
  · exact absurd (List.length_eq_zero_iff.1 h2) hn
  · injection hv with hv1 hv2 hv3
    subst hv1 hv3
    refine ⟨g,rfl,(hl g rfl).2,fun i hi j v hv => ?_⟩
    have k1:=hc g rfl (i * k + j) v (flat_at hk l i hi j v hv)
    rw [addr_add] at k1
    rw [Nat.zero_add] at k1 ⊢
    exact k1
end
end Lum
namespace Lum
open Go Go.RowKit Go.Shelf
open Go.Lib (decDigits itoa)
end Lum
namespace Lum
open Go Go.RowKit Go.Shelf
open Go.Lib (decDigits itoa)
theorem wpList_appR3 {β : Type} {enc : β → List Value} {k : Nat} {P : Program} {ops : Array Oper} {rest : List Oper} {o : Oper} {a : Act} {Q : Exit → Act → World → Prop} (hgd : o.guard = none) (s x : Operand) (t : TypeId)
    (ho:o.op = .call { callee:=.builtin .append,args:=#[s,x],argTypes:=#[t,t] })
    (base:Nat) (e:TypeId) (i:TypeInfo) (z:Value) (bytes:Nat) (ht:P.underlying t = some (.slice e)) (hi:P.info? e = some i) (hz:i.zero = some z)
    (hsize:i.size = k) (hby:i.bytes = bytes) (hzs:z.cells.size = k) (hbs:bytes ≤ 64) (hk0:0 < k)
    (p:Option Addr) (c n:Nat) (l:List β) (hnl:n = l.length) (W:World) (y:β) (b:Nat) (hy:(enc y).length = k) (hcell:∀ j u,(enc y)[j]? = some u → W.cell? ⟨b,j,none⟩ = some u) (h1:∀ u ∈ enc y,u.oneCell' = true)
    (hs:a.eval s = .slice p n c) (hown:OwnR enc k base e W p c l)
    (hx:a.eval x = .slice (some ⟨b,0,none⟩) 1 1)
    (hn:l.length < 1000000000) (hbase:base ≤ W.heap.size)
    (h:∀ p' c' w',OwnR enc k base e w' p' c' (l ++ [y]) → Below base W w' → (∀ g:Nat,g < W.heap.size → (∀ a,p = some a → g ≠ a.block) → w'.heap[g]? = W.heap[g]? ∧ ∀ a,p' = some a → g ≠ a.block) → wpList P ops Q rest (a.put o.dst (.slice p' (n + 1) c')) w') :
    wpList P ops Q (o :: rest) a W:=by
  subst hnl
  refine wpList_append_own_at _ hgd s x t ho base e i z k bytes ht hi hz hsize hby hzs hk0 _ _ _ hs hown ⟨b, 0, none⟩ 1 1 (enc y) hx (by rw [hy, Nat.one_mul])
    (fun j u hu => by rw [addr_add,Nat.zero_add];exact hcell j u hu) h1 (by unfold maxLen;omega) ?_ hbase ?_
  · have:(l.length + 1) * bytes ≤ 1000000001 * 64:=Nat.mul_le_mul (by omega) hbs
    omega
  · intro v' w' hown' hgrow _ hat
    obtain ⟨p',c',rfl⟩:∃ p' c',v' = .slice p' (l.length + 1) c':=by
      rcases hown'.2 with ⟨rfl,h2⟩ | ⟨g,cap,cur,rfl,_⟩
      · simp at h2
      · exact ⟨_,_,rfl⟩
    refine h p' c' w' ?_ ?_ ?_
    · unfold OwnR
      rw [List.length_append,List.flatMap_append,List.flatMap_cons,List.flatMap_nil,List.append_nil];exact hown'
    · refine (Below.refl base W).grown hgrow hbase ?_
      intro k hk
      cases p with
      | none => simp [Value.ownBlock] at hk
      | some ad => simp [Value.ownBlock] at hk;subst hk;exact (hown.lt ad rfl).1
    · intro g hg hne
      refine ⟨hgrow.block g hg fun e2 => ?_,fun ad had => ?_⟩
      · cases p with
        | none => simp [Value.ownBlock] at e2
        | some ad => simp [Value.ownBlock] at e2;exact hne ad rfl e2
      · subst had
        rcases hat with e2 | e2
        · cases p with
          | none => simp [Value.ownBlock] at e2
          | some ad2 => simp [Value.ownBlock] at e2;rw [e2];exact hne ad2 rfl
        · simp [Value.ownBlock] at e2
          rw [e2]
          exact Nat.ne_of_lt hg
theorem OwnR.one {β:Type} {enc:β → List Value} {k base:Nat} {e:TypeId} (W:World) (x:β) (hk:(enc x).length = k) (hb:base ≤ W.heap.size):OwnR enc k base e (W.alloc (.cells (enc x).toArray e)) (some ⟨W.heap.size,0,none⟩) 1 [x]:=by
  refine ⟨by simp [hk],.inr ⟨W.heap.size,1,(enc x).toArray,rfl,hb,heap_alloc_new W _,Nat.le_refl _,by decide,by simp [hk],by simpa using List.take_of_length_le (Nat.le_of_eq hk)⟩⟩
end Lum
namespace Lum
open Go Go.RowKit Go.Shelf
open Go.Lib (decDigits itoa)
end Lum
namespace Lum
open Go Go.RowKit Go.Shelf
open Go.Lib (decDigits itoa)
def encI (n:Int):List Value:=[.int .i64 n]
theorem encI_len (n:Int):(encI n).length = 1:=rfl
theorem encI_one (n:Int):∀ u ∈ encI n,u.oneCell' = true:=by
  intro u hu
  simp only [encI,List.mem_cons,List.not_mem_nil,or_false] at hu
  rw [hu];rfl
def inI (l:List Int) (i:Nat):Int:=l[i]?.getD 0
def IntC (W:World) (b o:Nat) (l:List Int):Prop:=∀ i,i < l.length → W.cell? ⟨b,o + i,none⟩ = some (.int .i64 (inI l i))
def IntsAt (W:World) (v:Value) (l:List Int):Prop:=∃ p c,v = .slice p l.length c ∧ (l ≠ [] → ∃ b o,p = Option.some ⟨b,o,none⟩ ∧ b < W.heap.size ∧ IntC W b o l)
theorem IntC.below {W W':World} {b o B:Nat} {l:List Int} (h:IntC W b o l) (hb:Below B W W') (hl:b < B):IntC W' b o l:=fun i hi => (hb.cell (p:=⟨b,o + i,none⟩) hl).trans (h i hi)
theorem IntsAt.below {W W':World} {v:Value} {l:List Int} (h:IntsAt W v l) (hb:Below W.heap.size W W'):IntsAt W' v l:=by
  obtain ⟨p,c,e,h⟩:=h
  refine ⟨p,c,e,fun hn => ?_⟩
  obtain ⟨b,o,e2,hlt,hc⟩:=h hn
  exact ⟨b,o,e2,Nat.lt_of_lt_of_le hlt hb.size,hc.below hb hlt⟩
theorem OwnR.ints {base:Nat} {e:TypeId} {W:World} {p:Option Addr} {c:Nat} {l:List Int} (h:OwnR encI 1 base e W p c l):IntsAt W (.slice p l.length c) l:=by
  refine ⟨p,c,rfl,fun hn => ?_⟩
  obtain ⟨b,hp,hb,hc⟩:=h.at_ encI_len hn
  refine ⟨b,0,hp,hb,fun i hi => ?_⟩
  have hx:=hc i hi 0 _ rfl
  have e1:inI l i = l[i]'hi:=by unfold inI;rw [List.getElem?_eq_getElem hi];rfl
  rw [e1]
  simpa using hx
end Lum
namespace Lum
open Go Go.RowKit Go.Shelf
open Go.Lib (decDigits itoa)
theorem run_copy_rowK {P : Program} (w : World) (dT sT ty elem : TypeId) (k g o dLen dCap : Nat) (a : Addr) (sLen sCap : Nat) (cur : Array Value) (t : TypeId) (cs : List Value)
    (hu:P.underlying dT = some (.slice elem)) (hs:(P.info? elem).map (·.size) = some k)
    (hg:w.heap[g]? = some (.cells cur t (0,0))) (hn:cs.length = Nat.min sLen dLen * k)
    (hsrc:∀ j v,cs[j]? = some v → w.cell? (a.add j) = some v) (hfit:o + cs.length ≤ cur.size) (h1:∀ v ∈ cs,v.oneCell' = true) :
    (Builtin.copy_ #[dT, sT] ty #[.slice (some ⟨g, o, none⟩) dLen dCap, .slice (some a) sLen sCap]).run P w =
      .ok (goInt (Nat.min sLen dLen)) (w.setRow g (cur.toList.take o ++ cs ++ cur.toList.drop (o + cs.length)).toArray):=by
  have hl:=run_loadCells_list (P:=P) w a cs hsrc
  have hst:=run_storeCells_at P g o t cs 0 cur w hg (by simpa using hfit) h1
  cases hq:P.info? elem with
  | none => simp [hq] at hs
  | some i =>
    have hi:i.size = k:=by simpa [hq] using hs
    simp only [Builtin.copy_,Builtin.lenOf,Builtin.firstCells,Go.sizeOf,typeInfo]
    simp [run_underlying hu,Builtin.lenOf,Builtin.firstCells,Go.sizeOf,typeInfo,hq,hi,← hn,hl,hst]
theorem wp_copy_run {P : Program} (w : World) {o : Oper} {a : Act} {K : Act → World → Prop} {Q : Exit → Act → World → Prop} (d s : Operand) (t t' : TypeId)
    (ho:o.op = .call { callee:=.builtin .copy,args:=#[d,s],argTypes:=#[t,t'] }) (v u:Value) (hd:a.eval d = v) (hs:a.eval s = u) {v':Value} {w':World}
    (hr:(Builtin.copy_ #[t,t'] o.type #[v,u]).run P w = .ok v' w') (h:K (a.put o.dst v') w'):o.wp P a w K Q:=by
  unfold Oper.wp execOp
  simp only [ho,resolve,invoke,builtin,Sem.run_bind,Sem.run_pure,Result.andThen_ok,List.map_toArray,List.map_cons,List.map_nil,hd,hs,hr]
  exact h
theorem cut3 {α:Type} (r:List α) (k d:Nat) (h:k + d ≤ r.length):∃ C1 C2 C3,r = C1 ++ (C2 ++ C3) ∧ C1.length = k ∧ C2.length = d :=
  ⟨r.take k,(r.drop k).take d,(r.drop k).drop d,by rw [List.take_append_drop,List.take_append_drop],by rw [List.length_take];omega,by rw [List.length_take,List.length_drop];omega⟩
theorem room_lists {α : Type} (cur A X D : List α) (hA : cur.take A.length = A) (hl : A.length + X.length + D.length ≤ cur.length) :
    ((((cur.take (A.length + X.length) ++ D ++ cur.drop (A.length + X.length + D.length)).take A.length) ++ X ++ ((cur.take (A.length + X.length) ++ D ++ cur.drop (A.length + X.length + D.length)).drop (A.length + X.length)))).take (A.length + X.length + D.length) = A ++ (X ++ D):=by
  obtain ⟨C1,C2,C3,hr,h1,h2⟩:=cut3 (cur.drop A.length) X.length D.length (by rw [List.length_drop];omega)
  have hc:cur = A ++ (C1 ++ (C2 ++ C3)):=by rw [← hr];conv => lhs;rw [← List.take_append_drop A.length cur,hA]
  subst hc
  simp [List.take_append,List.drop_append,h1,h2,Nat.add_sub_cancel_left,Nat.add_assoc]
  rw [List.take_of_length_le (l:=A) (by omega),List.take_of_length_le (l:=A) (by omega),List.take_of_length_le (l:=X) (by omega)]
theorem grow_lists {α : Type} (cur A X D : List α) (hA : cur.take A.length = A) (hl : A.length + X.length + D.length ≤ cur.length) :
    (((cur.take A.length ++ X ++ cur.drop (A.length + X.length)).take (A.length + X.length)) ++ D ++ ((cur.take A.length ++ X ++ cur.drop (A.length + X.length)).drop (A.length + X.length + D.length))).take (A.length + X.length + D.length) = A ++ (X ++ D):=by
  obtain ⟨C1,C2,C3,hr,h1,h2⟩:=cut3 (cur.drop A.length) X.length D.length (by rw [List.length_drop];omega)
  have hc:cur = A ++ (C1 ++ (C2 ++ C3)):=by rw [← hr];conv => lhs;rw [← List.take_append_drop A.length cur,hA]
  subst hc
  simp [List.take_append,List.drop_append,h1,h2,Nat.add_sub_cancel_left,Nat.add_assoc]
  rw [List.take_of_length_le (l:=A) (by omega),List.take_of_length_le (l:=A) (by omega),List.take_of_length_le (l:=X) (by omega)]
def insL {α:Type} (l:List α) (i:Nat) (hit:Bool) (x:α):List α:=l.take i ++ x :: l.drop (if hit then i + 1 else i)
def insK {α:Type} (l:List α) (i:Nat) (hit:Bool) (x:α) (k:Nat):List α:=if k ≤ i then l.take k else l.take i ++ x :: (l.take k).drop (if hit then i + 1 else i)
theorem insL_set {α:Type} {l:List α} {i:Nat} {x:α} (h:i < l.length):insL l i true x = l.set i x:=by
  unfold insL
  rw [if_pos rfl,List.set_eq_take_append_cons_drop,if_pos h]
theorem insL_len_hit {α:Type} {l:List α} {i:Nat} {x:α} (h:i < l.length):(insL l i true x).length = l.length:=by rw [insL_set h,List.length_set]
theorem insL_len_miss {α:Type} {l:List α} {i:Nat} {x:α} (h:i ≤ l.length):(insL l i false x).length = l.length + 1:=by
  unfold insL
  rw [if_neg (by simp),List.length_append,List.length_cons,List.length_take,List.length_drop];omega
theorem flat_cell {β:Type} {enc:β → List Value} {k:Nat} (hk:∀ x,(enc x).length = k):∀ (l:List β) (f:Nat → Option Value),(∀ (i:Nat) (hi:i < l.length) (j:Nat) (v:Value),(enc (l[i]'hi))[j]? = some v → f (i * k + j) = some v) → ∀ (j:Nat) (u:Value),(l.flatMap enc)[j]? = some u → f j = some u:=by
  intro l
  induction l with
  | nil => intro f _ j u h;simp at h
  | cons x r ih =>
    intro f h j u hu
    rw [List.flatMap_cons] at hu
    rcases Nat.lt_or_ge j k with hj | hj
    · rw [List.getElem?_append_left (by rw [hk];exact hj)] at hu
      have:=h 0 (by simp) j u (by simpa using hu)
      rwa [Nat.zero_mul,Nat.zero_add] at this
    · rw [List.getElem?_append_right (by rw [hk];exact hj),hk] at hu
      have:=ih (fun m => f (k + m)) (fun i hi j2 v hv => by
        have h2:=h (i + 1) (by simpa using hi) j2 v (by simpa using hv)
        rw [Nat.add_one_mul,show i * k + k + j2 = k + (i * k + j2) by omega] at h2
        exact h2) (j - k) u hu
      rwa [show k + (j - k) = j by omega] at this
theorem flat_len {β:Type} {enc:β → List Value} {k:Nat} (hk:∀ x,(enc x).length = k):∀ (l:List β),(l.flatMap enc).length = l.length * k:=by
  intro l
  induction l with
  | nil => simp
  | cons x r ih => rw [List.flatMap_cons,List.length_append,ih,hk,List.length_cons,Nat.add_one_mul];omega
theorem wpList_appL {β : Type} {enc : β → List Value} {k : Nat} {P : Program} {ops : Array Oper} {rest : List Oper} {o : Oper} {a : Act} {Q : Exit → Act → World → Prop} (hgd : o.guard = none) (s x : Operand) (t : TypeId)
    (ho:o.op = .call { callee:=.builtin .append,args:=#[s,x],argTypes:=#[t,t] })
    (base:Nat) (e:TypeId) (i:TypeInfo) (z:Value) (bytes:Nat) (ht:P.underlying t = some (.slice e)) (hi:P.info? e = some i) (hz:i.zero = some z)
    (hsize:i.size = k) (hby:i.bytes = bytes) (hzs:z.cells.size = k) (hbs:bytes ≤ 64) (hk0:0 < k)
    (p:Option Addr) (c n:Nat) (l:List β) (hnl:n = l.length) (W:World) (ys:List β) (b off c2:Nat) (hk:∀ x,(enc x).length = k) (hcell:∀ j u,(ys.flatMap enc)[j]? = some u → W.cell? ⟨b,off + j,none⟩ = some u) (h1:∀ y ∈ ys,∀ u ∈ enc y,u.oneCell' = true)
    (hs:a.eval s = .slice p n c) (hown:OwnR enc k base e W p c l)
    (hx:a.eval x = .slice (some ⟨b,off,none⟩) ys.length c2)
    (hn:l.length + ys.length < 1000000000) (hbase:base ≤ W.heap.size)
    (h:∀ p' c' w',OwnR enc k base e w' p' c' (l ++ ys) → Below base W w' → wpList P ops Q rest (a.put o.dst (.slice p' (n + ys.length) c')) w') :
    wpList P ops Q (o :: rest) a W:=by
  subst hnl
  refine wpList_append_own _ hgd s x t ho base e i z k bytes ht hi hz hsize hby hzs hk0 _ _ _ hs hown ⟨b, off, none⟩ ys.length c2 (ys.flatMap enc) hx (by rw [flat_len hk])
    (fun j u hu => by rw [addr_add];exact hcell j u hu) (fun u hu => by obtain ⟨y,hy,hu2⟩:=List.mem_flatMap.1 hu;exact h1 y hy u hu2) (by unfold maxLen;omega) ?_ hbase ?_
  · have:(l.length + ys.length) * bytes ≤ 1000000001 * 64:=Nat.mul_le_mul (by omega) hbs
    omega
  · intro v' w' hown' hgrow _
    obtain ⟨p',c',rfl⟩:∃ p' c',v' = .slice p' (l.length + ys.length) c':=by
      rcases hown'.2 with ⟨rfl,h2⟩ | ⟨g,cap,cur,rfl,_⟩
      · exact ⟨none,0,by rw [h2]⟩
      · exact ⟨_,_,rfl⟩
    refine h p' c' w' ?_ ?_
    · unfold OwnR
      rw [List.length_append,List.flatMap_append];exact hown'
    · refine (Below.refl base W).grown hgrow hbase ?_
      intro k hk
      cases p with
      | none => simp [Value.ownBlock] at hk
      | some ad => simp [Value.ownBlock] at hk;subst hk;exact (hown.lt ad rfl).1
theorem wpList_appLb {β : Type} {enc : β → List Value} {k : Nat} {P : Program} {ops : Array Oper} {rest : List Oper} {o : Oper} {a : Act} {Q : Exit → Act → World → Prop} (hgd : o.guard = none) (s x : Operand) (t : TypeId)
    (ho:o.op = .call { callee:=.builtin .append,args:=#[s,x],argTypes:=#[t,t] })
    (base:Nat) (e:TypeId) (i:TypeInfo) (z:Value) (bytes:Nat) (ht:P.underlying t = some (.slice e)) (hi:P.info? e = some i) (hz:i.zero = some z)
    (hsize:i.size = k) (hby:i.bytes = bytes) (hzs:z.cells.size = k) (hk0:0 < k)
    (p:Option Addr) (c n:Nat) (l:List β) (hnl:n = l.length) (W:World) (ys:List β) (b off c2:Nat) (hk:∀ x,(enc x).length = k) (hcell:∀ j u,(ys.flatMap enc)[j]? = some u → W.cell? ⟨b,off + j,none⟩ = some u) (h1:∀ y ∈ ys,∀ u ∈ enc y,u.oneCell' = true)
    (hs:a.eval s = .slice p n c) (hown:OwnR enc k base e W p c l)
    (hx:a.eval x = .slice (some ⟨b,off,none⟩) ys.length c2)
    (hn:(l.length + ys.length) * bytes ≤ 140737488355328) (h63:l.length + ys.length ≤ maxLen) (hbase:base ≤ W.heap.size)
    (h:∀ p' c' w',OwnR enc k base e w' p' c' (l ++ ys) → Below base W w' → wpList P ops Q rest (a.put o.dst (.slice p' (n + ys.length) c')) w') :
    wpList P ops Q (o :: rest) a W:=by
  subst hnl
  refine wpList_append_own _ hgd s x t ho base e i z k bytes ht hi hz hsize hby hzs hk0 _ _ _ hs hown ⟨b, off, none⟩ ys.length c2 (ys.flatMap enc) hx (by rw [flat_len hk])
    (fun j u hu => by rw [addr_add];exact hcell j u hu) (fun u hu => by obtain ⟨y,hy,hu2⟩:=List.mem_flatMap.1 hu;exact h1 y hy u hu2) h63 hn hbase ?_
  · intro v' w' hown' hgrow _
    obtain ⟨p',c',rfl⟩:∃ p' c',v' = .slice p' (l.length + ys.length) c':=by
      rcases hown'.2 with ⟨rfl,h2⟩ | ⟨g,cap,cur,rfl,_⟩
      · exact ⟨none,0,by rw [h2]⟩
      · exact ⟨_,_,rfl⟩
    refine h p' c' w' ?_ ?_
    · unfold OwnR
      rw [List.length_append,List.flatMap_append];exact hown'
    · refine (Below.refl base W).grown hgrow hbase ?_
      intro k hk
      cases p with
      | none => simp [Value.ownBlock] at hk
      | some ad => simp [Value.ownBlock] at hk;subst hk;exact (hown.lt ad rfl).1
theorem OwnR.made {β:Type} {enc:β → List Value} {k:Nat} (w:World) (e:TypeId):OwnR enc k w.heap.size e (w.alloc (.cells #[] e)) (some ⟨w.heap.size,0,none⟩) 0 []:=World.ownsRow_made w #[] 0 (Nat.le_refl _) (Nat.zero_le _) (by simp)
theorem size_zeroCells (z:Array Value) (n:Nat):(Builtin.zeroCells z n).size = n * z.size:=by simp [Builtin.zeroCells]
theorem wpList_appZ {P : Program} {ops : Array Oper} {rest : List Oper} {o : Oper} {a : Act} {Q : Exit → Act → World → Prop} {k : Nat} (hgd : o.guard = none) (s x : Operand) (t tn : TypeId)
    (ho:o.op = .call { callee:=.builtin .append,args:=#[s,x],argTypes:=#[t,tn] }) (e:TypeId) (i:TypeInfo) (z:Value) (bytes:Nat) (ht:P.underlying t = some (.slice e)) (htn:P.underlying tn = some (.int .i64)) (hi:P.info? e = some i) (hz:i.zero = some z)
    (hsize:i.size = k) (hby:i.bytes = bytes) (hzs:z.cells.size = k) (hbs:bytes ≤ 64) (hk0:0 < k) (w:World) (ad:Addr) (n c:Nat) (olds:List Value) (hol:olds.length = n * k) (hcell:∀ j v,olds[j]? = some v → w.cell? (ad.add j) = some v)
    (m:Nat) (h0:0 < m) (hg:c < n + m) (hn:n + m ≤ 1000000001) (mi:Int) (hmi:mi = (m:Int)) (N:Nat) (hN:N = n + m) (hs:a.eval s = .slice (some ad) n c) (hx:a.eval x = .int .i64 mi)
    (h:∀ (G:Nat) (cs:Array Value) (w':World),N ≤ G → G ≤ maxLen → cs.size = G * k → cs.toList.take (n * k) = olds → Blk w' w.heap.size e cs → Below w.heap.size w w' → wpList P ops Q rest (a.put o.dst (.slice (some ⟨w.heap.size,0,none⟩) N G)) w') :
    wpList P ops Q (o :: rest) a w:=by
  subst hmi hN
  have hold:(Builtin.firstCells i.size n (.slice (some ad) n c)).run P w.drew = .ok olds.toArray w.drew:=by
    rw [hsize]
    exact run_firstCells_some w.drew k n ad n c olds hol hcell
  have hb1:(n + m) * bytes ≤ 1000000001 * 64:=Nat.mul_le_mul hn hbs
  have hb2:m * bytes ≤ 1000000001 * 64:=Nat.mul_le_mul (by omega) hbs
  refine Lib.wpList_append_run w hgd s x t tn ho _ _ hs hx _ _ (Lib.run_append_grow_zeros w t tn o.type e i z .i64 .i64 ht htn hi hz (some ad) n c olds hold m h0 (by omega) hg (by omega) (by rw [hby];omega) (by rw [hby];exact growslice_fits hg (by omega))) ?_
  have hGe:=grownCap_ge w (n + m) c e
  refine h (grownCap w (n + m) c e) _ _ hGe (grownCap_le_maxLen w (n + m) c e (by unfold maxLen;omega)) ?_ ?_ (heap_alloc_new w.drew _) ?_
  · rw [Array.size_append,Array.size_append,size_zeroCells,size_zeroCells,hzs,List.size_toArray,hol,← Nat.add_mul,← Nat.add_mul]
    congr 1;omega
  · rw [Array.toList_append,Array.toList_append,List.append_assoc,← hol,List.take_append_of_le_length (Nat.le_refl _)]
    exact List.take_of_length_le (Nat.le_refl _)
  · exact (Below.refl w.heap.size w).drew.alloc (Nat.le_refl _) _
def rowC (cur:Array Value) (o:Nat) (cs:List Value):Array Value:=(cur.toList.take o ++ cs ++ cur.toList.drop (o + cs.length)).toArray
theorem rowC_size {cur:Array Value} {o:Nat} {cs:List Value} (h:o + cs.length ≤ cur.size):(rowC cur o cs).size = cur.size:=by
  unfold rowC
  simp;omega
theorem wp_copyK {P : Program} {w : World} {o : Oper} {a : Act} {K : Act → World → Prop} {Q : Exit → Act → World → Prop} (d s : Operand) (dT sT : TypeId)
    (ho:o.op = .call { callee:=.builtin .copy,args:=#[d,s],argTypes:=#[dT,sT] }) (elem:TypeId) (k:Nat) (hu:P.underlying dT = some (.slice elem)) (hsz:(P.info? elem).map (·.size) = some k)
    (g off dLen dCap:Nat) (ad:Addr) (sLen sCap:Nat) (hd:a.eval d = .slice (some ⟨g,off,none⟩) dLen dCap) (hs:a.eval s = .slice (some ad) sLen sCap)
    (cur:Array Value) (hg:Blk w g elem cur) (cs:List Value) (hn:cs.length = Nat.min sLen dLen * k) (hsrc:∀ j v,cs[j]? = some v → w.cell? (ad.add j) = some v) (hfit:off + cs.length ≤ cur.size) (h1:∀ v ∈ cs,v.oneCell' = true)
    (h:∀ w',Blk w' g elem (rowC cur off cs) → (∀ B,B ≤ g → Below B w w') → (∀ j,j ≠ g → w'.heap[j]? = w.heap[j]?) → K (a.put o.dst (goInt (Nat.min sLen dLen))) w') :
    o.wp P a w K Q :=
  wp_copy_run w d s dT sT ho _ _ hd hs (run_copy_rowK w dT sT o.type elem k g off dLen dCap ad sLen sCap cur elem cs hu hsz hg hn hsrc hfit h1)
    (h _ (setRow_heap w g cur _ elem _ hg) (fun B hB => below_setRow (Below.refl B w) hB _) (fun j hj => setRow_other w g j _ hj))
theorem wpList_copyK {P : Program} {w : World} {ops : Array Oper} {rest : List Oper} {o : Oper} {a : Act} {Q : Exit → Act → World → Prop} (hgd : o.guard = none) (d s : Operand) (dT sT : TypeId)
    (ho:o.op = .call { callee:=.builtin .copy,args:=#[d,s],argTypes:=#[dT,sT] }) (elem:TypeId) (k:Nat) (hu:P.underlying dT = some (.slice elem)) (hsz:(P.info? elem).map (·.size) = some k)
    (g off dLen dCap:Nat) (ad:Addr) (sLen sCap:Nat) (hd:a.eval d = .slice (some ⟨g,off,none⟩) dLen dCap) (hs:a.eval s = .slice (some ad) sLen sCap)
    (cur:Array Value) (hg:Blk w g elem cur) (cs:List Value) (hn:cs.length = Nat.min sLen dLen * k) (hsrc:∀ j v,cs[j]? = some v → w.cell? (ad.add j) = some v) (hfit:off + cs.length ≤ cur.size) (h1:∀ v ∈ cs,v.oneCell' = true)
    (h:∀ w',Blk w' g elem (rowC cur off cs) → (∀ B,B ≤ g → Below B w w') → (∀ j,j ≠ g → w'.heap[j]? = w.heap[j]?) → wpList P ops Q rest (a.put o.dst (goInt (Nat.min sLen dLen))) w') :
    wpList P ops Q (o :: rest) a w :=
  wpList_plain hgd fun _ hK => wp_copyK d s dT sT ho elem k hu hsz g off dLen dCap ad sLen sCap hd hs cur hg cs hn hsrc hfit h1 (fun w' a1 a2 a3 => hK _ _ (h w' a1 a2 a3))
theorem step_copyK {P : Program} {ops : Array Oper} {o : Oper} {a : Act} {w : World} {K : Act → World → Prop} {Q : Exit → Act → World → Prop} {E : Prop} (hgd : o.guard = none) (d s : Operand) (dT sT : TypeId)
    (ho:o.op = .call { callee:=.builtin .copy,args:=#[d,s],argTypes:=#[dT,sT] }) (elem:TypeId) (k:Nat) (hu:P.underlying dT = some (.slice elem)) (hsz:(P.info? elem).map (·.size) = some k)
    (g off dLen dCap:Nat) (ad:Addr) (sLen sCap:Nat) (hd:a.eval d = .slice (some ⟨g,off,none⟩) dLen dCap) (hs:a.eval s = .slice (some ad) sLen sCap)
    (cur:Array Value) (hg:Blk w g elem cur) (cs:List Value) (hn:cs.length = Nat.min sLen dLen * k) (hsrc:∀ j v,cs[j]? = some v → w.cell? (ad.add j) = some v) (hfit:off + cs.length ≤ cur.size) (h1:∀ v ∈ cs,v.oneCell' = true)
    (h:∀ w',Blk w' g elem (rowC cur off cs) → (∀ B,B ≤ g → Below B w w') → (∀ j,j ≠ g → w'.heap[j]? = w.heap[j]?) → K (a.put o.dst (goInt (Nat.min sLen dLen))) w') :
    if Region.wanted o (yielded ops a.tmps) = true then Oper.wp P o a w K Q else E:=by
  have hw:Region.wanted o (yielded ops a.tmps) = true:=by simp [Region.wanted,hgd]
  rw [if_pos hw]
  exact wp_copyK d s dT sT ho elem k hu hsz g off dLen dCap ad sLen sCap hd hs cur hg cs hn hsrc hfit h1 h
theorem cellN {cs:List Value} (w:World) (t:TypeId) {j:Nat} {u:Value} (h:cs[j]? = some u):(w.alloc (.cells cs.toArray t)).cell? ⟨w.heap.size,j,none⟩ = some u:=by
  rw [World.cell?_alloc_new];simpa using h
theorem OwnR.lower {β:Type} {enc:β → List Value} {k base b2:Nat} {e:TypeId} {W:World} {p:Option Addr} {c:Nat} {l:List β} (h:OwnR enc k base e W p c l) (hb:b2 ≤ base):OwnR enc k b2 e W p c l:=by
  obtain ⟨h1,h2⟩:=h
  refine ⟨h1,?_⟩
  rcases h2 with h2 | ⟨g,cap,cur,hv,hg,r⟩
  · exact .inl h2
  · exact .inr ⟨g,cap,cur,hv,Nat.le_trans hb hg,r⟩
theorem OwnR.of_blk {β:Type} {enc:β → List Value} {k base:Nat} {e:TypeId} {W:World} {g c:Nat} {cur:Array Value} {l:List β} (hk:∀ x,(enc x).length = k) (h:Blk W g e cur) (hb:base ≤ g) (hc:l.length ≤ c) (hm:c ≤ maxLen) (hs:cur.size = c * k) (ht:cur.toList.take (l.length * k) = l.flatMap enc):OwnR enc k base e W (some ⟨g,0,none⟩) c l :=
  ⟨by rw [flat_len hk],.inr ⟨g,c,cur,rfl,hb,h,hc,hm,hs,ht⟩⟩
theorem OwnR.to_blk {β:Type} {enc:β → List Value} {k base:Nat} {e:TypeId} {W:World} {p:Option Addr} {c:Nat} {l:List β} (h:OwnR enc k base e W p c l) (hn:l ≠ []):∃ g cur,p = some ⟨g,0,none⟩ ∧ base ≤ g ∧ Blk W g e cur ∧ l.length ≤ c ∧ c ≤ maxLen ∧ cur.size = c * k ∧ cur.toList.take (l.length * k) = l.flatMap enc:=by
  rcases h.2 with ⟨h2,h3⟩ | ⟨g,cap,cur,hv,hg,hh,h5,h6,h7,h8⟩
  · exact absurd (List.length_eq_zero_iff.1 h3) hn
  · injection hv with hv1 hv2 hv3
    subst hv1 hv3
    exact ⟨g,cur,rfl,hg,hh,h5,h6,h7,h8⟩
theorem OwnR.ins_room {β : Type} {enc : β → List Value} {k base : Nat} {e : TypeId} {W : World} {g c i : Nat} {cur : Array Value} {l : List β} {x : β} (hk : ∀ x, (enc x).length = k) (hi : i ≤ l.length) (hb : base ≤ g) (hc : l.length + 1 ≤ c) (hm : c ≤ maxLen) (hs : cur.size = c * k) (ht : cur.toList.take (l.length * k) = l.flatMap enc)
    (h:Blk W g e (rowC (rowC cur ((i + 1) * k) ((l.drop i).flatMap enc)) (i * k) (enc x))):OwnR enc k base e W (some ⟨g,0,none⟩) c (insL l i false x):=by
  have hA:((l.take i).flatMap enc).length = i * k:=by rw [flat_len hk,List.length_take,Nat.min_eq_left hi]
  have hD:((l.drop i).flatMap enc).length = (l.length - i) * k:=by rw [flat_len hk,List.length_drop]
  have hX:=hk x
  have hAl:cur.toList.take ((l.take i).flatMap enc).length = (l.take i).flatMap enc:=by
    rw [hA]
    have h1:cur.toList.take (i * k) = (cur.toList.take (l.length * k)).take (i * k):=by
      rw [List.take_take,Nat.min_eq_left (Nat.mul_le_mul_right k hi)]
    rw [h1,ht]
    conv => lhs;rw [← List.take_append_drop i l]
    rw [List.flatMap_append,← hA,List.take_append_of_le_length (Nat.le_refl _)]
    exact List.take_of_length_le (Nat.le_refl _)
  have e1:i * k + k + (l.length - i) * k = (l.length + 1) * k:=by
    rw [show i * k + k = (i + 1) * k by rw [Nat.add_mul,Nat.one_mul],← Nat.add_mul];congr 1;omega
  have hlen:(l.length + 1) * k ≤ c * k:=Nat.mul_le_mul_right k hc
  have r:=room_lists cur.toList ((l.take i).flatMap enc) (enc x) ((l.drop i).flatMap enc) hAl (by rw [hA,hX,hD,e1];have:=hs;simp only [← Array.length_toList] at this;rw [this];exact hlen)
  have e3:(i + 1) * k = i * k + k:=by rw [Nat.add_mul,Nat.one_mul]
  rw [hA,hX,hD,e1] at r
  refine OwnR.of_blk hk h hb (by rw [insL_len_miss hi];exact hc) hm ?_ ?_
  · rw [rowC_size,rowC_size,hs]
    · rw [hD,hs,e3,e1];exact hlen
    · rw [rowC_size,hX,hs]
      · exact Nat.le_trans (by rw [← e3];exact Nat.mul_le_mul_right k (by omega)) hlen
      · rw [hD,hs,e3,e1];exact hlen
  · rw [insL_len_miss hi]
    unfold rowC
    dsimp only
    rw [e3,hX,hD,e1]
    rw [r]
    unfold insL
    rw [if_neg (by simp),List.flatMap_append,List.flatMap_cons]
theorem OwnR.ins_grow {β : Type} {enc : β → List Value} {k base : Nat} {e : TypeId} {W : World} {g c i : Nat} {cur : Array Value} {l : List β} {x : β} (hk : ∀ x, (enc x).length = k) (hi : i ≤ l.length) (hb : base ≤ g) (hc : l.length + 1 ≤ c) (hm : c ≤ maxLen) (hs : cur.size = c * k) (ht : cur.toList.take (i * k) = (l.take i).flatMap enc)
    (h:Blk W g e (rowC (rowC cur (i * k) (enc x)) ((i + 1) * k) ((l.drop i).flatMap enc))):OwnR enc k base e W (some ⟨g,0,none⟩) c (insL l i false x):=by
  have hA:((l.take i).flatMap enc).length = i * k:=by rw [flat_len hk,List.length_take,Nat.min_eq_left hi]
  have hD:((l.drop i).flatMap enc).length = (l.length - i) * k:=by rw [flat_len hk,List.length_drop]
  have hX:=hk x
  have e1:i * k + k + (l.length - i) * k = (l.length + 1) * k:=by
    rw [show i * k + k = (i + 1) * k by rw [Nat.add_mul,Nat.one_mul],← Nat.add_mul];congr 1;omega
  have hlen:(l.length + 1) * k ≤ c * k:=Nat.mul_le_mul_right k hc
  have r:=grow_lists cur.toList ((l.take i).flatMap enc) (enc x) ((l.drop i).flatMap enc) (by rw [hA];exact ht) (by rw [hA,hX,hD,e1];have:=hs;simp only [← Array.length_toList] at this;rw [this];exact hlen)
  have e3:(i + 1) * k = i * k + k:=by rw [Nat.add_mul,Nat.one_mul]
  rw [hA,hX,hD,e1] at r
  refine OwnR.of_blk hk h hb (by rw [insL_len_miss hi];exact hc) hm ?_ ?_
  · rw [rowC_size,rowC_size,hs]
    · rw [hX,hs,← e3];exact Nat.le_trans (Nat.mul_le_mul_right k (by omega)) hlen
    · rw [rowC_size,hD,hs,e3,e1]
      · exact hlen
      · rw [hX,hs,← e3];exact Nat.le_trans (Nat.mul_le_mul_right k (by omega)) hlen
  · rw [insL_len_miss hi]
    unfold rowC
    dsimp only
    rw [e3,hX,hD,e1]
    rw [r]
    unfold insL
    rw [if_neg (by simp),List.flatMap_append,List.flatMap_cons]
theorem insL_end {α:Type} (l:List α) (x:α):insL l l.length false x = l ++ [x]:=by unfold insL;rw [if_neg (by simp),List.take_length,List.drop_length]
theorem flat_take_get {β:Type} {enc:β → List Value} {l:List β} {i j:Nat} {v:Value} (h:((l.take i).flatMap enc)[j]? = some v):(l.flatMap enc)[j]? = some v:=by
  conv => lhs;rw [← List.take_append_drop i l]
  rw [List.flatMap_append,List.getElem?_append_left (List.getElem?_eq_some_iff.1 h).1];exact h
theorem flat_drop_get {β:Type} {enc:β → List Value} {k:Nat} (hk:∀ x,(enc x).length = k) {l:List β} {i j:Nat} {v:Value} (h:((l.drop i).flatMap enc)[j]? = some v):(l.flatMap enc)[i * k + j]? = some v:=by
  have hj:=(List.getElem?_eq_some_iff.1 h).1
  have hil:i ≤ l.length:=by
    rcases Nat.le_total i l.length with g | g
    · exact g
    · rw [List.drop_eq_nil_of_le g] at hj;simp at hj
  have e:((l.take i).flatMap enc).length = i * k:=by rw [flat_len hk,List.length_take,Nat.min_eq_left hil]
  conv => lhs;rw [← List.take_append_drop i l]
  rw [List.flatMap_append,List.getElem?_append_right (by omega),e,Nat.add_sub_cancel_left];exact h
end Lum
namespace Lum
open Go Go.RowKit Go.Shelf
open Go.Lib (decDigits itoa)
theorem find_at {α:Type} {p:α → Bool} {l:List α} {i:Nat} (h:i < l.length) (hp:p (l[i]'h) = true) (hb:∀ j (hj:j < i),p (l[j]'(by omega)) = false):l.find? p = some (l[i]'h):=by
  rw [List.find?_eq_some_iff_getElem]
  exact ⟨hp,i,h,rfl,fun j hj => by rw [hb j hj];rfl⟩
theorem find_no {α:Type} {p:α → Bool} {l:List α} (hb:∀ j (hj:j < l.length),p (l[j]'hj) = false):l.find? p = none:=by
  rw [List.find?_eq_none]
  intro x hx
  obtain ⟨j,hj,rfl⟩:=List.getElem_of_mem hx
  rw [hb j hj];exact Bool.false_ne_true
def ixOf {α:Type} (p:α → Bool) (l:List α):Int:=match l.findIdx? p with | some i => (i:Int) | none => -1
theorem ixOf_at {α:Type} {p:α → Bool} {l:List α} {i:Nat} (h:i < l.length) (hp:p (l[i]'h) = true) (hb:∀ j (hj:j < i),p (l[j]'(by omega)) = false):ixOf p l = (i:Int):=by
  unfold ixOf
  rw [show l.findIdx? p = some i from List.findIdx?_eq_some_iff_getElem.2 ⟨h,hp,fun j hj => by rw [hb j hj];exact Bool.false_ne_true⟩]
theorem ixOf_no {α:Type} {p:α → Bool} {l:List α} (hb:∀ j (hj:j < l.length),p (l[j]'hj) = false):ixOf p l = -1:=by
  unfold ixOf
  rw [show l.findIdx? p = none from List.findIdx?_eq_none_iff.2 fun x hx => by obtain ⟨j,hj,rfl⟩:=List.getElem_of_mem hx;exact hb j hj]
def Halved (c:Nat → Int) (n i:Nat):Prop:=i ≤ n ∧ (0 < i → c (i - 1) < 0) ∧ (i < n → 0 ≤ c i)
structure Belongs (c : Nat → Int) (n : Nat) (nu : Int) (i : Nat) (hit : Bool) : Prop where
  le:i ≤ n
  bef:∀ j,j < i → c j < nu
  yes:hit = true → i < n ∧ c i = nu
  no:hit = false → ∀ j,i ≤ j → j < n → nu < c j
  aft:∀ j,i < j → j < n → nu < c j
theorem halved_belongs {c:Nat → Int} {n i:Nat} {nu:Int} (hs:∀ j,j < n → ∀ k,k < j → c k < c j) (h:Halved (fun k => c k - nu) n i):Belongs c n nu i (decide (i < n ∧ c i - nu = 0)):=by
  obtain ⟨h1,h2,h3⟩:=h
  dsimp only at h2 h3
  have hb:∀ j,j < i → c j < nu:=fun j hj => by
    have h4:=h2 (by omega)
    by_cases e:j = i - 1
    · subst e;omega
    · have:=hs (i - 1) (by omega) j (by omega);omega
  refine ⟨h1,hb,fun e => ?_,fun e j hj hn => ?_,fun j hj hn => ?_⟩
  · have:=of_decide_eq_true e;exact ⟨this.1,by omega⟩
  · have e2:=of_decide_eq_false e
    have h4:=h3 (by omega)
    have h5:¬ c i - nu = 0:=fun g => e2 ⟨by omega,g⟩
    by_cases e3:j = i
    · subst e3;omega
    · have:=hs j hn i (by omega);omega
  · have h4:=h3 (by omega)
    have:=hs j hn i hj;omega
theorem Belongs.uniq {c:Nat → Int} {n i j:Nat} {nu:Int} {a b:Bool} (h:Belongs c n nu i a) (g:Belongs c n nu j b):i = j ∧ a = b:=by
  have e:i = j:=by
    rcases Nat.lt_trichotomy i j with k | k | k
    · have h1:=g.bef i k
      have h2:=g.le
      cases a
      · have:=h.no rfl i (Nat.le_refl _) (by omega);omega
      · have:=(h.yes rfl).2;omega
    · exact k
    · have h1:=h.bef j k
      have h2:=h.le
      cases b
      · have:=g.no rfl j (Nat.le_refl _) (by omega);omega
      · have:=(g.yes rfl).2;omega
  subst e
  refine ⟨rfl,?_⟩
  cases a <;> cases b <;> try rfl
  · have h1:=g.yes rfl
    have:=h.no rfl i (Nat.le_refl _) h1.1;omega
  · have h1:=h.yes rfl
    have:=g.no rfl i (Nat.le_refl _) h1.1;omega
theorem sorted_cut (c:Nat → Int) (nu:Int):∀ n,∃ i,i ≤ n ∧ (∀ j,j < i → c j < nu) ∧ (i < n → nu ≤ c i):=by
  intro n
  induction n with
  | zero => exact ⟨0,Nat.le_refl _,fun j h => absurd h (Nat.not_lt_zero _),fun h => absurd h (Nat.lt_irrefl _)⟩
  | succ n ih =>
    obtain ⟨i,h1,h2,h3⟩:=ih
    by_cases g:i < n
    · exact ⟨i,by omega,h2,fun _ => h3 g⟩
    · obtain rfl:i = n:=by omega
      by_cases k:c i < nu
      · refine ⟨i + 1,by omega,fun j hj => ?_,fun h => absurd h (Nat.lt_irrefl _)⟩
        by_cases e:j = i
        · subst e;exact k
        · exact h2 j (by omega)
      · exact ⟨i,by omega,h2,fun _ => by omega⟩
end Lum
namespace Lum
open Go Go.RowKit Go.Shelf
open Go.Lib (decDigits itoa)
theorem kept_set {α:Type} (K l:List α) (x:α) (h:K.length < l.length):(K ++ l.drop K.length).set K.length x = (K ++ [x]) ++ l.drop (K.length + 1):=by
  rw [List.set_append_right _ _ (Nat.le_refl _),Nat.sub_self,List.drop_eq_getElem_cons h,List.set_cons_zero,List.append_assoc,List.singleton_append]
theorem kept_get {α:Type} {K l:List α} {j:Nat} (h:K.length ≤ j):(K ++ l.drop K.length)[j]? = l[j]?:=by
  rw [List.getElem?_append_right h,List.getElem?_drop];congr 1;omega
theorem kept_len {α:Type} {K l:List α} (h:K.length ≤ l.length):(K ++ l.drop K.length).length = l.length:=by rw [List.length_append,List.length_drop];omega
theorem clearK {P : Program} (w : World) (t elem : TypeId) (z : Value) (k g o n c : Nat) (cur : Array Value) (hu : P.underlying t = some (.slice elem)) (hz : ∀ w, (zeroValue elem).run P w = .ok z w) (hzs : z.cells.size = k) (h1 : ∀ v ∈ z.cells, v.oneCell' = true)
    (hg:Blk w g elem cur) (hn:0 < n) (hfit:o + n * k ≤ cur.size) :
    ∃ (w':World) (cs:List Value),(∀ ty,(Builtin.clear_ #[t] ty #[.slice (some ⟨g,o,none⟩) n c]).run P w = .ok (.tuple #[]) w') ∧ cs.length = n * k ∧ Blk w' g elem (rowC cur o cs) ∧ (∀ B,B ≤ g → Below B w w'):=by
  have hl:(Builtin.zeroCells z.cells n).toList.length = n * k:=by rw [Array.length_toList,size_zeroCells,hzs]
  have ho:∀ v ∈ (Builtin.zeroCells z.cells n).toList,v.oneCell' = true:=by
    intro v hv
    rw [Array.mem_toList_iff] at hv
    unfold Builtin.zeroCells at hv
    rw [Array.mem_map] at hv
    obtain ⟨i,hi,rfl⟩:=hv
    rw [Array.mem_range] at hi
    have hk:0 < z.cells.size:=by
      rcases Nat.eq_zero_or_pos z.cells.size with h | h
      · rw [h] at hi;simp at hi
      · exact h
    have hm:i % z.cells.size < z.cells.size:=Nat.mod_lt _ hk
    apply h1
    rw [getElem!_pos z.cells (i % z.cells.size) hm]
    exact Array.getElem_mem _
  have hst:=run_storeCells_at P g o elem (Builtin.zeroCells z.cells n).toList 0 cur w hg (by rw [hl];simpa using hfit) ho
  refine ⟨_,(Builtin.zeroCells z.cells n).toList,fun ty => ?_,hl,setRow_heap w g cur _ elem _ hg,fun B hB => below_setRow (Below.refl B w) hB _⟩
  obtain ⟨m,rfl⟩:∃ m,n = m + 1:=⟨n - 1,by omega⟩
  simp only [Nat.add_zero] at hst
  simp [Builtin.clear_,run_underlying hu,hz,hst,rowC]
theorem OwnR.cut {β : Type} {enc : β → List Value} {k base : Nat} {e : TypeId} {W : World} {g c : Nat} {cur : Array Value} {K R : List β} {cs : List Value} (hk : ∀ x, (enc x).length = k) (hb : base ≤ g) (hc : (K ++ R).length ≤ c) (hm : c ≤ maxLen) (hs : cur.size = c * k) (ht : cur.toList.take ((K ++ R).length * k) = (K ++ R).flatMap enc) (hcs : cs.length = R.length * k)
    (h:Blk W g e (rowC cur (K.length * k) cs)):OwnR enc k base e W (some ⟨g,0,none⟩) c K:=by
  have hl:K.length * k + R.length * k ≤ cur.size:=by rw [hs,← Nat.add_mul,← List.length_append];exact Nat.mul_le_mul_right _ hc
  have e1:(K.flatMap enc).length = K.length * k:=flat_len hk K
  refine OwnR.of_blk hk h hb (by rw [List.length_append] at hc;omega) hm (by rw [rowC_size (by rw [hcs];exact hl)];exact hs) ?_
  have e2:cur.toList.take (K.length * k) = K.flatMap enc:=by
    have:=congrArg (List.take (K.length * k)) ht
    rw [List.take_take,Nat.min_eq_left (by rw [List.length_append,Nat.add_mul];omega),List.flatMap_append,List.take_left' e1] at this
    exact this
  have e4:K.length * k ≤ (cur.toList.take (K.length * k)).length:=by rw [List.length_take,Array.length_toList (xs:=cur)];omega
  unfold rowC
  rw [List.toList_toArray,List.append_assoc,List.take_append_of_le_length e4,List.take_take,Nat.min_self,e2]
def storeAll (w : World) (g o : Nat) : List Value → World
  | [] => w
  | v :: r => storeAll (w.setCell ⟨g,o,none⟩ v) g (o + 1) r
def setAll (l : List Value) (o : Nat) : List Value → List Value
  | [] => l
  | v :: r => setAll (l.set o v) (o + 1) r
theorem setAll_len (cs:List Value):∀ (l:List Value) (o:Nat),(setAll l o cs).length = l.length:=by
  induction cs with
  | nil => intro l o;rfl
  | cons v r ih => intro l o;rw [setAll,ih,List.length_set]
theorem setAll_mid (cs:List Value):∀ (A B C:List Value),B.length = cs.length → setAll (A ++ (B ++ C)) A.length cs = A ++ (cs ++ C):=by
  induction cs with
  | nil => intro A B C h;obtain rfl:=List.length_eq_zero_iff.1 h;rfl
  | cons v r ih =>
    intro A B C h
    obtain ⟨b,B,rfl⟩:∃ b B2,B = b :: B2:=by cases B with | nil => simp at h | cons b B => exact ⟨b,B,rfl⟩
    rw [setAll,List.set_append_right _ _ (Nat.le_refl _),Nat.sub_self,List.cons_append,List.set_cons_zero]
    have:=ih (A ++ [v]) B C (by simpa using h)
    rw [List.length_append,List.append_assoc,List.append_assoc] at this
    exact this
theorem blk_storeAll {g:Nat} {t:TypeId} (cs:List Value):∀ (w:World) (o:Nat) (cur:Array Value),Blk w g t cur → Blk (storeAll w g o cs) g t (setAll cur.toList o cs).toArray:=by
  induction cs with
  | nil => intro w o cur h;rw [storeAll,setAll];exact h
  | cons v r ih =>
    intro w o cur h
    have h2:=ih _ (o + 1) _ (h.set_ o v)
    rw [storeAll,setAll]
    rw [Array.toList_setIfInBounds] at h2
    exact h2
theorem flat_set {β:Type} {enc:β → List Value} {k:Nat} (hk:∀ x,(enc x).length = k) {l:List β} {i:Nat} (hi:i < l.length) (x:β) (T:List Value):setAll (l.flatMap enc ++ T) (i * k) (enc x) = (l.set i x).flatMap enc ++ T:=by
  have e:l = l.take i ++ (l[i]'hi :: l.drop (i + 1)):=by rw [← List.drop_eq_getElem_cons hi,List.take_append_drop]
  have e1:((l.take i).flatMap enc).length = i * k:=by rw [flat_len hk,List.length_take,Nat.min_eq_left (by omega)]
  rw [List.set_eq_take_append_cons_drop,if_pos hi]
  conv => lhs;rw [e]
  rw [List.flatMap_append,List.flatMap_cons,List.flatMap_append,List.flatMap_cons,List.append_assoc,List.append_assoc,← e1,setAll_mid _ _ _ _ (by rw [hk,hk]),List.append_assoc,List.append_assoc]
theorem OwnR.setk {β:Type} {enc:β → List Value} {k base:Nat} {e:TypeId} {W:World} {g c:Nat} {l:List β} (hk:∀ x,(enc x).length = k) (h:OwnR enc k base e W (some ⟨g,0,none⟩) c l) {i:Nat} (hi:i < l.length) (x:β):OwnR enc k base e (storeAll W g (i * k) (enc x)) (some ⟨g,0,none⟩) c (l.set i x):=by
  obtain ⟨g2,cur,hp,hg,hb,h1,h2,h3,h4⟩:=h.to_blk (fun e => by subst e;exact absurd hi (Nat.not_lt_zero _))
  obtain rfl:g = g2:=by have:=Option.some.inj hp;injection this
  have hc:cur.toList = l.flatMap enc ++ cur.toList.drop (l.length * k):=by rw [← h4,List.take_append_drop]
  have hl:(l.flatMap enc).length = l.length * k:=flat_len hk l
  refine OwnR.of_blk hk (blk_storeAll (enc x) _ (i * k) _ hb) hg (by rw [List.length_set];exact h1) h2 (by rw [List.size_toArray,setAll_len,Array.length_toList];exact h3) ?_
  rw [List.toList_toArray,hc,flat_set hk hi,List.length_set]
  have:((l.set i x).flatMap enc).length = l.length * k:=by rw [flat_len hk,List.length_set]
  rw [← this,List.take_append_of_le_length (Nat.le_refl _)]
  exact List.take_of_length_le (Nat.le_refl _)
theorem OwnR.cellsAt {β:Type} {enc:β → List Value} {k base:Nat} {e:TypeId} {W:World} {g c:Nat} {l:List β} (hk:∀ x,(enc x).length = k) (h:OwnR enc k base e W (some ⟨g,0,none⟩) c l) {i:Nat} {x:β} (hx:l[i]? = some x):∀ j u,(enc x)[j]? = some u → W.cell? ⟨g,i * k + j,none⟩ = some u:=by
  obtain ⟨hi,e2⟩:=List.getElem?_eq_some_iff.1 hx
  obtain ⟨b,hp,-,hc⟩:=h.at_ hk (fun e => by subst e;exact absurd hi (Nat.not_lt_zero _))
  obtain rfl:g = b:=by have:=Option.some.inj hp;injection this
  intro j u hu
  have:=hc i hi j u (by rw [e2];exact hu)
  rwa [Nat.zero_add] at this
theorem OwnR.frozenAt {β:Type} {enc:β → List Value} {k base:Nat} {e:TypeId} {W:World} {g c:Nat} {l:List β} (h:OwnR enc k base e W (some ⟨g,0,none⟩) c l) (hn:l ≠ []) (i:Nat):W.frozen? ⟨g,i,none⟩ = false:=by
  obtain ⟨g2,cur,hp,-,hb,-⟩:=h.to_blk hn
  obtain rfl:g = g2:=by have:=Option.some.inj hp;injection this
  exact hb.frozen i
def RowX {β:Type} (enc:β → List Value) (k:Nat) (W:World) (pp:Option Addr) (l:List β):Prop :=
  l ≠ [] → ∃ b o,pp = some ⟨b,o,none⟩ ∧ b < W.heap.size ∧ ∀ (i:Nat) (hi:i < l.length) (j:Nat) (u:Value),(enc (l[i]'hi))[j]? = some u → W.cell? ⟨b,o + i * k + j,none⟩ = some u
theorem RowX.kept {β:Type} {enc:β → List Value} {k:Nat} {W W':World} {pp:Option Addr} {l:List β} (h:RowX enc k W pp l) (hb:Below W.heap.size W W'):RowX enc k W' pp l:=fun hn => by
  obtain ⟨b,o,h1,h2,h3⟩:=h hn
  exact ⟨b,o,h1,Nat.lt_of_lt_of_le h2 hb.size,fun i hi j u hu => (hb.cell (p:=⟨b,o + i * k + j,none⟩) h2).trans (h3 i hi j u hu)⟩
theorem OwnR.row {β:Type} {enc:β → List Value} {k base:Nat} {e:TypeId} {W:World} {p:Option Addr} {c:Nat} {l:List β} (h:OwnR enc k base e W p c l) (hk:∀ x,(enc x).length = k):RowX enc k W p l:=fun hn => by
  obtain ⟨b,h1,h2,h3⟩:=h.at_ hk hn
  exact ⟨b,0,h1,h2,h3⟩
theorem first_ix {β:Type} (p:β → Bool):∀ (l:List β),(∀ i (hi:i < l.length),p (l[i]'hi) = false) ∨ ∃ i,∃ hi:i < l.length,p (l[i]'hi) = true ∧ ∀ j (hj:j < i),p (l[j]'(Nat.lt_trans hj hi)) = false:=by
  intro l
  induction l with
  | nil => exact .inl fun i hi => absurd hi (Nat.not_lt_zero _)
  | cons x r ih =>
    cases hx:p x with
    | true => exact .inr ⟨0,by simp,hx,fun j hj => absurd hj (Nat.not_lt_zero _)⟩
    | false =>
      rcases ih with h | ⟨i,hi,h1,h2⟩
      · refine .inl fun i hi => ?_
        cases i with
        | zero => exact hx
        | succ i => exact h i (by simpa using hi)
      · refine .inr ⟨i + 1,by simpa using hi,by simpa using h1,fun j hj => ?_⟩
        cases j with
        | zero => exact hx
        | succ j => exact h2 j (by omega)
def kepL {β:Type} (p:β → Bool) (l:List β) (j:Nat):List β:=(l.take j).filter fun x => !p x
theorem wpList_clear_run {P : Program} (w : World) {ops : Array Oper} {rest : List Oper} {o : Oper} {a : Act} {Q : Exit → Act → World → Prop} (hgd : o.guard = none) (s : Operand) (t : TypeId)
    (ho:o.op = .call { callee:=.builtin .clear,args:=#[s],argTypes:=#[t] }) (v:Value) (hs:a.eval s = v) {v':Value} {w':World}
    (hr:(Builtin.clear_ #[t] o.type #[v]).run P w = .ok v' w') (h:wpList P ops Q rest (a.put o.dst v') w'):wpList P ops Q (o :: rest) a w :=
  wpList_plain hgd fun K hK => by
    unfold Oper.wp execOp
    simp only [ho,resolve,invoke,builtin,Sem.run_bind,Sem.run_pure,Result.andThen_ok,List.map_toArray,List.map_cons,List.map_nil,hs,hr]
    exact hK _ _ h
end Lum
namespace Lum
open Go Go.RowKit Go.Shelf
open Go.Lib (decDigits itoa)
theorem inI_at {l:List Int} {i:Nat} (h:i < l.length):l[i]'h = inI l i:=by unfold inI;rw [List.getElem?_eq_getElem h];rfl
theorem ixOf_has {α:Type} (p:α → Bool) (l:List α):decide (0 ≤ ixOf p l) = l.any p:=by
  rcases first_ix p l with h | ⟨i,hi,h1,h2⟩
  · rw [ixOf_no h]
    have:l.any p = false:=by
      rw [List.any_eq_false]
      intro x hx
      obtain ⟨j,hj,rfl⟩:=List.getElem_of_mem hx
      rw [h j hj];simp
    rw [this];decide
  · rw [ixOf_at hi h1 h2]
    have:l.any p = true:=List.any_eq_true.2 ⟨_,List.getElem_mem hi,h1⟩
    rw [this];simp
theorem any_eq (l:List Int) (n:Int):l.any (fun x => n == x) = l.contains n:=by
  induction l with
  | nil => rfl
  | cons x r ih => rw [List.any_cons,List.contains_cons,ih]
end Lum
namespace Go.Proofs.YtbeojahilbglcaaGreatDoor
open Go.RowKit Go.Shelf Lum
open Go.Lib (decDigits itoa)
attribute [local go_sem] bs_get bs_extract_end bs_extract_from bs_extract bs_append
theorem int_index (n : Int) (l : List Int) (v : Value) (w : World) (hv : IntsAt w v l) (hn : l.length ≤ 1000000) :
    Calls Tryz.prog 124 #[v,.int .i64 n] w fun e w' => e = .returned (.int .i64 (ixOf (fun x => n == x) l)) ∧ Below w.heap.size w w':=by
  obtain ⟨p,c,rfl,hv1⟩:=hv
  have hv2:=Lib.hid hv1;clear hv1
  have HB:=Lib.hid (Below.refl w.heap.size w)
  go_enter Tryz.func124,Tryz.ntmps124
  go_wp2_with fail
  go_loopw [8] (fun s8 wr => ∃ i r:Nat,s8 = .int .i64 (i:Int) ∧ Hid (i + r = l.length) ∧ Hid (Below w.heap.size w wr) ∧ Hid (∀ j (hj:j < l.length),j < i → (n == l[j]'hj) = false)) (fun s8 _ => l.length - (intOf s8).toNat)
  case atStart => exact ⟨0,l.length,rfl,Lib.hid (by omega),HB,Lib.hid (fun j hj h => absurd h (Nat.not_lt_zero _))⟩
  case round =>
    clear HB
    obtain ⟨i,r,rfl,hkr,HB,HN⟩:=hrel
    cases r with
    | zero =>
      have hlt:¬ (i:Int) < (l.length:Int):=by have:=hkr.out;omega
      have HR:Hid (ixOf (fun x => n == x) l = -1):=Lib.hid (ixOf_no fun j hj => HN.out j hj (by have:=hkr.out;omega))
      go_wp2_with fail
      go_ret
      exact ⟨by rw [HR.out];rfl,HB.out⟩
    | succ r =>
      have hkl:i < l.length:=by have:=hkr.out;omega
      have hlt:(i:Int) < (l.length:Int):=by omega
      have hi0:(0:Int) ≤ (i:Int):=by omega
      have hun:IntKind.i64.wrap ((i:Int) + 1) = (i:Int) + 1:=IntWalk.i64_in _ (by omega)
      obtain ⟨b,o,rfl,hb,hC⟩:=hv2.out (fun h => by subst h;exact absurd hkl (Nat.not_lt_zero _))
      have x0:wr.cell? ⟨b,o + i,none⟩ = some (.int .i64 (inI l i)):=(HB.out.cell (p:=⟨b,o + i,none⟩) hb).trans (hC i hkl)
      have hbr:b < wr.heap.size:=by have:=HB.out.size;omega
      clear hC hb
      by_cases hx:n = inI l i
      · have HR:Hid (ixOf (fun x => n == x) l = (i:Int)):=Lib.hid (ixOf_at hkl (by rw [inI_at hkl];simpa using hx) (fun j hj => HN.out j (by omega) hj))
        have he:((n:Int) == inI l i) = true:=by simpa using hx
        clear hx
        generalize inI l i = y at *
        go_wp2_with fail
        go_ret
        exact ⟨by rw [HR.out];rfl,HB.out⟩
      · have he:((n:Int) == inI l i) = false:=by simpa using hx
        have HN2:Hid (∀ j (hj:j < l.length),j < i + 1 → (n == l[j]'hj) = false):=Lib.hid (fun j hj h => by by_cases e:j = i;(subst e;rw [inI_at hj];exact he);exact HN.out j hj (by omega))
        clear hx
        generalize inI l i = y at *
        go_wp2_with fail
        go_roundw
        case rel => exact ⟨i + 1,r,by first | rfl | simp,Lib.hid (by have:=hkr.out;omega),HB,HN2⟩
        case measure => first | (simp [intOf];done) | (simp [intOf];omega)
theorem int_contains (n : Int) (l : List Int) (v : Value) (w : World) (hv : IntsAt w v l) (hn : l.length ≤ 1000000) :
    Calls Tryz.prog 79 #[v,.int .i64 n] w fun e w' => e = .returned (.bool (l.contains n)) ∧ Below w.heap.size w w':=by
  have HV:=Lib.hid hv
  have hix:=fun W (h:IntsAt W v l) => int_index n l v W h hn
  have HE:Hid (decide (0 ≤ ixOf (fun x => n == x) l) = l.contains n):=Lib.hid ((ixOf_has _ _).trans (any_eq l n))
  clear hv hn
  generalize ixOf (fun x => n == x) l = z at *
  have HB:=Lib.hid (Below.refl w.heap.size w)
  have HIX:=Lib.hid hix;clear hix
  go_enter Tryz.func79,Tryz.ntmps79
  go_wp2_with (with_reducible refine ((HIX.out _ HV.out).mono ?_);rintro e w' ⟨rfl,hb⟩;replace HB:=Lib.hid (bch' HB.out hb);clear hb)
  go_ret
  exact ⟨by rw [← HE.out];rfl,HB.out⟩
end Go.Proofs.YtbeojahilbglcaaGreatDoor

/-
  
-/
import Derived.Test.YtmjkenlifgmeeaaGreatDoorQzMb
import Derived.RangeFuncNested
import Derived.RangeFuncBound
import Derived.RangeFuncCalls
import Derived.RangeFuncLeaves
import Derived.RangeFuncBox
import Derived.Shelf.Abstract
import Derived.WalkKit
import Derived.OwnWalkIn
import Derived.TacticsInMore
import Derived.LoopNIn
import Derived.LoopIn
import Derived.Maps.AppendAt
set_option linter.unusedVariables false
set_option linter.unusedSimpArgs false
namespace Lum
open Go Go.RowKit
theorem addr_add (b o j:Nat):(⟨b,o,none⟩:Addr).add j = ⟨b,o + j,none⟩:=by unfold Addr.add;split <;> simp_all
def OwnL (base e:Nat) (W:World) (p:Option Addr) (c:Nat) (xs:List Value):Prop:=W.ownsRow base e 1 (.slice p xs.length c) xs.length xs
theorem OwnL.nil (base e:Nat) (W:World):OwnL base e W none 0 []:=World.ownsRow_nil W base e 1
theorem OwnL.lt {base e:Nat} {W:World} {p:Option Addr} {c:Nat} {xs:List Value} (h:OwnL base e W p c xs):∀ a,p = some a → base ≤ a.block ∧ a.block < W.heap.size:=by
  intro a ha
  subst ha
  exact World.ownsRow.lt h a.block rfl
theorem OwnL.keep {base e:Nat} {W W':World} {p:Option Addr} {c:Nat} {xs:List Value} (h:OwnL base e W p c xs) (hb:Below W.heap.size W W'):OwnL base e W' p c xs:=by
  obtain ⟨h1,h2⟩:=h
  refine ⟨h1,?_⟩
  rcases h2 with h2 | ⟨g,cap,cur,hv,hg,hh,r⟩
  · exact .inl h2
  · exact .inr ⟨g,cap,cur,hv,hg,by rw [hb.block g (Array.getElem?_eq_some_iff.1 hh).1];exact hh,r⟩
theorem ownsRow_slice {W:World} {base e n:Nat} {v:Value} {xs:List Value} (h:W.ownsRow base e 1 v n xs):∃ p c,v = .slice p n c:=by
  rcases h.2 with ⟨rfl,rfl⟩ | ⟨g,cap,cur,rfl,_⟩
  · exact ⟨none,0,rfl⟩
  · exact ⟨_,_,rfl⟩
theorem wpList_app1 {P : Program} {ops : Array Oper} {rest : List Oper} {o : Oper} {a : Act} {Q : Exit → Act → World → Prop} (hgd : o.guard = none) (s x : Operand) (t : TypeId)
    (ho:o.op = .call { callee:=.builtin .append,args:=#[s,x],argTypes:=#[t,t] })
    (base:Nat) (e:TypeId) (i:TypeInfo) (z:Value) (bytes:Nat) (ht:P.underlying t = some (.slice e)) (hi:P.info? e = some i) (hz:i.zero = some z)
    (hsize:i.size = 1) (hby:i.bytes = bytes) (hzs:z.cells.size = 1) (hbs:bytes ≤ 16)
    (p:Option Addr) (c:Nat) (xs:List Value) (W:World) (y:Value) (hs:a.eval s = .slice p xs.length c) (hown:OwnL base e W p c xs)
    (hx:a.eval x = .slice (some ⟨W.heap.size,0,none⟩) 1 1) (h1:y.oneCell' = true)
    (hn:xs.length < 1000000000) (hbase:base ≤ W.heap.size)
    (h:∀ p' c' w',OwnL base e w' p' c' (xs ++ [y]) → Below base W w' → wpList P ops Q rest (a.put o.dst (.slice p' (xs.length + 1) c')) w') :
    wpList P ops Q (o :: rest) a (W.alloc (.cells #[y] e)):=by
  refine wpList_append_own _ hgd s x t ho base e i z 1 bytes ht hi hz hsize hby hzs (by decide) _ _ _ hs (World.ownsRow.alloc hown _) ⟨W.heap.size, 0, none⟩ 1 1 [y] hx rfl
    (cell_one_new W y e) (by simpa using h1) (by unfold maxLen;omega) ?_ (by rw [World.size_alloc];omega) ?_
  · have:(xs.length + 1) * bytes ≤ 1000000001 * 16:=Nat.mul_le_mul (by omega) hbs
    omega
  · intro v' w' hown' hgrow _
    obtain ⟨p',c',rfl⟩:=ownsRow_slice hown'
    refine h p' c' w' ?_ ?_
    · unfold OwnL
      rw [List.length_append];exact hown'
    · refine ((Below.refl base W).alloc hbase _).grown hgrow (by rw [World.size_alloc];omega) ?_
      intro k hk
      cases p with
      | none => simp [Value.ownBlock] at hk
      | some ad => simp [Value.ownBlock] at hk;subst hk;exact (hown.lt ad rfl).1
def NatsAt (k:IntKind) (W:World) (v:Value) (ws:List Nat):Prop :=
  (v = .slice none 0 0 ∧ ws = []) ∨ ∃ b o c,v = .slice (some ⟨b,o,none⟩) ws.length c ∧ b < W.heap.size ∧ ws.length ≤ c ∧ c ≤ maxLen ∧ ∀ j,j < ws.length → W.cell? ⟨b,o + j,none⟩ = some (.int k (ws[j]?.getD 0:Nat))
theorem NatsAt.below {k:IntKind} {W W':World} {v:Value} {ws:List Nat} (h:NatsAt k W v ws) (hb:Below W.heap.size W W'):NatsAt k W' v ws:=by
  rcases h with h | ⟨b,o,c,e,h1,h2,h3,h4⟩
  · exact .inl h
  · exact .inr ⟨b,o,c,e,Nat.lt_of_lt_of_le h1 hb.size,h2,h3,fun j hj => (hb.cell (p:=⟨b,o + j,none⟩) h1).trans (h4 j hj)⟩
theorem NatsAt.of_own {k:IntKind} {base e:Nat} {W:World} {p:Option Addr} {c:Nat} {ws:List Nat} (h:OwnL base e W p c (ws.map fun d:Nat => Value.int k (d:Int))):NatsAt k W (.slice p ws.length c) ws:=by
  unfold OwnL at h
  rw [List.length_map] at h
  have hc:=fun g (hg:Value.ownBlock (.slice p ws.length c) = some g) => World.ownsRow.cells h hg
  have hl:=World.ownsRow.lt h
  rcases h.2 with ⟨h1,h2⟩ | ⟨g,cap,cur,hv,hg,hh,h5,h6,_⟩
  · simp at h2;subst h2;exact .inl ⟨h1,rfl⟩
  · injection hv with hv1 hv2 hv3
    subst hv1 hv3
    refine .inr ⟨g,0,c,rfl,(hl g rfl).2,h5,h6,fun j hj => ?_⟩
    have:=hc g rfl j (.int k (ws[j]?.getD 0:Nat)) (by simp [hj])
    rwa [addr_add] at this
def OwnN (k:IntKind) (base e:Nat) (W:World) (p:Option Addr) (c:Nat) (ws:List Nat):Prop:=OwnL base e W p c (ws.map fun d:Nat => Value.int k (d:Int))
theorem OwnN.nil (k:IntKind) (base e:Nat) (W:World):OwnN k base e W none 0 []:=OwnL.nil _ _ _
theorem OwnN.keep {k:IntKind} {base e:Nat} {W W':World} {p:Option Addr} {c:Nat} {ws:List Nat} (h:OwnN k base e W p c ws) (hb:Below W.heap.size W W'):OwnN k base e W' p c ws:=OwnL.keep h hb
theorem OwnN.nats {k:IntKind} {base e:Nat} {W:World} {p:Option Addr} {c:Nat} {ws:List Nat} (h:OwnN k base e W p c ws):NatsAt k W (.slice p ws.length c) ws:=NatsAt.of_own h
theorem wpList_appN {P : Program} {ops : Array Oper} {rest : List Oper} {o : Oper} {a : Act} {Q : Exit → Act → World → Prop} (hgd : o.guard = none) (s x : Operand) (t : TypeId)
    (ho:o.op = .call { callee:=.builtin .append,args:=#[s,x],argTypes:=#[t,t] })
    (k:IntKind) (base e:Nat) (i:TypeInfo) (z:Value) (bytes:Nat) (ht:P.underlying t = some (.slice e)) (hi:P.info? e = some i) (hz:i.zero = some z)
    (hsize:i.size = 1) (hby:i.bytes = bytes) (hzs:z.cells.size = 1) (hbs:bytes ≤ 16)
    (p:Option Addr) (c:Nat) (ws:List Nat) (W:World) (d:Nat) (y:Int) (hy:y = (d:Int)) (hs:a.eval s = .slice p ws.length c) (hown:OwnN k base e W p c ws)
    (hx:a.eval x = .slice (some ⟨W.heap.size,0,none⟩) 1 1)
    (hn:ws.length < 1000000000) (hbase:base ≤ W.heap.size)
    (h:∀ p' c' w',OwnN k base e w' p' c' (ws ++ [d]) → Below base W w' → wpList P ops Q rest (a.put o.dst (.slice p' (ws.length + 1) c')) w') :
    wpList P ops Q (o :: rest) a (W.alloc (.cells #[.int k y] e)):=by
  subst hy
  refine wpList_app1 hgd s x t ho base e i z bytes ht hi hz hsize hby hzs hbs p c (ws.map fun d:Nat => Value.int k (d:Int)) W (.int k (d:Int)) (by rw [List.length_map];exact hs) hown hx rfl (by simpa using hn) hbase ?_
  intro p' c' w' h1 h2
  rw [List.length_map]
  exact h p' c' w' (by unfold OwnN;rw [List.map_append];exact h1) h2
theorem conv_nats {P : Program} (src dst e : TypeId) (hs : P.underlying src = some (.slice e)) (he : P.underlying e = some (.int .u8)) (hd : P.underlying dst = some .string)
    (w:World) (p:Option Addr) (c:Nat) (l:Txt) (h:NatsAt .u8 w (.slice p l.length c) (l.map (·.toNat))) (h0:l ≠ []) :
    (convert src dst (.slice p l.length c)).run P w = .ok (.string ⟨l.toArray⟩) w:=by
  rcases h with ⟨h1,h2⟩ | ⟨b,o,c',h1,h2,h3,h4,h5⟩
  · simp at h2;exact absurd h2 h0
  · injection h1 with h6 h7 h8
    subst h6 h8
    have:=conv_str (P:=P) src dst e hs he hd w ⟨b,o,none⟩ c (l.map fun x => (x.toNat:Int)) (by
      intro j v hv
      simp at hv
      obtain ⟨x,hx,rfl⟩:=hv
      have hj:j < l.length:=(List.getElem?_eq_some_iff.1 hx).1
      have:=h5 j (by simpa using hj)
      rw [addr_add,this];simp [hx])
    rw [List.length_map] at this
    rw [this]
    congr 4
    rw [List.map_map]
    conv => rhs;rw [← List.map_id l]
    apply List.map_congr_left
    intro x _
    simp
theorem NatsAt.cell {k:IntKind} {W:World} {b o c n:Nat} {ws:List Nat} (h:NatsAt k W (.slice (some ⟨b,o,none⟩) n c) ws):b < W.heap.size ∧ n = ws.length ∧ ∀ j,j < ws.length → W.cell? ⟨b,o + j,none⟩ = some (.int k (ws[j]?.getD 0:Nat)):=by
  rcases h with ⟨h1,h2⟩ | ⟨b,o,c',h1,h2,h3,h4,h5⟩
  · cases h1
  · injection h1 with h6 h7 h8
    injection h6 with h6;injection h6 with h9 h10 _
    subst h7 h9 h10
    exact ⟨h2,rfl,h5⟩
theorem NatsAt.some {k:IntKind} {W:World} {p:Option Addr} {c n:Nat} {ws:List Nat} (h:NatsAt k W (.slice p n c) ws) (h0:0 < ws.length):∃ b o,p = Option.some ⟨b,o,none⟩:=by
  rcases h with ⟨h1,h2⟩ | ⟨b,o,c',h1,_⟩
  · subst h2;simp at h0
  · injection h1 with h6 h7 h8
    exact ⟨b,o,h6⟩
theorem word_at (b:Nat) (hb:0 < b) (ws:List Nat) (h:∀ d ∈ ws,d < b) (j:Nat):ws[j]?.getD 0 = mv b ws / b ^ j % b:=by
  rw [← mv_getD b hb ws h j,List.getD_eq_getElem?_getD]
theorem word_beyond (b n j k:Nat) (h:n < b ^ j) (hk:j ≤ k) (hb:0 < b):n / b ^ k % b = 0:=by
  rw [Nat.div_eq_of_lt (Nat.lt_of_lt_of_le h (Nat.pow_le_pow_right hb hk))];simp
def RowN (k:IntKind) (e:TypeId) (W:World) (g:Nat) (ws:List Nat):Prop:=W.heap[g]? = some (.cells (ws.map fun d:Nat => Value.int k (d:Int)).toArray e (0,0))
theorem RowN.lt {k:IntKind} {e:TypeId} {W:World} {g:Nat} {ws:List Nat} (h:RowN k e W g ws):g < W.heap.size:=(Array.getElem?_eq_some_iff.1 h).1
theorem RowN.cell {k:IntKind} {e:TypeId} {W:World} {g:Nat} {ws:List Nat} (h:RowN k e W g ws) (j:Nat) (hj:j < ws.length):W.cell? ⟨g,j,none⟩ = some (.int k (ws[j]?.getD 0:Nat)):=by
  rw [cell_of_row W g j _ e (0,0) h];simp [hj]
theorem RowN.frozen {k:IntKind} {e:TypeId} {W:World} {g:Nat} {ws:List Nat} (h:RowN k e W g ws) (j:Nat):W.frozen? ⟨g,j,none⟩ = false:=by
  unfold RowN at h;simp [World.frozen?,h]
theorem RowN.set {k:IntKind} {e:TypeId} {W:World} {g:Nat} {ws:List Nat} (h:RowN k e W g ws) (j d:Nat):RowN k e (W.setCell ⟨g,j,none⟩ (.int k (d:Int))) g (ws.set j d):=by
  unfold RowN at *
  simp only [World.setCell,Array.getElem?_modify,if_true,h,Option.map_some]
  simp [List.map_set]
theorem RowN.keep {k:IntKind} {e:TypeId} {W W':World} {g:Nat} {ws:List Nat} (h:RowN k e W g ws) (hb:Below W.heap.size W W'):RowN k e W' g ws:=by
  unfold RowN at *;rw [hb.block g (Array.getElem?_eq_some_iff.1 h).1];exact h
theorem RowN.drewN {k:IntKind} {e:TypeId} {W:World} {g:Nat} {ws:List Nat} (h:RowN k e W g ws) (n:Nat):RowN k e (W.drewN n) g ws:=h
theorem RowN.nats {k:IntKind} {e:TypeId} {W:World} {g:Nat} {ws:List Nat} (h:RowN k e W g ws) (hl:ws.length ≤ maxLen):NatsAt k W (.slice (Option.some ⟨g,0,none⟩) ws.length ws.length) ws :=
  .inr ⟨g,0,ws.length,rfl,h.lt,Nat.le_refl _,hl,fun j hj => by rw [Nat.zero_add];exact h.cell j hj⟩
theorem madeCells_one (v:Value) (n:Nat):(madeCells #[v] n).toList = List.replicate n v:=by
  apply List.ext_getElem
  · simp [madeCells]
  · intro i h1 h2
    simp [madeCells,Nat.mod_one]
theorem wpList_makeN {P : Program} (w : World) {ops : Array Oper} {rest : List Oper} {o : Oper} {a : Act} {Q : Exit → Act → World → Prop}
    (hg:o.guard = none) (l c:Operand) (t:TypeId) (hop:o.op = Op.makeSlice t l c)
    (k:IntKind) (base:Nat) (e:TypeId) (i:TypeInfo) (h1:P.underlying t = some (.slice e)) (h2:P.info? e = some i) (h3:i.zero = some (.int k 0)) (h4:i.size = 1) (h5:i.bytes ≤ 16)
    (kl kc:IntKind) (L C:Int) (n:Nat) (hl:a.eval l = .int kl L) (hc:a.eval c = .int kc C) (hL:L = (n:Int)) (hC:C = (n:Int)) (hn:n ≤ 1000000000) (b4:base ≤ w.heap.size)
    (hK:∀ w',RowN k e w' w.heap.size (List.replicate n 0) → Below base w w' → w.heap.size < w'.heap.size → wpList P ops Q rest (a.put o.dst (.slice (Option.some ⟨w.heap.size,0,none⟩) n n)) w') :
    wpList P ops Q (o :: rest) a w:=by
  refine wpList_make_full w hg l c t hop base e i (.int k 0) 1 h1 h2 h3 h4 kl kc L C n hl hc hL hC ?_ (by unfold maxLen;omega) b4 ?_
  · have:i.bytes * n ≤ 16 * 1000000000:=Nat.mul_le_mul h5 hn
    omega
  · intro w' hown hgrow
    have hrow:RowN k e w' w.heap.size (List.replicate n 0):=by
      rcases hown.2 with ⟨h6,_⟩ | ⟨g,cap,cur,hv,_,hh,_,_,hsz,htk⟩
      · cases h6
      · injection hv with hv1 hv2 hv3
        injection hv1 with hv1;injection hv1 with hv4 _ _
        subst hv4 hv3
        unfold RowN
        rw [hh]
        have e1:cur.toList = List.replicate n (.int k 0):=by
          rw [List.take_of_length_le (by simp [hsz])] at htk
          rw [htk,Nat.mul_one];exact madeCells_one _ _
        have e2:cur = (List.replicate n (.int k 0):List Value).toArray:=by rw [← e1]
        rw [e2];simp
    exact hK w' hrow ((Below.refl base w).grown hgrow b4 (fun k hk => by cases hk)) hrow.lt
end Lum
set_option maxRecDepth 100000
set_option maxHeartbeats 2000000
namespace Lum
open Go Go.RowKit Go.Shelf
def dnF (n k:Nat):List (Fin n):=(List.finRange n).reverse.take k
theorem dnF_succ (n k:Nat) (h:k < n):dnF n (k + 1) = dnF n k ++ [⟨n - 1 - k,by omega⟩]:=by
  unfold dnF
  rw [List.take_succ_eq_append_getElem (by simpa using h)]
  congr 1
  simp [List.getElem_reverse]
theorem dnF_length (n k:Nat) (h:k ≤ n):(dnF n k).length = k:=by simp [dnF];omega
theorem dnF_zero (n:Nat):dnF n 0 = []:=by simp [dnF]
theorem dnF_snoc {n:Nat} {pre:List (Fin n)} {x:Fin n} (h:pre ++ [x] = dnF n (pre.length + 1)) (hl:pre.length < n):pre = dnF n pre.length ∧ x.1 + pre.length + 1 = n:=by
  rw [dnF_succ n _ hl] at h
  obtain ⟨h1,h2⟩:=List.append_inj' h rfl
  refine ⟨h1,?_⟩
  have:x = ⟨n - 1 - pre.length,by omega⟩:=by simpa using h2
  rw [this];simp;omega
def KeepB (n₀ Bs:Nat) (W W':World):Prop:=Below n₀ W W' ∧ W'.heap[Bs]? = W.heap[Bs]?
theorem KeepB.refl (n₀ Bs:Nat) (W:World):KeepB n₀ Bs W W:=⟨Below.refl _ _,rfl⟩
theorem KeepB.t {n₀ Bs:Nat} {A B C:World} (h:KeepB n₀ Bs A B) (k:KeepB n₀ Bs B C):KeepB n₀ Bs A C:=⟨h.1.trans k.1,k.2.trans h.2⟩
theorem KeepB.b {n₀ Bs:Nat} {w:World} (hn:n₀ ≤ w.heap.size) (hB:Bs < w.heap.size) (W:World) (l:Nat) (o o':Obj) (hl:w.heap.size ≤ l) (h:W.heap[l]? = some o) (h1:o.isCells = false) (h2:o.isWalk = false):KeepB n₀ Bs W (W.putObj l o') :=
  ⟨belowK_b hn W l o o' hl h h1 h2,World.putObj_heap_other (by omega)⟩
theorem KeepB.setCell {n₀ Bs:Nat} {W0 W:World} (h:KeepB n₀ Bs W0 W) {p:Addr} (hp:n₀ ≤ p.block) (hne:Bs ≠ p.block) (u:Value):KeepB n₀ Bs W0 (W.setCell p u) :=
  ⟨h.1.setCell hp u,(Below.heap_setCell _ _ _ _ hne).trans h.2⟩
theorem KeepB.below {n₀ Bs m:Nat} {W0 W W':World} (h:KeepB n₀ Bs W0 W) (hb:Below m W W') (hn:n₀ ≤ m) (hB:Bs < m):KeepB n₀ Bs W0 W' :=
  ⟨h.1.trans (hb.mono hn),(hb.block _ hB).trans h.2⟩
theorem KeepB.alloc {n₀ Bs:Nat} {W0 W:World} (h:KeepB n₀ Bs W0 W) (o:Obj) (hn:n₀ ≤ W.heap.size) (hB:Bs < W.heap.size):KeepB n₀ Bs W0 (W.alloc o) :=
  h.below ((Below.refl W.heap.size W).alloc (Nat.le_refl _) o) hn hB
def wAt (ws:List Nat) (i:Fin ws.length):Nat:=ws[i.1]?.getD 0
end Lum
namespace Go.Proofs.YtmjkenlifgmeeaaGreatDoor
open Go.RowKit Go.Shelf Lum
attribute [local go_sem] Oper.semAt_some
theorem down1_in (F : Fence) (n : Nat) (hf : F.fn 190) (hro : F.round = none) (hn : 1 ≤ n) (l Bs n₀ b off cap : Nat) (ws : List Nat) (hlen : ws.length ≤ 1000000000) (hb : b < n₀) (J Jx : List (Fin ws.length) → World → Prop)
    (hY:∀ pre x W,J pre W → pre.length < ws.length → YieldAt F (n - 1) Tryz.prog l #[.int .i64 (x.1:Int),.int .u64 (wAt ws x:Int)] W fun e W' =>
      (e = .returned (.bool true) ∧ J (pre ++ [x]) W' ∧ KeepB n₀ Bs W W') ∨ (e = .returned (.bool false) ∧ Jx (pre ++ [x]) W'))
    (W:World) (hBs:Boxed W Bs 167 (.slice (some ⟨b,off,none⟩) ws.length cap)) (hc:∀ j,j < ws.length → W.cell? ⟨b,off + j,none⟩ = some (.int .u64 (ws[j]?.getD 0:Nat))) (h0:J [] W) :
    CallsIn F n Tryz.prog 190 #[.func (.yield l) #[] #[], .pointer (some ⟨Bs, 0, none⟩)] W fun e W' => (∃ v, e = .returned v) ∧
      ((∃ ys,ys = dnF ws.length ws.length ∧ J ys W') ∨ (∃ pre,(∃ k,k ≤ ws.length ∧ pre = dnF ws.length k) ∧ Jx pre W')):=by
  refine callsIn_of_wp Tryz.func190 rfl hf ?_ hro
  simp only [Tryz.ntmps190,List.size_toArray,List.length_cons,List.length_nil,Nat.reduceAdd,Nat.reduceSub,Array.replicate_succ,Array.replicate_zero,List.push_toArray,List.append_toArray,List.nil_append,List.cons_append]
  have hBc:=hBs.cell
  gi_wp2
  gi_loopw [3] (fun i wr => ∃ k r : Nat, Hid (k + r = ws.length) ∧ i = .int .i64 ((r : Int) - 1) ∧ J (dnF ws.length k) wr ∧ KeepB n₀ Bs W wr)
    (fun i _ => (intOf i + 1).toNat)
  case atStart => exact ⟨0,ws.length,Lib.hid (by omega),rfl,h0,KeepB.refl _ _ _⟩
  case round =>
    obtain ⟨k,r,hk,rfl,hJs,hnx⟩:=hrel
    cases r with
    | zero =>
      have hkl:k = ws.length:=hk.out
      have e:((0:Nat):Int) - 1 = -1:=rfl
      rw [e]
      gi_wp2
      go_end0
      exact ⟨⟨_,rfl⟩,.inl ⟨_,rfl,hkl ▸ hJs⟩⟩
    | succ m =>
      have hm:m < ws.length:=by have:=hk.out;omega
      have e:((m + 1:Nat):Int) - 1 = m:=by omega
      rw [e]
      have hcx:wr.cell? ⟨b,off + m,none⟩ = some (.int .u64 (ws[m]?.getD 0:Nat)):=(hnx.1.cell (p:=⟨b,off + m,none⟩) hb).trans (hc m hm)
      have hbx:wr.cell? ⟨Bs,0,none⟩ = some (.slice (some ⟨b,off,none⟩) ws.length cap):=Boxed.cell (hnx.2.trans hBs)
      have hsn:dnF ws.length (k + 1) = dnF ws.length k ++ [⟨m,hm⟩]:=by
        rw [dnF_succ _ _ (by have:=hk.out;omega)];congr 3;have:=hk.out;omega
      obtain ⟨fn,tmps,assign,body,hy,hR⟩:=hY _ ⟨m,hm⟩ wr hJs (by rw [dnF_length _ _ (by have:=hk.out;omega)];have:=hk.out;omega)
      dsimp only at hy
      change wr.cell? _ = some (.int .u64 (wAt ws ⟨m,hm⟩:Nat)) at hcx
      generalize wAt ws ⟨m,hm⟩ = x at *
      have HSN:=Lib.hid hsn;clear hsn
      gi_wp2
      refine hR.mono ?_
      rintro e W3 (⟨rfl,hJ3,hk3⟩ | ⟨rfl,hJx3⟩)
      · gi_wp2
        go_roundw
        case rel => exact ⟨k + 1,m,Lib.hid (by have:=hk.out;omega),rfl,by rw [HSN.out];exact hJ3,hnx.t hk3⟩
        case measure => simp [intOf]
      · gi_wp2
        refine bodyPost_ret (results_none rfl _ _ _) rfl ?_
        exact ⟨⟨_,rfl⟩,.inr ⟨_,⟨k + 1,by have:=hk.out;omega,HSN.out.symm⟩,hJx3⟩⟩
theorem down1_nil_in (F : Fence) (n : Nat) (hf : F.fn 190) (hro : F.round = none) (l Bs : Nat) (J : List (Fin 0) → World → Prop) (W : World) (hBs' : Boxed W Bs 167 (.slice none 0 0)) (h0 : J [] W) :
    CallsIn F n Tryz.prog 190 #[.func (.yield l) #[] #[],.pointer (some ⟨Bs,0,none⟩)] W fun e W' => (∃ v,e = .returned v) ∧ J [] W':=by
  refine callsIn_of_wp Tryz.func190 rfl hf ?_ hro
  simp only [Tryz.ntmps190,List.size_toArray,List.length_cons,List.length_nil,Nat.reduceAdd,Nat.reduceSub,Array.replicate_succ,Array.replicate_zero,List.push_toArray,List.append_toArray,List.nil_append,List.cons_append]
  have hBs:=hBs'.cell
  gi_wp2
  gi_loopw [3] (fun i wr => i = .int .i64 (-1) ∧ J [] wr) (fun _ _ => 0)
  case atStart => exact ⟨rfl,h0⟩
  case round =>
    obtain ⟨rfl,hJs⟩:=hrel
    gi_wp2
    go_end0
    exact ⟨⟨_,rfl⟩,hJs⟩
theorem down_in (F : Fence) (n : Nat) (hf : F.fn 146) (hro : F.round = none) (a : Option Addr) (len cap : Nat) (w : World) :
    CallsIn F n Tryz.prog 146 #[.slice a len cap] w fun e w' => e = .returned (.func (.func 190) #[] #[.pointer (some ⟨w.heap.size,0,none⟩)]) ∧ w' = w.alloc (.cells #[.slice a len cap] 167):=by
  refine callsIn_of_wp Tryz.func146 rfl hf ?_ hro
  simp only [Tryz.ntmps146,List.size_toArray,List.length_cons,List.length_nil,Nat.reduceAdd,Nat.reduceSub,Array.replicate_succ,Array.replicate_zero,List.push_toArray,List.append_toArray,List.nil_append,List.cons_append]
  gi_wp2
  go_ret
  exact ⟨rfl,rfl⟩
theorem down_stops (F : Fence) (n : Nat) (hf : F.fn 190) (hro : F.round = none) (hn : 1 ≤ n) (Bs n₀ : Nat) (sv : Value) (ws : List Nat) (hlen : ws.length ≤ 1000000000) (w : World) (hn₀ : n₀ ≤ w.heap.size)
    (hc:Boxed w Bs 167 sv) (W0:World) (hI:NatsAt .u64 W0 sv ws) (hW0:W0.heap.size = n₀) (hb0:Below n₀ W0 w) :
    SeqStopsK F n Tryz.prog 190 #[.pointer (some ⟨Bs, 0, none⟩)] (fun x : Fin ws.length => #[Value.int .i64 (x.1 : Int), Value.int .u64 (wAt ws x : Int)]) (KeepB n₀ Bs) (fun ys => ys = dnF ws.length ws.length)
      (fun pre => ∃ k,k ≤ ws.length ∧ pre = dnF ws.length k) ws.length w:=fun l J Jx W hW _ _ hY h0 => by
  have hc':Boxed W Bs 167 sv:=(hW.block Bs hc.lt).trans hc
  have hbw:=hb0.trans (hW.mono hn₀)
  subst hW0
  rcases hI with ⟨rfl,rfl⟩ | ⟨b,off,cap,rfl,hb,h1,h2,hcs⟩
  · exact (down1_nil_in F n hf hro l Bs J W hc' h0).mono fun e W' ⟨he,hj⟩ => ⟨he,.inl ⟨_,rfl,hj⟩⟩
  · exact down1_in F n hf hro hn l Bs _ b off cap ws hlen hb J Jx hY W hc' (fun j hj => (hbw.cell (p:=⟨b,off + j,none⟩) hb).trans (hcs j hj)) h0
end Go.Proofs.YtmjkenlifgmeeaaGreatDoor
namespace Lum
open Go Go.RowKit Go.Shelf
def MagAt (W:World) (p:Option Addr) (n c:Nat) (m:Nat):Prop:=NatsAt .u64 W (.slice p n c) (magL m) ∧ n = (magL m).length
theorem MagAt.below {W W':World} {p:Option Addr} {n c m:Nat} (h:MagAt W p n c m) (hb:Below W.heap.size W W'):MagAt W' p n c m:=⟨h.1.below hb,h.2⟩
theorem MagAt.nil (W:World):MagAt W none 0 0 0:=⟨.inl ⟨rfl,magL_zero⟩,by rw [magL_zero];rfl⟩
theorem NatsAt.len {k:IntKind} {W:World} {p:Option Addr} {n c:Nat} {ws:List Nat} (h:NatsAt k W (.slice p n c) ws):n = ws.length ∧ n ≤ c:=by
  rcases h with ⟨h1,h2⟩ | ⟨b,o,c',h1,h2,h3,h4,h5⟩
  · injection h1 with h6 h7 h8
    subst h2;subst h7;subst h8;exact ⟨rfl,Nat.le_refl _⟩
  · injection h1 with h6 h7 h8
    subst h7;subst h8;exact ⟨rfl,h3⟩
theorem NatsAt.take {k:IntKind} {W:World} {p:Option Addr} {n c:Nat} {ws:List Nat} (h:NatsAt k W (.slice p n c) ws) (i:Nat) (hi:i ≤ n):NatsAt k W (.slice p i c) (ws.take i):=by
  have hl:=h.len.1
  rcases h with ⟨h1,h2⟩ | ⟨b,o,c',h1,h2,h3,h4,h5⟩
  · injection h1 with h6 h7 h8
    subst h2;subst h7;subst h6;subst h8
    obtain rfl:i = 0:=by omega
    exact .inl ⟨rfl,rfl⟩
  · injection h1 with h6 h7 h8
    subst h6;subst h8
    refine .inr ⟨b,o,c,?_,h2,?_,h4,?_⟩
    · rw [List.length_take,Nat.min_eq_left (by omega)]
    · rw [List.length_take];omega
    · intro j hj
      rw [List.length_take] at hj
      rw [h5 j (by omega),List.getElem?_take,if_pos (by omega)]
theorem wAt_getD (ws:List Nat) (i:Fin ws.length):wAt ws i = ws.getD i.1 0:=by unfold wAt;rw [List.getD_eq_getElem?_getD]
theorem mem_dnF {n k:Nat} (hk:k ≤ n) (i:Fin n):i ∈ dnF n k ↔ n - k ≤ i.1:=by
  unfold dnF
  rw [List.mem_take_iff_getElem]
  constructor
  · rintro ⟨j,hj,e⟩
    simp [List.getElem_reverse] at e hj
    rw [← e];simp;omega
  · intro h
    refine ⟨n - 1 - i.1,by simp;omega,?_⟩
    simp [List.getElem_reverse]
    apply Fin.ext;simp;omega
end Lum
namespace Go.Proofs.YtmjkenlifgmeeaaGreatDoor
open Go.RowKit Go.Shelf Lum
attribute [local go_sem] Oper.semAt_some
theorem cut_more (p : Option Addr) (c : Nat) (ws : List Nat) (w : World) (hI : NatsAt .u64 w (.slice p ws.length c) ws) (hw : ∀ d ∈ ws, d < B9) (hlen : ws.length ≤ 1000000000) :
    Calls Tryz.prog 197 #[.slice p ws.length c] w fun e W' => ∃ p' n' c',e = .returned (.slice p' n' c') ∧ MagAt W' p' n' c' (mv B9 ws) ∧ Below w.heap.size w W' ∧ (p' = p ∨ p' = none):=by
  have HI:=Lib.hid hI;clear hI
  have HW:=Lib.hid hw;clear hw
  refine (callsIn_wide (n:=5)).1 ?_
  refine callsIn_of_wp_marks Tryz.func197 rfl trivial ?_ rfl
  simp only [Tryz.ntmps197,List.size_toArray,List.length_cons,List.length_nil,Nat.reduceAdd,Nat.reduceSub,Array.replicate_succ,Array.replicate_zero,List.push_toArray,List.append_toArray,List.nil_append,List.cons_append]
  gi_wp2_with (refine ⟨trivial,?_⟩;gi_at_call 146;refine (down_in Fence.wide 4 trivial rfl _ _ _ _).mono ?_;rintro e w' ⟨rfl,rfl⟩)
  have cM:=Boxed.new w 167 (.slice p ws.length c)
  have cR:=Boxed.new (w.alloc (.cells #[.slice p ws.length c] 167)) 167 (.slice none 0 0)
  have cN:=Boxed.new ((w.alloc (.cells #[.slice p ws.length c] 167)).alloc (.cells #[.slice none 0 0] 167)) 167 (.slice p ws.length c)
  rw [World.size_alloc] at cR cN
  rw [World.size_alloc] at cN
  have hB0:Below w.heap.size w (((w.alloc (.cells #[.slice p ws.length c] 167)).alloc (.cells #[.slice none 0 0] 167)).alloc (.cells #[.slice p ws.length c] 167)):=(((Below.refl _ w).alloc (Nat.le_refl _) _).alloc (by simp) _).alloc (by simp;omega) _
  refine wpIn_rangeFunc_ownG (n := 5) rfl (by omega) (Kp := KeepB w.heap.size (w.heap.size + 1 + 1)) (gf := 190) (lb := #[.pointer (some ⟨w.heap.size + 1 + 1, 0, none⟩)]) rfl trivial (enters_of Tryz.func190 (by kernel_rfl) rfl)
    (down_stops Fence.wide 4 trivial rfl (by omega) (w.heap.size + 1 + 1) w.heap.size _ ws hlen _ (by simp;omega) cN w HI.out rfl hB0) KeepB.t (KeepB.b (by simp;omega) (by simp)) (Below.refl _ _) (fun _ => rfl)
    (fun pre W => ((∀ i ∈ pre,wAt ws i = 0) ∧ Boxed W w.heap.size 167 (.slice p ws.length c) ∧ Boxed W (w.heap.size + 1) 167 (.slice none 0 0)) ∧ Below w.heap.size w W)
    (fun cd pre W => (cd = .ret ∧ ∃ ini last,pre = ini ++ [last] ∧ (∀ i ∈ ini,wAt ws i = 0) ∧ wAt ws last ≠ 0 ∧ Boxed W (w.heap.size + 1) 167 (.slice p (last.1 + 1) c)) ∧ Below w.heap.size w W)
    (OwnFrom.and (Own.from (fun s A B row hs hg hr => ⟨hs.1,boxed_own _ _ (fun _:Unit => _) () A B row hs.2.1 hg hr,boxed_own _ _ (fun _:Unit => _) () A B row hs.2.2 hg hr⟩) _) (ownFrom_below (Nat.le_refl _) (by simp;omega)))
    (fun cd => OwnFrom.and (Own.from (fun s A B row hs hg hr => by obtain ⟨hc,ini,last,e1,e2,e3,e4⟩:=hs;exact ⟨hc,ini,last,e1,e2,e3,boxed_own _ _ (fun _:Unit => _) () A B row e4 hg hr⟩) _) (ownFrom_below (Nat.le_refl _) (by simp;omega)))
    ⟨⟨by simp,(cM.alloc _).alloc _,cR.alloc _⟩,hB0⟩
    (fun x => { tmps:=#[.slice p ws.length c,.pointer (some ⟨w.heap.size,0,none⟩),.pointer (some ⟨w.heap.size + 1,0,none⟩),.int .i64 (x.1:Int),.int .u64 (wAt ws x:Int),.slice p ws.length c,.func (.func 190) #[] #[.pointer (some ⟨w.heap.size + 1 + 1,0,none⟩)],.int .i64 (x.1:Int),.int .u64 (wAt ws x:Int),undef,undef,undef,undef,undef,undef],defers:=[] }) ?assign ?body ?done ?stop
  case assign =>
    intro l x W K hK
    gi_wp2
    exact hK
  case body =>
    rintro l pre x W ⟨⟨hp,bM,bR⟩,hB⟩ _
    have hMc:=bM.cell
    have hRc:=bR.cell
    have hRf:=bR.frozen
    have hx:=x.2
    have hcap:=HI.out.len.2
    obtain ⟨b,o,rfl⟩:∃ b o,p = some ⟨b,o,none⟩:=HI.out.some (by omega)
    have HP:=Lib.hid hp;clear hp
    by_cases h0:wAt ws x = 0
    · have H0:=Lib.hid h0
      have h0':((wAt ws x:Int) != 0) = false:=by simp [h0]
      clear h0
      gi_wp2
      exact ⟨KeepsFrom.refl _ _,KeepB.refl _ _ _,⟨fun i hi => (List.mem_append.1 hi).elim (HP.out i) (fun e => by simp at e;subst e;exact H0.out),bM,bR⟩,hB⟩
    · have H0:=Lib.hid h0
      have h0':((wAt ws x:Int) != 0) = true:=by simpa using h0
      clear h0
      gi_wp2
      exact ⟨(KeepsOthers.setCell _ _ _).from _,⟨rfl,pre,x,rfl,HP.out,H0.out,bR.set _⟩,hB.setCell (p:=⟨w.heap.size + 1,0,none⟩) (by simp) _⟩
  case done =>
    rintro D ys W hD rfl ⟨⟨hne,bM,bR⟩,hB⟩ hK
    have hcr:=bR.cell
    have hfr:=bR.frozen
    have HN:=Lib.hid hne;clear hne
    gi_wp2
    have hK':=(KeepsOthers.setCell W ⟨w.heap.size + 1,0,none⟩ (.slice none 0 0)).same D _ hK rfl
    refine ⟨by simp,.inl ⟨_,_,rfl,run_takeDeferred hK',?_⟩⟩
    have hc5:=cell_kept (bR.set (.slice none 0 0)).cell (grownBy_putObj' _ D (.deferred none)) (fun r e => by cases e;exact ⟨_,hK',rfl⟩)
    refine ⟨.slice none 0 0,?_,none,0,0,rfl,?_,(hB.setCell (p:=⟨w.heap.size + 1,0,none⟩) (by simp) _).trans (belowK_b (w:=w) (Nat.le_refl _) _ D _ _ (by simp at hD;omega) hK' rfl rfl),.inr rfl⟩
    · simp [results,Tryz.f197,go_sem,hc5]
    · have:mv B9 ws = 0:=by
        have h:=cut_at ws HW.out 0 (Nat.zero_le _) (fun i _ hi => by
          have:=HN.out ⟨i,hi⟩ ((mem_dnF (Nat.le_refl _) _).2 (by omega));rwa [wAt_getD] at this) (.inl rfl)
        rw [← mv_magL (mv B9 ws),h];rfl
      rw [this];exact MagAt.nil _
  case stop =>
    rintro D cd pre W hD ⟨k,hk,rfl⟩ ⟨⟨rfl,ini,last,e1,e2,e3,bR⟩,hB⟩ hK
    have hcr:=bR.cell
    have HE1:=Lib.hid e1
    have HE2:=Lib.hid e2
    have HE3:=Lib.hid e3
    clear e1 e2 e3
    gi_wp2
    refine ⟨by simp,.inl ⟨_,_,rfl,run_takeDeferred hK,?_⟩⟩
    have hc5:=cell_kept hcr (grownBy_putObj' _ D (.deferred none)) (fun r e => by cases e;exact ⟨_,hK,rfl⟩)
    have hBW:=hB.trans (belowK_b (w:=w) (Nat.le_refl _) W D _ (.deferred none) (by simp at hD;omega) hK rfl rfl)
    refine ⟨.slice p (last.1 + 1) c,?_,p,last.1 + 1,c,rfl,?_,hBW,.inl rfl⟩
    · simp [results,Tryz.f197,go_sem,hc5]
    · obtain ⟨k',rfl⟩:∃ k',k = k' + 1:=by
        cases k with
        | zero => have:=HE1.out;simp [dnF] at this
        | succ k' => exact ⟨k',rfl⟩
      have e1:=HE1.out
      rw [dnF_succ _ _ (by omega)] at e1
      obtain ⟨rfl,e5⟩:=List.append_inj' e1 rfl
      have hlast:last = ⟨ws.length - 1 - k',by omega⟩:=by simpa using e5.symm
      have hl1:last.1 = ws.length - 1 - k':=by rw [hlast]
      have hcut:=cut_at ws HW.out (last.1 + 1) (by omega) (fun i h1 h2 => by
        have:=HE2.out ⟨i,h2⟩ ((mem_dnF (by omega) _).2 (by simp;omega));rwa [wAt_getD] at this)
        (.inr (by have:=HE3.out;rw [wAt_getD] at this;simpa using this))
      refine ⟨?_,?_⟩
      · rw [hcut];exact (HI.out.below hBW).take _ (by omega)
      · rw [hcut,List.length_take];omega
theorem cut_any (p : Option Addr) (c : Nat) (ws : List Nat) (w : World) (hI : NatsAt .u64 w (.slice p ws.length c) ws) (hw : ∀ d ∈ ws, d < B9) (hlen : ws.length ≤ 1000000000) :
    Calls Tryz.prog 197 #[.slice p ws.length c] w fun e W' => ∃ p' n' c',e = .returned (.slice p' n' c') ∧ MagAt W' p' n' c' (mv B9 ws) ∧ Below w.heap.size w W' :=
  (cut_more p c ws w hI hw hlen).mono fun e W' ⟨p',n',c',h1,h2,h3,_⟩ => ⟨p',n',c',h1,h2,h3⟩
end Go.Proofs.YtmjkenlifgmeeaaGreatDoor

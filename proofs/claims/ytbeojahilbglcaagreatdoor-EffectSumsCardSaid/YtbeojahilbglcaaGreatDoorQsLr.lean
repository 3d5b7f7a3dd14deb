/-
  
-/
import Derived.Test.YtbeojahilbglcaaGreatDoorQsYs
import Derived.Test.YtbeojahilbglcaaGreatDoorQsYi
import Derived.Laws.AppendOwnNone
import Derived.Outline
import Derived.Lib.SliceRun
import Derived.WalkSpells
import Derived.Laws.AppendOwn
import Derived.Deep.RegionHeld3
set_option linter.unusedVariables false
set_option linter.unusedSimpArgs false
namespace Lum
open Go Go.RowKit Go.Shelf
open Go.Lib (decDigits itoa)
theorem wpList_appE {β : Type} {enc : β → List Value} {k : Nat} {P : Program} {ops : Array Oper} {rest : List Oper} {o : Oper} {a : Act} {Q : Exit → Act → World → Prop} (hgd : o.guard = none) (s x : Operand) (t : TypeId)
    (ho:o.op = .call { callee:=.builtin .append,args:=#[s,x],argTypes:=#[t,t] })
    (base:Nat) (e:TypeId) (i:TypeInfo) (z:Value) (bytes:Nat) (ht:P.underlying t = some (.slice e)) (hi:P.info? e = some i) (hz:i.zero = some z)
    (hsize:i.size = k) (hby:i.bytes = bytes) (hzs:z.cells.size = k) (hbs:bytes ≤ 64) (hk0:0 < k)
    (p:Option Addr) (c n:Nat) (l:List β) (hnl:n = l.length) (hl0:l ≠ []) (W:World) (q:Option Addr) (c2:Nat)
    (hs:a.eval s = .slice p n c) (hown:OwnR enc k base e W p c l)
    (hx:a.eval x = .slice q 0 c2) (hq:q = none → c2 = 0)
    (hn:l.length < 1000000000) (hbase:base ≤ W.heap.size)
    (h:∀ p' c' w',OwnR enc k base e w' p' c' l → Below base W w' → wpList P ops Q rest (a.put o.dst (.slice p' n c')) w') :
    wpList P ops Q (o :: rest) a W:=by
  subst hnl
  cases q with
  | none =>
    obtain rfl:=hq rfl
    exact wpList_append_own_none hgd s x t ho base e i k ht hi _ _ _ hs hown hx (h _ _ _ hown (Below.refl _ _))
  | some ad =>
    refine wpList_append_own _ hgd s x t ho base e i z k bytes ht hi hz hsize hby hzs hk0 _ _ _ hs hown ad 0 c2 [] hx (by simp) (fun j u hu => by simp at hu) (fun u hu => by simp at hu) (by unfold maxLen;omega) ?_ hbase ?_
    · have:(l.length + 0) * bytes ≤ 1000000001 * 64:=Nat.mul_le_mul (by omega) hbs
      omega
    · intro v' w' hown' hgrow _
      rw [Nat.add_zero,List.append_nil] at hown'
      obtain ⟨p',c',rfl⟩:∃ p' c',v' = .slice p' l.length c':=by
        rcases hown'.2 with ⟨rfl,h2⟩ | ⟨g,cap,cur,rfl,_⟩
        · exact absurd (List.length_eq_zero_iff.1 h2) hl0
        · exact ⟨_,_,rfl⟩
      refine h p' c' w' hown' ?_
      refine (Below.refl base W).grown hgrow hbase ?_
      intro k hk
      cases p with
      | none => simp [Value.ownBlock] at hk
      | some ad => simp [Value.ownBlock] at hk;subst hk;exact (hown.lt ad rfl).1
theorem wpList_appM {β : Type} {enc : β → List Value} {k : Nat} {P : Program} {ops : Array Oper} {rest : List Oper} {o : Oper} {a : Act} {Q : Exit → Act → World → Prop} (hgd : o.guard = none) (s x : Operand) (t : TypeId)
    (ho:o.op = .call { callee:=.builtin .append,args:=#[s,x],argTypes:=#[t,t] })
    (base:Nat) (e:TypeId) (i:TypeInfo) (z:Value) (bytes:Nat) (ht:P.underlying t = some (.slice e)) (hi:P.info? e = some i) (hz:i.zero = some z)
    (hsize:i.size = k) (hby:i.bytes = bytes) (hzs:z.cells.size = k) (hbs:bytes ≤ 64) (hk0:0 < k)
    (p:Option Addr) (c n:Nat) (l:List β) (hnl:n = l.length) (W:World) (ys:List β) (m:Nat) (hm:m = ys.length) (b off c2:Nat) (hk:∀ x,(enc x).length = k) (hcell:∀ j u,(ys.flatMap enc)[j]? = some u → W.cell? ⟨b,off + j,none⟩ = some u) (h1:∀ y ∈ ys,∀ u ∈ enc y,u.oneCell' = true)
    (hs:a.eval s = .slice p n c) (hown:OwnR enc k base e W p c l)
    (hx:a.eval x = .slice (some ⟨b,off,none⟩) m c2)
    (hn:l.length + ys.length < 1000000000) (hbase:base ≤ W.heap.size)
    (h:∀ p' c' w',OwnR enc k base e w' p' c' (l ++ ys) → Below base W w' → wpList P ops Q rest (a.put o.dst (.slice p' (n + m) c')) w') :
    wpList P ops Q (o :: rest) a W:=by
  subst hm
  exact wpList_appL hgd s x t ho base e i z bytes ht hi hz hsize hby hzs hbs hk0 p c n l hnl W ys b off c2 hk hcell h1 hs hown hx hn hbase h
def SlOk (v:Value):Prop:=∃ p n c,v = .slice p n c ∧ n ≤ c ∧ (p = none → c = 0)
end Lum
namespace Go.Proofs.YtbeojahilbglcaaGreatDoor
open Go.RowKit Go.Shelf Lum
open Go.Lib (decDigits itoa)
attribute [local go_sem] bs_get bs_extract_end bs_extract_from bs_extract bs_append
end Go.Proofs.YtbeojahilbglcaaGreatDoor
namespace Lum
open Go Go.RowKit Go.Shelf
open Go.Lib (decDigits itoa)
theorem step_append_run {P : Program} {ops : Array Oper} {o : Oper} {a : Act} {w : World} {K : Act → World → Prop} {Q : Exit → Act → World → Prop} {E : Prop}
    (hg:o.guard = none) (s x:Operand) (t:TypeId) (hop:o.op = Op.call { callee:=Callee.builtin Builtin.append,args:=#[s,x],argTypes:=#[t,t] })
    (v u:Value) (hs:a.eval s = v) (hx:a.eval x = u) {v':Value} {w':World} (hr:(Builtin.append_ #[t,t] o.type #[v,u]).run P w = .ok v' w') (hK:K (a.put o.dst v') w') :
    if Region.wanted o (yielded ops a.tmps) = true then Oper.wp P o a w K Q else E:=by
  have hw:Region.wanted o (yielded ops a.tmps) = true:=by simp [Region.wanted,hg]
  rw [if_pos hw]
  unfold Oper.wp execOp
  simp only [hop,resolve,invoke,builtin,Sem.run_bind,Sem.run_pure,Result.andThen_ok,List.map_toArray,List.map_cons,List.map_nil,hs,hx,hr]
  exact hK
def delL {α:Type} (l:List α) (i:Nat):List α:=l.take i ++ l.drop (i + 1)
def StpR (R:List Rnx) (n E:Int) (w:World) (e:Ending) (w':World):Prop:=∃ v,e = .returned (.tuple #[v,.bool (decide (E = 0) && (R.find? (fun x => x.ef == n)).isSome),.int .i64 E]) ∧ (E = 0 → RunsAt w' v (R.filter (fun x => x.ef != n))) ∧ (¬ E = 0 → v = .slice none 0 0) ∧ Below w.heap.size w w'
end Lum
namespace Go.Proofs.YtbeojahilbglcaaGreatDoor
open Go.RowKit Go.Shelf Lum
open Go.Lib (decDigits itoa)
attribute [local go_sem] bs_get bs_extract_end bs_extract_from bs_extract bs_append
end Go.Proofs.YtbeojahilbglcaaGreatDoor
namespace Go.Proofs.YtbeojahilbglcaaGreatDoor
open Go.RowKit Go.Shelf Lum
open Go.Lib (decDigits itoa)
attribute [local go_sem] bs_get bs_extract_end bs_extract_from bs_extract bs_append
end Go.Proofs.YtbeojahilbglcaaGreatDoor

/-
  Lists of cues: numbers of cues, what is right, how cues lie.
-/
import Derived.Test.YtikogofioggmlaaGreatDoorLa
import Derived.Lib.IndexMore
set_option linter.unusedVariables false
set_option linter.unusedSimpArgs false
namespace Lum
open Go Go.RowKit Go.Shelf
open Go.Lib (decDigits itoa)
/-- A number of a cue: what stands before and behind the first point. -/
def has5 (s : Txt) : Bool := s.contains 46
def pre5 (s : Txt) : Txt := s.takeWhile (· != 46)
def post5 (s : Txt) : Txt := (s.dropWhile (· != 46)).tail
theorem split5 : ∀ (s : Txt), has5 s = true → s = pre5 s ++ 46 :: post5 s
  | [], h => by cases h
  | c :: r, h => by
    by_cases hc : c = 46
    · subst hc; simp [pre5, post5]
    · have h1 : has5 r = true := by
        unfold has5 at h ⊢
        have h' : (46 : UInt8) ≠ c := fun e => hc e.symm
        simpa [h'] using h
      have ih := split5 r h1
      have e1 : pre5 (c :: r) = c :: pre5 r := by simp [pre5, hc]
      have e2 : post5 (c :: r) = post5 r := by simp [post5, hc]
      rw [e1, e2, List.cons_append, ← ih]
theorem pre5_no : ∀ {s : Txt}, has5 s = false → pre5 s = s
  | [], _ => rfl
  | c :: r, h => by
    have h' : (46 : UInt8) ≠ c ∧ has5 r = false := by
      unfold has5 at h ⊢
      by_cases hc : (46 : UInt8) = c
      · subst hc; simp at h
      · exact ⟨hc, by simpa [hc] using h⟩
    have hc : c ≠ 46 := fun e => h'.1 e.symm
    have e1 : pre5 (c :: r) = c :: pre5 r := by simp [pre5, hc]
    rw [e1, pre5_no h'.2]
theorem post5_no : ∀ {s : Txt}, has5 s = false → post5 s = []
  | [], _ => rfl
  | c :: r, h => by
    have h' : (46 : UInt8) ≠ c ∧ has5 r = false := by
      unfold has5 at h ⊢
      by_cases hc : (46 : UInt8) = c
      · subst hc; simp at h
      · exact ⟨hc, by simpa [hc] using h⟩
    have hc : c ≠ 46 := fun e => h'.1 e.symm
    have e1 : post5 (c :: r) = post5 r := by simp [post5, hc]
    rw [e1, post5_no h'.2]
theorem index5 (l : Txt) : Lib.index l [46] = if has5 l then ((pre5 l).length : Int) else -1 := by
  induction l with
  | nil => rfl
  | cons c r ih =>
    unfold Lib.index
    by_cases h : c = 46
    · subst h; simp [has5, pre5]
    · have h' : (46 : UInt8) ≠ c := fun e => h e.symm
      have e1 : has5 (c :: r) = has5 r := by simp [has5, h']
      have e2 : pre5 (c :: r) = c :: pre5 r := by simp [pre5, h]
      rw [ih, e1, e2]
      cases hs : has5 r <;> simp [h']
theorem cut5 (l : Txt) : Lib.cut l [46] = (pre5 l, post5 l, has5 l) := by
  unfold Lib.cut
  rw [index5]
  cases hs : has5 l with
  | false => simp [pre5_no hs, post5_no hs]
  | true =>
    simp only [if_true]
    rw [if_pos (by omega)]
    have e := split5 l hs
    have e3 : (([46] : Txt)).length = 1 := rfl
    rw [Int.toNat_natCast, e3]
    have t1 : l.take (pre5 l).length = pre5 l := by
      have := List.take_left (l₁ := pre5 l) (l₂ := 46 :: post5 l)
      rwa [← e] at this
    have t2 : l.drop ((pre5 l).length + 1) = post5 l := by
      have := List.drop_left (l₁ := pre5 l ++ [46]) (l₂ := post5 l)
      rw [List.append_assoc, List.singleton_append, ← e, List.length_append] at this
      exact this
    rw [t1, t2]
/-- A right number of a cue. -/
structure NumR (s : Txt) : Prop where
  d1 : (pre5 s).all isDig = true
  n1 : 0 < (pre5 s).length
  d2 : has5 s = true → (post5 s).all isDig = true
  n2 : has5 s = true → 0 < (post5 s).length
  z2 : has5 s = true → (post5 s).getLast? ≠ some 48
  z1 : ¬ (1 < (pre5 s).length ∧ (pre5 s).head? = some 48)
  ne : s ≠ [48]
  l1 : (pre5 s).length ≤ 4
  l2 : (post5 s).length ≤ 3
/-- Its digits, with three decimals, and its thousandths. -/
def dig5 (s : Txt) : Txt := pre5 s ++ (post5 s ++ [48, 48, 48]).take 3
def val5 (s : Txt) : Nat := natOf (dig5 s)
def LabR (s : Txt) : Prop := s.length ≤ 24 ∧ ∀ c ∈ s, 32 ≤ c.toNat ∧ c.toNat ≤ 126 ∧ c ≠ 34
structure MvsR (l : List Mv) : Prop where
  few : l.length ≤ 128
  par : ∀ m ∈ l, paE m.ch m.at_ = 0
  val : ∀ m ∈ l, valE m.pa m.lv = 0
  prt : ∀ m ∈ l, 1 ≤ m.pt ∧ m.pt ≤ 4
  asc : AscK Mv.ky l
def timR (t : Int) : Prop := 0 ≤ t ∧ t ≤ 10000000
structure TmR (t : Tm) : Prop where
  up : timR t.up
  dn : timR t.dn
  po : timR t.po
  co : timR t.co
  be : timR t.be
  de : timR t.de
structure PtsR (l : List Tm) : Prop where
  some_ : 0 < l.length
  few : l.length ≤ 4
  ok : ∀ t ∈ l, TmR t
structure NxtR (c : Cu) : Prop where
  fo : c.fo = -1 ∨ (25 ≤ c.fo ∧ c.fo ≤ 10000000)
  li : c.li ≠ [] → NumR c.li
  l0 : 0 ≤ c.lo
  l1 : c.lo ≤ 100
  use : 0 < c.lo → c.li ≠ []
structure CuR (c : Cu) : Prop where
  nu : NumR c.nu
  la : LabR c.la
  mv : MvsR c.mv
  pt : PtsR c.pt
  mp : ∀ m ∈ c.mv, m.pt ≤ (c.pt.length : Int)
  nx : NxtR c
structure LsR (n p : Int) (cs : List Cu) : Prop where
  n0 : 1 ≤ n
  n1 : n ≤ 1048576
  p0 : 0 ≤ p
  p1 : p ≤ 9
  few : cs.length ≤ 64
  ok : ∀ c ∈ cs, CuR c
  asc : ∀ i (h : i + 1 < cs.length), val5 (cs[i]'(Nat.lt_of_succ_lt h)).nu < val5 (cs[i + 1]'h).nu
/-- How they lie. -/
def encMv (m : Mv) : List Value := [.int .i64 m.ch, .int .i64 m.at_, .int .i64 m.pa, .int .i64 m.lv, .int .i64 m.pt]
def encTm (t : Tm) : List Value := [.int .i64 t.up, .int .i64 t.dn, .int .i64 t.po, .int .i64 t.co, .int .i64 t.be, .int .i64 t.de]
theorem encMv_len : ∀ x, (encMv x).length = 5 := fun _ => rfl
theorem encTm_len : ∀ x, (encTm x).length = 6 := fun _ => rfl
/-- A cue, and where its slices lie. -/
structure CuL where
  c : Cu
  pm : Option Addr
  cm : Nat
  pp : Option Addr
  cp : Nat
instance : Inhabited CuL := ⟨⟨default, none, 0, none, 0⟩⟩
def encCu (x : CuL) : List Value := [.string ⟨x.c.nu.toArray⟩, .string ⟨x.c.la.toArray⟩, .slice x.pm x.c.mv.length x.cm, .slice x.pp x.c.pt.length x.cp, .bool x.c.bl, .bool x.c.mk_, .int .i64 x.c.fo, .string ⟨x.c.li.toArray⟩, .int .i64 x.c.lo]
theorem encCu_len : ∀ x, (encCu x).length = 9 := fun _ => rfl
structure CuAt (W : World) (x : CuL) : Prop where
  m : RowX encMv 5 W x.pm x.c.mv
  p : RowX encTm 6 W x.pp x.c.pt
  k : x.c.mv.length ≤ x.cm
structure CusAt (W : World) (p : Option Addr) (L : List CuL) : Prop where
  r : RowX encCu 9 W p L
  a : ∀ x ∈ L, CuAt W x
theorem CuAt.kept {W W' : World} {x : CuL} (h : CuAt W x) (hb : Below W.heap.size W W') : CuAt W' x := ⟨h.m.kept hb, h.p.kept hb, h.k⟩
theorem CusAt.kept {W W' : World} {p : Option Addr} {L : List CuL} (h : CusAt W p L) (hb : Below W.heap.size W W') : CusAt W' p L := ⟨h.r.kept hb, fun x hx => (h.a x hx).kept hb⟩
end Lum

/-
  What the walks read of the library's variables; the library's contracts that the program uses, in this translation's numbers.
-/
import Derived.Test.YtikogofioggmlaaGreatDoorMb
import Derived.Test.YtikogofioggmlaaGreatDoorShelf
import Derived.WalkSmall
set_option linter.unusedVariables false
set_option linter.unusedSimpArgs false
namespace Lum
open Go Go.RowKit Go.Shelf
theorem below_cell {w w' : World} {b o : Nat} (h : Below w.heap.size w w') (hb : b < w.heap.size) : w'.cell? ⟨b, o, none⟩ = w.cell? ⟨b, o, none⟩ := h.cell (p := ⟨b, o, none⟩) hb
theorem grow_below {w w' : World} {k : Nat} {os : Array Obj} (h : w' = Go.Sort.grow (w.drewN k) os) : Below w.heap.size w w' := by
  subst h
  refine ⟨rfl, rfl, rfl, ?_, fun b hb => ?_⟩
  · simp [Go.Sort.grow]
  · simp [Go.Sort.grow, Array.getElem?_append, hb]
theorem hasPrefix_minus (l : Txt) : Lib.hasPrefix l [45] = minus l := by
  cases l with
  | nil => rfl
  | cons c r => simp [Lib.hasPrefix, minus, List.isPrefixOf]; rw [Bool.eq_iff_iff]; simp; exact eq_comm
theorem trimPrefix_minus (l : Txt) : Lib.trimPrefix l [45] = body l := by
  unfold Lib.trimPrefix
  rw [hasPrefix_minus]
  cases l with
  | nil => rfl
  | cons c r => unfold body minus; by_cases h : c = 45 <;> simp [h]
theorem dropWhile_nil (l : Txt) (p : UInt8 → Bool) : l.dropWhile p = [] ↔ l.all p = true := by
  induction l with
  | nil => simp
  | cons c r ih => by_cases h : p c <;> simp [List.dropWhile_cons, h, ih]
theorem trim_all (l cs : Txt) : Lib.trimS l cs = [] ↔ l.all (cs.contains ·) = true := by
  unfold Lib.trimS Lib.trimLeftS Lib.trimRightS
  rw [dropWhile_nil, List.all_reverse]
  constructor
  · intro h
    cases hd : l.reverse.dropWhile (cs.contains ·) with
    | nil => rw [dropWhile_nil, List.all_reverse] at hd; exact hd
    | cons c r =>
      have hc := List.head?_dropWhile_not (fun x => cs.contains x) l.reverse
      rw [hd] at hc h
      simp at hc h
      exact absurd h.1 hc
  · intro h
    have : l.reverse.dropWhile (cs.contains ·) = [] := by rw [dropWhile_nil, List.all_reverse]; exact h
    rw [this]; rfl
theorem digits_contains (c : UInt8) : ([48, 49, 50, 51, 52, 53, 54, 55, 56, 57] : Txt).contains c = isDig c := by
  rw [Bool.eq_iff_iff, isDig_iff]
  simp only [List.contains_iff_mem, List.mem_cons, List.not_mem_nil, or_false]
  have hk : ∀ d : UInt8, c = d ↔ c.toNat = d.toNat := fun d => ⟨fun h => by rw [h], UInt8.toNat.inj⟩
  simp only [hk]
  have : c.toNat < 256 := c.toNat_lt
  simp
  omega
theorem trim_digits (l : Txt) : Lib.trimS l [48, 49, 50, 51, 52, 53, 54, 55, 56, 57] = [] ↔ l.all isDig = true := by
  rw [trim_all]
  simp only [digits_contains]
theorem index_slash (l : Txt) : Lib.index l [47] = if hasSlash l then ((top l).length : Int) else -1 := by
  induction l with
  | nil => rfl
  | cons c r ih =>
    unfold Lib.index
    by_cases h : c = 47
    · subst h; simp [hasSlash, top]
    · have h' : (47 : UInt8) ≠ c := fun e => h e.symm
      have e1 : hasSlash (c :: r) = hasSlash r := by simp [hasSlash, h']
      have e2 : top (c :: r) = c :: top r := by simp [top, h]
      rw [ih, e1, e2]
      cases hs : hasSlash r <;> simp [h']
theorem cut_slash (l : Txt) : Lib.cut l [47] = if hasSlash l then (top l, bot l, true) else (l, [], false) := by
  unfold Lib.cut
  rw [index_slash]
  cases hs : hasSlash l with
  | false => simp
  | true =>
    simp only [if_true]
    rw [if_pos (by omega)]
    have e := split_slash l hs
    have e3 : (([47] : Txt)).length = 1 := rfl
    rw [Int.toNat_natCast, e3]
    have t1 : l.take (top l).length = top l := by
      have := List.take_left (l₁ := top l) (l₂ := 47 :: bot l)
      rwa [← e] at this
    have t2 : l.drop ((top l).length + 1) = bot l := by
      have := List.drop_left (l₁ := top l ++ [47]) (l₂ := bot l)
      rw [List.append_assoc, List.singleton_append, ← e, List.length_append] at this
      exact this
    rw [t1, t2]
end Lum
namespace Go.Proofs.YtikogofioggmlaaGreatDoor
open Go.RowKit Go.Shelf Lum

/-- The table of the powers of ten holds them; the number of package bytealg is a number. -/
structure Env (w : World) : Prop where
  tab : Lib.TabIs Tryz.prog w "internal/strconv.uint64pow10" .u64 Lib.pow10Tab
  len : ∃ m, w.cell? ⟨0, 0, none⟩ = some (.int .i64 m)
  l1 : 3 < w.heap.size
  l2 : 0 < w.heap.size
theorem named_pow : Tryz.prog.globalNamed "internal/strconv.uint64pow10" = some 3 := by kernel_rfl
theorem Env.below {w w' : World} (h : Env w) (hb : Below w.heap.size w w') : Env w' :=
  ⟨var?_below hb named_pow h.l1 h.tab, h.len.imp fun m hm => (below_cell hb h.l2).trans hm, Nat.lt_of_lt_of_le h.l1 hb.size, Nat.lt_of_lt_of_le h.l2 hb.size⟩

theorem sh_itoa (n : Int) (h0 : -9223372036854775808 ≤ n) (h1 : n ≤ 9223372036854775807) (w : World) (h : Env w) :
    Calls Tryz.prog 126 #[.int .i64 n] w fun e w' => e = .returned (.string ⟨(Go.Lib.itoa n).toArray⟩) ∧ Below w.heap.size w w' :=
  (Any.strconv_Itoa Tryz.laysM171 n h0 h1 w h.tab).mono fun e w' ⟨h1, k, os, h2⟩ => ⟨h1, grow_below h2⟩
theorem sh_cut (s sep : ByteArray) (w : World) (h : Env w) (hs : s.size < 4294967281) :
    Calls Tryz.prog 61 #[.string s, .string sep] w fun e w' => e = .returned (.tuple #[.string ⟨(Lib.cut s.data.toList sep.data.toList).1.toArray⟩, .string ⟨(Lib.cut s.data.toList sep.data.toList).2.1.toArray⟩, .bool (Lib.cut s.data.toList sep.data.toList).2.2]) ∧ Below w.heap.size w w' := by
  obtain ⟨m, hm⟩ := h.len
  exact (Any.strings_Cut Tryz.lays145 s sep m w hs hm).mono fun e w' ⟨h1, n, h2⟩ => ⟨h1, by subst h2; exact below_drewN (Below.refl _ w) n⟩
end Go.Proofs.YtikogofioggmlaaGreatDoor

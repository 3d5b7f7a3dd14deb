/-
  RatioBetween: the row.
-/
import Derived.Test.YtnjaikomoljmjaaGreatDoorLr9
import Derived.Test.YtnjaikomoljmjaaGreatDoorRow
set_option linter.unusedVariables false
set_option linter.unusedSimpArgs false
namespace Go.Proofs.YtnjaikomoljmjaaGreatDoor.ratioBetween
open Go.ChangeShapes Go.WideShapes Go.ChangeAt Go.RowKit Go.Joins Lum

set_option maxRecDepth 100000 in
theorem contract (H : Type) (enc : TypeId × Value → H) (W : World) (base : Nat) (args : Array Value) (ds gs : List (DataW H)) (before : List MemPlace)
    (hval : ∀ (j : Nat) t v, Tryz.f15.params[j]? = some t → args[j]? = some v → Value.okWide Tryz.prog W .any base t v)
    (hW : DataW.Whole enc Tryz.prog Tryz.f15.params.toList Rows.ratioBetweenSpec.vars false W args.toList ds gs before) (env : Env W) :
    Calls Tryz.prog 15 args W fun e W' => ∃ v, e = .returned v ∧ Rows.ratioBetweenSpec.post enc Tryz.prog Tryz.f15 false true false false W args v W' := by
  have hW' := hW
  obtain ⟨p, q, hA0, hV, rfl, hfz, hnd⟩ := hW
  have hA : DataW.TrodAll enc Tryz.prog W 0 (fun _ => true) true Tryz.f15.params.toList args.toList ds p := hA0
  rw [Tryz.params15] at hA hval
  obtain ⟨v0, v1, v2, d0, d1, d2, p0, p1, p2, rfl, rfl, rfl, h0, h1, h2⟩ := trodAll_three hA
  obtain ⟨rfl, rfl⟩ := trodVars_none hV
  obtain ⟨s0, rfl, rfl, rfl, q0⟩ := Go.ChangeMaps.open_string Tryz.underlying42 (hval 0 42 v0 rfl rfl) h0
  obtain ⟨s1, rfl, rfl, rfl, q1⟩ := Go.ChangeMaps.open_string Tryz.underlying42 (hval 1 42 v1 rfl rfl) h1
  obtain ⟨z, rfl, rfl, rfl, q2⟩ := open_int Tryz.underlying5 (hval 2 5 v2 rfl rfl) h2
  obtain ⟨a, es0⟩ := str_of s0
  have hs0 := len_of_str es0 q0
  obtain ⟨b, es1⟩ := str_of s1
  have hs1 := len_of_str es1 q1
  subst es0
  subst es1
  clear hA0
  simp only [List.append_nil] at hW'
  refine (law_between a b z W hs0 hs1 (wf_u8 q2).1 (wf_u8 q2).2 env).mono fun e W' ⟨he, hg⟩ => ?_
  subst he
  exact ⟨_, rfl, post_of_below (pa := []) (pv := []) hW' (fun _ _ _ => trodAll_cons_mk (shut_bool Tryz.underlying4 _) trodAll_mk0)
    (fun _ _ => trodAll_cons_mk (Go.ChangeMaps.shut_string Tryz.underlying42 q0) (trodAll_cons_mk (Go.ChangeMaps.shut_string Tryz.underlying42 q1) (trodAll_cons_mk (shut_int Tryz.underlying5 q2) trodAll_mk0))) (fun _ _ => rfl) rfl
    hg (ok_one (by kernel_rfl) rfl (okWide_bool_mk Tryz.underlying4 _))⟩

theorem reads (os : Os) {H : Type} (enc : TypeId × Value → H) : ∃ places, DataW.whole enc Tryz.prog ((laidWorld os).forCall (fun _ _ => 0) ⟨#[], #[.string ⟨#[]⟩, .string ⟨#[]⟩, .int .u8 0], []⟩).memory Tryz.f15.params.toList Rows.ratioBetweenSpec.vars false #[.string ⟨#[]⟩, .string ⟨#[]⟩, .int .u8 0].toList 8 = some ([.lit (.string []), .lit (.string []), .lit (.int .u8 0)], [], places) :=
  ⟨[], by kernel_rfl⟩

set_option maxRecDepth 100000 in
theorem lifted (os : Os) (started : os.Started) (H : Type) (enc : TypeId × Value → H) (F : Stop.Interp) :
    ReturnsInHanded {} Tryz.checked os 15 .any ((OpenSpec.ofChange Rows.ratioBetweenSpec).preRow enc Tryz.prog Tryz.f15 Rows.ratioBetweenRow.domain false Rows.ratioBetweenRow.laid) (((OpenSpec.ofChange Rows.ratioBetweenSpec).at F).post enc Tryz.prog Tryz.f15 false true false false) := by
  obtain ⟨places, hx⟩ := reads os enc
  refine returnsInHanded_of_row (C := Tryz.checked) (s := OpenSpec.ofChange Rows.ratioBetweenSpec) own started (by kernel_rfl) Tryz.func15
    (witness_row_at (enc := enc) (C := Tryz.checked) false (laidWorld os) #[.string ⟨#[]⟩, .string ⟨#[]⟩, .int .u8 0] rfl (laid_vars os _) (laid_rows os _) (by kernel_rfl)
      (OpenSpec.preRow_of_cond 8 hx (by kernel_rfl) (fun k hk => by cases hk) (by kernel_rfl) (laid_met os _))) ?_
  intro W base args ds gs before hval hW _ _ _ hL hs _
  exact contract H enc W base args ds gs before hval hW (env_of hL hs)

end Go.Proofs.YtnjaikomoljmjaaGreatDoor.ratioBetween

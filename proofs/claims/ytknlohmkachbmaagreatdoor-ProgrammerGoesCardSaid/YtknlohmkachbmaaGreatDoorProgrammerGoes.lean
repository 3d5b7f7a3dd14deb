/-
  ProgrammerGoes: the row.
-/
import Derived.Test.YtknlohmkachbmaaGreatDoorPJp
import Derived.Test.YtknlohmkachbmaaGreatDoorPJs
set_option linter.unusedVariables false
set_option linter.unusedSimpArgs false
namespace Go.Proofs.YtknlohmkachbmaaGreatDoor.programmerGoes
open Go.ChangeShapes Go.WideShapes Go.ChangeAt Go.RowKit Go.Joins Lum

theorem readable : ∀ t ∈ Tryz.f8.params.toList, Tryz.prog.readableRec t = true ∧ t < Tryz.prog.types.size := by
  intro t ht
  rw [Tryz.params8] at ht
  have hm : t = 30 ∨ t = 48 ∨ t = 61 := by simpa using ht
  rcases hm with rfl | rfl | rfl
  · exact ⟨by kernel_rfl, of_decide_eq_true (by kernel_rfl)⟩
  · exact ⟨by kernel_rfl, of_decide_eq_true (by kernel_rfl)⟩
  · exact ⟨by kernel_rfl, of_decide_eq_true (by kernel_rfl)⟩

set_option maxRecDepth 100000 in
theorem contract (H : Type) (enc : TypeId × Value → H) (W : World) (base : Nat) (args : Array Value) (ds gs : List (DataW H)) (before : List MemPlace)
    (hval : ∀ (j : Nat) t v, Tryz.f8.params[j]? = some t → args[j]? = some v → Value.okWide Tryz.prog W .any base t v)
    (hW : DataW.Whole enc Tryz.prog Tryz.f8.params.toList Rows.programmerGoesSpec.vars false W args.toList ds gs before) (env : Env W) :
    Calls Tryz.prog 8 args W fun e W' => ∃ v, e = .returned v ∧ Rows.programmerGoesSpec.post enc Tryz.prog Tryz.f8 false true false false W args v W' := by
  have hW' := hW
  have hlt := hW.lt
  obtain ⟨p, q, hA0, hV, rfl, hfz, hnd⟩ := hW
  have hA : DataW.TrodAll enc Tryz.prog W 0 (fun _ => true) true Tryz.f8.params.toList args.toList ds p := hA0
  rw [Tryz.params8] at hA hval
  obtain ⟨v0, v1, v2, d0, d1, d2, p0, p1, p2, rfl, rfl, hpp, h0, h1, h2⟩ := trodAll_three hA
  obtain ⟨rfl, rfl⟩ := trodVars_none hV
  obtain ⟨l0, hl0, hm0⟩ := open_hands (hval 0 30 v0 rfl rfl) h0
  obtain ⟨a1, b1, pa1, pb1, ca1, cb1, es1, now1, rfl, hu1, hz1⟩ := open_order (hval 1 48 v1 rfl rfl) h1
  obtain ⟨z2, rfl, -, -, q2⟩ := open_int Tryz.underlying61 (hval 2 61 v2 rfl rfl) h2
  have q20 := (wf_u16 q2).1
  have q21 := (wf_u16 q2).2
  refine (law_pgoes l0 v0 a1 b1 z2 es1 now1 pa1 pb1 ca1 cb1 W hl0 hu1 hz1 ⟨q20, q21⟩ env).mono fun e W' ⟨he, hg⟩ => ?_
  subst he
  exact ⟨_, rfl, post_of_below (pa := p) (pv := []) hW' (fun _ _ _ => trodAll_cons_mk (shut_bool Tryz.underlying4 _) trodAll_mk0)
    (fun sp hsp => trodAll_stays (by kernel_rfl) readable hA0 (fun x hx => hg.same (hlt x (List.mem_append_left _ hx))) (fun x hx => hsp x (List.mem_append_left _ hx))) (fun _ _ => rfl) rfl
    hg (ok_one (by kernel_rfl) rfl (okWide_bool_mk Tryz.underlying4 _))⟩

theorem reads (os : Os) {H : Type} (enc : TypeId × Value → H) : ∃ places, DataW.whole enc Tryz.prog ((laidWorld os).forCall (fun _ _ => 0) ⟨#[], #[.slice none 0 0, .agg #[.int .i64 0, .int .i64 0, .slice none 0 0, .slice none 0 0], .int .u16 0], []⟩).memory Tryz.f8.params.toList Rows.programmerGoesSpec.vars false #[.slice none 0 0, .agg #[.int .i64 0, .int .i64 0, .slice none 0 0, .slice none 0 0], .int .u16 0].toList 8 = some ([.nil, .agg [.lit (.int .i64 0), .lit (.int .i64 0), .nil, .nil], .lit (.int .u16 0)], [], places) :=
  ⟨[], by kernel_rfl⟩

set_option maxRecDepth 100000 in
theorem lifted (os : Os) (started : os.Started) (H : Type) (enc : TypeId × Value → H) (F : Stop.Interp) :
    ReturnsInHanded {} Tryz.checked os 8 .any ((OpenSpec.ofChange Rows.programmerGoesSpec).preRow enc Tryz.prog Tryz.f8 Rows.programmerGoesRow.domain false Rows.programmerGoesRow.laid) (((OpenSpec.ofChange Rows.programmerGoesSpec).at F).post enc Tryz.prog Tryz.f8 false true false false) := by
  obtain ⟨places, hx⟩ := reads os enc
  refine returnsInHanded_of_row (C := Tryz.checked) (s := OpenSpec.ofChange Rows.programmerGoesSpec) own started (by kernel_rfl) Tryz.func8
    (witness_row_at (enc := enc) (C := Tryz.checked) false (laidWorld os) #[.slice none 0 0, .agg #[.int .i64 0, .int .i64 0, .slice none 0 0, .slice none 0 0], .int .u16 0] rfl (laid_vars os _) (laid_rows os _) (by kernel_rfl)
      (OpenSpec.preRow_of_cond 8 hx (by kernel_rfl) (fun k hk => by cases hk) (by kernel_rfl) (laid_met os _))) ?_
  intro W base args ds gs before hval hW _ _ _ hL hs _
  exact contract H enc W base args ds gs before hval hW (env_of hL hs)

end Go.Proofs.YtknlohmkachbmaaGreatDoor.programmerGoes

/- The law HunkGives holds as given: for every input the call returns true, and each argument reads behind it as it read before. -/
import Derived.Test.YtkggedmcdllnaaaRows
import Derived.Test.YtkggedmcdllnaaaOpenS
import Derived.Test.YtkggedmcdllnaaaHunkGivesLaw
namespace Go.Proofs.Ytkggedmcdllnaaa.hunkGives
open Go.ChangeShapes Go.WideShapes Go.ChangeAt Go.RowKit
open Go.ChangeMaps (open_string shut_string)
theorem own : ownKnob Try.prog.godebug = none := by kernel_rfl
theorem laidOut : laidOutB Try.prog = true := by kernel_rfl
set_option maxRecDepth 100000 in
theorem lifted (os : Os) (started : os.Started) (H : Type) (enc : TypeId × Value → H) :
    ReturnsInHanded {} Try.checked os 4 .any (Rows.hunkGivesSpec.pre6 enc Try.prog Try.f4 Rows.hunkGivesRow.domain false) (Rows.hunkGivesSpec.post enc Try.prog Try.f4 false true false false) := by
  refine returnsInHanded_of_change_sized (C := Try.checked) own started (by kernel_rfl) Try.func4
    (ChangeSpec.witness6 (enc := enc) (C := Try.checked) false ⟨#[], #[.slice none 0 0, .slice none 0 0], []⟩ 8 (by kernel_rfl) (by kernel_rfl) (by kernel_rfl) (by kernel_rfl)) ?_
  intro W base args ds gs before hval0 hW _ _ _
  have hval : ∀ (j : Nat) t v, Try.f4.params[j]? = some t → args[j]? = some v → Value.okWide Try.prog W .any base t v := hval0
  have hW' := hW
  obtain ⟨p, q, hA0, hV, rfl, _, _⟩ := hW
  have hA : DataW.TrodAll enc Try.prog W 0 (fun _ => true) true Try.f4.params.toList args.toList ds p := hA0
  rw [Try.params4] at hA hval
  obtain ⟨v0, vs0, d0, ds0, p0, q0, hargs, rfl, rfl, h0, r0⟩ := trodAll_cons hA
  obtain ⟨v1, vs1, d1, ds1, p1, q1, rfl, rfl, rfl, h1, r1⟩ := trodAll_cons r0
  obtain ⟨rfl, rfl, rfl⟩ := trodAll_nil r1
  obtain rfl : args = #[v0, v1] := by cases args; simp_all
  obtain ⟨rfl, rfl⟩ := trodVars_none hV
  obtain ⟨A0, c0, x0, rfl, lc0, mc0, s0, z0, lt0⟩ := open_strs_sz (hval 0 22 v0 rfl rfl) h0
  obtain ⟨A1, c1, x1, rfl, lc1, mc1, s1, z1, lt1⟩ := open_strs_sz (hval 1 22 v1 rfl rfl) h1
  clear hA0 hval0
  refine (hunkGives_any x0 A0 c0 x1 A1 c1 W lc0 mc0 s0 z0 lc1 mc1 s1 z1).mono fun e W' ⟨he, bel⟩ => ?_
  subst he
  exact ⟨_, rfl, _, _, _, [], _, [], hW', trodAll_mk1 (shut_bool Try.underlying4 _), (trodAll_cons_mk (Below.trod laidOut (by kernel_rfl) (of_decide_eq_true (by kernel_rfl)) h0 bel lt0) (trodAll_cons_mk (Below.trod laidOut (by kernel_rfl) (of_decide_eq_true (by kernel_rfl)) h1 bel lt1) trodAll_mk0)), rfl, bel.frame _, fun h => by cases h⟩
theorem over : Rows.hunkGivesRow.holds Try.pinned (OpenSpec.ofChange Rows.hunkGivesSpec) :=
  OpenClaim.holds_of_wide 4 Try.f4 rfl rfl rfl rfl rfl rfl rfl ⟨rfl, rfl, rfl, rfl, rfl⟩ rfl rfl rfl rfl rfl (by kernel_rfl) Try.func4 (by kernel_rfl)
    (of_decide_eq_true (by kernel_rfl)) (by unfold Func.isWrapper; first | (rw [if_pos (by decide +kernel)]; kernel_rfl) | (rw [if_neg (by decide +kernel)]; exact ⟨rfl, rfl⟩))
    (fun os started H enc _ => lifted os started H enc)
theorem proved : Rows.HunkGivesSaid := over
#print axioms proved
end Go.Proofs.Ytkggedmcdllnaaa.hunkGives
namespace Go.Proofs.Ytkggedmcdllnaaa
/-- The row, under a short name, for the claim. -/
theorem hunkGives_holds : Rows.HunkGivesSaid := hunkGives.proved
end Go.Proofs.Ytkggedmcdllnaaa

/- The statement ChooseLeast of the given program: its row holds. No condition. -/
import Derived.Test.YtbnhmioijeagiaaRows
import Derived.Test.YtbnhmioijeagiaaChLstP6
namespace Go.Proofs.Ytbnhmioijeagiaa.chooseLeast
open Go.ChangeShapes Go.WideShapes Go.ChangeAt Go.RowKit
open Go.Proofs.Ytbnhmioijeagiaa.Ab
set_option linter.unusedVariables false
set_option linter.unnecessarySimpa false
theorem own : ownKnob Try.prog.godebug = none := by kernel_rfl
theorem laidOut : laidOutB Try.prog = true := by kernel_rfl
set_option maxRecDepth 100000 in
theorem lifted (os : Os) (started : os.Started) (H : Type) (enc : TypeId × Value → H) :
    ReturnsInHanded {} Try.checked os 6 .any (Rows.chooseLeastSpec.pre6 enc Try.prog Try.f6 Rows.chooseLeastRow.domain false) (Rows.chooseLeastSpec.post enc Try.prog Try.f6 false true false false) := by
  refine returnsInHanded_of_change_sized (C := Try.checked) own started (by kernel_rfl) Try.func6
    (ChangeSpec.witness6 (enc := enc) (C := Try.checked) false ⟨#[], #[.agg #[.int .i64 0, .int .i64 0, .int .i64 0, .slice none 0 0, .slice none 0 0, .slice none 0 0, .slice none 0 0], .slice none 0 0], []⟩ 8 (by kernel_rfl) (by kernel_rfl) (by kernel_rfl) (by kernel_rfl)) ?_
  intro W base args ds gs before hval0 hW hcnd hsz0 _
  have hval : ∀ (j : Nat) t v, Try.f6.params[j]? = some t → args[j]? = some v → Value.okWide Try.prog W .any base t v := hval0
  have hW' := hW
  obtain ⟨p, q, hA0, hV, rfl, hfz, hnd⟩ := hW
  have hA : DataW.TrodAll enc Try.prog W 0 (fun _ => true) true Try.f6.params.toList args.toList ds p := hA0
  have hval2 : ∀ (j : Nat) t v, ([26, 24] : List Nat)[j]? = some t → args[j]? = some v → Value.okWide Try.prog W .any base t v := by
    intro j t v e1 e2
    refine hval j t v ?_ e2
    rw [Try.params6]
    first | simpa using e1 | (simp at e1)
  rw [Try.params6] at hA
  obtain ⟨rfl, rfl⟩ := trodVars_none hV
  obtain ⟨v0, vs0, d0, ds0, p0, q0, e0, rfl, e0', h0, r0⟩ := trodAll_cons hA
  obtain ⟨v1, vs1, d1, ds1, p1, q1, e1, rfl, e1', h1, r1⟩ := trodAll_cons r0
  obtain ⟨ee, rfl, ee'⟩ := trodAll_nil r1
  have lt : ∀ x ∈ p, x.block < W.heap.size := hA.lt
  have hsz := hsz0
  rw [Try.params6] at hsz
  simp only [List.append_nil] at hsz
  refine (law_walk (S := [3, 22, 23, 24, 26, 31, 33, 66, 67, 91, 93, 95]) (params := [26, 24]) tok (by kernel_rfl) (by kernel_rfl) chooseLeast_calls hval2 hA hsz).mono fun e W' ⟨he, bel⟩ => ?_
  subst he
  exact ⟨_, rfl, _, _, _, [], _, [], hW', trodAll_mk1 (shut_bool Try.underlying4 _), (trodAll_stays laidOut bel (by kernel_rfl) hA lt), rfl, bel.frame _, fun h => by cases h⟩
theorem over : Rows.chooseLeastRow.holds Try.pinned (OpenSpec.ofChange Rows.chooseLeastSpec) :=
  OpenClaim.holds_of_wide 6 Try.f6 rfl rfl rfl rfl rfl rfl rfl ⟨rfl, rfl, rfl, rfl, rfl⟩ rfl rfl rfl rfl rfl (by kernel_rfl) Try.func6 (by kernel_rfl)
    (of_decide_eq_true (by kernel_rfl)) (by unfold Func.isWrapper; first | (rw [if_pos (by decide +kernel)]; kernel_rfl) | (rw [if_neg (by decide +kernel)]; exact ⟨rfl, rfl⟩))
    (fun os started H enc _ => lifted os started H enc)
theorem proved : Rows.ChooseLeastSaid := over
end Go.Proofs.Ytbnhmioijeagiaa.chooseLeast
namespace Go.Proofs.Ytbnhmioijeagiaa
/-- The row, under a short name, for the claim. -/
theorem chooseLeast_holds : Rows.ChooseLeastSaid := chooseLeast.proved
end Go.Proofs.Ytbnhmioijeagiaa

/- The statement ScanLongest of the given program: its row holds. No condition. -/
import Derived.Test.YtobpbelgihilpaaRows
import Derived.Test.YtobpbelgihilpaaScLongP4
namespace Go.Proofs.Ytobpbelgihilpaa.scanLongest
open Go.ChangeShapes Go.WideShapes Go.ChangeAt Go.RowKit
open Go.Proofs.Ytobpbelgihilpaa.Ab
set_option linter.unusedVariables false
set_option linter.unnecessarySimpa false
theorem own : ownKnob Try.prog.godebug = none := by kernel_rfl
theorem laidOut : laidOutB Try.prog = true := by kernel_rfl
set_option maxRecDepth 100000 in
theorem lifted (os : Os) (started : os.Started) (H : Type) (enc : TypeId × Value → H) :
    ReturnsInHanded {} Try.checked os 3 .any (Rows.scanLongestSpec.pre6 enc Try.prog Try.f3 Rows.scanLongestRow.domain false) (Rows.scanLongestSpec.post enc Try.prog Try.f3 false true false false) := by
  refine returnsInHanded_of_change_sized (C := Try.checked) own started (by kernel_rfl) Try.func3
    (ChangeSpec.witness6 (enc := enc) (C := Try.checked) false ⟨#[], #[.slice none 0 0, .slice none 0 0, .slice none 0 0, .int .i64 0], []⟩ 8 (by kernel_rfl) (by kernel_rfl) (by kernel_rfl) (by kernel_rfl)) ?_
  intro W base args ds gs before hval0 hW hcnd hsz0 _
  have hval : ∀ (j : Nat) t v, Try.f3.params[j]? = some t → args[j]? = some v → Value.okWide Try.prog W .any base t v := hval0
  have hW' := hW
  obtain ⟨p, q, hA0, hV, rfl, hfz, hnd⟩ := hW
  have hA : DataW.TrodAll enc Try.prog W 0 (fun _ => true) true Try.f3.params.toList args.toList ds p := hA0
  have hval2 : ∀ (j : Nat) t v, ([22, 23, 23, 3] : List Nat)[j]? = some t → args[j]? = some v → Value.okWide Try.prog W .any base t v := by
    intro j t v e1 e2
    refine hval j t v ?_ e2
    rw [Try.params3]
    first | simpa using e1 | (simp at e1)
  rw [Try.params3] at hA
  obtain ⟨rfl, rfl⟩ := trodVars_none hV
  obtain ⟨v0, vs0, d0, ds0, p0, q0, e0, rfl, e0', h0, r0⟩ := trodAll_cons hA
  obtain ⟨v1, vs1, d1, ds1, p1, q1, e1, rfl, e1', h1, r1⟩ := trodAll_cons r0
  obtain ⟨v2, vs2, d2, ds2, p2, q2, e2, rfl, e2', h2, r2⟩ := trodAll_cons r1
  obtain ⟨v3, vs3, d3, ds3, p3, q3, e3, rfl, e3', h3, r3⟩ := trodAll_cons r2
  obtain ⟨ee, rfl, ee'⟩ := trodAll_nil r3
  have lt : ∀ x ∈ p, x.block < W.heap.size := hA.lt
  have hsz := hsz0
  rw [Try.params3] at hsz
  simp only [List.append_nil] at hsz
  refine (law_walk (S := [3, 5, 9, 22, 23]) (params := [22, 23, 23, 3]) tok (by kernel_rfl) (by kernel_rfl) scanLongest_calls hval2 hA hsz).mono fun e W' ⟨he, bel⟩ => ?_
  subst he
  exact ⟨_, rfl, _, _, _, [], _, [], hW', trodAll_mk1 (shut_bool Try.underlying4 _), (trodAll_stays laidOut bel (by kernel_rfl) hA lt), rfl, bel.frame _, fun h => by cases h⟩
theorem over : Rows.scanLongestRow.holds Try.pinned (OpenSpec.ofChange Rows.scanLongestSpec) :=
  OpenClaim.holds_of_wide 3 Try.f3 rfl rfl rfl rfl rfl rfl rfl ⟨rfl, rfl, rfl, rfl, rfl⟩ rfl rfl rfl rfl rfl (by kernel_rfl) Try.func3 (by kernel_rfl)
    (of_decide_eq_true (by kernel_rfl)) (by unfold Func.isWrapper; first | (rw [if_pos (by decide +kernel)]; kernel_rfl) | (rw [if_neg (by decide +kernel)]; exact ⟨rfl, rfl⟩))
    (fun os started H enc _ => lifted os started H enc)
theorem proved : Rows.ScanLongestSaid := over
end Go.Proofs.Ytobpbelgihilpaa.scanLongest
namespace Go.Proofs.Ytobpbelgihilpaa
/-- The row, under a short name, for the claim. -/
theorem scanLongest_holds : Rows.ScanLongestSaid := scanLongest.proved
end Go.Proofs.Ytobpbelgihilpaa

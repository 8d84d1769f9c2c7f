/- Chapter 20's law of rings. No condition. -/
import Derived.Test.YtnlmfhnjjblhoaaForB
set_option linter.unusedVariables false
set_option linter.unusedSimpArgs false
namespace Go.Proofs.Ytnlmfhnjjblhoaa.Ab
attribute [local irreducible] thenA inBlockA ACode AOps put IntKind.wrap

set_option maxHeartbeats 4000000 in
theorem rings_else {n fr to : Int} (h : ¬ (1 ≤ n ∧ n ≤ 60 ∧ 0 ≤ fr ∧ fr < n ∧ 0 ≤ to ∧ to < n)) : ACalls Try.prog 5 [.int .i64 n, .int .i64 fr, .int .i64 to] [] (fun r _ => r = .bool true) := by
  refine acalls_of_code 99 Try.func5 rfl rfl rfl ?_
  repeat (first | refine aops_put rfl ?_ | refine aops_end ?_ | refine aops_endb ?_ | refine aops_o rfl rfl rfl ?_ | refine aops_max tok rfl rfl rfl rfl rfl rfl ?_ | refine aops_min tok rfl rfl rfl rfl rfl rfl ?_ | refine aops_a tok rfl (by omega) (by omega) rfl rfl rfl ?_ | refine aops_p tok rfl rfl rfl rfl ?_ | refine aops_ixa tok rfl rfl rfl (by decide) rfl rfl rfl rfl ?_ | refine aops_ld tok 0 rfl rfl rfl rfl rfl rfl rfl rfl ?_ | refine aops_ld tok 1 rfl rfl rfl rfl rfl rfl rfl rfl ?_ | refine aops_stn tok rfl rfl rfl rfl rfl rfl rfl rfl rfl ?_ | refine aops_stn1 tok rfl rfl rfl rfl rfl rfl rfl rfl rfl ?_ | refine acode_seq ?_ | refine acode_region ?_ | refine acode_block ?_ | refine acode_skip ?_ | refine then_n ?_ | refine block_n ?_)
  refine aops_callx Try.func13 rfl rfl rfl rfl (alive20_calls _) rfl rfl rfl ?_
  repeat' (first | refine aops_put rfl ?_ | refine aops_end ?_ | refine aops_endb ?_ | refine aops_o rfl rfl rfl ?_ | refine aops_max tok rfl rfl rfl rfl rfl rfl ?_ | refine aops_min tok rfl rfl rfl rfl rfl rfl ?_ | refine aops_a tok rfl (by omega) (by omega) rfl rfl rfl ?_ | (refine aops_pd tok rfl rfl rfl rfl ?_ ?_ <;> intro e_) | (refine aops_pe tok rfl rfl rfl rfl ?_ ?_ <;> intro e_) | (refine aops_pn tok rfl rfl rfl rfl ?_ ?_ <;> intro e_) | refine aops_p tok rfl rfl rfl rfl ?_ | refine acode_it rfl ?_ | refine acode_if rfl ?_ | refine aops_ixa tok rfl rfl rfl (by decide) rfl rfl rfl rfl ?_ | refine aops_ld tok 0 rfl rfl rfl rfl rfl rfl rfl rfl ?_ | refine aops_ld tok 1 rfl rfl rfl rfl rfl rfl rfl rfl ?_ | refine aops_stn tok rfl rfl rfl rfl rfl rfl rfl rfl rfl ?_ | refine aops_stn1 tok rfl rfl rfl rfl rfl rfl rfl rfl rfl ?_ | refine acode_seq ?_ | refine acode_region ?_ | refine acode_block ?_ | refine acode_skip ?_ | refine then_n ?_ | refine block_n ?_)
  all_goals first
    | (exfalso; omega)
    | (refine acode_ret ?_
       repeat (first | refine exit_then ?_ | refine exit_here ?_ | refine exit_out rfl ?_ | refine ret_then ?_ | refine ret_block ?_ | refine then_n ?_ | refine block_n ?_)
       exact ⟨_, rfl, resOf_tmp rfl⟩)
theorem countRings_calls (zs : List A) (h : GoodL T [3, 3, 3] zs) : ACalls Try.prog 5 zs [] (fun r _ => r = .bool true) := by
  obtain ⟨_, _, rfl, ⟨f1, g1⟩, _, _, rfl, ⟨f2, g2⟩, _, _, rfl, ⟨f3, g3⟩, rfl⟩ := h
  obtain ⟨n, rfl, _⟩ := good_int (k := .i64) rfl g1
  obtain ⟨fr, rfl, _⟩ := good_int (k := .i64) rfl g2
  obtain ⟨to, rfl, _⟩ := good_int (k := .i64) rfl g3
  by_cases hh : 1 ≤ n ∧ n ≤ 60 ∧ 0 ≤ fr ∧ fr < n ∧ 0 ≤ to ∧ to < n
  · obtain ⟨h1, h2, h3, h4, h5, h6⟩ := hh
    obtain ⟨n', rfl⟩ : ∃ n' : Nat, n = n' := ⟨n.toNat, by omega⟩
    obtain ⟨fr', rfl⟩ : ∃ n' : Nat, fr = n' := ⟨fr.toNat, by omega⟩
    obtain ⟨to', rfl⟩ : ∃ n' : Nat, to = n' := ⟨to.toNat, by omega⟩
    exact rings_main (by omega) (by omega) (by omega) (by omega)
  · exact rings_else hh
end Go.Proofs.Ytnlmfhnjjblhoaa.Ab

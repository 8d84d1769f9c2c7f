/- Chapter 21: the lister's trees: the walk. No condition. -/
import Derived.Test.YtnlmfhnjjblhoaaTre2
import Derived.Test.YtnlmfhnjjblhoaaFor5
import Derived.Test.YtnlmfhnjjblhoaaAb8
set_option linter.unusedVariables false
set_option linter.unusedSimpArgs false
namespace Go.Proofs.Ytnlmfhnjjblhoaa.Ab
attribute [local irreducible] thenA inBlockA ACode AOps put IntKind.wrap

abbrev trA (t : Tr) : A := .agg [.int .i64 t.rule, .int .i64 t.tok, .psl t.kids.length (encs trC t.kids)]
theorem trA_eq (t : Tr) : trA t = .agg (trC t) := by rw [trC_eq]
/-- Not too many kids anywhere below. -/
inductive Lim (f : Fo) : Nat → Prop
  | mk {i : Nat} (h : ∀ a ∈ altsOf f i, a.kids.length ≤ 1000000) (hs : ∀ k : Nat, Kid f i k → Lim f k) : Lim f i
theorem Lim.len {f : Fo} {i : Nat} (h : Lim f i) {a : Al} (ha : a ∈ altsOf f i) : a.kids.length ≤ 1000000 := by cases h with | mk h _ => exact h a ha
theorem Lim.kid {f : Fo} {i k : Nat} (h : Lim f i) (hk : Kid f i k) : Lim f k := by cases h with | mk _ h => exact h k hk
theorem leaf_calls {k : Int} (hk : rng k) (M : List Ob) : ACalls Try.prog 83 [.int .i64 k] M (fun r M' => r = trA (leafT k) ∧ M' = M) := by
  obtain ⟨h0, h1⟩ := hk
  refine acalls_res (R := fun r M' => r = .agg [.int .i64 (-1), .int .i64 (-1 - k), .nils] ∧ M' = M) ?_ ?_
  · refine acalls_of_code 6 Try.func83 rfl rfl rfl ?_
    repeat (first | refine aops_put rfl ?_ | refine aops_end ?_ | refine aops_endb ?_ | refine aops_o rfl rfl rfl ?_ | refine aops_max tok rfl rfl rfl rfl rfl rfl ?_ | refine aops_min tok rfl rfl rfl rfl rfl rfl ?_ | refine aops_a tok rfl (by omega) (by omega) rfl rfl rfl ?_ | refine aops_p tok rfl rfl rfl rfl ?_ | refine aops_ixa tok rfl rfl rfl (by decide) rfl rfl rfl rfl ?_ | refine aops_ld tok 0 rfl rfl rfl rfl rfl rfl rfl rfl ?_ | refine aops_ld tok 1 rfl rfl rfl rfl rfl rfl rfl rfl ?_ | refine aops_stn tok rfl rfl rfl rfl rfl rfl rfl rfl rfl ?_ | refine aops_stn1 tok rfl rfl rfl rfl rfl rfl rfl rfl rfl ?_ | refine acode_seq ?_ | refine acode_region ?_ | refine acode_block ?_ | refine acode_skip ?_ | refine then_n ?_ | refine block_n ?_)
    refine aops_alloc tok rfl rfl rfl rfl rfl rfl fun ba => ?_
    repeat (first | refine aops_put rfl ?_ | refine aops_end ?_ | refine aops_endb ?_ | refine aops_o rfl rfl rfl ?_ | refine aops_max tok rfl rfl rfl rfl rfl rfl ?_ | refine aops_min tok rfl rfl rfl rfl rfl rfl ?_ | refine aops_a tok rfl (by omega) (by omega) rfl rfl rfl ?_ | refine aops_p tok rfl rfl rfl rfl ?_ | refine aops_ixa tok rfl rfl rfl (by decide) rfl rfl rfl rfl ?_ | refine aops_ld tok 0 rfl rfl rfl rfl rfl rfl rfl rfl ?_ | refine aops_ld tok 1 rfl rfl rfl rfl rfl rfl rfl rfl ?_ | refine aops_stn tok rfl rfl rfl rfl rfl rfl rfl rfl rfl ?_ | refine aops_stn1 tok rfl rfl rfl rfl rfl rfl rfl rfl rfl ?_ | refine acode_seq ?_ | refine acode_region ?_ | refine acode_block ?_ | refine acode_skip ?_ | refine then_n ?_ | refine block_n ?_)
    refine acode_pubref0 2 rfl ?_
    refine acode_ret ?_
    repeat (first | refine exit_then ?_ | refine exit_here ?_ | refine exit_out rfl ?_ | refine ret_then ?_ | refine ret_block ?_ | refine then_n ?_ | refine block_n ?_)
    exact ⟨_, ⟨rfl, rfl⟩, resOf_pp tok rfl rfl rfl⟩
  · rintro r M' ⟨rfl, rfl⟩
    exact ⟨_, .agg (.cons (.refl _) (.cons (.refl _) (.cons .nils .nil))), rfl, rfl⟩
noncomputable abbrev liC (f : Fo) : List A := [.psl f.nodes.length (encs ndC f.nodes), .int .i64 f.root, .psl f.nodes.length (ints ((List.range f.nodes.length).map (trees f)))]
end Go.Proofs.Ytnlmfhnjjblhoaa.Ab

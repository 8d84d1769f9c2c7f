/- Chapter 3's reader, all together, and how a pattern is read: the walk. No condition. -/
import Derived.Test.YtafncdbkbmaifaaRegD
set_option linter.unusedVariables false
set_option linter.unusedSimpArgs false
namespace Go.Proofs.Ytafncdbkbmaifaa.Ab
attribute [local irreducible] thenA inBlockA ACode AOps put IntKind.wrap
theorem reader_ok {s : List Int} (hs : byteS s) (hL : s.length ≤ 900) {rb : Nat} (f : Nat) : AtomOk s rb f ∧ PartOk s rb f ∧ SeqOk s rb f ∧ AltOk s rb f := by
  induction f using Nat.strongRecOn with
  | _ f ih => exact ⟨atom_rc hs fun g hg => (ih g hg).2.2.2, part_rc hs fun g hg => (ih g hg).1, seq_rc hs hL fun g hg => (ih g hg).2.1, alt_rc hs hL fun g hg => (ih g hg).2.2.1⟩
set_option maxHeartbeats 8000000 in
theorem parse_calls {s : List Int} (hb : ∀ x ∈ s, 0 ≤ x ∧ x ≤ 255) (M : List Ob) : ACalls Try.prog 10 [.str (strOfNums s)] M (fun r M' => r = .tup [.agg (reC (parseP s).1), .int .i64 (parseP s).2.1, .int .i64 (parseP s).2.2] ∧ M' = M) := by
  have hsz := str_len (s := s)
  refine acalls_of_code 41 Try.func10 rfl rfl rfl ?_
  repeat (first | refine aops_put rfl ?_ | refine aops_end ?_ | refine aops_endb ?_ | refine aops_o rfl rfl rfl ?_ | refine aops_max tok rfl rfl rfl rfl rfl rfl ?_ | refine aops_min tok rfl rfl rfl rfl rfl rfl ?_ | refine aops_a tok rfl (by omega) (by omega) rfl rfl rfl ?_ | refine aops_p tok rfl rfl rfl rfl ?_ | refine aops_ixa tok rfl rfl rfl (by decide) rfl rfl rfl rfl ?_ | refine aops_ld tok 0 rfl rfl rfl rfl rfl rfl rfl rfl ?_ | refine aops_ld tok 1 rfl rfl rfl rfl rfl rfl rfl rfl ?_ | refine aops_stn tok rfl rfl rfl rfl rfl rfl rfl rfl rfl ?_ | refine aops_stn1 tok rfl rfl rfl rfl rfl rfl rfl rfl rfl ?_ | refine acode_seq ?_ | refine acode_region ?_ | refine acode_block ?_ | refine acode_skip ?_ | refine then_n ?_ | refine block_n ?_)
  refine aops_alloc tok rfl rfl rfl rfl rfl rfl fun b2 => ?_
  repeat' (first | refine aops_put rfl ?_ | refine aops_end ?_ | refine aops_endb ?_ | refine aops_o rfl rfl rfl ?_ | refine aops_max tok rfl rfl rfl rfl rfl rfl ?_ | refine aops_min tok rfl rfl rfl rfl rfl rfl ?_ | refine aops_a tok rfl (by omega) (by omega) rfl rfl rfl ?_ | (refine aops_pd tok rfl rfl rfl rfl ?_ ?_ <;> intro e_) | (refine aops_pe tok rfl rfl rfl rfl ?_ ?_ <;> intro e_) | (refine aops_pn tok rfl rfl rfl rfl ?_ ?_ <;> intro e_) | refine aops_p tok rfl rfl rfl rfl ?_ | refine acode_it rfl ?_ | refine acode_if rfl ?_ | refine aops_ixa tok rfl rfl rfl (by decide) rfl rfl rfl rfl ?_ | refine aops_ld tok 0 rfl rfl rfl rfl rfl rfl rfl rfl ?_ | refine aops_ld tok 1 rfl rfl rfl rfl rfl rfl rfl rfl ?_ | refine aops_stn tok rfl rfl rfl rfl rfl rfl rfl rfl rfl ?_ | refine aops_stn1 tok rfl rfl rfl rfl rfl rfl rfl rfl rfl ?_ | refine acode_seq ?_ | refine acode_region ?_ | refine acode_block ?_ | refine acode_skip ?_ | refine then_n ?_ | refine block_n ?_)
  · have hp : parseP s = (reNone, 0, 3) := by unfold parseP; rw [if_pos (by omega)]
    rw [hp, reC_none]
    refine acode_pubref0 2 rfl ?_
    refine acode_ret ?_
    repeat (first | refine exit_then ?_ | refine exit_here ?_ | refine exit_out rfl ?_ | refine ret_then ?_ | refine ret_block ?_ | refine then_n ?_ | refine block_n ?_)
    exact ⟨_, ⟨rfl, rfl⟩, _, rfl, resOf_pp tok rfl rfl rfl⟩
  · have hl : s.length ≤ 200 := by omega
    have hs : byteS s := ⟨hb, by omega⟩
    have hp : parseP s = if ((if (altF s (fuelP s) 0 ⟨0, 0, 0⟩).2.at_ < s.length then (altF s (fuelP s) 0 ⟨0, 0, 0⟩).2.fail 2 else (altF s (fuelP s) 0 ⟨0, 0, 0⟩).2).e = 0) then ((altF s (fuelP s) 0 ⟨0, 0, 0⟩).1, s.length, 0) else (reNone, (if (altF s (fuelP s) 0 ⟨0, 0, 0⟩).2.at_ < s.length then (altF s (fuelP s) 0 ⟨0, 0, 0⟩).2.fail 2 else (altF s (fuelP s) 0 ⟨0, 0, 0⟩).2).w, (if (altF s (fuelP s) 0 ⟨0, 0, 0⟩).2.at_ < s.length then (altF s (fuelP s) 0 ⟨0, 0, 0⟩).2.fail 2 else (altF s (fuelP s) 0 ⟨0, 0, 0⟩).2).e) := by unfold parseP; rw [if_neg (by omega)]
    rw [hp]
    have hn : need s ⟨0, 0, 0⟩ + 5 ≤ fuelP s := by unfold need fuelP; simp only [if_true]; omega
    have c1 := fun rb M => (reader_ok hs (by omega) (rb := rb) (fuelP s)).2.2.2 0 ⟨0, 0, 0⟩ (by omega) (Nat.zero_le _) hn M
    have h1 := (reader_le s (fuelP s)).alt 0 ⟨0, 0, 0⟩ (Nat.zero_le _)
    generalize altF s (fuelP s) 0 ⟨0, 0, 0⟩ = q at *
    obtain ⟨x, r1⟩ := q
    simp only at *
    have hx := reC_len x
    have hok := reC_ok x
    refine aops_boxo rfl rfl rfl rfl rfl rfl rfl fun rb => ?_
    have hat := h1.1
    repeat (first | refine aops_put rfl ?_ | refine aops_end ?_ | refine aops_endb ?_ | refine aops_o rfl rfl rfl ?_ | refine aops_max tok rfl rfl rfl rfl rfl rfl ?_ | refine aops_min tok rfl rfl rfl rfl rfl rfl ?_ | refine aops_a tok rfl (by omega) (by omega) rfl rfl rfl ?_ | refine aops_p tok rfl rfl rfl rfl ?_ | refine aops_ixa tok rfl rfl rfl (by decide) rfl rfl rfl rfl ?_ | refine aops_ld tok 0 rfl rfl rfl rfl rfl rfl rfl rfl ?_ | refine aops_ld tok 1 rfl rfl rfl rfl rfl rfl rfl rfl ?_ | refine aops_stn tok rfl rfl rfl rfl rfl rfl rfl rfl rfl ?_ | refine aops_stn1 tok rfl rfl rfl rfl rfl rfl rfl rfl rfl ?_ | refine acode_seq ?_ | refine acode_region ?_ | refine acode_block ?_ | refine acode_skip ?_ | refine then_n ?_ | refine block_n ?_)
    refine aops_callr Try.func17 rfl rfl rfl rfl (c1 rb _) rfl rfl rfl ?_
    refine aops_alloc tok rfl rfl rfl rfl rfl rfl fun b6 => ?_
    refine aops_sto tok (reC x) rfl rfl rfl rfl hok (by decide) (sto_all rfl) rfl rfl ?_
    refine aops_end ?_
    refine acode_seq ?_
    refine acode_seq ?_
    refine acode_region ?_
    repeat (first | refine aops_put rfl ?_ | refine aops_o rfl rfl rfl ?_ | refine aops_max tok rfl rfl rfl rfl rfl rfl ?_ | refine aops_min tok rfl rfl rfl rfl rfl rfl ?_ | refine aops_a tok rfl (by omega) (by omega) rfl rfl rfl ?_ | refine aops_p tok rfl rfl rfl rfl ?_ | refine aops_ixa tok rfl rfl rfl (by decide) rfl rfl rfl rfl ?_ | refine aops_ld tok 0 rfl rfl rfl rfl rfl rfl rfl rfl ?_ | refine aops_ld tok 1 rfl rfl rfl rfl rfl rfl rfl rfl ?_ | refine aops_stn tok rfl rfl rfl rfl rfl rfl rfl rfl rfl ?_ | refine aops_stn1 tok rfl rfl rfl rfl rfl rfl rfl rfl rfl ?_)
    refine aops_end ?_
    refine acode_join [(0, .str (strOfNums s)), (2, .ref b2 0), (5, .ref rb 0), (6, .ref b6 0)] (⟨some b6, 6, reC x⟩ :: rdO rb s (if r1.at_ < s.length then r1.fail 2 else r1) :: ⟨some b2, 6, zeroRE⟩ :: M) ?_ ?_
    · by_cases hlt : r1.at_ < s.length
      · rw [if_pos hlt]
        have hf := (fail_rc rb s r1 2).mid [⟨some b6, 6, reC x⟩] (⟨some b2, 6, zeroRE⟩ :: M)
        rw [show decide (((r1.at_ : Nat) : Int) < ((strOfNums s).size : Int)) = true from decide_eq_true (by omega)]
        refine acode_it rfl ?_
        refine acode_region ?_
        repeat (first | refine aops_put rfl ?_ | refine aops_o rfl rfl rfl ?_ | refine aops_max tok rfl rfl rfl rfl rfl rfl ?_ | refine aops_min tok rfl rfl rfl rfl rfl rfl ?_ | refine aops_a tok rfl (by omega) (by omega) rfl rfl rfl ?_ | refine aops_p tok rfl rfl rfl rfl ?_ | refine aops_ixa tok rfl rfl rfl (by decide) rfl rfl rfl rfl ?_ | refine aops_ld tok 0 rfl rfl rfl rfl rfl rfl rfl rfl ?_ | refine aops_ld tok 1 rfl rfl rfl rfl rfl rfl rfl rfl ?_ | refine aops_stn tok rfl rfl rfl rfl rfl rfl rfl rfl rfl ?_ | refine aops_stn1 tok rfl rfl rfl rfl rfl rfl rfl rfl rfl ?_)
        refine aops_callr Try.func18 rfl rfl rfl rfl hf rfl rfl rfl ?_
        refine aops_end ?_
        exact ⟨⟨rfl, rfl, rfl, rfl, trivial⟩, rfl⟩
      · rw [if_neg hlt]
        rw [show decide (((r1.at_ : Nat) : Int) < ((strOfNums s).size : Int)) = false from decide_eq_false (by omega)]
        refine acode_if rfl ?_
        refine acode_skip ?_
        refine then_n ?_
        exact ⟨⟨rfl, rfl, rfl, rfl, trivial⟩, rfl⟩
    · generalize (if r1.at_ < s.length then r1.fail 2 else r1) = r2 at *
      have hf := (failed_rc rb s r2).mid [⟨some b6, 6, reC x⟩] (⟨some b2, 6, zeroRE⟩ :: M)
      repeat (first | refine aops_put rfl ?_ | refine aops_end ?_ | refine aops_endb ?_ | refine aops_o rfl rfl rfl ?_ | refine aops_max tok rfl rfl rfl rfl rfl rfl ?_ | refine aops_min tok rfl rfl rfl rfl rfl rfl ?_ | refine aops_a tok rfl (by omega) (by omega) rfl rfl rfl ?_ | refine aops_p tok rfl rfl rfl rfl ?_ | refine aops_ixa tok rfl rfl rfl (by decide) rfl rfl rfl rfl ?_ | refine aops_ld tok 0 rfl rfl rfl rfl rfl rfl rfl rfl ?_ | refine aops_ld tok 1 rfl rfl rfl rfl rfl rfl rfl rfl ?_ | refine aops_stn tok rfl rfl rfl rfl rfl rfl rfl rfl rfl ?_ | refine aops_stn1 tok rfl rfl rfl rfl rfl rfl rfl rfl rfl ?_ | refine acode_seq ?_ | refine acode_region ?_ | refine acode_block ?_ | refine acode_skip ?_ | refine then_n ?_ | refine block_n ?_)
      refine aops_callr Try.func19 rfl rfl rfl rfl hf rfl rfl rfl ?_
      by_cases he : r2.e = 0
      · rw [decide_eq_false (by simpa using he), if_pos he]
        repeat (first | refine aops_put rfl ?_ | refine aops_o rfl rfl rfl ?_ | refine aops_max tok rfl rfl rfl rfl rfl rfl ?_ | refine aops_min tok rfl rfl rfl rfl rfl rfl ?_ | refine aops_a tok rfl (by omega) (by omega) rfl rfl rfl ?_ | refine aops_p tok rfl rfl rfl rfl ?_ | refine aops_ixa tok rfl rfl rfl (by decide) rfl rfl rfl rfl ?_ | refine aops_ld tok 0 rfl rfl rfl rfl rfl rfl rfl rfl ?_ | refine aops_ld tok 1 rfl rfl rfl rfl rfl rfl rfl rfl ?_ | refine aops_stn tok rfl rfl rfl rfl rfl rfl rfl rfl rfl ?_ | refine aops_stn1 tok rfl rfl rfl rfl rfl rfl rfl rfl rfl ?_)
        refine aops_end ?_
        refine acode_if rfl ?_
        refine acode_skip ?_
        refine then_n ?_
        refine acode_seq ?_
        refine acode_region ?_
        refine aops_ld tok 0 (y := .agg (reC x)) rfl rfl rfl rfl (ld_agg hx) rfl rfl rfl ?_
        repeat (first | refine aops_put rfl ?_ | refine aops_o rfl rfl rfl ?_ | refine aops_max tok rfl rfl rfl rfl rfl rfl ?_ | refine aops_min tok rfl rfl rfl rfl rfl rfl ?_ | refine aops_a tok rfl (by omega) (by omega) rfl rfl rfl ?_ | refine aops_p tok rfl rfl rfl rfl ?_ | refine aops_ixa tok rfl rfl rfl (by decide) rfl rfl rfl rfl ?_ | refine aops_ld tok 0 rfl rfl rfl rfl rfl rfl rfl rfl ?_ | refine aops_ld tok 1 rfl rfl rfl rfl rfl rfl rfl rfl ?_ | refine aops_stn tok rfl rfl rfl rfl rfl rfl rfl rfl rfl ?_ | refine aops_stn1 tok rfl rfl rfl rfl rfl rfl rfl rfl rfl ?_)
        refine aops_stk tok 2 (reC x) _ rfl rfl rfl rfl rfl hok (by show 0 + 6 ≤ 6; decide) (sto_all rfl) rfl rfl rfl ?_
        repeat (first | refine aops_put rfl ?_ | refine aops_o rfl rfl rfl ?_ | refine aops_max tok rfl rfl rfl rfl rfl rfl ?_ | refine aops_min tok rfl rfl rfl rfl rfl rfl ?_ | refine aops_a tok rfl (by omega) (by omega) rfl rfl rfl ?_ | refine aops_p tok rfl rfl rfl rfl ?_ | refine aops_ixa tok rfl rfl rfl (by decide) rfl rfl rfl rfl ?_ | refine aops_ld tok 0 rfl rfl rfl rfl rfl rfl rfl rfl ?_ | refine aops_ld tok 1 rfl rfl rfl rfl rfl rfl rfl rfl ?_ | refine aops_stn tok rfl rfl rfl rfl rfl rfl rfl rfl rfl ?_ | refine aops_stn1 tok rfl rfl rfl rfl rfl rfl rfl rfl rfl ?_)
        refine aops_end ?_
        rw [hsz]
        refine acode_drop0 ?_
        refine acode_drop0 ?_
        refine acode_pubref0 2 rfl ?_
        refine acode_ret ?_
        repeat (first | refine exit_then ?_ | refine exit_here ?_ | refine exit_out rfl ?_ | refine ret_then ?_ | refine ret_block ?_ | refine then_n ?_ | refine block_n ?_)
        exact ⟨_, ⟨rfl, rfl⟩, _, rfl, resOf_pp tok rfl rfl (pp_all hx)⟩
      · rw [decide_eq_true (by simpa using he), if_neg he, reC_none]
        repeat (first | refine aops_put rfl ?_ | refine aops_o rfl rfl rfl ?_ | refine aops_max tok rfl rfl rfl rfl rfl rfl ?_ | refine aops_min tok rfl rfl rfl rfl rfl rfl ?_ | refine aops_a tok rfl (by omega) (by omega) rfl rfl rfl ?_ | refine aops_p tok rfl rfl rfl rfl ?_ | refine aops_ixa tok rfl rfl rfl (by decide) rfl rfl rfl rfl ?_ | refine aops_ld tok 0 rfl rfl rfl rfl rfl rfl rfl rfl ?_ | refine aops_ld tok 1 rfl rfl rfl rfl rfl rfl rfl rfl ?_ | refine aops_stn tok rfl rfl rfl rfl rfl rfl rfl rfl rfl ?_ | refine aops_stn1 tok rfl rfl rfl rfl rfl rfl rfl rfl rfl ?_)
        refine aops_end ?_
        refine acode_it rfl ?_
        refine acode_seq ?_
        refine acode_drawP [rdO rb s r2] 14 [0, 1, 2, 3, 4, 5, 6, 7, 8, 9, 10, 11, 12, 13] [11] mixed (by kernel_rfl) (by kernel_rfl) rfl ?_
        repeat (first | refine seqO_put rfl ?_ | refine seqO_o rfl rfl rfl rfl ?_ | refine seqO_a tok rfl rfl (by omega) (by omega) rfl rfl rfl ?_ | refine seqO_p tok rfl rfl rfl rfl rfl ?_ | refine seqO_ld tok 0 rfl rfl rfl rfl rfl (by simp) rfl rfl rfl rfl ?_ | refine seqO_ld tok 1 rfl rfl rfl rfl rfl (by simp) rfl rfl rfl rfl ?_)
        refine seqO_st tok 2 zeroRE _ rfl rfl rfl rfl rfl rfl rfl (by show 0 + 6 ≤ 6; decide) rfl rfl (by simp) rfl rfl ?_
        repeat (first | refine seqO_put rfl ?_ | refine seqO_o rfl rfl rfl rfl ?_ | refine seqO_a tok rfl rfl (by omega) (by omega) rfl rfl rfl ?_ | refine seqO_p tok rfl rfl rfl rfl rfl ?_ | refine seqO_ld tok 0 rfl rfl rfl rfl rfl (by simp) rfl rfl rfl rfl ?_ | refine seqO_ld tok 1 rfl rfl rfl rfl rfl (by simp) rfl rfl rfl rfl ?_)
        refine SeqO.done ?_
        repeat (first | refine aops_put rfl ?_ | refine aops_o rfl rfl rfl ?_ | refine aops_max tok rfl rfl rfl rfl rfl rfl ?_ | refine aops_min tok rfl rfl rfl rfl rfl rfl ?_ | refine aops_a tok rfl (by omega) (by omega) rfl rfl rfl ?_ | refine aops_p tok rfl rfl rfl rfl ?_ | refine aops_ixa tok rfl rfl rfl (by decide) rfl rfl rfl rfl ?_ | refine aops_ld tok 0 rfl rfl rfl rfl rfl rfl rfl rfl ?_ | refine aops_ld tok 1 rfl rfl rfl rfl rfl rfl rfl rfl ?_ | refine aops_stn tok rfl rfl rfl rfl rfl rfl rfl rfl rfl ?_ | refine aops_stn1 tok rfl rfl rfl rfl rfl rfl rfl rfl rfl ?_)
        refine aops_end ?_
        refine acode_drop0 ?_
        refine acode_drop0 ?_
        refine acode_pubref0 2 rfl ?_
        refine acode_ret ?_
        repeat (first | refine exit_then ?_ | refine exit_here ?_ | refine exit_out rfl ?_ | refine ret_then ?_ | refine ret_block ?_ | refine then_n ?_ | refine block_n ?_)
        exact ⟨_, ⟨rfl, rfl⟩, _, rfl, resOf_pp tok rfl rfl rfl⟩
end Go.Proofs.Ytafncdbkbmaifaa.Ab

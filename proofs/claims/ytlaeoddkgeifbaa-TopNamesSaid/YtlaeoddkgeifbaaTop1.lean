/- The numbers of package api: the walk. No condition. -/
import Derived.Test.YtlaeoddkgeifbaaTabA
import Derived.Test.YtlaeoddkgeifbaaAbG
import Derived.Test.YtlaeoddkgeifbaaAbF
set_option linter.unusedVariables false
set_option linter.unusedSimpArgs false
namespace Go.Proofs.Ytlaeoddkgeifbaa.Ab

attribute [local irreducible] thenA inBlockA ACode AOps put IntKind.wrap
def e2 (p : Int × Int) : List A := [.int .i64 p.1, .int .i64 p.2]

set_option maxRecDepth 10000 in
theorem are_calls (l : List (Int × Int)) (hl : l.length ≤ 1000) (M : List Ob) : ACalls Try.prog 62 [.psl l.length (encs e2 l)] M (fun r M' => r = .bool (l.all fun p => p.1 == p.2) ∧ M' = M) := by
  refine acalls_of_code 21 Try.func62 rfl rfl rfl ?_
  repeat (first | refine aops_put rfl ?_ | refine aops_end ?_ | refine aops_o rfl rfl rfl ?_ | refine aops_a tok rfl (by omega) (by omega) rfl rfl rfl ?_ | refine aops_p tok rfl rfl rfl rfl ?_ | refine acode_seq ?_ | refine acode_region ?_ | refine acode_block ?_ | refine acode_skip ?_ | refine then_n ?_ | refine block_n ?_)
  refine acode_loopS (ι := Nat) (fun i => [(0, .psl l.length (encs e2 l)), (3, .int .i64 i)]) (fun _ => M) (fun i => l.length - i) (fun i => i ≤ l.length ∧ (l.take i).all (fun p => p.1 == p.2) = true) 0 ⟨Nat.zero_le _, by simp⟩ ⟨rfl, rfl, trivial⟩ rfl ?_
  rintro i ⟨hi, hp⟩
  repeat (first | refine aops_put rfl ?_ | refine aops_end ?_ | refine aops_o rfl rfl rfl ?_ | refine aops_a tok rfl (by omega) (by omega) rfl rfl rfl ?_ | refine aops_p tok rfl rfl rfl rfl ?_ | refine acode_seq ?_ | refine acode_region ?_ | refine acode_block ?_ | refine acode_skip ?_ | refine then_n ?_ | refine block_n ?_)
  refine acode_cond rfl (fun hb => ?_) (fun hb => ?_)
  · have hlt : i < l.length := by simpa using hb
    repeat (first | refine aops_put rfl ?_ | refine aops_end ?_ | refine aops_o rfl rfl rfl ?_ | refine aops_a tok rfl (by omega) (by omega) rfl rfl rfl ?_ | refine aops_p tok rfl rfl rfl rfl ?_ | refine acode_seq ?_ | refine acode_region ?_ | refine acode_block ?_ | refine acode_skip ?_ | refine then_n ?_ | refine block_n ?_)
    obtain ⟨p, hpi⟩ : ∃ p, l[i]? = some p := ⟨l[i], List.getElem?_eq_getElem hlt⟩
    have hix : e2 p <+: (encs e2 l).drop (((i : Int)).toNat * 2) := encs_at (e := e2) (s := 2) (fun _ => rfl) hpi
    refine acode_drawT 11 mixed (by kernel_rfl) (by kernel_rfl) ?_
    · repeat (first | refine seqT_put rfl ?_ | refine seqT_o rfl rfl rfl ?_ | refine seqT_a tok rfl (by omega) (by omega) rfl rfl rfl ?_ | refine seqT_p tok rfl rfl rfl rfl ?_)
      refine SeqT.cons (yields_index tok (e2 p) rfl rfl rfl rfl (by omega) (by omega) (by simp [e2]) hix rfl rfl) ?_
      repeat (first | refine seqT_put rfl ?_ | refine seqT_o rfl rfl rfl ?_ | refine seqT_a tok rfl (by omega) (by omega) rfl rfl rfl ?_ | refine seqT_p tok rfl rfl rfl rfl ?_)
      refine SeqT.cons (yields_index_arr tok rfl rfl rfl (by omega) (by omega) rfl rfl rfl) ?_
      repeat (first | refine seqT_put rfl ?_ | refine seqT_o rfl rfl rfl ?_ | refine seqT_a tok rfl (by omega) (by omega) rfl rfl rfl ?_ | refine seqT_p tok rfl rfl rfl rfl ?_)
      refine SeqT.cons (yields_index tok (e2 p) rfl rfl rfl rfl (by omega) (by omega) (by simp [e2]) hix rfl rfl) ?_
      repeat (first | refine seqT_put rfl ?_ | refine seqT_o rfl rfl rfl ?_ | refine seqT_a tok rfl (by omega) (by omega) rfl rfl rfl ?_ | refine seqT_p tok rfl rfl rfl rfl ?_)
      refine SeqT.cons (yields_index_arr tok rfl rfl rfl (by omega) (by omega) rfl rfl rfl) ?_
      repeat (first | refine seqT_put rfl ?_ | refine seqT_o rfl rfl rfl ?_ | refine seqT_a tok rfl (by omega) (by omega) rfl rfl rfl ?_ | refine seqT_p tok rfl rfl rfl rfl ?_)
      refine SeqT.done ?_
      repeat (first | refine aops_put rfl ?_ | refine aops_end ?_ | refine aops_o rfl rfl rfl ?_ | refine aops_a tok rfl (by omega) (by omega) rfl rfl rfl ?_ | refine aops_p tok rfl rfl rfl rfl ?_ | refine acode_seq ?_ | refine acode_region ?_ | refine acode_block ?_ | refine acode_skip ?_ | refine then_n ?_ | refine block_n ?_)
      refine acode_cond rfl (fun hb2 => ?_) (fun hb2 => ?_)
      · repeat (first | refine aops_put rfl ?_ | refine aops_end ?_ | refine aops_o rfl rfl rfl ?_ | refine aops_a tok rfl (by omega) (by omega) rfl rfl rfl ?_ | refine aops_p tok rfl rfl rfl rfl ?_ | refine acode_seq ?_ | refine acode_region ?_ | refine acode_block ?_ | refine acode_skip ?_ | refine then_n ?_ | refine block_n ?_)
        refine acode_ret ?_
        repeat (first | refine exit_then ?_ | refine exit_here ?_ | refine exit_out rfl ?_ | refine ret_then ?_ | refine ret_block ?_ | refine then_n ?_ | refine block_n ?_)
        refine ⟨_, ⟨rfl, rfl⟩, resOf_tmp ?_⟩
        have : (l.all fun p => p.1 == p.2) = false := by
          rw [List.all_eq_false]
          exact ⟨p, List.mem_of_getElem? hpi, by simpa using hb2⟩
        rw [this]; rfl
      · repeat (first | refine aops_put rfl ?_ | refine aops_end ?_ | refine aops_o rfl rfl rfl ?_ | refine aops_a tok rfl (by omega) (by omega) rfl rfl rfl ?_ | refine aops_p tok rfl rfl rfl rfl ?_ | refine acode_seq ?_ | refine acode_region ?_ | refine acode_block ?_ | refine acode_skip ?_ | refine then_n ?_ | refine block_n ?_)
        refine ⟨i + 1, ⟨by omega, ?_⟩, by omega, ⟨rfl, rfl, trivial⟩, rfl⟩
        rw [List.take_add_one, hpi]
        simp at hb2
        simp [hp, hb2]
  · have hge : i = l.length := by simp at hb; omega
    subst hge
    refine acode_exit ?_
    repeat (first | refine exit_then ?_ | refine exit_here ?_ | refine exit_out rfl ?_ | refine ret_then ?_ | refine ret_block ?_ | refine then_n ?_ | refine block_n ?_)
    repeat (first | refine aops_put rfl ?_ | refine aops_end ?_ | refine aops_o rfl rfl rfl ?_ | refine aops_a tok rfl (by omega) (by omega) rfl rfl rfl ?_ | refine aops_p tok rfl rfl rfl rfl ?_ | refine acode_seq ?_ | refine acode_region ?_ | refine acode_block ?_ | refine acode_skip ?_ | refine then_n ?_ | refine block_n ?_)
    refine acode_ret ?_
    exact ⟨_, ⟨rfl, rfl⟩, resOf_tmp (by rw [← hp]; simp; rfl)⟩

theorem first_calls (M : List Ob) : ACalls Try.prog 35 [] M (fun r M' => r = .bool true ∧ M' = M) := by
  refine acalls_of_code 16 Try.func35 rfl rfl rfl ?_
  repeat (first | refine aops_put rfl ?_ | refine aops_end ?_ | refine aops_o rfl rfl rfl ?_ | refine aops_a tok rfl (by omega) (by omega) rfl rfl rfl ?_ | refine aops_p tok rfl rfl rfl rfl ?_ | refine acode_seq ?_ | refine acode_region ?_ | refine acode_block ?_ | refine acode_skip ?_ | refine then_n ?_ | refine block_n ?_)
  refine aops_lit tok rfl rfl rfl rfl rfl rfl ?_
  repeat (first | refine aops_put rfl ?_ | refine aops_end ?_ | refine aops_o rfl rfl rfl ?_ | refine aops_a tok rfl (by omega) (by omega) rfl rfl rfl ?_ | refine aops_p tok rfl rfl rfl rfl ?_ | refine acode_seq ?_ | refine acode_region ?_ | refine acode_block ?_ | refine acode_skip ?_ | refine then_n ?_ | refine block_n ?_)
  refine aops_call Try.func62 rfl rfl rfl rfl (are_calls [(0, 0), (1, 1), (2, 2), (3, 3), (4, 4), (5, 5), (6, 6), (7, 7), (8, 8), (9, 9), (10, 10), (11, 11), (200, 200)] (by decide) M) rfl rfl ?_
  rintro x M' ⟨rfl, rfl⟩
  repeat (first | refine aops_put rfl ?_ | refine aops_end ?_ | refine aops_o rfl rfl rfl ?_ | refine aops_a tok rfl (by omega) (by omega) rfl rfl rfl ?_ | refine aops_p tok rfl rfl rfl rfl ?_ | refine acode_seq ?_ | refine acode_region ?_ | refine acode_block ?_ | refine acode_skip ?_ | refine then_n ?_ | refine block_n ?_)
  refine acode_ret ?_
  repeat (first | refine exit_then ?_ | refine exit_here ?_ | refine exit_out rfl ?_ | refine ret_then ?_ | refine ret_block ?_ | refine then_n ?_ | refine block_n ?_)
  exact ⟨_, ⟨rfl, rfl⟩, resOf_tmp rfl⟩

theorem second_calls (M : List Ob) : ACalls Try.prog 36 [] M (fun r M' => r = .bool true ∧ M' = M) := by
  refine acalls_of_code 16 Try.func36 rfl rfl rfl ?_
  repeat (first | refine aops_put rfl ?_ | refine aops_end ?_ | refine aops_o rfl rfl rfl ?_ | refine aops_a tok rfl (by omega) (by omega) rfl rfl rfl ?_ | refine aops_p tok rfl rfl rfl rfl ?_ | refine acode_seq ?_ | refine acode_region ?_ | refine acode_block ?_ | refine acode_skip ?_ | refine then_n ?_ | refine block_n ?_)
  refine aops_lit tok rfl rfl rfl rfl rfl rfl ?_
  repeat (first | refine aops_put rfl ?_ | refine aops_end ?_ | refine aops_o rfl rfl rfl ?_ | refine aops_a tok rfl (by omega) (by omega) rfl rfl rfl ?_ | refine aops_p tok rfl rfl rfl rfl ?_ | refine acode_seq ?_ | refine acode_region ?_ | refine acode_block ?_ | refine acode_skip ?_ | refine then_n ?_ | refine block_n ?_)
  refine aops_call Try.func62 rfl rfl rfl rfl (are_calls [(20, 20), (150, 150), (40, 40), (8, 8), (2000, 2000), (40, 40), (40, 40), (60, 60), (8, 8), (65536, 65536), (2000, 2000), (2000, 2000), (0, 0)] (by decide) M) rfl rfl ?_
  rintro x M' ⟨rfl, rfl⟩
  repeat (first | refine aops_put rfl ?_ | refine aops_end ?_ | refine aops_o rfl rfl rfl ?_ | refine aops_a tok rfl (by omega) (by omega) rfl rfl rfl ?_ | refine aops_p tok rfl rfl rfl rfl ?_ | refine acode_seq ?_ | refine acode_region ?_ | refine acode_block ?_ | refine acode_skip ?_ | refine then_n ?_ | refine block_n ?_)
  refine acode_ret ?_
  repeat (first | refine exit_then ?_ | refine exit_here ?_ | refine exit_out rfl ?_ | refine ret_then ?_ | refine ret_block ?_ | refine then_n ?_ | refine block_n ?_)
  exact ⟨_, ⟨rfl, rfl⟩, resOf_tmp rfl⟩

theorem third_calls (M : List Ob) : ACalls Try.prog 37 [] M (fun r M' => r = .bool true ∧ M' = M) := by
  refine acalls_of_code 14 Try.func37 rfl rfl rfl ?_
  repeat (first | refine aops_put rfl ?_ | refine aops_end ?_ | refine aops_o rfl rfl rfl ?_ | refine aops_a tok rfl (by omega) (by omega) rfl rfl rfl ?_ | refine aops_p tok rfl rfl rfl rfl ?_ | refine acode_seq ?_ | refine acode_region ?_ | refine acode_block ?_ | refine acode_skip ?_ | refine then_n ?_ | refine block_n ?_)
  refine aops_lit tok rfl rfl rfl rfl rfl rfl ?_
  repeat (first | refine aops_put rfl ?_ | refine aops_end ?_ | refine aops_o rfl rfl rfl ?_ | refine aops_a tok rfl (by omega) (by omega) rfl rfl rfl ?_ | refine aops_p tok rfl rfl rfl rfl ?_ | refine acode_seq ?_ | refine acode_region ?_ | refine acode_block ?_ | refine acode_skip ?_ | refine then_n ?_ | refine block_n ?_)
  refine aops_call Try.func62 rfl rfl rfl rfl (are_calls [(1, 1), (2, 2), (3, 3), (4, 4), (5, 5), (6, 6), (-1, -1), (-2, -2), (0, 0), (1, 1), (2, 2)] (by decide) M) rfl rfl ?_
  rintro x M' ⟨rfl, rfl⟩
  repeat (first | refine aops_put rfl ?_ | refine aops_end ?_ | refine aops_o rfl rfl rfl ?_ | refine aops_a tok rfl (by omega) (by omega) rfl rfl rfl ?_ | refine aops_p tok rfl rfl rfl rfl ?_ | refine acode_seq ?_ | refine acode_region ?_ | refine acode_block ?_ | refine acode_skip ?_ | refine then_n ?_ | refine block_n ?_)
  refine acode_ret ?_
  repeat (first | refine exit_then ?_ | refine exit_here ?_ | refine exit_out rfl ?_ | refine ret_then ?_ | refine ret_block ?_ | refine then_n ?_ | refine block_n ?_)
  exact ⟨_, ⟨rfl, rfl⟩, resOf_tmp rfl⟩

theorem topNames_calls (xs : List A) (h : GoodL T [] xs) : ACalls Try.prog 12 xs [] (fun r _ => r = .bool true) := by
  cases h
  refine acalls_of_code 8 Try.func12 rfl rfl rfl ?_
  repeat (first | refine aops_put rfl ?_ | refine aops_end ?_ | refine aops_o rfl rfl rfl ?_ | refine aops_a tok rfl (by omega) (by omega) rfl rfl rfl ?_ | refine aops_p tok rfl rfl rfl rfl ?_ | refine acode_seq ?_ | refine acode_region ?_ | refine acode_block ?_ | refine acode_skip ?_ | refine then_n ?_ | refine block_n ?_)
  refine aops_call Try.func35 rfl rfl rfl rfl (first_calls _) rfl rfl ?_
  rintro x M' ⟨rfl, rfl⟩
  repeat (first | refine aops_put rfl ?_ | refine aops_end ?_ | refine aops_o rfl rfl rfl ?_ | refine aops_a tok rfl (by omega) (by omega) rfl rfl rfl ?_ | refine aops_p tok rfl rfl rfl rfl ?_ | refine acode_seq ?_ | refine acode_region ?_ | refine acode_block ?_ | refine acode_skip ?_ | refine then_n ?_ | refine block_n ?_)
  refine aops_call Try.func36 rfl rfl rfl rfl (second_calls _) rfl rfl ?_
  rintro x M' ⟨rfl, rfl⟩
  repeat (first | refine aops_put rfl ?_ | refine aops_end ?_ | refine aops_o rfl rfl rfl ?_ | refine aops_a tok rfl (by omega) (by omega) rfl rfl rfl ?_ | refine aops_p tok rfl rfl rfl rfl ?_ | refine acode_seq ?_ | refine acode_region ?_ | refine acode_block ?_ | refine acode_skip ?_ | refine then_n ?_ | refine block_n ?_)
  refine aops_call Try.func37 rfl rfl rfl rfl (third_calls _) rfl rfl ?_
  rintro x M' ⟨rfl, rfl⟩
  repeat (first | refine aops_put rfl ?_ | refine aops_end ?_ | refine aops_o rfl rfl rfl ?_ | refine aops_a tok rfl (by omega) (by omega) rfl rfl rfl ?_ | refine aops_p tok rfl rfl rfl rfl ?_ | refine acode_seq ?_ | refine acode_region ?_ | refine acode_block ?_ | refine acode_skip ?_ | refine then_n ?_ | refine block_n ?_)
  refine acode_ret ?_
  repeat (first | refine exit_then ?_ | refine exit_here ?_ | refine exit_out rfl ?_ | refine ret_then ?_ | refine ret_block ?_ | refine then_n ?_ | refine block_n ?_)
  exact ⟨_, rfl, resOf_tmp rfl⟩
end Go.Proofs.Ytlaeoddkgeifbaa.Ab

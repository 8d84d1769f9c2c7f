/- Chapter 1's functions, Clamp to Back: the walk. No condition. -/
import Derived.Test.YtlaeoddkgeifbaaSpl1
set_option linter.unusedVariables false
set_option linter.unusedSimpArgs false
namespace Go.Proofs.Ytlaeoddkgeifbaa.Ab
attribute [local irreducible] thenA inBlockA ACode AOps put IntKind.wrap

def sp (a d : Int) (xs : List Int) : A := .agg [.int .i64 a, .int .i64 d, .psl xs.length (u8s xs)]
def cAt (n a : Int) : Int := max 0 (min a (max 0 n))
def cDel (n a d : Int) : Int := max 0 (min d (max 0 n - cAt n a))
theorem u8s_len (xs : List Int) : (u8s xs).length = xs.length := by simp [u8s]
theorem u8s_cell (xs : List Int) : (u8s xs).all A.isCell = true := by simp [u8s, A.isCell]

theorem clamp_calls {n a d : Int} {xs : List Int} (h1 : n ≤ 9223372036854775807) (hx : xs.length ≤ 1000000) (M : List Ob) : ACalls Try.prog 22 [.int .i64 n, sp a d xs] M (fun r M' => r = sp (cAt n a) (cDel n a d) xs ∧ M' = M) := by
  refine acalls_of_code 25 Try.func22 rfl rfl rfl ?_
  repeat (first | refine aops_put rfl ?_ | refine aops_end ?_ | refine aops_endb ?_ | refine aops_o rfl rfl rfl ?_ | refine aops_max tok rfl rfl rfl rfl rfl rfl ?_ | refine aops_min tok rfl rfl rfl rfl rfl rfl ?_ | refine aops_a tok rfl (by omega) (by omega) rfl rfl rfl ?_ | refine aops_p tok rfl rfl rfl rfl ?_ | refine aops_ld tok 0 rfl rfl rfl rfl rfl rfl rfl rfl ?_ | refine aops_ld tok 1 rfl rfl rfl rfl rfl rfl rfl rfl ?_ | refine aops_stn tok rfl rfl rfl rfl rfl rfl rfl rfl rfl ?_ | refine aops_stn1 tok rfl rfl rfl rfl rfl rfl rfl rfl rfl ?_ | refine acode_seq ?_ | refine acode_region ?_ | refine acode_block ?_ | refine acode_skip ?_ | refine then_n ?_ | refine block_n ?_)
  refine aops_boxf rfl rfl rfl rfl rfl rfl rfl ?_
  repeat (first | refine aops_put rfl ?_ | refine aops_end ?_ | refine aops_endb ?_ | refine aops_o rfl rfl rfl ?_ | refine aops_max tok rfl rfl rfl rfl rfl rfl ?_ | refine aops_min tok rfl rfl rfl rfl rfl rfl ?_ | refine aops_a tok rfl (by omega) (by omega) rfl rfl rfl ?_ | refine aops_p tok rfl rfl rfl rfl ?_ | refine aops_ld tok 0 rfl rfl rfl rfl rfl rfl rfl rfl ?_ | refine aops_ld tok 1 rfl rfl rfl rfl rfl rfl rfl rfl ?_ | refine aops_stn tok rfl rfl rfl rfl rfl rfl rfl rfl rfl ?_ | refine aops_stn1 tok rfl rfl rfl rfl rfl rfl rfl rfl rfl ?_ | refine acode_seq ?_ | refine acode_region ?_ | refine acode_block ?_ | refine acode_skip ?_ | refine then_n ?_ | refine block_n ?_)
  refine aops_alloc tok rfl rfl rfl rfl rfl rfl fun b => ?_
  repeat (first | refine aops_put rfl ?_ | refine aops_end ?_ | refine aops_endb ?_ | refine aops_o rfl rfl rfl ?_ | refine aops_max tok rfl rfl rfl rfl rfl rfl ?_ | refine aops_min tok rfl rfl rfl rfl rfl rfl ?_ | refine aops_a tok rfl (by omega) (by omega) rfl rfl rfl ?_ | refine aops_p tok rfl rfl rfl rfl ?_ | refine aops_ld tok 0 rfl rfl rfl rfl rfl rfl rfl rfl ?_ | refine aops_ld tok 1 rfl rfl rfl rfl rfl rfl rfl rfl ?_ | refine aops_stn tok rfl rfl rfl rfl rfl rfl rfl rfl rfl ?_ | refine aops_stn1 tok rfl rfl rfl rfl rfl rfl rfl rfl rfl ?_ | refine acode_seq ?_ | refine acode_region ?_ | refine acode_block ?_ | refine acode_skip ?_ | refine then_n ?_ | refine block_n ?_)
  refine acode_drawT 12 mixed (by kernel_rfl) (by kernel_rfl) ?_
  repeat (first | refine seqT_put rfl ?_ | refine seqT_o rfl rfl rfl ?_ | refine seqT_max tok rfl rfl rfl rfl rfl rfl ?_ | refine seqT_min tok rfl rfl rfl rfl rfl rfl ?_ | refine seqT_a tok rfl (by omega) (by omega) rfl rfl rfl ?_ | refine seqT_p tok rfl rfl rfl rfl ?_ | refine seqT_ld tok 0 rfl rfl rfl rfl rfl rfl rfl rfl ?_ | refine seqT_ld tok 1 rfl rfl rfl rfl rfl rfl rfl rfl ?_)
  refine seqT_call _ Try.func53 rfl rfl rfl rfl (clone_calls (u8s_len xs) (u8s_cell xs) hx _) rfl rfl rfl ?_
  repeat (first | refine seqT_put rfl ?_ | refine seqT_o rfl rfl rfl ?_ | refine seqT_max tok rfl rfl rfl rfl rfl rfl ?_ | refine seqT_min tok rfl rfl rfl rfl rfl rfl ?_ | refine seqT_a tok rfl (by omega) (by omega) rfl rfl rfl ?_ | refine seqT_p tok rfl rfl rfl rfl ?_ | refine seqT_ld tok 0 rfl rfl rfl rfl rfl rfl rfl rfl ?_ | refine seqT_ld tok 1 rfl rfl rfl rfl rfl rfl rfl rfl ?_)
  refine SeqT.done ?_
  repeat (first | refine aops_put rfl ?_ | refine aops_end ?_ | refine aops_endb ?_ | refine aops_o rfl rfl rfl ?_ | refine aops_max tok rfl rfl rfl rfl rfl rfl ?_ | refine aops_min tok rfl rfl rfl rfl rfl rfl ?_ | refine aops_a tok rfl (by omega) (by omega) rfl rfl rfl ?_ | refine aops_p tok rfl rfl rfl rfl ?_ | refine aops_ld tok 0 rfl rfl rfl rfl rfl rfl rfl rfl ?_ | refine aops_ld tok 1 rfl rfl rfl rfl rfl rfl rfl rfl ?_ | refine aops_stn tok rfl rfl rfl rfl rfl rfl rfl rfl rfl ?_ | refine aops_stn1 tok rfl rfl rfl rfl rfl rfl rfl rfl rfl ?_ | refine acode_seq ?_ | refine acode_region ?_ | refine acode_block ?_ | refine acode_skip ?_ | refine then_n ?_ | refine block_n ?_)
  refine acode_pubref0 4 rfl ?_
  refine acode_ret ?_
  repeat (first | refine exit_then ?_ | refine exit_here ?_ | refine exit_out rfl ?_ | refine ret_then ?_ | refine ret_block ?_ | refine then_n ?_ | refine block_n ?_)
  exact ⟨sp (cAt n a) (cDel n a d) xs, ⟨rfl, rfl⟩, resOf_pp tok rfl rfl rfl⟩

def doS (bs : List Int) (a d : Int) (xs : List Int) : List Int := bs.take (cAt bs.length a).toNat ++ (xs ++ bs.drop (cAt bs.length a + cDel bs.length a d).toNat)
theorem cAt_b (n a : Int) (h : 0 ≤ n) : 0 ≤ cAt n a ∧ cAt n a ≤ n := by unfold cAt; omega
theorem cDel_b (n a d : Int) (h : 0 ≤ n) : 0 ≤ cDel n a d ∧ cAt n a + cDel n a d ≤ n := by unfold cDel cAt; omega
theorem u8s_take (xs : List Int) (n : Nat) : (u8s xs).take n = u8s (xs.take n) := by simp [u8s, List.map_take]
theorem u8s_drop (xs : List Int) (n : Nat) : (u8s xs).drop n = u8s (xs.drop n) := by simp [u8s, List.map_drop]
theorem u8s_app (xs ys : List Int) : u8s xs ++ u8s ys = u8s (xs ++ ys) := by simp [u8s]

theorem concat3_calls (xs ys zs : List Int) (hb : xs.length + (ys.length + zs.length) ≤ 1000000) (M : List Ob) : ACalls Try.prog 54 [.psl 3 [.psl xs.length (u8s xs), .psl ys.length (u8s ys), .psl zs.length (u8s zs)]] M (fun r M' => r = .psl (xs ++ (ys ++ zs)).length (u8s (xs ++ (ys ++ zs))) ∧ M' = M) := by
  have hfl : [u8s xs, u8s ys, u8s zs].flatten = u8s (xs ++ (ys ++ zs)) := by simp [u8s_app]
  have hc := acalls_frozen (M := M) (sz := 1) (by simp [sums]) (by omega) (concat_calls [u8s xs, u8s ys, u8s zs] (by simp) (fun l hl => by simp at hl; rcases hl with rfl | rfl | rfl <;> exact u8s_cell _) (by unfold sums; rw [hfl, u8s_len]; simp; omega) M)
  unfold sums at hc
  rw [hfl, u8s_len] at hc
  simp only [psls, List.map, u8s_len] at hc
  exact hc

theorem do_calls {bs xs : List Int} {a d : Int} (hb : bs.length ≤ 400000) (hx : xs.length ≤ 400000) (M : List Ob) :
    ACalls Try.prog 23 [.psl bs.length (u8s bs), sp a d xs] M (fun r M' => r = .psl (doS bs a d xs).length (u8s (doS bs a d xs)) ∧ M' = M) := by
  obtain ⟨a0, a1⟩ := cAt_b bs.length a (by omega)
  obtain ⟨d0, d1⟩ := cDel_b bs.length a d (by omega)
  refine acalls_of_code 24 Try.func23 rfl rfl rfl ?_
  repeat (first | refine aops_put rfl ?_ | refine aops_end ?_ | refine aops_endb ?_ | refine aops_o rfl rfl rfl ?_ | refine aops_max tok rfl rfl rfl rfl rfl rfl ?_ | refine aops_min tok rfl rfl rfl rfl rfl rfl ?_ | refine aops_a tok rfl (by omega) (by omega) rfl rfl rfl ?_ | refine aops_p tok rfl rfl rfl rfl ?_ | refine aops_ld tok 0 rfl rfl rfl rfl rfl rfl rfl rfl ?_ | refine aops_ld tok 1 rfl rfl rfl rfl rfl rfl rfl rfl ?_ | refine aops_stn tok rfl rfl rfl rfl rfl rfl rfl rfl rfl ?_ | refine aops_stn1 tok rfl rfl rfl rfl rfl rfl rfl rfl rfl ?_ | refine acode_seq ?_ | refine acode_region ?_ | refine acode_block ?_ | refine acode_skip ?_ | refine then_n ?_ | refine block_n ?_)
  refine aops_boxo rfl rfl rfl rfl rfl rfl rfl fun b => ?_
  repeat (first | refine aops_put rfl ?_ | refine aops_end ?_ | refine aops_endb ?_ | refine aops_o rfl rfl rfl ?_ | refine aops_max tok rfl rfl rfl rfl rfl rfl ?_ | refine aops_min tok rfl rfl rfl rfl rfl rfl ?_ | refine aops_a tok rfl (by omega) (by omega) rfl rfl rfl ?_ | refine aops_p tok rfl rfl rfl rfl ?_ | refine aops_ld tok 0 rfl rfl rfl rfl rfl rfl rfl rfl ?_ | refine aops_ld tok 1 rfl rfl rfl rfl rfl rfl rfl rfl ?_ | refine aops_stn tok rfl rfl rfl rfl rfl rfl rfl rfl rfl ?_ | refine aops_stn1 tok rfl rfl rfl rfl rfl rfl rfl rfl rfl ?_ | refine acode_seq ?_ | refine acode_region ?_ | refine acode_block ?_ | refine acode_skip ?_ | refine then_n ?_ | refine block_n ?_)
  refine aops_callx Try.func22 rfl rfl rfl rfl (clamp_calls (by omega) (by omega) _) rfl rfl rfl ?_
  repeat (first | refine aops_put rfl ?_ | refine aops_end ?_ | refine aops_endb ?_ | refine aops_o rfl rfl rfl ?_ | refine aops_max tok rfl rfl rfl rfl rfl rfl ?_ | refine aops_min tok rfl rfl rfl rfl rfl rfl ?_ | refine aops_a tok rfl (by omega) (by omega) rfl rfl rfl ?_ | refine aops_p tok rfl rfl rfl rfl ?_ | refine aops_ld tok 0 rfl rfl rfl rfl rfl rfl rfl rfl ?_ | refine aops_ld tok 1 rfl rfl rfl rfl rfl rfl rfl rfl ?_ | refine aops_stn tok rfl rfl rfl rfl rfl rfl rfl rfl rfl ?_ | refine aops_stn1 tok rfl rfl rfl rfl rfl rfl rfl rfl rfl ?_ | refine acode_seq ?_ | refine acode_region ?_ | refine acode_block ?_ | refine acode_skip ?_ | refine then_n ?_ | refine block_n ?_)
  refine acode_drawT 15 mixed (by kernel_rfl) (by kernel_rfl) ?_
  repeat (first | refine seqT_put rfl ?_ | refine seqT_o rfl rfl rfl ?_ | refine seqT_max tok rfl rfl rfl rfl rfl rfl ?_ | refine seqT_min tok rfl rfl rfl rfl rfl rfl ?_ | refine seqT_a tok rfl (by omega) (by omega) rfl rfl rfl ?_ | refine seqT_p tok rfl rfl rfl rfl ?_ | refine seqT_ld tok 0 rfl rfl rfl rfl rfl rfl rfl rfl ?_ | refine seqT_ld tok 1 rfl rfl rfl rfl rfl rfl rfl rfl ?_)
  refine seqT_slc tok (bs.take (cAt bs.length a).toNat).length (u8s (bs.take (cAt bs.length a).toNat)) rfl rfl rfl rfl rfl (by omega) a0 a1 (by simp; omega) (by rw [u8s_len]; exact (Nat.mul_one _).symm) (by simp [u8s_take]; rw [Nat.min_eq_left (by omega)]) rfl rfl rfl ?_
  repeat (first | refine seqT_put rfl ?_ | refine seqT_o rfl rfl rfl ?_ | refine seqT_max tok rfl rfl rfl rfl rfl rfl ?_ | refine seqT_min tok rfl rfl rfl rfl rfl rfl ?_ | refine seqT_a tok rfl (by omega) (by omega) rfl rfl rfl ?_ | refine seqT_p tok rfl rfl rfl rfl ?_ | refine seqT_ld tok 0 rfl rfl rfl rfl rfl rfl rfl rfl ?_ | refine seqT_ld tok 1 rfl rfl rfl rfl rfl rfl rfl rfl ?_)
  refine seqT_slc tok (bs.drop (cAt bs.length a + cDel bs.length a d).toNat).length (u8s (bs.drop (cAt bs.length a + cDel bs.length a d).toNat)) rfl rfl rfl rfl rfl (by omega) d1 (by omega) (by simp) (by rw [u8s_len]; exact (Nat.mul_one _).symm) (by simp [u8s_drop, u8s_take]; rw [List.take_of_length_le (by simp)]) rfl rfl rfl ?_
  repeat (first | refine seqT_put rfl ?_ | refine seqT_o rfl rfl rfl ?_ | refine seqT_max tok rfl rfl rfl rfl rfl rfl ?_ | refine seqT_min tok rfl rfl rfl rfl rfl rfl ?_ | refine seqT_a tok rfl (by omega) (by omega) rfl rfl rfl ?_ | refine seqT_p tok rfl rfl rfl rfl ?_ | refine seqT_ld tok 0 rfl rfl rfl rfl rfl rfl rfl rfl ?_ | refine seqT_ld tok 1 rfl rfl rfl rfl rfl rfl rfl rfl ?_)
  refine seqT_lit tok rfl rfl rfl rfl rfl rfl rfl ?_
  repeat (first | refine seqT_put rfl ?_ | refine seqT_o rfl rfl rfl ?_ | refine seqT_max tok rfl rfl rfl rfl rfl rfl ?_ | refine seqT_min tok rfl rfl rfl rfl rfl rfl ?_ | refine seqT_a tok rfl (by omega) (by omega) rfl rfl rfl ?_ | refine seqT_p tok rfl rfl rfl rfl ?_ | refine seqT_ld tok 0 rfl rfl rfl rfl rfl rfl rfl rfl ?_ | refine seqT_ld tok 1 rfl rfl rfl rfl rfl rfl rfl rfl ?_)
  refine seqT_call _ Try.func54 rfl rfl rfl rfl (concat3_calls _ _ _ (by simp; omega) _) rfl rfl rfl ?_
  refine SeqT.done ?_
  repeat (first | refine aops_put rfl ?_ | refine aops_end ?_ | refine aops_endb ?_ | refine aops_o rfl rfl rfl ?_ | refine aops_max tok rfl rfl rfl rfl rfl rfl ?_ | refine aops_min tok rfl rfl rfl rfl rfl rfl ?_ | refine aops_a tok rfl (by omega) (by omega) rfl rfl rfl ?_ | refine aops_p tok rfl rfl rfl rfl ?_ | refine aops_ld tok 0 rfl rfl rfl rfl rfl rfl rfl rfl ?_ | refine aops_ld tok 1 rfl rfl rfl rfl rfl rfl rfl rfl ?_ | refine aops_stn tok rfl rfl rfl rfl rfl rfl rfl rfl rfl ?_ | refine aops_stn1 tok rfl rfl rfl rfl rfl rfl rfl rfl rfl ?_ | refine acode_seq ?_ | refine acode_region ?_ | refine acode_block ?_ | refine acode_skip ?_ | refine then_n ?_ | refine block_n ?_)
  refine acode_drop0 ?_
  refine acode_ret ?_
  repeat (first | refine exit_then ?_ | refine exit_here ?_ | refine exit_out rfl ?_ | refine ret_then ?_ | refine ret_block ?_ | refine then_n ?_ | refine block_n ?_)
  exact ⟨_, ⟨rfl, rfl⟩, resOf_tmp rfl⟩
end Go.Proofs.Ytlaeoddkgeifbaa.Ab

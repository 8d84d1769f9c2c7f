/- Chapter 6's Next and its reference: the walk. No condition. -/
import Derived.Test.YtlaeoddkgeifbaaScan1
import Derived.Test.YtlaeoddkgeifbaaSpl6
set_option linter.unusedVariables false
set_option linter.unusedSimpArgs false
namespace Go.Proofs.Ytlaeoddkgeifbaa.Ab
attribute [local irreducible] thenA inBlockA ACode AOps put IntKind.wrap

def runF (nx : List (List Int)) (ac : List Int) : Int → Int → Int → Int → List Int → Int × Int × Int
  | _, r, l, i, [] => (r, l, i + 1)
  | s, r, l, i, c :: cs => if stepF nx ac s c < 0 then (r, l, i + 1) else if accF nx ac (stepF nx ac s c) ≥ 0 then runF nx ac (stepF nx ac s c) (accF nx ac (stepF nx ac s c)) (i + 1) (i + 1) cs else runF nx ac (stepF nx ac s c) r l (i + 1) cs
def tup3 (p : Int × Int × Int) : A := .tup [.int .i64 p.1, .int .i64 p.2.1, .int .i64 p.2.2]
def nextF (nx : List (List Int)) (ac : List Int) (bs : List Int) (at_ : Int) : Int × Int × Int := runF nx ac 0 (-1) 0 0 (bs.drop (cAt bs.length at_).toNat)

theorem step_ok {nx : List (List Int)} {ac : List Int} {s c : Int} (h : ¬ stepF nx ac s c < 0) : isS nx ac (stepF nx ac s c) := by
  unfold stepF at h ⊢
  split
  · rename_i h1
    rw [if_pos h1] at h
    simp only at h ⊢
    split
    · rename_i h2
      rw [if_pos h2] at h
      split
      · assumption
      · rename_i h3; rw [if_neg h3] at h; omega
    · rename_i h2; rw [if_neg h2] at h; omega
  · rename_i h1; rw [if_neg h1] at h; omega

set_option maxHeartbeats 2000000 in
theorem next_calls {nx : List (List Int)} {ac bs : List Int} {at_ : Int} (hb : bs.length ≤ 400000) (hw : ∀ n ∈ bs, 0 ≤ n ∧ n < 256) (M : List Ob) :
    ACalls Try.prog 15 [dfaA nx ac, .psl bs.length (u8s bs), .int .i64 at_] M (fun r M' => r = tup3 (nextF nx ac bs at_) ∧ M' = M) := by
  obtain ⟨a0, a1⟩ := cAt_b bs.length at_ (by omega)
  have hm : max 0 (min at_ (bs.length : Int)) = cAt bs.length at_ := by unfold cAt; omega
  refine acalls_of_code 53 Try.func15 rfl rfl rfl ?_
  repeat (first | refine aops_put rfl ?_ | refine aops_end ?_ | refine aops_endb ?_ | refine aops_o rfl rfl rfl ?_ | refine aops_max tok rfl rfl rfl rfl rfl rfl ?_ | refine aops_min tok rfl rfl rfl rfl rfl rfl ?_ | refine aops_a tok rfl (by omega) (by omega) rfl rfl rfl ?_ | refine aops_p tok rfl rfl rfl rfl ?_ | refine aops_ld tok 0 rfl rfl rfl rfl rfl rfl rfl rfl ?_ | refine aops_ld tok 1 rfl rfl rfl rfl rfl rfl rfl rfl ?_ | refine aops_stn tok rfl rfl rfl rfl rfl rfl rfl rfl rfl ?_ | refine aops_stn1 tok rfl rfl rfl rfl rfl rfl rfl rfl rfl ?_ | refine acode_seq ?_ | refine acode_region ?_ | refine acode_block ?_ | refine acode_skip ?_ | refine then_n ?_ | refine block_n ?_)
  refine aops_boxf rfl rfl rfl rfl rfl rfl rfl ?_
  repeat (first | refine aops_put rfl ?_ | refine aops_end ?_ | refine aops_endb ?_ | refine aops_o rfl rfl rfl ?_ | refine aops_max tok rfl rfl rfl rfl rfl rfl ?_ | refine aops_min tok rfl rfl rfl rfl rfl rfl ?_ | refine aops_a tok rfl (by omega) (by omega) rfl rfl rfl ?_ | refine aops_p tok rfl rfl rfl rfl ?_ | refine aops_ld tok 0 rfl rfl rfl rfl rfl rfl rfl rfl ?_ | refine aops_ld tok 1 rfl rfl rfl rfl rfl rfl rfl rfl ?_ | refine aops_stn tok rfl rfl rfl rfl rfl rfl rfl rfl rfl ?_ | refine aops_stn1 tok rfl rfl rfl rfl rfl rfl rfl rfl rfl ?_ | refine acode_seq ?_ | refine acode_region ?_ | refine acode_block ?_ | refine acode_skip ?_ | refine then_n ?_ | refine block_n ?_)
  rw [hm]
  refine aops_slc tok (bs.drop (cAt bs.length at_).toNat).length (u8s (bs.drop (cAt bs.length at_).toNat)) rfl rfl rfl rfl rfl a0 a1 (by omega) (by simp) (by rw [u8s_len]; exact (Nat.mul_one _).symm) (by simp [u8s_drop, u8s_take]; rw [List.take_of_length_le (by simp)]) rfl rfl rfl ?_
  have hw' : ∀ n ∈ bs.drop (cAt bs.length at_).toNat, 0 ≤ n ∧ n < 256 := fun n hn => hw n (List.mem_of_mem_drop hn)
  have hb' : (bs.drop (cAt bs.length at_).toNat).length ≤ 400000 := by simp; omega
  have hR : nextF nx ac bs at_ = runF nx ac 0 (-1) 0 0 (bs.drop (cAt bs.length at_).toNat) := rfl
  generalize bs.drop (cAt bs.length at_).toNat = cs at *
  rw [hR]
  repeat (first | refine aops_put rfl ?_ | refine aops_end ?_ | refine aops_endb ?_ | refine aops_o rfl rfl rfl ?_ | refine aops_max tok rfl rfl rfl rfl rfl rfl ?_ | refine aops_min tok rfl rfl rfl rfl rfl rfl ?_ | refine aops_a tok rfl (by omega) (by omega) rfl rfl rfl ?_ | refine aops_p tok rfl rfl rfl rfl ?_ | refine aops_ld tok 0 rfl rfl rfl rfl rfl rfl rfl rfl ?_ | refine aops_ld tok 1 rfl rfl rfl rfl rfl rfl rfl rfl ?_ | refine aops_stn tok rfl rfl rfl rfl rfl rfl rfl rfl rfl ?_ | refine aops_stn1 tok rfl rfl rfl rfl rfl rfl rfl rfl rfl ?_ | refine acode_seq ?_ | refine acode_region ?_ | refine acode_block ?_ | refine acode_skip ?_ | refine then_n ?_ | refine block_n ?_)
  refine acode_loopS (ι := Nat × Int × Int × Int) (fun p => [(22, .psl cs.length (u8s cs)), (23, .int .i64 cs.length), (24, .int .i64 p.1), (11, .int .i64 p.2.1), (9, .int .i64 p.2.2.1), (10, .int .i64 p.2.2.2), (3, .pp [.psl nx.length (rows nx), .psl ac.length (i64s ac)]), (1, .psl cs.length (u8s cs))]) (fun _ => M) (fun p => cs.length - p.1)
    (fun p => p.1 ≤ cs.length ∧ runF nx ac p.2.1 p.2.2.1 p.2.2.2 p.1 (cs.drop p.1) = runF nx ac 0 (-1) 0 0 cs) (0, 0, -1, 0) ⟨Nat.zero_le _, rfl⟩ ⟨rfl, rfl, rfl, rfl, rfl, rfl, rfl, rfl, trivial⟩ rfl ?_
  rintro ⟨i, s, r, l⟩ ⟨hi, hrun⟩
  simp only at hi hrun ⊢
  repeat (first | refine aops_put rfl ?_ | refine aops_end ?_ | refine aops_endb ?_ | refine aops_o rfl rfl rfl ?_ | refine aops_max tok rfl rfl rfl rfl rfl rfl ?_ | refine aops_min tok rfl rfl rfl rfl rfl rfl ?_ | refine aops_a tok rfl (by omega) (by omega) rfl rfl rfl ?_ | refine aops_p tok rfl rfl rfl rfl ?_ | refine aops_ld tok 0 rfl rfl rfl rfl rfl rfl rfl rfl ?_ | refine aops_ld tok 1 rfl rfl rfl rfl rfl rfl rfl rfl ?_ | refine aops_stn tok rfl rfl rfl rfl rfl rfl rfl rfl rfl ?_ | refine aops_stn1 tok rfl rfl rfl rfl rfl rfl rfl rfl rfl ?_ | refine acode_seq ?_ | refine acode_region ?_ | refine acode_block ?_ | refine acode_skip ?_ | refine then_n ?_ | refine block_n ?_)
  refine acode_cond rfl (fun e => ?_) (fun e => ?_)
  · have hlt : i < cs.length := by simpa using e
    obtain ⟨c, hc⟩ : ∃ c, cs[i]? = some c := ⟨cs[i], List.getElem?_eq_getElem hlt⟩
    have hcm := hw' c (List.mem_of_getElem? hc)
    have hdr : cs.drop i = c :: cs.drop (i + 1) := by
      rw [List.drop_eq_getElem_cons hlt]
      rw [List.getElem?_eq_getElem hlt] at hc
      rw [Option.some.inj hc]
    rw [hdr] at hrun
    repeat (first | refine aops_put rfl ?_ | refine aops_end ?_ | refine aops_endb ?_ | refine aops_o rfl rfl rfl ?_ | refine aops_max tok rfl rfl rfl rfl rfl rfl ?_ | refine aops_min tok rfl rfl rfl rfl rfl rfl ?_ | refine aops_a tok rfl (by omega) (by omega) rfl rfl rfl ?_ | refine aops_p tok rfl rfl rfl rfl ?_ | refine aops_ld tok 0 rfl rfl rfl rfl rfl rfl rfl rfl ?_ | refine aops_ld tok 1 rfl rfl rfl rfl rfl rfl rfl rfl ?_ | refine aops_stn tok rfl rfl rfl rfl rfl rfl rfl rfl rfl ?_ | refine aops_stn1 tok rfl rfl rfl rfl rfl rfl rfl rfl rfl ?_ | refine acode_seq ?_ | refine acode_region ?_ | refine acode_block ?_ | refine acode_skip ?_ | refine then_n ?_ | refine block_n ?_)
    refine aops_index tok [A.int .u8 c] rfl rfl rfl rfl (by omega) (by omega) (by simp) (u8s_at (j := i) (by simpa using hc)) rfl rfl ?_
    repeat (first | refine aops_put rfl ?_ | refine aops_end ?_ | refine aops_endb ?_ | refine aops_o rfl rfl rfl ?_ | refine aops_max tok rfl rfl rfl rfl rfl rfl ?_ | refine aops_min tok rfl rfl rfl rfl rfl rfl ?_ | refine aops_a tok rfl (by omega) (by omega) rfl rfl rfl ?_ | refine aops_p tok rfl rfl rfl rfl ?_ | refine aops_ld tok 0 rfl rfl rfl rfl rfl rfl rfl rfl ?_ | refine aops_ld tok 1 rfl rfl rfl rfl rfl rfl rfl rfl ?_ | refine aops_stn tok rfl rfl rfl rfl rfl rfl rfl rfl rfl ?_ | refine aops_stn1 tok rfl rfl rfl rfl rfl rfl rfl rfl rfl ?_ | refine acode_seq ?_ | refine acode_region ?_ | refine acode_block ?_ | refine acode_skip ?_ | refine then_n ?_ | refine block_n ?_)
    refine aops_callx Try.func38 rfl rfl rfl rfl (step_calls hcm _) rfl rfl rfl ?_
    repeat (first | refine aops_put rfl ?_ | refine aops_end ?_ | refine aops_endb ?_ | refine aops_o rfl rfl rfl ?_ | refine aops_max tok rfl rfl rfl rfl rfl rfl ?_ | refine aops_min tok rfl rfl rfl rfl rfl rfl ?_ | refine aops_a tok rfl (by omega) (by omega) rfl rfl rfl ?_ | refine aops_p tok rfl rfl rfl rfl ?_ | refine aops_ld tok 0 rfl rfl rfl rfl rfl rfl rfl rfl ?_ | refine aops_ld tok 1 rfl rfl rfl rfl rfl rfl rfl rfl ?_ | refine aops_stn tok rfl rfl rfl rfl rfl rfl rfl rfl rfl ?_ | refine aops_stn1 tok rfl rfl rfl rfl rfl rfl rfl rfl rfl ?_ | refine acode_seq ?_ | refine acode_region ?_ | refine acode_block ?_ | refine acode_skip ?_ | refine then_n ?_ | refine block_n ?_)
    refine acode_cond rfl (fun e => ?_) (fun e => ?_)
    · have e' : stepF nx ac s c < 0 := by simpa using e
      repeat (first | refine aops_put rfl ?_ | refine aops_end ?_ | refine aops_endb ?_ | refine aops_o rfl rfl rfl ?_ | refine aops_max tok rfl rfl rfl rfl rfl rfl ?_ | refine aops_min tok rfl rfl rfl rfl rfl rfl ?_ | refine aops_a tok rfl (by omega) (by omega) rfl rfl rfl ?_ | refine aops_p tok rfl rfl rfl rfl ?_ | refine aops_ld tok 0 rfl rfl rfl rfl rfl rfl rfl rfl ?_ | refine aops_ld tok 1 rfl rfl rfl rfl rfl rfl rfl rfl ?_ | refine aops_stn tok rfl rfl rfl rfl rfl rfl rfl rfl rfl ?_ | refine aops_stn1 tok rfl rfl rfl rfl rfl rfl rfl rfl rfl ?_ | refine acode_seq ?_ | refine acode_region ?_ | refine acode_block ?_ | refine acode_skip ?_ | refine then_n ?_ | refine block_n ?_)
      refine acode_ret ?_
      repeat (first | refine exit_then ?_ | refine exit_here ?_ | refine exit_out rfl ?_ | refine ret_then ?_ | refine ret_block ?_ | refine then_n ?_ | refine block_n ?_)
      rw [runF, if_pos e'] at hrun
      rw [← hrun]
      exact ⟨_, ⟨rfl, rfl⟩, _, rfl, resOf_tmp rfl⟩
    · have e' : ¬ stepF nx ac s c < 0 := by simpa using e
      rw [runF, if_neg e'] at hrun
      repeat (first | refine aops_put rfl ?_ | refine aops_end ?_ | refine aops_endb ?_ | refine aops_o rfl rfl rfl ?_ | refine aops_max tok rfl rfl rfl rfl rfl rfl ?_ | refine aops_min tok rfl rfl rfl rfl rfl rfl ?_ | refine aops_a tok rfl (by omega) (by omega) rfl rfl rfl ?_ | refine aops_p tok rfl rfl rfl rfl ?_ | refine aops_ld tok 0 rfl rfl rfl rfl rfl rfl rfl rfl ?_ | refine aops_ld tok 1 rfl rfl rfl rfl rfl rfl rfl rfl ?_ | refine aops_stn tok rfl rfl rfl rfl rfl rfl rfl rfl rfl ?_ | refine aops_stn1 tok rfl rfl rfl rfl rfl rfl rfl rfl rfl ?_ | refine acode_seq ?_ | refine acode_region ?_ | refine acode_block ?_ | refine acode_skip ?_ | refine then_n ?_ | refine block_n ?_)
      refine aops_callx Try.func39 rfl rfl rfl rfl (accepts_calls _) rfl rfl rfl ?_
      repeat (first | refine aops_put rfl ?_ | refine aops_end ?_ | refine aops_endb ?_ | refine aops_o rfl rfl rfl ?_ | refine aops_max tok rfl rfl rfl rfl rfl rfl ?_ | refine aops_min tok rfl rfl rfl rfl rfl rfl ?_ | refine aops_a tok rfl (by omega) (by omega) rfl rfl rfl ?_ | refine aops_p tok rfl rfl rfl rfl ?_ | refine aops_ld tok 0 rfl rfl rfl rfl rfl rfl rfl rfl ?_ | refine aops_ld tok 1 rfl rfl rfl rfl rfl rfl rfl rfl ?_ | refine aops_stn tok rfl rfl rfl rfl rfl rfl rfl rfl rfl ?_ | refine aops_stn1 tok rfl rfl rfl rfl rfl rfl rfl rfl rfl ?_ | refine acode_seq ?_ | refine acode_region ?_ | refine acode_block ?_ | refine acode_skip ?_ | refine then_n ?_ | refine block_n ?_)
      refine acode_cond rfl (fun e2 => ?_) (fun e2 => ?_)
      · have e3 : accF nx ac (stepF nx ac s c) ≥ 0 := by simpa using e2
        rw [if_pos e3] at hrun
        repeat (first | refine aops_put rfl ?_ | refine aops_end ?_ | refine aops_endb ?_ | refine aops_o rfl rfl rfl ?_ | refine aops_max tok rfl rfl rfl rfl rfl rfl ?_ | refine aops_min tok rfl rfl rfl rfl rfl rfl ?_ | refine aops_a tok rfl (by omega) (by omega) rfl rfl rfl ?_ | refine aops_p tok rfl rfl rfl rfl ?_ | refine aops_ld tok 0 rfl rfl rfl rfl rfl rfl rfl rfl ?_ | refine aops_ld tok 1 rfl rfl rfl rfl rfl rfl rfl rfl ?_ | refine aops_stn tok rfl rfl rfl rfl rfl rfl rfl rfl rfl ?_ | refine aops_stn1 tok rfl rfl rfl rfl rfl rfl rfl rfl rfl ?_ | refine acode_seq ?_ | refine acode_region ?_ | refine acode_block ?_ | refine acode_skip ?_ | refine then_n ?_ | refine block_n ?_)
        exact ⟨(i + 1, stepF nx ac s c, accF nx ac (stepF nx ac s c), i + 1), ⟨by omega, hrun⟩, by simp; omega, ⟨rfl, rfl, rfl, rfl, rfl, rfl, rfl, rfl, trivial⟩, rfl⟩
      · have e3 : ¬ accF nx ac (stepF nx ac s c) ≥ 0 := by simpa using e2
        rw [if_neg e3] at hrun
        repeat (first | refine aops_put rfl ?_ | refine aops_end ?_ | refine aops_endb ?_ | refine aops_o rfl rfl rfl ?_ | refine aops_max tok rfl rfl rfl rfl rfl rfl ?_ | refine aops_min tok rfl rfl rfl rfl rfl rfl ?_ | refine aops_a tok rfl (by omega) (by omega) rfl rfl rfl ?_ | refine aops_p tok rfl rfl rfl rfl ?_ | refine aops_ld tok 0 rfl rfl rfl rfl rfl rfl rfl rfl ?_ | refine aops_ld tok 1 rfl rfl rfl rfl rfl rfl rfl rfl ?_ | refine aops_stn tok rfl rfl rfl rfl rfl rfl rfl rfl rfl ?_ | refine aops_stn1 tok rfl rfl rfl rfl rfl rfl rfl rfl rfl ?_ | refine acode_seq ?_ | refine acode_region ?_ | refine acode_block ?_ | refine acode_skip ?_ | refine then_n ?_ | refine block_n ?_)
        exact ⟨(i + 1, stepF nx ac s c, r, l), ⟨by omega, hrun⟩, by simp; omega, ⟨rfl, rfl, rfl, rfl, rfl, rfl, rfl, rfl, trivial⟩, rfl⟩
  · have hge : i = cs.length := by simp at e; omega
    subst hge
    refine acode_exit ?_
    repeat (first | refine exit_then ?_ | refine exit_here ?_ | refine exit_out rfl ?_ | refine ret_then ?_ | refine ret_block ?_ | refine then_n ?_ | refine block_n ?_)
    repeat (first | refine aops_put rfl ?_ | refine aops_end ?_ | refine aops_endb ?_ | refine aops_o rfl rfl rfl ?_ | refine aops_max tok rfl rfl rfl rfl rfl rfl ?_ | refine aops_min tok rfl rfl rfl rfl rfl rfl ?_ | refine aops_a tok rfl (by omega) (by omega) rfl rfl rfl ?_ | refine aops_p tok rfl rfl rfl rfl ?_ | refine aops_ld tok 0 rfl rfl rfl rfl rfl rfl rfl rfl ?_ | refine aops_ld tok 1 rfl rfl rfl rfl rfl rfl rfl rfl ?_ | refine aops_stn tok rfl rfl rfl rfl rfl rfl rfl rfl rfl ?_ | refine aops_stn1 tok rfl rfl rfl rfl rfl rfl rfl rfl rfl ?_ | refine acode_seq ?_ | refine acode_region ?_ | refine acode_block ?_ | refine acode_skip ?_ | refine then_n ?_ | refine block_n ?_)
    refine acode_ret ?_
    repeat (first | refine exit_then ?_ | refine exit_here ?_ | refine exit_out rfl ?_ | refine ret_then ?_ | refine ret_block ?_ | refine then_n ?_ | refine block_n ?_)
    rw [List.drop_length, runF] at hrun
    rw [← hrun]
    exact ⟨_, ⟨rfl, rfl⟩, _, rfl, resOf_tmp rfl⟩

theorem run_dead {nx : List (List Int)} {ac : List Int} (h : ¬ isS nx ac 0) (r l i : Int) (cs : List Int) : runF nx ac (-1) r l i cs = runF nx ac 0 r l i cs := by
  cases cs with
  | nil => rfl
  | cons c cs =>
    have h1 : stepF nx ac 0 c = -1 := by unfold stepF; rw [if_neg h]
    have h2 : stepF nx ac (-1) c = -1 := by unfold stepF; rw [if_neg (fun h => by have := h.1; omega)]
    rw [runF, runF, h1, h2, if_pos (by omega)]

set_option maxHeartbeats 2000000 in
theorem rscan_calls {nx : List (List Int)} {ac bs : List Int} {at_ : Int} (hb : bs.length ≤ 400000) (hw : ∀ n ∈ bs, 0 ≤ n ∧ n < 256) (M : List Ob) :
    ACalls Try.prog 16 [dfaA nx ac, .psl bs.length (u8s bs), .int .i64 at_] M (fun r M' => r = tup3 (nextF nx ac bs at_) ∧ M' = M) := by
  obtain ⟨a0, a1⟩ := cAt_b bs.length at_ (by omega)
  have hm : cut at_ 0 (bs.length : Int) = cAt bs.length at_ := by rw [cut_eq (by omega)]; unfold cAt; omega
  refine acalls_of_code 71 Try.func16 rfl rfl rfl ?_
  repeat (first | refine aops_put rfl ?_ | refine aops_end ?_ | refine aops_endb ?_ | refine aops_o rfl rfl rfl ?_ | refine aops_max tok rfl rfl rfl rfl rfl rfl ?_ | refine aops_min tok rfl rfl rfl rfl rfl rfl ?_ | refine aops_a tok rfl (by omega) (by omega) rfl rfl rfl ?_ | refine aops_p tok rfl rfl rfl rfl ?_ | refine aops_ld tok 0 rfl rfl rfl rfl rfl rfl rfl rfl ?_ | refine aops_ld tok 1 rfl rfl rfl rfl rfl rfl rfl rfl ?_ | refine aops_stn tok rfl rfl rfl rfl rfl rfl rfl rfl rfl ?_ | refine aops_stn1 tok rfl rfl rfl rfl rfl rfl rfl rfl rfl ?_ | refine acode_seq ?_ | refine acode_region ?_ | refine acode_block ?_ | refine acode_skip ?_ | refine then_n ?_ | refine block_n ?_)
  refine aops_boxf rfl rfl rfl rfl rfl rfl rfl ?_
  repeat (first | refine aops_put rfl ?_ | refine aops_end ?_ | refine aops_endb ?_ | refine aops_o rfl rfl rfl ?_ | refine aops_max tok rfl rfl rfl rfl rfl rfl ?_ | refine aops_min tok rfl rfl rfl rfl rfl rfl ?_ | refine aops_a tok rfl (by omega) (by omega) rfl rfl rfl ?_ | refine aops_p tok rfl rfl rfl rfl ?_ | refine aops_ld tok 0 rfl rfl rfl rfl rfl rfl rfl rfl ?_ | refine aops_ld tok 1 rfl rfl rfl rfl rfl rfl rfl rfl ?_ | refine aops_stn tok rfl rfl rfl rfl rfl rfl rfl rfl rfl ?_ | refine aops_stn1 tok rfl rfl rfl rfl rfl rfl rfl rfl rfl ?_ | refine acode_seq ?_ | refine acode_region ?_ | refine acode_block ?_ | refine acode_skip ?_ | refine then_n ?_ | refine block_n ?_)
  refine aops_callx Try.func40 rfl rfl rfl rfl (cut_calls _) rfl rfl rfl ?_
  rw [hm]
  generalize hp : cAt bs.length at_ = p at *
  obtain ⟨q, rfl⟩ : ∃ q : Nat, p = q := ⟨p.toNat, by omega⟩
  have hR : nextF nx ac bs at_ = runF nx ac 0 (-1) 0 0 (bs.drop q) := by unfold nextF; rw [hp]; rfl
  rw [hR]
  repeat (first | refine aops_put rfl ?_ | refine aops_end ?_ | refine aops_endb ?_ | refine aops_o rfl rfl rfl ?_ | refine aops_max tok rfl rfl rfl rfl rfl rfl ?_ | refine aops_min tok rfl rfl rfl rfl rfl rfl ?_ | refine aops_a tok rfl (by omega) (by omega) rfl rfl rfl ?_ | refine aops_p tok rfl rfl rfl rfl ?_ | refine aops_ld tok 0 rfl rfl rfl rfl rfl rfl rfl rfl ?_ | refine aops_ld tok 1 rfl rfl rfl rfl rfl rfl rfl rfl ?_ | refine aops_stn tok rfl rfl rfl rfl rfl rfl rfl rfl rfl ?_ | refine aops_stn1 tok rfl rfl rfl rfl rfl rfl rfl rfl rfl ?_ | refine acode_seq ?_ | refine acode_region ?_ | refine acode_block ?_ | refine acode_skip ?_ | refine then_n ?_ | refine block_n ?_)
  refine aops_join [(1, .psl bs.length (u8s bs)), (2, .int .i64 q), (3, .pp [.psl nx.length (rows nx), .psl ac.length (i64s ac)]), (9, .int .i64 (-1)), (10, .int .i64 0), (11, .int .i64 0), (26, .bool (decide (nx.length = 0 ∨ ac.length = 0)))] M ?_ ?_
  · refine aops_case 21 rfl (fun e => ?_) (fun e => ?_)
    · repeat (first | refine aops_put rfl ?_ | refine aops_end ?_ | refine aops_endb ?_ | refine aops_o rfl rfl rfl ?_ | refine aops_max tok rfl rfl rfl rfl rfl rfl ?_ | refine aops_min tok rfl rfl rfl rfl rfl rfl ?_ | refine aops_a tok rfl (by omega) (by omega) rfl rfl rfl ?_ | refine aops_p tok rfl rfl rfl rfl ?_ | refine aops_ld tok 0 rfl rfl rfl rfl rfl rfl rfl rfl ?_ | refine aops_ld tok 1 rfl rfl rfl rfl rfl rfl rfl rfl ?_ | refine aops_stn tok rfl rfl rfl rfl rfl rfl rfl rfl rfl ?_ | refine aops_stn1 tok rfl rfl rfl rfl rfl rfl rfl rfl rfl ?_ | refine acode_seq ?_ | refine acode_region ?_ | refine acode_block ?_ | refine acode_skip ?_ | refine then_n ?_ | refine block_n ?_)
      exact ⟨⟨rfl, rfl, rfl, rfl, rfl, rfl, by show A.bool _ = A.bool _; congr 1; rw [Bool.eq_iff_iff]; simp only [beq_iff_eq, beq_eq_false_iff_ne, ne_eq, decide_eq_true_eq, true_iff, eq_self] at e ⊢; omega, trivial⟩, rfl⟩
    · repeat (first | refine aops_put rfl ?_ | refine aops_end ?_ | refine aops_endb ?_ | refine aops_o rfl rfl rfl ?_ | refine aops_max tok rfl rfl rfl rfl rfl rfl ?_ | refine aops_min tok rfl rfl rfl rfl rfl rfl ?_ | refine aops_a tok rfl (by omega) (by omega) rfl rfl rfl ?_ | refine aops_p tok rfl rfl rfl rfl ?_ | refine aops_ld tok 0 rfl rfl rfl rfl rfl rfl rfl rfl ?_ | refine aops_ld tok 1 rfl rfl rfl rfl rfl rfl rfl rfl ?_ | refine aops_stn tok rfl rfl rfl rfl rfl rfl rfl rfl rfl ?_ | refine aops_stn1 tok rfl rfl rfl rfl rfl rfl rfl rfl rfl ?_ | refine acode_seq ?_ | refine acode_region ?_ | refine acode_block ?_ | refine acode_skip ?_ | refine then_n ?_ | refine block_n ?_)
      exact ⟨⟨rfl, rfl, rfl, rfl, rfl, rfl, by show A.bool _ = A.bool _; congr 1; rw [Bool.eq_iff_iff]; simp only [beq_iff_eq, beq_eq_false_iff_ne, ne_eq, decide_eq_true_eq, true_iff, eq_self] at e ⊢; omega, trivial⟩, rfl⟩
  refine acode_join [(1, .psl bs.length (u8s bs)), (2, .int .i64 q), (3, .pp [.psl nx.length (rows nx), .psl ac.length (i64s ac)]), (9, .int .i64 (-1)), (10, .int .i64 0), (11, .int .i64 (if nx.length = 0 ∨ ac.length = 0 then -1 else 0))] M ?_ ?_
  · refine acode_cond rfl (fun e => ?_) (fun e => ?_)
    · repeat (first | refine aops_put rfl ?_ | refine aops_end ?_ | refine aops_endb ?_ | refine aops_o rfl rfl rfl ?_ | refine aops_max tok rfl rfl rfl rfl rfl rfl ?_ | refine aops_min tok rfl rfl rfl rfl rfl rfl ?_ | refine aops_a tok rfl (by omega) (by omega) rfl rfl rfl ?_ | refine aops_p tok rfl rfl rfl rfl ?_ | refine aops_ld tok 0 rfl rfl rfl rfl rfl rfl rfl rfl ?_ | refine aops_ld tok 1 rfl rfl rfl rfl rfl rfl rfl rfl ?_ | refine aops_stn tok rfl rfl rfl rfl rfl rfl rfl rfl rfl ?_ | refine aops_stn1 tok rfl rfl rfl rfl rfl rfl rfl rfl rfl ?_ | refine acode_seq ?_ | refine acode_region ?_ | refine acode_block ?_ | refine acode_skip ?_ | refine then_n ?_ | refine block_n ?_)
      simp only [decide_eq_true_eq] at e
      rw [if_pos e]
      exact ⟨⟨rfl, rfl, rfl, rfl, rfl, rfl, trivial⟩, rfl⟩
    · repeat (first | refine aops_put rfl ?_ | refine aops_end ?_ | refine aops_endb ?_ | refine aops_o rfl rfl rfl ?_ | refine aops_max tok rfl rfl rfl rfl rfl rfl ?_ | refine aops_min tok rfl rfl rfl rfl rfl rfl ?_ | refine aops_a tok rfl (by omega) (by omega) rfl rfl rfl ?_ | refine aops_p tok rfl rfl rfl rfl ?_ | refine aops_ld tok 0 rfl rfl rfl rfl rfl rfl rfl rfl ?_ | refine aops_ld tok 1 rfl rfl rfl rfl rfl rfl rfl rfl ?_ | refine aops_stn tok rfl rfl rfl rfl rfl rfl rfl rfl rfl ?_ | refine aops_stn1 tok rfl rfl rfl rfl rfl rfl rfl rfl rfl ?_ | refine acode_seq ?_ | refine acode_region ?_ | refine acode_block ?_ | refine acode_skip ?_ | refine then_n ?_ | refine block_n ?_)
      simp only [decide_eq_false_iff_not] at e
      rw [if_neg e]
      exact ⟨⟨rfl, rfl, rfl, rfl, rfl, rfl, trivial⟩, rfl⟩
  have hdead : runF nx ac (if nx.length = 0 ∨ ac.length = 0 then -1 else 0) (-1) 0 0 (bs.drop q) = runF nx ac 0 (-1) 0 0 (bs.drop q) := by
    split
    · rename_i h
      exact run_dead (fun hs => by obtain ⟨_, h2, h3⟩ := hs; omega) _ _ _ _
    · rfl
  rw [← hdead]
  generalize (if nx.length = 0 ∨ ac.length = 0 then (-1 : Int) else 0) = s0 at *
  clear hdead
  repeat (first | refine aops_put rfl ?_ | refine aops_end ?_ | refine aops_endb ?_ | refine aops_o rfl rfl rfl ?_ | refine aops_max tok rfl rfl rfl rfl rfl rfl ?_ | refine aops_min tok rfl rfl rfl rfl rfl rfl ?_ | refine aops_a tok rfl (by omega) (by omega) rfl rfl rfl ?_ | refine aops_p tok rfl rfl rfl rfl ?_ | refine aops_ld tok 0 rfl rfl rfl rfl rfl rfl rfl rfl ?_ | refine aops_ld tok 1 rfl rfl rfl rfl rfl rfl rfl rfl ?_ | refine aops_stn tok rfl rfl rfl rfl rfl rfl rfl rfl rfl ?_ | refine aops_stn1 tok rfl rfl rfl rfl rfl rfl rfl rfl rfl ?_ | refine acode_seq ?_ | refine acode_region ?_ | refine acode_block ?_ | refine acode_skip ?_ | refine then_n ?_ | refine block_n ?_)
  refine acode_loopS (ι := Nat × Int × Int × Int) (fun p => [(1, .psl bs.length (u8s bs)), (2, .int .i64 q), (12, .int .i64 (q + p.1)), (11, .int .i64 p.2.1), (9, .int .i64 p.2.2.1), (10, .int .i64 p.2.2.2), (3, .pp [.psl nx.length (rows nx), .psl ac.length (i64s ac)])]) (fun _ => M) (fun p => bs.length - (q + p.1))
    (fun p => q + p.1 ≤ bs.length ∧ runF nx ac p.2.1 p.2.2.1 p.2.2.2 p.1 (bs.drop (q + p.1)) = runF nx ac s0 (-1) 0 0 (bs.drop q)) (0, s0, -1, 0) ⟨by simp; omega, rfl⟩ ⟨rfl, rfl, by show A.int _ _ = A.int _ _; simp, rfl, rfl, rfl, rfl, trivial⟩ rfl ?_
  rintro ⟨i, s, r, l⟩ ⟨hi, hrun⟩
  simp only at hi hrun ⊢
  repeat (first | refine aops_put rfl ?_ | refine aops_end ?_ | refine aops_endb ?_ | refine aops_o rfl rfl rfl ?_ | refine aops_max tok rfl rfl rfl rfl rfl rfl ?_ | refine aops_min tok rfl rfl rfl rfl rfl rfl ?_ | refine aops_a tok rfl (by omega) (by omega) rfl rfl rfl ?_ | refine aops_p tok rfl rfl rfl rfl ?_ | refine aops_ld tok 0 rfl rfl rfl rfl rfl rfl rfl rfl ?_ | refine aops_ld tok 1 rfl rfl rfl rfl rfl rfl rfl rfl ?_ | refine aops_stn tok rfl rfl rfl rfl rfl rfl rfl rfl rfl ?_ | refine aops_stn1 tok rfl rfl rfl rfl rfl rfl rfl rfl rfl ?_ | refine acode_seq ?_ | refine acode_region ?_ | refine acode_block ?_ | refine acode_skip ?_ | refine then_n ?_ | refine block_n ?_)
  refine acode_cond rfl (fun e => ?_) (fun e => ?_)
  · have hlt : q + i < bs.length := by simp at e; omega
    obtain ⟨c, hc⟩ : ∃ c, bs[q + i]? = some c := ⟨bs[q + i], List.getElem?_eq_getElem hlt⟩
    have hcm := hw c (List.mem_of_getElem? hc)
    have hdr : bs.drop (q + i) = c :: bs.drop (q + i + 1) := by
      rw [List.drop_eq_getElem_cons hlt]
      rw [List.getElem?_eq_getElem hlt] at hc
      rw [Option.some.inj hc]
    rw [hdr] at hrun
    repeat (first | refine aops_put rfl ?_ | refine aops_end ?_ | refine aops_endb ?_ | refine aops_o rfl rfl rfl ?_ | refine aops_max tok rfl rfl rfl rfl rfl rfl ?_ | refine aops_min tok rfl rfl rfl rfl rfl rfl ?_ | refine aops_a tok rfl (by omega) (by omega) rfl rfl rfl ?_ | refine aops_p tok rfl rfl rfl rfl ?_ | refine aops_ld tok 0 rfl rfl rfl rfl rfl rfl rfl rfl ?_ | refine aops_ld tok 1 rfl rfl rfl rfl rfl rfl rfl rfl ?_ | refine aops_stn tok rfl rfl rfl rfl rfl rfl rfl rfl rfl ?_ | refine aops_stn1 tok rfl rfl rfl rfl rfl rfl rfl rfl rfl ?_ | refine acode_seq ?_ | refine acode_region ?_ | refine acode_block ?_ | refine acode_skip ?_ | refine then_n ?_ | refine block_n ?_)
    refine acode_drawT 7 mixed (by kernel_rfl) (by kernel_rfl) ?_
    repeat (first | refine seqT_put rfl ?_ | refine seqT_o rfl rfl rfl ?_ | refine seqT_max tok rfl rfl rfl rfl rfl rfl ?_ | refine seqT_min tok rfl rfl rfl rfl rfl rfl ?_ | refine seqT_a tok rfl (by omega) (by omega) rfl rfl rfl ?_ | refine seqT_p tok rfl rfl rfl rfl ?_ | refine seqT_ld tok 0 rfl rfl rfl rfl rfl rfl rfl rfl ?_ | refine seqT_ld tok 1 rfl rfl rfl rfl rfl rfl rfl rfl ?_)
    refine seqT_y (yields_index tok [A.int .u8 c] rfl rfl rfl rfl (by omega) (by omega) (by simp) (u8s_at (j := (q + i : Int)) (by rw [show ((q : Int) + i).toNat = q + i from by omega]; exact hc)) rfl rfl) rfl ?_
    repeat (first | refine seqT_put rfl ?_ | refine seqT_o rfl rfl rfl ?_ | refine seqT_max tok rfl rfl rfl rfl rfl rfl ?_ | refine seqT_min tok rfl rfl rfl rfl rfl rfl ?_ | refine seqT_a tok rfl (by omega) (by omega) rfl rfl rfl ?_ | refine seqT_p tok rfl rfl rfl rfl ?_ | refine seqT_ld tok 0 rfl rfl rfl rfl rfl rfl rfl rfl ?_ | refine seqT_ld tok 1 rfl rfl rfl rfl rfl rfl rfl rfl ?_)
    refine seqT_call _ Try.func41 rfl rfl rfl rfl (move_calls hcm _) rfl rfl rfl ?_
    repeat (first | refine seqT_put rfl ?_ | refine seqT_o rfl rfl rfl ?_ | refine seqT_max tok rfl rfl rfl rfl rfl rfl ?_ | refine seqT_min tok rfl rfl rfl rfl rfl rfl ?_ | refine seqT_a tok rfl (by omega) (by omega) rfl rfl rfl ?_ | refine seqT_p tok rfl rfl rfl rfl ?_ | refine seqT_ld tok 0 rfl rfl rfl rfl rfl rfl rfl rfl ?_ | refine seqT_ld tok 1 rfl rfl rfl rfl rfl rfl rfl rfl ?_)
    refine SeqT.done ?_
    repeat (first | refine aops_put rfl ?_ | refine aops_end ?_ | refine aops_endb ?_ | refine aops_o rfl rfl rfl ?_ | refine aops_max tok rfl rfl rfl rfl rfl rfl ?_ | refine aops_min tok rfl rfl rfl rfl rfl rfl ?_ | refine aops_a tok rfl (by omega) (by omega) rfl rfl rfl ?_ | refine aops_p tok rfl rfl rfl rfl ?_ | refine aops_ld tok 0 rfl rfl rfl rfl rfl rfl rfl rfl ?_ | refine aops_ld tok 1 rfl rfl rfl rfl rfl rfl rfl rfl ?_ | refine aops_stn tok rfl rfl rfl rfl rfl rfl rfl rfl rfl ?_ | refine aops_stn1 tok rfl rfl rfl rfl rfl rfl rfl rfl rfl ?_ | refine acode_seq ?_ | refine acode_region ?_ | refine acode_block ?_ | refine acode_skip ?_ | refine then_n ?_ | refine block_n ?_)
    refine acode_cond rfl (fun e => ?_) (fun e => ?_)
    · have e' : stepF nx ac s c < 0 := by simpa using e
      repeat (first | refine aops_put rfl ?_ | refine aops_end ?_ | refine aops_endb ?_ | refine aops_o rfl rfl rfl ?_ | refine aops_max tok rfl rfl rfl rfl rfl rfl ?_ | refine aops_min tok rfl rfl rfl rfl rfl rfl ?_ | refine aops_a tok rfl (by omega) (by omega) rfl rfl rfl ?_ | refine aops_p tok rfl rfl rfl rfl ?_ | refine aops_ld tok 0 rfl rfl rfl rfl rfl rfl rfl rfl ?_ | refine aops_ld tok 1 rfl rfl rfl rfl rfl rfl rfl rfl ?_ | refine aops_stn tok rfl rfl rfl rfl rfl rfl rfl rfl rfl ?_ | refine aops_stn1 tok rfl rfl rfl rfl rfl rfl rfl rfl rfl ?_ | refine acode_seq ?_ | refine acode_region ?_ | refine acode_block ?_ | refine acode_skip ?_ | refine then_n ?_ | refine block_n ?_)
      refine acode_ret ?_
      repeat (first | refine exit_then ?_ | refine exit_here ?_ | refine exit_out rfl ?_ | refine ret_then ?_ | refine ret_block ?_ | refine then_n ?_ | refine block_n ?_)
      rw [runF, if_pos e'] at hrun
      rw [← hrun]
      exact ⟨_, ⟨rfl, rfl⟩, _, by show A.tup [_, _, A.int _ _] = A.tup [_, _, A.int _ _]; rw [show (q : Int) + i - q + 1 = i + 1 from by omega]; rfl, resOf_tmp rfl⟩
    · have e' : ¬ stepF nx ac s c < 0 := by simpa using e
      rw [runF, if_neg e'] at hrun
      have hS := step_ok e'
      have hacc : accF nx ac (stepF nx ac s c) = max (-1) (ac.getD (stepF nx ac s c).toNat 0) := by unfold accF; rw [if_pos hS]
      have hai := to_at hS.1 hS.2.2
      obtain ⟨s1, s2, s3⟩ := hS
      generalize hav : ac.getD (stepF nx ac s c).toNat 0 = av at *
      repeat (first | refine aops_put rfl ?_ | refine aops_end ?_ | refine aops_endb ?_ | refine aops_o rfl rfl rfl ?_ | refine aops_max tok rfl rfl rfl rfl rfl rfl ?_ | refine aops_min tok rfl rfl rfl rfl rfl rfl ?_ | refine aops_a tok rfl (by omega) (by omega) rfl rfl rfl ?_ | refine aops_p tok rfl rfl rfl rfl ?_ | refine aops_ld tok 0 rfl rfl rfl rfl rfl rfl rfl rfl ?_ | refine aops_ld tok 1 rfl rfl rfl rfl rfl rfl rfl rfl ?_ | refine aops_stn tok rfl rfl rfl rfl rfl rfl rfl rfl rfl ?_ | refine aops_stn1 tok rfl rfl rfl rfl rfl rfl rfl rfl rfl ?_ | refine acode_seq ?_ | refine acode_region ?_ | refine acode_block ?_ | refine acode_skip ?_ | refine then_n ?_ | refine block_n ?_)
      refine aops_index tok [A.int .i64 av] rfl rfl rfl rfl s1 s3 (by simp) (cell_at (f := A.int .i64) hai) rfl rfl ?_
      repeat (first | refine aops_put rfl ?_ | refine aops_end ?_ | refine aops_endb ?_ | refine aops_o rfl rfl rfl ?_ | refine aops_max tok rfl rfl rfl rfl rfl rfl ?_ | refine aops_min tok rfl rfl rfl rfl rfl rfl ?_ | refine aops_a tok rfl (by omega) (by omega) rfl rfl rfl ?_ | refine aops_p tok rfl rfl rfl rfl ?_ | refine aops_ld tok 0 rfl rfl rfl rfl rfl rfl rfl rfl ?_ | refine aops_ld tok 1 rfl rfl rfl rfl rfl rfl rfl rfl ?_ | refine aops_stn tok rfl rfl rfl rfl rfl rfl rfl rfl rfl ?_ | refine aops_stn1 tok rfl rfl rfl rfl rfl rfl rfl rfl rfl ?_ | refine acode_seq ?_ | refine acode_region ?_ | refine acode_block ?_ | refine acode_skip ?_ | refine then_n ?_ | refine block_n ?_)
      refine acode_cond rfl (fun e2 => ?_) (fun e2 => ?_)
      · have e3 : av ≥ 0 := by simpa using e2
        have e4 : accF nx ac (stepF nx ac s c) = av := by omega
        rw [e4, if_pos e3] at hrun
        repeat (first | refine aops_put rfl ?_ | refine aops_end ?_ | refine aops_endb ?_ | refine aops_o rfl rfl rfl ?_ | refine aops_max tok rfl rfl rfl rfl rfl rfl ?_ | refine aops_min tok rfl rfl rfl rfl rfl rfl ?_ | refine aops_a tok rfl (by omega) (by omega) rfl rfl rfl ?_ | refine aops_p tok rfl rfl rfl rfl ?_ | refine aops_ld tok 0 rfl rfl rfl rfl rfl rfl rfl rfl ?_ | refine aops_ld tok 1 rfl rfl rfl rfl rfl rfl rfl rfl ?_ | refine aops_stn tok rfl rfl rfl rfl rfl rfl rfl rfl rfl ?_ | refine aops_stn1 tok rfl rfl rfl rfl rfl rfl rfl rfl rfl ?_ | refine acode_seq ?_ | refine acode_region ?_ | refine acode_block ?_ | refine acode_skip ?_ | refine then_n ?_ | refine block_n ?_)
        refine aops_index tok [A.int .i64 av] rfl rfl rfl rfl s1 s3 (by simp) (cell_at (f := A.int .i64) hai) rfl rfl ?_
        repeat (first | refine aops_put rfl ?_ | refine aops_end ?_ | refine aops_endb ?_ | refine aops_o rfl rfl rfl ?_ | refine aops_max tok rfl rfl rfl rfl rfl rfl ?_ | refine aops_min tok rfl rfl rfl rfl rfl rfl ?_ | refine aops_a tok rfl (by omega) (by omega) rfl rfl rfl ?_ | refine aops_p tok rfl rfl rfl rfl ?_ | refine aops_ld tok 0 rfl rfl rfl rfl rfl rfl rfl rfl ?_ | refine aops_ld tok 1 rfl rfl rfl rfl rfl rfl rfl rfl ?_ | refine aops_stn tok rfl rfl rfl rfl rfl rfl rfl rfl rfl ?_ | refine aops_stn1 tok rfl rfl rfl rfl rfl rfl rfl rfl rfl ?_ | refine acode_seq ?_ | refine acode_region ?_ | refine acode_block ?_ | refine acode_skip ?_ | refine then_n ?_ | refine block_n ?_)
        exact ⟨(i + 1, stepF nx ac s c, av, i + 1), ⟨by simp; omega, by rw [← hrun]; rfl⟩, by simp; omega, ⟨rfl, rfl, by show A.int _ _ = A.int _ _; simp; omega, rfl, rfl, by show A.int _ _ = A.int _ ((i : Int) + 1); congr 1; omega, rfl, trivial⟩, rfl⟩
      · have e3 : ¬ av ≥ 0 := by simpa using e2
        rw [if_neg (by omega)] at hrun
        repeat (first | refine aops_put rfl ?_ | refine aops_end ?_ | refine aops_endb ?_ | refine aops_o rfl rfl rfl ?_ | refine aops_max tok rfl rfl rfl rfl rfl rfl ?_ | refine aops_min tok rfl rfl rfl rfl rfl rfl ?_ | refine aops_a tok rfl (by omega) (by omega) rfl rfl rfl ?_ | refine aops_p tok rfl rfl rfl rfl ?_ | refine aops_ld tok 0 rfl rfl rfl rfl rfl rfl rfl rfl ?_ | refine aops_ld tok 1 rfl rfl rfl rfl rfl rfl rfl rfl ?_ | refine aops_stn tok rfl rfl rfl rfl rfl rfl rfl rfl rfl ?_ | refine aops_stn1 tok rfl rfl rfl rfl rfl rfl rfl rfl rfl ?_ | refine acode_seq ?_ | refine acode_region ?_ | refine acode_block ?_ | refine acode_skip ?_ | refine then_n ?_ | refine block_n ?_)
        exact ⟨(i + 1, stepF nx ac s c, r, l), ⟨by simp; omega, by rw [← hrun]; rfl⟩, by simp; omega, ⟨rfl, rfl, by show A.int _ _ = A.int _ _; simp; omega, rfl, rfl, rfl, rfl, trivial⟩, rfl⟩
  · have hge : q + i = bs.length := by simp at e; omega
    refine acode_exit ?_
    repeat (first | refine exit_then ?_ | refine exit_here ?_ | refine exit_out rfl ?_ | refine ret_then ?_ | refine ret_block ?_ | refine then_n ?_ | refine block_n ?_)
    repeat (first | refine aops_put rfl ?_ | refine aops_end ?_ | refine aops_endb ?_ | refine aops_o rfl rfl rfl ?_ | refine aops_max tok rfl rfl rfl rfl rfl rfl ?_ | refine aops_min tok rfl rfl rfl rfl rfl rfl ?_ | refine aops_a tok rfl (by omega) (by omega) rfl rfl rfl ?_ | refine aops_p tok rfl rfl rfl rfl ?_ | refine aops_ld tok 0 rfl rfl rfl rfl rfl rfl rfl rfl ?_ | refine aops_ld tok 1 rfl rfl rfl rfl rfl rfl rfl rfl ?_ | refine aops_stn tok rfl rfl rfl rfl rfl rfl rfl rfl rfl ?_ | refine aops_stn1 tok rfl rfl rfl rfl rfl rfl rfl rfl rfl ?_ | refine acode_seq ?_ | refine acode_region ?_ | refine acode_block ?_ | refine acode_skip ?_ | refine then_n ?_ | refine block_n ?_)
    refine acode_ret ?_
    repeat (first | refine exit_then ?_ | refine exit_here ?_ | refine exit_out rfl ?_ | refine ret_then ?_ | refine ret_block ?_ | refine then_n ?_ | refine block_n ?_)
    rw [hge, List.drop_length, runF] at hrun
    rw [← hrun]
    exact ⟨_, ⟨rfl, rfl⟩, _, by show A.tup [_, _, A.int _ _] = A.tup [_, _, A.int _ _]; rw [show (bs.length : Int) - q + 1 = i + 1 from by omega]; rfl, resOf_tmp rfl⟩
end Go.Proofs.Ytlaeoddkgeifbaa.Ab

/- Chapter 11's sets of kinds: the walk. No condition. -/
import Derived.Test.YtnellmjnlnnckaaSet1
import Derived.Test.YtnellmjnlnnckaaAbV
set_option linter.unusedVariables false
set_option linter.unusedSimpArgs false
namespace Go.Proofs.Ytnellmjnlnnckaa.Ab
attribute [local irreducible] thenA inBlockA ACode AOps put IntKind.wrap

/-- A set with another one; whether one came. -/
def orL (o f : List Bool) : List Bool := (List.range o.length).map fun i => o.getD i false || f.getD i false
def cameL (o f : List Bool) : Bool := (List.range o.length).any fun i => f.getD i false && !o.getD i false
/-- The same, up to a place. -/
def orT (o f : List Bool) (q : Nat) : List Bool := (List.range o.length).map fun i => if i < q then o.getD i false || f.getD i false else o.getD i false
def cameT (o f : List Bool) (q : Nat) : Bool := (List.range q).any fun i => f.getD i false && !o.getD i false
theorem orT_len (o f : List Bool) (q : Nat) : (orT o f q).length = o.length := by simp [orT]
theorem orT_zero (o f : List Bool) : orT o f 0 = o := by
  apply List.ext_getElem?
  intro i
  by_cases h : i < o.length
  · simp [orT, List.getElem?_range h, List.getD_eq_getElem?_getD, List.getElem?_eq_getElem h]
  · rw [List.getElem?_eq_none (by simp [orT]; omega), List.getElem?_eq_none (by omega)]
theorem orT_all (o f : List Bool) : orT o f o.length = orL o f := by
  apply List.map_congr_left
  intro i hi
  rw [if_pos (by simpa using hi)]
theorem orT_get {o f : List Bool} {q i : Nat} (h : i < o.length) : (orT o f q)[i]? = some (if i < q then o.getD i false || f.getD i false else o.getD i false) := by simp [orT, List.getElem?_range h]
theorem orT_succ {o f : List Bool} {q : Nat} (h : q < o.length) : (orT o f q).set q (o.getD q false || f.getD q false) = orT o f (q + 1) := by
  apply List.ext_getElem?
  intro i
  rw [List.getElem?_set]
  by_cases hi : i < o.length
  · rw [orT_get hi, orT_get hi]
    by_cases e : q = i
    · subst e; rw [if_pos rfl, if_pos (by rw [orT_len]; exact h), if_pos (by omega)]
    · rw [if_neg e]
      by_cases h2 : i < q
      · rw [if_pos h2, if_pos (by omega)]
      · rw [if_neg h2, if_neg (by omega)]
  · have e : q ≠ i := by omega
    rw [if_neg e, List.getElem?_eq_none (by rw [orT_len]; omega), List.getElem?_eq_none (by rw [orT_len]; omega)]
theorem cameT_succ (o f : List Bool) (q : Nat) : cameT o f (q + 1) = (cameT o f q || (f.getD q false && !o.getD q false)) := by
  simp [cameT, List.range_succ]
theorem getD_at {l : List Bool} {i : Nat} (h : i < l.length) : l[i]? = some (l.getD i false) := by
  rw [List.getD_eq_getElem?_getD, List.getElem?_eq_getElem h]; rfl

set_option maxHeartbeats 4000000 in
theorem join_calls {o f : List Bool} {n : Nat} (b : Nat) (ho : o.length = n) (hf : f.length = n) (hn : n ≤ 1000000) (M : List Ob) :
    ACalls Try.prog 66 [.own (some b) n n, .psl n (bools f)] (⟨some b, n * 1, bools o⟩ :: M) (fun r M' => r = .bool (cameL o f) ∧ M' = ⟨some b, n * 1, bools (orL o f)⟩ :: M) := by
  refine acalls_of_code 38 Try.func66 rfl rfl rfl ?_
  repeat (first | refine aops_put rfl ?_ | refine aops_end ?_ | refine aops_endb ?_ | refine aops_o rfl rfl rfl ?_ | refine aops_max tok rfl rfl rfl rfl rfl rfl ?_ | refine aops_min tok rfl rfl rfl rfl rfl rfl ?_ | refine aops_a tok rfl (by omega) (by omega) rfl rfl rfl ?_ | refine aops_p tok rfl rfl rfl rfl ?_ | refine aops_ixa tok rfl rfl rfl (by decide) rfl rfl rfl rfl ?_ | refine aops_ld tok 0 rfl rfl rfl rfl rfl rfl rfl rfl ?_ | refine aops_ld tok 1 rfl rfl rfl rfl rfl rfl rfl rfl ?_ | refine aops_stn tok rfl rfl rfl rfl rfl rfl rfl rfl rfl ?_ | refine aops_stn1 tok rfl rfl rfl rfl rfl rfl rfl rfl rfl ?_ | refine acode_seq ?_ | refine acode_region ?_ | refine acode_block ?_ | refine acode_skip ?_ | refine then_n ?_ | refine block_n ?_)
  refine acode_loopS (ι := Nat) (fun q => [(0, .own (some b) n n), (8, .psl n (bools f)), (9, .int .i64 n), (5, .bool (cameT o f q)), (10, .int .i64 q)]) (fun q => ⟨some b, n * 1, bools (orT o f q)⟩ :: M) (fun q => n - q) (fun q => q ≤ n) 0 (Nat.zero_le _) ⟨rfl, rfl, rfl, rfl, rfl, trivial⟩ (by rw [orT_zero]) ?_
  intro q hq
  repeat (first | refine aops_put rfl ?_ | refine aops_end ?_ | refine aops_endb ?_ | refine aops_o rfl rfl rfl ?_ | refine aops_max tok rfl rfl rfl rfl rfl rfl ?_ | refine aops_min tok rfl rfl rfl rfl rfl rfl ?_ | refine aops_a tok rfl (by omega) (by omega) rfl rfl rfl ?_ | refine aops_p tok rfl rfl rfl rfl ?_ | refine aops_ixa tok rfl rfl rfl (by decide) rfl rfl rfl rfl ?_ | refine aops_ld tok 0 rfl rfl rfl rfl rfl rfl rfl rfl ?_ | refine aops_ld tok 1 rfl rfl rfl rfl rfl rfl rfl rfl ?_ | refine aops_stn tok rfl rfl rfl rfl rfl rfl rfl rfl rfl ?_ | refine aops_stn1 tok rfl rfl rfl rfl rfl rfl rfl rfl rfl ?_ | refine acode_seq ?_ | refine acode_region ?_ | refine acode_block ?_ | refine acode_skip ?_ | refine then_n ?_ | refine block_n ?_)
  refine acode_id rfl (fun e => ?_) (fun e => ?_)
  · have hql : q < n := by omega
    have hfq := getD_at (l := f) (i := q) (by omega)
    have hoq : (orT o f q)[q]? = some (o.getD q false) := by rw [orT_get (by omega), if_neg (by omega)]
    have hs := orT_succ (o := o) (f := f) (q := q) (by omega)
    have hc := cameT_succ o f q
    have hol := orT_len o f q
    obtain ⟨fq, ef⟩ : ∃ x, f.getD q false = x := ⟨_, rfl⟩
    obtain ⟨oq, eo⟩ : ∃ x, o.getD q false = x := ⟨_, rfl⟩
    obtain ⟨c1, ec⟩ : ∃ x, cameT o f q = x := ⟨_, rfl⟩
    rw [ef] at hfq hs hc
    rw [eo] at hoq hs hc
    rw [ec] at hc
    rw [ec]
    repeat (first | refine aops_put rfl ?_ | refine aops_end ?_ | refine aops_endb ?_ | refine aops_o rfl rfl rfl ?_ | refine aops_max tok rfl rfl rfl rfl rfl rfl ?_ | refine aops_min tok rfl rfl rfl rfl rfl rfl ?_ | refine aops_a tok rfl (by omega) (by omega) rfl rfl rfl ?_ | refine aops_p tok rfl rfl rfl rfl ?_ | refine aops_ixa tok rfl rfl rfl (by decide) rfl rfl rfl rfl ?_ | refine aops_ld tok 0 rfl rfl rfl rfl rfl rfl rfl rfl ?_ | refine aops_ld tok 1 rfl rfl rfl rfl rfl rfl rfl rfl ?_ | refine aops_stn tok rfl rfl rfl rfl rfl rfl rfl rfl rfl ?_ | refine aops_stn1 tok rfl rfl rfl rfl rfl rfl rfl rfl rfl ?_ | refine acode_seq ?_ | refine acode_region ?_ | refine acode_block ?_ | refine acode_skip ?_ | refine then_n ?_ | refine block_n ?_)
    refine aops_ix tok [A.bool fq] rfl rfl rfl rfl (by omega) (by omega) (by simp) (bools_at (j := q) (by simpa using hfq)) rfl rfl rfl ?_
    cases c1 <;> cases fq <;> cases oq <;> (
      repeat (first | refine aops_put rfl ?_ | refine aops_end ?_ | refine aops_endb ?_ | refine aops_o rfl rfl rfl ?_ | refine aops_max tok rfl rfl rfl rfl rfl rfl ?_ | refine aops_min tok rfl rfl rfl rfl rfl rfl ?_ | refine aops_a tok rfl (by omega) (by omega) rfl rfl rfl ?_ | refine aops_p tok rfl rfl rfl rfl ?_ | refine aops_ixa tok rfl rfl rfl (by decide) rfl rfl rfl rfl ?_ | refine aops_ld tok 0 rfl rfl rfl rfl rfl rfl rfl rfl ?_ | refine aops_ld tok 1 rfl rfl rfl rfl rfl rfl rfl rfl ?_ | refine aops_stn tok rfl rfl rfl rfl rfl rfl rfl rfl rfl ?_ | refine aops_stn1 tok rfl rfl rfl rfl rfl rfl rfl rfl rfl ?_ | refine acode_seq ?_ | refine acode_region ?_ | refine acode_block ?_ | refine acode_skip ?_ | refine then_n ?_ | refine block_n ?_)
      try (refine aops_ixo tok rfl rfl rfl rfl (by omega) (by omega) rfl rfl rfl ?_
           refine aops_ld tok 0 (y := .bool _) rfl rfl rfl rfl (by rw [headed_eq]; exact bools_get hoq) rfl rfl rfl ?_
           repeat (first | refine aops_put rfl ?_ | refine aops_end ?_ | refine aops_endb ?_ | refine aops_o rfl rfl rfl ?_ | refine aops_max tok rfl rfl rfl rfl rfl rfl ?_ | refine aops_min tok rfl rfl rfl rfl rfl rfl ?_ | refine aops_a tok rfl (by omega) (by omega) rfl rfl rfl ?_ | refine aops_p tok rfl rfl rfl rfl ?_ | refine aops_ixa tok rfl rfl rfl (by decide) rfl rfl rfl rfl ?_ | refine aops_ld tok 0 rfl rfl rfl rfl rfl rfl rfl rfl ?_ | refine aops_ld tok 1 rfl rfl rfl rfl rfl rfl rfl rfl ?_ | refine aops_stn tok rfl rfl rfl rfl rfl rfl rfl rfl rfl ?_ | refine aops_stn1 tok rfl rfl rfl rfl rfl rfl rfl rfl rfl ?_ | refine acode_seq ?_ | refine acode_region ?_ | refine acode_block ?_ | refine acode_skip ?_ | refine then_n ?_ | refine block_n ?_))
      try (refine aops_ixo tok rfl rfl rfl rfl (by omega) (by omega) rfl rfl rfl ?_
           refine aops_ld tok 0 (y := .bool _) rfl rfl rfl rfl (by rw [headed_eq]; exact bools_get hoq) rfl rfl rfl ?_
           repeat (first | refine aops_put rfl ?_ | refine aops_end ?_ | refine aops_endb ?_ | refine aops_o rfl rfl rfl ?_ | refine aops_max tok rfl rfl rfl rfl rfl rfl ?_ | refine aops_min tok rfl rfl rfl rfl rfl rfl ?_ | refine aops_a tok rfl (by omega) (by omega) rfl rfl rfl ?_ | refine aops_p tok rfl rfl rfl rfl ?_ | refine aops_ixa tok rfl rfl rfl (by decide) rfl rfl rfl rfl ?_ | refine aops_ld tok 0 rfl rfl rfl rfl rfl rfl rfl rfl ?_ | refine aops_ld tok 1 rfl rfl rfl rfl rfl rfl rfl rfl ?_ | refine aops_stn tok rfl rfl rfl rfl rfl rfl rfl rfl rfl ?_ | refine aops_stn1 tok rfl rfl rfl rfl rfl rfl rfl rfl rfl ?_ | refine acode_seq ?_ | refine acode_region ?_ | refine acode_block ?_ | refine acode_skip ?_ | refine then_n ?_ | refine block_n ?_))
      refine aops_ixo tok rfl rfl rfl rfl (by omega) (by omega) rfl rfl rfl ?_
      refine aops_sto tok (bools (orT o f (q + 1))) rfl rfl rfl rfl rfl (by rw [bools_len, hol, ho]; show q * 1 + 1 ≤ _; omega) (by rw [← hs]; exact bools_set (by rw [hol]; omega) _) rfl rfl ?_
      repeat (first | refine aops_put rfl ?_ | refine aops_end ?_ | refine aops_endb ?_ | refine aops_o rfl rfl rfl ?_ | refine aops_max tok rfl rfl rfl rfl rfl rfl ?_ | refine aops_min tok rfl rfl rfl rfl rfl rfl ?_ | refine aops_a tok rfl (by omega) (by omega) rfl rfl rfl ?_ | refine aops_p tok rfl rfl rfl rfl ?_ | refine aops_ixa tok rfl rfl rfl (by decide) rfl rfl rfl rfl ?_ | refine aops_ld tok 0 rfl rfl rfl rfl rfl rfl rfl rfl ?_ | refine aops_ld tok 1 rfl rfl rfl rfl rfl rfl rfl rfl ?_ | refine aops_stn tok rfl rfl rfl rfl rfl rfl rfl rfl rfl ?_ | refine aops_stn1 tok rfl rfl rfl rfl rfl rfl rfl rfl rfl ?_ | refine acode_seq ?_ | refine acode_region ?_ | refine acode_block ?_ | refine acode_skip ?_ | refine then_n ?_ | refine block_n ?_)
      exact ⟨q + 1, by omega, by omega, ⟨rfl, rfl, rfl, by rw [hc]; rfl, rfl, trivial⟩, rfl⟩)
  · have hge : q = n := by omega
    subst hge
    refine acode_exit ?_
    repeat (first | refine exit_then ?_ | refine exit_here ?_ | refine exit_out rfl ?_ | refine ret_then ?_ | refine ret_block ?_ | refine then_n ?_ | refine block_n ?_)
    repeat (first | refine aops_put rfl ?_ | refine aops_end ?_ | refine aops_endb ?_ | refine aops_o rfl rfl rfl ?_ | refine aops_max tok rfl rfl rfl rfl rfl rfl ?_ | refine aops_min tok rfl rfl rfl rfl rfl rfl ?_ | refine aops_a tok rfl (by omega) (by omega) rfl rfl rfl ?_ | refine aops_p tok rfl rfl rfl rfl ?_ | refine aops_ixa tok rfl rfl rfl (by decide) rfl rfl rfl rfl ?_ | refine aops_ld tok 0 rfl rfl rfl rfl rfl rfl rfl rfl ?_ | refine aops_ld tok 1 rfl rfl rfl rfl rfl rfl rfl rfl ?_ | refine aops_stn tok rfl rfl rfl rfl rfl rfl rfl rfl rfl ?_ | refine aops_stn1 tok rfl rfl rfl rfl rfl rfl rfl rfl rfl ?_ | refine acode_seq ?_ | refine acode_region ?_ | refine acode_block ?_ | refine acode_skip ?_ | refine then_n ?_ | refine block_n ?_)
    refine acode_ret ?_
    repeat (first | refine exit_then ?_ | refine exit_here ?_ | refine exit_out rfl ?_ | refine ret_then ?_ | refine ret_block ?_ | refine then_n ?_ | refine block_n ?_)
    exact ⟨.bool (cameL o f), ⟨rfl, by rw [← orT_all, ho]⟩, resOf_tmp (by show A.bool _ = A.bool _; unfold cameL cameT; rw [ho])⟩
end Go.Proofs.Ytnellmjnlnnckaa.Ab

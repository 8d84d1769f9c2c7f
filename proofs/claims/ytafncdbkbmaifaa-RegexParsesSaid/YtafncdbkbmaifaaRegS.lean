/- Chapter 3: the reference's reader all together, Parse of the reference: the walk. No condition. -/
import Derived.Test.YtafncdbkbmaifaaRegR
import Derived.Test.YtafncdbkbmaifaaRegE
set_option linter.unusedVariables false
set_option linter.unusedSimpArgs false
namespace Go.Proofs.Ytafncdbkbmaifaa.Ab
attribute [local irreducible] thenA inBlockA ACode AOps put IntKind.wrap
theorem readerQ {s : List Int} (hs : byteS s) (hL : s.length ≤ 900) {rb : Nat} (f : Nat) : AtomQ s rb f ∧ RepQ s rb f ∧ SeqQ s rb f ∧ AltQ s rb f := by
  induction f using Nat.strongRecOn with
  | _ f ih => exact ⟨atomR_qc hs hL fun g hg => (ih g hg).2.2.2, repR_qc hs hL fun g hg => (ih g hg).1, seqR_qc hs hL fun g hg => (ih g hg).2.1, altR_qc hs hL fun g hg => (ih g hg).2.2.1⟩
set_option maxHeartbeats 8000000 in
theorem rparse_calls {s : List Int} (hb : ∀ x ∈ s, 0 ≤ x ∧ x ≤ 255) (M : List Ob) : ACalls Try.prog 11 [.str (strOfNums s)] M (fun r M' => r = .tup [.agg (reC (parseP s).1), .int .i64 (parseP s).2.1, .int .i64 (parseP s).2.2] ∧ M' = M) := by
  have hsz := str_len (s := s)
  refine acalls_of_code 49 Try.func11 rfl rfl rfl ?_
  repeat (first | refine aops_put rfl ?_ | refine aops_end ?_ | refine aops_endb ?_ | refine aops_o rfl rfl rfl ?_ | refine aops_max tok rfl rfl rfl rfl rfl rfl ?_ | refine aops_min tok rfl rfl rfl rfl rfl rfl ?_ | refine aops_a tok rfl (by omega) (by omega) rfl rfl rfl ?_ | refine aops_p tok rfl rfl rfl rfl ?_ | refine aops_ixa tok rfl rfl rfl (by decide) rfl rfl rfl rfl ?_ | refine aops_ld tok 0 rfl rfl rfl rfl rfl rfl rfl rfl ?_ | refine aops_ld tok 1 rfl rfl rfl rfl rfl rfl rfl rfl ?_ | refine aops_stn tok rfl rfl rfl rfl rfl rfl rfl rfl rfl ?_ | refine aops_stn1 tok rfl rfl rfl rfl rfl rfl rfl rfl rfl ?_ | refine acode_seq ?_ | refine acode_region ?_ | refine acode_block ?_ | refine acode_skip ?_ | refine then_n ?_ | refine block_n ?_)
  refine aops_alloc tok rfl rfl rfl rfl rfl rfl fun b2 => ?_
  repeat' (first | refine aops_put rfl ?_ | refine aops_end ?_ | refine aops_endb ?_ | refine aops_o rfl rfl rfl ?_ | refine aops_max tok rfl rfl rfl rfl rfl rfl ?_ | refine aops_min tok rfl rfl rfl rfl rfl rfl ?_ | refine aops_a tok rfl (by omega) (by omega) rfl rfl rfl ?_ | (refine aops_pd tok rfl rfl rfl rfl ?_ ?_ <;> intro e_) | (refine aops_pe tok rfl rfl rfl rfl ?_ ?_ <;> intro e_) | (refine aops_pn tok rfl rfl rfl rfl ?_ ?_ <;> intro e_) | refine aops_p tok rfl rfl rfl rfl ?_ | refine acode_it rfl ?_ | refine acode_if rfl ?_ | refine aops_ixa tok rfl rfl rfl (by decide) rfl rfl rfl rfl ?_ | refine aops_ld tok 0 rfl rfl rfl rfl rfl rfl rfl rfl ?_ | refine aops_ld tok 1 rfl rfl rfl rfl rfl rfl rfl rfl ?_ | refine aops_stn tok rfl rfl rfl rfl rfl rfl rfl rfl rfl ?_ | refine aops_stn1 tok rfl rfl rfl rfl rfl rfl rfl rfl rfl ?_ | refine acode_seq ?_ | refine acode_region ?_ | refine acode_block ?_ | refine acode_skip ?_ | refine then_n ?_ | refine block_n ?_)
  · have hp : parseP s = (reNone, 0, 3) := by unfold parseP; rw [if_pos (by omega)]
    rw [hp, reC_none]
    refine acode_pubref0 2 rfl ?_
    refine acode_ret ?_
    repeat (first | refine exit_then ?_ | refine exit_here ?_ | refine exit_out rfl ?_ | refine ret_then ?_ | refine ret_block ?_ | refine then_n ?_ | refine block_n ?_)
    exact ⟨_, ⟨rfl, rfl⟩, _, rfl, resOf_pp tok rfl rfl rfl⟩
  · have hl : s.length ≤ 200 := by omega
    have hs : byteS s := ⟨hb, by omega⟩
    have hp : parseP s = if ((if (altF s (fuelP s) 0 ⟨0, 0, 0⟩).2.at_ < s.length then (altF s (fuelP s) 0 ⟨0, 0, 0⟩).2.fail 2 else (altF s (fuelP s) 0 ⟨0, 0, 0⟩).2).e = 0) then ((altF s (fuelP s) 0 ⟨0, 0, 0⟩).1, s.length, 0) else (reNone, (if (altF s (fuelP s) 0 ⟨0, 0, 0⟩).2.at_ < s.length then (altF s (fuelP s) 0 ⟨0, 0, 0⟩).2.fail 2 else (altF s (fuelP s) 0 ⟨0, 0, 0⟩).2).w, (if (altF s (fuelP s) 0 ⟨0, 0, 0⟩).2.at_ < s.length then (altF s (fuelP s) 0 ⟨0, 0, 0⟩).2.fail 2 else (altF s (fuelP s) 0 ⟨0, 0, 0⟩).2).e) := by unfold parseP; rw [if_neg (by omega)]
    rw [hp]
    have hn : need s ⟨0, 0, 0⟩ + 5 ≤ fuelP s := by unfold need fuelP; simp only [if_true]; omega
    have c1 := fun rb M => (readerQ hs (by omega) (rb := rb) (fuelP s)).2.2.2 0 ⟨0, 0, 0⟩ (by omega) rfl (Nat.zero_le _) hn M
    have h1 := (reader_le s (fuelP s)).alt 0 ⟨0, 0, 0⟩ (Nat.zero_le _)
    generalize altF s (fuelP s) 0 ⟨0, 0, 0⟩ = q at *
    obtain ⟨x, r1⟩ := q
    simp only at *
    refine aops_boxo rfl rfl rfl rfl rfl rfl rfl fun rb => ?_
    have hat := h1.1
    repeat (first | refine aops_put rfl ?_ | refine aops_end ?_ | refine aops_endb ?_ | refine aops_o rfl rfl rfl ?_ | refine aops_max tok rfl rfl rfl rfl rfl rfl ?_ | refine aops_min tok rfl rfl rfl rfl rfl rfl ?_ | refine aops_a tok rfl (by omega) (by omega) rfl rfl rfl ?_ | refine aops_p tok rfl rfl rfl rfl ?_ | refine aops_ixa tok rfl rfl rfl (by decide) rfl rfl rfl rfl ?_ | refine aops_ld tok 0 rfl rfl rfl rfl rfl rfl rfl rfl ?_ | refine aops_ld tok 1 rfl rfl rfl rfl rfl rfl rfl rfl ?_ | refine aops_stn tok rfl rfl rfl rfl rfl rfl rfl rfl rfl ?_ | refine aops_stn1 tok rfl rfl rfl rfl rfl rfl rfl rfl rfl ?_ | refine acode_seq ?_ | refine acode_region ?_ | refine acode_block ?_ | refine acode_skip ?_ | refine then_n ?_ | refine block_n ?_)
    refine aops_callq Try.func20 rfl rfl rfl rfl (c1 rb _) rfl rfl rfl ?_
    rintro _ _ ⟨y, q, rfl, rfl, hsim, hy⟩
    have hx := reC_len y
    have hok := reC_ok y
    refine aops_alloc tok rfl rfl rfl rfl rfl rfl fun b6 => ?_
    refine aops_sto tok (reC y) rfl rfl rfl rfl hok (by decide) (sto_all rfl) rfl rfl ?_
    refine aops_end ?_
    refine acode_seq ?_
    generalize hr2 : (if r1.at_ < s.length then r1.fail 2 else r1) = r2 at *
    refine acode_joinI (ι := Rd) (fun p => [(0, .str (strOfNums s)), (2, .ref b2 0), (5, .ref rb 0), (6, .ref b6 0)]) (fun p => ⟨some b6, 6, reC y⟩ :: rdO rb s p :: ⟨some b2, 6, zeroRE⟩ :: M) (fun p => p.e = r2.e ∧ (r2.e ≠ 0 → p.w = r2.w)) ?_ ?_
    · by_cases e1 : r1.e = 0
      · obtain rfl := hsim.1 e1
        have hov := (over_rc rb hs.2 (show q.at_ ≤ 2000 by omega)).mid [⟨some b6, 6, reC y⟩] (⟨some b2, 6, zeroRE⟩ :: M)
        have hf := (failAt_rc rb s q 2 q.at_).mid [⟨some b6, 6, reC y⟩] (⟨some b2, 6, zeroRE⟩ :: M)
        rw [failAt_fail] at hf
        by_cases hlt : q.at_ < s.length
        · rw [if_pos hlt] at hr2
          subst hr2
          rw [decide_eq_false (by omega)] at hov
          repeat' (first | refine aops_put rfl ?_ | refine aops_end ?_ | refine aops_endb ?_ | refine aops_o rfl rfl rfl ?_ | refine aops_max tok rfl rfl rfl rfl rfl rfl ?_ | refine aops_min tok rfl rfl rfl rfl rfl rfl ?_ | refine aops_a tok rfl (by omega) (by omega) rfl rfl rfl ?_ | refine aops_pbt tok rfl (by first | omega | decide) rfl rfl rfl ?_ | refine aops_pbf tok rfl (by first | omega | decide) rfl rfl rfl ?_ | refine aops_pet tok rfl (by omega) rfl rfl rfl ?_ | refine aops_pef tok rfl (by omega) rfl rfl rfl ?_ | (refine aops_pd tok rfl rfl rfl rfl ?_ ?_ <;> intro e_) | (refine aops_pe tok rfl rfl rfl rfl ?_ ?_ <;> intro e_) | (refine aops_pn tok rfl rfl rfl rfl ?_ ?_ <;> intro e_) | refine aops_p tok rfl rfl rfl rfl ?_ | refine acode_it rfl ?_ | refine acode_if rfl ?_ | refine aops_ixa tok rfl rfl rfl (by decide) rfl rfl rfl rfl ?_ | refine aops_ld tok 0 rfl rfl rfl rfl rfl rfl rfl rfl ?_ | refine aops_ld tok 1 rfl rfl rfl rfl rfl rfl rfl rfl ?_ | refine aops_stn tok rfl rfl rfl rfl rfl rfl rfl rfl rfl ?_ | refine aops_stn1 tok rfl rfl rfl rfl rfl rfl rfl rfl rfl ?_ | refine acode_seq ?_ | refine acode_region ?_ | refine acode_block ?_ | refine acode_skip ?_ | refine then_n ?_ | refine block_n ?_)
          all_goals try (exfalso; omega)
          refine aops_callx Try.func21 rfl rfl rfl rfl hov rfl rfl rfl ?_
          repeat' (first | refine aops_put rfl ?_ | refine aops_end ?_ | refine aops_endb ?_ | refine aops_o rfl rfl rfl ?_ | refine aops_max tok rfl rfl rfl rfl rfl rfl ?_ | refine aops_min tok rfl rfl rfl rfl rfl rfl ?_ | refine aops_a tok rfl (by omega) (by omega) rfl rfl rfl ?_ | refine aops_pbt tok rfl (by first | omega | decide) rfl rfl rfl ?_ | refine aops_pbf tok rfl (by first | omega | decide) rfl rfl rfl ?_ | refine aops_pet tok rfl (by omega) rfl rfl rfl ?_ | refine aops_pef tok rfl (by omega) rfl rfl rfl ?_ | (refine aops_pd tok rfl rfl rfl rfl ?_ ?_ <;> intro e_) | (refine aops_pe tok rfl rfl rfl rfl ?_ ?_ <;> intro e_) | (refine aops_pn tok rfl rfl rfl rfl ?_ ?_ <;> intro e_) | refine aops_p tok rfl rfl rfl rfl ?_ | refine acode_it rfl ?_ | refine acode_if rfl ?_ | refine aops_ixa tok rfl rfl rfl (by decide) rfl rfl rfl rfl ?_ | refine aops_ld tok 0 rfl rfl rfl rfl rfl rfl rfl rfl ?_ | refine aops_ld tok 1 rfl rfl rfl rfl rfl rfl rfl rfl ?_ | refine aops_stn tok rfl rfl rfl rfl rfl rfl rfl rfl rfl ?_ | refine aops_stn1 tok rfl rfl rfl rfl rfl rfl rfl rfl rfl ?_ | refine acode_seq ?_ | refine acode_region ?_ | refine acode_block ?_ | refine acode_skip ?_ | refine then_n ?_ | refine block_n ?_)
          all_goals try (exfalso; omega)
          refine aops_callr Try.func22 rfl rfl rfl rfl hf rfl rfl rfl ?_
          repeat (first | refine aops_put rfl ?_ | refine aops_end ?_ | refine aops_endb ?_ | refine aops_o rfl rfl rfl ?_ | refine aops_max tok rfl rfl rfl rfl rfl rfl ?_ | refine aops_min tok rfl rfl rfl rfl rfl rfl ?_ | refine aops_a tok rfl (by omega) (by omega) rfl rfl rfl ?_ | refine aops_p tok rfl rfl rfl rfl ?_ | refine aops_ixa tok rfl rfl rfl (by decide) rfl rfl rfl rfl ?_ | refine aops_ld tok 0 rfl rfl rfl rfl rfl rfl rfl rfl ?_ | refine aops_ld tok 1 rfl rfl rfl rfl rfl rfl rfl rfl ?_ | refine aops_stn tok rfl rfl rfl rfl rfl rfl rfl rfl rfl ?_ | refine aops_stn1 tok rfl rfl rfl rfl rfl rfl rfl rfl rfl ?_ | refine acode_seq ?_ | refine acode_region ?_ | refine acode_block ?_ | refine acode_skip ?_ | refine then_n ?_ | refine block_n ?_)
          exact ⟨q.fail 2, ⟨rfl, fun _ => rfl⟩, ⟨rfl, rfl, rfl, rfl, trivial⟩, rfl⟩
        · rw [if_neg hlt] at hr2
          subst hr2
          rw [decide_eq_true (by omega)] at hov
          repeat' (first | refine aops_put rfl ?_ | refine aops_end ?_ | refine aops_endb ?_ | refine aops_o rfl rfl rfl ?_ | refine aops_max tok rfl rfl rfl rfl rfl rfl ?_ | refine aops_min tok rfl rfl rfl rfl rfl rfl ?_ | refine aops_a tok rfl (by omega) (by omega) rfl rfl rfl ?_ | refine aops_pbt tok rfl (by first | omega | decide) rfl rfl rfl ?_ | refine aops_pbf tok rfl (by first | omega | decide) rfl rfl rfl ?_ | refine aops_pet tok rfl (by omega) rfl rfl rfl ?_ | refine aops_pef tok rfl (by omega) rfl rfl rfl ?_ | (refine aops_pd tok rfl rfl rfl rfl ?_ ?_ <;> intro e_) | (refine aops_pe tok rfl rfl rfl rfl ?_ ?_ <;> intro e_) | (refine aops_pn tok rfl rfl rfl rfl ?_ ?_ <;> intro e_) | refine aops_p tok rfl rfl rfl rfl ?_ | refine acode_it rfl ?_ | refine acode_if rfl ?_ | refine aops_ixa tok rfl rfl rfl (by decide) rfl rfl rfl rfl ?_ | refine aops_ld tok 0 rfl rfl rfl rfl rfl rfl rfl rfl ?_ | refine aops_ld tok 1 rfl rfl rfl rfl rfl rfl rfl rfl ?_ | refine aops_stn tok rfl rfl rfl rfl rfl rfl rfl rfl rfl ?_ | refine aops_stn1 tok rfl rfl rfl rfl rfl rfl rfl rfl rfl ?_ | refine acode_seq ?_ | refine acode_region ?_ | refine acode_block ?_ | refine acode_skip ?_ | refine then_n ?_ | refine block_n ?_)
          all_goals try (exfalso; omega)
          refine aops_callx Try.func21 rfl rfl rfl rfl hov rfl rfl rfl ?_
          repeat' (first | refine aops_put rfl ?_ | refine aops_end ?_ | refine aops_endb ?_ | refine aops_o rfl rfl rfl ?_ | refine aops_max tok rfl rfl rfl rfl rfl rfl ?_ | refine aops_min tok rfl rfl rfl rfl rfl rfl ?_ | refine aops_a tok rfl (by omega) (by omega) rfl rfl rfl ?_ | refine aops_pbt tok rfl (by first | omega | decide) rfl rfl rfl ?_ | refine aops_pbf tok rfl (by first | omega | decide) rfl rfl rfl ?_ | refine aops_pet tok rfl (by omega) rfl rfl rfl ?_ | refine aops_pef tok rfl (by omega) rfl rfl rfl ?_ | (refine aops_pd tok rfl rfl rfl rfl ?_ ?_ <;> intro e_) | (refine aops_pe tok rfl rfl rfl rfl ?_ ?_ <;> intro e_) | (refine aops_pn tok rfl rfl rfl rfl ?_ ?_ <;> intro e_) | refine aops_p tok rfl rfl rfl rfl ?_ | refine acode_it rfl ?_ | refine acode_if rfl ?_ | refine aops_ixa tok rfl rfl rfl (by decide) rfl rfl rfl rfl ?_ | refine aops_ld tok 0 rfl rfl rfl rfl rfl rfl rfl rfl ?_ | refine aops_ld tok 1 rfl rfl rfl rfl rfl rfl rfl rfl ?_ | refine aops_stn tok rfl rfl rfl rfl rfl rfl rfl rfl rfl ?_ | refine aops_stn1 tok rfl rfl rfl rfl rfl rfl rfl rfl rfl ?_ | refine acode_seq ?_ | refine acode_region ?_ | refine acode_block ?_ | refine acode_skip ?_ | refine then_n ?_ | refine block_n ?_)
          all_goals try (exfalso; omega)
          exact ⟨q, ⟨rfl, fun _ => rfl⟩, ⟨rfl, rfl, rfl, rfl, trivial⟩, rfl⟩
      · have hq0 : q.e ≠ 0 := by rw [hsim.e]; exact e1
        have hr21 : r2 = r1 := by
          rw [← hr2]
          split
          · unfold Rd.fail; rw [if_neg e1]
          · rfl
        rw [hr21]
        repeat' (first | refine aops_put rfl ?_ | refine aops_end ?_ | refine aops_endb ?_ | refine aops_o rfl rfl rfl ?_ | refine aops_max tok rfl rfl rfl rfl rfl rfl ?_ | refine aops_min tok rfl rfl rfl rfl rfl rfl ?_ | refine aops_a tok rfl (by omega) (by omega) rfl rfl rfl ?_ | refine aops_pbt tok rfl (by first | omega | decide) rfl rfl rfl ?_ | refine aops_pbf tok rfl (by first | omega | decide) rfl rfl rfl ?_ | refine aops_pet tok rfl (by omega) rfl rfl rfl ?_ | refine aops_pef tok rfl (by omega) rfl rfl rfl ?_ | (refine aops_pd tok rfl rfl rfl rfl ?_ ?_ <;> intro e_) | (refine aops_pe tok rfl rfl rfl rfl ?_ ?_ <;> intro e_) | (refine aops_pn tok rfl rfl rfl rfl ?_ ?_ <;> intro e_) | refine aops_p tok rfl rfl rfl rfl ?_ | refine acode_it rfl ?_ | refine acode_if rfl ?_ | refine aops_ixa tok rfl rfl rfl (by decide) rfl rfl rfl rfl ?_ | refine aops_ld tok 0 rfl rfl rfl rfl rfl rfl rfl rfl ?_ | refine aops_ld tok 1 rfl rfl rfl rfl rfl rfl rfl rfl ?_ | refine aops_stn tok rfl rfl rfl rfl rfl rfl rfl rfl rfl ?_ | refine aops_stn1 tok rfl rfl rfl rfl rfl rfl rfl rfl rfl ?_ | refine acode_seq ?_ | refine acode_region ?_ | refine acode_block ?_ | refine acode_skip ?_ | refine then_n ?_ | refine block_n ?_)
        all_goals try (exfalso; omega)
        exact ⟨q, ⟨hsim.e, fun _ => (hsim.2 e1).2.1⟩, ⟨rfl, rfl, rfl, rfl, trivial⟩, rfl⟩
    · rintro p ⟨hpe, hpw⟩
      by_cases he : r2.e = 0
      · have hp0 : p.e = 0 := by rw [hpe]; exact he
        have e1 : r1.e = 0 := by
          by_cases e1 : r1.e = 0
          · exact e1
          · have hr21 : r2 = r1 := by
              rw [← hr2]
              split
              · unfold Rd.fail; rw [if_neg e1]
              · rfl
            rw [← hr21]; exact he
        have hyx := hy e1
        rw [if_pos he]
        simp only
        rw [← hyx]
        repeat' (first | refine aops_put rfl ?_ | refine aops_end ?_ | refine aops_endb ?_ | refine aops_o rfl rfl rfl ?_ | refine aops_max tok rfl rfl rfl rfl rfl rfl ?_ | refine aops_min tok rfl rfl rfl rfl rfl rfl ?_ | refine aops_a tok rfl (by omega) (by omega) rfl rfl rfl ?_ | refine aops_pbt tok rfl (by first | omega | decide) rfl rfl rfl ?_ | refine aops_pbf tok rfl (by first | omega | decide) rfl rfl rfl ?_ | refine aops_pet tok rfl (by omega) rfl rfl rfl ?_ | refine aops_pef tok rfl (by omega) rfl rfl rfl ?_ | (refine aops_pd tok rfl rfl rfl rfl ?_ ?_ <;> intro e_) | (refine aops_pe tok rfl rfl rfl rfl ?_ ?_ <;> intro e_) | (refine aops_pn tok rfl rfl rfl rfl ?_ ?_ <;> intro e_) | refine aops_p tok rfl rfl rfl rfl ?_ | refine acode_it rfl ?_ | refine acode_if rfl ?_ | refine aops_ixa tok rfl rfl rfl (by decide) rfl rfl rfl rfl ?_ | refine aops_ld tok 0 rfl rfl rfl rfl rfl rfl rfl rfl ?_ | refine aops_ld tok 1 rfl rfl rfl rfl rfl rfl rfl rfl ?_ | refine aops_stn tok rfl rfl rfl rfl rfl rfl rfl rfl rfl ?_ | refine aops_stn1 tok rfl rfl rfl rfl rfl rfl rfl rfl rfl ?_ | refine acode_seq ?_ | refine acode_region ?_ | refine acode_block ?_ | refine acode_skip ?_ | refine then_n ?_ | refine block_n ?_)
        all_goals try (exfalso; omega)
        refine aops_ld tok 0 (y := .agg (reC y)) rfl rfl rfl rfl (ld_agg hx) rfl rfl rfl ?_
        repeat (first | refine aops_put rfl ?_ | refine aops_o rfl rfl rfl ?_ | refine aops_max tok rfl rfl rfl rfl rfl rfl ?_ | refine aops_min tok rfl rfl rfl rfl rfl rfl ?_ | refine aops_a tok rfl (by omega) (by omega) rfl rfl rfl ?_ | refine aops_p tok rfl rfl rfl rfl ?_ | refine aops_ixa tok rfl rfl rfl (by decide) rfl rfl rfl rfl ?_ | refine aops_ld tok 0 rfl rfl rfl rfl rfl rfl rfl rfl ?_ | refine aops_ld tok 1 rfl rfl rfl rfl rfl rfl rfl rfl ?_ | refine aops_stn tok rfl rfl rfl rfl rfl rfl rfl rfl rfl ?_ | refine aops_stn1 tok rfl rfl rfl rfl rfl rfl rfl rfl rfl ?_)
        refine aops_stk tok 2 (reC y) _ rfl rfl rfl rfl rfl hok (by show 0 + 6 ≤ 6; decide) (sto_all rfl) rfl rfl rfl ?_
        repeat (first | refine aops_put rfl ?_ | refine aops_o rfl rfl rfl ?_ | refine aops_max tok rfl rfl rfl rfl rfl rfl ?_ | refine aops_min tok rfl rfl rfl rfl rfl rfl ?_ | refine aops_a tok rfl (by omega) (by omega) rfl rfl rfl ?_ | refine aops_p tok rfl rfl rfl rfl ?_ | refine aops_ixa tok rfl rfl rfl (by decide) rfl rfl rfl rfl ?_ | refine aops_ld tok 0 rfl rfl rfl rfl rfl rfl rfl rfl ?_ | refine aops_ld tok 1 rfl rfl rfl rfl rfl rfl rfl rfl ?_ | refine aops_stn tok rfl rfl rfl rfl rfl rfl rfl rfl rfl ?_ | refine aops_stn1 tok rfl rfl rfl rfl rfl rfl rfl rfl rfl ?_)
        refine aops_end ?_
        rw [hsz]
        refine acode_drop0 ?_
        refine acode_drop0 ?_
        refine acode_pubref0 2 rfl ?_
        refine acode_ret ?_
        repeat (first | refine exit_then ?_ | refine exit_here ?_ | refine exit_out rfl ?_ | refine ret_then ?_ | refine ret_block ?_ | refine then_n ?_ | refine block_n ?_)
        exact ⟨_, ⟨rfl, rfl⟩, _, rfl, resOf_pp tok rfl rfl (pp_all hx)⟩
      · have hp0 : p.e ≠ 0 := by rw [hpe]; exact he
        have hw := hpw he
        rw [if_neg he]
        simp only
        rw [reC_none, ← hw, ← hpe]
        repeat' (first | refine aops_put rfl ?_ | refine aops_end ?_ | refine aops_endb ?_ | refine aops_o rfl rfl rfl ?_ | refine aops_max tok rfl rfl rfl rfl rfl rfl ?_ | refine aops_min tok rfl rfl rfl rfl rfl rfl ?_ | refine aops_a tok rfl (by omega) (by omega) rfl rfl rfl ?_ | refine aops_pbt tok rfl (by first | omega | decide) rfl rfl rfl ?_ | refine aops_pbf tok rfl (by first | omega | decide) rfl rfl rfl ?_ | refine aops_pet tok rfl (by omega) rfl rfl rfl ?_ | refine aops_pef tok rfl (by omega) rfl rfl rfl ?_ | (refine aops_pd tok rfl rfl rfl rfl ?_ ?_ <;> intro e_) | (refine aops_pe tok rfl rfl rfl rfl ?_ ?_ <;> intro e_) | (refine aops_pn tok rfl rfl rfl rfl ?_ ?_ <;> intro e_) | refine aops_p tok rfl rfl rfl rfl ?_ | refine acode_it rfl ?_ | refine acode_if rfl ?_ | refine aops_ixa tok rfl rfl rfl (by decide) rfl rfl rfl rfl ?_ | refine aops_ld tok 0 rfl rfl rfl rfl rfl rfl rfl rfl ?_ | refine aops_ld tok 1 rfl rfl rfl rfl rfl rfl rfl rfl ?_ | refine aops_stn tok rfl rfl rfl rfl rfl rfl rfl rfl rfl ?_ | refine aops_stn1 tok rfl rfl rfl rfl rfl rfl rfl rfl rfl ?_ | refine acode_seq ?_ | refine acode_region ?_ | refine acode_block ?_ | refine acode_skip ?_ | refine then_n ?_ | refine block_n ?_)
        all_goals try (exfalso; omega)
        refine acode_drawP [rdO rb s p] 12 [0, 1, 2, 3, 4, 5, 6, 7, 8, 9, 10, 11] [9] mixed (by kernel_rfl) (by kernel_rfl) rfl ?_
        repeat (first | refine seqO_put rfl ?_ | refine seqO_o rfl rfl rfl rfl ?_ | refine seqO_a tok rfl rfl (by omega) (by omega) rfl rfl rfl ?_ | refine seqO_p tok rfl rfl rfl rfl rfl ?_ | refine seqO_ld tok 0 rfl rfl rfl rfl rfl (by simp) rfl rfl rfl rfl ?_ | refine seqO_ld tok 1 rfl rfl rfl rfl rfl (by simp) rfl rfl rfl rfl ?_)
        refine seqO_st tok 2 zeroRE _ rfl rfl rfl rfl rfl rfl rfl (by show 0 + 6 ≤ 6; decide) rfl rfl (by simp) rfl rfl ?_
        repeat (first | refine seqO_put rfl ?_ | refine seqO_o rfl rfl rfl rfl ?_ | refine seqO_a tok rfl rfl (by omega) (by omega) rfl rfl rfl ?_ | refine seqO_p tok rfl rfl rfl rfl rfl ?_ | refine seqO_ld tok 0 rfl rfl rfl rfl rfl (by simp) rfl rfl rfl rfl ?_ | refine seqO_ld tok 1 rfl rfl rfl rfl rfl (by simp) rfl rfl rfl rfl ?_)
        refine SeqO.done ?_
        repeat (first | refine aops_put rfl ?_ | refine aops_o rfl rfl rfl ?_ | refine aops_max tok rfl rfl rfl rfl rfl rfl ?_ | refine aops_min tok rfl rfl rfl rfl rfl rfl ?_ | refine aops_a tok rfl (by omega) (by omega) rfl rfl rfl ?_ | refine aops_p tok rfl rfl rfl rfl ?_ | refine aops_ixa tok rfl rfl rfl (by decide) rfl rfl rfl rfl ?_ | refine aops_ld tok 0 rfl rfl rfl rfl rfl rfl rfl rfl ?_ | refine aops_ld tok 1 rfl rfl rfl rfl rfl rfl rfl rfl ?_ | refine aops_stn tok rfl rfl rfl rfl rfl rfl rfl rfl rfl ?_ | refine aops_stn1 tok rfl rfl rfl rfl rfl rfl rfl rfl rfl ?_)
        refine aops_end ?_
        refine acode_drop0 ?_
        refine acode_drop0 ?_
        refine acode_pubref0 2 rfl ?_
        refine acode_ret ?_
        repeat (first | refine exit_then ?_ | refine exit_here ?_ | refine exit_out rfl ?_ | refine ret_then ?_ | refine ret_block ?_ | refine then_n ?_ | refine block_n ?_)
        exact ⟨_, ⟨rfl, rfl⟩, _, rfl, resOf_pp tok rfl rfl rfl⟩
end Go.Proofs.Ytafncdbkbmaifaa.Ab

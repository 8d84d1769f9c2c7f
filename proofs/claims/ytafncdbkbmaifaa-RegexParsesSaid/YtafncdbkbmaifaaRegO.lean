/- Chapter 3's reference reader: rows of parts, repeated parts: the walk. No condition. -/
import Derived.Test.YtafncdbkbmaifaaRegN
import Derived.Test.YtafncdbkbmaifaaRegB
set_option linter.unusedVariables false
set_option linter.unusedSimpArgs false
namespace Go.Proofs.Ytafncdbkbmaifaa.Ab
attribute [local irreducible] thenA inBlockA ACode AOps put IntKind.wrap
set_option maxHeartbeats 8000000 in
theorem seqR_qc {s : List Int} (hs : byteS s) (hL : s.length ≤ 900) {rb f : Nat} (ih : ∀ f' < f, RepQ s rb f') : SeqQ s rb f := by
  intro d r hd he hat hn M
  obtain ⟨f, rfl⟩ : ∃ g, f = g + 1 := ⟨f - 1, by omega⟩
  rw [seqF_eq]
  refine acalls_of_code 44 Try.func29 rfl rfl rfl ?_
  repeat (first | refine aops_put rfl ?_ | refine aops_end ?_ | refine aops_endb ?_ | refine aops_o rfl rfl rfl ?_ | refine aops_max tok rfl rfl rfl rfl rfl rfl ?_ | refine aops_min tok rfl rfl rfl rfl rfl rfl ?_ | refine aops_a tok rfl (by omega) (by omega) rfl rfl rfl ?_ | refine aops_p tok rfl rfl rfl rfl ?_ | refine aops_ixa tok rfl rfl rfl (by decide) rfl rfl rfl rfl ?_ | refine aops_ld tok 0 rfl rfl rfl rfl rfl rfl rfl rfl ?_ | refine aops_ld tok 1 rfl rfl rfl rfl rfl rfl rfl rfl ?_ | refine aops_stn tok rfl rfl rfl rfl rfl rfl rfl rfl rfl ?_ | refine aops_stn1 tok rfl rfl rfl rfl rfl rfl rfl rfl rfl ?_ | refine acode_seq ?_ | refine acode_region ?_ | refine acode_block ?_ | refine acode_skip ?_ | refine then_n ?_ | refine block_n ?_)
  refine aops_alloc tok rfl rfl rfl rfl rfl rfl fun b4 => ?_
  repeat (first | refine aops_put rfl ?_ | refine aops_o rfl rfl rfl ?_ | refine aops_max tok rfl rfl rfl rfl rfl rfl ?_ | refine aops_min tok rfl rfl rfl rfl rfl rfl ?_ | refine aops_a tok rfl (by omega) (by omega) rfl rfl rfl ?_ | refine aops_p tok rfl rfl rfl rfl ?_ | refine aops_ixa tok rfl rfl rfl (by decide) rfl rfl rfl rfl ?_ | refine aops_ld tok 0 rfl rfl rfl rfl rfl rfl rfl rfl ?_ | refine aops_ld tok 1 rfl rfl rfl rfl rfl rfl rfl rfl ?_ | refine aops_stn tok rfl rfl rfl rfl rfl rfl rfl rfl rfl ?_ | refine aops_stn1 tok rfl rfl rfl rfl rfl rfl rfl rfl rfl ?_)
  refine aops_end ?_
  refine acode_seq ?_
  refine acode_region ?_
  repeat (first | refine aops_put rfl ?_ | refine aops_o rfl rfl rfl ?_ | refine aops_max tok rfl rfl rfl rfl rfl rfl ?_ | refine aops_min tok rfl rfl rfl rfl rfl rfl ?_ | refine aops_a tok rfl (by omega) (by omega) rfl rfl rfl ?_ | refine aops_p tok rfl rfl rfl rfl ?_ | refine aops_ixa tok rfl rfl rfl (by decide) rfl rfl rfl rfl ?_ | refine aops_ld tok 0 rfl rfl rfl rfl rfl rfl rfl rfl ?_ | refine aops_ld tok 1 rfl rfl rfl rfl rfl rfl rfl rfl ?_ | refine aops_stn tok rfl rfl rfl rfl rfl rfl rfl rfl rfl ?_ | refine aops_stn1 tok rfl rfl rfl rfl rfl rfl rfl rfl rfl ?_)
  refine aops_end ?_
  refine acode_adopt 5 6 rfl ?_
  generalize hfin : seqL s f d [] r = fin at *
  refine acode_seq ?_
  refine acode_joinI (ι := Option Nat × Nat × List RE × Rd) (fun p => [(0, .ref rb 0), (1, .int .i64 d), (4, .ref b4 0), (5, .own p.1 p.2.2.1.length p.2.1)]) (fun p => ⟨p.1, p.2.1 * 6, encs reC p.2.2.1⟩ :: ⟨some b4, 6, zeroRE⟩ :: rdO rb s p.2.2.2 :: M) (fun p => p.2.2.1.length ≤ s.length + 2 ∧ Sim s (40 - d) fin.2 p.2.2.2 ∧ (fin.2.e = 0 → p.2.2.1 = fin.1)) ?_ ?_
  · refine acode_block ?_
    refine acode_loopS (ι := Option Nat × Nat × Nat × List RE × Rd × Rd) (fun p => [(0, .ref rb 0), (1, .int .i64 d), (4, .ref b4 0), (5, .own p.1 p.2.2.2.1.length p.2.1)]) (fun p => ⟨p.1, p.2.1 * 6, encs reC p.2.2.2.1⟩ :: ⟨some b4, 6, zeroRE⟩ :: rdO rb s p.2.2.2.2.2 :: M) (fun p => need s p.2.2.2.2.1) (fun p => p.2.2.2.2.1.at_ ≤ s.length ∧ Sim s (40 - d) p.2.2.2.2.1 p.2.2.2.2.2 ∧ p.2.2.2.1.length ≤ s.length + 2 ∧ (p.2.2.2.2.1.e = 0 → seqL s p.2.2.1 d p.2.2.2.1 p.2.2.2.2.1 = fin ∧ need s p.2.2.2.2.1 + 3 ≤ p.2.2.1 ∧ p.2.2.1 < f + 1 ∧ p.2.2.2.1.length ≤ p.2.2.2.2.1.at_) ∧ (p.2.2.2.2.1.e ≠ 0 → fin.2 = p.2.2.2.2.1)) (none, 0, f, [], r, r) ⟨hat, Sim.refl (Nat.le_trans hat (Nat.le_add_right _ _)), by simp, fun e => ⟨hfin, by simp only; omega, by simp only; omega, by simp⟩, fun e => absurd he e⟩ ⟨rfl, rfl, rfl, rfl, trivial⟩ rfl ?_
    rintro ⟨ob, cap, f2, l, rM, q⟩ ⟨hM, hsim, hl2, hok, hbad⟩
    simp only at hM hsim hl2 hok hbad ⊢
    by_cases e0 : rM.e = 0
    · obtain rfl := hsim.1 e0
      obtain ⟨hf2, hn2, hf3, hl3⟩ := hok e0
      have hov := (over_rc rb hs.2 (show q.at_ ≤ 2000 by omega)).mid [⟨ob, cap * 6, encs reC l⟩, ⟨some b4, 6, zeroRE⟩] M
      have i124 := (isR_rc hs rb (show q.at_ ≤ 2000 by omega) 124).mid [⟨ob, cap * 6, encs reC l⟩, ⟨some b4, 6, zeroRE⟩] M
      have i41 := (isR_rc hs rb (show q.at_ ≤ 2000 by omega) 41).mid [⟨ob, cap * 6, encs reC l⟩, ⟨some b4, 6, zeroRE⟩] M
      rw [isR_is e0] at i124 i41
      obtain ⟨f3, rfl⟩ : ∃ g, f2 = g + 1 := ⟨f2 - 1, by omega⟩
      rw [seqL_eq] at hf2
      repeat (first | refine aops_put rfl ?_ | refine aops_end ?_ | refine aops_endb ?_ | refine aops_o rfl rfl rfl ?_ | refine aops_max tok rfl rfl rfl rfl rfl rfl ?_ | refine aops_min tok rfl rfl rfl rfl rfl rfl ?_ | refine aops_a tok rfl (by omega) (by omega) rfl rfl rfl ?_ | refine aops_p tok rfl rfl rfl rfl ?_ | refine aops_ixa tok rfl rfl rfl (by decide) rfl rfl rfl rfl ?_ | refine aops_ld tok 0 rfl rfl rfl rfl rfl rfl rfl rfl ?_ | refine aops_ld tok 1 rfl rfl rfl rfl rfl rfl rfl rfl ?_ | refine aops_stn tok rfl rfl rfl rfl rfl rfl rfl rfl rfl ?_ | refine aops_stn1 tok rfl rfl rfl rfl rfl rfl rfl rfl rfl ?_ | refine acode_seq ?_ | refine acode_region ?_ | refine acode_block ?_ | refine acode_skip ?_ | refine then_n ?_ | refine block_n ?_)
      refine aops_ld tok 2 rfl rfl rfl rfl rfl rfl rfl rfl ?_
      repeat' (first | refine aops_put rfl ?_ | refine aops_end ?_ | refine aops_endb ?_ | refine aops_o rfl rfl rfl ?_ | refine aops_max tok rfl rfl rfl rfl rfl rfl ?_ | refine aops_min tok rfl rfl rfl rfl rfl rfl ?_ | refine aops_a tok rfl (by omega) (by omega) rfl rfl rfl ?_ | refine aops_pbt tok rfl (by first | omega | decide) rfl rfl rfl ?_ | refine aops_pbf tok rfl (by first | omega | decide) rfl rfl rfl ?_ | refine aops_pet tok rfl (by omega) rfl rfl rfl ?_ | refine aops_pef tok rfl (by omega) rfl rfl rfl ?_ | (refine aops_pd tok rfl rfl rfl rfl ?_ ?_ <;> intro e_) | (refine aops_pe tok rfl rfl rfl rfl ?_ ?_ <;> intro e_) | (refine aops_pn tok rfl rfl rfl rfl ?_ ?_ <;> intro e_) | refine aops_p tok rfl rfl rfl rfl ?_ | refine acode_it rfl ?_ | refine acode_if rfl ?_ | refine aops_ixa tok rfl rfl rfl (by decide) rfl rfl rfl rfl ?_ | refine aops_ld tok 0 rfl rfl rfl rfl rfl rfl rfl rfl ?_ | refine aops_ld tok 1 rfl rfl rfl rfl rfl rfl rfl rfl ?_ | refine aops_stn tok rfl rfl rfl rfl rfl rfl rfl rfl rfl ?_ | refine aops_stn1 tok rfl rfl rfl rfl rfl rfl rfl rfl rfl ?_ | refine acode_seq ?_ | refine acode_region ?_ | refine acode_block ?_ | refine acode_skip ?_ | refine then_n ?_ | refine block_n ?_)
      all_goals try (exfalso; omega)
      refine aops_callx Try.func21 rfl rfl rfl rfl hov rfl rfl rfl ?_
      by_cases hlt : s.length ≤ q.at_
      · rw [decide_eq_true hlt]
        rw [if_neg (fun h => by have := h.2.1; omega)] at hf2
        subst hf2
        repeat' (first | refine aops_put rfl ?_ | refine aops_end ?_ | refine aops_endb ?_ | refine aops_o rfl rfl rfl ?_ | refine aops_max tok rfl rfl rfl rfl rfl rfl ?_ | refine aops_min tok rfl rfl rfl rfl rfl rfl ?_ | refine aops_a tok rfl (by omega) (by omega) rfl rfl rfl ?_ | refine aops_pbt tok rfl (by first | omega | decide) rfl rfl rfl ?_ | refine aops_pbf tok rfl (by first | omega | decide) rfl rfl rfl ?_ | refine aops_pet tok rfl (by omega) rfl rfl rfl ?_ | refine aops_pef tok rfl (by omega) rfl rfl rfl ?_ | (refine aops_pd tok rfl rfl rfl rfl ?_ ?_ <;> intro e_) | (refine aops_pe tok rfl rfl rfl rfl ?_ ?_ <;> intro e_) | (refine aops_pn tok rfl rfl rfl rfl ?_ ?_ <;> intro e_) | refine aops_p tok rfl rfl rfl rfl ?_ | refine acode_it rfl ?_ | refine acode_if rfl ?_ | refine aops_ixa tok rfl rfl rfl (by decide) rfl rfl rfl rfl ?_ | refine aops_ld tok 0 rfl rfl rfl rfl rfl rfl rfl rfl ?_ | refine aops_ld tok 1 rfl rfl rfl rfl rfl rfl rfl rfl ?_ | refine aops_stn tok rfl rfl rfl rfl rfl rfl rfl rfl rfl ?_ | refine aops_stn1 tok rfl rfl rfl rfl rfl rfl rfl rfl rfl ?_ | refine acode_seq ?_ | refine acode_region ?_ | refine acode_block ?_ | refine acode_skip ?_ | refine then_n ?_ | refine block_n ?_)
        all_goals try (exfalso; omega)
        refine acode_exit ?_
        repeat (first | refine exit_then ?_ | refine exit_here ?_ | refine exit_out rfl ?_ | refine ret_then ?_ | refine ret_block ?_ | refine then_n ?_ | refine block_n ?_)
        exact ⟨(ob, cap, l, q), ⟨hl2, hsim, fun _ => rfl⟩, ⟨rfl, rfl, rfl, rfl, trivial⟩, rfl⟩
      rw [decide_eq_false hlt]
      repeat' (first | refine aops_put rfl ?_ | refine aops_end ?_ | refine aops_endb ?_ | refine aops_o rfl rfl rfl ?_ | refine aops_max tok rfl rfl rfl rfl rfl rfl ?_ | refine aops_min tok rfl rfl rfl rfl rfl rfl ?_ | refine aops_a tok rfl (by omega) (by omega) rfl rfl rfl ?_ | refine aops_pbt tok rfl (by first | omega | decide) rfl rfl rfl ?_ | refine aops_pbf tok rfl (by first | omega | decide) rfl rfl rfl ?_ | refine aops_pet tok rfl (by omega) rfl rfl rfl ?_ | refine aops_pef tok rfl (by omega) rfl rfl rfl ?_ | (refine aops_pd tok rfl rfl rfl rfl ?_ ?_ <;> intro e_) | (refine aops_pe tok rfl rfl rfl rfl ?_ ?_ <;> intro e_) | (refine aops_pn tok rfl rfl rfl rfl ?_ ?_ <;> intro e_) | refine aops_p tok rfl rfl rfl rfl ?_ | refine acode_it rfl ?_ | refine acode_if rfl ?_ | refine aops_ixa tok rfl rfl rfl (by decide) rfl rfl rfl rfl ?_ | refine aops_ld tok 0 rfl rfl rfl rfl rfl rfl rfl rfl ?_ | refine aops_ld tok 1 rfl rfl rfl rfl rfl rfl rfl rfl ?_ | refine aops_stn tok rfl rfl rfl rfl rfl rfl rfl rfl rfl ?_ | refine aops_stn1 tok rfl rfl rfl rfl rfl rfl rfl rfl rfl ?_ | refine acode_seq ?_ | refine acode_region ?_ | refine acode_block ?_ | refine acode_skip ?_ | refine then_n ?_ | refine block_n ?_)
      all_goals try (exfalso; omega)
      refine aops_callx Try.func30 rfl rfl rfl rfl i124 rfl rfl rfl ?_
      cases h124 : q.is s 124 with
      | true =>
        rw [if_neg (fun h => by rw [h124] at h; exact absurd h.2.2.1 (by simp))] at hf2
        subst hf2
        repeat' (first | refine aops_put rfl ?_ | refine aops_end ?_ | refine aops_endb ?_ | refine aops_o rfl rfl rfl ?_ | refine aops_max tok rfl rfl rfl rfl rfl rfl ?_ | refine aops_min tok rfl rfl rfl rfl rfl rfl ?_ | refine aops_a tok rfl (by omega) (by omega) rfl rfl rfl ?_ | refine aops_pbt tok rfl (by first | omega | decide) rfl rfl rfl ?_ | refine aops_pbf tok rfl (by first | omega | decide) rfl rfl rfl ?_ | refine aops_pet tok rfl (by omega) rfl rfl rfl ?_ | refine aops_pef tok rfl (by omega) rfl rfl rfl ?_ | (refine aops_pd tok rfl rfl rfl rfl ?_ ?_ <;> intro e_) | (refine aops_pe tok rfl rfl rfl rfl ?_ ?_ <;> intro e_) | (refine aops_pn tok rfl rfl rfl rfl ?_ ?_ <;> intro e_) | refine aops_p tok rfl rfl rfl rfl ?_ | refine acode_it rfl ?_ | refine acode_if rfl ?_ | refine aops_ixa tok rfl rfl rfl (by decide) rfl rfl rfl rfl ?_ | refine aops_ld tok 0 rfl rfl rfl rfl rfl rfl rfl rfl ?_ | refine aops_ld tok 1 rfl rfl rfl rfl rfl rfl rfl rfl ?_ | refine aops_stn tok rfl rfl rfl rfl rfl rfl rfl rfl rfl ?_ | refine aops_stn1 tok rfl rfl rfl rfl rfl rfl rfl rfl rfl ?_ | refine acode_seq ?_ | refine acode_region ?_ | refine acode_block ?_ | refine acode_skip ?_ | refine then_n ?_ | refine block_n ?_)
        all_goals try (exfalso; omega)
        refine acode_exit ?_
        repeat (first | refine exit_then ?_ | refine exit_here ?_ | refine exit_out rfl ?_ | refine ret_then ?_ | refine ret_block ?_ | refine then_n ?_ | refine block_n ?_)
        exact ⟨(ob, cap, l, q), ⟨hl2, hsim, fun _ => rfl⟩, ⟨rfl, rfl, rfl, rfl, trivial⟩, rfl⟩
      | false =>
        repeat' (first | refine aops_put rfl ?_ | refine aops_end ?_ | refine aops_endb ?_ | refine aops_o rfl rfl rfl ?_ | refine aops_max tok rfl rfl rfl rfl rfl rfl ?_ | refine aops_min tok rfl rfl rfl rfl rfl rfl ?_ | refine aops_a tok rfl (by omega) (by omega) rfl rfl rfl ?_ | refine aops_pbt tok rfl (by first | omega | decide) rfl rfl rfl ?_ | refine aops_pbf tok rfl (by first | omega | decide) rfl rfl rfl ?_ | refine aops_pet tok rfl (by omega) rfl rfl rfl ?_ | refine aops_pef tok rfl (by omega) rfl rfl rfl ?_ | (refine aops_pd tok rfl rfl rfl rfl ?_ ?_ <;> intro e_) | (refine aops_pe tok rfl rfl rfl rfl ?_ ?_ <;> intro e_) | (refine aops_pn tok rfl rfl rfl rfl ?_ ?_ <;> intro e_) | refine aops_p tok rfl rfl rfl rfl ?_ | refine acode_it rfl ?_ | refine acode_if rfl ?_ | refine aops_ixa tok rfl rfl rfl (by decide) rfl rfl rfl rfl ?_ | refine aops_ld tok 0 rfl rfl rfl rfl rfl rfl rfl rfl ?_ | refine aops_ld tok 1 rfl rfl rfl rfl rfl rfl rfl rfl ?_ | refine aops_stn tok rfl rfl rfl rfl rfl rfl rfl rfl rfl ?_ | refine aops_stn1 tok rfl rfl rfl rfl rfl rfl rfl rfl rfl ?_ | refine acode_seq ?_ | refine acode_region ?_ | refine acode_block ?_ | refine acode_skip ?_ | refine then_n ?_ | refine block_n ?_)
        all_goals try (exfalso; omega)
        refine aops_callx Try.func30 rfl rfl rfl rfl i41 rfl rfl rfl ?_
        cases h41 : q.is s 41 with
        | true =>
          rw [if_neg (fun h => by rw [h41] at h; exact absurd h.2.2.2 (by simp))] at hf2
          subst hf2
          repeat' (first | refine aops_put rfl ?_ | refine aops_end ?_ | refine aops_endb ?_ | refine aops_o rfl rfl rfl ?_ | refine aops_max tok rfl rfl rfl rfl rfl rfl ?_ | refine aops_min tok rfl rfl rfl rfl rfl rfl ?_ | refine aops_a tok rfl (by omega) (by omega) rfl rfl rfl ?_ | refine aops_pbt tok rfl (by first | omega | decide) rfl rfl rfl ?_ | refine aops_pbf tok rfl (by first | omega | decide) rfl rfl rfl ?_ | refine aops_pet tok rfl (by omega) rfl rfl rfl ?_ | refine aops_pef tok rfl (by omega) rfl rfl rfl ?_ | (refine aops_pd tok rfl rfl rfl rfl ?_ ?_ <;> intro e_) | (refine aops_pe tok rfl rfl rfl rfl ?_ ?_ <;> intro e_) | (refine aops_pn tok rfl rfl rfl rfl ?_ ?_ <;> intro e_) | refine aops_p tok rfl rfl rfl rfl ?_ | refine acode_it rfl ?_ | refine acode_if rfl ?_ | refine aops_ixa tok rfl rfl rfl (by decide) rfl rfl rfl rfl ?_ | refine aops_ld tok 0 rfl rfl rfl rfl rfl rfl rfl rfl ?_ | refine aops_ld tok 1 rfl rfl rfl rfl rfl rfl rfl rfl ?_ | refine aops_stn tok rfl rfl rfl rfl rfl rfl rfl rfl rfl ?_ | refine aops_stn1 tok rfl rfl rfl rfl rfl rfl rfl rfl rfl ?_ | refine acode_seq ?_ | refine acode_region ?_ | refine acode_block ?_ | refine acode_skip ?_ | refine then_n ?_ | refine block_n ?_)
          all_goals try (exfalso; omega)
          refine acode_exit ?_
          repeat (first | refine exit_then ?_ | refine exit_here ?_ | refine exit_out rfl ?_ | refine ret_then ?_ | refine ret_block ?_ | refine then_n ?_ | refine block_n ?_)
          exact ⟨(ob, cap, l, q), ⟨hl2, hsim, fun _ => rfl⟩, ⟨rfl, rfl, rfl, rfl, trivial⟩, rfl⟩
        | false =>
          rw [if_pos ⟨e0, by omega, h124, h41⟩] at hf2
          have d2 := (ih f3 (by omega) d q hd e0 (by omega) (by omega)).mid [⟨ob, cap * 6, encs reC l⟩, ⟨some b4, 6, zeroRE⟩] M
          have h3 := ((reader_le s f3).part d q hM).2 (by omega)
          have hn4 := need_lt h3 e0 (by omega)
          generalize partP s f3 d q = qq at *
          obtain ⟨x2, r3⟩ := qq
          simp only at *
          repeat' (first | refine aops_put rfl ?_ | refine aops_end ?_ | refine aops_endb ?_ | refine aops_o rfl rfl rfl ?_ | refine aops_max tok rfl rfl rfl rfl rfl rfl ?_ | refine aops_min tok rfl rfl rfl rfl rfl rfl ?_ | refine aops_a tok rfl (by omega) (by omega) rfl rfl rfl ?_ | refine aops_pbt tok rfl (by first | omega | decide) rfl rfl rfl ?_ | refine aops_pbf tok rfl (by first | omega | decide) rfl rfl rfl ?_ | refine aops_pet tok rfl (by omega) rfl rfl rfl ?_ | refine aops_pef tok rfl (by omega) rfl rfl rfl ?_ | (refine aops_pd tok rfl rfl rfl rfl ?_ ?_ <;> intro e_) | (refine aops_pe tok rfl rfl rfl rfl ?_ ?_ <;> intro e_) | (refine aops_pn tok rfl rfl rfl rfl ?_ ?_ <;> intro e_) | refine aops_p tok rfl rfl rfl rfl ?_ | refine acode_it rfl ?_ | refine acode_if rfl ?_ | refine aops_ixa tok rfl rfl rfl (by decide) rfl rfl rfl rfl ?_ | refine aops_ld tok 0 rfl rfl rfl rfl rfl rfl rfl rfl ?_ | refine aops_ld tok 1 rfl rfl rfl rfl rfl rfl rfl rfl ?_ | refine aops_stn tok rfl rfl rfl rfl rfl rfl rfl rfl rfl ?_ | refine aops_stn1 tok rfl rfl rfl rfl rfl rfl rfl rfl rfl ?_ | refine acode_seq ?_ | refine acode_region ?_ | refine acode_block ?_ | refine acode_skip ?_ | refine then_n ?_ | refine block_n ?_)
          all_goals try (exfalso; omega)
          refine aops_callq Try.func36 rfl rfl rfl rfl d2 rfl rfl rfl ?_
          rintro _ _ ⟨y2, q3, rfl, rfl, hsim2, hy2⟩
          refine aops_lit1 tok (y := .agg (reC y2)) rfl rfl rfl rfl (reC_ok y2) rfl rfl rfl ?_
          refine aops_app0 (n := l.length) (m := 1) (ds := reC y2) tok rfl rfl rfl rfl rfl (reC_enc l) (reC_len y2) (reC_cell y2) rfl (by show _ * 64 ≤ _; omega) (by omega) rfl rfl rfl fun ob' cap' => ?_
          rw [← reC_snoc]
          repeat (first | refine aops_put rfl ?_ | refine aops_end ?_ | refine aops_endb ?_ | refine aops_o rfl rfl rfl ?_ | refine aops_max tok rfl rfl rfl rfl rfl rfl ?_ | refine aops_min tok rfl rfl rfl rfl rfl rfl ?_ | refine aops_a tok rfl (by omega) (by omega) rfl rfl rfl ?_ | refine aops_p tok rfl rfl rfl rfl ?_ | refine aops_ixa tok rfl rfl rfl (by decide) rfl rfl rfl rfl ?_ | refine aops_ld tok 0 rfl rfl rfl rfl rfl rfl rfl rfl ?_ | refine aops_ld tok 1 rfl rfl rfl rfl rfl rfl rfl rfl ?_ | refine aops_stn tok rfl rfl rfl rfl rfl rfl rfl rfl rfl ?_ | refine aops_stn1 tok rfl rfl rfl rfl rfl rfl rfl rfl rfl ?_ | refine acode_seq ?_ | refine acode_region ?_ | refine acode_block ?_ | refine acode_skip ?_ | refine then_n ?_ | refine block_n ?_)
          refine ⟨(ob', cap', f3, l ++ [y2], r3, q3), ⟨h3.1, hsim2, ?_, fun e3 => ?_, fun e3 => ?_⟩, ?_, ⟨rfl, rfl, rfl, ?_, trivial⟩, rfl⟩
          · simp only [List.length_append, List.length_cons, List.length_nil]; omega
          · simp only at e3 ⊢
            have h5 := h3.2 e3
            refine ⟨by rw [hy2 e3]; exact hf2, by omega, by omega, ?_⟩
            simp only [List.length_append, List.length_cons, List.length_nil]; omega
          · simp only at e3 ⊢
            rw [← hf2, seqL_stop e3]
          · simp only; omega
          · show A.own _ _ _ = A.own _ _ _
            simp
    · have hq0 : q.e ≠ 0 := by rw [hsim.e]; exact e0
      have hb := hbad e0
      repeat (first | refine aops_put rfl ?_ | refine aops_end ?_ | refine aops_endb ?_ | refine aops_o rfl rfl rfl ?_ | refine aops_max tok rfl rfl rfl rfl rfl rfl ?_ | refine aops_min tok rfl rfl rfl rfl rfl rfl ?_ | refine aops_a tok rfl (by omega) (by omega) rfl rfl rfl ?_ | refine aops_p tok rfl rfl rfl rfl ?_ | refine aops_ixa tok rfl rfl rfl (by decide) rfl rfl rfl rfl ?_ | refine aops_ld tok 0 rfl rfl rfl rfl rfl rfl rfl rfl ?_ | refine aops_ld tok 1 rfl rfl rfl rfl rfl rfl rfl rfl ?_ | refine aops_stn tok rfl rfl rfl rfl rfl rfl rfl rfl rfl ?_ | refine aops_stn1 tok rfl rfl rfl rfl rfl rfl rfl rfl rfl ?_ | refine acode_seq ?_ | refine acode_region ?_ | refine acode_block ?_ | refine acode_skip ?_ | refine then_n ?_ | refine block_n ?_)
      refine aops_ld tok 2 rfl rfl rfl rfl rfl rfl rfl rfl ?_
      repeat' (first | refine aops_put rfl ?_ | refine aops_end ?_ | refine aops_endb ?_ | refine aops_o rfl rfl rfl ?_ | refine aops_max tok rfl rfl rfl rfl rfl rfl ?_ | refine aops_min tok rfl rfl rfl rfl rfl rfl ?_ | refine aops_a tok rfl (by omega) (by omega) rfl rfl rfl ?_ | refine aops_pbt tok rfl (by first | omega | decide) rfl rfl rfl ?_ | refine aops_pbf tok rfl (by first | omega | decide) rfl rfl rfl ?_ | refine aops_pet tok rfl (by omega) rfl rfl rfl ?_ | refine aops_pef tok rfl (by omega) rfl rfl rfl ?_ | (refine aops_pd tok rfl rfl rfl rfl ?_ ?_ <;> intro e_) | (refine aops_pe tok rfl rfl rfl rfl ?_ ?_ <;> intro e_) | (refine aops_pn tok rfl rfl rfl rfl ?_ ?_ <;> intro e_) | refine aops_p tok rfl rfl rfl rfl ?_ | refine acode_it rfl ?_ | refine acode_if rfl ?_ | refine aops_ixa tok rfl rfl rfl (by decide) rfl rfl rfl rfl ?_ | refine aops_ld tok 0 rfl rfl rfl rfl rfl rfl rfl rfl ?_ | refine aops_ld tok 1 rfl rfl rfl rfl rfl rfl rfl rfl ?_ | refine aops_stn tok rfl rfl rfl rfl rfl rfl rfl rfl rfl ?_ | refine aops_stn1 tok rfl rfl rfl rfl rfl rfl rfl rfl rfl ?_ | refine acode_seq ?_ | refine acode_region ?_ | refine acode_block ?_ | refine acode_skip ?_ | refine then_n ?_ | refine block_n ?_)
      all_goals try (exfalso; omega)
      refine acode_exit ?_
      repeat (first | refine exit_then ?_ | refine exit_here ?_ | refine exit_out rfl ?_ | refine ret_then ?_ | refine ret_block ?_ | refine then_n ?_ | refine block_n ?_)
      exact ⟨(ob, cap, l, q), ⟨hl2, by rw [hb]; exact hsim, fun e => absurd e (by rw [hb]; exact e0)⟩, ⟨rfl, rfl, rfl, rfl, trivial⟩, rfl⟩
  · rintro ⟨ob, cap, l, q⟩ ⟨hl2, hsim, hfl⟩
    simp only at hl2 hsim hfl ⊢
    refine acode_pub0 5 6 rfl rfl (reC_enc l) rfl ?_
    match l with
    | [] =>
      have hyy : fin.2.e = 0 → reNone = reMany 2 fin.1 := fun e => by rw [← hfl e]; rfl
      simp only [List.length_nil]
      repeat' (first | refine aops_put rfl ?_ | refine aops_end ?_ | refine aops_endb ?_ | refine aops_o rfl rfl rfl ?_ | refine aops_max tok rfl rfl rfl rfl rfl rfl ?_ | refine aops_min tok rfl rfl rfl rfl rfl rfl ?_ | refine aops_a tok rfl (by omega) (by omega) rfl rfl rfl ?_ | refine aops_pbt tok rfl (by first | omega | decide) rfl rfl rfl ?_ | refine aops_pbf tok rfl (by first | omega | decide) rfl rfl rfl ?_ | refine aops_pet tok rfl (by omega) rfl rfl rfl ?_ | refine aops_pef tok rfl (by omega) rfl rfl rfl ?_ | (refine aops_pd tok rfl rfl rfl rfl ?_ ?_ <;> intro e_) | (refine aops_pe tok rfl rfl rfl rfl ?_ ?_ <;> intro e_) | (refine aops_pn tok rfl rfl rfl rfl ?_ ?_ <;> intro e_) | refine aops_p tok rfl rfl rfl rfl ?_ | refine acode_it rfl ?_ | refine acode_if rfl ?_ | refine aops_ixa tok rfl rfl rfl (by decide) rfl rfl rfl rfl ?_ | refine aops_ld tok 0 rfl rfl rfl rfl rfl rfl rfl rfl ?_ | refine aops_ld tok 1 rfl rfl rfl rfl rfl rfl rfl rfl ?_ | refine aops_stn tok rfl rfl rfl rfl rfl rfl rfl rfl rfl ?_ | refine aops_stn1 tok rfl rfl rfl rfl rfl rfl rfl rfl rfl ?_ | refine acode_seq ?_ | refine acode_region ?_ | refine acode_block ?_ | refine acode_skip ?_ | refine then_n ?_ | refine block_n ?_)
      all_goals try (exfalso; omega)
      refine acode_pubref0 4 rfl ?_
      refine acode_ret ?_
      repeat (first | refine exit_then ?_ | refine exit_here ?_ | refine exit_out rfl ?_ | refine ret_then ?_ | refine ret_block ?_ | refine then_n ?_ | refine block_n ?_)
      exact ⟨_, ⟨reNone, q, rfl, rfl, hsim, hyy⟩, resOf_pp tok rfl rfl (by rw [reC_none]; rfl)⟩
    | [y] =>
      have hx := reC_len y
      have hok := reC_ok y
      have h1 : encs reC [y] = reC y := by simp [encs]
      rw [h1]
      simp only [List.length_cons, List.length_nil, Nat.zero_add]
      have hyy : fin.2.e = 0 → y = reMany 2 fin.1 := fun e => by rw [← hfl e]; rfl
      repeat' (first | refine aops_put rfl ?_ | refine aops_end ?_ | refine aops_endb ?_ | refine aops_o rfl rfl rfl ?_ | refine aops_max tok rfl rfl rfl rfl rfl rfl ?_ | refine aops_min tok rfl rfl rfl rfl rfl rfl ?_ | refine aops_a tok rfl (by omega) (by omega) rfl rfl rfl ?_ | refine aops_pbt tok rfl (by first | omega | decide) rfl rfl rfl ?_ | refine aops_pbf tok rfl (by first | omega | decide) rfl rfl rfl ?_ | refine aops_pet tok rfl (by omega) rfl rfl rfl ?_ | refine aops_pef tok rfl (by omega) rfl rfl rfl ?_ | (refine aops_pd tok rfl rfl rfl rfl ?_ ?_ <;> intro e_) | (refine aops_pe tok rfl rfl rfl rfl ?_ ?_ <;> intro e_) | (refine aops_pn tok rfl rfl rfl rfl ?_ ?_ <;> intro e_) | refine aops_p tok rfl rfl rfl rfl ?_ | refine acode_it rfl ?_ | refine acode_if rfl ?_ | refine aops_ixa tok rfl rfl rfl (by decide) rfl rfl rfl rfl ?_ | refine aops_ld tok 0 rfl rfl rfl rfl rfl rfl rfl rfl ?_ | refine aops_ld tok 1 rfl rfl rfl rfl rfl rfl rfl rfl ?_ | refine aops_stn tok rfl rfl rfl rfl rfl rfl rfl rfl rfl ?_ | refine aops_stn1 tok rfl rfl rfl rfl rfl rfl rfl rfl rfl ?_ | refine acode_seq ?_ | refine acode_region ?_ | refine acode_block ?_ | refine acode_skip ?_ | refine then_n ?_ | refine block_n ?_)
      all_goals try (exfalso; omega)
      refine aops_ix tok (reC y) rfl rfl rfl rfl (by omega) (by omega) (by intro h; rw [h] at hx; simp at hx) ⟨[], by simp⟩ rfl rfl rfl ?_
      refine aops_ldagg tok rfl rfl rfl rfl hx rfl rfl rfl ?_
      refine aops_sto tok (reC y) rfl rfl rfl rfl hok (by decide) (sto_all rfl) rfl rfl ?_
      repeat (first | refine aops_put rfl ?_ | refine aops_end ?_ | refine aops_endb ?_ | refine aops_o rfl rfl rfl ?_ | refine aops_max tok rfl rfl rfl rfl rfl rfl ?_ | refine aops_min tok rfl rfl rfl rfl rfl rfl ?_ | refine aops_a tok rfl (by omega) (by omega) rfl rfl rfl ?_ | refine aops_p tok rfl rfl rfl rfl ?_ | refine aops_ixa tok rfl rfl rfl (by decide) rfl rfl rfl rfl ?_ | refine aops_ld tok 0 rfl rfl rfl rfl rfl rfl rfl rfl ?_ | refine aops_ld tok 1 rfl rfl rfl rfl rfl rfl rfl rfl ?_ | refine aops_stn tok rfl rfl rfl rfl rfl rfl rfl rfl rfl ?_ | refine aops_stn1 tok rfl rfl rfl rfl rfl rfl rfl rfl rfl ?_ | refine acode_seq ?_ | refine acode_region ?_ | refine acode_block ?_ | refine acode_skip ?_ | refine then_n ?_ | refine block_n ?_)
      refine acode_pubref0 4 rfl ?_
      refine acode_ret ?_
      repeat (first | refine exit_then ?_ | refine exit_here ?_ | refine exit_out rfl ?_ | refine ret_then ?_ | refine ret_block ?_ | refine then_n ?_ | refine block_n ?_)
      exact ⟨_, ⟨y, q, rfl, rfl, hsim, hyy⟩, resOf_pp tok rfl rfl (pp_all hx)⟩
    | y1 :: y2 :: l' =>
      generalize he : (y1 :: y2 :: l') = l at *
      have h2 : 2 ≤ l.length := by rw [← he]; simp
      have hyy : fin.2.e = 0 → RE.mk 2 0 l = reMany 2 fin.1 := fun e => by rw [← hfl e, ← he]; rfl
      have hrc := reC_kids 2 0 (k := l) (by intro h; rw [h] at h2; simp at h2)
      repeat' (first | refine aops_put rfl ?_ | refine aops_end ?_ | refine aops_endb ?_ | refine aops_o rfl rfl rfl ?_ | refine aops_max tok rfl rfl rfl rfl rfl rfl ?_ | refine aops_min tok rfl rfl rfl rfl rfl rfl ?_ | refine aops_a tok rfl (by omega) (by omega) rfl rfl rfl ?_ | refine aops_pbt tok rfl (by first | omega | decide) rfl rfl rfl ?_ | refine aops_pbf tok rfl (by first | omega | decide) rfl rfl rfl ?_ | refine aops_pet tok rfl (by omega) rfl rfl rfl ?_ | refine aops_pef tok rfl (by omega) rfl rfl rfl ?_ | (refine aops_pd tok rfl rfl rfl rfl ?_ ?_ <;> intro e_) | (refine aops_pe tok rfl rfl rfl rfl ?_ ?_ <;> intro e_) | (refine aops_pn tok rfl rfl rfl rfl ?_ ?_ <;> intro e_) | refine aops_p tok rfl rfl rfl rfl ?_ | refine acode_it rfl ?_ | refine acode_if rfl ?_ | refine aops_ixa tok rfl rfl rfl (by decide) rfl rfl rfl rfl ?_ | refine aops_ld tok 0 rfl rfl rfl rfl rfl rfl rfl rfl ?_ | refine aops_ld tok 1 rfl rfl rfl rfl rfl rfl rfl rfl ?_ | refine aops_stn tok rfl rfl rfl rfl rfl rfl rfl rfl rfl ?_ | refine aops_stn1 tok rfl rfl rfl rfl rfl rfl rfl rfl rfl ?_ | refine acode_seq ?_ | refine acode_region ?_ | refine acode_block ?_ | refine acode_skip ?_ | refine then_n ?_ | refine block_n ?_)
      all_goals try (exfalso; omega)
      refine acode_pubref0 4 rfl ?_
      refine acode_ret ?_
      repeat (first | refine exit_then ?_ | refine exit_here ?_ | refine exit_out rfl ?_ | refine ret_then ?_ | refine ret_block ?_ | refine then_n ?_ | refine block_n ?_)
      exact ⟨_, ⟨.mk 2 0 l, q, rfl, rfl, hsim, hyy⟩, resOf_pp tok rfl rfl (by rw [hrc]; rfl)⟩
end Go.Proofs.Ytafncdbkbmaifaa.Ab

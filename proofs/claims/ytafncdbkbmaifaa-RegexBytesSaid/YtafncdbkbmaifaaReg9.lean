/- Chapter 3's reader: parts, rows, choices: the walk. No condition. -/
import Derived.Test.YtafncdbkbmaifaaReg8
set_option linter.unusedVariables false
set_option linter.unusedSimpArgs false
namespace Go.Proofs.Ytafncdbkbmaifaa.Ab
attribute [local irreducible] thenA inBlockA ACode AOps put IntKind.wrap
def zeroRE : List A := [.int .i64 0, .int .u64 0, .int .u64 0, .int .u64 0, .int .u64 0, .nils]
def AtomOk (s : List Int) (rb f : Nat) : Prop := ∀ (d : Nat) (r : Rd), d ≤ 20 → r.at_ ≤ s.length → need s r + 1 ≤ f → RC 43 [.int .i64 d] s rb r (atomF s f d r).2 (.agg (reC (atomF s f d r).1))
def PartOk (s : List Int) (rb f : Nat) : Prop := ∀ (d : Nat) (r : Rd), d ≤ 20 → r.at_ ≤ s.length → need s r + 2 ≤ f → RC 35 [.int .i64 d] s rb r (partP s f d r).2 (.agg (reC (partP s f d r).1))
def SeqOk (s : List Int) (rb f : Nat) : Prop := ∀ (d : Nat) (r : Rd), d ≤ 20 → r.at_ ≤ s.length → need s r + 4 ≤ f → RC 26 [.int .i64 d] s rb r (seqF s f d r).2 (.agg (reC (seqF s f d r).1))
def AltOk (s : List Int) (rb f : Nat) : Prop := ∀ (d : Nat) (r : Rd), d ≤ 20 → r.at_ ≤ s.length → need s r + 5 ≤ f → RC 17 [.int .i64 d] s rb r (altF s f d r).2 (.agg (reC (altF s f d r).1))
set_option maxHeartbeats 4000000 in
theorem alt_rc {s : List Int} (hs : byteS s) (hL : s.length ≤ 900) {rb f : Nat} (ih : ∀ f' < f, SeqOk s rb f') : AltOk s rb f := by
  intro d r hd hat hn M
  obtain ⟨f, rfl⟩ : ∃ g, f = g + 1 := ⟨f - 1, by omega⟩
  rw [altF_eq]
  have c1 := fun L => (ih f (by omega) d r hd hat (by omega)).mid L M
  have h1 := (reader_le s f).seq d r hat
  have hn1 := need_le h1
  generalize seqF s f d r = q at *
  obtain ⟨x, r1⟩ := q
  simp only at *
  refine acalls_of_code 20 Try.func17 rfl rfl rfl ?_
  repeat (first | refine aops_put rfl ?_ | refine aops_end ?_ | refine aops_endb ?_ | refine aops_o rfl rfl rfl ?_ | refine aops_max tok rfl rfl rfl rfl rfl rfl ?_ | refine aops_min tok rfl rfl rfl rfl rfl rfl ?_ | refine aops_a tok rfl (by omega) (by omega) rfl rfl rfl ?_ | refine aops_p tok rfl rfl rfl rfl ?_ | refine aops_ixa tok rfl rfl rfl (by decide) rfl rfl rfl rfl ?_ | refine aops_ld tok 0 rfl rfl rfl rfl rfl rfl rfl rfl ?_ | refine aops_ld tok 1 rfl rfl rfl rfl rfl rfl rfl rfl ?_ | refine aops_stn tok rfl rfl rfl rfl rfl rfl rfl rfl rfl ?_ | refine aops_stn1 tok rfl rfl rfl rfl rfl rfl rfl rfl rfl ?_ | refine acode_seq ?_ | refine acode_region ?_ | refine acode_block ?_ | refine acode_skip ?_ | refine then_n ?_ | refine block_n ?_)
  refine aops_alloc tok rfl rfl rfl rfl rfl rfl fun b4 => ?_
  repeat (first | refine aops_put rfl ?_ | refine aops_end ?_ | refine aops_endb ?_ | refine aops_o rfl rfl rfl ?_ | refine aops_max tok rfl rfl rfl rfl rfl rfl ?_ | refine aops_min tok rfl rfl rfl rfl rfl rfl ?_ | refine aops_a tok rfl (by omega) (by omega) rfl rfl rfl ?_ | refine aops_p tok rfl rfl rfl rfl ?_ | refine aops_ixa tok rfl rfl rfl (by decide) rfl rfl rfl rfl ?_ | refine aops_ld tok 0 rfl rfl rfl rfl rfl rfl rfl rfl ?_ | refine aops_ld tok 1 rfl rfl rfl rfl rfl rfl rfl rfl ?_ | refine aops_stn tok rfl rfl rfl rfl rfl rfl rfl rfl rfl ?_ | refine aops_stn1 tok rfl rfl rfl rfl rfl rfl rfl rfl rfl ?_ | refine acode_seq ?_ | refine acode_region ?_ | refine acode_block ?_ | refine acode_skip ?_ | refine then_n ?_ | refine block_n ?_)
  refine aops_callr Try.func26 rfl rfl rfl rfl (c1 [_]) rfl rfl rfl ?_
  refine aops_lito1 tok (y := .agg (reC x)) rfl rfl rfl rfl (reC_ok x) (normL_eq _) rfl rfl rfl fun b5 => ?_
  repeat (first | refine aops_put rfl ?_ | refine aops_end ?_ | refine aops_endb ?_ | refine aops_o rfl rfl rfl ?_ | refine aops_max tok rfl rfl rfl rfl rfl rfl ?_ | refine aops_min tok rfl rfl rfl rfl rfl rfl ?_ | refine aops_a tok rfl (by omega) (by omega) rfl rfl rfl ?_ | refine aops_p tok rfl rfl rfl rfl ?_ | refine aops_ixa tok rfl rfl rfl (by decide) rfl rfl rfl rfl ?_ | refine aops_ld tok 0 rfl rfl rfl rfl rfl rfl rfl rfl ?_ | refine aops_ld tok 1 rfl rfl rfl rfl rfl rfl rfl rfl ?_ | refine aops_stn tok rfl rfl rfl rfl rfl rfl rfl rfl rfl ?_ | refine aops_stn1 tok rfl rfl rfl rfl rfl rfl rfl rfl rfl ?_ | refine acode_seq ?_ | refine acode_region ?_ | refine acode_block ?_ | refine acode_skip ?_ | refine then_n ?_ | refine block_n ?_)
  generalize hfin : altL s f d [x] r1 = fin at *
  refine acode_loopS (ι := Option Nat × Nat × Nat × List RE × Rd) (fun p => [(0, .ref rb 0), (1, .int .i64 d), (4, .ref b4 0), (5, .own p.1 p.2.2.2.1.length p.2.1)]) (fun p => ⟨p.1, p.2.1 * 6, encs reC p.2.2.2.1⟩ :: ⟨some b4, 6, zeroRE⟩ :: rdO rb s p.2.2.2.2 :: M) (fun p => need s p.2.2.2.2) (fun p => p.2.2.2.2.at_ ≤ s.length ∧ altL s p.2.2.1 d p.2.2.2.1 p.2.2.2.2 = fin ∧ need s p.2.2.2.2 + 1 ≤ p.2.2.1 ∧ p.2.2.1 < f + 1 ∧ p.2.2.2.1.length ≤ s.length + 2 ∧ (p.2.2.2.2.e = 0 → p.2.2.2.1.length ≤ p.2.2.2.2.at_ + 1)) (some b5, 1, f, [x], r1) ⟨h1.1, hfin, by simp only; omega, by simp only; omega, by simp, fun _ => by simp⟩ ⟨rfl, rfl, rfl, rfl, trivial⟩ (by simp [encs]; exact ⟨rfl, rfl⟩) ?_
  rintro ⟨ob, cap, f2, l, r2⟩ ⟨h2, hf2, hn2, hf3, hl2, hl3⟩
  simp only at h2 hf2 hn2 hf3 hl2 hl3 ⊢
  have d1 := (take_rc hs rb h2 124).mid [⟨ob, cap * 6, encs reC l⟩, ⟨some b4, 6, zeroRE⟩] M
  repeat (first | refine aops_put rfl ?_ | refine aops_end ?_ | refine aops_endb ?_ | refine aops_o rfl rfl rfl ?_ | refine aops_max tok rfl rfl rfl rfl rfl rfl ?_ | refine aops_min tok rfl rfl rfl rfl rfl rfl ?_ | refine aops_a tok rfl (by omega) (by omega) rfl rfl rfl ?_ | refine aops_p tok rfl rfl rfl rfl ?_ | refine aops_ixa tok rfl rfl rfl (by decide) rfl rfl rfl rfl ?_ | refine aops_ld tok 0 rfl rfl rfl rfl rfl rfl rfl rfl ?_ | refine aops_ld tok 1 rfl rfl rfl rfl rfl rfl rfl rfl ?_ | refine aops_stn tok rfl rfl rfl rfl rfl rfl rfl rfl rfl ?_ | refine aops_stn1 tok rfl rfl rfl rfl rfl rfl rfl rfl rfl ?_ | refine acode_seq ?_ | refine acode_region ?_ | refine acode_block ?_ | refine acode_skip ?_ | refine then_n ?_ | refine block_n ?_)
  refine aops_callr Try.func27 rfl rfl rfl rfl d1 rfl rfl rfl ?_
  obtain ⟨f3, rfl⟩ : ∃ g, f2 = g + 1 := ⟨f2 - 1, by omega⟩
  rw [altL_eq] at hf2
  cases hR : r2.is s 124 with
  | true =>
    rw [hR, if_pos rfl] at hf2
    rw [if_pos rfl]
    have hlt := next_lt hR
    obtain ⟨e0, ha0, _⟩ := is_lt hR
    have hn3 := need_lt hlt e0 ha0
    have d2 := (ih f3 (by omega) d r2.next hd hlt.1 (by omega)).mid [⟨ob, cap * 6, encs reC l⟩, ⟨some b4, 6, zeroRE⟩] M
    have h3 := hlt.trans_le ((reader_le s f3).seq d r2.next hlt.1)
    have hn4 := need_lt h3 e0 ha0
    generalize seqF s f3 d r2.next = q at *
    obtain ⟨x2, r3⟩ := q
    simp only at *
    repeat' (first | refine aops_put rfl ?_ | refine aops_end ?_ | refine aops_endb ?_ | refine aops_o rfl rfl rfl ?_ | refine aops_max tok rfl rfl rfl rfl rfl rfl ?_ | refine aops_min tok rfl rfl rfl rfl rfl rfl ?_ | refine aops_a tok rfl (by omega) (by omega) rfl rfl rfl ?_ | (refine aops_pd tok rfl rfl rfl rfl ?_ ?_ <;> intro e_) | (refine aops_pe tok rfl rfl rfl rfl ?_ ?_ <;> intro e_) | (refine aops_pn tok rfl rfl rfl rfl ?_ ?_ <;> intro e_) | refine aops_p tok rfl rfl rfl rfl ?_ | refine acode_it rfl ?_ | refine acode_if rfl ?_ | refine aops_ixa tok rfl rfl rfl (by decide) rfl rfl rfl rfl ?_ | refine aops_ld tok 0 rfl rfl rfl rfl rfl rfl rfl rfl ?_ | refine aops_ld tok 1 rfl rfl rfl rfl rfl rfl rfl rfl ?_ | refine aops_stn tok rfl rfl rfl rfl rfl rfl rfl rfl rfl ?_ | refine aops_stn1 tok rfl rfl rfl rfl rfl rfl rfl rfl rfl ?_ | refine acode_seq ?_ | refine acode_region ?_ | refine acode_block ?_ | refine acode_skip ?_ | refine then_n ?_ | refine block_n ?_)
    refine aops_callr Try.func26 rfl rfl rfl rfl d2 rfl rfl rfl ?_
    refine aops_lit1 tok (y := .agg (reC x2)) rfl rfl rfl rfl (reC_ok x2) rfl rfl rfl ?_
    refine aops_app0 (n := l.length) (m := 1) (ds := reC x2) tok rfl rfl rfl rfl rfl (reC_enc l) (reC_len x2) (reC_cell x2) rfl (by show _ * 64 ≤ _; omega) (by omega) rfl rfl rfl fun ob' cap' => ?_
    rw [← reC_snoc]
    repeat (first | refine aops_put rfl ?_ | refine aops_end ?_ | refine aops_endb ?_ | refine aops_o rfl rfl rfl ?_ | refine aops_max tok rfl rfl rfl rfl rfl rfl ?_ | refine aops_min tok rfl rfl rfl rfl rfl rfl ?_ | refine aops_a tok rfl (by omega) (by omega) rfl rfl rfl ?_ | refine aops_p tok rfl rfl rfl rfl ?_ | refine aops_ixa tok rfl rfl rfl (by decide) rfl rfl rfl rfl ?_ | refine aops_ld tok 0 rfl rfl rfl rfl rfl rfl rfl rfl ?_ | refine aops_ld tok 1 rfl rfl rfl rfl rfl rfl rfl rfl ?_ | refine aops_stn tok rfl rfl rfl rfl rfl rfl rfl rfl rfl ?_ | refine aops_stn1 tok rfl rfl rfl rfl rfl rfl rfl rfl rfl ?_ | refine acode_seq ?_ | refine acode_region ?_ | refine acode_block ?_ | refine acode_skip ?_ | refine then_n ?_ | refine block_n ?_)
    refine ⟨(ob', cap', f3, l ++ [x2], r3), ⟨h3.1, hf2, by simp only; omega, by simp only; omega, ?_, ?_⟩, ?_, ⟨rfl, rfl, rfl, ?_, trivial⟩, rfl⟩
    · have := hl3 e0; simp only [List.length_append, List.length_cons, List.length_nil]; omega
    · intro e3; have := h3.2 e3; have := hl3 e0; simp only [List.length_append, List.length_cons, List.length_nil]; omega
    · simp only; omega
    · show A.own _ _ _ = A.own _ _ _
      simp
  | false =>
    rw [hR, if_neg (by simp)] at hf2
    rw [if_neg (by simp)]
    subst hf2
    repeat' (first | refine aops_put rfl ?_ | refine aops_end ?_ | refine aops_endb ?_ | refine aops_o rfl rfl rfl ?_ | refine aops_max tok rfl rfl rfl rfl rfl rfl ?_ | refine aops_min tok rfl rfl rfl rfl rfl rfl ?_ | refine aops_a tok rfl (by omega) (by omega) rfl rfl rfl ?_ | (refine aops_pd tok rfl rfl rfl rfl ?_ ?_ <;> intro e_) | (refine aops_pe tok rfl rfl rfl rfl ?_ ?_ <;> intro e_) | (refine aops_pn tok rfl rfl rfl rfl ?_ ?_ <;> intro e_) | refine aops_p tok rfl rfl rfl rfl ?_ | refine acode_it rfl ?_ | refine acode_if rfl ?_ | refine aops_ixa tok rfl rfl rfl (by decide) rfl rfl rfl rfl ?_ | refine aops_ld tok 0 rfl rfl rfl rfl rfl rfl rfl rfl ?_ | refine aops_ld tok 1 rfl rfl rfl rfl rfl rfl rfl rfl ?_ | refine aops_stn tok rfl rfl rfl rfl rfl rfl rfl rfl rfl ?_ | refine aops_stn1 tok rfl rfl rfl rfl rfl rfl rfl rfl rfl ?_ | refine acode_seq ?_ | refine acode_region ?_ | refine acode_block ?_ | refine acode_skip ?_ | refine then_n ?_ | refine block_n ?_)
    refine acode_exit ?_
    repeat (first | refine exit_then ?_ | refine exit_here ?_ | refine exit_out rfl ?_ | refine ret_then ?_ | refine ret_block ?_ | refine then_n ?_ | refine block_n ?_)
    refine acode_pub0 5 6 rfl rfl (reC_enc l) rfl ?_
    repeat (first | refine aops_put rfl ?_ | refine aops_end ?_ | refine aops_endb ?_ | refine aops_o rfl rfl rfl ?_ | refine aops_max tok rfl rfl rfl rfl rfl rfl ?_ | refine aops_min tok rfl rfl rfl rfl rfl rfl ?_ | refine aops_a tok rfl (by omega) (by omega) rfl rfl rfl ?_ | refine aops_p tok rfl rfl rfl rfl ?_ | refine aops_ixa tok rfl rfl rfl (by decide) rfl rfl rfl rfl ?_ | refine aops_ld tok 0 rfl rfl rfl rfl rfl rfl rfl rfl ?_ | refine aops_ld tok 1 rfl rfl rfl rfl rfl rfl rfl rfl ?_ | refine aops_stn tok rfl rfl rfl rfl rfl rfl rfl rfl rfl ?_ | refine aops_stn1 tok rfl rfl rfl rfl rfl rfl rfl rfl rfl ?_ | refine acode_seq ?_ | refine acode_region ?_ | refine acode_block ?_ | refine acode_skip ?_ | refine then_n ?_ | refine block_n ?_)
    refine aops_callx Try.func28 rfl rfl rfl rfl (many_calls (op := 3) (l := l) (by omega) _) rfl rfl rfl ?_
    refine aops_sto tok (reC (reMany 3 l)) rfl rfl rfl rfl (reC_ok _) (by decide) (sto_all rfl) rfl rfl ?_
    repeat (first | refine aops_put rfl ?_ | refine aops_end ?_ | refine aops_endb ?_ | refine aops_o rfl rfl rfl ?_ | refine aops_max tok rfl rfl rfl rfl rfl rfl ?_ | refine aops_min tok rfl rfl rfl rfl rfl rfl ?_ | refine aops_a tok rfl (by omega) (by omega) rfl rfl rfl ?_ | refine aops_p tok rfl rfl rfl rfl ?_ | refine aops_ixa tok rfl rfl rfl (by decide) rfl rfl rfl rfl ?_ | refine aops_ld tok 0 rfl rfl rfl rfl rfl rfl rfl rfl ?_ | refine aops_ld tok 1 rfl rfl rfl rfl rfl rfl rfl rfl ?_ | refine aops_stn tok rfl rfl rfl rfl rfl rfl rfl rfl rfl ?_ | refine aops_stn1 tok rfl rfl rfl rfl rfl rfl rfl rfl rfl ?_ | refine acode_seq ?_ | refine acode_region ?_ | refine acode_block ?_ | refine acode_skip ?_ | refine then_n ?_ | refine block_n ?_)
    refine acode_pubref0 4 rfl ?_
    refine acode_ret ?_
    repeat (first | refine exit_then ?_ | refine exit_here ?_ | refine exit_out rfl ?_ | refine ret_then ?_ | refine ret_block ?_ | refine then_n ?_ | refine block_n ?_)
    exact ⟨_, ⟨rfl, rfl⟩, resOf_pp tok rfl rfl (pp_all (reC_len _))⟩
end Go.Proofs.Ytafncdbkbmaifaa.Ab

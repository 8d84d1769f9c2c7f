/- Chapter 3's reference reader: choices and rows: the walk. No condition. -/
import Derived.Test.YtafncdbkbmaifaaRegM
import Derived.Test.YtafncdbkbmaifaaReg9
set_option linter.unusedVariables false
set_option linter.unusedSimpArgs false
namespace Go.Proofs.Ytafncdbkbmaifaa.Ab
section
variable {P : Program} {N : Nat} {ops : Array Oper} {rest : List Oper} {o : Oper} {Q : Exit → St → Prop} {E : Env} {M : List Ob}
/-- A call of which so much is known. -/
theorem aops_callq {d : Nat} {g : Operand} {args : Array Operand} {tys : Array TypeId} {f : FuncId} {cap xs : List A} {fn : Func} {R : A → List Ob → Prop} (hf : P.funcs[f]? = some fn) (ho : o.op = .call { callee := .value g, args, argTypes := tys }) (hgv : opA E g = .fn f cap)
    (hfn : callable fn = true) (has : args.toList.map (opA E) ++ cap = xs) (hc : ACalls P f xs M R) (hg : guardOn ops o E = some true) (hd : o.dst = some d) (hN : Nat.blt d N = true)
    (next : ∀ x M', R x M' → AOps P N ops rest Q ⟨(d, x) :: E, M'⟩) : AOps P N ops (o :: rest) Q ⟨E, M⟩ := by
  refine aops_call hf ho hgv hfn has hc hg (by rw [hd]; exact hN) ?_
  intro x M' h
  rw [hd]; exact next x M' h
end
theorem altL_stop {s : List Int} {d : Nat} {l : List RE} {r : Rd} (h : r.e ≠ 0) : ∀ f, altL s f d l r = (l, r)
  | 0 => by rw [altL]
  | f + 1 => by rw [altL_eq, is_bad h, if_neg Bool.false_ne_true]
theorem seqL_stop {s : List Int} {d : Nat} {l : List RE} {r : Rd} (h : r.e ≠ 0) : ∀ f, seqL s f d l r = (l, r)
  | 0 => by rw [seqL]
  | f + 1 => by rw [seqL_eq, if_neg (fun g => h g.1)]
theorem repF_stop {s : List Int} {x : RE} {r : Rd} (h : r.e ≠ 0) : ∀ f, repF s f x r = (x, r)
  | 0 => rfl
  | f + 1 => rep_stop f (.inl h)
attribute [local irreducible] thenA inBlockA ACode AOps put IntKind.wrap
def AtomQ (s : List Int) (rb f : Nat) : Prop := ∀ (d : Nat) (r : Rd), d ≤ 20 → r.e = 0 → r.at_ < s.length → need s r + 1 ≤ f → QC 44 [.int .i64 d] s rb (40 - d) r (atomF s f d r).2 (atomF s f d r).1
def RepQ (s : List Int) (rb f : Nat) : Prop := ∀ (d : Nat) (r : Rd), d ≤ 20 → r.e = 0 → r.at_ < s.length → need s r + 2 ≤ f → QC 36 [.int .i64 d] s rb (40 - d) r (partP s f d r).2 (partP s f d r).1
def SeqQ (s : List Int) (rb f : Nat) : Prop := ∀ (d : Nat) (r : Rd), d ≤ 20 → r.e = 0 → r.at_ ≤ s.length → need s r + 4 ≤ f → QC 29 [.int .i64 d] s rb (40 - d) r (seqF s f d r).2 (seqF s f d r).1
def AltQ (s : List Int) (rb f : Nat) : Prop := ∀ (d : Nat) (r : Rd), d ≤ 20 → r.e = 0 → r.at_ ≤ s.length → need s r + 5 ≤ f → QC 20 [.int .i64 d] s rb (40 - d) r (altF s f d r).2 (altF s f d r).1
set_option maxHeartbeats 4000000 in
theorem altR_qc {s : List Int} (hs : byteS s) (hL : s.length ≤ 900) {rb f : Nat} (ih : ∀ f' < f, SeqQ s rb f') : AltQ s rb f := by
  intro d r hd he hat hn M
  obtain ⟨f, rfl⟩ : ∃ g, f = g + 1 := ⟨f - 1, by omega⟩
  rw [altF_eq]
  have c1 := fun L => (ih f (by omega) d r hd he hat (by omega)).mid L M
  have h1 := (reader_le s f).seq d r hat
  have hn1 := need_le h1
  generalize seqF s f d r = qq at *
  obtain ⟨x, r1⟩ := qq
  simp only at *
  refine acalls_of_code 40 Try.func20 rfl rfl rfl ?_
  repeat (first | refine aops_put rfl ?_ | refine aops_end ?_ | refine aops_endb ?_ | refine aops_o rfl rfl rfl ?_ | refine aops_max tok rfl rfl rfl rfl rfl rfl ?_ | refine aops_min tok rfl rfl rfl rfl rfl rfl ?_ | refine aops_a tok rfl (by omega) (by omega) rfl rfl rfl ?_ | refine aops_p tok rfl rfl rfl rfl ?_ | refine aops_ixa tok rfl rfl rfl (by decide) rfl rfl rfl rfl ?_ | refine aops_ld tok 0 rfl rfl rfl rfl rfl rfl rfl rfl ?_ | refine aops_ld tok 1 rfl rfl rfl rfl rfl rfl rfl rfl ?_ | refine aops_stn tok rfl rfl rfl rfl rfl rfl rfl rfl rfl ?_ | refine aops_stn1 tok rfl rfl rfl rfl rfl rfl rfl rfl rfl ?_ | refine acode_seq ?_ | refine acode_region ?_ | refine acode_block ?_ | refine acode_skip ?_ | refine then_n ?_ | refine block_n ?_)
  refine aops_alloc tok rfl rfl rfl rfl rfl rfl fun b4 => ?_
  repeat (first | refine aops_put rfl ?_ | refine aops_end ?_ | refine aops_endb ?_ | refine aops_o rfl rfl rfl ?_ | refine aops_max tok rfl rfl rfl rfl rfl rfl ?_ | refine aops_min tok rfl rfl rfl rfl rfl rfl ?_ | refine aops_a tok rfl (by omega) (by omega) rfl rfl rfl ?_ | refine aops_p tok rfl rfl rfl rfl ?_ | refine aops_ixa tok rfl rfl rfl (by decide) rfl rfl rfl rfl ?_ | refine aops_ld tok 0 rfl rfl rfl rfl rfl rfl rfl rfl ?_ | refine aops_ld tok 1 rfl rfl rfl rfl rfl rfl rfl rfl ?_ | refine aops_stn tok rfl rfl rfl rfl rfl rfl rfl rfl rfl ?_ | refine aops_stn1 tok rfl rfl rfl rfl rfl rfl rfl rfl rfl ?_ | refine acode_seq ?_ | refine acode_region ?_ | refine acode_block ?_ | refine acode_skip ?_ | refine then_n ?_ | refine block_n ?_)
  refine aops_callq Try.func29 rfl rfl rfl rfl (c1 [_]) rfl rfl rfl ?_
  rintro _ _ ⟨y, q, rfl, rfl, hsim, hy⟩
  refine aops_lito1 tok (y := .agg (reC y)) rfl rfl rfl rfl (reC_ok y) (normL_eq _) rfl rfl rfl fun b5 => ?_
  repeat (first | refine aops_put rfl ?_ | refine aops_o rfl rfl rfl ?_ | refine aops_max tok rfl rfl rfl rfl rfl rfl ?_ | refine aops_min tok rfl rfl rfl rfl rfl rfl ?_ | refine aops_a tok rfl (by omega) (by omega) rfl rfl rfl ?_ | refine aops_p tok rfl rfl rfl rfl ?_ | refine aops_ixa tok rfl rfl rfl (by decide) rfl rfl rfl rfl ?_ | refine aops_ld tok 0 rfl rfl rfl rfl rfl rfl rfl rfl ?_ | refine aops_ld tok 1 rfl rfl rfl rfl rfl rfl rfl rfl ?_ | refine aops_stn tok rfl rfl rfl rfl rfl rfl rfl rfl rfl ?_ | refine aops_stn1 tok rfl rfl rfl rfl rfl rfl rfl rfl rfl ?_)
  refine aops_end ?_
  generalize hfin : altL s f d [x] r1 = fin at *
  refine acode_seq ?_
  refine acode_joinI (ι := Option Nat × Nat × List RE × Rd) (fun p => [(0, .ref rb 0), (1, .int .i64 d), (4, .ref b4 0), (5, .own p.1 p.2.2.1.length p.2.1)]) (fun p => ⟨p.1, p.2.1 * 6, encs reC p.2.2.1⟩ :: ⟨some b4, 6, zeroRE⟩ :: rdO rb s p.2.2.2 :: M) (fun p => 1 ≤ p.2.2.1.length ∧ p.2.2.1.length ≤ s.length + 2 ∧ Sim s (40 - d) fin.2 p.2.2.2 ∧ (fin.2.e = 0 → p.2.2.1 = fin.1)) ?_ ?_
  · refine acode_block ?_
    refine acode_loopS (ι := Option Nat × Nat × Nat × List RE × Rd × Rd) (fun p => [(0, .ref rb 0), (1, .int .i64 d), (4, .ref b4 0), (5, .own p.1 p.2.2.2.1.length p.2.1)]) (fun p => ⟨p.1, p.2.1 * 6, encs reC p.2.2.2.1⟩ :: ⟨some b4, 6, zeroRE⟩ :: rdO rb s p.2.2.2.2.2 :: M) (fun p => need s p.2.2.2.2.1) (fun p => p.2.2.2.2.1.at_ ≤ s.length ∧ Sim s (40 - d) p.2.2.2.2.1 p.2.2.2.2.2 ∧ 1 ≤ p.2.2.2.1.length ∧ p.2.2.2.1.length ≤ s.length + 2 ∧ (p.2.2.2.2.1.e = 0 → altL s p.2.2.1 d p.2.2.2.1 p.2.2.2.2.1 = fin ∧ need s p.2.2.2.2.1 + 1 ≤ p.2.2.1 ∧ p.2.2.1 < f + 1 ∧ p.2.2.2.1.length ≤ p.2.2.2.2.1.at_ + 1) ∧ (p.2.2.2.2.1.e ≠ 0 → fin.2 = p.2.2.2.2.1)) (some b5, 1, f, [y], r1, q) ⟨h1.1, hsim, by simp, by simp, fun e => ⟨by simp only at e ⊢; rw [hy e]; exact hfin, by simp only; omega, by simp only; omega, by simp⟩, fun e => by simp only at e ⊢; rw [← hfin, altL_stop e]⟩ ⟨rfl, rfl, rfl, rfl, trivial⟩ (by simp [encs]; exact ⟨rfl, rfl⟩) ?_
    rintro ⟨ob, cap, f2, l, rM, q⟩ ⟨hM, hsim, hl1, hl2, hok, hbad⟩
    simp only at hM hsim hl1 hl2 hok hbad ⊢
    by_cases e0 : rM.e = 0
    · obtain rfl := hsim.1 e0
      obtain ⟨hf2, hn2, hf3, hl3⟩ := hok e0
      have i124 := (isR_rc hs rb (show q.at_ ≤ 2000 by omega) 124).mid [⟨ob, cap * 6, encs reC l⟩, ⟨some b4, 6, zeroRE⟩] M
      rw [isR_is e0] at i124
      obtain ⟨f3, rfl⟩ : ∃ g, f2 = g + 1 := ⟨f2 - 1, by omega⟩
      rw [altL_eq] at hf2
      repeat (first | refine aops_put rfl ?_ | refine aops_end ?_ | refine aops_endb ?_ | refine aops_o rfl rfl rfl ?_ | refine aops_max tok rfl rfl rfl rfl rfl rfl ?_ | refine aops_min tok rfl rfl rfl rfl rfl rfl ?_ | refine aops_a tok rfl (by omega) (by omega) rfl rfl rfl ?_ | refine aops_p tok rfl rfl rfl rfl ?_ | refine aops_ixa tok rfl rfl rfl (by decide) rfl rfl rfl rfl ?_ | refine aops_ld tok 0 rfl rfl rfl rfl rfl rfl rfl rfl ?_ | refine aops_ld tok 1 rfl rfl rfl rfl rfl rfl rfl rfl ?_ | refine aops_stn tok rfl rfl rfl rfl rfl rfl rfl rfl rfl ?_ | refine aops_stn1 tok rfl rfl rfl rfl rfl rfl rfl rfl rfl ?_ | refine acode_seq ?_ | refine acode_region ?_ | refine acode_block ?_ | refine acode_skip ?_ | refine then_n ?_ | refine block_n ?_)
      refine aops_ld tok 2 rfl rfl rfl rfl rfl rfl rfl rfl ?_
      repeat' (first | refine aops_put rfl ?_ | refine aops_end ?_ | refine aops_endb ?_ | refine aops_o rfl rfl rfl ?_ | refine aops_max tok rfl rfl rfl rfl rfl rfl ?_ | refine aops_min tok rfl rfl rfl rfl rfl rfl ?_ | refine aops_a tok rfl (by omega) (by omega) rfl rfl rfl ?_ | refine aops_pbt tok rfl (by first | omega | decide) rfl rfl rfl ?_ | refine aops_pbf tok rfl (by first | omega | decide) rfl rfl rfl ?_ | refine aops_pet tok rfl (by omega) rfl rfl rfl ?_ | refine aops_pef tok rfl (by omega) rfl rfl rfl ?_ | (refine aops_pd tok rfl rfl rfl rfl ?_ ?_ <;> intro e_) | (refine aops_pe tok rfl rfl rfl rfl ?_ ?_ <;> intro e_) | (refine aops_pn tok rfl rfl rfl rfl ?_ ?_ <;> intro e_) | refine aops_p tok rfl rfl rfl rfl ?_ | refine acode_it rfl ?_ | refine acode_if rfl ?_ | refine aops_ixa tok rfl rfl rfl (by decide) rfl rfl rfl rfl ?_ | refine aops_ld tok 0 rfl rfl rfl rfl rfl rfl rfl rfl ?_ | refine aops_ld tok 1 rfl rfl rfl rfl rfl rfl rfl rfl ?_ | refine aops_stn tok rfl rfl rfl rfl rfl rfl rfl rfl rfl ?_ | refine aops_stn1 tok rfl rfl rfl rfl rfl rfl rfl rfl rfl ?_ | refine acode_seq ?_ | refine acode_region ?_ | refine acode_block ?_ | refine acode_skip ?_ | refine then_n ?_ | refine block_n ?_)
      all_goals try (exfalso; omega)
      refine aops_callx Try.func30 rfl rfl rfl rfl i124 rfl rfl rfl ?_
      cases hR : q.is s 124 with
      | true =>
        rw [hR, if_pos rfl] at hf2
        have hlt := next_lt hR
        obtain ⟨_, ha0, _⟩ := is_lt hR
        have hn3 := need_lt hlt e0 ha0
        have d2 := (ih f3 (by omega) d q.next hd e0 hlt.1 (by omega)).mid [⟨ob, cap * 6, encs reC l⟩, ⟨some b4, 6, zeroRE⟩] M
        have h3 := hlt.trans_le ((reader_le s f3).seq d q.next hlt.1)
        have hn4 := need_lt h3 e0 ha0
        generalize seqF s f3 d q.next = qq at *
        obtain ⟨x2, r3⟩ := qq
        simp only at *
        repeat' (first | refine aops_put rfl ?_ | refine aops_end ?_ | refine aops_endb ?_ | refine aops_o rfl rfl rfl ?_ | refine aops_max tok rfl rfl rfl rfl rfl rfl ?_ | refine aops_min tok rfl rfl rfl rfl rfl rfl ?_ | refine aops_a tok rfl (by omega) (by omega) rfl rfl rfl ?_ | refine aops_pbt tok rfl (by first | omega | decide) rfl rfl rfl ?_ | refine aops_pbf tok rfl (by first | omega | decide) rfl rfl rfl ?_ | refine aops_pet tok rfl (by omega) rfl rfl rfl ?_ | refine aops_pef tok rfl (by omega) rfl rfl rfl ?_ | (refine aops_pd tok rfl rfl rfl rfl ?_ ?_ <;> intro e_) | (refine aops_pe tok rfl rfl rfl rfl ?_ ?_ <;> intro e_) | (refine aops_pn tok rfl rfl rfl rfl ?_ ?_ <;> intro e_) | refine aops_p tok rfl rfl rfl rfl ?_ | refine acode_it rfl ?_ | refine acode_if rfl ?_ | refine aops_ixa tok rfl rfl rfl (by decide) rfl rfl rfl rfl ?_ | refine aops_ld tok 0 rfl rfl rfl rfl rfl rfl rfl rfl ?_ | refine aops_ld tok 1 rfl rfl rfl rfl rfl rfl rfl rfl ?_ | refine aops_stn tok rfl rfl rfl rfl rfl rfl rfl rfl rfl ?_ | refine aops_stn1 tok rfl rfl rfl rfl rfl rfl rfl rfl rfl ?_ | refine acode_seq ?_ | refine acode_region ?_ | refine acode_block ?_ | refine acode_skip ?_ | refine then_n ?_ | refine block_n ?_)
        all_goals try (exfalso; omega)
        refine aops_ld tok 2 rfl rfl rfl rfl rfl rfl rfl rfl ?_
        repeat (first | refine aops_put rfl ?_ | refine aops_end ?_ | refine aops_endb ?_ | refine aops_o rfl rfl rfl ?_ | refine aops_max tok rfl rfl rfl rfl rfl rfl ?_ | refine aops_min tok rfl rfl rfl rfl rfl rfl ?_ | refine aops_a tok rfl (by omega) (by omega) rfl rfl rfl ?_ | refine aops_p tok rfl rfl rfl rfl ?_ | refine aops_ixa tok rfl rfl rfl (by decide) rfl rfl rfl rfl ?_ | refine aops_ld tok 0 rfl rfl rfl rfl rfl rfl rfl rfl ?_ | refine aops_ld tok 1 rfl rfl rfl rfl rfl rfl rfl rfl ?_ | refine aops_stn tok rfl rfl rfl rfl rfl rfl rfl rfl rfl ?_ | refine aops_stn1 tok rfl rfl rfl rfl rfl rfl rfl rfl rfl ?_ | refine acode_seq ?_ | refine acode_region ?_ | refine acode_block ?_ | refine acode_skip ?_ | refine then_n ?_ | refine block_n ?_)
        refine aops_stk tok 2 _ _ rfl rfl rfl rfl rfl rfl (by show 1 + 1 ≤ 4; decide) rfl rfl rfl rfl ?_
        repeat (first | refine aops_put rfl ?_ | refine aops_end ?_ | refine aops_endb ?_ | refine aops_o rfl rfl rfl ?_ | refine aops_max tok rfl rfl rfl rfl rfl rfl ?_ | refine aops_min tok rfl rfl rfl rfl rfl rfl ?_ | refine aops_a tok rfl (by omega) (by omega) rfl rfl rfl ?_ | refine aops_p tok rfl rfl rfl rfl ?_ | refine aops_ixa tok rfl rfl rfl (by decide) rfl rfl rfl rfl ?_ | refine aops_ld tok 0 rfl rfl rfl rfl rfl rfl rfl rfl ?_ | refine aops_ld tok 1 rfl rfl rfl rfl rfl rfl rfl rfl ?_ | refine aops_stn tok rfl rfl rfl rfl rfl rfl rfl rfl rfl ?_ | refine aops_stn1 tok rfl rfl rfl rfl rfl rfl rfl rfl rfl ?_ | refine acode_seq ?_ | refine acode_region ?_ | refine acode_block ?_ | refine acode_skip ?_ | refine then_n ?_ | refine block_n ?_)
        refine aops_callq Try.func29 rfl rfl rfl rfl d2 rfl rfl rfl ?_
        rintro _ _ ⟨y2, q3, rfl, rfl, hsim2, hy2⟩
        refine aops_lit1 tok (y := .agg (reC y2)) rfl rfl rfl rfl (reC_ok y2) rfl rfl rfl ?_
        refine aops_app0 (n := l.length) (m := 1) (ds := reC y2) tok rfl rfl rfl rfl rfl (reC_enc l) (reC_len y2) (reC_cell y2) rfl (by show _ * 64 ≤ _; omega) (by omega) rfl rfl rfl fun ob' cap' => ?_
        rw [← reC_snoc]
        repeat (first | refine aops_put rfl ?_ | refine aops_end ?_ | refine aops_endb ?_ | refine aops_o rfl rfl rfl ?_ | refine aops_max tok rfl rfl rfl rfl rfl rfl ?_ | refine aops_min tok rfl rfl rfl rfl rfl rfl ?_ | refine aops_a tok rfl (by omega) (by omega) rfl rfl rfl ?_ | refine aops_p tok rfl rfl rfl rfl ?_ | refine aops_ixa tok rfl rfl rfl (by decide) rfl rfl rfl rfl ?_ | refine aops_ld tok 0 rfl rfl rfl rfl rfl rfl rfl rfl ?_ | refine aops_ld tok 1 rfl rfl rfl rfl rfl rfl rfl rfl ?_ | refine aops_stn tok rfl rfl rfl rfl rfl rfl rfl rfl rfl ?_ | refine aops_stn1 tok rfl rfl rfl rfl rfl rfl rfl rfl rfl ?_ | refine acode_seq ?_ | refine acode_region ?_ | refine acode_block ?_ | refine acode_skip ?_ | refine then_n ?_ | refine block_n ?_)
        refine ⟨(ob', cap', f3, l ++ [y2], r3, q3), ⟨h3.1, hsim2, by simp, ?_, fun e3 => ?_, fun e3 => ?_⟩, ?_, ⟨rfl, rfl, rfl, ?_, trivial⟩, rfl⟩
        · simp only [List.length_append, List.length_cons, List.length_nil]; omega
        · simp only at e3 ⊢
          have h5 := h3.2 e3
          refine ⟨by rw [hy2 e3]; exact hf2, by omega, by omega, ?_⟩
          simp only [List.length_append, List.length_cons, List.length_nil]; omega
        · simp only at e3 ⊢
          rw [← hf2, altL_stop e3]
        · simp only; omega
        · show A.own _ _ _ = A.own _ _ _
          simp
      | false =>
        rw [hR, if_neg Bool.false_ne_true] at hf2
        subst hf2
        repeat' (first | refine aops_put rfl ?_ | refine aops_end ?_ | refine aops_endb ?_ | refine aops_o rfl rfl rfl ?_ | refine aops_max tok rfl rfl rfl rfl rfl rfl ?_ | refine aops_min tok rfl rfl rfl rfl rfl rfl ?_ | refine aops_a tok rfl (by omega) (by omega) rfl rfl rfl ?_ | refine aops_pbt tok rfl (by first | omega | decide) rfl rfl rfl ?_ | refine aops_pbf tok rfl (by first | omega | decide) rfl rfl rfl ?_ | refine aops_pet tok rfl (by omega) rfl rfl rfl ?_ | refine aops_pef tok rfl (by omega) rfl rfl rfl ?_ | (refine aops_pd tok rfl rfl rfl rfl ?_ ?_ <;> intro e_) | (refine aops_pe tok rfl rfl rfl rfl ?_ ?_ <;> intro e_) | (refine aops_pn tok rfl rfl rfl rfl ?_ ?_ <;> intro e_) | refine aops_p tok rfl rfl rfl rfl ?_ | refine acode_it rfl ?_ | refine acode_if rfl ?_ | refine aops_ixa tok rfl rfl rfl (by decide) rfl rfl rfl rfl ?_ | refine aops_ld tok 0 rfl rfl rfl rfl rfl rfl rfl rfl ?_ | refine aops_ld tok 1 rfl rfl rfl rfl rfl rfl rfl rfl ?_ | refine aops_stn tok rfl rfl rfl rfl rfl rfl rfl rfl rfl ?_ | refine aops_stn1 tok rfl rfl rfl rfl rfl rfl rfl rfl rfl ?_ | refine acode_seq ?_ | refine acode_region ?_ | refine acode_block ?_ | refine acode_skip ?_ | refine then_n ?_ | refine block_n ?_)
        all_goals try (exfalso; omega)
        refine acode_exit ?_
        repeat (first | refine exit_then ?_ | refine exit_here ?_ | refine exit_out rfl ?_ | refine ret_then ?_ | refine ret_block ?_ | refine then_n ?_ | refine block_n ?_)
        exact ⟨(ob, cap, l, q), ⟨hl1, hl2, hsim, fun _ => rfl⟩, ⟨rfl, rfl, rfl, rfl, trivial⟩, rfl⟩
    · have hq0 : q.e ≠ 0 := by rw [hsim.e]; exact e0
      have hb := hbad e0
      repeat (first | refine aops_put rfl ?_ | refine aops_end ?_ | refine aops_endb ?_ | refine aops_o rfl rfl rfl ?_ | refine aops_max tok rfl rfl rfl rfl rfl rfl ?_ | refine aops_min tok rfl rfl rfl rfl rfl rfl ?_ | refine aops_a tok rfl (by omega) (by omega) rfl rfl rfl ?_ | refine aops_p tok rfl rfl rfl rfl ?_ | refine aops_ixa tok rfl rfl rfl (by decide) rfl rfl rfl rfl ?_ | refine aops_ld tok 0 rfl rfl rfl rfl rfl rfl rfl rfl ?_ | refine aops_ld tok 1 rfl rfl rfl rfl rfl rfl rfl rfl ?_ | refine aops_stn tok rfl rfl rfl rfl rfl rfl rfl rfl rfl ?_ | refine aops_stn1 tok rfl rfl rfl rfl rfl rfl rfl rfl rfl ?_ | refine acode_seq ?_ | refine acode_region ?_ | refine acode_block ?_ | refine acode_skip ?_ | refine then_n ?_ | refine block_n ?_)
      refine aops_ld tok 2 rfl rfl rfl rfl rfl rfl rfl rfl ?_
      repeat' (first | refine aops_put rfl ?_ | refine aops_end ?_ | refine aops_endb ?_ | refine aops_o rfl rfl rfl ?_ | refine aops_max tok rfl rfl rfl rfl rfl rfl ?_ | refine aops_min tok rfl rfl rfl rfl rfl rfl ?_ | refine aops_a tok rfl (by omega) (by omega) rfl rfl rfl ?_ | refine aops_pbt tok rfl (by first | omega | decide) rfl rfl rfl ?_ | refine aops_pbf tok rfl (by first | omega | decide) rfl rfl rfl ?_ | refine aops_pet tok rfl (by omega) rfl rfl rfl ?_ | refine aops_pef tok rfl (by omega) rfl rfl rfl ?_ | (refine aops_pd tok rfl rfl rfl rfl ?_ ?_ <;> intro e_) | (refine aops_pe tok rfl rfl rfl rfl ?_ ?_ <;> intro e_) | (refine aops_pn tok rfl rfl rfl rfl ?_ ?_ <;> intro e_) | refine aops_p tok rfl rfl rfl rfl ?_ | refine acode_it rfl ?_ | refine acode_if rfl ?_ | refine aops_ixa tok rfl rfl rfl (by decide) rfl rfl rfl rfl ?_ | refine aops_ld tok 0 rfl rfl rfl rfl rfl rfl rfl rfl ?_ | refine aops_ld tok 1 rfl rfl rfl rfl rfl rfl rfl rfl ?_ | refine aops_stn tok rfl rfl rfl rfl rfl rfl rfl rfl rfl ?_ | refine aops_stn1 tok rfl rfl rfl rfl rfl rfl rfl rfl rfl ?_ | refine acode_seq ?_ | refine acode_region ?_ | refine acode_block ?_ | refine acode_skip ?_ | refine then_n ?_ | refine block_n ?_)
      all_goals try (exfalso; omega)
      refine acode_exit ?_
      repeat (first | refine exit_then ?_ | refine exit_here ?_ | refine exit_out rfl ?_ | refine ret_then ?_ | refine ret_block ?_ | refine then_n ?_ | refine block_n ?_)
      exact ⟨(ob, cap, l, q), ⟨hl1, hl2, by rw [hb]; exact hsim, fun e => absurd e (by rw [hb]; exact e0)⟩, ⟨rfl, rfl, rfl, rfl, trivial⟩, rfl⟩
  · rintro ⟨ob, cap, l, q⟩ ⟨hl1, hl2, hsim, hfl⟩
    simp only at hl1 hl2 hsim hfl ⊢
    refine acode_pub0 5 6 rfl rfl (reC_enc l) rfl ?_
    match l, hl1 with
    | [y], _ =>
      have hx := reC_len y
      have hok := reC_ok y
      have h1 : encs reC [y] = reC y := by simp [encs]
      rw [h1]
      simp only [List.length_cons, List.length_nil, Nat.zero_add]
      have hyy : fin.2.e = 0 → y = reMany 3 fin.1 := fun e => by rw [← hfl e]; rfl
      repeat' (first | refine aops_put rfl ?_ | refine aops_end ?_ | refine aops_endb ?_ | refine aops_o rfl rfl rfl ?_ | refine aops_max tok rfl rfl rfl rfl rfl rfl ?_ | refine aops_min tok rfl rfl rfl rfl rfl rfl ?_ | refine aops_a tok rfl (by omega) (by omega) rfl rfl rfl ?_ | refine aops_pbt tok rfl (by first | omega | decide) rfl rfl rfl ?_ | refine aops_pbf tok rfl (by first | omega | decide) rfl rfl rfl ?_ | refine aops_pet tok rfl (by omega) rfl rfl rfl ?_ | refine aops_pef tok rfl (by omega) rfl rfl rfl ?_ | (refine aops_pd tok rfl rfl rfl rfl ?_ ?_ <;> intro e_) | (refine aops_pe tok rfl rfl rfl rfl ?_ ?_ <;> intro e_) | (refine aops_pn tok rfl rfl rfl rfl ?_ ?_ <;> intro e_) | refine aops_p tok rfl rfl rfl rfl ?_ | refine acode_it rfl ?_ | refine acode_if rfl ?_ | refine aops_ixa tok rfl rfl rfl (by decide) rfl rfl rfl rfl ?_ | refine aops_ld tok 0 rfl rfl rfl rfl rfl rfl rfl rfl ?_ | refine aops_ld tok 1 rfl rfl rfl rfl rfl rfl rfl rfl ?_ | refine aops_stn tok rfl rfl rfl rfl rfl rfl rfl rfl rfl ?_ | refine aops_stn1 tok rfl rfl rfl rfl rfl rfl rfl rfl rfl ?_ | refine acode_seq ?_ | refine acode_region ?_ | refine acode_block ?_ | refine acode_skip ?_ | refine then_n ?_ | refine block_n ?_)
      all_goals try (exfalso; omega)
      refine aops_ix tok (reC y) rfl rfl rfl rfl (by omega) (by omega) (by intro h; rw [h] at hx; simp at hx) ⟨[], by simp⟩ rfl rfl rfl ?_
      refine aops_ldagg tok rfl rfl rfl rfl hx rfl rfl rfl ?_
      refine aops_sto tok (reC y) rfl rfl rfl rfl hok (by decide) (sto_all rfl) rfl rfl ?_
      repeat (first | refine aops_put rfl ?_ | refine aops_end ?_ | refine aops_endb ?_ | refine aops_o rfl rfl rfl ?_ | refine aops_max tok rfl rfl rfl rfl rfl rfl ?_ | refine aops_min tok rfl rfl rfl rfl rfl rfl ?_ | refine aops_a tok rfl (by omega) (by omega) rfl rfl rfl ?_ | refine aops_p tok rfl rfl rfl rfl ?_ | refine aops_ixa tok rfl rfl rfl (by decide) rfl rfl rfl rfl ?_ | refine aops_ld tok 0 rfl rfl rfl rfl rfl rfl rfl rfl ?_ | refine aops_ld tok 1 rfl rfl rfl rfl rfl rfl rfl rfl ?_ | refine aops_stn tok rfl rfl rfl rfl rfl rfl rfl rfl rfl ?_ | refine aops_stn1 tok rfl rfl rfl rfl rfl rfl rfl rfl rfl ?_ | refine acode_seq ?_ | refine acode_region ?_ | refine acode_block ?_ | refine acode_skip ?_ | refine then_n ?_ | refine block_n ?_)
      refine acode_pubref0 4 rfl ?_
      refine acode_ret ?_
      repeat (first | refine exit_then ?_ | refine exit_here ?_ | refine exit_out rfl ?_ | refine ret_then ?_ | refine ret_block ?_ | refine then_n ?_ | refine block_n ?_)
      exact ⟨_, ⟨y, q, rfl, rfl, hsim, hyy⟩, resOf_pp tok rfl rfl (pp_all hx)⟩
    | y1 :: y2 :: l', _ =>
      generalize he : (y1 :: y2 :: l') = l at *
      have h2 : 2 ≤ l.length := by rw [← he]; simp
      have hyy : fin.2.e = 0 → RE.mk 3 0 l = reMany 3 fin.1 := fun e => by rw [← hfl e, ← he]; rfl
      have hrc := reC_kids 3 0 (k := l) (by intro h; rw [h] at h2; simp at h2)
      repeat' (first | refine aops_put rfl ?_ | refine aops_end ?_ | refine aops_endb ?_ | refine aops_o rfl rfl rfl ?_ | refine aops_max tok rfl rfl rfl rfl rfl rfl ?_ | refine aops_min tok rfl rfl rfl rfl rfl rfl ?_ | refine aops_a tok rfl (by omega) (by omega) rfl rfl rfl ?_ | refine aops_pbt tok rfl (by first | omega | decide) rfl rfl rfl ?_ | refine aops_pbf tok rfl (by first | omega | decide) rfl rfl rfl ?_ | refine aops_pet tok rfl (by omega) rfl rfl rfl ?_ | refine aops_pef tok rfl (by omega) rfl rfl rfl ?_ | (refine aops_pd tok rfl rfl rfl rfl ?_ ?_ <;> intro e_) | (refine aops_pe tok rfl rfl rfl rfl ?_ ?_ <;> intro e_) | (refine aops_pn tok rfl rfl rfl rfl ?_ ?_ <;> intro e_) | refine aops_p tok rfl rfl rfl rfl ?_ | refine acode_it rfl ?_ | refine acode_if rfl ?_ | refine aops_ixa tok rfl rfl rfl (by decide) rfl rfl rfl rfl ?_ | refine aops_ld tok 0 rfl rfl rfl rfl rfl rfl rfl rfl ?_ | refine aops_ld tok 1 rfl rfl rfl rfl rfl rfl rfl rfl ?_ | refine aops_stn tok rfl rfl rfl rfl rfl rfl rfl rfl rfl ?_ | refine aops_stn1 tok rfl rfl rfl rfl rfl rfl rfl rfl rfl ?_ | refine acode_seq ?_ | refine acode_region ?_ | refine acode_block ?_ | refine acode_skip ?_ | refine then_n ?_ | refine block_n ?_)
      all_goals try (exfalso; omega)
      refine acode_pubref0 4 rfl ?_
      refine acode_ret ?_
      repeat (first | refine exit_then ?_ | refine exit_here ?_ | refine exit_out rfl ?_ | refine ret_then ?_ | refine ret_block ?_ | refine then_n ?_ | refine block_n ?_)
      exact ⟨_, ⟨.mk 3 0 l, q, rfl, rfl, hsim, hyy⟩, resOf_pp tok rfl rfl (by rw [hrc]; rfl)⟩
end Go.Proofs.Ytafncdbkbmaifaa.Ab

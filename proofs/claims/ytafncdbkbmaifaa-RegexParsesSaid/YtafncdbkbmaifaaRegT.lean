/- Chapter 3: two patterns held against each other; the law RegexParses: the walk. No condition. -/
import Derived.Test.YtafncdbkbmaifaaRegS
import Derived.Test.YtafncdbkbmaifaaRegF
set_option linter.unusedVariables false
set_option linter.unusedSimpArgs false
namespace Go.Proofs.Ytafncdbkbmaifaa.Ab
/-! ### patterns with not too many kids -/
inductive REok : RE → Prop where
  | mk {o : Int} {S : Nat} {k : List RE} (hl : k.length ≤ 1000) (hk : ∀ x ∈ k, REok x) : REok (.mk o S k)
theorem ok_set (S : Nat) : REok (reSet S) := .mk (by simp) (by simp)
theorem ok_none : REok reNone := .mk (by simp) (by simp)
theorem ok_one (c : Int) : REok (reOne c) := ok_set _
theorem ok_kid {o : Int} {x : RE} (h : REok x) : REok (.mk o 0 [x]) := .mk (by simp) (by simpa using h)
theorem ok_many {op : Int} {l : List RE} (hl : l.length ≤ 1000) (h : ∀ x ∈ l, REok x) : REok (reMany op l) := by
  match l, hl, h with
  | [], _, _ => exact ok_none
  | [x], _, h => exact h x (by simp)
  | x :: y :: l, hl, h => exact .mk hl h
theorem ok_rep {s : List Int} : ∀ (f : Nat) (x : RE) (r : Rd), REok x → REok (repF s f x r).1
  | 0, x, r, h => h
  | f + 1, x, r, h => by
    rw [repF]
    split
    · exact ok_rep f _ _ (ok_kid h)
    · split
      · exact ok_rep f _ _ (ok_kid h)
      · split
        · exact ok_rep f _ _ (ok_kid h)
        · exact h
structure ReaderOk (s : List Int) (f : Nat) : Prop where
  atom : ∀ d r, r.at_ ≤ s.length → REok (atomF s f d r).1
  part : ∀ d r, r.at_ ≤ s.length → REok (partP s f d r).1
  seqL : ∀ d l r, r.at_ ≤ s.length → (∀ x ∈ l, REok x) → l.length + min f 2 ≤ s.length + 4 → (r.e = 0 → 2 ≤ f → l.length ≤ r.at_) → (∀ x ∈ (seqL s f d l r).1, REok x) ∧ (seqL s f d l r).1.length ≤ s.length + 4
  seq : ∀ d r, r.at_ ≤ s.length → REok (seqF s f d r).1
  altL : ∀ d l r, r.at_ ≤ s.length → (∀ x ∈ l, REok x) → l.length ≤ s.length + 2 → (r.e = 0 → l.length ≤ r.at_ + 1) → (∀ x ∈ (altL s f d l r).1, REok x) ∧ (altL s f d l r).1.length ≤ s.length + 2
  alt : ∀ d r, r.at_ ≤ s.length → REok (altF s f d r).1
theorem snoc_ok {l : List RE} {y : RE} (h : ∀ x ∈ l, REok x) (hy : REok y) : ∀ x ∈ l ++ [y], REok x := by
  intro x hx
  simp only [List.mem_append, List.mem_cons, List.not_mem_nil, or_false] at hx
  rcases hx with hx | rfl
  · exact h x hx
  · exact hy
theorem reader_re {s : List Int} (hL : s.length ≤ 900) : ∀ f, ReaderOk s f
  | 0 => ⟨fun d r h => by rw [atomF]; exact ok_none, fun d r h => by rw [partP]; exact ok_none, fun d l r h hl h2 h3 => by rw [seqL]; exact ⟨hl, by simp only; omega⟩, fun d r h => by rw [seqF]; exact ok_none, fun d l r h hl h2 h3 => by rw [altL]; exact ⟨hl, h2⟩, fun d r h => by rw [altF]; exact ok_none⟩
  | f + 1 => by
    have ih := reader_re hL f
    have le := reader_le s f
    refine ⟨fun d r h => ?_, fun d r h => ?_, fun d l r h hl h2 h3 => ?_, fun d r h => ?_, fun d l r h hl h2 h3 => ?_, fun d r h => ?_⟩
    · rw [atom_eq]
      split
      · rename_i h40
        split
        · exact ok_none
        · exact ih.alt (d + 1) r.next (next_ok h40)
      · split
        · exact ok_set _
        · split
          · exact ok_one _
          · split
            · exact ok_set _
            · exact ok_one _
    · rw [part_eq]; exact ok_rep _ _ _ (ih.atom d r h)
    · rw [seqL_eq]
      split
      · rename_i hc
        have h5 := le.part d r h
        have hq := hc.2.1
        refine ih.seqL d _ _ h5.1.1 (snoc_ok hl (ih.part d r h)) ?_ ?_
        · simp only [List.length_append, List.length_cons, List.length_nil]
          by_cases hf : 1 < f
          · have h6 := h3 hc.1 (by omega); omega
          · omega
        · intro e h2f
          have h6 := h3 hc.1 (by omega)
          simp only [List.length_append, List.length_cons, List.length_nil]
          have := (h5.2 (by omega)).2 e
          omega
      · exact ⟨hl, by simp only; omega⟩
    · rw [seqF_eq]
      have h5 := ih.seqL d [] r h (by simp) (by simp; omega) (by simp)
      exact ok_many (by omega) h5.1
    · rw [altL_eq]
      split
      · rename_i hc
        have h5 := (next_lt hc).trans_le (le.seq d r.next (next_ok hc))
        have h6 := h3 (is_lt hc).1
        refine ih.altL d _ _ h5.1 (snoc_ok hl (ih.seq d r.next (next_ok hc))) (by simp only [List.length_append, List.length_cons, List.length_nil]; omega) ?_
        intro e
        simp only [List.length_append, List.length_cons, List.length_nil]
        have := h5.2 e
        omega
      · exact ⟨hl, h2⟩
    · rw [altF_eq]
      have h5 := le.seq d r h
      have h6 := ih.altL d [(seqF s f d r).1] (seqF s f d r).2 h5.1 (by simpa using ih.seq d r h) (by simp) (by simp)
      exact ok_many (by omega) h6.1
theorem parse_re (s : List Int) : REok (parseP s).1 := by
  unfold parseP
  split
  · exact ok_none
  · rename_i h
    have h1 := (reader_re (s := s) (by omega) (fuelP s)).alt 0 ⟨0, 0, 0⟩ (Nat.zero_le _)
    generalize altF s (fuelP s) 0 ⟨0, 0, 0⟩ = q at *
    obtain ⟨x, r⟩ := q
    simp only
    generalize (if r.at_ < s.length then r.fail 2 else r) = r2
    split
    · exact h1
    · exact ok_none
section
variable {P : Program} {T : List TI} {N : Nat} {ops : Array Oper} {rest : List Oper} {o : Oper} {Q : Exit → St → Prop} {E F : Env} {M : List Ob}
theorem seqT_ldagg (hT : TOk P T) {l : List Oper} {n t d : Nat} {x : Operand} {cs : List A} {i : TI} (ho : o.op = .load t x) (hx : opA F x = .pp cs) (hk : known T t = some i) (ha : i.k.isAgg = true) (hl : cs.length = i.size) (hg : guardOn ops o F = some true) (hd : o.dst = some d) (hN : Nat.blt d N = true)
    (next : SeqT P N ops Q M ((d, .agg cs) :: F) n l) : SeqT P N ops Q M F (n + 1) (o :: l) := by
  refine seqT_y (x := .agg cs) (fun E hE rest Q next => ?_) hd next
  refine aops_ldagg hT ho ((agree_op hE (by rw [ho]; simp [Op.operands])).trans hx) hk ha hl ((agree_guard hE).trans hg) hd hN ?_
  rwa [hd] at next
end
theorem kid_at {k : List RE} {y : RE} {j : Int} (h : k[j.toNat]? = some y) : reC y <+: (encs reC k).drop (j.toNat * 6) := by
  rw [encs_drop reC_len]
  obtain ⟨hi, rfl⟩ := List.getElem?_eq_some_iff.1 h
  rw [List.drop_eq_getElem_cons hi]
  exact ⟨encs reC (k.drop (j.toNat + 1)), by unfold encs; rw [List.flatMap_cons]⟩
attribute [local irreducible] thenA inBlockA ACode AOps put IntKind.wrap
set_option maxHeartbeats 8000000 in
theorem same_calls {x : RE} (h : REok x) : ∀ M, ACalls Try.prog 12 [.agg (reC x), .agg (reC x)] M (fun r M' => r = .bool true ∧ M' = M) := by
  induction h with
  | @mk o S k hl hk ih =>
    intro M
    refine acalls_of_code 46 Try.func12 rfl rfl rfl ?_
    match k, hl, hk, ih with
    | [], hl, hk, ih =>
      rw [reC]
      repeat (first | refine aops_put rfl ?_ | refine aops_end ?_ | refine aops_endb ?_ | refine aops_o rfl rfl rfl ?_ | refine aops_max tok rfl rfl rfl rfl rfl rfl ?_ | refine aops_min tok rfl rfl rfl rfl rfl rfl ?_ | refine aops_a tok rfl (by omega) (by omega) rfl rfl rfl ?_ | refine aops_p tok rfl rfl rfl rfl ?_ | refine aops_ixa tok rfl rfl rfl (by decide) rfl rfl rfl rfl ?_ | refine aops_ld tok 0 rfl rfl rfl rfl rfl rfl rfl rfl ?_ | refine aops_ld tok 1 rfl rfl rfl rfl rfl rfl rfl rfl ?_ | refine aops_stn tok rfl rfl rfl rfl rfl rfl rfl rfl rfl ?_ | refine aops_stn1 tok rfl rfl rfl rfl rfl rfl rfl rfl rfl ?_ | refine acode_seq ?_ | refine acode_region ?_ | refine acode_block ?_ | refine acode_skip ?_ | refine then_n ?_ | refine block_n ?_)
      refine aops_boxf rfl rfl rfl rfl rfl rfl rfl ?_
      refine aops_boxf rfl rfl rfl rfl rfl rfl rfl ?_
      repeat' (first | refine aops_put rfl ?_ | refine aops_end ?_ | refine aops_endb ?_ | refine aops_o rfl rfl rfl ?_ | refine aops_max tok rfl rfl rfl rfl rfl rfl ?_ | refine aops_min tok rfl rfl rfl rfl rfl rfl ?_ | refine aops_a tok rfl (by omega) (by omega) rfl rfl rfl ?_ | refine aops_pbt tok rfl (by first | omega | decide) rfl rfl rfl ?_ | refine aops_pbf tok rfl (by first | omega | decide) rfl rfl rfl ?_ | refine aops_pet tok rfl (by omega) rfl rfl rfl ?_ | refine aops_pef tok rfl (by omega) rfl rfl rfl ?_ | (refine aops_pd tok rfl rfl rfl rfl ?_ ?_ <;> intro e_) | (refine aops_pe tok rfl rfl rfl rfl ?_ ?_ <;> intro e_) | (refine aops_pn tok rfl rfl rfl rfl ?_ ?_ <;> intro e_) | refine aops_p tok rfl rfl rfl rfl ?_ | refine acode_it rfl ?_ | refine acode_if rfl ?_ | refine aops_ixa tok rfl rfl rfl (by decide) rfl rfl rfl rfl ?_ | refine aops_ld tok 0 rfl rfl rfl rfl rfl rfl rfl rfl ?_ | refine aops_ld tok 1 rfl rfl rfl rfl rfl rfl rfl rfl ?_ | refine aops_stn tok rfl rfl rfl rfl rfl rfl rfl rfl rfl ?_ | refine aops_stn1 tok rfl rfl rfl rfl rfl rfl rfl rfl rfl ?_ | refine acode_seq ?_ | refine acode_region ?_ | refine acode_block ?_ | refine acode_skip ?_ | refine then_n ?_ | refine block_n ?_)
      all_goals try (exfalso; omega)
      refine aops_nea tok [(wordOf S 0 : Int), (wordOf S 1 : Int), (wordOf S 2 : Int), (wordOf S 3 : Int)] rfl rfl rfl rfl (by kernel_rfl) rfl rfl rfl rfl rfl rfl ?_
      repeat' (first | refine aops_put rfl ?_ | refine aops_end ?_ | refine aops_endb ?_ | refine aops_o rfl rfl rfl ?_ | refine aops_max tok rfl rfl rfl rfl rfl rfl ?_ | refine aops_min tok rfl rfl rfl rfl rfl rfl ?_ | refine aops_a tok rfl (by omega) (by omega) rfl rfl rfl ?_ | refine aops_pbt tok rfl (by first | omega | decide) rfl rfl rfl ?_ | refine aops_pbf tok rfl (by first | omega | decide) rfl rfl rfl ?_ | refine aops_pet tok rfl (by omega) rfl rfl rfl ?_ | refine aops_pef tok rfl (by omega) rfl rfl rfl ?_ | (refine aops_pd tok rfl rfl rfl rfl ?_ ?_ <;> intro e_) | (refine aops_pe tok rfl rfl rfl rfl ?_ ?_ <;> intro e_) | (refine aops_pn tok rfl rfl rfl rfl ?_ ?_ <;> intro e_) | refine aops_p tok rfl rfl rfl rfl ?_ | refine acode_it rfl ?_ | refine acode_if rfl ?_ | refine aops_ixa tok rfl rfl rfl (by decide) rfl rfl rfl rfl ?_ | refine aops_ld tok 0 rfl rfl rfl rfl rfl rfl rfl rfl ?_ | refine aops_ld tok 1 rfl rfl rfl rfl rfl rfl rfl rfl ?_ | refine aops_stn tok rfl rfl rfl rfl rfl rfl rfl rfl rfl ?_ | refine aops_stn1 tok rfl rfl rfl rfl rfl rfl rfl rfl rfl ?_ | refine acode_seq ?_ | refine acode_region ?_ | refine acode_block ?_ | refine acode_skip ?_ | refine then_n ?_ | refine block_n ?_)
      all_goals try (exfalso; omega)
      refine acode_loopS (ι := Unit) (fun p => [(2, get _ 2), (3, get _ 3), (5, .int .i64 0)]) (fun p => M) (fun p => 0) (fun p => True) () trivial ⟨rfl, rfl, rfl, trivial⟩ rfl ?_
      rintro _ _
      repeat' (first | refine aops_put rfl ?_ | refine aops_end ?_ | refine aops_endb ?_ | refine aops_o rfl rfl rfl ?_ | refine aops_max tok rfl rfl rfl rfl rfl rfl ?_ | refine aops_min tok rfl rfl rfl rfl rfl rfl ?_ | refine aops_a tok rfl (by omega) (by omega) rfl rfl rfl ?_ | refine aops_pbt tok rfl (by first | omega | decide) rfl rfl rfl ?_ | refine aops_pbf tok rfl (by first | omega | decide) rfl rfl rfl ?_ | refine aops_pet tok rfl (by omega) rfl rfl rfl ?_ | refine aops_pef tok rfl (by omega) rfl rfl rfl ?_ | (refine aops_pd tok rfl rfl rfl rfl ?_ ?_ <;> intro e_) | (refine aops_pe tok rfl rfl rfl rfl ?_ ?_ <;> intro e_) | (refine aops_pn tok rfl rfl rfl rfl ?_ ?_ <;> intro e_) | refine aops_p tok rfl rfl rfl rfl ?_ | refine acode_it rfl ?_ | refine acode_if rfl ?_ | refine aops_ixa tok rfl rfl rfl (by decide) rfl rfl rfl rfl ?_ | refine aops_ld tok 0 rfl rfl rfl rfl rfl rfl rfl rfl ?_ | refine aops_ld tok 1 rfl rfl rfl rfl rfl rfl rfl rfl ?_ | refine aops_stn tok rfl rfl rfl rfl rfl rfl rfl rfl rfl ?_ | refine aops_stn1 tok rfl rfl rfl rfl rfl rfl rfl rfl rfl ?_ | refine acode_seq ?_ | refine acode_region ?_ | refine acode_block ?_ | refine acode_skip ?_ | refine then_n ?_ | refine block_n ?_)
      all_goals try (exfalso; omega)
      refine acode_exit ?_
      repeat (first | refine exit_then ?_ | refine exit_here ?_ | refine exit_out rfl ?_ | refine ret_then ?_ | refine ret_block ?_ | refine then_n ?_ | refine block_n ?_)
      repeat (first | refine aops_put rfl ?_ | refine aops_end ?_ | refine aops_endb ?_ | refine aops_o rfl rfl rfl ?_ | refine aops_max tok rfl rfl rfl rfl rfl rfl ?_ | refine aops_min tok rfl rfl rfl rfl rfl rfl ?_ | refine aops_a tok rfl (by omega) (by omega) rfl rfl rfl ?_ | refine aops_p tok rfl rfl rfl rfl ?_ | refine aops_ixa tok rfl rfl rfl (by decide) rfl rfl rfl rfl ?_ | refine aops_ld tok 0 rfl rfl rfl rfl rfl rfl rfl rfl ?_ | refine aops_ld tok 1 rfl rfl rfl rfl rfl rfl rfl rfl ?_ | refine aops_stn tok rfl rfl rfl rfl rfl rfl rfl rfl rfl ?_ | refine aops_stn1 tok rfl rfl rfl rfl rfl rfl rfl rfl rfl ?_ | refine acode_seq ?_ | refine acode_region ?_ | refine acode_block ?_ | refine acode_skip ?_ | refine then_n ?_ | refine block_n ?_)
      refine acode_ret ?_
      repeat (first | refine exit_then ?_ | refine exit_here ?_ | refine exit_out rfl ?_ | refine ret_then ?_ | refine ret_block ?_ | refine then_n ?_ | refine block_n ?_)
      exact ⟨_, ⟨rfl, rfl⟩, resOf_tmp rfl⟩
    | x0 :: k0, hl, hk, ih =>
      have hne : x0 :: k0 ≠ [] := by simp
      generalize x0 :: k0 = k at *
      rw [reC_kids o S hne]
      repeat (first | refine aops_put rfl ?_ | refine aops_end ?_ | refine aops_endb ?_ | refine aops_o rfl rfl rfl ?_ | refine aops_max tok rfl rfl rfl rfl rfl rfl ?_ | refine aops_min tok rfl rfl rfl rfl rfl rfl ?_ | refine aops_a tok rfl (by omega) (by omega) rfl rfl rfl ?_ | refine aops_p tok rfl rfl rfl rfl ?_ | refine aops_ixa tok rfl rfl rfl (by decide) rfl rfl rfl rfl ?_ | refine aops_ld tok 0 rfl rfl rfl rfl rfl rfl rfl rfl ?_ | refine aops_ld tok 1 rfl rfl rfl rfl rfl rfl rfl rfl ?_ | refine aops_stn tok rfl rfl rfl rfl rfl rfl rfl rfl rfl ?_ | refine aops_stn1 tok rfl rfl rfl rfl rfl rfl rfl rfl rfl ?_ | refine acode_seq ?_ | refine acode_region ?_ | refine acode_block ?_ | refine acode_skip ?_ | refine then_n ?_ | refine block_n ?_)
      refine aops_boxf rfl rfl rfl rfl rfl rfl rfl ?_
      refine aops_boxf rfl rfl rfl rfl rfl rfl rfl ?_
      repeat' (first | refine aops_put rfl ?_ | refine aops_end ?_ | refine aops_endb ?_ | refine aops_o rfl rfl rfl ?_ | refine aops_max tok rfl rfl rfl rfl rfl rfl ?_ | refine aops_min tok rfl rfl rfl rfl rfl rfl ?_ | refine aops_a tok rfl (by omega) (by omega) rfl rfl rfl ?_ | refine aops_pbt tok rfl (by first | omega | decide) rfl rfl rfl ?_ | refine aops_pbf tok rfl (by first | omega | decide) rfl rfl rfl ?_ | refine aops_pet tok rfl (by omega) rfl rfl rfl ?_ | refine aops_pef tok rfl (by omega) rfl rfl rfl ?_ | (refine aops_pd tok rfl rfl rfl rfl ?_ ?_ <;> intro e_) | (refine aops_pe tok rfl rfl rfl rfl ?_ ?_ <;> intro e_) | (refine aops_pn tok rfl rfl rfl rfl ?_ ?_ <;> intro e_) | refine aops_p tok rfl rfl rfl rfl ?_ | refine acode_it rfl ?_ | refine acode_if rfl ?_ | refine aops_ixa tok rfl rfl rfl (by decide) rfl rfl rfl rfl ?_ | refine aops_ld tok 0 rfl rfl rfl rfl rfl rfl rfl rfl ?_ | refine aops_ld tok 1 rfl rfl rfl rfl rfl rfl rfl rfl ?_ | refine aops_stn tok rfl rfl rfl rfl rfl rfl rfl rfl rfl ?_ | refine aops_stn1 tok rfl rfl rfl rfl rfl rfl rfl rfl rfl ?_ | refine acode_seq ?_ | refine acode_region ?_ | refine acode_block ?_ | refine acode_skip ?_ | refine then_n ?_ | refine block_n ?_)
      all_goals try (exfalso; omega)
      refine aops_nea tok [(wordOf S 0 : Int), (wordOf S 1 : Int), (wordOf S 2 : Int), (wordOf S 3 : Int)] rfl rfl rfl rfl (by kernel_rfl) rfl rfl rfl rfl rfl rfl ?_
      repeat' (first | refine aops_put rfl ?_ | refine aops_end ?_ | refine aops_endb ?_ | refine aops_o rfl rfl rfl ?_ | refine aops_max tok rfl rfl rfl rfl rfl rfl ?_ | refine aops_min tok rfl rfl rfl rfl rfl rfl ?_ | refine aops_a tok rfl (by omega) (by omega) rfl rfl rfl ?_ | refine aops_pbt tok rfl (by first | omega | decide) rfl rfl rfl ?_ | refine aops_pbf tok rfl (by first | omega | decide) rfl rfl rfl ?_ | refine aops_pet tok rfl (by omega) rfl rfl rfl ?_ | refine aops_pef tok rfl (by omega) rfl rfl rfl ?_ | (refine aops_pd tok rfl rfl rfl rfl ?_ ?_ <;> intro e_) | (refine aops_pe tok rfl rfl rfl rfl ?_ ?_ <;> intro e_) | (refine aops_pn tok rfl rfl rfl rfl ?_ ?_ <;> intro e_) | refine aops_p tok rfl rfl rfl rfl ?_ | refine acode_it rfl ?_ | refine acode_if rfl ?_ | refine aops_ixa tok rfl rfl rfl (by decide) rfl rfl rfl rfl ?_ | refine aops_ld tok 0 rfl rfl rfl rfl rfl rfl rfl rfl ?_ | refine aops_ld tok 1 rfl rfl rfl rfl rfl rfl rfl rfl ?_ | refine aops_stn tok rfl rfl rfl rfl rfl rfl rfl rfl rfl ?_ | refine aops_stn1 tok rfl rfl rfl rfl rfl rfl rfl rfl rfl ?_ | refine acode_seq ?_ | refine acode_region ?_ | refine acode_block ?_ | refine acode_skip ?_ | refine then_n ?_ | refine block_n ?_)
      all_goals try (exfalso; omega)
      refine acode_loopS (ι := Nat) (fun i => [(2, .pp [.int .i64 o, .int .u64 (wordOf S 0 : Nat), .int .u64 (wordOf S 1 : Nat), .int .u64 (wordOf S 2 : Nat), .int .u64 (wordOf S 3 : Nat), .psl k.length (encs reC k)]), (3, .pp [.int .i64 o, .int .u64 (wordOf S 0 : Nat), .int .u64 (wordOf S 1 : Nat), .int .u64 (wordOf S 2 : Nat), .int .u64 (wordOf S 3 : Nat), .psl k.length (encs reC k)]), (5, .int .i64 i)]) (fun i => M) (fun i => k.length - i) (fun i => i ≤ k.length) 0 (Nat.zero_le _) ⟨rfl, rfl, rfl, trivial⟩ rfl ?_
      intro i hi
      by_cases hlt : i < k.length
      · have hxi : k[((i : Nat) : Int).toNat]? = some k[i] := by rw [Int.toNat_natCast]; exact List.getElem?_eq_getElem hlt
        have hc := ih k[i] (List.getElem_mem hlt) M
        have hx := reC_len k[i]
        have hpre := kid_at hxi
        have hnn : reC k[i] ≠ [] := by intro h; rw [h] at hx; simp at hx
        generalize reC k[i] = cs at *
        repeat' (first | refine aops_put rfl ?_ | refine aops_end ?_ | refine aops_endb ?_ | refine aops_o rfl rfl rfl ?_ | refine aops_max tok rfl rfl rfl rfl rfl rfl ?_ | refine aops_min tok rfl rfl rfl rfl rfl rfl ?_ | refine aops_a tok rfl (by omega) (by omega) rfl rfl rfl ?_ | refine aops_pbt tok rfl (by first | omega | decide) rfl rfl rfl ?_ | refine aops_pbf tok rfl (by first | omega | decide) rfl rfl rfl ?_ | refine aops_pet tok rfl (by omega) rfl rfl rfl ?_ | refine aops_pef tok rfl (by omega) rfl rfl rfl ?_ | (refine aops_pd tok rfl rfl rfl rfl ?_ ?_ <;> intro e_) | (refine aops_pe tok rfl rfl rfl rfl ?_ ?_ <;> intro e_) | (refine aops_pn tok rfl rfl rfl rfl ?_ ?_ <;> intro e_) | refine aops_p tok rfl rfl rfl rfl ?_ | refine acode_it rfl ?_ | refine acode_if rfl ?_ | refine aops_ixa tok rfl rfl rfl (by decide) rfl rfl rfl rfl ?_ | refine aops_ld tok 0 rfl rfl rfl rfl rfl rfl rfl rfl ?_ | refine aops_ld tok 1 rfl rfl rfl rfl rfl rfl rfl rfl ?_ | refine aops_stn tok rfl rfl rfl rfl rfl rfl rfl rfl rfl ?_ | refine aops_stn1 tok rfl rfl rfl rfl rfl rfl rfl rfl rfl ?_ | refine acode_seq ?_ | refine acode_region ?_ | refine acode_block ?_ | refine acode_skip ?_ | refine then_n ?_ | refine block_n ?_)
        all_goals try (exfalso; omega)
        refine acode_drawT 12 mixed (by kernel_rfl) (by kernel_rfl) ?_
        repeat (first | refine seqT_put rfl ?_ | refine seqT_o rfl rfl rfl ?_ | refine seqT_max tok rfl rfl rfl rfl rfl rfl ?_ | refine seqT_min tok rfl rfl rfl rfl rfl rfl ?_ | refine seqT_a tok rfl (by omega) (by omega) rfl rfl rfl ?_ | refine seqT_p tok rfl rfl rfl rfl ?_ | refine seqT_ixa tok rfl rfl rfl (by decide) rfl rfl rfl rfl ?_ | refine seqT_ld tok 0 rfl rfl rfl rfl rfl rfl rfl rfl ?_ | refine seqT_ld tok 1 rfl rfl rfl rfl rfl rfl rfl rfl ?_)
        refine seqT_ix tok cs rfl rfl rfl rfl (by omega) (by omega) hnn hpre rfl rfl rfl ?_
        refine seqT_ldagg tok rfl rfl rfl rfl hx rfl rfl rfl ?_
        repeat (first | refine seqT_put rfl ?_ | refine seqT_o rfl rfl rfl ?_ | refine seqT_max tok rfl rfl rfl rfl rfl rfl ?_ | refine seqT_min tok rfl rfl rfl rfl rfl rfl ?_ | refine seqT_a tok rfl (by omega) (by omega) rfl rfl rfl ?_ | refine seqT_p tok rfl rfl rfl rfl ?_ | refine seqT_ixa tok rfl rfl rfl (by decide) rfl rfl rfl rfl ?_ | refine seqT_ld tok 0 rfl rfl rfl rfl rfl rfl rfl rfl ?_ | refine seqT_ld tok 1 rfl rfl rfl rfl rfl rfl rfl rfl ?_)
        refine seqT_ix tok cs rfl rfl rfl rfl (by omega) (by omega) hnn hpre rfl rfl rfl ?_
        refine seqT_ldagg tok rfl rfl rfl rfl hx rfl rfl rfl ?_
        refine seqT_call _ Try.func12 rfl rfl rfl rfl hc rfl rfl rfl ?_
        repeat (first | refine seqT_put rfl ?_ | refine seqT_o rfl rfl rfl ?_ | refine seqT_max tok rfl rfl rfl rfl rfl rfl ?_ | refine seqT_min tok rfl rfl rfl rfl rfl rfl ?_ | refine seqT_a tok rfl (by omega) (by omega) rfl rfl rfl ?_ | refine seqT_p tok rfl rfl rfl rfl ?_ | refine seqT_ixa tok rfl rfl rfl (by decide) rfl rfl rfl rfl ?_ | refine seqT_ld tok 0 rfl rfl rfl rfl rfl rfl rfl rfl ?_ | refine seqT_ld tok 1 rfl rfl rfl rfl rfl rfl rfl rfl ?_)
        refine SeqT.done ?_
        repeat' (first | refine aops_put rfl ?_ | refine aops_end ?_ | refine aops_endb ?_ | refine aops_o rfl rfl rfl ?_ | refine aops_max tok rfl rfl rfl rfl rfl rfl ?_ | refine aops_min tok rfl rfl rfl rfl rfl rfl ?_ | refine aops_a tok rfl (by omega) (by omega) rfl rfl rfl ?_ | refine aops_pbt tok rfl (by first | omega | decide) rfl rfl rfl ?_ | refine aops_pbf tok rfl (by first | omega | decide) rfl rfl rfl ?_ | refine aops_pet tok rfl (by omega) rfl rfl rfl ?_ | refine aops_pef tok rfl (by omega) rfl rfl rfl ?_ | (refine aops_pd tok rfl rfl rfl rfl ?_ ?_ <;> intro e_) | (refine aops_pe tok rfl rfl rfl rfl ?_ ?_ <;> intro e_) | (refine aops_pn tok rfl rfl rfl rfl ?_ ?_ <;> intro e_) | refine aops_p tok rfl rfl rfl rfl ?_ | refine acode_it rfl ?_ | refine acode_if rfl ?_ | refine aops_ixa tok rfl rfl rfl (by decide) rfl rfl rfl rfl ?_ | refine aops_ld tok 0 rfl rfl rfl rfl rfl rfl rfl rfl ?_ | refine aops_ld tok 1 rfl rfl rfl rfl rfl rfl rfl rfl ?_ | refine aops_stn tok rfl rfl rfl rfl rfl rfl rfl rfl rfl ?_ | refine aops_stn1 tok rfl rfl rfl rfl rfl rfl rfl rfl rfl ?_ | refine acode_seq ?_ | refine acode_region ?_ | refine acode_block ?_ | refine acode_skip ?_ | refine then_n ?_ | refine block_n ?_)
        exact ⟨i + 1, by omega, by omega, ⟨rfl, rfl, rfl, trivial⟩, rfl⟩
      · repeat' (first | refine aops_put rfl ?_ | refine aops_end ?_ | refine aops_endb ?_ | refine aops_o rfl rfl rfl ?_ | refine aops_max tok rfl rfl rfl rfl rfl rfl ?_ | refine aops_min tok rfl rfl rfl rfl rfl rfl ?_ | refine aops_a tok rfl (by omega) (by omega) rfl rfl rfl ?_ | refine aops_pbt tok rfl (by first | omega | decide) rfl rfl rfl ?_ | refine aops_pbf tok rfl (by first | omega | decide) rfl rfl rfl ?_ | refine aops_pet tok rfl (by omega) rfl rfl rfl ?_ | refine aops_pef tok rfl (by omega) rfl rfl rfl ?_ | (refine aops_pd tok rfl rfl rfl rfl ?_ ?_ <;> intro e_) | (refine aops_pe tok rfl rfl rfl rfl ?_ ?_ <;> intro e_) | (refine aops_pn tok rfl rfl rfl rfl ?_ ?_ <;> intro e_) | refine aops_p tok rfl rfl rfl rfl ?_ | refine acode_it rfl ?_ | refine acode_if rfl ?_ | refine aops_ixa tok rfl rfl rfl (by decide) rfl rfl rfl rfl ?_ | refine aops_ld tok 0 rfl rfl rfl rfl rfl rfl rfl rfl ?_ | refine aops_ld tok 1 rfl rfl rfl rfl rfl rfl rfl rfl ?_ | refine aops_stn tok rfl rfl rfl rfl rfl rfl rfl rfl rfl ?_ | refine aops_stn1 tok rfl rfl rfl rfl rfl rfl rfl rfl rfl ?_ | refine acode_seq ?_ | refine acode_region ?_ | refine acode_block ?_ | refine acode_skip ?_ | refine then_n ?_ | refine block_n ?_)
        all_goals try (exfalso; omega)
        refine acode_exit ?_
        repeat (first | refine exit_then ?_ | refine exit_here ?_ | refine exit_out rfl ?_ | refine ret_then ?_ | refine ret_block ?_ | refine then_n ?_ | refine block_n ?_)
        repeat (first | refine aops_put rfl ?_ | refine aops_end ?_ | refine aops_endb ?_ | refine aops_o rfl rfl rfl ?_ | refine aops_max tok rfl rfl rfl rfl rfl rfl ?_ | refine aops_min tok rfl rfl rfl rfl rfl rfl ?_ | refine aops_a tok rfl (by omega) (by omega) rfl rfl rfl ?_ | refine aops_p tok rfl rfl rfl rfl ?_ | refine aops_ixa tok rfl rfl rfl (by decide) rfl rfl rfl rfl ?_ | refine aops_ld tok 0 rfl rfl rfl rfl rfl rfl rfl rfl ?_ | refine aops_ld tok 1 rfl rfl rfl rfl rfl rfl rfl rfl ?_ | refine aops_stn tok rfl rfl rfl rfl rfl rfl rfl rfl rfl ?_ | refine aops_stn1 tok rfl rfl rfl rfl rfl rfl rfl rfl rfl ?_ | refine acode_seq ?_ | refine acode_region ?_ | refine acode_block ?_ | refine acode_skip ?_ | refine then_n ?_ | refine block_n ?_)
        refine acode_ret ?_
        repeat (first | refine exit_then ?_ | refine exit_here ?_ | refine exit_out rfl ?_ | refine ret_then ?_ | refine ret_block ?_ | refine then_n ?_ | refine block_n ?_)
        exact ⟨_, ⟨rfl, rfl⟩, resOf_tmp rfl⟩
end Go.Proofs.Ytafncdbkbmaifaa.Ab

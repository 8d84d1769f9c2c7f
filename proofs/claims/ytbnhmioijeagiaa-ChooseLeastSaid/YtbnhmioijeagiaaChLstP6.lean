/- Texts of this proof, one behind the other (LsC, LsD). No condition. -/
import Derived.Test.YtbnhmioijeagiaaChLstP5
/- Chapter 23's reference, May: the walk. No condition. -/
set_option linter.unusedVariables false
set_option linter.unusedSimpArgs false
namespace Go.Proofs.Ytbnhmioijeagiaa.Ab
attribute [local irreducible] thenA inBlockA ACode AOps put IntKind.wrap

set_option maxHeartbeats 2000000 in
theorem rmay_calls {g : Gr} (hl : g.forbid.length ≤ 9223372036854775807) : ∀ (t : Tr), trSize t ≤ 9223372036854775807 → ∀ (M : List Ob), ACalls Try.prog 23 [grA g, trA t] M (fun r M' => r = .bool (mayB g.forbid t) ∧ M' = M) := by
  refine Tr.ind fun t ih hsz M => ?_
  rw [trSize_eq] at hsz
  have hkl := trsSize_len t.kids
  rw [mayB_eq]
  refine acalls_of_code 40 Try.func23 rfl rfl rfl ?_
  repeat (first | refine acode_seq ?_ | refine acode_region ?_)
  refine aops_boxf rfl rfl rfl rfl rfl rfl rfl ?_
  refine aops_boxf rfl rfl rfl rfl rfl rfl rfl ?_
  repeat (first | refine aops_end ?_ | refine aops_p tok rfl rfl rfl rfl ?_ | refine acode_seq ?_ | refine acode_region ?_ | refine acode_block ?_)
  by_cases hm : t.rule = -1
  · rw [decide_eq_true hm, Bool.true_or]
    refine acode_loopS (ι := Unit) (fun _ => [(3, .pp [.int .i64 t.rule, .int .i64 t.tok, .psl t.kids.length (encs trC t.kids)]), (5, .int .i64 0)]) (fun _ => M) (fun _ => 0) (fun _ => True) () trivial ⟨rfl, rfl, trivial⟩ rfl ?_
    rintro - -
    repeat' (first | refine aops_end ?_ | refine aops_o rfl rfl rfl ?_ | (refine aops_pd tok rfl rfl rfl rfl ?_ ?_ <;> intro e_) | (refine aops_pn tok rfl rfl rfl rfl ?_ ?_ <;> intro e_) | refine aops_p tok rfl rfl rfl rfl ?_ | refine acode_it rfl ?_ | refine acode_if rfl ?_ | refine acode_seq ?_ | refine acode_region ?_ | refine acode_block ?_ | refine acode_skip ?_ | refine then_n ?_)
    all_goals try (exfalso; omega)
    all_goals
      refine acode_exit ?_
      repeat (first | refine exit_then ?_ | refine exit_here ?_ | refine then_n ?_)
      repeat (first | refine aops_end ?_ | refine aops_p tok rfl rfl rfl rfl ?_ | refine acode_seq ?_ | refine acode_region ?_)
      refine acode_ret ?_
      skip
      exact ⟨_, ⟨rfl, rfl⟩, resOf_tmp rfl⟩
  rw [decide_eq_false hm, Bool.false_or]
  refine acode_loopS (ι := Nat) (fun i => [(2, .pp (grC g)), (3, .pp [.int .i64 t.rule, .int .i64 t.tok, .psl t.kids.length (encs trC t.kids)]), (5, .int .i64 i)]) (fun _ => M) (fun i => t.kids.length - i) (fun i => i ≤ t.kids.length ∧ maysB g.forbid t.rule i (t.kids.drop i) = maysB g.forbid t.rule 0 t.kids) 0 ⟨Nat.zero_le _, rfl⟩ ⟨rfl, rfl, rfl, trivial⟩ rfl ?_
  rintro i ⟨hi, hgo⟩
  by_cases hil : i < t.kids.length
  · obtain ⟨k, hk⟩ : ∃ k, t.kids[i]? = some k := ⟨t.kids[i], List.getElem?_eq_getElem hil⟩
    have hkm := List.mem_of_getElem? hk
    have hks := trsSize_mem hkm
    rw [maysB_step hk] at hgo
    have hcall := ih k hkm (by omega)
    repeat' (first | refine aops_end ?_ | refine aops_pbt tok rfl (by first | omega | decide) rfl rfl rfl ?_ | (refine aops_pn tok rfl rfl rfl rfl ?_ ?_ <;> intro e_) | refine aops_p tok rfl rfl rfl rfl ?_ | refine acode_it rfl ?_ | refine acode_if rfl ?_ | refine acode_seq ?_ | refine acode_region ?_ | refine acode_block ?_ | refine acode_skip ?_ | refine then_n ?_)
    all_goals try (exfalso; omega)
    refine aops_ix tok [.int .i64 k.rule, .int .i64 k.tok, .psl k.kids.length (encs trC k.kids)] rfl rfl rfl rfl (by omega) (by omega) (by simp) (by rw [← trC_eq]; exact tr_at hk) rfl rfl rfl ?_
    repeat (refine aops_p tok rfl rfl rfl rfl ?_)
    refine aops_alloc tok rfl rfl rfl rfl rfl rfl fun ba => ?_
    repeat (refine aops_stn tok rfl rfl rfl rfl rfl rfl rfl rfl rfl ?_)
    refine aops_pubref0 6 rfl ?_
    by_cases hk1 : k.rule = -1
    · have hmk : mayB g.forbid k = true := by rw [mayB_eq, decide_eq_true hk1]; rfl
      rw [decide_eq_false (fun h => h.1 hk1 : ¬ (k.rule ≠ -1 ∧ (t.rule, (i : Int), k.rule) ∈ g.forbid)), hmk] at hgo
      repeat' (first | refine aops_end ?_ | refine aops_pbt tok rfl (by first | omega | decide) rfl rfl rfl ?_ | refine aops_p tok rfl rfl rfl rfl ?_ | refine acode_it rfl ?_ | refine acode_seq ?_ | refine acode_region ?_)
      all_goals try (exfalso; omega)
      refine acode_exit ?_
      repeat (first | refine exit_then ?_ | refine exit_here ?_ | refine then_n ?_)
      repeat (first | refine aops_end ?_ | refine aops_a tok rfl (by omega) (by omega) rfl rfl rfl ?_ | refine aops_p tok rfl rfl rfl rfl ?_ | refine acode_region ?_)
      exact ⟨i + 1, ⟨by omega, by rw [← hgo]; rfl⟩, by omega, ⟨rfl, rfl, rfl, trivial⟩, rfl⟩
    · by_cases hf : (t.rule, (i : Int), k.rule) ∈ g.forbid
      · rw [decide_eq_true (⟨hk1, hf⟩ : k.rule ≠ -1 ∧ (t.rule, (i : Int), k.rule) ∈ g.forbid)] at hgo
        have hfb : ∀ M, ACalls Try.prog 58 [grA g, .int .i64 t.rule, .int .i64 i, .int .i64 k.rule] M (fun x M' => x = .bool true ∧ M' = M) := fun M => by
          have := rforb_calls hl (r := t.rule) (p := i) (q := k.rule) M
          rwa [decide_eq_true hf] at this
        repeat' (first | refine aops_end ?_ | refine aops_pbf tok rfl (by first | omega | decide) rfl rfl rfl ?_ | refine aops_p tok rfl rfl rfl rfl ?_ | refine acode_if rfl ?_ | refine acode_seq ?_ | refine acode_region ?_ | refine acode_skip ?_ | refine then_n ?_)
        all_goals try (exfalso; omega)
        refine aops_callx Try.func58 rfl rfl rfl rfl (hfb _) rfl rfl rfl ?_
        repeat' (first | refine aops_end ?_ | refine aops_o rfl rfl rfl ?_ | refine aops_p tok rfl rfl rfl rfl ?_ | refine acode_it rfl ?_ | refine acode_seq ?_ | refine acode_region ?_)
        refine acode_ret ?_
        repeat (first | refine ret_then ?_ | refine ret_block ?_)
        exact ⟨.bool false, ⟨by rw [← hgo]; rfl, rfl⟩, resOf_tmp rfl⟩
      · rw [decide_eq_false (fun h => hf h.2 : ¬ (k.rule ≠ -1 ∧ (t.rule, (i : Int), k.rule) ∈ g.forbid))] at hgo
        have hfb : ∀ M, ACalls Try.prog 58 [grA g, .int .i64 t.rule, .int .i64 i, .int .i64 k.rule] M (fun x M' => x = .bool false ∧ M' = M) := fun M => by
          have := rforb_calls hl (r := t.rule) (p := i) (q := k.rule) M
          rwa [decide_eq_false hf] at this
        repeat' (first | refine aops_end ?_ | refine aops_pbf tok rfl (by first | omega | decide) rfl rfl rfl ?_ | refine aops_p tok rfl rfl rfl rfl ?_ | refine acode_if rfl ?_ | refine acode_seq ?_ | refine acode_region ?_ | refine acode_skip ?_ | refine then_n ?_)
        all_goals try (exfalso; omega)
        refine aops_callx Try.func58 rfl rfl rfl rfl (hfb _) rfl rfl rfl ?_
        repeat (refine aops_p tok rfl rfl rfl rfl ?_)
        refine aops_callx Try.func23 rfl rfl rfl rfl (hcall _) rfl rfl rfl ?_
        cases hmb : mayB g.forbid k with
        | false =>
          rw [hmb] at hgo
          repeat' (first | refine aops_end ?_ | refine aops_p tok rfl rfl rfl rfl ?_ | refine acode_it rfl ?_ | refine acode_seq ?_ | refine acode_region ?_)
          refine acode_ret ?_
          repeat (first | refine ret_then ?_ | refine ret_block ?_)
          exact ⟨.bool false, ⟨by rw [← hgo]; rfl, rfl⟩, resOf_tmp rfl⟩
        | true =>
          rw [hmb] at hgo
          repeat' (first | refine aops_end ?_ | refine aops_a tok rfl (by omega) (by omega) rfl rfl rfl ?_ | refine aops_p tok rfl rfl rfl rfl ?_ | refine acode_if rfl ?_ | refine acode_region ?_ | refine acode_skip ?_ | refine then_n ?_ | refine block_n ?_)
          exact ⟨i + 1, ⟨by omega, by rw [← hgo]; rfl⟩, by omega, ⟨rfl, rfl, rfl, trivial⟩, rfl⟩
  · obtain rfl : i = t.kids.length := by omega
    rw [List.drop_length] at hgo
    repeat' (first | refine aops_end ?_ | refine aops_o rfl rfl rfl ?_ | refine aops_pbf tok rfl (by first | omega | decide) rfl rfl rfl ?_ | refine aops_p tok rfl rfl rfl rfl ?_ | refine acode_if rfl ?_ | refine acode_seq ?_ | refine acode_region ?_)
    all_goals try (exfalso; omega)
    refine acode_exit ?_
    repeat (first | refine exit_then ?_ | refine exit_here ?_ | refine then_n ?_)
    repeat (first | refine aops_end ?_ | refine aops_p tok rfl rfl rfl rfl ?_ | refine acode_seq ?_ | refine acode_region ?_)
    refine acode_ret ?_
    skip
    exact ⟨.bool true, ⟨by rw [← hgo]; rfl, rfl⟩, resOf_tmp rfl⟩
end Go.Proofs.Ytbnhmioijeagiaa.Ab
/- The statement ChooseLeast: the law's walk. No condition. -/
set_option linter.unusedVariables false
set_option linter.unusedSimpArgs false
namespace Go.Proofs.Ytbnhmioijeagiaa.Ab
attribute [local irreducible] thenA inBlockA ACode AOps put IntKind.wrap

theorem lfoE_ok : FoOk ⟨[], 0⟩ := ⟨by decide, by simp⟩
theorem lfoE_no : ¬ FForm ⟨[], 0⟩ := fun h => absurd h.1.2 (by simp)
theorem ltr_len {f : Fo} (h : FForm f) (hlt : trees f f.root.toNat < great) : trees f f.root.toNat = (trL f f.root.toNat).length ∧ ((trL f f.root.toNat).length : Int) < great := by
  have hw := h.2 _ (by have := h.1; omega : f.root.toNat < f.nodes.length)
  rw [trees_sat hw] at hlt ⊢
  have := sat_of hlt
  omega
theorem lfits_h8 {g : Gr} {f : Fo} (hr : FoRng f) (h : FitsP g f) : ∀ i, ∀ a ∈ altsOf f i, a.kids.length ≤ 1000 ∧ ∀ k ∈ a.kids, rng k := fun i a ha => by
  obtain ⟨s, hof⟩ := whole_of h.2.2 ha
  obtain ⟨_, h2, h3, h4⟩ := of_filt hof
  have hm : ruleAt g a.rule ∈ g.rules := List.mem_of_getElem? (ruleAt_at h3 h4)
  have := ((form_ok2 h.1).2 _ hm).2.1
  refine ⟨by omega, ?_⟩
  by_cases hi : i < f.nodes.length
  · obtain ⟨nd, hnd, hndm, hal⟩ := nodes_at hi
    exact hr nd hndm a (by rw [← hal]; exact ha)
  · unfold altsOf at ha
    rw [List.getElem?_eq_none (by omega)] at ha
    cases ha
theorem lvwNo (M : List Ob) : Vw M noP (trA ⟨0, 0, []⟩) := .agg (.cons (.refl _) (.cons (.refl _) (.cons .nils .nil)))
theorem lsameNo (M : List Ob) : ACalls Try.prog 19 [noP, noP] M (fun r M' => r = .bool true ∧ M' = M) := by
  have h := sameT_calls ⟨0, 0, []⟩ (by simp [trSize, trsSize]) ⟨0, 0, []⟩ (by simp [trSize, trsSize]) M
  rw [eqT_self] at h
  exact acalls_arg (.cons (lvwNo _) (.cons (lvwNo _) .nil)) h
/-- What Best answers of a forest that Build made. -/
theorem least_best {g : Gr} {ks : List Int} {N : Nat} {F : List (List Bool)} {o : List Ky} {f : Fo} (hg : GrOk g) (hf : FoOk f) (hr : FoRng f) (B : Blt g ks N F o f) (hfit : FitsP g f) (hn : f.nodes.length ≤ 900) (hb : big f f.root.toNat ≤ 2000) :
    ((∀ M, ACalls Try.prog 18 [grA g, foA f] M (fun x M' => x = .tup [noP, .int .i64 11] ∧ M' = M)) ∧ ∀ t ∈ trL f f.root.toNat, mayB g.forbid t = false) ∨
    ∃ T, T ∈ trL f f.root.toNat ∧ mayB g.forbid T = true ∧ (∀ t ∈ trL f f.root.toNat, mayB g.forbid t = true → leT g T t) ∧ ∀ M, ACalls Try.prog 18 [grA g, foA f] M (fun x M' => x = .tup [trA T, .int .i64 0] ∧ M' = M) := by
  have h8 := lfits_h8 hr hfit
  obtain ⟨h0, hF, hwh⟩ := id hfit
  have hw := hF.2 _ (show f.root.toNat < f.nodes.length by have := hF.1; omega)
  have hdr : ∀ r, rng (dynF g r) := fun r => by have := dyn_ok h0 r; unfold rng; omega
  have h1 := chbest_calls hg h0 hf hF hwh h8 (rows_ok hdr hwh (fun i a ha => (h8 i a ha).1) hF hn)
  have hl := best_least (dyn_ok h0) hwh (fun i a ha => (h8 i a ha).1) (fun i hi => blt_pf B hi) hw (by omega) (fun _ => true)
  have hp := pick_all hdr hwh (fun i a ha => (h8 i a ha).1) hw
  unfold bestR at h1
  have hin := fun h => best_in (may := fun _ => true) (l := pkT g f f.root.toNat) h
  generalize bestF (fun _ => true) (pkT g f f.root.toNat) = E at *
  cases hE : E.isTk with
  | true =>
    rw [if_pos hE] at h1
    refine .inl ⟨h1, fun t ht => ?_⟩
    cases hm : mayB g.forbid t with
    | false => rfl
    | true =>
      have := (hl t ht hm rfl).1
      rw [hE] at this
      cases this
  | false =>
    rw [if_neg (by simp [hE])] at h1
    have h2 := hp E (hin hE).1 hE
    exact .inr ⟨treeP E, h2.is.mem, h2.is.may, fun t ht hm => (hl t ht hm rfl).2.2, h1⟩
/-- The first of the best so far. -/
def FirstIs (g : Gr) (L : List Tr) (k : Nat) (z : Int) : Prop := (z = -1 ∧ ∀ t ∈ L.take k, mayB g.forbid t = false) ∨ ∃ i : Nat, i < k ∧ z = i ∧ ∃ x, L[i]? = some x ∧ mayB g.forbid x = true ∧ ∀ t ∈ L.take k, mayB g.forbid t = true → leT g x t
theorem take_in {α : Type} {L : List α} {k : Nat} {t x : α} (h : L[k]? = some t) (hx : x ∈ L.take (k + 1)) : x ∈ L.take k ∨ x = t := by
  rw [List.take_add_one, h] at hx
  simpa using hx
theorem first_no {g : Gr} {L : List Tr} {k : Nat} {z : Int} {t : Tr} (h : L[k]? = some t) (hm : mayB g.forbid t = false) (hz : FirstIs g L k z) : FirstIs g L (k + 1) z := by
  rcases hz with ⟨h1, h2⟩ | ⟨i, h1, h2, x, h3, h4, h5⟩
  · refine .inl ⟨h1, fun y hy => ?_⟩
    rcases take_in h hy with hy | rfl
    · exact h2 y hy
    · exact hm
  · refine .inr ⟨i, by omega, h2, x, h3, h4, fun y hy hym => ?_⟩
    rcases take_in h hy with hy | rfl
    · exact h5 y hy hym
    · rw [hm] at hym; cases hym
theorem first_new {g : Gr} {L : List Tr} {k : Nat} {t : Tr} (h : L[k]? = some t) (hm : mayB g.forbid t = true) (hz : FirstIs g L k (-1)) : FirstIs g L (k + 1) k := by
  rcases hz with ⟨h1, h2⟩ | ⟨i, h1, h2, _⟩
  · refine .inr ⟨k, by omega, rfl, t, h, hm, fun y hy hym => ?_⟩
    rcases take_in h hy with hy | rfl
    · rw [h2 y hy] at hym; cases hym
    · exact leT_refl g _
  · omega
theorem first_less {g : Gr} {L : List Tr} {k i : Nat} {t x : Tr} (h : L[k]? = some t) (hm : mayB g.forbid t = true) (h3 : L[i]? = some x) (hl : lessT g t x = true) (h5 : ∀ t ∈ L.take k, mayB g.forbid t = true → leT g x t) : FirstIs g L (k + 1) k := by
  refine .inr ⟨k, by omega, rfl, t, h, hm, fun y hy hym => ?_⟩
  rcases take_in h hy with hy | rfl
  · exact leT_trans (leT_less hl) (h5 y hy hym)
  · exact leT_refl g _
theorem first_same {g : Gr} {L : List Tr} {k i : Nat} {t x : Tr} (h : L[k]? = some t) (hi : i < k) (h3 : L[i]? = some x) (h4 : mayB g.forbid x = true) (hl : lessT g t x = false) (h5 : ∀ t ∈ L.take k, mayB g.forbid t = true → leT g x t) : FirstIs g L (k + 1) i := by
  refine .inr ⟨i, by omega, rfl, x, h3, h4, fun y hy hym => ?_⟩
  rcases take_in h hy with hy | rfl
  · exact h5 y hy hym
  · exact leT_not hl
set_option maxHeartbeats 32000000 in
theorem least_main {g : Gr} {ks : List Int} (hg : GrOk g) (hk : ks.length ≤ 9223372036854775807) : ACalls Try.prog 6 [grA g, .psl ks.length (ints ks)] [] (fun r _ => r = .bool true) := by
  have hgr : great = 4611686018427387903 := rfl
  refine acalls_of_code 126 Try.func6 rfl rfl rfl ?_
  repeat (first | refine acode_seq ?_ | refine acode_region ?_)
  refine aops_boxf rfl rfl rfl rfl rfl rfl rfl ?_
  repeat (first | refine aops_end ?_ | refine aops_p tok rfl rfl rfl rfl ?_ | refine acode_seq ?_ | refine acode_region ?_)
  refine aops_callx Try.func17 rfl rfl rfl rfl (alive24_calls _) rfl rfl rfl ?_
  repeat (first | refine aops_end ?_ | refine aops_p tok rfl rfl rfl rfl ?_ | refine acode_seq ?_ | refine acode_region ?_)
  refine aops_call Try.func10 rfl rfl rfl rfl (check_calls hg _) rfl rfl ?_
  rintro y M1 ⟨⟨a0, rfl⟩, hM1⟩
  rw [hM1]
  repeat (first | refine aops_put rfl ?_ | refine aops_end ?_ | refine aops_p tok rfl rfl rfl rfl ?_ | refine acode_seq ?_ | refine acode_region ?_)
  refine aops_callb Try.func11 rfl rfl rfl rfl (few_calls _) rfl rfl rfl (fun hfew => ?_) (fun hfew => ?_)
  rotate_left
  · repeat' (first | refine aops_end ?_ | refine aops_o rfl rfl rfl ?_ | refine aops_p tok rfl rfl rfl rfl ?_ | refine acode_it rfl ?_ | refine acode_seq ?_ | refine acode_region ?_)
    refine acode_ret ?_
    repeat (refine ret_then ?_)
    exact ⟨_, rfl, resOf_tmp rfl⟩
  by_cases hk8 : ks.length ≤ 8
  rotate_left
  · repeat' (first | refine aops_end ?_ | refine aops_o rfl rfl rfl ?_ | refine aops_pbt tok rfl (by first | omega | decide) rfl rfl rfl ?_ | refine aops_pet tok rfl (by omega) rfl rfl rfl ?_ | refine aops_p tok rfl rfl rfl rfl ?_ | refine acode_it rfl ?_ | refine acode_seq ?_ | refine acode_region ?_)
    try any_goals (exfalso; omega)
    refine acode_ret ?_
    repeat (refine ret_then ?_)
    exact ⟨_, rfl, resOf_tmp rfl⟩
  by_cases hc : chkF g = 0
  rotate_left
  · repeat' (first | refine aops_end ?_ | refine aops_pbf tok rfl (by first | omega | decide) rfl rfl rfl ?_ | refine aops_pet tok rfl (by omega) rfl rfl rfl ?_ | (refine aops_pn tok rfl rfl rfl rfl ?_ ?_ <;> intro e_) | refine aops_p tok rfl rfl rfl rfl ?_ | refine acode_it rfl ?_ | refine acode_if rfl ?_ | refine acode_seq ?_ | refine acode_region ?_ | refine acode_skip ?_ | refine then_n ?_)
    try any_goals (exfalso; omega)
    refine acode_ret ?_
    repeat (refine ret_then ?_)
    exact ⟨_, rfl, resOf_tmp rfl⟩
  obtain ⟨N, hN⟩ : ∃ N : Nat, g.names = N := by
    have hform : (formF g).2 = 0 := by
      unfold chkF at hc
      split at hc
      · rename_i h1; exact absurd hc h1
      · rename_i h1; exact Classical.not_not.1 h1
    exact ⟨_, (form_ok hform).2⟩
  have hbc := fun M => build_calls (lim := 600) (n := ks.length) hg hc hN rfl (by omega) (by omega) M
  rw [show ((600 : Nat) : Int) = 600 from rfl] at hbc
  repeat' (first | refine aops_end ?_ | refine aops_pbf tok rfl (by first | omega | decide) rfl rfl rfl ?_ | (refine aops_pn tok rfl rfl rfl rfl ?_ ?_ <;> intro e_) | refine aops_p tok rfl rfl rfl rfl ?_ | refine acode_it rfl ?_ | refine acode_if rfl ?_ | refine acode_seq ?_ | refine acode_region ?_ | refine acode_skip ?_ | refine then_n ?_)
  try any_goals (exfalso; omega)
  refine aops_call Try.func12 rfl rfl rfl rfl (hbc _) rfl rfl ?_
  rintro y M2 ⟨hR, hM2⟩
  rw [hM2]
  rcases hR with ⟨a1, e1, he1, _, rfl⟩ | ⟨f, hbf, hf, hrg, rfl⟩
  · repeat (first | refine aops_put rfl ?_ | refine aops_p tok rfl rfl rfl rfl ?_)
    refine aops_alloc tok rfl rfl rfl rfl rfl rfl fun xb => ?_
    repeat (first | refine aops_p tok rfl rfl rfl rfl ?_ | refine aops_stn tok rfl rfl rfl rfl rfl rfl rfl rfl rfl ?_)
    refine aops_pubref0 8 rfl ?_
    repeat (first | refine aops_end ?_ | refine aops_p tok rfl rfl rfl rfl ?_ | refine acode_seq ?_ | refine acode_region ?_)
    refine aops_callx Try.func21 rfl rfl rfl rfl (no_of lfoE_no (rtrees_calls lfoE_ok _)) rfl rfl rfl ?_
    repeat' (first | refine aops_end ?_ | refine aops_o rfl rfl rfl ?_ | refine aops_pbt tok rfl (by first | omega | decide) rfl rfl rfl ?_ | (refine aops_pn tok rfl rfl rfl rfl ?_ ?_ <;> intro e_) | refine aops_p tok rfl rfl rfl rfl ?_ | refine acode_it rfl ?_ | refine acode_seq ?_ | refine acode_region ?_)
    try any_goals (exfalso; omega)
    refine acode_ret ?_
    repeat (refine ret_then ?_)
    exact ⟨_, rfl, resOf_tmp rfl⟩
  obtain ⟨F, o, B, hsm⟩ := blt_of2 hc hN hbf
  have hfit := blt_fits hc B hsm
  have hnl := buildF_len hbf
  have hF := blt_form B
  have hw := hF.2 _ (by have := hF.1; omega : f.root.toNat < f.nodes.length)
  have hone := fun x hx y hy h1 h2 => blt_one B hw (x := x) (y := y) hx hy h1 h2
  have hbst := least_best hg hf hrg B hfit (by omega)
  repeat (first | refine aops_put rfl ?_ | refine aops_p tok rfl rfl rfl rfl ?_)
  refine aops_alloc tok rfl rfl rfl rfl rfl rfl fun xb => ?_
  repeat (first | refine aops_p tok rfl rfl rfl rfl ?_ | refine aops_stn tok rfl rfl rfl rfl rfl rfl rfl rfl rfl ?_)
  refine aops_pubref0 8 rfl ?_
  repeat (first | refine aops_end ?_ | refine aops_p tok rfl rfl rfl rfl ?_ | refine acode_seq ?_ | refine acode_region ?_)
  refine aops_callx Try.func21 rfl rfl rfl rfl (yes_of hF (rtrees_calls hf _)) rfl rfl rfl ?_
  have htl := fun h => ltr_len (f := f) hF h
  generalize trees f f.root.toNat = n at *
  generalize decide (n < great) = bd
  by_cases hn : n ≤ 100
  rotate_left
  · repeat' (first | refine aops_end ?_ | refine aops_o rfl rfl rfl ?_ | refine aops_pbt tok rfl (by first | omega | decide) rfl rfl rfl ?_ | refine aops_pbf tok rfl (by first | omega | decide) rfl rfl rfl ?_ | (refine aops_pn tok rfl rfl rfl rfl ?_ ?_ <;> intro e_) | refine aops_p tok rfl rfl rfl rfl ?_ | refine acode_it rfl ?_ | refine acode_if rfl ?_ | refine acode_seq ?_ | refine acode_region ?_ | refine acode_skip ?_ | refine then_n ?_)
    try any_goals (exfalso; omega)
    refine acode_ret ?_
    repeat (refine ret_then ?_)
    exact ⟨_, rfl, resOf_tmp rfl⟩
  obtain ⟨hte, hb⟩ := htl (by omega)
  clear htl
  have hlg := fun M => yes_of hF (largest_calls hf M)
  have hlb := fun (h : big f f.root.toNat ≤ 2000) => And.intro (big_lim hw (by omega)) (big_tr hw (by show _ < 1099511627776; omega))
  generalize big f f.root.toNat = bg at *
  repeat' (first | refine aops_end ?_ | refine aops_o rfl rfl rfl ?_ | refine aops_pbt tok rfl (by first | omega | decide) rfl rfl rfl ?_ | refine aops_pbf tok rfl (by first | omega | decide) rfl rfl rfl ?_ | (refine aops_pn tok rfl rfl rfl rfl ?_ ?_ <;> intro e_) | refine aops_p tok rfl rfl rfl rfl ?_ | refine acode_if rfl ?_ | refine acode_seq ?_ | refine acode_region ?_ | refine acode_skip ?_ | refine then_n ?_)
  try any_goals (exfalso; omega)
  refine aops_callx Try.func14 rfl rfl rfl rfl (hlg _) rfl rfl rfl ?_
  by_cases hbig : bg ≤ 2000
  rotate_left
  · repeat' (first | refine aops_end ?_ | refine aops_pbt tok rfl (by first | omega | decide) rfl rfl rfl ?_ | refine aops_pet tok rfl (by omega) rfl rfl rfl ?_ | refine acode_it rfl ?_ | refine acode_seq ?_ | refine acode_region ?_)
    try any_goals (exfalso; omega)
    refine acode_ret ?_
    repeat (refine ret_then ?_)
    exact ⟨_, rfl, resOf_tmp rfl⟩
  obtain ⟨hlim, hsz⟩ := hlb hbig
  have hbst := hbst hbig
  have hA := fun M => yes_of hF (rall_calls hf hrg (fun _ => hlim) (fun _ => hb) 200 M)
  rw [show cutN 200 = 200 from by decide, List.take_of_length_le (by omega), decide_eq_true (by omega)] at hA
  have hgf : g.forbid.length ≤ 9223372036854775807 := by have := B.fo.fl; omega
  have hgl : g.rules.length ≤ 1000000 := by have := B.fo.rl; omega
  have hdy := dyn_ok hfit.1
  generalize trL f f.root.toNat = L at *
  repeat' (first | refine aops_end ?_ | refine aops_pbf tok rfl (by first | omega | decide) rfl rfl rfl ?_ | refine aops_p tok rfl rfl rfl rfl ?_ | refine acode_if rfl ?_ | refine acode_seq ?_ | refine acode_region ?_ | refine acode_skip ?_ | refine then_n ?_)
  try any_goals (exfalso; omega)
  refine aops_callx Try.func22 rfl rfl rfl rfl (hA _) rfl rfl rfl ?_
  obtain ⟨P, e, hB, hP, hfin⟩ : ∃ (P : A) (e : Int), (∀ M, ACalls Try.prog 18 [grA g, foA f] M (fun x M' => x = .tup [P, .int .i64 e] ∧ M' = M)) ∧ (P = noP ∨ ∃ T, P = trA T) ∧
      ((P = noP ∧ e = 11 ∧ ∀ t ∈ L, mayB g.forbid t = false) ∨ ∃ T, P = trA T ∧ e = 0 ∧ T ∈ L ∧ mayB g.forbid T = true ∧ ∀ t ∈ L, mayB g.forbid t = true → leT g T t) := by
    rcases hbst with ⟨h1, h2⟩ | ⟨T, h1, h2, h3, h4⟩
    · exact ⟨_, _, h1, .inl rfl, .inl ⟨rfl, rfl, h2⟩⟩
    · exact ⟨_, _, h4, .inr ⟨T, rfl⟩, .inr ⟨T, rfl, rfl, h1, h2, h3⟩⟩
  obtain ⟨pa, pb, px, hPe, hpx⟩ : ∃ a b x, P = .agg [.int .i64 a, .int .i64 b, x] ∧ (x = .nils ∨ ∃ n cs, x = .psl n cs) := by
    rcases hP with rfl | ⟨T, rfl⟩
    · exact ⟨_, _, _, rfl, .inl rfl⟩
    · exact ⟨_, _, _, rfl, .inr ⟨_, _, rfl⟩⟩
  subst hPe
  have hthird : ∀ z : Int, FirstIs g L L.length z → (z = -1 ∧ A.agg [.int .i64 pa, .int .i64 pb, px] = noP ∧ e = 11) ∨ ∃ (i : Nat) (T : Tr), z = i ∧ L[i]? = some T ∧ A.agg [.int .i64 pa, .int .i64 pb, px] = trA T ∧ e = 0 := by
    intro z hz
    unfold FirstIs at hz
    rw [List.take_length] at hz
    rcases hz with ⟨h1, h2⟩ | ⟨i, h1, h2, x, h3, h4, h5⟩
    · rcases hfin with ⟨k1, k2, _⟩ | ⟨T, k1, k2, k3, k4, _⟩
      · exact .inl ⟨h1, k1, k2⟩
      · rw [h2 T k3] at k4; cases k4
    · have hxm := List.mem_of_getElem? h3
      rcases hfin with ⟨k1, k2, k3⟩ | ⟨T, k1, k2, k3, k4, k5⟩
      · rw [k3 x hxm] at h4; cases h4
      · have := hone x hxm T k3 (h5 T k3 k4) (k5 x hxm h4)
        subst this
        exact .inr ⟨i, x, h2, h3, k1, k2⟩
  have hst : ∀ x : A, x = .agg [.int .i64 pa, .int .i64 pb, px] → True := fun _ _ => trivial
  repeat (first | refine aops_end ?_ | refine aops_p tok rfl rfl rfl rfl ?_ | refine acode_seq ?_ | refine acode_region ?_)
  refine aops_callx Try.func18 rfl rfl rfl rfl (hB _) rfl rfl rfl ?_
  repeat (refine aops_p tok rfl rfl rfl rfl ?_)
  refine aops_alloc tok rfl rfl rfl rfl rfl rfl fun xp => ?_
  refine aops_stn tok (y := .agg [.int .i64 pa, .int .i64 pb, px]) (cs' := [.int .i64 pa, .int .i64 pb, px]) rfl rfl rfl rfl (by rcases hpx with rfl | ⟨_, _, rfl⟩ <;> rfl) rfl (by rcases hpx with rfl | ⟨_, _, rfl⟩ <;> rfl) rfl rfl ?_
  refine aops_pubref0 15 rfl ?_
  repeat (first | refine aops_end ?_ | refine aops_p tok rfl rfl rfl rfl ?_ | refine acode_seq ?_ | refine acode_region ?_ | refine acode_block ?_)
  refine acode_loopS (ι := Nat × Int) (fun q => [(2, .pp (grC g)), (13, .psl L.length (encs trC L)), (15, .pp [.int .i64 pa, .int .i64 pb, px]), (16, .int .i64 e), (17, .int .i64 q.2), (18, .int .i64 q.1)]) (fun _ => []) (fun q => L.length - q.1) (fun q => q.1 ≤ L.length ∧ FirstIs g L q.1 q.2) (0, -1) ⟨Nat.zero_le _, .inl ⟨rfl, by simp⟩⟩ ⟨rfl, rfl, rfl, rfl, rfl, rfl, trivial⟩ rfl ?_
  rintro ⟨k, z⟩ ⟨hk2, hz⟩
  simp only at hk2 hz ⊢
  by_cases hkl : k < L.length
  · obtain ⟨t, ht⟩ : ∃ t, L[k]? = some t := ⟨L[k], List.getElem?_eq_getElem hkl⟩
    have htm := List.mem_of_getElem? ht
    have hts := hsz t htm
    have hM := fun M => rmay_calls (g := g) hgf t (by omega) M
    have hix : [A.int .i64 t.rule, .int .i64 t.tok, .psl t.kids.length (encs trC t.kids)] <+: (encs trC L).drop (k * 3) := by rw [← trC_eq]; exact tr_at ht
    cases hmb : mayB g.forbid t with
    | false =>
      simp only [hmb] at hM
      have hz' := first_no ht hmb hz
      repeat' (first | refine aops_end ?_ | refine aops_pbt tok rfl (by first | omega | decide) rfl rfl rfl ?_ | refine aops_p tok rfl rfl rfl rfl ?_ | refine acode_it rfl ?_ | refine acode_seq ?_ | refine acode_region ?_ | refine acode_block ?_ | refine acode_skip ?_ | refine then_n ?_)
      try any_goals (exfalso; omega)
      refine acode_drawT 22 mixed (by kernel_rfl) (by kernel_rfl) ?_
      repeat (refine seqT_p tok rfl rfl rfl rfl ?_)
      refine seqT_ix tok [.int .i64 t.rule, .int .i64 t.tok, .psl t.kids.length (encs trC t.kids)] rfl rfl rfl rfl (by omega) (by omega) (by simp) (by simpa using hix) rfl rfl rfl ?_
      repeat (refine seqT_p tok rfl rfl rfl rfl ?_)
      refine seqT_call _ Try.func23 rfl rfl rfl rfl (hM _) rfl rfl rfl ?_
      repeat (first | refine seqT_o rfl rfl rfl ?_ | refine seqT_p tok rfl rfl rfl rfl ?_)
      refine SeqT.done ?_
      repeat' (first | refine aops_end ?_ | refine aops_a tok rfl (by omega) (by omega) rfl rfl rfl ?_ | refine aops_p tok rfl rfl rfl rfl ?_ | refine acode_if rfl ?_ | refine acode_region ?_ | refine acode_skip ?_ | refine then_n ?_ | refine block_n ?_)
      exact ⟨(k + 1, z), ⟨by simp only; omega, hz'⟩, by simp only; omega, ⟨rfl, rfl, rfl, rfl, rfl, rfl, trivial⟩, rfl⟩
    | true =>
      simp only [hmb] at hM
      rcases hz with ⟨h1, h2⟩ | ⟨i, h1, h2, x, h3, h4, h5⟩
      · subst h1
        have hz' := first_new ht hmb (.inl ⟨rfl, h2⟩)
        repeat' (first | refine aops_end ?_ | refine aops_pbt tok rfl (by first | omega | decide) rfl rfl rfl ?_ | refine aops_p tok rfl rfl rfl rfl ?_ | refine acode_it rfl ?_ | refine acode_seq ?_ | refine acode_region ?_ | refine acode_block ?_ | refine acode_skip ?_ | refine then_n ?_)
        try any_goals (exfalso; omega)
        refine acode_drawT 22 mixed (by kernel_rfl) (by kernel_rfl) ?_
        repeat (refine seqT_p tok rfl rfl rfl rfl ?_)
        refine seqT_ix tok [.int .i64 t.rule, .int .i64 t.tok, .psl t.kids.length (encs trC t.kids)] rfl rfl rfl rfl (by omega) (by omega) (by simp) (by simpa using hix) rfl rfl rfl ?_
        repeat (refine seqT_p tok rfl rfl rfl rfl ?_)
        refine seqT_call _ Try.func23 rfl rfl rfl rfl (hM _) rfl rfl rfl ?_
        repeat (first | refine seqT_o rfl rfl rfl ?_ | refine seqT_p tok rfl rfl rfl rfl ?_)
        refine SeqT.done ?_
        repeat' (first | refine aops_end ?_ | refine aops_endb ?_ | refine aops_a tok rfl (by omega) (by omega) rfl rfl rfl ?_ | refine aops_p tok rfl rfl rfl rfl ?_ | refine acode_it rfl ?_ | refine acode_region ?_ | refine then_n ?_)
        exact ⟨(k + 1, k), ⟨by simp only; omega, hz'⟩, by simp only; omega, ⟨rfl, rfl, rfl, rfl, rfl, rfl, trivial⟩, rfl⟩
      · subst h2
        have hxm := List.mem_of_getElem? h3
        have hxs := hsz x hxm
        have hix2 : [A.int .i64 x.rule, .int .i64 x.tok, .psl x.kids.length (encs trC x.kids)] <+: (encs trC L).drop (i * 3) := by rw [← trC_eq]; exact tr_at h3
        have hls := fun M => rless_calls hgl hdy (a := t) (b := x) (by omega) (by omega) M
        cases hlt : lessT g t x with
        | true =>
          simp only [hlt] at hls
          have hz' := first_less ht hmb h3 hlt h5
          repeat' (first | refine aops_end ?_ | refine aops_pbt tok rfl (by first | omega | decide) rfl rfl rfl ?_ | refine aops_p tok rfl rfl rfl rfl ?_ | refine acode_it rfl ?_ | refine acode_seq ?_ | refine acode_region ?_ | refine acode_block ?_ | refine acode_skip ?_ | refine then_n ?_)
          try any_goals (exfalso; omega)
          refine acode_drawT 22 mixed (by kernel_rfl) (by kernel_rfl) ?_
          repeat (refine seqT_p tok rfl rfl rfl rfl ?_)
          refine seqT_ix tok [.int .i64 t.rule, .int .i64 t.tok, .psl t.kids.length (encs trC t.kids)] rfl rfl rfl rfl (by omega) (by omega) (by simp) (by simpa using hix) rfl rfl rfl ?_
          repeat (refine seqT_p tok rfl rfl rfl rfl ?_)
          refine seqT_call _ Try.func23 rfl rfl rfl rfl (hM _) rfl rfl rfl ?_
          repeat' (first | refine seqT_o rfl rfl rfl ?_ | (refine seqT_pd tok rfl rfl rfl rfl ?_ ?_ <;> intro e_) | refine seqT_p tok rfl rfl rfl rfl ?_)
          all_goals try (exfalso; omega)
          refine seqT_ix tok [.int .i64 t.rule, .int .i64 t.tok, .psl t.kids.length (encs trC t.kids)] rfl rfl rfl rfl (by omega) (by omega) (by simp) (by simpa using hix) rfl rfl rfl ?_
          repeat (refine seqT_p tok rfl rfl rfl rfl ?_)
          refine seqT_ix tok [.int .i64 x.rule, .int .i64 x.tok, .psl x.kids.length (encs trC x.kids)] rfl rfl rfl rfl (by omega) (by omega) (by simp) (by simpa using hix2) rfl rfl rfl ?_
          repeat (refine seqT_p tok rfl rfl rfl rfl ?_)
          refine seqT_call _ Try.func24 rfl rfl rfl rfl (hls _) rfl rfl rfl ?_
          repeat (refine seqT_p tok rfl rfl rfl rfl ?_)
          refine SeqT.done ?_
          repeat' (first | refine aops_end ?_ | refine aops_endb ?_ | refine aops_a tok rfl (by omega) (by omega) rfl rfl rfl ?_ | refine aops_p tok rfl rfl rfl rfl ?_ | refine acode_it rfl ?_ | refine acode_region ?_ | refine then_n ?_)
          exact ⟨(k + 1, k), ⟨by simp only; omega, hz'⟩, by simp only; omega, ⟨rfl, rfl, rfl, rfl, rfl, rfl, trivial⟩, rfl⟩
        | false =>
          simp only [hlt] at hls
          have hz' := first_same ht h1 h3 h4 hlt h5
          repeat' (first | refine aops_end ?_ | refine aops_pbt tok rfl (by first | omega | decide) rfl rfl rfl ?_ | refine aops_p tok rfl rfl rfl rfl ?_ | refine acode_it rfl ?_ | refine acode_seq ?_ | refine acode_region ?_ | refine acode_block ?_ | refine acode_skip ?_ | refine then_n ?_)
          try any_goals (exfalso; omega)
          refine acode_drawT 22 mixed (by kernel_rfl) (by kernel_rfl) ?_
          repeat (refine seqT_p tok rfl rfl rfl rfl ?_)
          refine seqT_ix tok [.int .i64 t.rule, .int .i64 t.tok, .psl t.kids.length (encs trC t.kids)] rfl rfl rfl rfl (by omega) (by omega) (by simp) (by simpa using hix) rfl rfl rfl ?_
          repeat (refine seqT_p tok rfl rfl rfl rfl ?_)
          refine seqT_call _ Try.func23 rfl rfl rfl rfl (hM _) rfl rfl rfl ?_
          repeat' (first | refine seqT_o rfl rfl rfl ?_ | (refine seqT_pd tok rfl rfl rfl rfl ?_ ?_ <;> intro e_) | refine seqT_p tok rfl rfl rfl rfl ?_)
          all_goals try (exfalso; omega)
          refine seqT_ix tok [.int .i64 t.rule, .int .i64 t.tok, .psl t.kids.length (encs trC t.kids)] rfl rfl rfl rfl (by omega) (by omega) (by simp) (by simpa using hix) rfl rfl rfl ?_
          repeat (refine seqT_p tok rfl rfl rfl rfl ?_)
          refine seqT_ix tok [.int .i64 x.rule, .int .i64 x.tok, .psl x.kids.length (encs trC x.kids)] rfl rfl rfl rfl (by omega) (by omega) (by simp) (by simpa using hix2) rfl rfl rfl ?_
          repeat (refine seqT_p tok rfl rfl rfl rfl ?_)
          refine seqT_call _ Try.func24 rfl rfl rfl rfl (hls _) rfl rfl rfl ?_
          repeat (refine seqT_p tok rfl rfl rfl rfl ?_)
          refine SeqT.done ?_
          repeat' (first | refine aops_end ?_ | refine aops_a tok rfl (by omega) (by omega) rfl rfl rfl ?_ | refine aops_p tok rfl rfl rfl rfl ?_ | refine acode_if rfl ?_ | refine acode_region ?_ | refine acode_skip ?_ | refine then_n ?_ | refine block_n ?_)
          exact ⟨(k + 1, i), ⟨by simp only; omega, hz'⟩, by simp only; omega, ⟨rfl, rfl, rfl, rfl, rfl, rfl, trivial⟩, rfl⟩
  · obtain rfl : k = L.length := by omega
    have hfin2 := hthird z hz
    repeat' (first | refine aops_end ?_ | refine aops_pbf tok rfl (by first | omega | decide) rfl rfl rfl ?_ | refine aops_p tok rfl rfl rfl rfl ?_ | refine acode_if rfl ?_ | refine acode_seq ?_ | refine acode_region ?_)
    try any_goals (exfalso; omega)
    refine acode_exit ?_
    repeat (first | refine exit_then ?_ | refine exit_here ?_ | refine then_n ?_)
    rcases hfin2 with ⟨rfl, hp, rfl⟩ | ⟨i, T, rfl, hiT, hp, rfl⟩
    · simp only [A.agg.injEq, List.cons.injEq, A.int.injEq, true_and, and_true] at hp
      obtain ⟨rfl, rfl, rfl⟩ := hp
      repeat' (first | refine aops_end ?_ | refine aops_pbt tok rfl (by first | omega | decide) rfl rfl rfl ?_ | refine aops_p tok rfl rfl rfl rfl ?_ | refine acode_it rfl ?_ | refine acode_seq ?_ | refine acode_region ?_)
      try any_goals (exfalso; omega)
      refine aops_callx Try.func20 rfl rfl rfl rfl (num24_calls _) rfl rfl rfl ?_
      repeat' (first | refine aops_pbt tok rfl (by first | omega | decide) rfl rfl rfl ?_ | refine aops_p tok rfl rfl rfl rfl ?_)
      try any_goals (exfalso; omega)
      refine aops_callx Try.func19 rfl rfl rfl rfl (lsameNo _) rfl rfl rfl ?_
      repeat (first | refine aops_end ?_ | refine aops_p tok rfl rfl rfl rfl ?_)
      refine acode_ret ?_
      repeat (refine ret_then ?_)
      exact ⟨_, rfl, resOf_tmp rfl⟩
    · simp only [A.agg.injEq, List.cons.injEq, A.int.injEq, true_and, and_true] at hp
      obtain ⟨rfl, rfl, rfl⟩ := hp
      have hTs := hsz T (List.mem_of_getElem? hiT)
      have hil : i < L.length := (List.getElem?_eq_some_iff.1 hiT).1
      have hix2 : [A.int .i64 T.rule, .int .i64 T.tok, .psl T.kids.length (encs trC T.kids)] <+: (encs trC L).drop (i * 3) := by rw [← trC_eq]; exact tr_at hiT
      have hsT := fun M => sameT_calls T (by omega) T (by omega) M
      rw [eqT_self] at hsT
      repeat' (first | refine aops_end ?_ | refine aops_pbf tok rfl (by first | omega | decide) rfl rfl rfl ?_ | refine aops_p tok rfl rfl rfl rfl ?_ | refine acode_if rfl ?_ | refine acode_seq ?_ | refine acode_region ?_ | refine acode_skip ?_ | refine then_n ?_)
      try any_goals (exfalso; omega)
      refine acode_drawT 11 mixed (by kernel_rfl) (by kernel_rfl) ?_
      repeat (refine seqT_p tok rfl rfl rfl rfl ?_)
      refine seqT_call _ Try.func20 rfl rfl rfl rfl (num24_calls _) rfl rfl rfl ?_
      repeat' (first | refine seqT_o rfl rfl rfl ?_ | (refine seqT_pd tok rfl rfl rfl rfl ?_ ?_ <;> intro e_) | refine seqT_p tok rfl rfl rfl rfl ?_)
      all_goals try (exfalso; omega)
      refine seqT_ix tok [.int .i64 T.rule, .int .i64 T.tok, .psl T.kids.length (encs trC T.kids)] rfl rfl rfl rfl (by omega) (by omega) (by simp) (by simpa using hix2) rfl rfl rfl ?_
      repeat (refine seqT_p tok rfl rfl rfl rfl ?_)
      refine seqT_call _ Try.func19 rfl rfl rfl rfl (hsT _) rfl rfl rfl ?_
      repeat (refine seqT_p tok rfl rfl rfl rfl ?_)
      refine SeqT.done ?_
      repeat (first | refine aops_end ?_ | refine aops_p tok rfl rfl rfl rfl ?_)
      refine acode_ret ?_
      skip
      exact ⟨_, rfl, resOf_tmp rfl⟩
theorem chooseLeast_calls (zs : List A) (h : GoodL T [26, 24] zs) : ACalls Try.prog 6 zs [] (fun r _ => r = .bool true) := by
  obtain ⟨_, _, rfl, ⟨f1, g1⟩, _, _, rfl, ⟨f2, g2⟩, rfl⟩ := h
  obtain ⟨g, rfl, hg⟩ := good_gr g1
  obtain ⟨ks, rfl, hk⟩ := good_ints (e := 3) (k := .i64) rfl rfl g2
  exact least_main hg (Nat.le_trans hk (by decide))
end Go.Proofs.Ytbnhmioijeagiaa.Ab

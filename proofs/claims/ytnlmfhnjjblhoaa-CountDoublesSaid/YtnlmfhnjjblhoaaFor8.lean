/- The reference's depth: the walk; chapter 20's law. No condition. -/
import Derived.Test.YtnlmfhnjjblhoaaFor7
set_option linter.unusedVariables false
set_option linter.unusedSimpArgs false
namespace Go.Proofs.Ytnlmfhnjjblhoaa.Ab
attribute [local irreducible] thenA inBlockA ACode AOps put IntKind.wrap

theorem next_ex {f : Fo} {l : List Nat} {i : Nat} (h : WF f i) (hn : i ∉ l) : ∃ j, j ∉ l ∧ WF f j ∧ ∀ k : Nat, Kid f j k → k ∈ l := by
  induction h with
  | @mk i hi hk hs ih =>
    by_cases hall : ∀ k : Nat, Kid f i k → k ∈ l
    · exact ⟨i, hn, .mk hi hk hs, hall⟩
    · obtain ⟨k, hk'⟩ := Classical.not_forall.1 hall
      obtain ⟨h1, h2⟩ := Classical.not_imp.1 hk'
      exact ih k h1 h2
theorem topo_grow {f : Fo} (hw : ∀ i, i < f.nodes.length → WF f i) : ∀ (d : Nat) (l : List Nat), Topo f l → f.nodes.length - l.length = d → ∃ l, Topo f l ∧ ∀ i, i < f.nodes.length → i ∈ l := by
  intro d
  induction d with
  | zero =>
    intro l ht hd
    refine ⟨l, ht, fun i hi => ?_⟩
    apply Classical.byContradiction
    intro hn
    obtain ⟨j, h1, h2, h3⟩ := next_ex (hw i hi) hn
    have := (Topo.snoc ht h2.lt h1 (fun k hk => h2.small hk) h3).len
    simp at this
    omega
  | succ d ih =>
    intro l ht hd
    by_cases hall : ∀ i, i < f.nodes.length → i ∈ l
    · exact ⟨l, ht, hall⟩
    · obtain ⟨i, hi⟩ := Classical.not_forall.1 hall
      obtain ⟨h1, h2⟩ := Classical.not_imp.1 hi
      obtain ⟨j, h1, h2, h3⟩ := next_ex (hw i h1) h2
      exact ih (l ++ [j]) (Topo.snoc ht h2.lt h1 (fun k hk => h2.small hk) h3) (by simp; omega)
theorem topo_ex {f : Fo} (hw : ∀ i, i < f.nodes.length → WF f i) : ∃ l, Topo f l ∧ ∀ i, i < f.nodes.length → i ∈ l := topo_grow hw _ [] .nil rfl
theorem depth_b {f : Fo} (hw : ∀ i, i < f.nodes.length → WF f i) {i : Nat} (hi : i < f.nodes.length) : 1 ≤ depth f i ∧ depth f i ≤ f.nodes.length := by
  obtain ⟨l, ht, hall⟩ := topo_ex hw
  have := ht.depth i (hall i hi)
  have := ht.len
  omega

/-- What the reference keeps. -/
structure Kd (f : Fo) (ks : List Int) : Prop where
  len : ks.length = f.nodes.length
  val : ∀ (j : Nat) x, ks[j]? = some x → x = 0 ∨ x = depth f j
def DepN (f : Fo) (bs : Nat) (M : List Ob) (i : Nat) : Prop := ∀ ks, Kd f ks →
  ACalls Try.prog 43 [foA f, .own (some bs) f.nodes.length f.nodes.length, .int .i64 i] (⟨some bs, f.nodes.length * 1, ints ks⟩ :: M) (fun r M' => r = .int .i64 (depth f i) ∧ ∃ ks', Kd f ks' ∧ M' = ⟨some bs, f.nodes.length * 1, ints ks'⟩ :: M)

set_option maxHeartbeats 4000000 in
theorem deep_calls {f : Fo} (hf : FoOk f) (hw : ∀ i, i < f.nodes.length → WF f i) (bs : Nat) (M : List Ob) {i : Nat} (hwf : WF f i) : DepN f bs M i := by
  obtain ⟨hf1, hf2⟩ := id hf
  induction hwf with
  | @mk i hi hkn hkw ih =>
  intro ks hks
  have hwf : WF f i := .mk hi hkn hkw
  have hlt : i < ks.length := by rw [hks.len]; exact hi
  obtain ⟨s, hs⟩ : ∃ s, ks[i]? = some s := ⟨ks[i], List.getElem?_eq_getElem hlt⟩
  have hsA : (ints ks)[i * 1]? = some (A.int .i64 s) := by rw [Nat.mul_one]; exact ints_get hs
  obtain ⟨hd1, hd2⟩ := depth_b hw hi
  refine acalls_of_code 74 Try.func43 rfl rfl rfl ?_
  repeat (first | refine aops_put rfl ?_ | refine aops_end ?_ | refine aops_endb ?_ | refine aops_o rfl rfl rfl ?_ | refine aops_max tok rfl rfl rfl rfl rfl rfl ?_ | refine aops_min tok rfl rfl rfl rfl rfl rfl ?_ | refine aops_a tok rfl (by omega) (by omega) rfl rfl rfl ?_ | refine aops_p tok rfl rfl rfl rfl ?_ | refine aops_ixa tok rfl rfl rfl (by decide) rfl rfl rfl rfl ?_ | refine aops_ld tok 0 rfl rfl rfl rfl rfl rfl rfl rfl ?_ | refine aops_ld tok 1 rfl rfl rfl rfl rfl rfl rfl rfl ?_ | refine aops_stn tok rfl rfl rfl rfl rfl rfl rfl rfl rfl ?_ | refine aops_stn1 tok rfl rfl rfl rfl rfl rfl rfl rfl rfl ?_ | refine acode_seq ?_ | refine acode_region ?_ | refine acode_block ?_ | refine acode_skip ?_ | refine then_n ?_ | refine block_n ?_)
  refine aops_boxf rfl rfl rfl rfl rfl rfl rfl ?_
  repeat (first | refine aops_put rfl ?_ | refine aops_end ?_ | refine aops_endb ?_ | refine aops_o rfl rfl rfl ?_ | refine aops_max tok rfl rfl rfl rfl rfl rfl ?_ | refine aops_min tok rfl rfl rfl rfl rfl rfl ?_ | refine aops_a tok rfl (by omega) (by omega) rfl rfl rfl ?_ | refine aops_p tok rfl rfl rfl rfl ?_ | refine aops_ixa tok rfl rfl rfl (by decide) rfl rfl rfl rfl ?_ | refine aops_ld tok 0 rfl rfl rfl rfl rfl rfl rfl rfl ?_ | refine aops_ld tok 1 rfl rfl rfl rfl rfl rfl rfl rfl ?_ | refine aops_stn tok rfl rfl rfl rfl rfl rfl rfl rfl rfl ?_ | refine aops_stn1 tok rfl rfl rfl rfl rfl rfl rfl rfl rfl ?_ | refine acode_seq ?_ | refine acode_region ?_ | refine acode_block ?_ | refine acode_skip ?_ | refine then_n ?_ | refine block_n ?_)
  refine aops_ixo tok rfl rfl rfl rfl (by omega) (by omega) rfl rfl rfl ?_
  refine aops_ld tok 0 (y := .int .i64 s) rfl rfl rfl rfl (by rw [headed_eq]; exact hsA) rfl rfl rfl ?_
  repeat' (first | refine aops_put rfl ?_ | refine aops_end ?_ | refine aops_endb ?_ | refine aops_o rfl rfl rfl ?_ | refine aops_max tok rfl rfl rfl rfl rfl rfl ?_ | refine aops_min tok rfl rfl rfl rfl rfl rfl ?_ | refine aops_a tok rfl (by omega) (by omega) rfl rfl rfl ?_ | (refine aops_pd tok rfl rfl rfl rfl ?_ ?_ <;> intro e_) | (refine aops_pe tok rfl rfl rfl rfl ?_ ?_ <;> intro e_) | (refine aops_pn tok rfl rfl rfl rfl ?_ ?_ <;> intro e_) | refine aops_p tok rfl rfl rfl rfl ?_ | refine acode_it rfl ?_ | refine acode_if rfl ?_ | refine aops_ixa tok rfl rfl rfl (by decide) rfl rfl rfl rfl ?_ | refine aops_ld tok 0 rfl rfl rfl rfl rfl rfl rfl rfl ?_ | refine aops_ld tok 1 rfl rfl rfl rfl rfl rfl rfl rfl ?_ | refine aops_stn tok rfl rfl rfl rfl rfl rfl rfl rfl rfl ?_ | refine aops_stn1 tok rfl rfl rfl rfl rfl rfl rfl rfl rfl ?_ | refine acode_seq ?_ | refine acode_region ?_ | refine acode_block ?_ | refine acode_skip ?_ | refine then_n ?_ | refine block_n ?_)
  · refine aops_ixo tok rfl rfl rfl rfl (by omega) (by omega) rfl rfl rfl ?_
    refine aops_ld tok 0 (y := .int .i64 s) rfl rfl rfl rfl (by rw [headed_eq]; exact hsA) rfl rfl rfl ?_
    repeat (first | refine aops_put rfl ?_ | refine aops_end ?_ | refine aops_endb ?_ | refine aops_o rfl rfl rfl ?_ | refine aops_max tok rfl rfl rfl rfl rfl rfl ?_ | refine aops_min tok rfl rfl rfl rfl rfl rfl ?_ | refine aops_a tok rfl (by omega) (by omega) rfl rfl rfl ?_ | refine aops_p tok rfl rfl rfl rfl ?_ | refine aops_ixa tok rfl rfl rfl (by decide) rfl rfl rfl rfl ?_ | refine aops_ld tok 0 rfl rfl rfl rfl rfl rfl rfl rfl ?_ | refine aops_ld tok 1 rfl rfl rfl rfl rfl rfl rfl rfl ?_ | refine aops_stn tok rfl rfl rfl rfl rfl rfl rfl rfl rfl ?_ | refine aops_stn1 tok rfl rfl rfl rfl rfl rfl rfl rfl rfl ?_ | refine acode_seq ?_ | refine acode_region ?_ | refine acode_block ?_ | refine acode_skip ?_ | refine then_n ?_ | refine block_n ?_)
    have : s = depth f i := by rcases hks.val i s hs with h | h; omega; exact h
    subst this
    refine acode_ret ?_
    repeat (first | refine exit_then ?_ | refine exit_here ?_ | refine exit_out rfl ?_ | refine ret_then ?_ | refine ret_block ?_ | refine then_n ?_ | refine block_n ?_)
    exact ⟨_, ⟨rfl, ks, hks, rfl⟩, resOf_tmp rfl⟩
  · obtain ⟨nd, hnd, hndm, hal⟩ := nodes_at hi
    obtain ⟨hal1, hal2⟩ := hf2 nd hndm
    have heq := depth_eq hwf
    rw [hal] at heq
    refine aops_ix tok (ndC nd) rfl rfl rfl rfl (by omega) (by omega) (by simp [ndC]) (nd_at hnd) rfl rfl rfl ?_
    repeat (first | refine aops_put rfl ?_ | refine aops_end ?_ | refine aops_endb ?_ | refine aops_o rfl rfl rfl ?_ | refine aops_max tok rfl rfl rfl rfl rfl rfl ?_ | refine aops_min tok rfl rfl rfl rfl rfl rfl ?_ | refine aops_a tok rfl (by omega) (by omega) rfl rfl rfl ?_ | refine aops_p tok rfl rfl rfl rfl ?_ | refine aops_ixa tok rfl rfl rfl (by decide) rfl rfl rfl rfl ?_ | refine aops_ld tok 0 rfl rfl rfl rfl rfl rfl rfl rfl ?_ | refine aops_ld tok 1 rfl rfl rfl rfl rfl rfl rfl rfl ?_ | refine aops_stn tok rfl rfl rfl rfl rfl rfl rfl rfl rfl ?_ | refine aops_stn1 tok rfl rfl rfl rfl rfl rfl rfl rfl rfl ?_ | refine acode_seq ?_ | refine acode_region ?_ | refine acode_block ?_ | refine acode_skip ?_ | refine then_n ?_ | refine block_n ?_)
    refine acode_loopS (ι := Nat × List Int) (fun p => [(1, .own (some bs) f.nodes.length f.nodes.length), (2, .int .i64 i), (3, .pp (foC f)), (8, .psl nd.alts.length (encs alC nd.alts)), (7, .int .i64 (depA (depth f) 0 (nd.alts.take p.1))), (9, .int .i64 p.1)]) (fun p => ⟨some bs, f.nodes.length * 1, ints p.2⟩ :: M) (fun p => nd.alts.length - p.1) (fun p => p.1 ≤ nd.alts.length ∧ Kd f p.2) (0, ks) ⟨Nat.zero_le _, hks⟩ ⟨rfl, rfl, rfl, rfl, rfl, rfl, trivial⟩ rfl ?_
    clear hsA hs hlt hks ks
    rintro ⟨q, ks⟩ ⟨hq, hks⟩
    simp only at hq hks ⊢
    repeat (first | refine aops_put rfl ?_ | refine aops_end ?_ | refine aops_endb ?_ | refine aops_o rfl rfl rfl ?_ | refine aops_max tok rfl rfl rfl rfl rfl rfl ?_ | refine aops_min tok rfl rfl rfl rfl rfl rfl ?_ | refine aops_a tok rfl (by omega) (by omega) rfl rfl rfl ?_ | refine aops_p tok rfl rfl rfl rfl ?_ | refine aops_ixa tok rfl rfl rfl (by decide) rfl rfl rfl rfl ?_ | refine aops_ld tok 0 rfl rfl rfl rfl rfl rfl rfl rfl ?_ | refine aops_ld tok 1 rfl rfl rfl rfl rfl rfl rfl rfl ?_ | refine aops_stn tok rfl rfl rfl rfl rfl rfl rfl rfl rfl ?_ | refine aops_stn1 tok rfl rfl rfl rfl rfl rfl rfl rfl rfl ?_ | refine acode_seq ?_ | refine acode_region ?_ | refine acode_block ?_ | refine acode_skip ?_ | refine then_n ?_ | refine block_n ?_)
    refine acode_id rfl (fun e2 => ?_) (fun e2 => ?_)
    · have hql : q < nd.alts.length := by omega
      obtain ⟨a, ha⟩ : ∃ a, nd.alts[q]? = some a := ⟨nd.alts[q], List.getElem?_eq_getElem hql⟩
      have ham := List.mem_of_getElem? ha
      have hkl := hal2 a ham
      have hadd := depA_add (depth f) ha
      repeat (first | refine aops_put rfl ?_ | refine aops_end ?_ | refine aops_endb ?_ | refine aops_o rfl rfl rfl ?_ | refine aops_max tok rfl rfl rfl rfl rfl rfl ?_ | refine aops_min tok rfl rfl rfl rfl rfl rfl ?_ | refine aops_a tok rfl (by omega) (by omega) rfl rfl rfl ?_ | refine aops_p tok rfl rfl rfl rfl ?_ | refine aops_ixa tok rfl rfl rfl (by decide) rfl rfl rfl rfl ?_ | refine aops_ld tok 0 rfl rfl rfl rfl rfl rfl rfl rfl ?_ | refine aops_ld tok 1 rfl rfl rfl rfl rfl rfl rfl rfl ?_ | refine aops_stn tok rfl rfl rfl rfl rfl rfl rfl rfl rfl ?_ | refine aops_stn1 tok rfl rfl rfl rfl rfl rfl rfl rfl rfl ?_ | refine acode_seq ?_ | refine acode_region ?_ | refine acode_block ?_ | refine acode_skip ?_ | refine then_n ?_ | refine block_n ?_)
      refine acode_loopS (ι := Nat × List Int) (fun p => [(1, .own (some bs) f.nodes.length f.nodes.length), (2, .int .i64 i), (3, .pp (foC f)), (8, .psl nd.alts.length (encs alC nd.alts)), (7, .int .i64 (depK (depth f) (depA (depth f) 0 (nd.alts.take q)) (a.kids.take p.1))), (9, .int .i64 q), (10, .int .i64 p.1)]) (fun p => ⟨some bs, f.nodes.length * 1, ints p.2⟩ :: M) (fun p => a.kids.length - p.1) (fun p => p.1 ≤ a.kids.length ∧ Kd f p.2) (0, ks) ⟨Nat.zero_le _, hks⟩ ⟨rfl, rfl, rfl, rfl, rfl, rfl, rfl, trivial⟩ rfl ?_
      clear hks ks
      rintro ⟨r, ks⟩ ⟨hr, hks⟩
      simp only at hr hks ⊢
      repeat (first | refine aops_put rfl ?_ | refine aops_end ?_ | refine aops_endb ?_ | refine aops_o rfl rfl rfl ?_ | refine aops_max tok rfl rfl rfl rfl rfl rfl ?_ | refine aops_min tok rfl rfl rfl rfl rfl rfl ?_ | refine aops_a tok rfl (by omega) (by omega) rfl rfl rfl ?_ | refine aops_p tok rfl rfl rfl rfl ?_ | refine aops_ixa tok rfl rfl rfl (by decide) rfl rfl rfl rfl ?_ | refine aops_ld tok 0 rfl rfl rfl rfl rfl rfl rfl rfl ?_ | refine aops_ld tok 1 rfl rfl rfl rfl rfl rfl rfl rfl ?_ | refine aops_stn tok rfl rfl rfl rfl rfl rfl rfl rfl rfl ?_ | refine aops_stn1 tok rfl rfl rfl rfl rfl rfl rfl rfl rfl ?_ | refine acode_seq ?_ | refine acode_region ?_ | refine acode_block ?_ | refine acode_skip ?_ | refine then_n ?_ | refine block_n ?_)
      refine aops_ix tok (alC a) rfl rfl rfl rfl (by omega) (by omega) (by simp [alC]) (al_at ha) rfl rfl rfl ?_
      repeat (first | refine aops_put rfl ?_ | refine aops_end ?_ | refine aops_endb ?_ | refine aops_o rfl rfl rfl ?_ | refine aops_max tok rfl rfl rfl rfl rfl rfl ?_ | refine aops_min tok rfl rfl rfl rfl rfl rfl ?_ | refine aops_a tok rfl (by omega) (by omega) rfl rfl rfl ?_ | refine aops_p tok rfl rfl rfl rfl ?_ | refine aops_ixa tok rfl rfl rfl (by decide) rfl rfl rfl rfl ?_ | refine aops_ld tok 0 rfl rfl rfl rfl rfl rfl rfl rfl ?_ | refine aops_ld tok 1 rfl rfl rfl rfl rfl rfl rfl rfl ?_ | refine aops_stn tok rfl rfl rfl rfl rfl rfl rfl rfl rfl ?_ | refine aops_stn1 tok rfl rfl rfl rfl rfl rfl rfl rfl rfl ?_ | refine acode_seq ?_ | refine acode_region ?_ | refine acode_block ?_ | refine acode_skip ?_ | refine then_n ?_ | refine block_n ?_)
      refine acode_id rfl (fun e3 => ?_) (fun e3 => ?_)
      · have hrl : r < a.kids.length := by omega
        obtain ⟨k, hk⟩ : ∃ k, a.kids[r]? = some k := ⟨a.kids[r], List.getElem?_eq_getElem hrl⟩
        have hkid : Kid f i k := ⟨a, by rw [hal]; exact ham, List.mem_of_getElem? hk⟩
        have haddk := depK_add (depth f) (depA (depth f) 0 (nd.alts.take q)) hk
        generalize depK (depth f) (depA (depth f) 0 (nd.alts.take q)) (a.kids.take r) = sv at *
        repeat (first | refine aops_put rfl ?_ | refine aops_end ?_ | refine aops_endb ?_ | refine aops_o rfl rfl rfl ?_ | refine aops_max tok rfl rfl rfl rfl rfl rfl ?_ | refine aops_min tok rfl rfl rfl rfl rfl rfl ?_ | refine aops_a tok rfl (by omega) (by omega) rfl rfl rfl ?_ | refine aops_p tok rfl rfl rfl rfl ?_ | refine aops_ixa tok rfl rfl rfl (by decide) rfl rfl rfl rfl ?_ | refine aops_ld tok 0 rfl rfl rfl rfl rfl rfl rfl rfl ?_ | refine aops_ld tok 1 rfl rfl rfl rfl rfl rfl rfl rfl ?_ | refine aops_stn tok rfl rfl rfl rfl rfl rfl rfl rfl rfl ?_ | refine aops_stn1 tok rfl rfl rfl rfl rfl rfl rfl rfl rfl ?_ | refine acode_seq ?_ | refine acode_region ?_ | refine acode_block ?_ | refine acode_skip ?_ | refine then_n ?_ | refine block_n ?_)
        refine aops_ix tok (alC a) rfl rfl rfl rfl (by omega) (by omega) (by simp [alC]) (al_at ha) rfl rfl rfl ?_
        repeat (first | refine aops_put rfl ?_ | refine aops_end ?_ | refine aops_endb ?_ | refine aops_o rfl rfl rfl ?_ | refine aops_max tok rfl rfl rfl rfl rfl rfl ?_ | refine aops_min tok rfl rfl rfl rfl rfl rfl ?_ | refine aops_a tok rfl (by omega) (by omega) rfl rfl rfl ?_ | refine aops_p tok rfl rfl rfl rfl ?_ | refine aops_ixa tok rfl rfl rfl (by decide) rfl rfl rfl rfl ?_ | refine aops_ld tok 0 rfl rfl rfl rfl rfl rfl rfl rfl ?_ | refine aops_ld tok 1 rfl rfl rfl rfl rfl rfl rfl rfl ?_ | refine aops_stn tok rfl rfl rfl rfl rfl rfl rfl rfl rfl ?_ | refine aops_stn1 tok rfl rfl rfl rfl rfl rfl rfl rfl rfl ?_ | refine acode_seq ?_ | refine acode_region ?_ | refine acode_block ?_ | refine acode_skip ?_ | refine then_n ?_ | refine block_n ?_)
        refine aops_ix tok [A.int .i64 k] rfl rfl rfl rfl (by omega) (by omega) (by simp) (ints_at (j := r) (by simpa using hk)) rfl rfl rfl ?_
        repeat' (first | refine aops_put rfl ?_ | refine aops_end ?_ | refine aops_endb ?_ | refine aops_o rfl rfl rfl ?_ | refine aops_max tok rfl rfl rfl rfl rfl rfl ?_ | refine aops_min tok rfl rfl rfl rfl rfl rfl ?_ | refine aops_a tok rfl (by omega) (by omega) rfl rfl rfl ?_ | (refine aops_pd tok rfl rfl rfl rfl ?_ ?_ <;> intro e_) | (refine aops_pe tok rfl rfl rfl rfl ?_ ?_ <;> intro e_) | (refine aops_pn tok rfl rfl rfl rfl ?_ ?_ <;> intro e_) | refine aops_p tok rfl rfl rfl rfl ?_ | refine acode_it rfl ?_ | refine acode_if rfl ?_ | refine aops_ixa tok rfl rfl rfl (by decide) rfl rfl rfl rfl ?_ | refine aops_ld tok 0 rfl rfl rfl rfl rfl rfl rfl rfl ?_ | refine aops_ld tok 1 rfl rfl rfl rfl rfl rfl rfl rfl ?_ | refine aops_stn tok rfl rfl rfl rfl rfl rfl rfl rfl rfl ?_ | refine aops_stn1 tok rfl rfl rfl rfl rfl rfl rfl rfl rfl ?_ | refine acode_seq ?_ | refine acode_region ?_ | refine acode_block ?_ | refine acode_skip ?_ | refine then_n ?_ | refine block_n ?_)
        · obtain ⟨k', rfl⟩ : ∃ k' : Nat, k = k' := ⟨k.toNat, by omega⟩
          rw [if_pos (by omega), Int.toNat_natCast] at haddk
          refine acode_drawP [] 10 [0, 1, 2, 3, 4, 5, 6, 7, 8, 9] [] mixed (by kernel_rfl) (by kernel_rfl) rfl (seqO_T rfl ?_)
          repeat (first | refine seqT_put rfl ?_ | refine seqT_o rfl rfl rfl ?_ | refine seqT_max tok rfl rfl rfl rfl rfl rfl ?_ | refine seqT_min tok rfl rfl rfl rfl rfl rfl ?_ | refine seqT_a tok rfl (by omega) (by omega) rfl rfl rfl ?_ | refine seqT_p tok rfl rfl rfl rfl ?_ | refine seqT_ixa tok rfl rfl rfl (by decide) rfl rfl rfl rfl ?_ | refine seqT_ld tok 0 rfl rfl rfl rfl rfl rfl rfl rfl ?_ | refine seqT_ld tok 1 rfl rfl rfl rfl rfl rfl rfl rfl ?_)
          refine seqT_ix tok (alC a) rfl rfl rfl rfl (by omega) (by omega) (by simp [alC]) (al_at ha) rfl rfl rfl ?_
          repeat (first | refine seqT_put rfl ?_ | refine seqT_o rfl rfl rfl ?_ | refine seqT_max tok rfl rfl rfl rfl rfl rfl ?_ | refine seqT_min tok rfl rfl rfl rfl rfl rfl ?_ | refine seqT_a tok rfl (by omega) (by omega) rfl rfl rfl ?_ | refine seqT_p tok rfl rfl rfl rfl ?_ | refine seqT_ixa tok rfl rfl rfl (by decide) rfl rfl rfl rfl ?_ | refine seqT_ld tok 0 rfl rfl rfl rfl rfl rfl rfl rfl ?_ | refine seqT_ld tok 1 rfl rfl rfl rfl rfl rfl rfl rfl ?_)
          refine seqT_ix tok [A.int .i64 k'] rfl rfl rfl rfl (by omega) (by omega) (by simp) (ints_at (j := r) (by simpa using hk)) rfl rfl rfl ?_
          repeat (first | refine seqT_put rfl ?_ | refine seqT_o rfl rfl rfl ?_ | refine seqT_max tok rfl rfl rfl rfl rfl rfl ?_ | refine seqT_min tok rfl rfl rfl rfl rfl rfl ?_ | refine seqT_a tok rfl (by omega) (by omega) rfl rfl rfl ?_ | refine seqT_p tok rfl rfl rfl rfl ?_ | refine seqT_ixa tok rfl rfl rfl (by decide) rfl rfl rfl rfl ?_ | refine seqT_ld tok 0 rfl rfl rfl rfl rfl rfl rfl rfl ?_ | refine seqT_ld tok 1 rfl rfl rfl rfl rfl rfl rfl rfl ?_)
          refine SeqT.done ?_
          refine aops_call Try.func43 rfl rfl rfl rfl (ih k' hkid ks hks) rfl rfl ?_
          rintro x M' ⟨rfl, ks2, hks2, rfl⟩
          repeat (first | refine aops_put rfl ?_ | refine aops_end ?_ | refine aops_endb ?_ | refine aops_o rfl rfl rfl ?_ | refine aops_max tok rfl rfl rfl rfl rfl rfl ?_ | refine aops_min tok rfl rfl rfl rfl rfl rfl ?_ | refine aops_a tok rfl (by omega) (by omega) rfl rfl rfl ?_ | refine aops_p tok rfl rfl rfl rfl ?_ | refine aops_ixa tok rfl rfl rfl (by decide) rfl rfl rfl rfl ?_ | refine aops_ld tok 0 rfl rfl rfl rfl rfl rfl rfl rfl ?_ | refine aops_ld tok 1 rfl rfl rfl rfl rfl rfl rfl rfl ?_ | refine aops_stn tok rfl rfl rfl rfl rfl rfl rfl rfl rfl ?_ | refine aops_stn1 tok rfl rfl rfl rfl rfl rfl rfl rfl rfl ?_ | refine acode_seq ?_ | refine acode_region ?_ | refine acode_block ?_ | refine acode_skip ?_ | refine then_n ?_ | refine block_n ?_)
          refine acode_id rfl (fun e4 => ?_) (fun e4 => ?_)
          · repeat (first | refine aops_put rfl ?_ | refine aops_end ?_ | refine aops_endb ?_ | refine aops_o rfl rfl rfl ?_ | refine aops_max tok rfl rfl rfl rfl rfl rfl ?_ | refine aops_min tok rfl rfl rfl rfl rfl rfl ?_ | refine aops_a tok rfl (by omega) (by omega) rfl rfl rfl ?_ | refine aops_p tok rfl rfl rfl rfl ?_ | refine aops_ixa tok rfl rfl rfl (by decide) rfl rfl rfl rfl ?_ | refine aops_ld tok 0 rfl rfl rfl rfl rfl rfl rfl rfl ?_ | refine aops_ld tok 1 rfl rfl rfl rfl rfl rfl rfl rfl ?_ | refine aops_stn tok rfl rfl rfl rfl rfl rfl rfl rfl rfl ?_ | refine aops_stn1 tok rfl rfl rfl rfl rfl rfl rfl rfl rfl ?_ | refine acode_seq ?_ | refine acode_region ?_ | refine acode_block ?_ | refine acode_skip ?_ | refine then_n ?_ | refine block_n ?_)
            exact ⟨(r + 1, ks2), ⟨by simp; omega, hks2⟩, by simp; omega, ⟨rfl, rfl, rfl, rfl, by show A.int _ _ = A.int _ _; rw [haddk]; congr 1; omega, rfl, rfl, trivial⟩, rfl⟩
          · repeat (first | refine aops_put rfl ?_ | refine aops_end ?_ | refine aops_endb ?_ | refine aops_o rfl rfl rfl ?_ | refine aops_max tok rfl rfl rfl rfl rfl rfl ?_ | refine aops_min tok rfl rfl rfl rfl rfl rfl ?_ | refine aops_a tok rfl (by omega) (by omega) rfl rfl rfl ?_ | refine aops_p tok rfl rfl rfl rfl ?_ | refine aops_ixa tok rfl rfl rfl (by decide) rfl rfl rfl rfl ?_ | refine aops_ld tok 0 rfl rfl rfl rfl rfl rfl rfl rfl ?_ | refine aops_ld tok 1 rfl rfl rfl rfl rfl rfl rfl rfl ?_ | refine aops_stn tok rfl rfl rfl rfl rfl rfl rfl rfl rfl ?_ | refine aops_stn1 tok rfl rfl rfl rfl rfl rfl rfl rfl rfl ?_ | refine acode_seq ?_ | refine acode_region ?_ | refine acode_block ?_ | refine acode_skip ?_ | refine then_n ?_ | refine block_n ?_)
            exact ⟨(r + 1, ks2), ⟨by simp; omega, hks2⟩, by simp; omega, ⟨rfl, rfl, rfl, rfl, by show A.int _ _ = A.int _ _; rw [haddk]; congr 1; omega, rfl, rfl, trivial⟩, rfl⟩
        · rw [if_neg (by omega)] at haddk
          exact ⟨(r + 1, ks), ⟨by simp; omega, hks⟩, by simp; omega, ⟨rfl, rfl, rfl, rfl, by show A.int _ _ = A.int _ _; rw [haddk], rfl, rfl, trivial⟩, rfl⟩
      · have hge : r = a.kids.length := by omega
        subst hge
        rw [List.take_length, ← hadd]
        refine acode_exit ?_
        repeat (first | refine exit_then ?_ | refine exit_here ?_ | refine exit_out rfl ?_ | refine ret_then ?_ | refine ret_block ?_ | refine then_n ?_ | refine block_n ?_)
        repeat (first | refine aops_put rfl ?_ | refine aops_end ?_ | refine aops_endb ?_ | refine aops_o rfl rfl rfl ?_ | refine aops_max tok rfl rfl rfl rfl rfl rfl ?_ | refine aops_min tok rfl rfl rfl rfl rfl rfl ?_ | refine aops_a tok rfl (by omega) (by omega) rfl rfl rfl ?_ | refine aops_p tok rfl rfl rfl rfl ?_ | refine aops_ixa tok rfl rfl rfl (by decide) rfl rfl rfl rfl ?_ | refine aops_ld tok 0 rfl rfl rfl rfl rfl rfl rfl rfl ?_ | refine aops_ld tok 1 rfl rfl rfl rfl rfl rfl rfl rfl ?_ | refine aops_stn tok rfl rfl rfl rfl rfl rfl rfl rfl rfl ?_ | refine aops_stn1 tok rfl rfl rfl rfl rfl rfl rfl rfl rfl ?_ | refine acode_seq ?_ | refine acode_region ?_ | refine acode_block ?_ | refine acode_skip ?_ | refine then_n ?_ | refine block_n ?_)
        exact ⟨(q + 1, ks), ⟨by simp; omega, hks⟩, by simp; omega, ⟨rfl, rfl, rfl, rfl, rfl, rfl, trivial⟩, rfl⟩
    · have hge : q = nd.alts.length := by omega
      subst hge
      rw [List.take_length]
      have hlt : i < ks.length := by rw [hks.len]; exact hi
      have hb : -9223372036854775808 ≤ depA (depth f) 0 nd.alts + 1 ∧ depA (depth f) 0 nd.alts + 1 ≤ 9223372036854775807 := by rw [← heq]; omega
      generalize depA (depth f) 0 nd.alts = sv at *
      refine acode_exit ?_
      repeat (first | refine exit_then ?_ | refine exit_here ?_ | refine exit_out rfl ?_ | refine ret_then ?_ | refine ret_block ?_ | refine then_n ?_ | refine block_n ?_)
      repeat (first | refine aops_put rfl ?_ | refine aops_end ?_ | refine aops_endb ?_ | refine aops_o rfl rfl rfl ?_ | refine aops_max tok rfl rfl rfl rfl rfl rfl ?_ | refine aops_min tok rfl rfl rfl rfl rfl rfl ?_ | refine aops_a tok rfl (by omega) (by omega) rfl rfl rfl ?_ | refine aops_p tok rfl rfl rfl rfl ?_ | refine aops_ixa tok rfl rfl rfl (by decide) rfl rfl rfl rfl ?_ | refine aops_ld tok 0 rfl rfl rfl rfl rfl rfl rfl rfl ?_ | refine aops_ld tok 1 rfl rfl rfl rfl rfl rfl rfl rfl ?_ | refine aops_stn tok rfl rfl rfl rfl rfl rfl rfl rfl rfl ?_ | refine aops_stn1 tok rfl rfl rfl rfl rfl rfl rfl rfl rfl ?_ | refine acode_seq ?_ | refine acode_region ?_ | refine acode_block ?_ | refine acode_skip ?_ | refine then_n ?_ | refine block_n ?_)
      refine aops_ixo tok rfl rfl rfl rfl (by omega) (by omega) rfl rfl rfl ?_
      refine aops_sto tok (ints (ks.set i (sv + 1))) rfl rfl rfl rfl rfl (by rw [ints_len]; show i * 1 + 1 ≤ _; omega) (ints_set1 hlt _) rfl rfl ?_
      repeat (first | refine aops_put rfl ?_ | refine aops_end ?_ | refine aops_endb ?_ | refine aops_o rfl rfl rfl ?_ | refine aops_max tok rfl rfl rfl rfl rfl rfl ?_ | refine aops_min tok rfl rfl rfl rfl rfl rfl ?_ | refine aops_a tok rfl (by omega) (by omega) rfl rfl rfl ?_ | refine aops_p tok rfl rfl rfl rfl ?_ | refine aops_ixa tok rfl rfl rfl (by decide) rfl rfl rfl rfl ?_ | refine aops_ld tok 0 rfl rfl rfl rfl rfl rfl rfl rfl ?_ | refine aops_ld tok 1 rfl rfl rfl rfl rfl rfl rfl rfl ?_ | refine aops_stn tok rfl rfl rfl rfl rfl rfl rfl rfl rfl ?_ | refine aops_stn1 tok rfl rfl rfl rfl rfl rfl rfl rfl rfl ?_ | refine acode_seq ?_ | refine acode_region ?_ | refine acode_block ?_ | refine acode_skip ?_ | refine then_n ?_ | refine block_n ?_)
      refine acode_ret ?_
      repeat (first | refine exit_then ?_ | refine exit_here ?_ | refine exit_out rfl ?_ | refine ret_then ?_ | refine ret_block ?_ | refine then_n ?_ | refine block_n ?_)
      refine ⟨_, ⟨by rw [heq]; rfl, ks.set i (sv + 1), ⟨by simp [hks.len], fun j x hx => ?_⟩, rfl⟩, resOf_tmp rfl⟩
      rw [List.getElem?_set] at hx
      by_cases h : i = j
      · subst h; rw [if_pos rfl, if_pos hlt] at hx; rw [heq]; exact .inr (Option.some.inj hx).symm
      · rw [if_neg h] at hx; exact hks.val j x hx

theorem rdepth_calls {f : Fo} (hf : FoOk f) (M : List Ob) : ACalls Try.prog 19 [foA f] M (fun r M' => (FForm f ∧ r = .int .i64 (depth f f.root.toNat) ∨ ¬ FForm f ∧ r = .int .i64 0) ∧ M' = M) := by
  obtain ⟨hf1, hf2⟩ := id hf
  refine acalls_of_code 14 Try.func19 rfl rfl rfl ?_
  repeat (first | refine aops_put rfl ?_ | refine aops_end ?_ | refine aops_endb ?_ | refine aops_o rfl rfl rfl ?_ | refine aops_max tok rfl rfl rfl rfl rfl rfl ?_ | refine aops_min tok rfl rfl rfl rfl rfl rfl ?_ | refine aops_a tok rfl (by omega) (by omega) rfl rfl rfl ?_ | refine aops_p tok rfl rfl rfl rfl ?_ | refine aops_ixa tok rfl rfl rfl (by decide) rfl rfl rfl rfl ?_ | refine aops_ld tok 0 rfl rfl rfl rfl rfl rfl rfl rfl ?_ | refine aops_ld tok 1 rfl rfl rfl rfl rfl rfl rfl rfl ?_ | refine aops_stn tok rfl rfl rfl rfl rfl rfl rfl rfl rfl ?_ | refine aops_stn1 tok rfl rfl rfl rfl rfl rfl rfl rfl rfl ?_ | refine acode_seq ?_ | refine acode_region ?_ | refine acode_block ?_ | refine acode_skip ?_ | refine then_n ?_ | refine block_n ?_)
  refine aops_boxf rfl rfl rfl rfl rfl rfl rfl ?_
  repeat (first | refine aops_put rfl ?_ | refine aops_end ?_ | refine aops_endb ?_ | refine aops_o rfl rfl rfl ?_ | refine aops_max tok rfl rfl rfl rfl rfl rfl ?_ | refine aops_min tok rfl rfl rfl rfl rfl rfl ?_ | refine aops_a tok rfl (by omega) (by omega) rfl rfl rfl ?_ | refine aops_p tok rfl rfl rfl rfl ?_ | refine aops_ixa tok rfl rfl rfl (by decide) rfl rfl rfl rfl ?_ | refine aops_ld tok 0 rfl rfl rfl rfl rfl rfl rfl rfl ?_ | refine aops_ld tok 1 rfl rfl rfl rfl rfl rfl rfl rfl ?_ | refine aops_stn tok rfl rfl rfl rfl rfl rfl rfl rfl rfl ?_ | refine aops_stn1 tok rfl rfl rfl rfl rfl rfl rfl rfl rfl ?_ | refine acode_seq ?_ | refine acode_region ?_ | refine acode_block ?_ | refine acode_skip ?_ | refine then_n ?_ | refine block_n ?_)
  refine aops_call Try.func18 rfl rfl rfl rfl (rform_calls hf M) rfl rfl ?_
  rintro x M' ⟨hx, hM⟩
  obtain rfl : M = M' := hM.symm
  rcases hx with ⟨h, rfl⟩ | ⟨h, rfl⟩
  · obtain ⟨⟨h0, h1⟩, hw⟩ := id h
    obtain ⟨r, hr⟩ : ∃ r : Nat, f.root = r := ⟨f.root.toNat, by omega⟩
    have hwr : WF f r := hw r (by omega)
    repeat' (first | refine aops_put rfl ?_ | refine aops_end ?_ | refine aops_endb ?_ | refine aops_o rfl rfl rfl ?_ | refine aops_max tok rfl rfl rfl rfl rfl rfl ?_ | refine aops_min tok rfl rfl rfl rfl rfl rfl ?_ | refine aops_a tok rfl (by omega) (by omega) rfl rfl rfl ?_ | (refine aops_pd tok rfl rfl rfl rfl ?_ ?_ <;> intro e_) | (refine aops_pe tok rfl rfl rfl rfl ?_ ?_ <;> intro e_) | (refine aops_pn tok rfl rfl rfl rfl ?_ ?_ <;> intro e_) | refine aops_p tok rfl rfl rfl rfl ?_ | refine acode_it rfl ?_ | refine acode_if rfl ?_ | refine aops_ixa tok rfl rfl rfl (by decide) rfl rfl rfl rfl ?_ | refine aops_ld tok 0 rfl rfl rfl rfl rfl rfl rfl rfl ?_ | refine aops_ld tok 1 rfl rfl rfl rfl rfl rfl rfl rfl ?_ | refine aops_stn tok rfl rfl rfl rfl rfl rfl rfl rfl rfl ?_ | refine aops_stn1 tok rfl rfl rfl rfl rfl rfl rfl rfl rfl ?_ | refine acode_seq ?_ | refine acode_region ?_ | refine acode_block ?_ | refine acode_skip ?_ | refine then_n ?_ | refine block_n ?_)
    refine acode_drawP [] 7 [0, 1, 2, 3, 5, 6, 4] [6] mixed (by kernel_rfl) (by kernel_rfl) rfl ?_
    repeat (first | refine seqO_put rfl ?_ | refine seqO_o rfl rfl rfl rfl ?_ | refine seqO_a tok rfl rfl (by omega) (by omega) rfl rfl rfl ?_ | refine seqO_p tok rfl rfl rfl rfl rfl ?_ | refine seqO_ld tok 0 rfl rfl rfl rfl rfl (by simp) rfl rfl rfl rfl ?_ | refine seqO_ld tok 1 rfl rfl rfl rfl rfl (by simp) rfl rfl rfl rfl ?_)
    refine seqO_mk tok f.nodes.length rfl rfl rfl rfl rfl rfl rfl (by show _ * 8 ≤ _; omega) (by omega) (by simp) rfl rfl rfl fun bs => ?_
    refine SeqO.done ?_
    refine aops_M (M' := ⟨some bs, f.nodes.length * 1, ints (List.replicate f.nodes.length 0)⟩ :: M) (by rw [← ints_zeros]; rfl) ?_
    have hdc := deep_calls hf hw bs M hwr (List.replicate f.nodes.length 0) ⟨by simp, fun j x hx => .inl (count_zeros _ _ _ hx)⟩
    rw [← hr] at hdc
    refine aops_call Try.func43 rfl rfl rfl rfl hdc rfl rfl ?_
    rintro x M' ⟨rfl, ks2, hks2, rfl⟩
    repeat (first | refine aops_put rfl ?_ | refine aops_end ?_ | refine aops_endb ?_ | refine aops_o rfl rfl rfl ?_ | refine aops_max tok rfl rfl rfl rfl rfl rfl ?_ | refine aops_min tok rfl rfl rfl rfl rfl rfl ?_ | refine aops_a tok rfl (by omega) (by omega) rfl rfl rfl ?_ | refine aops_p tok rfl rfl rfl rfl ?_ | refine aops_ixa tok rfl rfl rfl (by decide) rfl rfl rfl rfl ?_ | refine aops_ld tok 0 rfl rfl rfl rfl rfl rfl rfl rfl ?_ | refine aops_ld tok 1 rfl rfl rfl rfl rfl rfl rfl rfl ?_ | refine aops_stn tok rfl rfl rfl rfl rfl rfl rfl rfl rfl ?_ | refine aops_stn1 tok rfl rfl rfl rfl rfl rfl rfl rfl rfl ?_ | refine acode_seq ?_ | refine acode_region ?_ | refine acode_block ?_ | refine acode_skip ?_ | refine then_n ?_ | refine block_n ?_)
    refine acode_drop0 (acode_ret ?_)
    repeat (first | refine exit_then ?_ | refine exit_here ?_ | refine exit_out rfl ?_ | refine ret_then ?_ | refine ret_block ?_ | refine then_n ?_ | refine block_n ?_)
    exact ⟨.int .i64 (depth f r), ⟨.inl ⟨h, by rw [hr, Int.toNat_natCast]⟩, rfl⟩, resOf_tmp rfl⟩
  · repeat' (first | refine aops_put rfl ?_ | refine aops_end ?_ | refine aops_endb ?_ | refine aops_o rfl rfl rfl ?_ | refine aops_max tok rfl rfl rfl rfl rfl rfl ?_ | refine aops_min tok rfl rfl rfl rfl rfl rfl ?_ | refine aops_a tok rfl (by omega) (by omega) rfl rfl rfl ?_ | (refine aops_pd tok rfl rfl rfl rfl ?_ ?_ <;> intro e_) | (refine aops_pe tok rfl rfl rfl rfl ?_ ?_ <;> intro e_) | (refine aops_pn tok rfl rfl rfl rfl ?_ ?_ <;> intro e_) | refine aops_p tok rfl rfl rfl rfl ?_ | refine acode_it rfl ?_ | refine acode_if rfl ?_ | refine aops_ixa tok rfl rfl rfl (by decide) rfl rfl rfl rfl ?_ | refine aops_ld tok 0 rfl rfl rfl rfl rfl rfl rfl rfl ?_ | refine aops_ld tok 1 rfl rfl rfl rfl rfl rfl rfl rfl ?_ | refine aops_stn tok rfl rfl rfl rfl rfl rfl rfl rfl rfl ?_ | refine aops_stn1 tok rfl rfl rfl rfl rfl rfl rfl rfl rfl ?_ | refine acode_seq ?_ | refine acode_region ?_ | refine acode_block ?_ | refine acode_skip ?_ | refine then_n ?_ | refine block_n ?_)
    refine acode_ret ?_
    repeat (first | refine exit_then ?_ | refine exit_here ?_ | refine exit_out rfl ?_ | refine ret_then ?_ | refine ret_block ?_ | refine then_n ?_ | refine block_n ?_)
    exact ⟨_, ⟨.inr ⟨h, rfl⟩, rfl⟩, resOf_tmp rfl⟩

/-! ### the law -/
theorem good_al {f : Nat} {x : A} (h : Good T f 28 x) : ∃ a, x = .agg (alC a) ∧ a.kids.length ≤ 9223372036854775807 := by
  obtain ⟨f', ys, rfl, y0, _, rfl, g0, y1, _, rfl, g1, rfl⟩ := good_struct (fs := [(0, 3), (1, 26)]) rfl h
  obtain ⟨a, rfl, _⟩ := good_int (k := .i64) rfl g0
  obtain ⟨l, rfl, hl⟩ := good_ints (e := 3) (k := .i64) rfl rfl g1
  exact ⟨⟨a, l⟩, rfl, hl⟩
theorem good_nd {f : Nat} {x : A} (h : Good T f 31 x) : ∃ n, x = .agg (ndC n) ∧ (n.alts.length ≤ 9223372036854775807 ∧ ∀ a ∈ n.alts, a.kids.length ≤ 9223372036854775807) := by
  obtain ⟨f', ys, rfl, y0, _, rfl, g0, y1, _, rfl, g1, y2, _, rfl, g2, y3, _, rfl, g3, rfl⟩ := good_struct (fs := [(0, 3), (1, 3), (2, 3), (3, 29)]) rfl h
  obtain ⟨a, rfl, _⟩ := good_int (k := .i64) rfl g0
  obtain ⟨b, rfl, _⟩ := good_int (k := .i64) rfl g1
  obtain ⟨c, rfl, _⟩ := good_int (k := .i64) rfl g2
  obtain ⟨rs, rfl, h3, h3'⟩ := good_encs (g := fun r => A.agg (alC r)) (c := alC) (p := fun r => r.kids.length ≤ 9223372036854775807) (e := 28) rfl (fun f y hy => good_al hy) (fun _ => rfl) g3
  exact ⟨⟨a, b, c, rs⟩, rfl, h3, h3'⟩
theorem good_fo {f : Nat} {x : A} (h : Good T f 25 x) : ∃ g, x = foA g ∧ (g.nodes.length ≤ 9223372036854775807 ∧ ∀ n ∈ g.nodes, n.alts.length ≤ 9223372036854775807 ∧ ∀ a ∈ n.alts, a.kids.length ≤ 9223372036854775807) := by
  obtain ⟨f', ys, rfl, y0, _, rfl, g0, y1, _, rfl, g1, rfl⟩ := good_struct (fs := [(0, 23), (1, 3)]) rfl h
  obtain ⟨rs, rfl, h3, h3'⟩ := good_encs (g := fun r => A.agg (ndC r)) (c := ndC) (p := fun n => n.alts.length ≤ 9223372036854775807 ∧ ∀ a ∈ n.alts, a.kids.length ≤ 9223372036854775807) (e := 31) rfl (fun f y hy => good_nd hy) (fun _ => rfl) g0
  obtain ⟨a, rfl, _⟩ := good_int (k := .i64) rfl g1
  exact ⟨⟨rs, a⟩, rfl, h3, h3'⟩

end Go.Proofs.Ytnlmfhnjjblhoaa.Ab

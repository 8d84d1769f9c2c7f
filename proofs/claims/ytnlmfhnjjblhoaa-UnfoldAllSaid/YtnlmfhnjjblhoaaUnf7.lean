/- The reference's All and Nth, the lister's Nth: the walk. No condition. -/
import Derived.Test.YtnlmfhnjjblhoaaUnf4
import Derived.Test.YtnlmfhnjjblhoaaUnf5
set_option linter.unusedVariables false
set_option linter.unusedSimpArgs false
namespace Go.Proofs.Ytnlmfhnjjblhoaa.Ab
attribute [local irreducible] thenA inBlockA ACode AOps put IntKind.wrap

def cut (n low high : Int) : Int := if n < low then low else if n > high then high else n
theorem cut_calls {n low high : Int} (M : List Ob) : ACalls Try.prog 47 [.int .i64 n, .int .i64 low, .int .i64 high] M (fun r M' => r = .int .i64 (cut n low high) ∧ M' = M) := by
  refine acalls_of_code 18 Try.func47 rfl rfl rfl ?_
  repeat (first | refine aops_put rfl ?_ | refine aops_end ?_ | refine aops_endb ?_ | refine aops_o rfl rfl rfl ?_ | refine aops_max tok rfl rfl rfl rfl rfl rfl ?_ | refine aops_min tok rfl rfl rfl rfl rfl rfl ?_ | refine aops_a tok rfl (by omega) (by omega) rfl rfl rfl ?_ | refine aops_p tok rfl rfl rfl rfl ?_ | refine aops_ixa tok rfl rfl rfl (by decide) rfl rfl rfl rfl ?_ | refine aops_ld tok 0 rfl rfl rfl rfl rfl rfl rfl rfl ?_ | refine aops_ld tok 1 rfl rfl rfl rfl rfl rfl rfl rfl ?_ | refine aops_stn tok rfl rfl rfl rfl rfl rfl rfl rfl rfl ?_ | refine aops_stn1 tok rfl rfl rfl rfl rfl rfl rfl rfl rfl ?_ | refine acode_seq ?_ | refine acode_region ?_ | refine acode_block ?_ | refine acode_skip ?_ | refine then_n ?_ | refine block_n ?_)
  refine acode_cond rfl (fun e1 => ?_) (fun e1 => ?_)
  · repeat (first | refine aops_put rfl ?_ | refine aops_end ?_ | refine aops_endb ?_ | refine aops_o rfl rfl rfl ?_ | refine aops_max tok rfl rfl rfl rfl rfl rfl ?_ | refine aops_min tok rfl rfl rfl rfl rfl rfl ?_ | refine aops_a tok rfl (by omega) (by omega) rfl rfl rfl ?_ | refine aops_p tok rfl rfl rfl rfl ?_ | refine aops_ixa tok rfl rfl rfl (by decide) rfl rfl rfl rfl ?_ | refine aops_ld tok 0 rfl rfl rfl rfl rfl rfl rfl rfl ?_ | refine aops_ld tok 1 rfl rfl rfl rfl rfl rfl rfl rfl ?_ | refine aops_stn tok rfl rfl rfl rfl rfl rfl rfl rfl rfl ?_ | refine aops_stn1 tok rfl rfl rfl rfl rfl rfl rfl rfl rfl ?_ | refine acode_seq ?_ | refine acode_region ?_ | refine acode_block ?_ | refine acode_skip ?_ | refine then_n ?_ | refine block_n ?_)
    refine acode_ret ?_
    repeat (first | refine exit_then ?_ | refine exit_here ?_ | refine exit_out rfl ?_ | refine ret_then ?_ | refine ret_block ?_ | refine then_n ?_ | refine block_n ?_)
    exact ⟨_, ⟨rfl, rfl⟩, resOf_tmp (by unfold cut; rw [if_pos (by simpa using e1)]; rfl)⟩
  · repeat (first | refine aops_put rfl ?_ | refine aops_end ?_ | refine aops_endb ?_ | refine aops_o rfl rfl rfl ?_ | refine aops_max tok rfl rfl rfl rfl rfl rfl ?_ | refine aops_min tok rfl rfl rfl rfl rfl rfl ?_ | refine aops_a tok rfl (by omega) (by omega) rfl rfl rfl ?_ | refine aops_p tok rfl rfl rfl rfl ?_ | refine aops_ixa tok rfl rfl rfl (by decide) rfl rfl rfl rfl ?_ | refine aops_ld tok 0 rfl rfl rfl rfl rfl rfl rfl rfl ?_ | refine aops_ld tok 1 rfl rfl rfl rfl rfl rfl rfl rfl ?_ | refine aops_stn tok rfl rfl rfl rfl rfl rfl rfl rfl rfl ?_ | refine aops_stn1 tok rfl rfl rfl rfl rfl rfl rfl rfl rfl ?_ | refine acode_seq ?_ | refine acode_region ?_ | refine acode_block ?_ | refine acode_skip ?_ | refine then_n ?_ | refine block_n ?_)
    refine acode_cond rfl (fun e2 => ?_) (fun e2 => ?_)
    · repeat (first | refine aops_put rfl ?_ | refine aops_end ?_ | refine aops_endb ?_ | refine aops_o rfl rfl rfl ?_ | refine aops_max tok rfl rfl rfl rfl rfl rfl ?_ | refine aops_min tok rfl rfl rfl rfl rfl rfl ?_ | refine aops_a tok rfl (by omega) (by omega) rfl rfl rfl ?_ | refine aops_p tok rfl rfl rfl rfl ?_ | refine aops_ixa tok rfl rfl rfl (by decide) rfl rfl rfl rfl ?_ | refine aops_ld tok 0 rfl rfl rfl rfl rfl rfl rfl rfl ?_ | refine aops_ld tok 1 rfl rfl rfl rfl rfl rfl rfl rfl ?_ | refine aops_stn tok rfl rfl rfl rfl rfl rfl rfl rfl rfl ?_ | refine aops_stn1 tok rfl rfl rfl rfl rfl rfl rfl rfl rfl ?_ | refine acode_seq ?_ | refine acode_region ?_ | refine acode_block ?_ | refine acode_skip ?_ | refine then_n ?_ | refine block_n ?_)
      refine acode_ret ?_
      repeat (first | refine exit_then ?_ | refine exit_here ?_ | refine exit_out rfl ?_ | refine ret_then ?_ | refine ret_block ?_ | refine then_n ?_ | refine block_n ?_)
      exact ⟨_, ⟨rfl, rfl⟩, resOf_tmp (by unfold cut; rw [if_neg (by simpa using e1), if_pos (by simpa using e2)]; rfl)⟩
    · repeat (first | refine aops_put rfl ?_ | refine aops_end ?_ | refine aops_endb ?_ | refine aops_o rfl rfl rfl ?_ | refine aops_max tok rfl rfl rfl rfl rfl rfl ?_ | refine aops_min tok rfl rfl rfl rfl rfl rfl ?_ | refine aops_a tok rfl (by omega) (by omega) rfl rfl rfl ?_ | refine aops_p tok rfl rfl rfl rfl ?_ | refine aops_ixa tok rfl rfl rfl (by decide) rfl rfl rfl rfl ?_ | refine aops_ld tok 0 rfl rfl rfl rfl rfl rfl rfl rfl ?_ | refine aops_ld tok 1 rfl rfl rfl rfl rfl rfl rfl rfl ?_ | refine aops_stn tok rfl rfl rfl rfl rfl rfl rfl rfl rfl ?_ | refine aops_stn1 tok rfl rfl rfl rfl rfl rfl rfl rfl rfl ?_ | refine acode_seq ?_ | refine acode_region ?_ | refine acode_block ?_ | refine acode_skip ?_ | refine then_n ?_ | refine block_n ?_)
      refine acode_ret ?_
      repeat (first | refine exit_then ?_ | refine exit_here ?_ | refine exit_out rfl ?_ | refine ret_then ?_ | refine ret_block ?_ | refine then_n ?_ | refine block_n ?_)
      exact ⟨_, ⟨rfl, rfl⟩, resOf_tmp (by unfold cut; rw [if_neg (by simpa using e1), if_neg (by simpa using e2)]; rfl)⟩
theorem cut_eq {a n : Int} (h : 0 ≤ n) : cut a 0 n = max 0 (min a n) := by unfold cut; split <;> (try split) <;> omega
theorem cut_cutN (n : Int) : cut n 0 10000 = ((cutN n : Nat) : Int) := by unfold cut cutN; split <;> (try split) <;> omega
theorem kp_init (f : Fo) : Kp f (List.replicate f.nodes.length (-1)) := ⟨by simp, fun j x hx => by
  rw [List.getElem?_replicate] at hx
  split at hx
  · exact .inl (Option.some.inj hx).symm
  · cases hx⟩

set_option maxHeartbeats 4000000 in
theorem rall_calls {f : Fo} (hf : FoOk f) (hrg : FoRng f) (hlim : FForm f → Lim f f.root.toNat) (hb : FForm f → ((trL f f.root.toNat).length : Int) < great) (n : Int) (M : List Ob) :
    ACalls Try.prog 26 [foA f, .int .i64 n] M (fun r M' => (FForm f ∧ r = .tup [.psl ((trL f f.root.toNat).take (cutN n)).length (encs trC ((trL f f.root.toNat).take (cutN n))), .bool (decide ((trL f f.root.toNat).length ≤ cutN n))] ∨ ¬ FForm f ∧ r = .tup [.nils, .bool false]) ∧ M' = M) := by
  obtain ⟨hf1, hf2⟩ := id hf
  have hgr : great = 4611686018427387903 := rfl
  refine acalls_of_code 44 Try.func26 rfl rfl rfl ?_
  repeat (first | refine aops_put rfl ?_ | refine aops_end ?_ | refine aops_endb ?_ | refine aops_o rfl rfl rfl ?_ | refine aops_max tok rfl rfl rfl rfl rfl rfl ?_ | refine aops_min tok rfl rfl rfl rfl rfl rfl ?_ | refine aops_a tok rfl (by omega) (by omega) rfl rfl rfl ?_ | refine aops_p tok rfl rfl rfl rfl ?_ | refine aops_ixa tok rfl rfl rfl (by decide) rfl rfl rfl rfl ?_ | refine aops_ld tok 0 rfl rfl rfl rfl rfl rfl rfl rfl ?_ | refine aops_ld tok 1 rfl rfl rfl rfl rfl rfl rfl rfl ?_ | refine aops_stn tok rfl rfl rfl rfl rfl rfl rfl rfl rfl ?_ | refine aops_stn1 tok rfl rfl rfl rfl rfl rfl rfl rfl rfl ?_ | refine acode_seq ?_ | refine acode_region ?_ | refine acode_block ?_ | refine acode_skip ?_ | refine then_n ?_ | refine block_n ?_)
  refine aops_boxf rfl rfl rfl rfl rfl rfl rfl ?_
  repeat (first | refine aops_put rfl ?_ | refine aops_end ?_ | refine aops_endb ?_ | refine aops_o rfl rfl rfl ?_ | refine aops_max tok rfl rfl rfl rfl rfl rfl ?_ | refine aops_min tok rfl rfl rfl rfl rfl rfl ?_ | refine aops_a tok rfl (by omega) (by omega) rfl rfl rfl ?_ | refine aops_p tok rfl rfl rfl rfl ?_ | refine aops_ixa tok rfl rfl rfl (by decide) rfl rfl rfl rfl ?_ | refine aops_ld tok 0 rfl rfl rfl rfl rfl rfl rfl rfl ?_ | refine aops_ld tok 1 rfl rfl rfl rfl rfl rfl rfl rfl ?_ | refine aops_stn tok rfl rfl rfl rfl rfl rfl rfl rfl rfl ?_ | refine aops_stn1 tok rfl rfl rfl rfl rfl rfl rfl rfl rfl ?_ | refine acode_seq ?_ | refine acode_region ?_ | refine acode_block ?_ | refine acode_skip ?_ | refine then_n ?_ | refine block_n ?_)
  refine aops_callx Try.func47 rfl rfl rfl rfl (cut_calls _) rfl rfl rfl ?_
  rw [cut_cutN]
  have hcl := cutN_le n
  generalize cutN n = c at *
  repeat (first | refine aops_put rfl ?_ | refine aops_end ?_ | refine aops_endb ?_ | refine aops_o rfl rfl rfl ?_ | refine aops_max tok rfl rfl rfl rfl rfl rfl ?_ | refine aops_min tok rfl rfl rfl rfl rfl rfl ?_ | refine aops_a tok rfl (by omega) (by omega) rfl rfl rfl ?_ | refine aops_p tok rfl rfl rfl rfl ?_ | refine aops_ixa tok rfl rfl rfl (by decide) rfl rfl rfl rfl ?_ | refine aops_ld tok 0 rfl rfl rfl rfl rfl rfl rfl rfl ?_ | refine aops_ld tok 1 rfl rfl rfl rfl rfl rfl rfl rfl ?_ | refine aops_stn tok rfl rfl rfl rfl rfl rfl rfl rfl rfl ?_ | refine aops_stn1 tok rfl rfl rfl rfl rfl rfl rfl rfl rfl ?_ | refine acode_seq ?_ | refine acode_region ?_ | refine acode_block ?_ | refine acode_skip ?_ | refine then_n ?_ | refine block_n ?_)
  refine aops_call Try.func16 rfl rfl rfl rfl (rtrees_calls hf M) rfl rfl ?_
  rintro x M' ⟨hx, hM⟩
  obtain rfl : M = M' := hM.symm
  rcases hx with ⟨h, rfl⟩ | ⟨h, rfl⟩
  · obtain ⟨⟨h0, h1⟩, hw⟩ := id h
    have hrl : f.root.toNat < f.nodes.length := by omega
    have hb := hb h
    have hte := trees_exact (hw _ hrl) hb
    rw [hte]
    rw [show decide (((trL f f.root.toNat).length : Int) < great) = true from decide_eq_true hb]
    have hrt : (f.root.toNat : Int) = f.root := by omega
    have hnc := fun b bs M => rnth_calls hf hrg hw b bs (hw _ hrl) (hlim h) M hb
    unfold RNthC at hnc
    rw [hrt] at hnc
    generalize hts : trL f f.root.toNat = ts at *
    repeat' (first | refine aops_put rfl ?_ | refine aops_end ?_ | refine aops_endb ?_ | refine aops_o rfl rfl rfl ?_ | refine aops_max tok rfl rfl rfl rfl rfl rfl ?_ | refine aops_min tok rfl rfl rfl rfl rfl rfl ?_ | refine aops_a tok rfl (by omega) (by omega) rfl rfl rfl ?_ | (refine aops_pd tok rfl rfl rfl rfl ?_ ?_ <;> intro e_) | (refine aops_pe tok rfl rfl rfl rfl ?_ ?_ <;> intro e_) | (refine aops_pn tok rfl rfl rfl rfl ?_ ?_ <;> intro e_) | refine aops_p tok rfl rfl rfl rfl ?_ | refine acode_it rfl ?_ | refine acode_if rfl ?_ | refine aops_ixa tok rfl rfl rfl (by decide) rfl rfl rfl rfl ?_ | refine aops_ld tok 0 rfl rfl rfl rfl rfl rfl rfl rfl ?_ | refine aops_ld tok 1 rfl rfl rfl rfl rfl rfl rfl rfl ?_ | refine aops_stn tok rfl rfl rfl rfl rfl rfl rfl rfl rfl ?_ | refine aops_stn1 tok rfl rfl rfl rfl rfl rfl rfl rfl rfl ?_ | refine acode_seq ?_ | refine acode_region ?_ | refine acode_block ?_ | refine acode_skip ?_ | refine then_n ?_ | refine block_n ?_)
    refine aops_call Try.func40 rfl rfl rfl rfl (counts_calls hf M) rfl rfl ?_
    rintro x M' ⟨z, rfl, rfl⟩
    generalize z.headD 0 = b
    generalize z.getD 1 0 = bs
    have hks := kp_init f
    generalize List.replicate f.nodes.length (-1 : Int) = ks at *
    refine aops_put rfl ?_
    repeat (first | refine aops_put rfl ?_ | refine aops_o rfl rfl rfl ?_ | refine aops_max tok rfl rfl rfl rfl rfl rfl ?_ | refine aops_min tok rfl rfl rfl rfl rfl rfl ?_ | refine aops_a tok rfl (by omega) (by omega) rfl rfl rfl ?_ | refine aops_p tok rfl rfl rfl rfl ?_ | refine aops_ixa tok rfl rfl rfl (by decide) rfl rfl rfl rfl ?_ | refine aops_ld tok 0 rfl rfl rfl rfl rfl rfl rfl rfl ?_ | refine aops_ld tok 1 rfl rfl rfl rfl rfl rfl rfl rfl ?_ | refine aops_stn tok rfl rfl rfl rfl rfl rfl rfl rfl rfl ?_ | refine aops_stn1 tok rfl rfl rfl rfl rfl rfl rfl rfl rfl ?_)
    refine aops_end ?_
    refine acode_seq ?_
    refine acode_region ?_
    repeat (first | refine aops_put rfl ?_ | refine aops_o rfl rfl rfl ?_ | refine aops_max tok rfl rfl rfl rfl rfl rfl ?_ | refine aops_min tok rfl rfl rfl rfl rfl rfl ?_ | refine aops_a tok rfl (by omega) (by omega) rfl rfl rfl ?_ | refine aops_p tok rfl rfl rfl rfl ?_ | refine aops_ixa tok rfl rfl rfl (by decide) rfl rfl rfl rfl ?_ | refine aops_ld tok 0 rfl rfl rfl rfl rfl rfl rfl rfl ?_ | refine aops_ld tok 1 rfl rfl rfl rfl rfl rfl rfl rfl ?_ | refine aops_stn tok rfl rfl rfl rfl rfl rfl rfl rfl rfl ?_ | refine aops_stn1 tok rfl rfl rfl rfl rfl rfl rfl rfl rfl ?_)
    refine aops_adopt 9 3 rfl ?_
    refine aops_end ?_
    refine acode_perm (wkC f b bs ks (⟨none, 0 * 3, []⟩ :: M)) perm3.symm ?_
    refine acode_seq ?_
    refine acode_seq ?_
    refine acode_region ?_
    repeat (first | refine aops_put rfl ?_ | refine aops_o rfl rfl rfl ?_ | refine aops_max tok rfl rfl rfl rfl rfl rfl ?_ | refine aops_min tok rfl rfl rfl rfl rfl rfl ?_ | refine aops_a tok rfl (by omega) (by omega) rfl rfl rfl ?_ | refine aops_p tok rfl rfl rfl rfl ?_ | refine aops_ixa tok rfl rfl rfl (by decide) rfl rfl rfl rfl ?_ | refine aops_ld tok 0 rfl rfl rfl rfl rfl rfl rfl rfl ?_ | refine aops_ld tok 1 rfl rfl rfl rfl rfl rfl rfl rfl ?_ | refine aops_stn tok rfl rfl rfl rfl rfl rfl rfl rfl rfl ?_ | refine aops_stn1 tok rfl rfl rfl rfl rfl rfl rfl rfl rfl ?_)
    refine aops_end ?_
    refine acode_joinI (ι := Option Nat × Nat × List Int) (fun q => [(1, .int .i64 (c : Nat)), (6, .int .i64 (ts.length : Nat)), (9, .own q.1 (ts.take c).length q.2.1)]) (fun q => wkC f b bs q.2.2 (⟨q.1, q.2.1 * 3, encs trC (ts.take c)⟩ :: M)) (fun _ => True) ?_ ?_
    · refine acode_block ?_
      refine acode_loopS (ι := Nat × Option Nat × Nat × List Int) (fun q => [(1, .int .i64 (c : Nat)), (2, .pp (foC f)), (6, .int .i64 (ts.length : Nat)), (8, .ref b 0), (9, .own q.2.1 q.1 q.2.2.1), (10, .int .i64 q.1)]) (fun q => wkC f b bs q.2.2.2 (⟨q.2.1, q.2.2.1 * 3, encs trC (ts.take q.1)⟩ :: M)) (fun q => min c ts.length - q.1) (fun q => q.1 ≤ min c ts.length ∧ Kp f q.2.2.2) (0, none, 0, ks) ⟨Nat.zero_le _, hks⟩ ⟨rfl, rfl, rfl, rfl, rfl, rfl, trivial⟩ rfl ?_
      clear hks ks
      rintro ⟨q, ob, cap, ks⟩ ⟨hq, hks⟩
      simp only at hq hks ⊢
      have fin : q = min c ts.length → ts.take q = ts.take c ∧ q = (ts.take c).length := fun h => by
        subst h
        exact ⟨by rw [List.take_eq_take_iff]; omega, by rw [List.length_take]⟩
      repeat' (first | refine aops_put rfl ?_ | refine aops_end ?_ | refine aops_endb ?_ | refine aops_o rfl rfl rfl ?_ | refine aops_max tok rfl rfl rfl rfl rfl rfl ?_ | refine aops_min tok rfl rfl rfl rfl rfl rfl ?_ | refine aops_a tok rfl (by omega) (by omega) rfl rfl rfl ?_ | (refine aops_pd tok rfl rfl rfl rfl ?_ ?_ <;> intro e_) | (refine aops_pe tok rfl rfl rfl rfl ?_ ?_ <;> intro e_) | (refine aops_pn tok rfl rfl rfl rfl ?_ ?_ <;> intro e_) | refine aops_p tok rfl rfl rfl rfl ?_ | refine acode_it rfl ?_ | refine acode_if rfl ?_ | refine aops_ixa tok rfl rfl rfl (by decide) rfl rfl rfl rfl ?_ | refine aops_ld tok 0 rfl rfl rfl rfl rfl rfl rfl rfl ?_ | refine aops_ld tok 1 rfl rfl rfl rfl rfl rfl rfl rfl ?_ | refine aops_stn tok rfl rfl rfl rfl rfl rfl rfl rfl rfl ?_ | refine aops_stn1 tok rfl rfl rfl rfl rfl rfl rfl rfl rfl ?_ | refine acode_seq ?_ | refine acode_region ?_ | refine acode_block ?_ | refine acode_skip ?_ | refine then_n ?_ | refine block_n ?_)
      · have hqt : q < ts.length := by omega
        obtain ⟨t, ht⟩ : ∃ t, ts[q]? = some t := ⟨ts[q], List.getElem?_eq_getElem hqt⟩
        refine aops_call Try.func60 rfl rfl rfl rfl (hnc b bs _ ks hks q hqt) rfl rfl ?_
        rintro x M' ⟨t', h1', rfl, ks', hks', rfl⟩
        obtain rfl : t = t' := Option.some.inj (ht.symm.trans h1')
        refine aops_put rfl ?_
        refine aops_litn tok rfl rfl rfl rfl rfl rfl rfl ?_
        refine aops_append tok 2 (m := 1) (ds := trC t) rfl rfl rfl (.inl (by rw [trC_eq]; rfl)) rfl rfl (by rw [encs_len trC_len, List.length_take, Nat.min_eq_left (by omega)]) (by rw [trC_len]; rfl) (by rw [trC_eq]; rfl) rfl (by show _ * 40 ≤ _; omega) (by omega) rfl rfl fun ob' cap' => ?_
        repeat (first | refine aops_put rfl ?_ | refine aops_end ?_ | refine aops_endb ?_ | refine aops_o rfl rfl rfl ?_ | refine aops_max tok rfl rfl rfl rfl rfl rfl ?_ | refine aops_min tok rfl rfl rfl rfl rfl rfl ?_ | refine aops_a tok rfl (by omega) (by omega) rfl rfl rfl ?_ | refine aops_p tok rfl rfl rfl rfl ?_ | refine aops_ixa tok rfl rfl rfl (by decide) rfl rfl rfl rfl ?_ | refine aops_ld tok 0 rfl rfl rfl rfl rfl rfl rfl rfl ?_ | refine aops_ld tok 1 rfl rfl rfl rfl rfl rfl rfl rfl ?_ | refine aops_stn tok rfl rfl rfl rfl rfl rfl rfl rfl rfl ?_ | refine aops_stn1 tok rfl rfl rfl rfl rfl rfl rfl rfl rfl ?_ | refine acode_seq ?_ | refine acode_region ?_ | refine acode_block ?_ | refine acode_skip ?_ | refine then_n ?_ | refine block_n ?_)
        refine ⟨(q + 1, ob', cap', ks'), ⟨by simp only; omega, hks'⟩, by simp only; omega, ⟨rfl, rfl, rfl, rfl, rfl, rfl, trivial⟩, ?_⟩
        simp only [List.take_add_one, ht, encs_app]
        simp [encs]
      · obtain ⟨e1, e2⟩ := fin (by omega)
        refine acode_exit ?_
        repeat (first | refine exit_then ?_ | refine exit_here ?_ | refine exit_out rfl ?_ | refine ret_then ?_ | refine ret_block ?_ | refine then_n ?_ | refine block_n ?_)
        exact ⟨(ob, cap, ks), trivial, ⟨rfl, rfl, by rw [e2]; rfl, trivial⟩, by rw [e1]⟩
      · obtain ⟨e1, e2⟩ := fin (by omega)
        refine acode_exit ?_
        repeat (first | refine exit_then ?_ | refine exit_here ?_ | refine exit_out rfl ?_ | refine ret_then ?_ | refine ret_block ?_ | refine then_n ?_ | refine block_n ?_)
        exact ⟨(ob, cap, ks), trivial, ⟨rfl, rfl, by rw [e2]; rfl, trivial⟩, by rw [e1]⟩
    · rintro ⟨ob, cap, ks'⟩ -
      simp only
      refine acode_perm (⟨ob, cap * 3, encs trC (ts.take c)⟩ :: wkC f b bs ks' M) perm3 ?_
      refine acode_pub0 9 3 rfl rfl (by rw [encs_len trC_len]) rfl ?_
      refine acode_drop0 (acode_drop0 ?_)
      repeat (first | refine aops_put rfl ?_ | refine aops_end ?_ | refine aops_endb ?_ | refine aops_o rfl rfl rfl ?_ | refine aops_max tok rfl rfl rfl rfl rfl rfl ?_ | refine aops_min tok rfl rfl rfl rfl rfl rfl ?_ | refine aops_a tok rfl (by omega) (by omega) rfl rfl rfl ?_ | refine aops_p tok rfl rfl rfl rfl ?_ | refine aops_ixa tok rfl rfl rfl (by decide) rfl rfl rfl rfl ?_ | refine aops_ld tok 0 rfl rfl rfl rfl rfl rfl rfl rfl ?_ | refine aops_ld tok 1 rfl rfl rfl rfl rfl rfl rfl rfl ?_ | refine aops_stn tok rfl rfl rfl rfl rfl rfl rfl rfl rfl ?_ | refine aops_stn1 tok rfl rfl rfl rfl rfl rfl rfl rfl rfl ?_ | refine acode_seq ?_ | refine acode_region ?_ | refine acode_block ?_ | refine acode_skip ?_ | refine then_n ?_ | refine block_n ?_)
      refine acode_ret ?_
      repeat (first | refine exit_then ?_ | refine exit_here ?_ | refine exit_out rfl ?_ | refine ret_then ?_ | refine ret_block ?_ | refine then_n ?_ | refine block_n ?_)
      refine ⟨_, ⟨.inl ⟨h, rfl⟩, rfl⟩, _, _, rfl, resOf_tmp rfl, resOf_tmp ?_⟩
      show A.bool (decide ((ts.length : Int) ≤ c)) = A.bool (decide (ts.length ≤ c))
      rw [decide_eq_decide.2 Int.ofNat_le]
  · repeat' (first | refine aops_put rfl ?_ | refine aops_end ?_ | refine aops_endb ?_ | refine aops_o rfl rfl rfl ?_ | refine aops_max tok rfl rfl rfl rfl rfl rfl ?_ | refine aops_min tok rfl rfl rfl rfl rfl rfl ?_ | refine aops_a tok rfl (by omega) (by omega) rfl rfl rfl ?_ | (refine aops_pd tok rfl rfl rfl rfl ?_ ?_ <;> intro e_) | (refine aops_pe tok rfl rfl rfl rfl ?_ ?_ <;> intro e_) | (refine aops_pn tok rfl rfl rfl rfl ?_ ?_ <;> intro e_) | refine aops_p tok rfl rfl rfl rfl ?_ | refine acode_it rfl ?_ | refine acode_if rfl ?_ | refine aops_ixa tok rfl rfl rfl (by decide) rfl rfl rfl rfl ?_ | refine aops_ld tok 0 rfl rfl rfl rfl rfl rfl rfl rfl ?_ | refine aops_ld tok 1 rfl rfl rfl rfl rfl rfl rfl rfl ?_ | refine aops_stn tok rfl rfl rfl rfl rfl rfl rfl rfl rfl ?_ | refine aops_stn1 tok rfl rfl rfl rfl rfl rfl rfl rfl rfl ?_ | refine acode_seq ?_ | refine acode_region ?_ | refine acode_block ?_ | refine acode_skip ?_ | refine then_n ?_ | refine block_n ?_)
    refine acode_ret ?_
    repeat (first | refine exit_then ?_ | refine exit_here ?_ | refine exit_out rfl ?_ | refine ret_then ?_ | refine ret_block ?_ | refine then_n ?_ | refine block_n ?_)
    exact ⟨_, ⟨.inr ⟨h, rfl⟩, rfl⟩, _, _, rfl, resOf_tmp rfl, resOf_tmp rfl⟩

/-- No tree. -/
abbrev noT : A := .agg [.int .i64 0, .int .i64 0, .nils]
/-- Whether there is a tree of a number. -/
def Here (f : Fo) (n : Int) : Prop := FForm f ∧ 0 ≤ n ∧ n < (trL f f.root.toNat).length
def NthR (f : Fo) (n : Int) (M : List Ob) (r : A) (M' : List Ob) : Prop := ((∃ t, Here f n ∧ (trL f f.root.toNat)[n.toNat]? = some t ∧ r = .tup [trA t, .bool true]) ∨ (¬ Here f n ∧ r = .tup [noT, .bool false])) ∧ M' = M

set_option maxHeartbeats 4000000 in
theorem rnthf_calls {f : Fo} (hf : FoOk f) (hrg : FoRng f) (hlim : FForm f → Lim f f.root.toNat) (hb : FForm f → ((trL f f.root.toNat).length : Int) < great) (n : Int) (M : List Ob) :
    ACalls Try.prog 35 [foA f, .int .i64 n] M (NthR f n M) := by
  obtain ⟨hf1, hf2⟩ := id hf
  have hgr : great = 4611686018427387903 := rfl
  refine acalls_of_code 31 Try.func35 rfl rfl rfl ?_
  repeat (first | refine aops_put rfl ?_ | refine aops_end ?_ | refine aops_endb ?_ | refine aops_o rfl rfl rfl ?_ | refine aops_max tok rfl rfl rfl rfl rfl rfl ?_ | refine aops_min tok rfl rfl rfl rfl rfl rfl ?_ | refine aops_a tok rfl (by omega) (by omega) rfl rfl rfl ?_ | refine aops_p tok rfl rfl rfl rfl ?_ | refine aops_ixa tok rfl rfl rfl (by decide) rfl rfl rfl rfl ?_ | refine aops_ld tok 0 rfl rfl rfl rfl rfl rfl rfl rfl ?_ | refine aops_ld tok 1 rfl rfl rfl rfl rfl rfl rfl rfl ?_ | refine aops_stn tok rfl rfl rfl rfl rfl rfl rfl rfl rfl ?_ | refine aops_stn1 tok rfl rfl rfl rfl rfl rfl rfl rfl rfl ?_ | refine acode_seq ?_ | refine acode_region ?_ | refine acode_block ?_ | refine acode_skip ?_ | refine then_n ?_ | refine block_n ?_)
  refine aops_boxf rfl rfl rfl rfl rfl rfl rfl ?_
  refine aops_alloc tok rfl rfl rfl rfl rfl rfl fun br => ?_
  repeat (first | refine aops_put rfl ?_ | refine aops_end ?_ | refine aops_endb ?_ | refine aops_o rfl rfl rfl ?_ | refine aops_max tok rfl rfl rfl rfl rfl rfl ?_ | refine aops_min tok rfl rfl rfl rfl rfl rfl ?_ | refine aops_a tok rfl (by omega) (by omega) rfl rfl rfl ?_ | refine aops_p tok rfl rfl rfl rfl ?_ | refine aops_ixa tok rfl rfl rfl (by decide) rfl rfl rfl rfl ?_ | refine aops_ld tok 0 rfl rfl rfl rfl rfl rfl rfl rfl ?_ | refine aops_ld tok 1 rfl rfl rfl rfl rfl rfl rfl rfl ?_ | refine aops_stn tok rfl rfl rfl rfl rfl rfl rfl rfl rfl ?_ | refine aops_stn1 tok rfl rfl rfl rfl rfl rfl rfl rfl rfl ?_ | refine acode_seq ?_ | refine acode_region ?_ | refine acode_block ?_ | refine acode_skip ?_ | refine then_n ?_ | refine block_n ?_)
  refine aops_call Try.func16 rfl rfl rfl rfl (rtrees_calls hf _) rfl rfl ?_
  rintro x M' ⟨hx, rfl⟩
  have out : ∀ (E : Env) (Q : Exit → St → Prop), ¬ Here f n → True := fun _ _ _ => trivial
  rcases hx with ⟨h, rfl⟩ | ⟨h, rfl⟩
  · obtain ⟨⟨h0, h1⟩, hw⟩ := id h
    have hrl : f.root.toNat < f.nodes.length := by omega
    have hb := hb h
    have hte := trees_exact (hw _ hrl) hb
    rw [hte]
    rw [show decide (((trL f f.root.toNat).length : Int) < great) = true from decide_eq_true hb]
    have hrt : (f.root.toNat : Int) = f.root := by omega
    have hnc := fun b bs M => rnth_calls hf hrg hw b bs (hw _ hrl) (hlim h) M hb
    unfold RNthC at hnc
    rw [hrt] at hnc
    repeat' (first | refine aops_put rfl ?_ | refine aops_end ?_ | refine aops_endb ?_ | refine aops_o rfl rfl rfl ?_ | refine aops_max tok rfl rfl rfl rfl rfl rfl ?_ | refine aops_min tok rfl rfl rfl rfl rfl rfl ?_ | refine aops_a tok rfl (by omega) (by omega) rfl rfl rfl ?_ | (refine aops_pd tok rfl rfl rfl rfl ?_ ?_ <;> intro e_) | (refine aops_pe tok rfl rfl rfl rfl ?_ ?_ <;> intro e_) | (refine aops_pn tok rfl rfl rfl rfl ?_ ?_ <;> intro e_) | refine aops_p tok rfl rfl rfl rfl ?_ | refine acode_it rfl ?_ | refine acode_if rfl ?_ | refine aops_ixa tok rfl rfl rfl (by decide) rfl rfl rfl rfl ?_ | refine aops_ld tok 0 rfl rfl rfl rfl rfl rfl rfl rfl ?_ | refine aops_ld tok 1 rfl rfl rfl rfl rfl rfl rfl rfl ?_ | refine aops_stn tok rfl rfl rfl rfl rfl rfl rfl rfl rfl ?_ | refine aops_stn1 tok rfl rfl rfl rfl rfl rfl rfl rfl rfl ?_ | refine acode_seq ?_ | refine acode_region ?_ | refine acode_block ?_ | refine acode_skip ?_ | refine then_n ?_ | refine block_n ?_)
    · refine acode_pubref0 4 rfl (acode_ret ?_)
      repeat (first | refine exit_then ?_ | refine exit_here ?_ | refine exit_out rfl ?_ | refine ret_then ?_ | refine ret_block ?_ | refine then_n ?_ | refine block_n ?_)
      exact ⟨_, ⟨.inr ⟨fun hh => by have := hh.2.1; omega, rfl⟩, rfl⟩, _, _, rfl, resOf_pp tok rfl rfl rfl, resOf_tmp rfl⟩
    · refine acode_pubref0 4 rfl (acode_ret ?_)
      repeat (first | refine exit_then ?_ | refine exit_here ?_ | refine exit_out rfl ?_ | refine ret_then ?_ | refine ret_block ?_ | refine then_n ?_ | refine block_n ?_)
      exact ⟨_, ⟨.inr ⟨fun hh => by have := hh.2.2; omega, rfl⟩, rfl⟩, _, _, rfl, resOf_pp tok rfl rfl rfl, resOf_tmp rfl⟩
    · obtain ⟨n', rfl⟩ : ∃ n' : Nat, n = n' := ⟨n.toNat, by omega⟩
      have hn' : n' < (trL f f.root.toNat).length := by omega
      have hks := kp_init f
      refine acode_drawP [] 5 [0, 2, 3, 4, 1] [4] mixed (by kernel_rfl) (by kernel_rfl) rfl ?_
      repeat (first | refine seqO_put rfl ?_ | refine seqO_o rfl rfl rfl rfl ?_ | refine seqO_a tok rfl rfl (by omega) (by omega) rfl rfl rfl ?_ | refine seqO_p tok rfl rfl rfl rfl rfl ?_ | refine seqO_ld tok 0 rfl rfl rfl rfl rfl (by simp) rfl rfl rfl rfl ?_ | refine seqO_ld tok 1 rfl rfl rfl rfl rfl (by simp) rfl rfl rfl rfl ?_)
      refine seqO_callw (fun z => .ref (z.headD 0) 0) (fun z => wkC f (z.headD 0) (z.getD 1 0) (List.replicate f.nodes.length (-1)) (⟨some br, 3, zeroT⟩ :: M)) rfl Try.func40 rfl rfl rfl rfl (counts_calls hf _) (by simp) rfl rfl rfl fun z => ?_
      generalize z.headD 0 = b
      generalize z.getD 1 0 = bs
      generalize List.replicate f.nodes.length (-1 : Int) = ks at *
      repeat (first | refine seqO_put rfl ?_ | refine seqO_o rfl rfl rfl rfl ?_ | refine seqO_a tok rfl rfl (by omega) (by omega) rfl rfl rfl ?_ | refine seqO_p tok rfl rfl rfl rfl rfl ?_ | refine seqO_ld tok 0 rfl rfl rfl rfl rfl (by simp) rfl rfl rfl rfl ?_ | refine seqO_ld tok 1 rfl rfl rfl rfl rfl (by simp) rfl rfl rfl rfl ?_)
      refine SeqO.done ?_
      refine aops_call Try.func60 rfl rfl rfl rfl (hnc b bs _ ks hks n' hn') rfl rfl ?_
      rintro x M' ⟨t, h1', rfl, ks', hks', rfl⟩
      refine aops_put rfl ?_
      refine aops_stk tok 2 [.int .i64 t.rule, .int .i64 t.tok, .psl t.kids.length (encs trC t.kids)] _ rfl rfl rfl rfl rfl rfl (show 0 + 3 ≤ 3 from by decide) rfl rfl rfl rfl ?_
      repeat (first | refine aops_put rfl ?_ | refine aops_o rfl rfl rfl ?_ | refine aops_max tok rfl rfl rfl rfl rfl rfl ?_ | refine aops_min tok rfl rfl rfl rfl rfl rfl ?_ | refine aops_a tok rfl (by omega) (by omega) rfl rfl rfl ?_ | refine aops_p tok rfl rfl rfl rfl ?_ | refine aops_ixa tok rfl rfl rfl (by decide) rfl rfl rfl rfl ?_ | refine aops_ld tok 0 rfl rfl rfl rfl rfl rfl rfl rfl ?_ | refine aops_ld tok 1 rfl rfl rfl rfl rfl rfl rfl rfl ?_ | refine aops_stn tok rfl rfl rfl rfl rfl rfl rfl rfl rfl ?_ | refine aops_stn1 tok rfl rfl rfl rfl rfl rfl rfl rfl rfl ?_)
      refine aops_end ?_
      refine acode_drop0 (acode_drop0 ?_)
      refine acode_pubref0 4 rfl (acode_ret ?_)
      repeat (first | refine exit_then ?_ | refine exit_here ?_ | refine exit_out rfl ?_ | refine ret_then ?_ | refine ret_block ?_ | refine then_n ?_ | refine block_n ?_)
      exact ⟨_, ⟨.inl ⟨t, ⟨h, by omega, by omega⟩, by rw [Int.toNat_natCast]; exact h1', rfl⟩, rfl⟩, _, _, rfl, resOf_pp tok rfl rfl rfl, resOf_tmp rfl⟩
  · repeat' (first | refine aops_put rfl ?_ | refine aops_end ?_ | refine aops_endb ?_ | refine aops_o rfl rfl rfl ?_ | refine aops_max tok rfl rfl rfl rfl rfl rfl ?_ | refine aops_min tok rfl rfl rfl rfl rfl rfl ?_ | refine aops_a tok rfl (by omega) (by omega) rfl rfl rfl ?_ | (refine aops_pd tok rfl rfl rfl rfl ?_ ?_ <;> intro e_) | (refine aops_pe tok rfl rfl rfl rfl ?_ ?_ <;> intro e_) | (refine aops_pn tok rfl rfl rfl rfl ?_ ?_ <;> intro e_) | refine aops_p tok rfl rfl rfl rfl ?_ | refine acode_it rfl ?_ | refine acode_if rfl ?_ | refine aops_ixa tok rfl rfl rfl (by decide) rfl rfl rfl rfl ?_ | refine aops_ld tok 0 rfl rfl rfl rfl rfl rfl rfl rfl ?_ | refine aops_ld tok 1 rfl rfl rfl rfl rfl rfl rfl rfl ?_ | refine aops_stn tok rfl rfl rfl rfl rfl rfl rfl rfl rfl ?_ | refine aops_stn1 tok rfl rfl rfl rfl rfl rfl rfl rfl rfl ?_ | refine acode_seq ?_ | refine acode_region ?_ | refine acode_block ?_ | refine acode_skip ?_ | refine then_n ?_ | refine block_n ?_)
    refine acode_pubref0 4 rfl (acode_ret ?_)
    repeat (first | refine exit_then ?_ | refine exit_here ?_ | refine exit_out rfl ?_ | refine ret_then ?_ | refine ret_block ?_ | refine then_n ?_ | refine block_n ?_)
    exact ⟨_, ⟨.inr ⟨fun hh => h hh.1, rfl⟩, rfl⟩, _, _, rfl, resOf_pp tok rfl rfl rfl, resOf_tmp rfl⟩

set_option maxHeartbeats 4000000 in
theorem unthf_calls {f : Fo} (hf : FoOk f) (hrg : FoRng f) (hlim : FForm f → Lim f f.root.toNat) (hb : FForm f → ((trL f f.root.toNat).length : Int) < great) (n : Int) (M : List Ob) :
    ACalls Try.prog 34 [foA f, .int .i64 n] M (NthR f n M) := by
  obtain ⟨hf1, hf2⟩ := id hf
  have hgr : great = 4611686018427387903 := rfl
  refine acalls_of_code 48 Try.func34 rfl rfl rfl ?_
  repeat (first | refine aops_put rfl ?_ | refine aops_end ?_ | refine aops_endb ?_ | refine aops_o rfl rfl rfl ?_ | refine aops_max tok rfl rfl rfl rfl rfl rfl ?_ | refine aops_min tok rfl rfl rfl rfl rfl rfl ?_ | refine aops_a tok rfl (by omega) (by omega) rfl rfl rfl ?_ | refine aops_p tok rfl rfl rfl rfl ?_ | refine aops_ixa tok rfl rfl rfl (by decide) rfl rfl rfl rfl ?_ | refine aops_ld tok 0 rfl rfl rfl rfl rfl rfl rfl rfl ?_ | refine aops_ld tok 1 rfl rfl rfl rfl rfl rfl rfl rfl ?_ | refine aops_stn tok rfl rfl rfl rfl rfl rfl rfl rfl rfl ?_ | refine aops_stn1 tok rfl rfl rfl rfl rfl rfl rfl rfl rfl ?_ | refine acode_seq ?_ | refine acode_region ?_ | refine acode_block ?_ | refine acode_skip ?_ | refine then_n ?_ | refine block_n ?_)
  refine aops_boxf rfl rfl rfl rfl rfl rfl rfl ?_
  refine aops_alloc tok rfl rfl rfl rfl rfl rfl fun br => ?_
  repeat (first | refine aops_put rfl ?_ | refine aops_end ?_ | refine aops_endb ?_ | refine aops_o rfl rfl rfl ?_ | refine aops_max tok rfl rfl rfl rfl rfl rfl ?_ | refine aops_min tok rfl rfl rfl rfl rfl rfl ?_ | refine aops_a tok rfl (by omega) (by omega) rfl rfl rfl ?_ | refine aops_p tok rfl rfl rfl rfl ?_ | refine aops_ixa tok rfl rfl rfl (by decide) rfl rfl rfl rfl ?_ | refine aops_ld tok 0 rfl rfl rfl rfl rfl rfl rfl rfl ?_ | refine aops_ld tok 1 rfl rfl rfl rfl rfl rfl rfl rfl ?_ | refine aops_stn tok rfl rfl rfl rfl rfl rfl rfl rfl rfl ?_ | refine aops_stn1 tok rfl rfl rfl rfl rfl rfl rfl rfl rfl ?_ | refine acode_seq ?_ | refine acode_region ?_ | refine acode_block ?_ | refine acode_skip ?_ | refine then_n ?_ | refine block_n ?_)
  refine aops_call Try.func62 rfl rfl rfl rfl (ubegin_calls hf _) rfl rfl ?_
  rintro x M' ⟨hx, rfl⟩
  rcases hx with ⟨h, rfl⟩ | ⟨h, rfl⟩
  · obtain ⟨⟨h0, h1⟩, hw⟩ := id h
    have hrl : f.root.toNat < f.nodes.length := by omega
    have hb := hb h
    have hte := trees_exact (hw _ hrl) hb
    have hget := range_get (trees f) hrl
    rw [hte] at hget
    have hrt : (f.root.toNat : Int) = f.root := by omega
    have hnc := fun M => unode_calls hf hrg hw (hw _ hrl) (hlim h) M hb
    unfold NodeC at hnc
    rw [hrt] at hnc
    generalize hts : trL f f.root.toNat = ts at *
    refine aops_put rfl ?_
    repeat (first | refine aops_put rfl ?_ | refine aops_o rfl rfl rfl ?_ | refine aops_max tok rfl rfl rfl rfl rfl rfl ?_ | refine aops_min tok rfl rfl rfl rfl rfl rfl ?_ | refine aops_a tok rfl (by omega) (by omega) rfl rfl rfl ?_ | refine aops_p tok rfl rfl rfl rfl ?_ | refine aops_ixa tok rfl rfl rfl (by decide) rfl rfl rfl rfl ?_ | refine aops_ld tok 0 rfl rfl rfl rfl rfl rfl rfl rfl ?_ | refine aops_ld tok 1 rfl rfl rfl rfl rfl rfl rfl rfl ?_ | refine aops_stn tok rfl rfl rfl rfl rfl rfl rfl rfl rfl ?_ | refine aops_stn1 tok rfl rfl rfl rfl rfl rfl rfl rfl rfl ?_)
    refine aops_end ?_
    refine acode_seq ?_
    refine acode_seq ?_
    refine acode_drawT 29 mixed (by kernel_rfl) (by kernel_rfl) ?_
    repeat (first | refine seqT_put rfl ?_ | refine seqT_o rfl rfl rfl ?_ | refine seqT_max tok rfl rfl rfl rfl rfl rfl ?_ | refine seqT_min tok rfl rfl rfl rfl rfl rfl ?_ | refine seqT_a tok rfl (by omega) (by omega) rfl rfl rfl ?_ | refine seqT_p tok rfl rfl rfl rfl ?_ | refine seqT_ixa tok rfl rfl rfl (by decide) rfl rfl rfl rfl ?_ | refine seqT_ld tok 0 rfl rfl rfl rfl rfl rfl rfl rfl ?_ | refine seqT_ld tok 1 rfl rfl rfl rfl rfl rfl rfl rfl ?_)
    refine seqT_ix tok [A.int .i64 (ts.length : Nat)] rfl rfl rfl rfl h0 h1 (by simp) (ints_at hget) rfl rfl rfl ?_
    repeat (first | refine seqT_put rfl ?_ | refine seqT_o rfl rfl rfl ?_ | refine seqT_max tok rfl rfl rfl rfl rfl rfl ?_ | refine seqT_min tok rfl rfl rfl rfl rfl rfl ?_ | refine seqT_a tok rfl (by omega) (by omega) rfl rfl rfl ?_ | refine seqT_p tok rfl rfl rfl rfl ?_ | refine seqT_ixa tok rfl rfl rfl (by decide) rfl rfl rfl rfl ?_ | refine seqT_ld tok 0 rfl rfl rfl rfl rfl rfl rfl rfl ?_ | refine seqT_ld tok 1 rfl rfl rfl rfl rfl rfl rfl rfl ?_)
    rw [show decide ((ts.length : Int) ≥ 4611686018427387903) = false from decide_eq_false (by omega)]
    repeat' (first | refine seqT_put rfl ?_ | refine seqT_o rfl rfl rfl ?_ | refine seqT_max tok rfl rfl rfl rfl rfl rfl ?_ | refine seqT_min tok rfl rfl rfl rfl rfl rfl ?_ | refine seqT_a tok rfl (by omega) (by omega) rfl rfl rfl ?_ | (refine seqT_pd tok rfl rfl rfl rfl ?_ ?_ <;> intro e_) | (refine seqT_pe tok rfl rfl rfl rfl ?_ ?_ <;> intro e_) | (refine seqT_pn tok rfl rfl rfl rfl ?_ ?_ <;> intro e_) | refine seqT_p tok rfl rfl rfl rfl ?_ | refine seqT_ixa tok rfl rfl rfl (by decide) rfl rfl rfl rfl ?_ | refine seqT_ld tok 0 rfl rfl rfl rfl rfl rfl rfl rfl ?_ | refine seqT_ld tok 1 rfl rfl rfl rfl rfl rfl rfl rfl ?_)
    · refine SeqT.done ?_
      repeat' (first | refine aops_put rfl ?_ | refine aops_end ?_ | refine aops_endb ?_ | refine aops_o rfl rfl rfl ?_ | refine aops_max tok rfl rfl rfl rfl rfl rfl ?_ | refine aops_min tok rfl rfl rfl rfl rfl rfl ?_ | refine aops_a tok rfl (by omega) (by omega) rfl rfl rfl ?_ | (refine aops_pd tok rfl rfl rfl rfl ?_ ?_ <;> intro e_) | (refine aops_pe tok rfl rfl rfl rfl ?_ ?_ <;> intro e_) | (refine aops_pn tok rfl rfl rfl rfl ?_ ?_ <;> intro e_) | refine aops_p tok rfl rfl rfl rfl ?_ | refine acode_it rfl ?_ | refine acode_if rfl ?_ | refine aops_ixa tok rfl rfl rfl (by decide) rfl rfl rfl rfl ?_ | refine aops_ld tok 0 rfl rfl rfl rfl rfl rfl rfl rfl ?_ | refine aops_ld tok 1 rfl rfl rfl rfl rfl rfl rfl rfl ?_ | refine aops_stn tok rfl rfl rfl rfl rfl rfl rfl rfl rfl ?_ | refine aops_stn1 tok rfl rfl rfl rfl rfl rfl rfl rfl rfl ?_ | refine acode_seq ?_ | refine acode_region ?_ | refine acode_block ?_ | refine acode_skip ?_ | refine then_n ?_ | refine block_n ?_)
      refine acode_pubref0 4 rfl (acode_ret ?_)
      repeat (first | refine exit_then ?_ | refine exit_here ?_ | refine exit_out rfl ?_ | refine ret_then ?_ | refine ret_block ?_ | refine then_n ?_ | refine block_n ?_)
      exact ⟨_, ⟨.inr ⟨fun hh => by have := hh.2.1; omega, rfl⟩, rfl⟩, _, _, rfl, resOf_pp tok rfl rfl rfl, resOf_tmp rfl⟩
    · refine seqT_ix tok [A.int .i64 (ts.length : Nat)] rfl rfl rfl rfl h0 h1 (by simp) (ints_at hget) rfl rfl rfl ?_
      repeat' (first | refine seqT_put rfl ?_ | refine seqT_o rfl rfl rfl ?_ | refine seqT_max tok rfl rfl rfl rfl rfl rfl ?_ | refine seqT_min tok rfl rfl rfl rfl rfl rfl ?_ | refine seqT_a tok rfl (by omega) (by omega) rfl rfl rfl ?_ | (refine seqT_pd tok rfl rfl rfl rfl ?_ ?_ <;> intro e_) | (refine seqT_pe tok rfl rfl rfl rfl ?_ ?_ <;> intro e_) | (refine seqT_pn tok rfl rfl rfl rfl ?_ ?_ <;> intro e_) | refine seqT_p tok rfl rfl rfl rfl ?_ | refine seqT_ixa tok rfl rfl rfl (by decide) rfl rfl rfl rfl ?_ | refine seqT_ld tok 0 rfl rfl rfl rfl rfl rfl rfl rfl ?_ | refine seqT_ld tok 1 rfl rfl rfl rfl rfl rfl rfl rfl ?_)
      · refine SeqT.done ?_
        repeat' (first | refine aops_put rfl ?_ | refine aops_end ?_ | refine aops_endb ?_ | refine aops_o rfl rfl rfl ?_ | refine aops_max tok rfl rfl rfl rfl rfl rfl ?_ | refine aops_min tok rfl rfl rfl rfl rfl rfl ?_ | refine aops_a tok rfl (by omega) (by omega) rfl rfl rfl ?_ | (refine aops_pd tok rfl rfl rfl rfl ?_ ?_ <;> intro e_) | (refine aops_pe tok rfl rfl rfl rfl ?_ ?_ <;> intro e_) | (refine aops_pn tok rfl rfl rfl rfl ?_ ?_ <;> intro e_) | refine aops_p tok rfl rfl rfl rfl ?_ | refine acode_it rfl ?_ | refine acode_if rfl ?_ | refine aops_ixa tok rfl rfl rfl (by decide) rfl rfl rfl rfl ?_ | refine aops_ld tok 0 rfl rfl rfl rfl rfl rfl rfl rfl ?_ | refine aops_ld tok 1 rfl rfl rfl rfl rfl rfl rfl rfl ?_ | refine aops_stn tok rfl rfl rfl rfl rfl rfl rfl rfl rfl ?_ | refine aops_stn1 tok rfl rfl rfl rfl rfl rfl rfl rfl rfl ?_ | refine acode_seq ?_ | refine acode_region ?_ | refine acode_block ?_ | refine acode_skip ?_ | refine then_n ?_ | refine block_n ?_)
        refine acode_pubref0 4 rfl (acode_ret ?_)
        repeat (first | refine exit_then ?_ | refine exit_here ?_ | refine exit_out rfl ?_ | refine ret_then ?_ | refine ret_block ?_ | refine then_n ?_ | refine block_n ?_)
        exact ⟨_, ⟨.inr ⟨fun hh => by have := hh.2.2; rw [hts] at this; omega, rfl⟩, rfl⟩, _, _, rfl, resOf_pp tok rfl rfl rfl, resOf_tmp rfl⟩
      · obtain ⟨n', rfl⟩ : ∃ n' : Nat, n = n' := ⟨n.toNat, by omega⟩
        have hn' : n' < ts.length := by omega
        refine SeqT.done ?_
        repeat' (first | refine aops_put rfl ?_ | refine aops_end ?_ | refine aops_endb ?_ | refine aops_o rfl rfl rfl ?_ | refine aops_max tok rfl rfl rfl rfl rfl rfl ?_ | refine aops_min tok rfl rfl rfl rfl rfl rfl ?_ | refine aops_a tok rfl (by omega) (by omega) rfl rfl rfl ?_ | (refine aops_pd tok rfl rfl rfl rfl ?_ ?_ <;> intro e_) | (refine aops_pe tok rfl rfl rfl rfl ?_ ?_ <;> intro e_) | (refine aops_pn tok rfl rfl rfl rfl ?_ ?_ <;> intro e_) | refine aops_p tok rfl rfl rfl rfl ?_ | refine acode_it rfl ?_ | refine acode_if rfl ?_ | refine aops_ixa tok rfl rfl rfl (by decide) rfl rfl rfl rfl ?_ | refine aops_ld tok 0 rfl rfl rfl rfl rfl rfl rfl rfl ?_ | refine aops_ld tok 1 rfl rfl rfl rfl rfl rfl rfl rfl ?_ | refine aops_stn tok rfl rfl rfl rfl rfl rfl rfl rfl rfl ?_ | refine aops_stn1 tok rfl rfl rfl rfl rfl rfl rfl rfl rfl ?_ | refine acode_seq ?_ | refine acode_region ?_ | refine acode_block ?_ | refine acode_skip ?_ | refine then_n ?_ | refine block_n ?_)
        refine aops_call Try.func63 rfl rfl rfl rfl (hnc _ n' hn') rfl rfl ?_
        rintro x M' ⟨t, h1', rfl, rfl⟩
        refine aops_put rfl ?_
        refine aops_stn tok rfl rfl rfl rfl rfl rfl rfl rfl rfl ?_
        repeat (first | refine aops_put rfl ?_ | refine aops_o rfl rfl rfl ?_ | refine aops_max tok rfl rfl rfl rfl rfl rfl ?_ | refine aops_min tok rfl rfl rfl rfl rfl rfl ?_ | refine aops_a tok rfl (by omega) (by omega) rfl rfl rfl ?_ | refine aops_p tok rfl rfl rfl rfl ?_ | refine aops_ixa tok rfl rfl rfl (by decide) rfl rfl rfl rfl ?_ | refine aops_ld tok 0 rfl rfl rfl rfl rfl rfl rfl rfl ?_ | refine aops_ld tok 1 rfl rfl rfl rfl rfl rfl rfl rfl ?_ | refine aops_stn tok rfl rfl rfl rfl rfl rfl rfl rfl rfl ?_ | refine aops_stn1 tok rfl rfl rfl rfl rfl rfl rfl rfl rfl ?_)
        refine aops_end ?_
        refine acode_pubref0 4 rfl (acode_ret ?_)
        repeat (first | refine exit_then ?_ | refine exit_here ?_ | refine exit_out rfl ?_ | refine ret_then ?_ | refine ret_block ?_ | refine then_n ?_ | refine block_n ?_)
        exact ⟨_, ⟨.inl ⟨t, ⟨h, by omega, by rw [hts]; omega⟩, by rw [hts, Int.toNat_natCast]; exact h1', rfl⟩, rfl⟩, _, _, rfl, resOf_pp tok rfl rfl rfl, resOf_tmp rfl⟩
  · refine aops_put rfl ?_
    repeat (first | refine aops_put rfl ?_ | refine aops_o rfl rfl rfl ?_ | refine aops_max tok rfl rfl rfl rfl rfl rfl ?_ | refine aops_min tok rfl rfl rfl rfl rfl rfl ?_ | refine aops_a tok rfl (by omega) (by omega) rfl rfl rfl ?_ | refine aops_p tok rfl rfl rfl rfl ?_ | refine aops_ixa tok rfl rfl rfl (by decide) rfl rfl rfl rfl ?_ | refine aops_ld tok 0 rfl rfl rfl rfl rfl rfl rfl rfl ?_ | refine aops_ld tok 1 rfl rfl rfl rfl rfl rfl rfl rfl ?_ | refine aops_stn tok rfl rfl rfl rfl rfl rfl rfl rfl rfl ?_ | refine aops_stn1 tok rfl rfl rfl rfl rfl rfl rfl rfl rfl ?_)
    refine aops_end ?_
    refine acode_seq ?_
    refine acode_seq ?_
    refine acode_drawT 29 mixed (by kernel_rfl) (by kernel_rfl) ?_
    repeat (first | refine seqT_put rfl ?_ | refine seqT_o rfl rfl rfl ?_ | refine seqT_max tok rfl rfl rfl rfl rfl rfl ?_ | refine seqT_min tok rfl rfl rfl rfl rfl rfl ?_ | refine seqT_a tok rfl (by omega) (by omega) rfl rfl rfl ?_ | refine seqT_p tok rfl rfl rfl rfl ?_ | refine seqT_ixa tok rfl rfl rfl (by decide) rfl rfl rfl rfl ?_ | refine seqT_ld tok 0 rfl rfl rfl rfl rfl rfl rfl rfl ?_ | refine seqT_ld tok 1 rfl rfl rfl rfl rfl rfl rfl rfl ?_)
    refine SeqT.done ?_
    repeat' (first | refine aops_put rfl ?_ | refine aops_end ?_ | refine aops_endb ?_ | refine aops_o rfl rfl rfl ?_ | refine aops_max tok rfl rfl rfl rfl rfl rfl ?_ | refine aops_min tok rfl rfl rfl rfl rfl rfl ?_ | refine aops_a tok rfl (by omega) (by omega) rfl rfl rfl ?_ | (refine aops_pd tok rfl rfl rfl rfl ?_ ?_ <;> intro e_) | (refine aops_pe tok rfl rfl rfl rfl ?_ ?_ <;> intro e_) | (refine aops_pn tok rfl rfl rfl rfl ?_ ?_ <;> intro e_) | refine aops_p tok rfl rfl rfl rfl ?_ | refine acode_it rfl ?_ | refine acode_if rfl ?_ | refine aops_ixa tok rfl rfl rfl (by decide) rfl rfl rfl rfl ?_ | refine aops_ld tok 0 rfl rfl rfl rfl rfl rfl rfl rfl ?_ | refine aops_ld tok 1 rfl rfl rfl rfl rfl rfl rfl rfl ?_ | refine aops_stn tok rfl rfl rfl rfl rfl rfl rfl rfl rfl ?_ | refine aops_stn1 tok rfl rfl rfl rfl rfl rfl rfl rfl rfl ?_ | refine acode_seq ?_ | refine acode_region ?_ | refine acode_block ?_ | refine acode_skip ?_ | refine then_n ?_ | refine block_n ?_)
    refine acode_pubref0 4 rfl (acode_ret ?_)
    repeat (first | refine exit_then ?_ | refine exit_here ?_ | refine exit_out rfl ?_ | refine ret_then ?_ | refine ret_block ?_ | refine then_n ?_ | refine block_n ?_)
    exact ⟨_, ⟨.inr ⟨fun hh => h hh.1, rfl⟩, rfl⟩, _, _, rfl, resOf_pp tok rfl rfl rfl, resOf_tmp rfl⟩
end Go.Proofs.Ytnlmfhnjjblhoaa.Ab

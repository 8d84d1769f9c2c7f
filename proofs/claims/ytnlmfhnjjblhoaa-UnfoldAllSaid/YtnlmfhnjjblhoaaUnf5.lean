/- The reference's n-th tree: the walk. No condition. -/
import Derived.Test.YtnlmfhnjjblhoaaUnf2
import Derived.Test.YtnlmfhnjjblhoaaFor7
import Derived.Test.YtnlmfhnjjblhoaaAb9
set_option linter.unusedVariables false
set_option linter.unusedSimpArgs false
namespace Go.Proofs.Ytnlmfhnjjblhoaa.Ab
attribute [local irreducible] thenA inBlockA ACode AOps put IntKind.wrap

theorem plen_drop_le {α : Type} : ∀ {ls : List (List α)} (j : Nat), 0 < plen ls → 0 < plen (ls.drop j) ∧ plen (ls.drop j) ≤ plen ls
  | ls, 0, h => by simpa using h
  | [], j + 1, h => by simp [plen]
  | l :: ls, j + 1, h => by
    simp only [plen, List.drop_succ_cons] at h ⊢
    have h1 : 0 < l.length := Nat.pos_of_mul_pos_right h
    have h2 : 0 < plen ls := Nat.pos_of_mul_pos_left h
    obtain ⟨a, b⟩ := plen_drop_le (ls := ls) j h2
    exact ⟨a, Nat.le_trans b (Nat.le_mul_of_pos_left _ h1)⟩
/-- What is left of a number ahead of some digits. -/
def rdig {α : Type} (ls : List (List α)) (n j : Nat) : Nat := n % plen (ls.drop j)
theorem rdig_zero {α : Type} {ls : List (List α)} {n : Nat} (h : n < plen ls) : rdig ls n 0 = n := by unfold rdig; rw [List.drop_zero, Nat.mod_eq_of_lt h]
theorem rdig_step {α : Type} {ls : List (List α)} {n j : Nat} {l : List α} (h : ls[j]? = some l) : rdig ls n (j + 1) = rdig ls n j % plen (ls.drop (j + 1)) := by
  unfold rdig; rw [plen_drop h, Nat.mod_mul_left_mod]
theorem rdig_digit {α : Type} {ls : List (List α)} {n j : Nat} {l : List α} (h : ls[j]? = some l) : rdig ls n j / plen (ls.drop (j + 1)) = n / plen (ls.drop (j + 1)) % l.length := by
  unfold rdig; rw [plen_drop h, Nat.mul_comm, Nat.mod_mul_right_div_self]
theorem altF_step {T : Nat → Int} {ks : List Int} {p : Nat} {k v : Int} (h : ks[p]? = some k) : altF T v (ks.drop p) = altF T (if 0 ≤ k then mulN v (T k.toNat) else v) (ks.drop (p + 1)) := by
  rw [drop_at h]; rfl
/-- The n-th tree of a node is told by the reference. -/
def RNthC (f : Fo) (b bs : Nat) (M : List Ob) (i : Nat) : Prop := ∀ ks, Kp f ks → ∀ n : Nat, n < (trL f i).length →
  ACalls Try.prog 60 [.ref b 0, .int .i64 i, .int .i64 n] (wkC f b bs ks M) (fun r M' => ∃ t, (trL f i)[n]? = some t ∧ r = trA t ∧ ∃ ks', Kp f ks' ∧ M' = wkC f b bs ks' M)

set_option maxHeartbeats 8000000 in
theorem rnth_calls {f : Fo} (hf : FoOk f) (hrg : FoRng f) (hall : ∀ i, i < f.nodes.length → WF f i) (b bs : Nat) {i : Nat} (hwf : WF f i) : Lim f i → ∀ M, ((trL f i).length : Int) < great → RNthC f b bs M i := by
  induction hwf with
  | @mk i hi hkn hkw ih =>
  intro hlim M hb ks0 hks0 n hn
  have hwf : WF f i := .mk hi hkn hkw
  obtain ⟨hf1, hf2⟩ := id hf
  obtain ⟨nd, hnd, hndm, hal⟩ := nodes_at hi
  obtain ⟨hal1, hal2⟩ := hf2 nd hndm
  have hgr : great = 4611686018427387903 := rfl
  have hT := trL_eq hwf
  unfold nodeL at hT
  rw [hal] at hT
  generalize hti : trL f i = ti at *
  have hal0 : 0 < nd.alts.length := by
    apply Nat.pos_of_ne_zero
    intro h0
    rw [List.eq_nil_of_length_eq_zero h0] at hT
    rw [hT] at hn
    simp at hn
  have hmi : ∀ a ∈ nd.alts, a ∈ altsOf f i := fun a ha => by rw [hal]; exact ha
  have hkd : ∀ a ∈ nd.alts, ∀ k : Nat, (k : Int) ∈ a.kids → Kid f i k := fun a ha k hk => ⟨a, hmi a ha, hk⟩
  have hce : ∀ a ∈ nd.alts, (altL (trL f) a).length ≤ ti.length → altF (trees f) 1 a.kids = (altL (trL f) a).length := fun a ha h => by
    rw [altF_len (g := trL f) fun k hk => trees_sat (hkw k (hkd a ha k hk)), sat_small (by omega)]
  have hra : ∀ a ∈ nd.alts, ∀ (M : List Ob) {ks : List Int}, Kp f ks → ACalls Try.prog 68 [.ref b 0, .agg (alC a)] (wkC f b bs ks M) (fun r M' => r = .int .i64 (altF (trees f) 1 a.kids) ∧ ∃ ks', Kp f ks' ∧ M' = wkC f b bs ks' M) := fun a ha M ks hks =>
    ralt_calls (by have := hal2 a ha; omega) (fun k hk => ⟨hkw k (hkd a ha k hk), rnode_calls hf b bs M (hkw k (hkd a ha k hk))⟩) hks
  refine acalls_of_code 130 Try.func60 rfl rfl rfl ?_
  repeat (first | refine aops_put rfl ?_ | refine aops_end ?_ | refine aops_endb ?_ | refine aops_o rfl rfl rfl ?_ | refine aops_max tok rfl rfl rfl rfl rfl rfl ?_ | refine aops_min tok rfl rfl rfl rfl rfl rfl ?_ | refine aops_a tok rfl (by omega) (by omega) rfl rfl rfl ?_ | refine aops_p tok rfl rfl rfl rfl ?_ | refine aops_ixa tok rfl rfl rfl (by decide) rfl rfl rfl rfl ?_ | refine aops_ld tok 0 rfl rfl rfl rfl rfl rfl rfl rfl ?_ | refine aops_ld tok 1 rfl rfl rfl rfl rfl rfl rfl rfl ?_ | refine aops_stn tok rfl rfl rfl rfl rfl rfl rfl rfl rfl ?_ | refine aops_stn1 tok rfl rfl rfl rfl rfl rfl rfl rfl rfl ?_ | refine acode_seq ?_ | refine acode_region ?_ | refine acode_block ?_ | refine acode_skip ?_ | refine then_n ?_ | refine block_n ?_)
  refine aops_alloc tok rfl rfl rfl rfl rfl rfl fun br => ?_
  repeat (first | refine aops_put rfl ?_ | refine aops_o rfl rfl rfl ?_ | refine aops_max tok rfl rfl rfl rfl rfl rfl ?_ | refine aops_min tok rfl rfl rfl rfl rfl rfl ?_ | refine aops_a tok rfl (by omega) (by omega) rfl rfl rfl ?_ | refine aops_p tok rfl rfl rfl rfl ?_ | refine aops_ixa tok rfl rfl rfl (by decide) rfl rfl rfl rfl ?_ | refine aops_ld tok 0 rfl rfl rfl rfl rfl rfl rfl rfl ?_ | refine aops_ld tok 1 rfl rfl rfl rfl rfl rfl rfl rfl ?_ | refine aops_stn tok rfl rfl rfl rfl rfl rfl rfl rfl rfl ?_ | refine aops_stn1 tok rfl rfl rfl rfl rfl rfl rfl rfl rfl ?_)
  refine aops_end ?_
  refine acode_perm (wkC f b bs ks0 (⟨some br, 3, zeroT⟩ :: M)) ?_ ?_
  · exact (List.perm_middle (l₁ := [_, _])).symm
  repeat (first | refine aops_put rfl ?_ | refine aops_end ?_ | refine aops_endb ?_ | refine aops_o rfl rfl rfl ?_ | refine aops_max tok rfl rfl rfl rfl rfl rfl ?_ | refine aops_min tok rfl rfl rfl rfl rfl rfl ?_ | refine aops_a tok rfl (by omega) (by omega) rfl rfl rfl ?_ | refine aops_p tok rfl rfl rfl rfl ?_ | refine aops_ixa tok rfl rfl rfl (by decide) rfl rfl rfl rfl ?_ | refine aops_ld tok 0 rfl rfl rfl rfl rfl rfl rfl rfl ?_ | refine aops_ld tok 1 rfl rfl rfl rfl rfl rfl rfl rfl ?_ | refine aops_stn tok rfl rfl rfl rfl rfl rfl rfl rfl rfl ?_ | refine aops_stn1 tok rfl rfl rfl rfl rfl rfl rfl rfl rfl ?_ | refine acode_seq ?_ | refine acode_region ?_ | refine acode_block ?_ | refine acode_skip ?_ | refine then_n ?_ | refine block_n ?_)
  refine aops_ix tok (ndC nd) rfl rfl rfl rfl (by omega) (by omega) (by simp [ndC]) (nd_at hnd) rfl rfl rfl ?_
  repeat (first | refine aops_put rfl ?_ | refine aops_o rfl rfl rfl ?_ | refine aops_max tok rfl rfl rfl rfl rfl rfl ?_ | refine aops_min tok rfl rfl rfl rfl rfl rfl ?_ | refine aops_a tok rfl (by omega) (by omega) rfl rfl rfl ?_ | refine aops_p tok rfl rfl rfl rfl ?_ | refine aops_ixa tok rfl rfl rfl (by decide) rfl rfl rfl rfl ?_ | refine aops_ld tok 0 rfl rfl rfl rfl rfl rfl rfl rfl ?_ | refine aops_ld tok 1 rfl rfl rfl rfl rfl rfl rfl rfl ?_ | refine aops_stn tok rfl rfl rfl rfl rfl rfl rfl rfl rfl ?_ | refine aops_stn1 tok rfl rfl rfl rfl rfl rfl rfl rfl rfl ?_)
  refine aops_end ?_
  refine acode_seq ?_
  refine acode_region ?_
  repeat (first | refine aops_put rfl ?_ | refine aops_o rfl rfl rfl ?_ | refine aops_max tok rfl rfl rfl rfl rfl rfl ?_ | refine aops_min tok rfl rfl rfl rfl rfl rfl ?_ | refine aops_a tok rfl (by omega) (by omega) rfl rfl rfl ?_ | refine aops_p tok rfl rfl rfl rfl ?_ | refine aops_ixa tok rfl rfl rfl (by decide) rfl rfl rfl rfl ?_ | refine aops_ld tok 0 rfl rfl rfl rfl rfl rfl rfl rfl ?_ | refine aops_ld tok 1 rfl rfl rfl rfl rfl rfl rfl rfl ?_ | refine aops_stn tok rfl rfl rfl rfl rfl rfl rfl rfl rfl ?_ | refine aops_stn1 tok rfl rfl rfl rfl rfl rfl rfl rfl rfl ?_)
  refine aops_end ?_
  refine acode_seq ?_
  refine acode_joinI (ι := Nat × Nat × List Int) (fun q => [(0, .ref b 0), (2, .int .i64 q.2.1), (6, .ref br 0), (7, .psl nd.alts.length (encs alC nd.alts)), (8, .int .i64 q.1)]) (fun q => wkC f b bs q.2.2 (⟨some br, 3, zeroT⟩ :: M)) (fun q => Kp f q.2.2 ∧ ∃ a, nd.alts[q.1]? = some a ∧ (altL (trL f) a).length ≤ ti.length ∧ q.2.1 < (altL (trL f) a).length ∧ ti[n]? = (altL (trL f) a)[q.2.1]?) ?_ ?_
  · refine acode_block ?_
    refine acode_loopS (ι := Nat × Nat × List Int) (fun q => [(0, .ref b 0), (2, .int .i64 q.2.1), (6, .ref br 0), (7, .psl nd.alts.length (encs alC nd.alts)), (8, .int .i64 q.1)]) (fun q => wkC f b bs q.2.2 (⟨some br, 3, zeroT⟩ :: M)) (fun q => nd.alts.length - q.1) (fun q => q.1 < nd.alts.length ∧ Kp f q.2.2 ∧ ti[n]? = ((nd.alts.drop q.1).flatMap (altL (trL f)))[q.2.1]? ∧ q.2.1 < ((nd.alts.drop q.1).flatMap (altL (trL f))).length ∧ ((nd.alts.drop q.1).flatMap (altL (trL f))).length ≤ ti.length) (0, n, ks0) ⟨hal0, hks0, by rw [List.drop_zero, ← hT], by rw [List.drop_zero, ← hT]; exact hn, by rw [List.drop_zero, ← hT]; exact Nat.le_refl _⟩ ⟨rfl, rfl, rfl, rfl, rfl, trivial⟩ rfl ?_
    rintro ⟨q, m, ks⟩ ⟨hql, hks, hat, hm, hmt⟩
    simp only at hql hks hat hm hmt ⊢
    obtain ⟨a, ha⟩ : ∃ a, nd.alts[q]? = some a := ⟨nd.alts[q], List.getElem?_eq_getElem hql⟩
    have ham := List.mem_of_getElem? ha
    rw [flat_drop ha] at hat hm hmt
    rw [List.length_append] at hm hmt
    have hce' := hce a ham (by omega)
    repeat' (first | refine aops_put rfl ?_ | refine aops_end ?_ | refine aops_endb ?_ | refine aops_o rfl rfl rfl ?_ | refine aops_max tok rfl rfl rfl rfl rfl rfl ?_ | refine aops_min tok rfl rfl rfl rfl rfl rfl ?_ | refine aops_a tok rfl (by omega) (by omega) rfl rfl rfl ?_ | (refine aops_pd tok rfl rfl rfl rfl ?_ ?_ <;> intro e_) | (refine aops_pe tok rfl rfl rfl rfl ?_ ?_ <;> intro e_) | (refine aops_pn tok rfl rfl rfl rfl ?_ ?_ <;> intro e_) | refine aops_p tok rfl rfl rfl rfl ?_ | refine acode_it rfl ?_ | refine acode_if rfl ?_ | refine aops_ixa tok rfl rfl rfl (by decide) rfl rfl rfl rfl ?_ | refine aops_ld tok 0 rfl rfl rfl rfl rfl rfl rfl rfl ?_ | refine aops_ld tok 1 rfl rfl rfl rfl rfl rfl rfl rfl ?_ | refine aops_stn tok rfl rfl rfl rfl rfl rfl rfl rfl rfl ?_ | refine aops_stn1 tok rfl rfl rfl rfl rfl rfl rfl rfl rfl ?_ | refine acode_seq ?_ | refine acode_region ?_ | refine acode_block ?_ | refine acode_skip ?_ | refine then_n ?_ | refine block_n ?_)
    · refine aops_ix tok (alC a) rfl rfl rfl rfl (by omega) (by omega) (by simp [alC]) (al_at ha) rfl rfl rfl ?_
      repeat (first | refine aops_put rfl ?_ | refine aops_end ?_ | refine aops_endb ?_ | refine aops_o rfl rfl rfl ?_ | refine aops_max tok rfl rfl rfl rfl rfl rfl ?_ | refine aops_min tok rfl rfl rfl rfl rfl rfl ?_ | refine aops_a tok rfl (by omega) (by omega) rfl rfl rfl ?_ | refine aops_p tok rfl rfl rfl rfl ?_ | refine aops_ixa tok rfl rfl rfl (by decide) rfl rfl rfl rfl ?_ | refine aops_ld tok 0 rfl rfl rfl rfl rfl rfl rfl rfl ?_ | refine aops_ld tok 1 rfl rfl rfl rfl rfl rfl rfl rfl ?_ | refine aops_stn tok rfl rfl rfl rfl rfl rfl rfl rfl rfl ?_ | refine aops_stn1 tok rfl rfl rfl rfl rfl rfl rfl rfl rfl ?_ | refine acode_seq ?_ | refine acode_region ?_ | refine acode_block ?_ | refine acode_skip ?_ | refine then_n ?_ | refine block_n ?_)
      refine aops_call Try.func68 rfl rfl rfl rfl (hra a ham _ hks) rfl rfl ?_
      rintro x M' ⟨rfl, ks1, hks1, rfl⟩
      rw [hce']
      repeat' (first | refine aops_put rfl ?_ | refine aops_end ?_ | refine aops_endb ?_ | refine aops_o rfl rfl rfl ?_ | refine aops_max tok rfl rfl rfl rfl rfl rfl ?_ | refine aops_min tok rfl rfl rfl rfl rfl rfl ?_ | refine aops_a tok rfl (by omega) (by omega) rfl rfl rfl ?_ | (refine aops_pd tok rfl rfl rfl rfl ?_ ?_ <;> intro e_) | (refine aops_pe tok rfl rfl rfl rfl ?_ ?_ <;> intro e_) | (refine aops_pn tok rfl rfl rfl rfl ?_ ?_ <;> intro e_) | refine aops_p tok rfl rfl rfl rfl ?_ | refine acode_it rfl ?_ | refine acode_if rfl ?_ | refine aops_ixa tok rfl rfl rfl (by decide) rfl rfl rfl rfl ?_ | refine aops_ld tok 0 rfl rfl rfl rfl rfl rfl rfl rfl ?_ | refine aops_ld tok 1 rfl rfl rfl rfl rfl rfl rfl rfl ?_ | refine aops_stn tok rfl rfl rfl rfl rfl rfl rfl rfl rfl ?_ | refine aops_stn1 tok rfl rfl rfl rfl rfl rfl rfl rfl rfl ?_ | refine acode_seq ?_ | refine acode_region ?_ | refine acode_block ?_ | refine acode_skip ?_ | refine then_n ?_ | refine block_n ?_)
      · refine aops_ix tok (alC a) rfl rfl rfl rfl (by omega) (by omega) (by simp [alC]) (al_at ha) rfl rfl rfl ?_
        repeat (first | refine aops_put rfl ?_ | refine aops_end ?_ | refine aops_endb ?_ | refine aops_o rfl rfl rfl ?_ | refine aops_max tok rfl rfl rfl rfl rfl rfl ?_ | refine aops_min tok rfl rfl rfl rfl rfl rfl ?_ | refine aops_a tok rfl (by omega) (by omega) rfl rfl rfl ?_ | refine aops_p tok rfl rfl rfl rfl ?_ | refine aops_ixa tok rfl rfl rfl (by decide) rfl rfl rfl rfl ?_ | refine aops_ld tok 0 rfl rfl rfl rfl rfl rfl rfl rfl ?_ | refine aops_ld tok 1 rfl rfl rfl rfl rfl rfl rfl rfl ?_ | refine aops_stn tok rfl rfl rfl rfl rfl rfl rfl rfl rfl ?_ | refine aops_stn1 tok rfl rfl rfl rfl rfl rfl rfl rfl rfl ?_ | refine acode_seq ?_ | refine acode_region ?_ | refine acode_block ?_ | refine acode_skip ?_ | refine then_n ?_ | refine block_n ?_)
        refine aops_call Try.func68 rfl rfl rfl rfl (hra a ham _ hks1) rfl rfl ?_
        rintro x M' ⟨rfl, ks2, hks2, rfl⟩
        rw [hce']
        rw [List.getElem?_append_right (by omega)] at hat
        have e3 : ((m - (altL (trL f) a).length : Nat) : Int) = (m : Int) - (altL (trL f) a).length := by omega
        repeat (first | refine aops_put rfl ?_ | refine aops_end ?_ | refine aops_endb ?_ | refine aops_o rfl rfl rfl ?_ | refine aops_max tok rfl rfl rfl rfl rfl rfl ?_ | refine aops_min tok rfl rfl rfl rfl rfl rfl ?_ | refine aops_a tok rfl (by omega) (by omega) rfl rfl rfl ?_ | refine aops_p tok rfl rfl rfl rfl ?_ | refine aops_ixa tok rfl rfl rfl (by decide) rfl rfl rfl rfl ?_ | refine aops_ld tok 0 rfl rfl rfl rfl rfl rfl rfl rfl ?_ | refine aops_ld tok 1 rfl rfl rfl rfl rfl rfl rfl rfl ?_ | refine aops_stn tok rfl rfl rfl rfl rfl rfl rfl rfl rfl ?_ | refine aops_stn1 tok rfl rfl rfl rfl rfl rfl rfl rfl rfl ?_ | refine acode_seq ?_ | refine acode_region ?_ | refine acode_block ?_ | refine acode_skip ?_ | refine then_n ?_ | refine block_n ?_)
        exact ⟨(q + 1, m - (altL (trL f) a).length, ks2), ⟨by simp only; omega, hks2, hat, by simp only; omega, by simp only; omega⟩, by simp only; omega, ⟨rfl, by rw [e3]; rfl, rfl, rfl, rfl, trivial⟩, rfl⟩
      · refine acode_exit ?_
        repeat (first | refine exit_then ?_ | refine exit_here ?_ | refine exit_out rfl ?_ | refine ret_then ?_ | refine ret_block ?_ | refine then_n ?_ | refine block_n ?_)
        have hma : m < (altL (trL f) a).length := by omega
        rw [List.getElem?_append_left hma] at hat
        exact ⟨(q, m, ks1), ⟨hks1, a, ha, by omega, hma, hat⟩, ⟨rfl, rfl, rfl, rfl, rfl, trivial⟩, rfl⟩
    · refine acode_exit ?_
      repeat (first | refine exit_then ?_ | refine exit_here ?_ | refine exit_out rfl ?_ | refine ret_then ?_ | refine ret_block ?_ | refine then_n ?_ | refine block_n ?_)
      have hd : nd.alts.drop (q + 1) = [] := List.drop_eq_nil_of_le (by omega)
      rw [hd] at hat hm hmt
      simp only [List.flatMap_nil, List.append_nil, List.length_nil, Nat.add_zero] at hat hm hmt
      exact ⟨(q, m, ks), ⟨hks, a, ha, hmt, hm, hat⟩, ⟨rfl, rfl, rfl, rfl, rfl, trivial⟩, rfl⟩
  · rintro ⟨q, m, ks⟩ ⟨hks, a, ha, hmt, hm, hat⟩
    simp only at hks ha hm hat ⊢
    have hql := (List.getElem?_eq_some_iff.1 ha).1
    have ham := List.mem_of_getElem? ha
    have hkl := hal2 a ham
    have hkl2 := hlim.len (hmi a ham)
    have hrga := hrg nd hndm a ham
    have hmp := hm
    rw [altL_len] at hmp
    have hpb : (plen (kidsL (trL f) a.kids) : Int) < great := by rw [← altL_len]; omega
    obtain ⟨out, ho1, ho2, ho3⟩ := prodL_at (kidsL (trL f) a.kids) m hmp
    have hres : (altL (trL f) a)[m]? = some (.mk a.rule 0 out) := by simp [altL, ho1]
    have hLl : (kidsL (trL f) a.kids).length = a.kids.length := by simp [kidsL]
    have hpos : 0 < plen (kidsL (trL f) a.kids) := by omega
    have hLj : ∀ (j : Nat) (k : Int), a.kids[j]? = some k → (kidsL (trL f) a.kids)[j]? = some (if 0 ≤ k then trL f k.toNat else [leafT k]) := fun j k h => by simp [kidsL, h]
    have hmem : ∀ (j : Nat) l, (kidsL (trL f) a.kids)[j]? = some l → 0 < l.length ∧ l.length ≤ plen (kidsL (trL f) a.kids) := fun j l h => plen_pos hpos (List.mem_of_getElem? h)
    have hrest : ∀ j, altF (trees f) 1 (a.kids.drop j) = (plen ((kidsL (trL f) a.kids).drop j) : Nat) := fun j => by
      have h1 := altF_sat (g := trL f) (T := trees f) (a.kids.drop j) 1 (fun k hk => trees_sat (hkw k (hkd a ham k (List.mem_of_mem_drop hk))))
      have h2 := (plen_drop_le j hpos).2
      rw [show sat ((1 : Nat) : Int) = 1 from by decide, Nat.one_mul] at h1
      rw [h1, show kidsL (trL f) (a.kids.drop j) = (kidsL (trL f) a.kids).drop j from by simp [kidsL, List.map_drop], sat_small (by omega)]
    generalize kidsL (trL f) a.kids = L at *
    have hol : out.length = a.kids.length := by omega
    repeat (first | refine aops_put rfl ?_ | refine aops_end ?_ | refine aops_endb ?_ | refine aops_o rfl rfl rfl ?_ | refine aops_max tok rfl rfl rfl rfl rfl rfl ?_ | refine aops_min tok rfl rfl rfl rfl rfl rfl ?_ | refine aops_a tok rfl (by omega) (by omega) rfl rfl rfl ?_ | refine aops_p tok rfl rfl rfl rfl ?_ | refine aops_ixa tok rfl rfl rfl (by decide) rfl rfl rfl rfl ?_ | refine aops_ld tok 0 rfl rfl rfl rfl rfl rfl rfl rfl ?_ | refine aops_ld tok 1 rfl rfl rfl rfl rfl rfl rfl rfl ?_ | refine aops_stn tok rfl rfl rfl rfl rfl rfl rfl rfl rfl ?_ | refine aops_stn1 tok rfl rfl rfl rfl rfl rfl rfl rfl rfl ?_ | refine acode_seq ?_ | refine acode_region ?_ | refine acode_block ?_ | refine acode_skip ?_ | refine then_n ?_ | refine block_n ?_)
    refine aops_ix tok (alC a) rfl rfl rfl rfl (by omega) (by omega) (by simp [alC]) (al_at ha) rfl rfl rfl ?_
    repeat (first | refine aops_put rfl ?_ | refine aops_end ?_ | refine aops_endb ?_ | refine aops_o rfl rfl rfl ?_ | refine aops_max tok rfl rfl rfl rfl rfl rfl ?_ | refine aops_min tok rfl rfl rfl rfl rfl rfl ?_ | refine aops_a tok rfl (by omega) (by omega) rfl rfl rfl ?_ | refine aops_p tok rfl rfl rfl rfl ?_ | refine aops_ixa tok rfl rfl rfl (by decide) rfl rfl rfl rfl ?_ | refine aops_ld tok 0 rfl rfl rfl rfl rfl rfl rfl rfl ?_ | refine aops_ld tok 1 rfl rfl rfl rfl rfl rfl rfl rfl ?_ | refine aops_stn tok rfl rfl rfl rfl rfl rfl rfl rfl rfl ?_ | refine aops_stn1 tok rfl rfl rfl rfl rfl rfl rfl rfl rfl ?_ | refine acode_seq ?_ | refine acode_region ?_ | refine acode_block ?_ | refine acode_skip ?_ | refine then_n ?_ | refine block_n ?_)
    refine aops_alloc tok rfl rfl rfl rfl rfl rfl fun bt => ?_
    refine aops_stn tok rfl rfl rfl rfl rfl rfl rfl rfl rfl ?_
    refine aops_adoptF 2 rfl rfl ?_
    refine aops_end ?_
    refine acode_perm (wkC f b bs ks (⟨some bt, 3, [.int .i64 a.rule, .int .i64 0, .own none 0 0]⟩ :: ⟨none, 0, []⟩ :: ⟨some br, 3, zeroT⟩ :: M)) ?_ ?_
    · exact (List.perm_append_comm (l₁ := [_, _]) (l₂ := [_, _])).append_right _
    repeat (first | refine aops_put rfl ?_ | refine aops_end ?_ | refine aops_endb ?_ | refine aops_o rfl rfl rfl ?_ | refine aops_max tok rfl rfl rfl rfl rfl rfl ?_ | refine aops_min tok rfl rfl rfl rfl rfl rfl ?_ | refine aops_a tok rfl (by omega) (by omega) rfl rfl rfl ?_ | refine aops_p tok rfl rfl rfl rfl ?_ | refine aops_ixa tok rfl rfl rfl (by decide) rfl rfl rfl rfl ?_ | refine aops_ld tok 0 rfl rfl rfl rfl rfl rfl rfl rfl ?_ | refine aops_ld tok 1 rfl rfl rfl rfl rfl rfl rfl rfl ?_ | refine aops_stn tok rfl rfl rfl rfl rfl rfl rfl rfl rfl ?_ | refine aops_stn1 tok rfl rfl rfl rfl rfl rfl rfl rfl rfl ?_ | refine acode_seq ?_ | refine acode_region ?_ | refine acode_block ?_ | refine acode_skip ?_ | refine then_n ?_ | refine block_n ?_)
    refine acode_loopS (ι := Nat × Option Nat × Nat × List Int) (fun p => [(0, .ref b 0), (2, .int .i64 (rdig L m p.1 : Nat)), (6, .ref br 0), (7, .psl nd.alts.length (encs alC nd.alts)), (8, .int .i64 q), (9, .ref bt 0), (10, .int .i64 p.1)]) (fun p => wkC f b bs p.2.2.2 (⟨some bt, 3, [.int .i64 a.rule, .int .i64 0, .own p.2.1 p.1 p.2.2.1]⟩ :: ⟨p.2.1, p.2.2.1 * 3, encs trC (out.take p.1)⟩ :: ⟨some br, 3, zeroT⟩ :: M)) (fun p => a.kids.length - p.1) (fun p => p.1 ≤ a.kids.length ∧ Kp f p.2.2.2 ∧ (p.1 = 0 ∧ p.2.1 = none ∧ p.2.2.1 = 0 ∨ ∃ c, p.2.1 = some c)) (0, none, 0, ks) ⟨Nat.zero_le _, hks, .inl ⟨rfl, rfl, rfl⟩⟩ ⟨rfl, by rw [rdig_zero hmp]; rfl, rfl, rfl, rfl, rfl, rfl, trivial⟩ rfl ?_
    clear hks ks
    rintro ⟨j, ob, cap, ks⟩ ⟨hj, hks, hob⟩
    simp only at hj hks hob ⊢
    repeat (first | refine aops_put rfl ?_ | refine aops_end ?_ | refine aops_endb ?_ | refine aops_o rfl rfl rfl ?_ | refine aops_max tok rfl rfl rfl rfl rfl rfl ?_ | refine aops_min tok rfl rfl rfl rfl rfl rfl ?_ | refine aops_a tok rfl (by omega) (by omega) rfl rfl rfl ?_ | refine aops_p tok rfl rfl rfl rfl ?_ | refine aops_ixa tok rfl rfl rfl (by decide) rfl rfl rfl rfl ?_ | refine aops_ld tok 0 rfl rfl rfl rfl rfl rfl rfl rfl ?_ | refine aops_ld tok 1 rfl rfl rfl rfl rfl rfl rfl rfl ?_ | refine aops_stn tok rfl rfl rfl rfl rfl rfl rfl rfl rfl ?_ | refine aops_stn1 tok rfl rfl rfl rfl rfl rfl rfl rfl rfl ?_ | refine acode_seq ?_ | refine acode_region ?_ | refine acode_block ?_ | refine acode_skip ?_ | refine then_n ?_ | refine block_n ?_)
    refine aops_ix tok (alC a) rfl rfl rfl rfl (by omega) (by omega) (by simp [alC]) (al_at ha) rfl rfl rfl ?_
    repeat (first | refine aops_put rfl ?_ | refine aops_end ?_ | refine aops_endb ?_ | refine aops_o rfl rfl rfl ?_ | refine aops_max tok rfl rfl rfl rfl rfl rfl ?_ | refine aops_min tok rfl rfl rfl rfl rfl rfl ?_ | refine aops_a tok rfl (by omega) (by omega) rfl rfl rfl ?_ | refine aops_p tok rfl rfl rfl rfl ?_ | refine aops_ixa tok rfl rfl rfl (by decide) rfl rfl rfl rfl ?_ | refine aops_ld tok 0 rfl rfl rfl rfl rfl rfl rfl rfl ?_ | refine aops_ld tok 1 rfl rfl rfl rfl rfl rfl rfl rfl ?_ | refine aops_stn tok rfl rfl rfl rfl rfl rfl rfl rfl rfl ?_ | refine aops_stn1 tok rfl rfl rfl rfl rfl rfl rfl rfl rfl ?_ | refine acode_seq ?_ | refine acode_region ?_ | refine acode_block ?_ | refine acode_skip ?_ | refine then_n ?_ | refine block_n ?_)
    refine acode_id rfl (fun e => ?_) (fun e => ?_)
    · have hjl : j < a.kids.length := by omega
      obtain ⟨k, hk⟩ : ∃ k, a.kids[j]? = some k := ⟨a.kids[j], List.getElem?_eq_getElem hjl⟩
      have hkm := List.mem_of_getElem? hk
      have hkr := hrga k hkm
      obtain ⟨hkr0, hkr1⟩ := id hkr
      have hLi := hLj j k hk
      obtain ⟨t, ht1, ht2⟩ := ho3 j _ hLi
      have hrs := rdig_step (n := m) hLi
      have hrd := rdig_digit (n := m) hLi
      have htk : out.take (j + 1) = out.take j ++ [t] := by rw [List.take_add_one, ht1]; rfl
      have hle : rdig L m j ≤ m := Nat.mod_le _ _
      obtain ⟨hp0, hp1⟩ := plen_drop_le (j + 1) hpos
      repeat (first | refine aops_put rfl ?_ | refine aops_end ?_ | refine aops_endb ?_ | refine aops_o rfl rfl rfl ?_ | refine aops_max tok rfl rfl rfl rfl rfl rfl ?_ | refine aops_min tok rfl rfl rfl rfl rfl rfl ?_ | refine aops_a tok rfl (by omega) (by omega) rfl rfl rfl ?_ | refine aops_p tok rfl rfl rfl rfl ?_ | refine aops_ixa tok rfl rfl rfl (by decide) rfl rfl rfl rfl ?_ | refine aops_ld tok 0 rfl rfl rfl rfl rfl rfl rfl rfl ?_ | refine aops_ld tok 1 rfl rfl rfl rfl rfl rfl rfl rfl ?_ | refine aops_stn tok rfl rfl rfl rfl rfl rfl rfl rfl rfl ?_ | refine aops_stn1 tok rfl rfl rfl rfl rfl rfl rfl rfl rfl ?_ | refine acode_seq ?_ | refine acode_region ?_ | refine acode_block ?_ | refine acode_skip ?_ | refine then_n ?_ | refine block_n ?_)
      refine aops_ix tok (alC a) rfl rfl rfl rfl (by omega) (by omega) (by simp [alC]) (al_at ha) rfl rfl rfl ?_
      repeat (first | refine aops_put rfl ?_ | refine aops_end ?_ | refine aops_endb ?_ | refine aops_o rfl rfl rfl ?_ | refine aops_max tok rfl rfl rfl rfl rfl rfl ?_ | refine aops_min tok rfl rfl rfl rfl rfl rfl ?_ | refine aops_a tok rfl (by omega) (by omega) rfl rfl rfl ?_ | refine aops_p tok rfl rfl rfl rfl ?_ | refine aops_ixa tok rfl rfl rfl (by decide) rfl rfl rfl rfl ?_ | refine aops_ld tok 0 rfl rfl rfl rfl rfl rfl rfl rfl ?_ | refine aops_ld tok 1 rfl rfl rfl rfl rfl rfl rfl rfl ?_ | refine aops_stn tok rfl rfl rfl rfl rfl rfl rfl rfl rfl ?_ | refine aops_stn1 tok rfl rfl rfl rfl rfl rfl rfl rfl rfl ?_ | refine acode_seq ?_ | refine acode_region ?_ | refine acode_block ?_ | refine acode_skip ?_ | refine then_n ?_ | refine block_n ?_)
      refine aops_ix tok [A.int .i64 k] rfl rfl rfl rfl (by omega) (by omega) (by simp) (ints_at (j := j) (by simpa using hk)) rfl rfl rfl ?_
      repeat' (first | refine aops_put rfl ?_ | refine aops_end ?_ | refine aops_endb ?_ | refine aops_o rfl rfl rfl ?_ | refine aops_max tok rfl rfl rfl rfl rfl rfl ?_ | refine aops_min tok rfl rfl rfl rfl rfl rfl ?_ | refine aops_a tok rfl (by omega) (by omega) rfl rfl rfl ?_ | (refine aops_pd tok rfl rfl rfl rfl ?_ ?_ <;> intro e_) | (refine aops_pe tok rfl rfl rfl rfl ?_ ?_ <;> intro e_) | (refine aops_pn tok rfl rfl rfl rfl ?_ ?_ <;> intro e_) | refine aops_p tok rfl rfl rfl rfl ?_ | refine acode_it rfl ?_ | refine acode_if rfl ?_ | refine aops_ixa tok rfl rfl rfl (by decide) rfl rfl rfl rfl ?_ | refine aops_ld tok 0 rfl rfl rfl rfl rfl rfl rfl rfl ?_ | refine aops_ld tok 1 rfl rfl rfl rfl rfl rfl rfl rfl ?_ | refine aops_stn tok rfl rfl rfl rfl rfl rfl rfl rfl rfl ?_ | refine aops_stn1 tok rfl rfl rfl rfl rfl rfl rfl rfl rfl ?_ | refine acode_seq ?_ | refine acode_region ?_ | refine acode_block ?_ | refine acode_skip ?_ | refine then_n ?_ | refine block_n ?_)
      · -- a token
        rw [if_neg (by omega)] at ht2 hLi
        have htl : t = leafT k := by simpa [Nat.mod_one] using ht2.symm
        subst htl
        have hrs' : rdig L m (j + 1) = rdig L m j := by unfold rdig; rw [plen_drop hLi]; simp
        refine aops_ld tok 2 rfl rfl rfl rfl rfl rfl rfl rfl ?_
        repeat (first | refine aops_put rfl ?_ | refine aops_o rfl rfl rfl ?_ | refine aops_max tok rfl rfl rfl rfl rfl rfl ?_ | refine aops_min tok rfl rfl rfl rfl rfl rfl ?_ | refine aops_a tok rfl (by omega) (by omega) rfl rfl rfl ?_ | refine aops_p tok rfl rfl rfl rfl ?_ | refine aops_ixa tok rfl rfl rfl (by decide) rfl rfl rfl rfl ?_ | refine aops_ld tok 0 rfl rfl rfl rfl rfl rfl rfl rfl ?_ | refine aops_ld tok 1 rfl rfl rfl rfl rfl rfl rfl rfl ?_ | refine aops_stn tok rfl rfl rfl rfl rfl rfl rfl rfl rfl ?_ | refine aops_stn1 tok rfl rfl rfl rfl rfl rfl rfl rfl rfl ?_)
        refine aops_softt 78 (y := trA (leafT k)) rfl ?_
        refine aops_litn tok rfl rfl rfl rfl rfl rfl rfl ?_
        refine aops_append tok 3 (m := 1) (ds := trC (leafT k)) rfl rfl rfl (.inl (by rw [trC_eq]; rfl)) rfl rfl (by rw [encs_len trC_len, List.length_take, Nat.min_eq_left (by omega)]) (by rw [trC_len]; rfl) (by rw [trC_eq]; rfl) rfl (by show _ * 40 ≤ _; omega) (by omega) rfl rfl fun ob' cap' => ?_
        refine aops_put rfl ?_
        refine aops_somed 80 rfl (by omega) fun c hc => ?_
        subst hc
        repeat (first | refine aops_put rfl ?_ | refine aops_o rfl rfl rfl ?_ | refine aops_max tok rfl rfl rfl rfl rfl rfl ?_ | refine aops_min tok rfl rfl rfl rfl rfl rfl ?_ | refine aops_a tok rfl (by omega) (by omega) rfl rfl rfl ?_ | refine aops_p tok rfl rfl rfl rfl ?_ | refine aops_ixa tok rfl rfl rfl (by decide) rfl rfl rfl rfl ?_ | refine aops_ld tok 0 rfl rfl rfl rfl rfl rfl rfl rfl ?_ | refine aops_ld tok 1 rfl rfl rfl rfl rfl rfl rfl rfl ?_ | refine aops_stn tok rfl rfl rfl rfl rfl rfl rfl rfl rfl ?_ | refine aops_stn1 tok rfl rfl rfl rfl rfl rfl rfl rfl rfl ?_)
        refine aops_stk tok 2 [.int .i64 a.rule, .int .i64 0, .own (some c) (j + 1) cap'] _ rfl rfl rfl rfl rfl rfl (show 2 + 1 ≤ 3 from by decide) rfl rfl rfl rfl ?_
        refine aops_end ?_
        refine acode_exit ?_
        repeat (first | refine exit_then ?_ | refine exit_here ?_ | refine exit_out rfl ?_ | refine ret_then ?_ | refine ret_block ?_ | refine then_n ?_ | refine block_n ?_)
        repeat (first | refine aops_put rfl ?_ | refine aops_end ?_ | refine aops_endb ?_ | refine aops_o rfl rfl rfl ?_ | refine aops_max tok rfl rfl rfl rfl rfl rfl ?_ | refine aops_min tok rfl rfl rfl rfl rfl rfl ?_ | refine aops_a tok rfl (by omega) (by omega) rfl rfl rfl ?_ | refine aops_p tok rfl rfl rfl rfl ?_ | refine aops_ixa tok rfl rfl rfl (by decide) rfl rfl rfl rfl ?_ | refine aops_ld tok 0 rfl rfl rfl rfl rfl rfl rfl rfl ?_ | refine aops_ld tok 1 rfl rfl rfl rfl rfl rfl rfl rfl ?_ | refine aops_stn tok rfl rfl rfl rfl rfl rfl rfl rfl rfl ?_ | refine aops_stn1 tok rfl rfl rfl rfl rfl rfl rfl rfl rfl ?_ | refine acode_seq ?_ | refine acode_region ?_ | refine acode_block ?_ | refine acode_skip ?_ | refine then_n ?_ | refine block_n ?_)
        refine ⟨(j + 1, some c, cap', ks), ⟨by simp only; omega, hks, .inr ⟨c, rfl⟩⟩, by simp only; omega, ⟨rfl, by rw [hrs']; rfl, rfl, rfl, rfl, rfl, rfl, trivial⟩, ?_⟩
        simp only [htk, encs_app]
        simp [encs]
      · -- a node
        obtain ⟨k', rfl⟩ : ∃ k' : Nat, k = k' := ⟨k.toNat, by omega⟩
        rw [if_pos (by omega), Int.toNat_natCast] at ht2 hLi
        rw [if_pos (by omega), Int.toNat_natCast] at hrd
        have hkk := hkd a ham k' hkm
        have hwk := hkw k' hkk
        have hkb : ((trL f k').length : Int) < great := by have := hmem j _ hLi; omega
        have hrc := hrest (j + 1)
        repeat (first | refine aops_put rfl ?_ | refine aops_end ?_ | refine aops_endb ?_ | refine aops_o rfl rfl rfl ?_ | refine aops_max tok rfl rfl rfl rfl rfl rfl ?_ | refine aops_min tok rfl rfl rfl rfl rfl rfl ?_ | refine aops_a tok rfl (by omega) (by omega) rfl rfl rfl ?_ | refine aops_p tok rfl rfl rfl rfl ?_ | refine aops_ixa tok rfl rfl rfl (by decide) rfl rfl rfl rfl ?_ | refine aops_ld tok 0 rfl rfl rfl rfl rfl rfl rfl rfl ?_ | refine aops_ld tok 1 rfl rfl rfl rfl rfl rfl rfl rfl ?_ | refine aops_stn tok rfl rfl rfl rfl rfl rfl rfl rfl rfl ?_ | refine aops_stn1 tok rfl rfl rfl rfl rfl rfl rfl rfl rfl ?_ | refine acode_seq ?_ | refine acode_region ?_ | refine acode_block ?_ | refine acode_skip ?_ | refine then_n ?_ | refine block_n ?_)
        refine acode_loopS (ι := Nat × Int × List Int) (fun p => [(0, .ref b 0), (2, .int .i64 (rdig L m j : Nat)), (6, .ref br 0), (7, .psl nd.alts.length (encs alC nd.alts)), (8, .int .i64 q), (9, .ref bt 0), (10, .int .i64 j), (11, .int .i64 k'), (12, .int .i64 p.2.1), (13, .int .i64 p.1)]) (fun p => wkC f b bs p.2.2 (⟨some bt, 3, [.int .i64 a.rule, .int .i64 0, .own ob j cap]⟩ :: ⟨ob, cap * 3, encs trC (out.take j)⟩ :: ⟨some br, 3, zeroT⟩ :: M)) (fun p => a.kids.length - p.1) (fun p => p.1 ≤ a.kids.length ∧ isN p.2.1 ∧ Kp f p.2.2 ∧ altF (trees f) p.2.1 (a.kids.drop p.1) = (plen (L.drop (j + 1)) : Nat)) (j + 1, 1, ks) ⟨by simp only; omega, ⟨show (0 : Int) ≤ 1 from by decide, show (1 : Int) ≤ great from by decide⟩, hks, hrc⟩ ⟨rfl, rfl, rfl, rfl, rfl, rfl, rfl, rfl, rfl, rfl, trivial⟩ rfl ?_
        clear hks ks
        rintro ⟨p, v, ks⟩ ⟨hp, hv, hks, hgo⟩
        simp only at hp hv hks hgo ⊢
        repeat (first | refine aops_put rfl ?_ | refine aops_end ?_ | refine aops_endb ?_ | refine aops_o rfl rfl rfl ?_ | refine aops_max tok rfl rfl rfl rfl rfl rfl ?_ | refine aops_min tok rfl rfl rfl rfl rfl rfl ?_ | refine aops_a tok rfl (by omega) (by omega) rfl rfl rfl ?_ | refine aops_p tok rfl rfl rfl rfl ?_ | refine aops_ixa tok rfl rfl rfl (by decide) rfl rfl rfl rfl ?_ | refine aops_ld tok 0 rfl rfl rfl rfl rfl rfl rfl rfl ?_ | refine aops_ld tok 1 rfl rfl rfl rfl rfl rfl rfl rfl ?_ | refine aops_stn tok rfl rfl rfl rfl rfl rfl rfl rfl rfl ?_ | refine aops_stn1 tok rfl rfl rfl rfl rfl rfl rfl rfl rfl ?_ | refine acode_seq ?_ | refine acode_region ?_ | refine acode_block ?_ | refine acode_skip ?_ | refine then_n ?_ | refine block_n ?_)
        refine aops_ix tok (alC a) rfl rfl rfl rfl (by omega) (by omega) (by simp [alC]) (al_at ha) rfl rfl rfl ?_
        repeat (first | refine aops_put rfl ?_ | refine aops_end ?_ | refine aops_endb ?_ | refine aops_o rfl rfl rfl ?_ | refine aops_max tok rfl rfl rfl rfl rfl rfl ?_ | refine aops_min tok rfl rfl rfl rfl rfl rfl ?_ | refine aops_a tok rfl (by omega) (by omega) rfl rfl rfl ?_ | refine aops_p tok rfl rfl rfl rfl ?_ | refine aops_ixa tok rfl rfl rfl (by decide) rfl rfl rfl rfl ?_ | refine aops_ld tok 0 rfl rfl rfl rfl rfl rfl rfl rfl ?_ | refine aops_ld tok 1 rfl rfl rfl rfl rfl rfl rfl rfl ?_ | refine aops_stn tok rfl rfl rfl rfl rfl rfl rfl rfl rfl ?_ | refine aops_stn1 tok rfl rfl rfl rfl rfl rfl rfl rfl rfl ?_ | refine acode_seq ?_ | refine acode_region ?_ | refine acode_block ?_ | refine acode_skip ?_ | refine then_n ?_ | refine block_n ?_)
        refine acode_id rfl (fun e2 => ?_) (fun e2 => ?_)
        · have hpl : p < a.kids.length := by omega
          obtain ⟨k2, hk2⟩ : ∃ k, a.kids[p]? = some k := ⟨a.kids[p], List.getElem?_eq_getElem hpl⟩
          have hkm2 := List.mem_of_getElem? hk2
          rw [altF_step hk2] at hgo
          repeat (first | refine aops_put rfl ?_ | refine aops_end ?_ | refine aops_endb ?_ | refine aops_o rfl rfl rfl ?_ | refine aops_max tok rfl rfl rfl rfl rfl rfl ?_ | refine aops_min tok rfl rfl rfl rfl rfl rfl ?_ | refine aops_a tok rfl (by omega) (by omega) rfl rfl rfl ?_ | refine aops_p tok rfl rfl rfl rfl ?_ | refine aops_ixa tok rfl rfl rfl (by decide) rfl rfl rfl rfl ?_ | refine aops_ld tok 0 rfl rfl rfl rfl rfl rfl rfl rfl ?_ | refine aops_ld tok 1 rfl rfl rfl rfl rfl rfl rfl rfl ?_ | refine aops_stn tok rfl rfl rfl rfl rfl rfl rfl rfl rfl ?_ | refine aops_stn1 tok rfl rfl rfl rfl rfl rfl rfl rfl rfl ?_ | refine acode_seq ?_ | refine acode_region ?_ | refine acode_block ?_ | refine acode_skip ?_ | refine then_n ?_ | refine block_n ?_)
          refine aops_ix tok (alC a) rfl rfl rfl rfl (by omega) (by omega) (by simp [alC]) (al_at ha) rfl rfl rfl ?_
          repeat (first | refine aops_put rfl ?_ | refine aops_end ?_ | refine aops_endb ?_ | refine aops_o rfl rfl rfl ?_ | refine aops_max tok rfl rfl rfl rfl rfl rfl ?_ | refine aops_min tok rfl rfl rfl rfl rfl rfl ?_ | refine aops_a tok rfl (by omega) (by omega) rfl rfl rfl ?_ | refine aops_p tok rfl rfl rfl rfl ?_ | refine aops_ixa tok rfl rfl rfl (by decide) rfl rfl rfl rfl ?_ | refine aops_ld tok 0 rfl rfl rfl rfl rfl rfl rfl rfl ?_ | refine aops_ld tok 1 rfl rfl rfl rfl rfl rfl rfl rfl ?_ | refine aops_stn tok rfl rfl rfl rfl rfl rfl rfl rfl rfl ?_ | refine aops_stn1 tok rfl rfl rfl rfl rfl rfl rfl rfl rfl ?_ | refine acode_seq ?_ | refine acode_region ?_ | refine acode_block ?_ | refine acode_skip ?_ | refine then_n ?_ | refine block_n ?_)
          refine aops_ix tok [A.int .i64 k2] rfl rfl rfl rfl (by omega) (by omega) (by simp) (ints_at (j := p) (by simpa using hk2)) rfl rfl rfl ?_
          repeat' (first | refine aops_put rfl ?_ | refine aops_end ?_ | refine aops_endb ?_ | refine aops_o rfl rfl rfl ?_ | refine aops_max tok rfl rfl rfl rfl rfl rfl ?_ | refine aops_min tok rfl rfl rfl rfl rfl rfl ?_ | refine aops_a tok rfl (by omega) (by omega) rfl rfl rfl ?_ | (refine aops_pd tok rfl rfl rfl rfl ?_ ?_ <;> intro e_) | (refine aops_pe tok rfl rfl rfl rfl ?_ ?_ <;> intro e_) | (refine aops_pn tok rfl rfl rfl rfl ?_ ?_ <;> intro e_) | refine aops_p tok rfl rfl rfl rfl ?_ | refine acode_it rfl ?_ | refine acode_if rfl ?_ | refine aops_ixa tok rfl rfl rfl (by decide) rfl rfl rfl rfl ?_ | refine aops_ld tok 0 rfl rfl rfl rfl rfl rfl rfl rfl ?_ | refine aops_ld tok 1 rfl rfl rfl rfl rfl rfl rfl rfl ?_ | refine aops_stn tok rfl rfl rfl rfl rfl rfl rfl rfl rfl ?_ | refine aops_stn1 tok rfl rfl rfl rfl rfl rfl rfl rfl rfl ?_ | refine acode_seq ?_ | refine acode_region ?_ | refine acode_block ?_ | refine acode_skip ?_ | refine then_n ?_ | refine block_n ?_)
          · obtain ⟨k3, rfl⟩ : ∃ k3 : Nat, k2 = k3 := ⟨k2.toNat, by omega⟩
            rw [if_pos (by omega), Int.toNat_natCast] at hgo
            have hwk3 := hkw k3 (hkd a ham k3 hkm2)
            refine aops_ix tok (alC a) rfl rfl rfl rfl (by omega) (by omega) (by simp [alC]) (al_at ha) rfl rfl rfl ?_
            repeat (first | refine aops_put rfl ?_ | refine aops_end ?_ | refine aops_endb ?_ | refine aops_o rfl rfl rfl ?_ | refine aops_max tok rfl rfl rfl rfl rfl rfl ?_ | refine aops_min tok rfl rfl rfl rfl rfl rfl ?_ | refine aops_a tok rfl (by omega) (by omega) rfl rfl rfl ?_ | refine aops_p tok rfl rfl rfl rfl ?_ | refine aops_ixa tok rfl rfl rfl (by decide) rfl rfl rfl rfl ?_ | refine aops_ld tok 0 rfl rfl rfl rfl rfl rfl rfl rfl ?_ | refine aops_ld tok 1 rfl rfl rfl rfl rfl rfl rfl rfl ?_ | refine aops_stn tok rfl rfl rfl rfl rfl rfl rfl rfl rfl ?_ | refine aops_stn1 tok rfl rfl rfl rfl rfl rfl rfl rfl rfl ?_ | refine acode_seq ?_ | refine acode_region ?_ | refine acode_block ?_ | refine acode_skip ?_ | refine then_n ?_ | refine block_n ?_)
            refine aops_ix tok [A.int .i64 k3] rfl rfl rfl rfl (by omega) (by omega) (by simp) (ints_at (j := p) (by simpa using hk2)) rfl rfl rfl ?_
            repeat (first | refine aops_put rfl ?_ | refine aops_end ?_ | refine aops_endb ?_ | refine aops_o rfl rfl rfl ?_ | refine aops_max tok rfl rfl rfl rfl rfl rfl ?_ | refine aops_min tok rfl rfl rfl rfl rfl rfl ?_ | refine aops_a tok rfl (by omega) (by omega) rfl rfl rfl ?_ | refine aops_p tok rfl rfl rfl rfl ?_ | refine aops_ixa tok rfl rfl rfl (by decide) rfl rfl rfl rfl ?_ | refine aops_ld tok 0 rfl rfl rfl rfl rfl rfl rfl rfl ?_ | refine aops_ld tok 1 rfl rfl rfl rfl rfl rfl rfl rfl ?_ | refine aops_stn tok rfl rfl rfl rfl rfl rfl rfl rfl rfl ?_ | refine aops_stn1 tok rfl rfl rfl rfl rfl rfl rfl rfl rfl ?_ | refine acode_seq ?_ | refine acode_region ?_ | refine acode_block ?_ | refine acode_skip ?_ | refine then_n ?_ | refine block_n ?_)
            refine aops_call Try.func41 rfl rfl rfl rfl (rnode_calls hf b bs _ hwk3 ks hks) rfl rfl ?_
            rintro x M' ⟨rfl, ks', hks', rfl⟩
            repeat (first | refine aops_put rfl ?_ | refine aops_end ?_ | refine aops_endb ?_ | refine aops_o rfl rfl rfl ?_ | refine aops_max tok rfl rfl rfl rfl rfl rfl ?_ | refine aops_min tok rfl rfl rfl rfl rfl rfl ?_ | refine aops_a tok rfl (by omega) (by omega) rfl rfl rfl ?_ | refine aops_p tok rfl rfl rfl rfl ?_ | refine aops_ixa tok rfl rfl rfl (by decide) rfl rfl rfl rfl ?_ | refine aops_ld tok 0 rfl rfl rfl rfl rfl rfl rfl rfl ?_ | refine aops_ld tok 1 rfl rfl rfl rfl rfl rfl rfl rfl ?_ | refine aops_stn tok rfl rfl rfl rfl rfl rfl rfl rfl rfl ?_ | refine aops_stn1 tok rfl rfl rfl rfl rfl rfl rfl rfl rfl ?_ | refine acode_seq ?_ | refine acode_region ?_ | refine acode_block ?_ | refine acode_skip ?_ | refine then_n ?_ | refine block_n ?_)
            refine aops_callx Try.func79 rfl rfl rfl rfl (rtimes_calls hv (trees_is hwk3) _) rfl rfl rfl ?_
            repeat (first | refine aops_put rfl ?_ | refine aops_end ?_ | refine aops_endb ?_ | refine aops_o rfl rfl rfl ?_ | refine aops_max tok rfl rfl rfl rfl rfl rfl ?_ | refine aops_min tok rfl rfl rfl rfl rfl rfl ?_ | refine aops_a tok rfl (by omega) (by omega) rfl rfl rfl ?_ | refine aops_p tok rfl rfl rfl rfl ?_ | refine aops_ixa tok rfl rfl rfl (by decide) rfl rfl rfl rfl ?_ | refine aops_ld tok 0 rfl rfl rfl rfl rfl rfl rfl rfl ?_ | refine aops_ld tok 1 rfl rfl rfl rfl rfl rfl rfl rfl ?_ | refine aops_stn tok rfl rfl rfl rfl rfl rfl rfl rfl rfl ?_ | refine aops_stn1 tok rfl rfl rfl rfl rfl rfl rfl rfl rfl ?_ | refine acode_seq ?_ | refine acode_region ?_ | refine acode_block ?_ | refine acode_skip ?_ | refine then_n ?_ | refine block_n ?_)
            exact ⟨(p + 1, mulN v (trees f k3), ks'), ⟨by simp only; omega, mulN_is hv (trees_is hwk3), hks', hgo⟩, by simp only; omega, ⟨rfl, rfl, rfl, rfl, rfl, rfl, rfl, rfl, rfl, rfl, trivial⟩, rfl⟩
          · rw [if_neg (by omega)] at hgo
            exact ⟨(p + 1, v, ks), ⟨by simp only; omega, hv, hks, hgo⟩, by simp only; omega, ⟨rfl, rfl, rfl, rfl, rfl, rfl, rfl, rfl, rfl, rfl, trivial⟩, rfl⟩
        · have hge : p = a.kids.length := by omega
          subst hge
          rw [List.drop_length] at hgo
          have hgo : v = (plen (L.drop (j + 1)) : Nat) := hgo
          subst hgo
          refine acode_exit ?_
          repeat (first | refine exit_then ?_ | refine exit_here ?_ | refine exit_out rfl ?_ | refine ret_then ?_ | refine ret_block ?_ | refine then_n ?_ | refine block_n ?_)
          obtain ⟨dk, hdk1, hdk2⟩ := decP (Kp f) hks
          have hnd : rdig L m j / plen (L.drop (j + 1)) < (trL f k').length := by rw [hrd]; exact Nat.mod_lt _ (hmem j _ hLi).1
          refine acode_seq ?_
          refine acode_drawP [⟨some bt, 3, [.int .i64 a.rule, .int .i64 0, .own ob j cap]⟩] 11 [0, 1, 2, 3, 4, 5, 6, 7, 8, 9, 10] [7, 9] mixed (by kernel_rfl) (by kernel_rfl) rfl ?_
          repeat (first | refine seqO_put rfl ?_ | refine seqO_o rfl rfl rfl rfl ?_ | refine seqO_a tok rfl rfl (by omega) (by omega) rfl rfl rfl ?_ | refine seqO_p tok rfl rfl rfl rfl rfl ?_ | refine seqO_ld tok 0 rfl rfl rfl rfl rfl (by simp) rfl rfl rfl rfl ?_ | refine seqO_ld tok 1 rfl rfl rfl rfl rfl (by simp) rfl rfl rfl rfl ?_)
          refine seqO_quo rfl rfl rfl rfl (by omega) (by omega) (by omega) rfl rfl rfl ?_
          rw [← Int.natCast_ediv]
          refine seqO_callw (fun _ => trA t) (fun z => wkC f b bs (dk z) (⟨some bt, 3, [.int .i64 a.rule, .int .i64 0, .own ob j cap]⟩ :: ⟨ob, cap * 3, encs trC (out.take j)⟩ :: ⟨some br, 3, zeroT⟩ :: M)) rfl Try.func60 rfl rfl rfl rfl ((ih k' hkk (hlim.kid hkk) _ hkb ks hks _ hnd).mono ?_) (by simp) rfl rfl rfl fun z => ?_
          · rintro r M' ⟨t', h1, rfl, ks', hks', rfl⟩
            rw [hrd, ht2] at h1
            cases h1
            obtain ⟨z, hz⟩ := hdk2 ks' hks'
            exact ⟨z, rfl, by rw [hz]⟩
          refine seqO_lit tok rfl rfl rfl rfl rfl rfl rfl rfl rfl ?_
          refine seqO_app tok 3 (m := 1) (ds := trC t) rfl rfl rfl rfl (.inl (by rw [trC_eq]; rfl)) rfl rfl (by rw [encs_len trC_len, List.length_take, Nat.min_eq_left (by omega)]) (by rw [trC_len]; rfl) (by rw [trC_eq]; rfl) rfl (by show _ * 40 ≤ _; omega) (by omega) (by intro y o ho; simp at ho ⊢; simp [ho]) rfl rfl rfl fun ob' cap' => ?_
          repeat (first | refine seqO_put rfl ?_ | refine seqO_o rfl rfl rfl rfl ?_ | refine seqO_a tok rfl rfl (by omega) (by omega) rfl rfl rfl ?_ | refine seqO_p tok rfl rfl rfl rfl rfl ?_ | refine seqO_ld tok 0 rfl rfl rfl rfl rfl (by simp) rfl rfl rfl rfl ?_ | refine seqO_ld tok 1 rfl rfl rfl rfl rfl (by simp) rfl rfl rfl rfl ?_)
          refine SeqO.done ?_
          refine aops_somed 124 rfl (by omega) fun c hc => ?_
          subst hc
          refine aops_stk tok 2 [.int .i64 a.rule, .int .i64 0, .own (some c) (j + 1) cap'] _ rfl rfl rfl rfl rfl rfl (show 2 + 1 ≤ 3 from by decide) rfl rfl rfl rfl ?_
          repeat (first | refine aops_put rfl ?_ | refine aops_end ?_ | refine aops_endb ?_ | refine aops_o rfl rfl rfl ?_ | refine aops_max tok rfl rfl rfl rfl rfl rfl ?_ | refine aops_min tok rfl rfl rfl rfl rfl rfl ?_ | refine aops_a tok rfl (by omega) (by omega) rfl rfl rfl ?_ | refine aops_p tok rfl rfl rfl rfl ?_ | refine aops_ixa tok rfl rfl rfl (by decide) rfl rfl rfl rfl ?_ | refine aops_ld tok 0 rfl rfl rfl rfl rfl rfl rfl rfl ?_ | refine aops_ld tok 1 rfl rfl rfl rfl rfl rfl rfl rfl ?_ | refine aops_stn tok rfl rfl rfl rfl rfl rfl rfl rfl rfl ?_ | refine aops_stn1 tok rfl rfl rfl rfl rfl rfl rfl rfl rfl ?_ | refine acode_seq ?_ | refine acode_region ?_ | refine acode_block ?_ | refine acode_skip ?_ | refine then_n ?_ | refine block_n ?_)
          refine aops_rem rfl rfl rfl (by omega) (by omega) (by omega) rfl rfl rfl ?_
          rw [← Int.natCast_emod]
          repeat (first | refine aops_put rfl ?_ | refine aops_end ?_ | refine aops_endb ?_ | refine aops_o rfl rfl rfl ?_ | refine aops_max tok rfl rfl rfl rfl rfl rfl ?_ | refine aops_min tok rfl rfl rfl rfl rfl rfl ?_ | refine aops_a tok rfl (by omega) (by omega) rfl rfl rfl ?_ | refine aops_p tok rfl rfl rfl rfl ?_ | refine aops_ixa tok rfl rfl rfl (by decide) rfl rfl rfl rfl ?_ | refine aops_ld tok 0 rfl rfl rfl rfl rfl rfl rfl rfl ?_ | refine aops_ld tok 1 rfl rfl rfl rfl rfl rfl rfl rfl ?_ | refine aops_stn tok rfl rfl rfl rfl rfl rfl rfl rfl rfl ?_ | refine aops_stn1 tok rfl rfl rfl rfl rfl rfl rfl rfl rfl ?_ | refine acode_seq ?_ | refine acode_region ?_ | refine acode_block ?_ | refine acode_skip ?_ | refine then_n ?_ | refine block_n ?_)
          refine ⟨(j + 1, some c, cap', dk z), ⟨by simp only; omega, hdk1 z, .inr ⟨c, rfl⟩⟩, by simp only; omega, ⟨rfl, by rw [hrs]; rfl, rfl, rfl, rfl, rfl, rfl, trivial⟩, ?_⟩
          simp only [htk, encs_app]
          simp [encs]
    · have hge : j = a.kids.length := by omega
      subst hge
      have htk : out.take a.kids.length = out := List.take_of_length_le (by omega)
      rw [htk]
      refine acode_exit ?_
      repeat (first | refine exit_then ?_ | refine exit_here ?_ | refine exit_out rfl ?_ | refine ret_then ?_ | refine ret_block ?_ | refine then_n ?_ | refine block_n ?_)
      repeat (first | refine aops_put rfl ?_ | refine aops_end ?_ | refine aops_endb ?_ | refine aops_o rfl rfl rfl ?_ | refine aops_max tok rfl rfl rfl rfl rfl rfl ?_ | refine aops_min tok rfl rfl rfl rfl rfl rfl ?_ | refine aops_a tok rfl (by omega) (by omega) rfl rfl rfl ?_ | refine aops_p tok rfl rfl rfl rfl ?_ | refine aops_ixa tok rfl rfl rfl (by decide) rfl rfl rfl rfl ?_ | refine aops_ld tok 0 rfl rfl rfl rfl rfl rfl rfl rfl ?_ | refine aops_ld tok 1 rfl rfl rfl rfl rfl rfl rfl rfl ?_ | refine aops_stn tok rfl rfl rfl rfl rfl rfl rfl rfl rfl ?_ | refine aops_stn1 tok rfl rfl rfl rfl rfl rfl rfl rfl rfl ?_ | refine acode_seq ?_ | refine acode_region ?_ | refine acode_block ?_ | refine acode_skip ?_ | refine then_n ?_ | refine block_n ?_)
      refine aops_ld tok 2 rfl rfl rfl rfl rfl rfl rfl rfl ?_
      refine aops_stk tok 4 [.int .i64 a.rule, .int .i64 0, .own ob a.kids.length cap] _ rfl rfl rfl rfl rfl rfl (show 0 + 3 ≤ 3 from by decide) rfl rfl rfl rfl ?_
      refine aops_end ?_
      refine acode_drop 2 ?_
      refine acode_perm ([⟨ob, cap * 3, encs trC out⟩, ⟨some br, 3, [.int .i64 a.rule, .int .i64 0, .own ob a.kids.length cap]⟩] ++ wkC f b bs ks M) ?_ ?_
      · exact (List.perm_append_comm (l₁ := [_, _]) (l₂ := [_, _])).append_right _
      refine acode_freezeV [⟨ob, cap * 3, encs trC out⟩, ⟨some br, 3, [.int .i64 a.rule, .int .i64 0, .own ob a.kids.length cap]⟩] [(6, .pp [.int .i64 a.rule, .int .i64 0, .psl out.length (encs trC out)])] ⟨.ref (.tail _ (.head _)) (.cons (.refl _) (.cons (.refl _) (.cons ?_ .nil))), trivial⟩ ?_
      · rcases hob with ⟨h0, rfl, rfl⟩ | ⟨c, rfl⟩
        · have : out = [] := List.eq_nil_of_length_eq_zero (by omega)
          rw [h0, this]; exact .none
        · rw [← hol]; exact .own (.head _) rfl (by rw [encs_len trC_len]) (by decide) (VwL.rfl' _)
      refine acode_ret ?_
      repeat (first | refine exit_then ?_ | refine exit_here ?_ | refine exit_out rfl ?_ | refine ret_then ?_ | refine ret_block ?_ | refine then_n ?_ | refine block_n ?_)
      exact ⟨_, ⟨_, hat.trans hres, rfl, ks, hks, rfl⟩, resOf_pp tok rfl rfl rfl⟩
end Go.Proofs.Ytnlmfhnjjblhoaa.Ab

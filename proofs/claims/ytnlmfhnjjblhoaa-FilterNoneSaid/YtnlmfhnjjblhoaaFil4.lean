/- Chapter 23: how many trees may be: the walk over nodes. No condition. -/
import Derived.Test.YtnlmfhnjjblhoaaFil3
set_option linter.unusedVariables false
set_option linter.unusedSimpArgs false
namespace Go.Proofs.Ytnlmfhnjjblhoaa.Ab
attribute [local irreducible] thenA inBlockA ACode AOps put IntKind.wrap

def cellsT (g : Nat → List Int) (n : Nat) (l : List Nat) : List A := (List.range n).map fun j => if j ∈ l then .psl (g j).length (ints (g j)) else .nils
theorem cellsT_len (g : Nat → List Int) (n : Nat) (l : List Nat) : (cellsT g n l).length = n := by simp [cellsT]
theorem cellsT_in {g : Nat → List Int} {n : Nat} {l : List Nat} {j : Nat} (hj : j < n) (h : j ∈ l) : (cellsT g n l)[j]? = some (.psl (g j).length (ints (g j))) := by
  simp [cellsT, List.getElem?_range hj, h]
theorem cellsT_out {g : Nat → List Int} {n : Nat} {l : List Nat} {j : Nat} (hj : j < n) (h : j ∉ l) : (cellsT g n l)[j]? = some .nils := by
  simp [cellsT, List.getElem?_range hj, h]
theorem cellsT_add {g : Nat → List Int} {n : Nat} {l : List Nat} {j : Nat} : (cellsT g n l).set j (.psl (g j).length (ints (g j))) = cellsT g n (l ++ [j]) := by
  refine List.ext_getElem? fun k => ?_
  rw [List.getElem?_set]
  by_cases hk : k < n
  · by_cases h : j = k
    · subst h
      rw [if_pos rfl, cellsT_len, if_pos hk, cellsT_in hk (by simp)]
    · have : k ≠ j := fun e => h e.symm
      rw [if_neg h]
      by_cases hl : k ∈ l
      · rw [cellsT_in hk hl, cellsT_in hk (by simp [hl])]
      · rw [cellsT_out hk hl, cellsT_out hk (by simp [hl, this])]
  · have e1 : (cellsT g n l)[k]? = none := List.getElem?_eq_none (by rw [cellsT_len]; omega)
    have e2 : (cellsT g n (l ++ [j]))[k]? = none := List.getElem?_eq_none (by rw [cellsT_len]; omega)
    rw [e1, e2, cellsT_len]
    by_cases h : j = k
    · rw [if_pos h, if_neg (by omega)]
    · rw [if_neg h]
theorem set_at {cells : List A} {i k : Nat} {x y : A} (h : cells[k]? = some y) (hne : i ≠ k) : (cells.set i x)[k]? = some y := by
  rw [List.getElem?_set, if_neg hne]; exact h
theorem set_same {cells : List A} {i : Nat} {x : A} (h : i < cells.length) : (cells.set i x)[i]? = some x := by
  rw [List.getElem?_set, if_pos rfl, if_pos h]
theorem take_snoc {l : List Int} {i : Nat} {x : Int} (h : l[i]? = some x) : l.take (i + 1) = l.take i ++ [x] := by
  rw [List.take_add_one, h]; rfl
theorem altGo_step {fb : List F3} {f : Fo} {g : Nat → List Int} {r : Int} {p : Nat} {ks : List Int} {k n : Int} (h : ks[p]? = some k) :
    altGo fb f g r p (ks.drop p) n = altGo fb f g r (p + 1) (ks.drop (p + 1)) (if 0 ≤ k then mulN n (kidGo fb r p (altsOf f k.toNat) (g k.toNat) 0) else n) := by
  have e1 : ks.drop p = k :: ks.drop (p + 1) := by
    obtain ⟨h2, rfl⟩ := List.getElem?_eq_some_iff.1 h
    exact List.drop_eq_getElem_cons h2
  rw [e1]; rfl

set_option maxHeartbeats 4000000 in
theorem fnode_calls {f : Fo} {fb : List F3} {ks : List (List Int)} (hs : SetOf fb ks) (hf : FoOk f) {b bs : Nat} {l : List Nat} {i : Nat} (hwf : WF f i) (hni : i ∉ l) (hkids : ∀ k : Nat, Kid f i k → k ∈ l) (hlw : ∀ k ∈ l, WF f k) (M : List Ob) :
    ACalls Try.prog 53 [.ref b 0, .int .i64 i] (fkM f ks b bs (cellsT (ftr fb f) f.nodes.length l) M) (fun x M' => x = .tup [] ∧ ∃ ob cap, ((ftr fb f i).length = 0 ∧ ob = none ∧ cap = 0 ∨ ∃ c, ob = some c) ∧ M' = fkM f ks b bs ((cellsT (ftr fb f) f.nodes.length l).set i (.own ob (ftr fb f i).length cap)) (⟨ob, cap * 1, ints (ftr fb f i)⟩ :: M)) := by
  obtain ⟨hf1, hf2⟩ := id hf
  have hi := hwf.lt
  obtain ⟨nd, hnd, hndm, hal⟩ := nodes_at hi
  obtain ⟨hal1, hal2⟩ := hf2 nd hndm
  have hT := ftr_eq (fb := fb) hwf
  have hTl := ftr_len (fb := fb) hwf
  have hTi := ftr_is (fb := fb) hwf
  unfold nodeG at hT
  rw [hal] at hT hTl
  have hcl := cellsT_len (ftr fb f) f.nodes.length l
  have hin : ∀ k : Nat, k ∈ l → (cellsT (ftr fb f) f.nodes.length l)[k]? = some (.psl (ftr fb f k).length (ints (ftr fb f k))) := fun k hk => cellsT_in (hlw k hk).lt hk
  have hout := cellsT_out (g := ftr fb f) hi hni
  generalize cellsT (ftr fb f) f.nodes.length l = cells at *
  generalize hti : ftr fb f i = ti at *
  refine acalls_of_code 59 Try.func53 rfl rfl rfl ?_
  repeat (first | refine aops_put rfl ?_ | refine aops_end ?_ | refine aops_endb ?_ | refine aops_o rfl rfl rfl ?_ | refine aops_max tok rfl rfl rfl rfl rfl rfl ?_ | refine aops_min tok rfl rfl rfl rfl rfl rfl ?_ | refine aops_a tok rfl (by omega) (by omega) rfl rfl rfl ?_ | refine aops_p tok rfl rfl rfl rfl ?_ | refine aops_ixa tok rfl rfl rfl (by decide) rfl rfl rfl rfl ?_ | refine aops_ld tok 0 rfl rfl rfl rfl rfl rfl rfl rfl ?_ | refine aops_ld tok 1 rfl rfl rfl rfl rfl rfl rfl rfl ?_ | refine aops_stn tok rfl rfl rfl rfl rfl rfl rfl rfl rfl ?_ | refine aops_stn1 tok rfl rfl rfl rfl rfl rfl rfl rfl rfl ?_ | refine acode_seq ?_ | refine acode_region ?_ | refine acode_block ?_ | refine acode_skip ?_ | refine then_n ?_ | refine block_n ?_)
  refine aops_ix tok (ndC nd) rfl rfl rfl rfl (by omega) (by omega) (by simp [ndC]) (nd_at hnd) rfl rfl rfl ?_
  repeat (first | refine aops_put rfl ?_ | refine aops_end ?_ | refine aops_endb ?_ | refine aops_o rfl rfl rfl ?_ | refine aops_max tok rfl rfl rfl rfl rfl rfl ?_ | refine aops_min tok rfl rfl rfl rfl rfl rfl ?_ | refine aops_a tok rfl (by omega) (by omega) rfl rfl rfl ?_ | refine aops_p tok rfl rfl rfl rfl ?_ | refine aops_ixa tok rfl rfl rfl (by decide) rfl rfl rfl rfl ?_ | refine aops_ld tok 0 rfl rfl rfl rfl rfl rfl rfl rfl ?_ | refine aops_ld tok 1 rfl rfl rfl rfl rfl rfl rfl rfl ?_ | refine aops_stn tok rfl rfl rfl rfl rfl rfl rfl rfl rfl ?_ | refine aops_stn1 tok rfl rfl rfl rfl rfl rfl rfl rfl rfl ?_ | refine acode_seq ?_ | refine acode_region ?_ | refine acode_block ?_ | refine acode_skip ?_ | refine then_n ?_ | refine block_n ?_)
  refine acode_adoptF i hout (normL_eq _) ?_
  refine acode_swap1 ?_
  refine acode_loopS (ι := Nat × Option Nat × Nat) (fun q => [(0, .ref b 0), (1, .int .i64 i), (17, .psl nd.alts.length (encs alC nd.alts)), (18, .int .i64 nd.alts.length), (19, .int .i64 q.1)])
    (fun q => fkM f ks b bs (cells.set i (.own q.2.1 q.1 q.2.2)) (⟨q.2.1, q.2.2 * 1, ints (ti.take q.1)⟩ :: M)) (fun q => nd.alts.length - q.1) (fun q => q.1 ≤ nd.alts.length ∧ (q.1 = 0 ∧ q.2.1 = none ∧ q.2.2 = 0 ∨ ∃ c, q.2.1 = some c)) (0, none, 0) ⟨Nat.zero_le _, .inl ⟨rfl, rfl, rfl⟩⟩ ⟨rfl, rfl, rfl, rfl, rfl, trivial⟩ rfl ?_
  rintro ⟨q, ob, cap⟩ ⟨hq, hob⟩
  simp only at hq hob ⊢
  repeat (first | refine aops_put rfl ?_ | refine aops_end ?_ | refine aops_endb ?_ | refine aops_o rfl rfl rfl ?_ | refine aops_max tok rfl rfl rfl rfl rfl rfl ?_ | refine aops_min tok rfl rfl rfl rfl rfl rfl ?_ | refine aops_a tok rfl (by omega) (by omega) rfl rfl rfl ?_ | refine aops_p tok rfl rfl rfl rfl ?_ | refine aops_ixa tok rfl rfl rfl (by decide) rfl rfl rfl rfl ?_ | refine aops_ld tok 0 rfl rfl rfl rfl rfl rfl rfl rfl ?_ | refine aops_ld tok 1 rfl rfl rfl rfl rfl rfl rfl rfl ?_ | refine aops_stn tok rfl rfl rfl rfl rfl rfl rfl rfl rfl ?_ | refine aops_stn1 tok rfl rfl rfl rfl rfl rfl rfl rfl rfl ?_ | refine acode_seq ?_ | refine acode_region ?_ | refine acode_block ?_ | refine acode_skip ?_ | refine then_n ?_ | refine block_n ?_)
  refine acode_id rfl (fun e => ?_) (fun e => ?_)
  · have hql : q < nd.alts.length := by omega
    obtain ⟨a, ha⟩ : ∃ a, nd.alts[q]? = some a := ⟨nd.alts[q], List.getElem?_eq_getElem hql⟩
    have ham := List.mem_of_getElem? ha
    have hkl := hal2 a ham
    have hkid : ∀ k : Nat, (k : Int) ∈ a.kids → k ∈ l := fun k hk => hkids k ⟨a, by rw [hal]; exact ham, hk⟩
    have htq : ti[q]? = some (altGo fb f (ftr fb f) a.rule 0 a.kids 1) := by rw [hT, List.getElem?_map, ha]; rfl
    repeat (first | refine aops_put rfl ?_ | refine aops_end ?_ | refine aops_endb ?_ | refine aops_o rfl rfl rfl ?_ | refine aops_max tok rfl rfl rfl rfl rfl rfl ?_ | refine aops_min tok rfl rfl rfl rfl rfl rfl ?_ | refine aops_a tok rfl (by omega) (by omega) rfl rfl rfl ?_ | refine aops_p tok rfl rfl rfl rfl ?_ | refine aops_ixa tok rfl rfl rfl (by decide) rfl rfl rfl rfl ?_ | refine aops_ld tok 0 rfl rfl rfl rfl rfl rfl rfl rfl ?_ | refine aops_ld tok 1 rfl rfl rfl rfl rfl rfl rfl rfl ?_ | refine aops_stn tok rfl rfl rfl rfl rfl rfl rfl rfl rfl ?_ | refine aops_stn1 tok rfl rfl rfl rfl rfl rfl rfl rfl rfl ?_ | refine acode_seq ?_ | refine acode_region ?_ | refine acode_block ?_ | refine acode_skip ?_ | refine then_n ?_ | refine block_n ?_)
    refine aops_ix tok (alC a) rfl rfl rfl rfl (by omega) (by omega) (by simp [alC]) (al_at ha) rfl rfl rfl ?_
    repeat (first | refine aops_put rfl ?_ | refine aops_end ?_ | refine aops_endb ?_ | refine aops_o rfl rfl rfl ?_ | refine aops_max tok rfl rfl rfl rfl rfl rfl ?_ | refine aops_min tok rfl rfl rfl rfl rfl rfl ?_ | refine aops_a tok rfl (by omega) (by omega) rfl rfl rfl ?_ | refine aops_p tok rfl rfl rfl rfl ?_ | refine aops_ixa tok rfl rfl rfl (by decide) rfl rfl rfl rfl ?_ | refine aops_ld tok 0 rfl rfl rfl rfl rfl rfl rfl rfl ?_ | refine aops_ld tok 1 rfl rfl rfl rfl rfl rfl rfl rfl ?_ | refine aops_stn tok rfl rfl rfl rfl rfl rfl rfl rfl rfl ?_ | refine aops_stn1 tok rfl rfl rfl rfl rfl rfl rfl rfl rfl ?_ | refine acode_seq ?_ | refine acode_region ?_ | refine acode_block ?_ | refine acode_skip ?_ | refine then_n ?_ | refine block_n ?_)
    refine aops_alloc tok rfl rfl rfl rfl rfl rfl fun ba => ?_
    repeat (first | refine aops_put rfl ?_ | refine aops_o rfl rfl rfl ?_ | refine aops_max tok rfl rfl rfl rfl rfl rfl ?_ | refine aops_min tok rfl rfl rfl rfl rfl rfl ?_ | refine aops_a tok rfl (by omega) (by omega) rfl rfl rfl ?_ | refine aops_p tok rfl rfl rfl rfl ?_ | refine aops_ixa tok rfl rfl rfl (by decide) rfl rfl rfl rfl ?_ | refine aops_ld tok 0 rfl rfl rfl rfl rfl rfl rfl rfl ?_ | refine aops_ld tok 1 rfl rfl rfl rfl rfl rfl rfl rfl ?_ | refine aops_stn tok rfl rfl rfl rfl rfl rfl rfl rfl rfl ?_ | refine aops_stn1 tok rfl rfl rfl rfl rfl rfl rfl rfl rfl ?_)
    refine aops_pubref0 5 rfl ?_
    repeat (first | refine aops_put rfl ?_ | refine aops_end ?_ | refine aops_endb ?_ | refine aops_o rfl rfl rfl ?_ | refine aops_max tok rfl rfl rfl rfl rfl rfl ?_ | refine aops_min tok rfl rfl rfl rfl rfl rfl ?_ | refine aops_a tok rfl (by omega) (by omega) rfl rfl rfl ?_ | refine aops_p tok rfl rfl rfl rfl ?_ | refine aops_ixa tok rfl rfl rfl (by decide) rfl rfl rfl rfl ?_ | refine aops_ld tok 0 rfl rfl rfl rfl rfl rfl rfl rfl ?_ | refine aops_ld tok 1 rfl rfl rfl rfl rfl rfl rfl rfl ?_ | refine aops_stn tok rfl rfl rfl rfl rfl rfl rfl rfl rfl ?_ | refine aops_stn1 tok rfl rfl rfl rfl rfl rfl rfl rfl rfl ?_ | refine acode_seq ?_ | refine acode_region ?_ | refine acode_block ?_ | refine acode_skip ?_ | refine then_n ?_ | refine block_n ?_)
    refine acode_loopS (ι := Nat × Int) (fun p => [(0, .ref b 0), (1, .int .i64 i), (17, .psl nd.alts.length (encs alC nd.alts)), (18, .int .i64 nd.alts.length), (19, .int .i64 q), (5, .pp (alC a)), (24, .psl a.kids.length (ints a.kids)), (25, .int .i64 a.kids.length), (26, .int .i64 p.1), (6, .int .i64 p.2)])
      (fun _ => fkM f ks b bs (cells.set i (.own ob q cap)) (⟨ob, cap * 1, ints (ti.take q)⟩ :: M)) (fun p => a.kids.length - p.1) (fun p => p.1 ≤ a.kids.length ∧ isN p.2 ∧ altGo fb f (ftr fb f) a.rule p.1 (a.kids.drop p.1) p.2 = altGo fb f (ftr fb f) a.rule 0 a.kids 1) (0, 1) ⟨Nat.zero_le _, ⟨by decide, by decide⟩, rfl⟩ ⟨rfl, rfl, rfl, rfl, rfl, rfl, rfl, rfl, rfl, rfl, trivial⟩ rfl ?_
    rintro ⟨j, n⟩ ⟨hj, hn, hgo⟩
    simp only at hj hn hgo ⊢
    repeat (first | refine aops_put rfl ?_ | refine aops_end ?_ | refine aops_endb ?_ | refine aops_o rfl rfl rfl ?_ | refine aops_max tok rfl rfl rfl rfl rfl rfl ?_ | refine aops_min tok rfl rfl rfl rfl rfl rfl ?_ | refine aops_a tok rfl (by omega) (by omega) rfl rfl rfl ?_ | refine aops_p tok rfl rfl rfl rfl ?_ | refine aops_ixa tok rfl rfl rfl (by decide) rfl rfl rfl rfl ?_ | refine aops_ld tok 0 rfl rfl rfl rfl rfl rfl rfl rfl ?_ | refine aops_ld tok 1 rfl rfl rfl rfl rfl rfl rfl rfl ?_ | refine aops_stn tok rfl rfl rfl rfl rfl rfl rfl rfl rfl ?_ | refine aops_stn1 tok rfl rfl rfl rfl rfl rfl rfl rfl rfl ?_ | refine acode_seq ?_ | refine acode_region ?_ | refine acode_block ?_ | refine acode_skip ?_ | refine then_n ?_ | refine block_n ?_)
    refine acode_id rfl (fun e2 => ?_) (fun e2 => ?_)
    · have hjl : j < a.kids.length := by omega
      obtain ⟨k, hk⟩ : ∃ k, a.kids[j]? = some k := ⟨a.kids[j], List.getElem?_eq_getElem hjl⟩
      have hkm := List.mem_of_getElem? hk
      rw [altGo_step hk] at hgo
      repeat (first | refine aops_put rfl ?_ | refine aops_end ?_ | refine aops_endb ?_ | refine aops_o rfl rfl rfl ?_ | refine aops_max tok rfl rfl rfl rfl rfl rfl ?_ | refine aops_min tok rfl rfl rfl rfl rfl rfl ?_ | refine aops_a tok rfl (by omega) (by omega) rfl rfl rfl ?_ | refine aops_p tok rfl rfl rfl rfl ?_ | refine aops_ixa tok rfl rfl rfl (by decide) rfl rfl rfl rfl ?_ | refine aops_ld tok 0 rfl rfl rfl rfl rfl rfl rfl rfl ?_ | refine aops_ld tok 1 rfl rfl rfl rfl rfl rfl rfl rfl ?_ | refine aops_stn tok rfl rfl rfl rfl rfl rfl rfl rfl rfl ?_ | refine aops_stn1 tok rfl rfl rfl rfl rfl rfl rfl rfl rfl ?_ | refine acode_seq ?_ | refine acode_region ?_ | refine acode_block ?_ | refine acode_skip ?_ | refine then_n ?_ | refine block_n ?_)
      refine aops_ix tok [A.int .i64 k] rfl rfl rfl rfl (by omega) (by omega) (by simp) (ints_at (j := j) (by simpa using hk)) rfl rfl rfl ?_
      repeat' (first | refine aops_put rfl ?_ | refine aops_end ?_ | refine aops_endb ?_ | refine aops_o rfl rfl rfl ?_ | refine aops_max tok rfl rfl rfl rfl rfl rfl ?_ | refine aops_min tok rfl rfl rfl rfl rfl rfl ?_ | refine aops_a tok rfl (by omega) (by omega) rfl rfl rfl ?_ | (refine aops_pd tok rfl rfl rfl rfl ?_ ?_ <;> intro e_) | (refine aops_pe tok rfl rfl rfl rfl ?_ ?_ <;> intro e_) | (refine aops_pn tok rfl rfl rfl rfl ?_ ?_ <;> intro e_) | refine aops_p tok rfl rfl rfl rfl ?_ | refine acode_it rfl ?_ | refine acode_if rfl ?_ | refine aops_ixa tok rfl rfl rfl (by decide) rfl rfl rfl rfl ?_ | refine aops_ld tok 0 rfl rfl rfl rfl rfl rfl rfl rfl ?_ | refine aops_ld tok 1 rfl rfl rfl rfl rfl rfl rfl rfl ?_ | refine aops_stn tok rfl rfl rfl rfl rfl rfl rfl rfl rfl ?_ | refine aops_stn1 tok rfl rfl rfl rfl rfl rfl rfl rfl rfl ?_ | refine acode_seq ?_ | refine acode_region ?_ | refine acode_block ?_ | refine acode_skip ?_ | refine then_n ?_ | refine block_n ?_)
      · obtain ⟨k', rfl⟩ : ∃ k' : Nat, k = k' := ⟨k.toNat, by omega⟩
        have hkl' := hkid k' hkm
        have hkw := hlw k' hkl'
        have hne : i ≠ k' := fun h => hni (h ▸ hkl')
        rw [if_pos (by omega), Int.toNat_natCast] at hgo
        have hki := kidGo_is (fb := fb) (r := a.rule) (p := j) (altsOf f k') (ftr fb f k') 0 ⟨by decide, by decide⟩ (ftr_is hkw)
        refine aops_callx Try.func73 rfl rfl rfl rfl (fkid_calls hs hf hkw.lt (set_at (hin k' hkl') hne) (ftr_len hkw) (ftr_is hkw) _) rfl rfl rfl ?_
        repeat (first | refine aops_put rfl ?_ | refine aops_end ?_ | refine aops_endb ?_ | refine aops_o rfl rfl rfl ?_ | refine aops_max tok rfl rfl rfl rfl rfl rfl ?_ | refine aops_min tok rfl rfl rfl rfl rfl rfl ?_ | refine aops_a tok rfl (by omega) (by omega) rfl rfl rfl ?_ | refine aops_p tok rfl rfl rfl rfl ?_ | refine aops_ixa tok rfl rfl rfl (by decide) rfl rfl rfl rfl ?_ | refine aops_ld tok 0 rfl rfl rfl rfl rfl rfl rfl rfl ?_ | refine aops_ld tok 1 rfl rfl rfl rfl rfl rfl rfl rfl ?_ | refine aops_stn tok rfl rfl rfl rfl rfl rfl rfl rfl rfl ?_ | refine aops_stn1 tok rfl rfl rfl rfl rfl rfl rfl rfl rfl ?_ | refine acode_seq ?_ | refine acode_region ?_ | refine acode_block ?_ | refine acode_skip ?_ | refine then_n ?_ | refine block_n ?_)
        refine aops_callx Try.func72 rfl rfl rfl rfl (times_calls hn hki _) rfl rfl rfl ?_
        repeat (first | refine aops_put rfl ?_ | refine aops_end ?_ | refine aops_endb ?_ | refine aops_o rfl rfl rfl ?_ | refine aops_max tok rfl rfl rfl rfl rfl rfl ?_ | refine aops_min tok rfl rfl rfl rfl rfl rfl ?_ | refine aops_a tok rfl (by omega) (by omega) rfl rfl rfl ?_ | refine aops_p tok rfl rfl rfl rfl ?_ | refine aops_ixa tok rfl rfl rfl (by decide) rfl rfl rfl rfl ?_ | refine aops_ld tok 0 rfl rfl rfl rfl rfl rfl rfl rfl ?_ | refine aops_ld tok 1 rfl rfl rfl rfl rfl rfl rfl rfl ?_ | refine aops_stn tok rfl rfl rfl rfl rfl rfl rfl rfl rfl ?_ | refine aops_stn1 tok rfl rfl rfl rfl rfl rfl rfl rfl rfl ?_ | refine acode_seq ?_ | refine acode_region ?_ | refine acode_block ?_ | refine acode_skip ?_ | refine then_n ?_ | refine block_n ?_)
        exact ⟨(j + 1, _), ⟨by simp; omega, mulN_is hn hki, hgo⟩, by simp; omega, ⟨rfl, rfl, rfl, rfl, rfl, rfl, rfl, rfl, rfl, rfl, trivial⟩, rfl⟩
      · rw [if_neg (by omega)] at hgo
        exact ⟨(j + 1, n), ⟨by simp; omega, hn, hgo⟩, by simp; omega, ⟨rfl, rfl, rfl, rfl, rfl, rfl, rfl, rfl, rfl, rfl, trivial⟩, rfl⟩
    · have hge : j = a.kids.length := by omega
      subst hge
      rw [List.drop_length] at hgo
      have hgo : n = altGo fb f (ftr fb f) a.rule 0 a.kids 1 := hgo
      rw [← hgo] at htq
      have hset : ∀ x, (cells.set i (.own ob q cap)).take (i * 1) ++ ([x] ++ (cells.set i (.own ob q cap)).drop (i * 1 + 1)) = cells.set i x := fun x => by
        rw [Nat.mul_one]
        have := List.set_eq_take_append_cons_drop (l := cells.set i (.own ob q cap)) (i := i) (a := x)
        rw [List.set_set, List.length_set, if_pos (by rw [hcl]; exact hi)] at this
        rw [this]; rfl
      have hcur := set_same (x := A.own ob q cap) (show i < cells.length by rw [hcl]; exact hi)
      have hcl2 : (cells.set i (.own ob q cap)).length = f.nodes.length := by rw [List.length_set, hcl]
      have htl : (ti.take q).length = q := by rw [List.length_take]; omega
      refine acode_exit ?_
      repeat (first | refine exit_then ?_ | refine exit_here ?_ | refine exit_out rfl ?_ | refine ret_then ?_ | refine ret_block ?_ | refine then_n ?_ | refine block_n ?_)
      refine acode_drawP [⟨some bs, f.nodes.length * 1, cells.set i (.own ob q cap)⟩, ⟨some b, 4, [.psl f.nodes.length (encs ndC f.nodes), .int .i64 f.root, .mp ks, .own (some bs) f.nodes.length f.nodes.length]⟩] 16 [0, 1, 2, 3, 4, 5, 6, 7, 8, 9, 10, 11, 12, 13, 14, 15] [14] mixed (by kernel_rfl) (by kernel_rfl) rfl ?_
      repeat (first | refine seqO_put rfl ?_ | refine seqO_o rfl rfl rfl rfl ?_ | refine seqO_a tok rfl rfl (by omega) (by omega) rfl rfl rfl ?_ | refine seqO_p tok rfl rfl rfl rfl rfl ?_ | refine seqO_ld tok 0 rfl rfl rfl rfl rfl (by simp) rfl rfl rfl rfl ?_ | refine seqO_ld tok 1 rfl rfl rfl rfl rfl (by simp) rfl rfl rfl rfl ?_)
      refine seqO_ixo tok rfl rfl rfl rfl rfl (by omega) (by omega) rfl rfl rfl ?_
      refine seqO_ld tok 0 (y := .own ob q cap) rfl rfl rfl rfl rfl (by simp) (by rw [headed_eq]; show (cells.set i _)[i * 1]? = _; rw [Nat.mul_one]; exact hcur) rfl rfl rfl ?_
      repeat (first | refine seqO_put rfl ?_ | refine seqO_o rfl rfl rfl rfl ?_ | refine seqO_a tok rfl rfl (by omega) (by omega) rfl rfl rfl ?_ | refine seqO_p tok rfl rfl rfl rfl rfl ?_ | refine seqO_ld tok 0 rfl rfl rfl rfl rfl (by simp) rfl rfl rfl rfl ?_ | refine seqO_ld tok 1 rfl rfl rfl rfl rfl (by simp) rfl rfl rfl rfl ?_)
      refine seqO_lit tok rfl rfl rfl rfl rfl rfl rfl rfl rfl ?_
      refine seqO_app tok 2 (m := 1) rfl rfl rfl rfl (.inl rfl) rfl rfl (by rw [ints_len, htl]; exact (Nat.mul_one _).symm) rfl rfl rfl (by show _ * 8 ≤ _; omega) (by omega) (by intro y o ho; simp at ho ⊢; rcases ho with rfl | rfl <;> simp) rfl rfl rfl fun ob' cap' => ?_
      refine seqO_T rfl ?_
      refine seqT_ixo tok rfl rfl rfl rfl (by omega) (by omega) rfl rfl rfl ?_
      refine SeqT.done ?_
      refine aops_somed 56 rfl (by omega) fun c hc => ?_
      subst hc
      refine aops_stk tok 0 (cells.set i (.own (some c) (q + 1) cap')) _ rfl rfl rfl rfl rfl rfl (by rw [hcl2]; show i * 1 + 1 ≤ _; omega) (hset _) rfl rfl rfl ?_
      repeat (first | refine aops_put rfl ?_ | refine aops_end ?_ | refine aops_endb ?_ | refine aops_o rfl rfl rfl ?_ | refine aops_max tok rfl rfl rfl rfl rfl rfl ?_ | refine aops_min tok rfl rfl rfl rfl rfl rfl ?_ | refine aops_a tok rfl (by omega) (by omega) rfl rfl rfl ?_ | refine aops_p tok rfl rfl rfl rfl ?_ | refine aops_ixa tok rfl rfl rfl (by decide) rfl rfl rfl rfl ?_ | refine aops_ld tok 0 rfl rfl rfl rfl rfl rfl rfl rfl ?_ | refine aops_ld tok 1 rfl rfl rfl rfl rfl rfl rfl rfl ?_ | refine aops_stn tok rfl rfl rfl rfl rfl rfl rfl rfl rfl ?_ | refine aops_stn1 tok rfl rfl rfl rfl rfl rfl rfl rfl rfl ?_ | refine acode_seq ?_ | refine acode_region ?_ | refine acode_block ?_ | refine acode_skip ?_ | refine then_n ?_ | refine block_n ?_)
      refine ⟨(q + 1, some c, cap'), ⟨by simp; omega, .inr ⟨c, rfl⟩⟩, by simp; omega, ⟨rfl, rfl, rfl, rfl, rfl, trivial⟩, ?_⟩
      simp only [fkM, take_snoc htq, ints_app]
      rfl
  · have hge : q = nd.alts.length := by omega
    subst hge
    refine acode_exit ?_
    repeat (first | refine exit_then ?_ | refine exit_here ?_ | refine exit_out rfl ?_ | refine ret_then ?_ | refine ret_block ?_ | refine then_n ?_ | refine block_n ?_)
    have e1 : ti.take nd.alts.length = ti := List.take_of_length_le (by omega)
    rw [e1, ← hTl]
    exact ⟨.tup [], ⟨rfl, ob, cap, by rw [hTl]; exact hob, rfl⟩, rfl⟩
end Go.Proofs.Ytnlmfhnjjblhoaa.Ab

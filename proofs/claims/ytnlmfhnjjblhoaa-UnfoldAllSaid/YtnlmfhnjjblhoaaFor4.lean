/- Chapter 20's numbers of trees, and how deep: the walk. No condition. -/
import Derived.Test.YtnlmfhnjjblhoaaFor3
set_option linter.unusedVariables false
set_option linter.unusedSimpArgs false
namespace Go.Proofs.Ytnlmfhnjjblhoaa.Ab
attribute [local irreducible] thenA inBlockA ACode AOps put IntKind.wrap

/-- What is told of the nodes of a row's beginning; of the others nothing. -/
def rowV (T : Nat → Int) (n : Nat) (l : List Nat) : List Int := (List.range n).map fun j => if j ∈ l then T j else 0
theorem rowV_len (T : Nat → Int) (n : Nat) (l : List Nat) : (rowV T n l).length = n := by simp [rowV]
theorem rowV_get {T : Nat → Int} {n : Nat} {l : List Nat} {j : Nat} (h : j < n) : (rowV T n l)[j]? = some (if j ∈ l then T j else 0) := by
  simp [rowV, List.getElem?_range h]
theorem rowV_nil (T : Nat → Int) (n : Nat) : rowV T n [] = List.replicate n 0 := by
  apply List.ext_getElem?
  intro j
  by_cases h : j < n
  · rw [rowV_get h, List.getElem?_replicate, if_pos h]; rfl
  · rw [List.getElem?_eq_none (by simp [rowV]; omega), List.getElem?_eq_none (by simp; omega)]
theorem rowV_set0 {T : Nat → Int} {n i : Nat} {l : List Nat} (hi : i < n) (hn : i ∉ l) : (rowV T n l).set i 0 = rowV T n l := by
  have h := rowV_get (T := T) (l := l) hi
  rw [if_neg hn] at h
  obtain ⟨h1, h2⟩ := List.getElem?_eq_some_iff.1 h
  conv => lhs; rw [← h2]
  exact List.set_getElem_self h1
theorem rowV_set {T : Nat → Int} {n i : Nat} {l : List Nat} (hi : i < n) : (rowV T n l).set i (T i) = rowV T n (l ++ [i]) := by
  apply List.ext_getElem?
  intro j
  rw [List.getElem?_set]
  by_cases h : j < n
  · rw [rowV_get h, rowV_get h]
    by_cases e : i = j
    · subst e; rw [if_pos rfl, if_pos (by simp [rowV]; exact h), if_pos (by simp)]
    · rw [if_neg e]
      by_cases hm : j ∈ l
      · rw [if_pos hm, if_pos (by simp [hm])]
      · rw [if_neg hm, if_neg (by simp [hm]; exact fun h => e h.symm)]
  · have e : i ≠ j := by omega
    rw [if_neg e, List.getElem?_eq_none (by simp [rowV]; omega), List.getElem?_eq_none (by simp [rowV]; omega)]
theorem rowV_all {T : Nat → Int} {n : Nat} {l : List Nat} (h : ∀ i, i < n → i ∈ l) : rowV T n l = (List.range n).map T := by
  apply List.map_congr_left
  intro j hj
  rw [if_pos (h j (by simpa using hj))]
theorem rowV_is {f : Fo} {l : List Nat} (h : ∀ i ∈ l, WF f i) (n : Nat) : ∀ x ∈ rowV (trees f) n l, isN x := by
  intro x hx
  simp only [rowV, List.mem_map] at hx
  obtain ⟨j, _, rfl⟩ := hx
  split
  · exact trees_is (h j ‹_›)
  · exact ⟨by decide, by decide⟩
theorem set_mem_is {vs : List Int} {i : Nat} {x : Int} (h : ∀ y ∈ vs, isN y) (hx : isN x) : ∀ y ∈ vs.set i x, isN y := by
  intro y hy
  rcases List.mem_or_eq_of_mem_set hy with h' | h'
  · exact h y h'
  · rw [h']; exact hx
theorem altsF_add (g : Nat → Int) {ls : List Al} {i : Nat} {a : Al} (h : ls[i]? = some a) : altsF g 0 (ls.take (i + 1)) = addN (altsF g 0 (ls.take i)) (altF g 1 a.kids) := by
  rw [List.take_add_one, h]; simp [altsF, List.foldl_append]
theorem valF_set_ne {vs : List Int} {i k : Nat} {x : Int} (h : i ≠ k) : valF (vs.set i x) k = valF vs k := by
  simp [valF, List.getD_eq_getElem?_getD, List.getElem?_set, h]
theorem valF_rowV {T : Nat → Int} {n j : Nat} {l : List Nat} (h : j < n) (hm : j ∈ l) : valF (rowV T n l) j = T j := by
  rw [valF, List.getD_eq_getElem?_getD, rowV_get h, if_pos hm]; rfl
theorem nums_at {l : List Nat} {p i : Nat} (h : l[p]? = some i) : (nums l)[p]? = some (i : Int) := by simp [nums, h]

set_option maxHeartbeats 4000000 in
theorem all_calls {f : Fo} {l : List Nat} (hf : FoOk f) (ht : Topo f l) (hall : ∀ i, i < f.nodes.length → i ∈ l) (M : List Ob) :
    ACalls Try.prog 39 [foA f, .psl l.length (ints (nums l))] M (fun r M' => r = .psl f.nodes.length (ints ((List.range f.nodes.length).map (trees f))) ∧ M' = M) := by
  obtain ⟨hf1, hf2⟩ := id hf
  have htl := ht.len
  refine acalls_of_code 45 Try.func39 rfl rfl rfl ?_
  repeat (first | refine aops_put rfl ?_ | refine aops_end ?_ | refine aops_endb ?_ | refine aops_o rfl rfl rfl ?_ | refine aops_max tok rfl rfl rfl rfl rfl rfl ?_ | refine aops_min tok rfl rfl rfl rfl rfl rfl ?_ | refine aops_a tok rfl (by omega) (by omega) rfl rfl rfl ?_ | refine aops_p tok rfl rfl rfl rfl ?_ | refine aops_ixa tok rfl rfl rfl (by decide) rfl rfl rfl rfl ?_ | refine aops_ld tok 0 rfl rfl rfl rfl rfl rfl rfl rfl ?_ | refine aops_ld tok 1 rfl rfl rfl rfl rfl rfl rfl rfl ?_ | refine aops_stn tok rfl rfl rfl rfl rfl rfl rfl rfl rfl ?_ | refine aops_stn1 tok rfl rfl rfl rfl rfl rfl rfl rfl rfl ?_ | refine acode_seq ?_ | refine acode_region ?_ | refine acode_block ?_ | refine acode_skip ?_ | refine then_n ?_ | refine block_n ?_)
  refine aops_boxf rfl rfl rfl rfl rfl rfl rfl ?_
  repeat (first | refine aops_put rfl ?_ | refine aops_end ?_ | refine aops_endb ?_ | refine aops_o rfl rfl rfl ?_ | refine aops_max tok rfl rfl rfl rfl rfl rfl ?_ | refine aops_min tok rfl rfl rfl rfl rfl rfl ?_ | refine aops_a tok rfl (by omega) (by omega) rfl rfl rfl ?_ | refine aops_p tok rfl rfl rfl rfl ?_ | refine aops_ixa tok rfl rfl rfl (by decide) rfl rfl rfl rfl ?_ | refine aops_ld tok 0 rfl rfl rfl rfl rfl rfl rfl rfl ?_ | refine aops_ld tok 1 rfl rfl rfl rfl rfl rfl rfl rfl ?_ | refine aops_stn tok rfl rfl rfl rfl rfl rfl rfl rfl rfl ?_ | refine aops_stn1 tok rfl rfl rfl rfl rfl rfl rfl rfl rfl ?_ | refine acode_seq ?_ | refine acode_region ?_ | refine acode_block ?_ | refine acode_skip ?_ | refine then_n ?_ | refine block_n ?_)
  refine aops_mk tok f.nodes.length rfl rfl rfl rfl rfl rfl (by show _ * 8 ≤ _; omega) (by omega) rfl rfl rfl fun bo => ?_
  repeat (first | refine aops_put rfl ?_ | refine aops_end ?_ | refine aops_endb ?_ | refine aops_o rfl rfl rfl ?_ | refine aops_max tok rfl rfl rfl rfl rfl rfl ?_ | refine aops_min tok rfl rfl rfl rfl rfl rfl ?_ | refine aops_a tok rfl (by omega) (by omega) rfl rfl rfl ?_ | refine aops_p tok rfl rfl rfl rfl ?_ | refine aops_ixa tok rfl rfl rfl (by decide) rfl rfl rfl rfl ?_ | refine aops_ld tok 0 rfl rfl rfl rfl rfl rfl rfl rfl ?_ | refine aops_ld tok 1 rfl rfl rfl rfl rfl rfl rfl rfl ?_ | refine aops_stn tok rfl rfl rfl rfl rfl rfl rfl rfl rfl ?_ | refine aops_stn1 tok rfl rfl rfl rfl rfl rfl rfl rfl rfl ?_ | refine acode_seq ?_ | refine acode_region ?_ | refine acode_block ?_ | refine acode_skip ?_ | refine then_n ?_ | refine block_n ?_)
  refine acode_loopS (ι := Nat) (fun p => [(2, .pp (foC f)), (5, .own (some bo) f.nodes.length f.nodes.length), (14, .psl l.length (ints (nums l))), (15, .int .i64 l.length), (16, .int .i64 p)]) (fun p => ⟨some bo, f.nodes.length * 1, ints (rowV (trees f) f.nodes.length (l.take p))⟩ :: M) (fun p => l.length - p) (fun p => p ≤ l.length) 0 (Nat.zero_le _) ⟨rfl, rfl, rfl, rfl, rfl, trivial⟩ (by rw [List.take_zero, rowV_nil, ← ints_zeros]; rfl) ?_
  intro p hp
  repeat (first | refine aops_put rfl ?_ | refine aops_end ?_ | refine aops_endb ?_ | refine aops_o rfl rfl rfl ?_ | refine aops_max tok rfl rfl rfl rfl rfl rfl ?_ | refine aops_min tok rfl rfl rfl rfl rfl rfl ?_ | refine aops_a tok rfl (by omega) (by omega) rfl rfl rfl ?_ | refine aops_p tok rfl rfl rfl rfl ?_ | refine aops_ixa tok rfl rfl rfl (by decide) rfl rfl rfl rfl ?_ | refine aops_ld tok 0 rfl rfl rfl rfl rfl rfl rfl rfl ?_ | refine aops_ld tok 1 rfl rfl rfl rfl rfl rfl rfl rfl ?_ | refine aops_stn tok rfl rfl rfl rfl rfl rfl rfl rfl rfl ?_ | refine aops_stn1 tok rfl rfl rfl rfl rfl rfl rfl rfl rfl ?_ | refine acode_seq ?_ | refine acode_region ?_ | refine acode_block ?_ | refine acode_skip ?_ | refine then_n ?_ | refine block_n ?_)
  refine acode_id rfl (fun e => ?_) (fun e => ?_)
  · have hpl : p < l.length := by omega
    obtain ⟨i, hpi⟩ : ∃ i, l[p]? = some i := ⟨l[p], List.getElem?_eq_getElem hpl⟩
    have him := List.mem_of_getElem? hpi
    have hi := ht.lt i him
    have hwf := ht.wf i him
    obtain ⟨_, hni, hkids⟩ := ht.pre (a := l.take p) (b := l.drop (p + 1)) (i := i) (by
      rw [List.getElem?_eq_getElem hpl] at hpi
      rw [← Option.some.inj hpi, List.getElem_cons_drop, List.take_append_drop])
    obtain ⟨nd, hnd, hndm, hal⟩ := nodes_at hi
    obtain ⟨hal1, hal2⟩ := hf2 nd hndm
    have hrow := rowV_is (f := f) (l := l.take p) (fun j hj => ht.wf j (List.mem_of_mem_take hj)) f.nodes.length
    repeat (first | refine aops_put rfl ?_ | refine aops_end ?_ | refine aops_endb ?_ | refine aops_o rfl rfl rfl ?_ | refine aops_max tok rfl rfl rfl rfl rfl rfl ?_ | refine aops_min tok rfl rfl rfl rfl rfl rfl ?_ | refine aops_a tok rfl (by omega) (by omega) rfl rfl rfl ?_ | refine aops_p tok rfl rfl rfl rfl ?_ | refine aops_ixa tok rfl rfl rfl (by decide) rfl rfl rfl rfl ?_ | refine aops_ld tok 0 rfl rfl rfl rfl rfl rfl rfl rfl ?_ | refine aops_ld tok 1 rfl rfl rfl rfl rfl rfl rfl rfl ?_ | refine aops_stn tok rfl rfl rfl rfl rfl rfl rfl rfl rfl ?_ | refine aops_stn1 tok rfl rfl rfl rfl rfl rfl rfl rfl rfl ?_ | refine acode_seq ?_ | refine acode_region ?_ | refine acode_block ?_ | refine acode_skip ?_ | refine then_n ?_ | refine block_n ?_)
    refine aops_ix tok [A.int .i64 i] rfl rfl rfl rfl (by omega) (by omega) (by simp) (ints_at (j := p) (by simpa using nums_at hpi)) rfl rfl rfl ?_
    repeat (first | refine aops_put rfl ?_ | refine aops_end ?_ | refine aops_endb ?_ | refine aops_o rfl rfl rfl ?_ | refine aops_max tok rfl rfl rfl rfl rfl rfl ?_ | refine aops_min tok rfl rfl rfl rfl rfl rfl ?_ | refine aops_a tok rfl (by omega) (by omega) rfl rfl rfl ?_ | refine aops_p tok rfl rfl rfl rfl ?_ | refine aops_ixa tok rfl rfl rfl (by decide) rfl rfl rfl rfl ?_ | refine aops_ld tok 0 rfl rfl rfl rfl rfl rfl rfl rfl ?_ | refine aops_ld tok 1 rfl rfl rfl rfl rfl rfl rfl rfl ?_ | refine aops_stn tok rfl rfl rfl rfl rfl rfl rfl rfl rfl ?_ | refine aops_stn1 tok rfl rfl rfl rfl rfl rfl rfl rfl rfl ?_ | refine acode_seq ?_ | refine acode_region ?_ | refine acode_block ?_ | refine acode_skip ?_ | refine then_n ?_ | refine block_n ?_)
    refine aops_ix tok (ndC nd) rfl rfl rfl rfl (by omega) (by omega) (by simp [ndC]) (nd_at hnd) rfl rfl rfl ?_
    repeat (first | refine aops_put rfl ?_ | refine aops_end ?_ | refine aops_endb ?_ | refine aops_o rfl rfl rfl ?_ | refine aops_max tok rfl rfl rfl rfl rfl rfl ?_ | refine aops_min tok rfl rfl rfl rfl rfl rfl ?_ | refine aops_a tok rfl (by omega) (by omega) rfl rfl rfl ?_ | refine aops_p tok rfl rfl rfl rfl ?_ | refine aops_ixa tok rfl rfl rfl (by decide) rfl rfl rfl rfl ?_ | refine aops_ld tok 0 rfl rfl rfl rfl rfl rfl rfl rfl ?_ | refine aops_ld tok 1 rfl rfl rfl rfl rfl rfl rfl rfl ?_ | refine aops_stn tok rfl rfl rfl rfl rfl rfl rfl rfl rfl ?_ | refine aops_stn1 tok rfl rfl rfl rfl rfl rfl rfl rfl rfl ?_ | refine acode_seq ?_ | refine acode_region ?_ | refine acode_block ?_ | refine acode_skip ?_ | refine then_n ?_ | refine block_n ?_)
    refine acode_loopS (ι := Nat) (fun q => [(2, .pp (foC f)), (5, .own (some bo) f.nodes.length f.nodes.length), (14, .psl l.length (ints (nums l))), (15, .int .i64 l.length), (16, .int .i64 p), (7, .int .i64 i), (25, .psl nd.alts.length (encs alC nd.alts)), (26, .int .i64 nd.alts.length), (27, .int .i64 q)]) (fun q => ⟨some bo, f.nodes.length * 1, ints ((rowV (trees f) f.nodes.length (l.take p)).set i (altsF (trees f) 0 (nd.alts.take q)))⟩ :: M) (fun q => nd.alts.length - q) (fun q => q ≤ nd.alts.length) 0 (Nat.zero_le _) ⟨rfl, rfl, rfl, rfl, rfl, rfl, rfl, rfl, rfl, trivial⟩ (by rw [List.take_zero, show altsF (trees f) 0 [] = 0 from rfl, rowV_set0 hi hni]) ?_
    intro q hq
    repeat (first | refine aops_put rfl ?_ | refine aops_end ?_ | refine aops_endb ?_ | refine aops_o rfl rfl rfl ?_ | refine aops_max tok rfl rfl rfl rfl rfl rfl ?_ | refine aops_min tok rfl rfl rfl rfl rfl rfl ?_ | refine aops_a tok rfl (by omega) (by omega) rfl rfl rfl ?_ | refine aops_p tok rfl rfl rfl rfl ?_ | refine aops_ixa tok rfl rfl rfl (by decide) rfl rfl rfl rfl ?_ | refine aops_ld tok 0 rfl rfl rfl rfl rfl rfl rfl rfl ?_ | refine aops_ld tok 1 rfl rfl rfl rfl rfl rfl rfl rfl ?_ | refine aops_stn tok rfl rfl rfl rfl rfl rfl rfl rfl rfl ?_ | refine aops_stn1 tok rfl rfl rfl rfl rfl rfl rfl rfl rfl ?_ | refine acode_seq ?_ | refine acode_region ?_ | refine acode_block ?_ | refine acode_skip ?_ | refine then_n ?_ | refine block_n ?_)
    refine acode_id rfl (fun e2 => ?_) (fun e2 => ?_)
    · have hql : q < nd.alts.length := by omega
      obtain ⟨a, ha⟩ : ∃ a, nd.alts[q]? = some a := ⟨nd.alts[q], List.getElem?_eq_getElem hql⟩
      have ham := List.mem_of_getElem? ha
      have hkl := hal2 a ham
      have hkd : ∀ k : Nat, (k : Int) ∈ a.kids → k ∈ l.take p := fun k hk => hkids k ⟨a, by rw [hal]; exact ham, hk⟩
      have hkn : ∀ k : Nat, (k : Int) ∈ a.kids → k < f.nodes.length := fun k hk => ht.lt k (List.mem_of_mem_take (hkd k hk))
      have hs : isN (altsF (trees f) 0 (nd.alts.take q)) := altsF_is _ _ ⟨by decide, by decide⟩ fun b hb k hk => trees_is (hwf.kid ⟨b, by rw [hal]; exact List.mem_of_mem_take hb, hk⟩)
      have hsum := altsF_add (trees f) ha
      have hvs := set_mem_is (i := i) hrow hs
      generalize hsv : altsF (trees f) 0 (nd.alts.take q) = sv at *
      have hvl : ((rowV (trees f) f.nodes.length (l.take p)).set i sv).length = f.nodes.length := by simp [rowV]
      have hget : ((rowV (trees f) f.nodes.length (l.take p)).set i sv)[i]? = some sv := by rw [List.getElem?_set, if_pos rfl, if_pos (by rw [rowV_len]; exact hi)]
      have hF : altF (valF ((rowV (trees f) f.nodes.length (l.take p)).set i sv)) 1 a.kids = altF (trees f) 1 a.kids := altF_congr _ _ fun k hk => by
        have hki : i ≠ k := fun h => hni (h ▸ hkd k hk)
        rw [valF_set_ne hki, valF_rowV (hkn k hk) (hkd k hk)]
      have hall := alt_calls (a := a) hvl hvs (fun k hk => by rw [hvl]; exact hkn k hk) (by omega) (by rw [hvl]; omega)
      rw [hF] at hall
      have hset : ((rowV (trees f) f.nodes.length (l.take p)).set i sv).set i (altsF (trees f) 0 (nd.alts.take (q + 1))) = (rowV (trees f) f.nodes.length (l.take p)).set i (altsF (trees f) 0 (nd.alts.take (q + 1))) := List.set_set ..
      have haN : isN (altF (trees f) 1 a.kids) := altF_is _ _ ⟨by decide, by decide⟩ fun k hk => trees_is (hwf.kid ⟨a, by rw [hal]; exact ham, hk⟩)
      generalize (rowV (trees f) f.nodes.length (l.take p)).set i sv = vs at *
      repeat (first | refine aops_put rfl ?_ | refine aops_end ?_ | refine aops_endb ?_ | refine aops_o rfl rfl rfl ?_ | refine aops_max tok rfl rfl rfl rfl rfl rfl ?_ | refine aops_min tok rfl rfl rfl rfl rfl rfl ?_ | refine aops_a tok rfl (by omega) (by omega) rfl rfl rfl ?_ | refine aops_p tok rfl rfl rfl rfl ?_ | refine aops_ixa tok rfl rfl rfl (by decide) rfl rfl rfl rfl ?_ | refine aops_ld tok 0 rfl rfl rfl rfl rfl rfl rfl rfl ?_ | refine aops_ld tok 1 rfl rfl rfl rfl rfl rfl rfl rfl ?_ | refine aops_stn tok rfl rfl rfl rfl rfl rfl rfl rfl rfl ?_ | refine aops_stn1 tok rfl rfl rfl rfl rfl rfl rfl rfl rfl ?_ | refine acode_seq ?_ | refine acode_region ?_ | refine acode_block ?_ | refine acode_skip ?_ | refine then_n ?_ | refine block_n ?_)
      refine aops_ix tok (alC a) rfl rfl rfl rfl (by omega) (by omega) (by simp [alC]) (al_at ha) rfl rfl rfl ?_
      repeat (first | refine aops_put rfl ?_ | refine aops_end ?_ | refine aops_endb ?_ | refine aops_o rfl rfl rfl ?_ | refine aops_max tok rfl rfl rfl rfl rfl rfl ?_ | refine aops_min tok rfl rfl rfl rfl rfl rfl ?_ | refine aops_a tok rfl (by omega) (by omega) rfl rfl rfl ?_ | refine aops_p tok rfl rfl rfl rfl ?_ | refine aops_ixa tok rfl rfl rfl (by decide) rfl rfl rfl rfl ?_ | refine aops_ld tok 0 rfl rfl rfl rfl rfl rfl rfl rfl ?_ | refine aops_ld tok 1 rfl rfl rfl rfl rfl rfl rfl rfl ?_ | refine aops_stn tok rfl rfl rfl rfl rfl rfl rfl rfl rfl ?_ | refine aops_stn1 tok rfl rfl rfl rfl rfl rfl rfl rfl rfl ?_ | refine acode_seq ?_ | refine acode_region ?_ | refine acode_block ?_ | refine acode_skip ?_ | refine then_n ?_ | refine block_n ?_)
      refine aops_alloc tok rfl rfl rfl rfl rfl rfl fun ba => ?_
      refine aops_stn tok rfl rfl rfl rfl rfl rfl rfl rfl rfl ?_
      refine aops_pubref0 9 rfl ?_
      repeat (first | refine aops_put rfl ?_ | refine aops_end ?_ | refine aops_endb ?_ | refine aops_o rfl rfl rfl ?_ | refine aops_max tok rfl rfl rfl rfl rfl rfl ?_ | refine aops_min tok rfl rfl rfl rfl rfl rfl ?_ | refine aops_a tok rfl (by omega) (by omega) rfl rfl rfl ?_ | refine aops_p tok rfl rfl rfl rfl ?_ | refine aops_ixa tok rfl rfl rfl (by decide) rfl rfl rfl rfl ?_ | refine aops_ld tok 0 rfl rfl rfl rfl rfl rfl rfl rfl ?_ | refine aops_ld tok 1 rfl rfl rfl rfl rfl rfl rfl rfl ?_ | refine aops_stn tok rfl rfl rfl rfl rfl rfl rfl rfl rfl ?_ | refine aops_stn1 tok rfl rfl rfl rfl rfl rfl rfl rfl rfl ?_ | refine acode_seq ?_ | refine acode_region ?_ | refine acode_block ?_ | refine acode_skip ?_ | refine then_n ?_ | refine block_n ?_)
      refine acode_drawT 11 mixed (by kernel_rfl) (by kernel_rfl) ?_
      repeat (first | refine seqT_put rfl ?_ | refine seqT_o rfl rfl rfl ?_ | refine seqT_max tok rfl rfl rfl rfl rfl rfl ?_ | refine seqT_min tok rfl rfl rfl rfl rfl rfl ?_ | refine seqT_a tok rfl (by omega) (by omega) rfl rfl rfl ?_ | refine seqT_p tok rfl rfl rfl rfl ?_ | refine seqT_ixa tok rfl rfl rfl (by decide) rfl rfl rfl rfl ?_ | refine seqT_ld tok 0 rfl rfl rfl rfl rfl rfl rfl rfl ?_ | refine seqT_ld tok 1 rfl rfl rfl rfl rfl rfl rfl rfl ?_)
      refine seqT_ixo tok rfl rfl rfl rfl (by omega) (by omega) rfl rfl rfl ?_
      refine seqT_ld tok 0 (y := .int .i64 sv) rfl rfl rfl rfl (by rw [headed_eq]; show (ints vs)[i * 1]? = _; rw [Nat.mul_one]; exact ints_get hget) rfl rfl rfl ?_
      repeat (first | refine seqT_put rfl ?_ | refine seqT_o rfl rfl rfl ?_ | refine seqT_max tok rfl rfl rfl rfl rfl rfl ?_ | refine seqT_min tok rfl rfl rfl rfl rfl rfl ?_ | refine seqT_a tok rfl (by omega) (by omega) rfl rfl rfl ?_ | refine seqT_p tok rfl rfl rfl rfl ?_ | refine seqT_ixa tok rfl rfl rfl (by decide) rfl rfl rfl rfl ?_ | refine seqT_ld tok 0 rfl rfl rfl rfl rfl rfl rfl rfl ?_ | refine seqT_ld tok 1 rfl rfl rfl rfl rfl rfl rfl rfl ?_)
      refine seqT_call _ Try.func66 rfl rfl rfl rfl (acalls_view (.cons (.own (sz := 1) (.head _) rfl (by rw [ints_len, hvl, Nat.mul_one]) (by decide) (VwL.rfl' _)) (.cons (.refl _) .nil)) (hall []) rfl) rfl rfl rfl ?_
      refine seqT_call _ Try.func54 rfl rfl rfl rfl (add_calls hs haN _) rfl rfl rfl ?_
      rw [← hsum]
      refine seqT_ixo tok rfl rfl rfl rfl (by omega) (by omega) rfl rfl rfl ?_
      refine SeqT.done ?_
      refine aops_sto tok (ints (vs.set i (altsF (trees f) 0 (nd.alts.take (q + 1))))) rfl rfl rfl rfl rfl (by rw [ints_len, hvl]; show i * 1 + 1 ≤ _; omega) (ints_set1 (by rw [hvl]; exact hi) _) rfl rfl ?_
      repeat (first | refine aops_put rfl ?_ | refine aops_end ?_ | refine aops_endb ?_ | refine aops_o rfl rfl rfl ?_ | refine aops_max tok rfl rfl rfl rfl rfl rfl ?_ | refine aops_min tok rfl rfl rfl rfl rfl rfl ?_ | refine aops_a tok rfl (by omega) (by omega) rfl rfl rfl ?_ | refine aops_p tok rfl rfl rfl rfl ?_ | refine aops_ixa tok rfl rfl rfl (by decide) rfl rfl rfl rfl ?_ | refine aops_ld tok 0 rfl rfl rfl rfl rfl rfl rfl rfl ?_ | refine aops_ld tok 1 rfl rfl rfl rfl rfl rfl rfl rfl ?_ | refine aops_stn tok rfl rfl rfl rfl rfl rfl rfl rfl rfl ?_ | refine aops_stn1 tok rfl rfl rfl rfl rfl rfl rfl rfl rfl ?_ | refine acode_seq ?_ | refine acode_region ?_ | refine acode_block ?_ | refine acode_skip ?_ | refine then_n ?_ | refine block_n ?_)
      exact ⟨q + 1, by omega, by omega, ⟨rfl, rfl, rfl, rfl, rfl, rfl, rfl, rfl, rfl, trivial⟩, by rw [hset]⟩
    · have hge : q = nd.alts.length := by omega
      subst hge
      rw [List.take_length, ← hal, ← trees_eq hwf, rowV_set hi]
      refine acode_exit ?_
      repeat (first | refine exit_then ?_ | refine exit_here ?_ | refine exit_out rfl ?_ | refine ret_then ?_ | refine ret_block ?_ | refine then_n ?_ | refine block_n ?_)
      repeat (first | refine aops_put rfl ?_ | refine aops_end ?_ | refine aops_endb ?_ | refine aops_o rfl rfl rfl ?_ | refine aops_max tok rfl rfl rfl rfl rfl rfl ?_ | refine aops_min tok rfl rfl rfl rfl rfl rfl ?_ | refine aops_a tok rfl (by omega) (by omega) rfl rfl rfl ?_ | refine aops_p tok rfl rfl rfl rfl ?_ | refine aops_ixa tok rfl rfl rfl (by decide) rfl rfl rfl rfl ?_ | refine aops_ld tok 0 rfl rfl rfl rfl rfl rfl rfl rfl ?_ | refine aops_ld tok 1 rfl rfl rfl rfl rfl rfl rfl rfl ?_ | refine aops_stn tok rfl rfl rfl rfl rfl rfl rfl rfl rfl ?_ | refine aops_stn1 tok rfl rfl rfl rfl rfl rfl rfl rfl rfl ?_ | refine acode_seq ?_ | refine acode_region ?_ | refine acode_block ?_ | refine acode_skip ?_ | refine then_n ?_ | refine block_n ?_)
      exact ⟨p + 1, by omega, by omega, ⟨rfl, rfl, rfl, rfl, rfl, trivial⟩, by rw [List.take_add_one, hpi]; rfl⟩
  · have hge : p = l.length := by omega
    subst hge
    rw [List.take_length, rowV_all hall]
    refine acode_exit ?_
    repeat (first | refine exit_then ?_ | refine exit_here ?_ | refine exit_out rfl ?_ | refine ret_then ?_ | refine ret_block ?_ | refine then_n ?_ | refine block_n ?_)
    repeat (first | refine aops_put rfl ?_ | refine aops_end ?_ | refine aops_endb ?_ | refine aops_o rfl rfl rfl ?_ | refine aops_max tok rfl rfl rfl rfl rfl rfl ?_ | refine aops_min tok rfl rfl rfl rfl rfl rfl ?_ | refine aops_a tok rfl (by omega) (by omega) rfl rfl rfl ?_ | refine aops_p tok rfl rfl rfl rfl ?_ | refine aops_ixa tok rfl rfl rfl (by decide) rfl rfl rfl rfl ?_ | refine aops_ld tok 0 rfl rfl rfl rfl rfl rfl rfl rfl ?_ | refine aops_ld tok 1 rfl rfl rfl rfl rfl rfl rfl rfl ?_ | refine aops_stn tok rfl rfl rfl rfl rfl rfl rfl rfl rfl ?_ | refine aops_stn1 tok rfl rfl rfl rfl rfl rfl rfl rfl rfl ?_ | refine acode_seq ?_ | refine acode_region ?_ | refine acode_block ?_ | refine acode_skip ?_ | refine then_n ?_ | refine block_n ?_)
    refine acode_pub0 4 1 rfl rfl (by simp [ints]) rfl ?_
    refine acode_ret ?_
    repeat (first | refine exit_then ?_ | refine exit_here ?_ | refine exit_out rfl ?_ | refine ret_then ?_ | refine ret_block ?_ | refine then_n ?_ | refine block_n ?_)
    exact ⟨_, ⟨rfl, rfl⟩, resOf_tmp rfl⟩
end Go.Proofs.Ytnlmfhnjjblhoaa.Ab

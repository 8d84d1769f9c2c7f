/- Chapter 21: the n-th tree: the walk. No condition. -/
import Derived.Test.YtnlmfhnjjblhoaaUnf1
set_option linter.unusedVariables false
set_option linter.unusedSimpArgs false
namespace Go.Proofs.Ytnlmfhnjjblhoaa.Ab
attribute [local irreducible] thenA inBlockA ACode AOps put IntKind.wrap

def zeroT : List A := [.int .i64 0, .int .i64 0, .nils]
theorem zerosA_snoc (z : List A) (n : Nat) : zerosA z (n + 1) = zerosA z n ++ z := by
  unfold zerosA; rw [List.replicate_succ', List.flatten_append]; simp
theorem zerosA_len (z : List A) (n : Nat) : (zerosA z n).length = n * z.length := by
  induction n with
  | zero => simp [zerosA]
  | succ n ih => rw [zerosA_snoc, List.length_append, ih, Nat.succ_mul]
theorem encs_cons {α : Type} (e : α → List A) (x : α) (l : List α) : encs e (x :: l) = e x ++ encs e l := by simp [encs]
theorem plen_drop {α : Type} {ls : List (List α)} {j : Nat} {l : List α} (h : ls[j]? = some l) : plen (ls.drop j) = l.length * plen (ls.drop (j + 1)) := by
  rw [drop_at h]; rfl
theorem plen_pos {α : Type} : ∀ {ls : List (List α)} {l : List α}, 0 < plen ls → l ∈ ls → 0 < l.length ∧ l.length ≤ plen ls
  | [], _, _, h => by cases h
  | l0 :: ls, l, hp, h => by
    simp only [plen] at hp ⊢
    have h1 : 0 < l0.length := Nat.pos_of_mul_pos_right hp
    have h2 : 0 < plen ls := Nat.pos_of_mul_pos_left hp
    rcases List.mem_cons.1 h with rfl | h
    · exact ⟨h1, Nat.le_mul_of_pos_right _ h2⟩
    · obtain ⟨a, b⟩ := plen_pos h2 h
      exact ⟨a, Nat.le_trans b (Nat.le_mul_of_pos_left _ h1)⟩
theorem flat_drop {α β : Type} {g : α → List β} {l : List α} {q : Nat} {x : α} (h : l[q]? = some x) : (l.drop q).flatMap g = g x ++ (l.drop (q + 1)).flatMap g := by
  rw [drop_at h, List.flatMap_cons]
theorem trees_exact {f : Fo} {k : Nat} (h : WF f k) (hb : ((trL f k).length : Int) < great) : trees f k = (trL f k).length := by
  rw [trees_sat h, sat_small (by omega)]
/-- What is left of a number behind some digits. -/
def dig {α : Type} (ls : List (List α)) (n j : Nat) : Nat := n / plen (ls.drop j)
theorem dig_all {α : Type} {ls : List (List α)} {n m : Nat} (h : ls.length = m) : dig ls n m = n := by subst h; simp [dig, plen]
theorem dig_le {α : Type} (ls : List (List α)) (n j : Nat) : dig ls n j ≤ n := Nat.div_le_self _ _
theorem dig_step {α : Type} {ls : List (List α)} {n j : Nat} {l : List α} (h : ls[j]? = some l) : dig ls n j = dig ls n (j + 1) / l.length := by
  unfold dig; rw [plen_drop h, Nat.div_div_eq_div_mul, Nat.mul_comm]
/-- The n-th tree of a node is told. -/
def NodeC (f : Fo) (M : List Ob) (i : Nat) : Prop := ∀ n : Nat, n < (trL f i).length → ACalls Try.prog 63 [.pp (liC f), .int .i64 i, .int .i64 n] M (fun r M' => ∃ t, (trL f i)[n]? = some t ∧ r = trA t ∧ M' = M)

set_option maxHeartbeats 4000000 in
theorem ukids_calls {f : Fo} (hf : FoOk f) {a : Al} (hal : a.kids.length ≤ 1000000) (hrg : ∀ k ∈ a.kids, rng k) {M : List Ob} (hk : ∀ k : Nat, (k : Int) ∈ a.kids → WF f k ∧ ∀ M, ((trL f k).length : Int) < great → NodeC f M k) {n : Nat} (hn : n < plen (kidsL (trL f) a.kids)) (hb : (plen (kidsL (trL f) a.kids) : Int) < great) :
    ACalls Try.prog 80 [.pp (liC f), .agg (alC a), .int .i64 n] M (fun r M' => ∃ out, (prodL (kidsL (trL f) a.kids))[n]? = some out ∧ r = .psl out.length (encs trC out) ∧ M' = M) := by
  obtain ⟨hf1, hf2⟩ := id hf
  obtain ⟨out, ho1, ho2, ho3⟩ := prodL_at (kidsL (trL f) a.kids) n hn
  have hLl : (kidsL (trL f) a.kids).length = a.kids.length := by simp [kidsL]
  have hgr : great = 4611686018427387903 := rfl
  have hpos : 0 < plen (kidsL (trL f) a.kids) := by omega
  have hLj : ∀ (j : Nat) (k : Int), a.kids[j]? = some k → (kidsL (trL f) a.kids)[j]? = some (if 0 ≤ k then trL f k.toNat else [leafT k]) := fun j k h => by simp [kidsL, h]
  have hmem : ∀ (j : Nat) l, (kidsL (trL f) a.kids)[j]? = some l → 0 < l.length ∧ l.length ≤ plen (kidsL (trL f) a.kids) := fun j l h => plen_pos hpos (List.mem_of_getElem? h)
  generalize kidsL (trL f) a.kids = L at *
  have hol : out.length = a.kids.length := by omega
  refine acalls_of_code 58 Try.func80 rfl rfl rfl ?_
  repeat (first | refine aops_put rfl ?_ | refine aops_end ?_ | refine aops_endb ?_ | refine aops_o rfl rfl rfl ?_ | refine aops_max tok rfl rfl rfl rfl rfl rfl ?_ | refine aops_min tok rfl rfl rfl rfl rfl rfl ?_ | refine aops_a tok rfl (by omega) (by omega) rfl rfl rfl ?_ | refine aops_p tok rfl rfl rfl rfl ?_ | refine aops_ixa tok rfl rfl rfl (by decide) rfl rfl rfl rfl ?_ | refine aops_ld tok 0 rfl rfl rfl rfl rfl rfl rfl rfl ?_ | refine aops_ld tok 1 rfl rfl rfl rfl rfl rfl rfl rfl ?_ | refine aops_stn tok rfl rfl rfl rfl rfl rfl rfl rfl rfl ?_ | refine aops_stn1 tok rfl rfl rfl rfl rfl rfl rfl rfl rfl ?_ | refine acode_seq ?_ | refine acode_region ?_ | refine acode_block ?_ | refine acode_skip ?_ | refine then_n ?_ | refine block_n ?_)
  refine aops_boxf rfl rfl rfl rfl rfl rfl rfl ?_
  repeat (first | refine aops_put rfl ?_ | refine aops_end ?_ | refine aops_endb ?_ | refine aops_o rfl rfl rfl ?_ | refine aops_max tok rfl rfl rfl rfl rfl rfl ?_ | refine aops_min tok rfl rfl rfl rfl rfl rfl ?_ | refine aops_a tok rfl (by omega) (by omega) rfl rfl rfl ?_ | refine aops_p tok rfl rfl rfl rfl ?_ | refine aops_ixa tok rfl rfl rfl (by decide) rfl rfl rfl rfl ?_ | refine aops_ld tok 0 rfl rfl rfl rfl rfl rfl rfl rfl ?_ | refine aops_ld tok 1 rfl rfl rfl rfl rfl rfl rfl rfl ?_ | refine aops_stn tok rfl rfl rfl rfl rfl rfl rfl rfl rfl ?_ | refine aops_stn1 tok rfl rfl rfl rfl rfl rfl rfl rfl rfl ?_ | refine acode_seq ?_ | refine acode_region ?_ | refine acode_block ?_ | refine acode_skip ?_ | refine then_n ?_ | refine block_n ?_)
  refine aops_mk tok a.kids.length rfl rfl rfl rfl rfl rfl (by show _ * 40 ≤ _; omega) (by omega) rfl rfl rfl fun b => ?_
  repeat (first | refine aops_put rfl ?_ | refine aops_end ?_ | refine aops_endb ?_ | refine aops_o rfl rfl rfl ?_ | refine aops_max tok rfl rfl rfl rfl rfl rfl ?_ | refine aops_min tok rfl rfl rfl rfl rfl rfl ?_ | refine aops_a tok rfl (by omega) (by omega) rfl rfl rfl ?_ | refine aops_p tok rfl rfl rfl rfl ?_ | refine aops_ixa tok rfl rfl rfl (by decide) rfl rfl rfl rfl ?_ | refine aops_ld tok 0 rfl rfl rfl rfl rfl rfl rfl rfl ?_ | refine aops_ld tok 1 rfl rfl rfl rfl rfl rfl rfl rfl ?_ | refine aops_stn tok rfl rfl rfl rfl rfl rfl rfl rfl rfl ?_ | refine aops_stn1 tok rfl rfl rfl rfl rfl rfl rfl rfl rfl ?_ | refine acode_seq ?_ | refine acode_region ?_ | refine acode_block ?_ | refine acode_skip ?_ | refine then_n ?_ | refine block_n ?_)
  refine acode_loopS (ι := Nat) (fun j => [(0, .pp (liC f)), (4, .pp (alC a)), (7, .own (some b) a.kids.length a.kids.length), (8, .int .i64 ((j : Int) - 1)), (2, .int .i64 (dig L n j : Nat))]) (fun j => ⟨some b, a.kids.length * 3, zerosA zeroT j ++ encs trC (out.drop j)⟩ :: M) (fun j => j) (fun j => j ≤ a.kids.length) a.kids.length (Nat.le_refl _) ⟨rfl, rfl, rfl, rfl, by rw [dig_all hLl]; rfl, trivial⟩ (by rw [← hol, List.drop_length]; simp [encs]; rfl) ?_
  intro j hj
  repeat (first | refine aops_put rfl ?_ | refine aops_end ?_ | refine aops_endb ?_ | refine aops_o rfl rfl rfl ?_ | refine aops_max tok rfl rfl rfl rfl rfl rfl ?_ | refine aops_min tok rfl rfl rfl rfl rfl rfl ?_ | refine aops_a tok rfl (by omega) (by omega) rfl rfl rfl ?_ | refine aops_p tok rfl rfl rfl rfl ?_ | refine aops_ixa tok rfl rfl rfl (by decide) rfl rfl rfl rfl ?_ | refine aops_ld tok 0 rfl rfl rfl rfl rfl rfl rfl rfl ?_ | refine aops_ld tok 1 rfl rfl rfl rfl rfl rfl rfl rfl ?_ | refine aops_stn tok rfl rfl rfl rfl rfl rfl rfl rfl rfl ?_ | refine aops_stn1 tok rfl rfl rfl rfl rfl rfl rfl rfl rfl ?_ | refine acode_seq ?_ | refine acode_region ?_ | refine acode_block ?_ | refine acode_skip ?_ | refine then_n ?_ | refine block_n ?_)
  refine acode_id rfl (fun e => ?_) (fun e => ?_)
  · obtain ⟨i, rfl⟩ : ∃ i, j = i + 1 := ⟨j - 1, by omega⟩
    have hi : i < a.kids.length := by omega
    have hsub : ((i + 1 : Nat) : Int) - 1 = i := by omega
    rw [hsub]
    obtain ⟨k, hki⟩ : ∃ k, a.kids[i]? = some k := ⟨a.kids[i], List.getElem?_eq_getElem hi⟩
    have hkm := List.mem_of_getElem? hki
    have hkr := hrg k hkm
    have hLi := hLj i k hki
    obtain ⟨t, ht1, ht2⟩ := ho3 i _ hLi
    have hpd := dig_step (n := n) hLi
    have ht2 : (if 0 ≤ k then trL f k.toNat else [leafT k])[dig L n (i + 1) % (if 0 ≤ k then trL f k.toNat else [leafT k]).length]? = some t := ht2
    obtain ⟨hl0, hl1⟩ := hmem i _ hLi
    have hod : out.drop i = t :: out.drop (i + 1) := drop_at ht1
    have hle := dig_le L n (i + 1)
    have hcs : ∀ y : List A, y.length = 3 → (zerosA zeroT (i + 1) ++ encs trC (out.drop (i + 1))).take (i * 3) ++ (y ++ (zerosA zeroT (i + 1) ++ encs trC (out.drop (i + 1))).drop (i * 3 + 3)) = zerosA zeroT i ++ (y ++ encs trC (out.drop (i + 1))) := by
      intro y hy
      have hz : (zerosA zeroT i).length = i * 3 := zerosA_len _ _
      rw [zerosA_snoc, List.append_assoc, ← hz, List.take_left, ← List.drop_drop, List.drop_left, show (3 : Nat) = zeroT.length from rfl, List.drop_left]
    have hlen : (zerosA zeroT (i + 1) ++ encs trC (out.drop (i + 1))).length = a.kids.length * 3 := by
      rw [List.length_append, zerosA_len, encs_len trC_len, List.length_drop, hol]
      show (i + 1) * 3 + (a.kids.length - (i + 1)) * 3 = _
      omega
    repeat (first | refine aops_put rfl ?_ | refine aops_end ?_ | refine aops_endb ?_ | refine aops_o rfl rfl rfl ?_ | refine aops_max tok rfl rfl rfl rfl rfl rfl ?_ | refine aops_min tok rfl rfl rfl rfl rfl rfl ?_ | refine aops_a tok rfl (by omega) (by omega) rfl rfl rfl ?_ | refine aops_p tok rfl rfl rfl rfl ?_ | refine aops_ixa tok rfl rfl rfl (by decide) rfl rfl rfl rfl ?_ | refine aops_ld tok 0 rfl rfl rfl rfl rfl rfl rfl rfl ?_ | refine aops_ld tok 1 rfl rfl rfl rfl rfl rfl rfl rfl ?_ | refine aops_stn tok rfl rfl rfl rfl rfl rfl rfl rfl rfl ?_ | refine aops_stn1 tok rfl rfl rfl rfl rfl rfl rfl rfl rfl ?_ | refine acode_seq ?_ | refine acode_region ?_ | refine acode_block ?_ | refine acode_skip ?_ | refine then_n ?_ | refine block_n ?_)
    refine aops_ix tok [A.int .i64 k] rfl rfl rfl rfl (by omega) (by omega) (by simp) (ints_at (j := i) (by simpa using hki)) rfl rfl rfl ?_
    repeat' (first | refine aops_put rfl ?_ | refine aops_end ?_ | refine aops_endb ?_ | refine aops_o rfl rfl rfl ?_ | refine aops_max tok rfl rfl rfl rfl rfl rfl ?_ | refine aops_min tok rfl rfl rfl rfl rfl rfl ?_ | refine aops_a tok rfl (by omega) (by omega) rfl rfl rfl ?_ | (refine aops_pd tok rfl rfl rfl rfl ?_ ?_ <;> intro e_) | (refine aops_pe tok rfl rfl rfl rfl ?_ ?_ <;> intro e_) | (refine aops_pn tok rfl rfl rfl rfl ?_ ?_ <;> intro e_) | refine aops_p tok rfl rfl rfl rfl ?_ | refine acode_it rfl ?_ | refine acode_if rfl ?_ | refine aops_ixa tok rfl rfl rfl (by decide) rfl rfl rfl rfl ?_ | refine aops_ld tok 0 rfl rfl rfl rfl rfl rfl rfl rfl ?_ | refine aops_ld tok 1 rfl rfl rfl rfl rfl rfl rfl rfl ?_ | refine aops_stn tok rfl rfl rfl rfl rfl rfl rfl rfl rfl ?_ | refine aops_stn1 tok rfl rfl rfl rfl rfl rfl rfl rfl rfl ?_ | refine acode_seq ?_ | refine acode_region ?_ | refine acode_block ?_ | refine acode_skip ?_ | refine then_n ?_ | refine block_n ?_)
    · -- a token
      rw [if_neg (by omega)] at ht2 hpd hLi
      have htl : t = leafT k := by simpa [Nat.mod_one] using ht2.symm
      subst htl
      refine aops_callx Try.func83 rfl rfl rfl rfl (leaf_calls hkr _) rfl rfl rfl ?_
      repeat (first | refine aops_put rfl ?_ | refine aops_end ?_ | refine aops_endb ?_ | refine aops_o rfl rfl rfl ?_ | refine aops_max tok rfl rfl rfl rfl rfl rfl ?_ | refine aops_min tok rfl rfl rfl rfl rfl rfl ?_ | refine aops_a tok rfl (by omega) (by omega) rfl rfl rfl ?_ | refine aops_p tok rfl rfl rfl rfl ?_ | refine aops_ixa tok rfl rfl rfl (by decide) rfl rfl rfl rfl ?_ | refine aops_ld tok 0 rfl rfl rfl rfl rfl rfl rfl rfl ?_ | refine aops_ld tok 1 rfl rfl rfl rfl rfl rfl rfl rfl ?_ | refine aops_stn tok rfl rfl rfl rfl rfl rfl rfl rfl rfl ?_ | refine aops_stn1 tok rfl rfl rfl rfl rfl rfl rfl rfl rfl ?_ | refine acode_seq ?_ | refine acode_region ?_ | refine acode_block ?_ | refine acode_skip ?_ | refine then_n ?_ | refine block_n ?_)
      refine aops_ixo tok rfl rfl rfl rfl (by omega) (by omega) rfl rfl rfl ?_
      refine aops_stk tok 0 (zerosA zeroT i ++ encs trC (out.drop i)) (⟨some b, a.kids.length * 3, zerosA zeroT i ++ encs trC (out.drop i)⟩ :: M) rfl rfl rfl rfl rfl rfl (by rw [hlen]; show i * 3 + 3 ≤ _; omega) (by rw [hod, encs_cons, trC_eq]; exact hcs _ rfl) rfl rfl rfl ?_
      refine aops_end ?_
      refine acode_exit ?_
      repeat (first | refine exit_then ?_ | refine exit_here ?_ | refine exit_out rfl ?_ | refine ret_then ?_ | refine ret_block ?_ | refine then_n ?_ | refine block_n ?_)
      repeat (first | refine aops_put rfl ?_ | refine aops_end ?_ | refine aops_endb ?_ | refine aops_o rfl rfl rfl ?_ | refine aops_max tok rfl rfl rfl rfl rfl rfl ?_ | refine aops_min tok rfl rfl rfl rfl rfl rfl ?_ | refine aops_a tok rfl (by omega) (by omega) rfl rfl rfl ?_ | refine aops_p tok rfl rfl rfl rfl ?_ | refine aops_ixa tok rfl rfl rfl (by decide) rfl rfl rfl rfl ?_ | refine aops_ld tok 0 rfl rfl rfl rfl rfl rfl rfl rfl ?_ | refine aops_ld tok 1 rfl rfl rfl rfl rfl rfl rfl rfl ?_ | refine aops_stn tok rfl rfl rfl rfl rfl rfl rfl rfl rfl ?_ | refine aops_stn1 tok rfl rfl rfl rfl rfl rfl rfl rfl rfl ?_ | refine acode_seq ?_ | refine acode_region ?_ | refine acode_block ?_ | refine acode_skip ?_ | refine then_n ?_ | refine block_n ?_)
      have hpd : dig L n i = dig L n (i + 1) := by rw [hpd]; simp
      exact ⟨i, by omega, by omega, ⟨rfl, rfl, rfl, rfl, by rw [hpd]; rfl, trivial⟩, rfl⟩
    · -- a node
      obtain ⟨k', rfl⟩ : ∃ k' : Nat, k = k' := ⟨k.toNat, by omega⟩
      rw [if_pos (by omega), Int.toNat_natCast] at ht2 hpd hLi hl0 hl1
      obtain ⟨hwk, hck⟩ := hk k' hkm
      have hkb : ((trL f k').length : Int) < great := by omega
      have hte := trees_exact hwk hkb
      have hkn := hwk.lt
      have hget := range_get (trees f) hkn
      rw [hte] at hget
      repeat (first | refine aops_put rfl ?_ | refine aops_end ?_ | refine aops_endb ?_ | refine aops_o rfl rfl rfl ?_ | refine aops_max tok rfl rfl rfl rfl rfl rfl ?_ | refine aops_min tok rfl rfl rfl rfl rfl rfl ?_ | refine aops_a tok rfl (by omega) (by omega) rfl rfl rfl ?_ | refine aops_p tok rfl rfl rfl rfl ?_ | refine aops_ixa tok rfl rfl rfl (by decide) rfl rfl rfl rfl ?_ | refine aops_ld tok 0 rfl rfl rfl rfl rfl rfl rfl rfl ?_ | refine aops_ld tok 1 rfl rfl rfl rfl rfl rfl rfl rfl ?_ | refine aops_stn tok rfl rfl rfl rfl rfl rfl rfl rfl rfl ?_ | refine aops_stn1 tok rfl rfl rfl rfl rfl rfl rfl rfl rfl ?_ | refine acode_seq ?_ | refine acode_region ?_ | refine acode_block ?_ | refine acode_skip ?_ | refine then_n ?_ | refine block_n ?_)
      refine aops_ix tok [A.int .i64 ((trL f k').length : Nat)] rfl rfl rfl rfl (by omega) (by omega) (by simp) (ints_at (j := k') hget) rfl rfl rfl ?_
      repeat (first | refine aops_put rfl ?_ | refine aops_end ?_ | refine aops_endb ?_ | refine aops_o rfl rfl rfl ?_ | refine aops_max tok rfl rfl rfl rfl rfl rfl ?_ | refine aops_min tok rfl rfl rfl rfl rfl rfl ?_ | refine aops_a tok rfl (by omega) (by omega) rfl rfl rfl ?_ | refine aops_p tok rfl rfl rfl rfl ?_ | refine aops_ixa tok rfl rfl rfl (by decide) rfl rfl rfl rfl ?_ | refine aops_ld tok 0 rfl rfl rfl rfl rfl rfl rfl rfl ?_ | refine aops_ld tok 1 rfl rfl rfl rfl rfl rfl rfl rfl ?_ | refine aops_stn tok rfl rfl rfl rfl rfl rfl rfl rfl rfl ?_ | refine aops_stn1 tok rfl rfl rfl rfl rfl rfl rfl rfl rfl ?_ | refine acode_seq ?_ | refine acode_region ?_ | refine acode_block ?_ | refine acode_skip ?_ | refine then_n ?_ | refine block_n ?_)
      refine aops_rem rfl rfl rfl (by omega) (by omega) (by omega) rfl rfl rfl ?_
      rw [← Int.natCast_emod]
      refine aops_call Try.func63 rfl rfl rfl rfl (hck _ hkb _ (Nat.mod_lt _ hl0)) rfl rfl ?_
      rintro x M' ⟨t', h1, rfl, rfl⟩
      obtain rfl : t = t' := Option.some.inj (ht2.symm.trans h1)
      repeat (first | refine aops_put rfl ?_ | refine aops_end ?_ | refine aops_endb ?_ | refine aops_o rfl rfl rfl ?_ | refine aops_max tok rfl rfl rfl rfl rfl rfl ?_ | refine aops_min tok rfl rfl rfl rfl rfl rfl ?_ | refine aops_a tok rfl (by omega) (by omega) rfl rfl rfl ?_ | refine aops_p tok rfl rfl rfl rfl ?_ | refine aops_ixa tok rfl rfl rfl (by decide) rfl rfl rfl rfl ?_ | refine aops_ld tok 0 rfl rfl rfl rfl rfl rfl rfl rfl ?_ | refine aops_ld tok 1 rfl rfl rfl rfl rfl rfl rfl rfl ?_ | refine aops_stn tok rfl rfl rfl rfl rfl rfl rfl rfl rfl ?_ | refine aops_stn1 tok rfl rfl rfl rfl rfl rfl rfl rfl rfl ?_ | refine acode_seq ?_ | refine acode_region ?_ | refine acode_block ?_ | refine acode_skip ?_ | refine then_n ?_ | refine block_n ?_)
      refine aops_ixo tok rfl rfl rfl rfl (by omega) (by omega) rfl rfl rfl ?_
      refine aops_stk tok 0 (zerosA zeroT i ++ encs trC (out.drop i)) (⟨some b, a.kids.length * 3, zerosA zeroT i ++ encs trC (out.drop i)⟩ :: M) rfl rfl rfl rfl rfl rfl (by rw [hlen]; show i * 3 + 3 ≤ _; omega) (by rw [hod, encs_cons, trC_eq]; exact hcs _ rfl) rfl rfl rfl ?_
      repeat (first | refine aops_put rfl ?_ | refine aops_end ?_ | refine aops_endb ?_ | refine aops_o rfl rfl rfl ?_ | refine aops_max tok rfl rfl rfl rfl rfl rfl ?_ | refine aops_min tok rfl rfl rfl rfl rfl rfl ?_ | refine aops_a tok rfl (by omega) (by omega) rfl rfl rfl ?_ | refine aops_p tok rfl rfl rfl rfl ?_ | refine aops_ixa tok rfl rfl rfl (by decide) rfl rfl rfl rfl ?_ | refine aops_ld tok 0 rfl rfl rfl rfl rfl rfl rfl rfl ?_ | refine aops_ld tok 1 rfl rfl rfl rfl rfl rfl rfl rfl ?_ | refine aops_stn tok rfl rfl rfl rfl rfl rfl rfl rfl rfl ?_ | refine aops_stn1 tok rfl rfl rfl rfl rfl rfl rfl rfl rfl ?_ | refine acode_seq ?_ | refine acode_region ?_ | refine acode_block ?_ | refine acode_skip ?_ | refine then_n ?_ | refine block_n ?_)
      refine aops_ix tok [A.int .i64 ((trL f k').length : Nat)] rfl rfl rfl rfl (by omega) (by omega) (by simp) (ints_at (j := k') hget) rfl rfl rfl ?_
      repeat (first | refine aops_put rfl ?_ | refine aops_end ?_ | refine aops_endb ?_ | refine aops_o rfl rfl rfl ?_ | refine aops_max tok rfl rfl rfl rfl rfl rfl ?_ | refine aops_min tok rfl rfl rfl rfl rfl rfl ?_ | refine aops_a tok rfl (by omega) (by omega) rfl rfl rfl ?_ | refine aops_p tok rfl rfl rfl rfl ?_ | refine aops_ixa tok rfl rfl rfl (by decide) rfl rfl rfl rfl ?_ | refine aops_ld tok 0 rfl rfl rfl rfl rfl rfl rfl rfl ?_ | refine aops_ld tok 1 rfl rfl rfl rfl rfl rfl rfl rfl ?_ | refine aops_stn tok rfl rfl rfl rfl rfl rfl rfl rfl rfl ?_ | refine aops_stn1 tok rfl rfl rfl rfl rfl rfl rfl rfl rfl ?_ | refine acode_seq ?_ | refine acode_region ?_ | refine acode_block ?_ | refine acode_skip ?_ | refine then_n ?_ | refine block_n ?_)
      refine aops_quo rfl rfl rfl (by omega) (by omega) (by omega) rfl rfl rfl ?_
      rw [← Int.natCast_ediv]
      repeat (first | refine aops_put rfl ?_ | refine aops_end ?_ | refine aops_endb ?_ | refine aops_o rfl rfl rfl ?_ | refine aops_max tok rfl rfl rfl rfl rfl rfl ?_ | refine aops_min tok rfl rfl rfl rfl rfl rfl ?_ | refine aops_a tok rfl (by omega) (by omega) rfl rfl rfl ?_ | refine aops_p tok rfl rfl rfl rfl ?_ | refine aops_ixa tok rfl rfl rfl (by decide) rfl rfl rfl rfl ?_ | refine aops_ld tok 0 rfl rfl rfl rfl rfl rfl rfl rfl ?_ | refine aops_ld tok 1 rfl rfl rfl rfl rfl rfl rfl rfl ?_ | refine aops_stn tok rfl rfl rfl rfl rfl rfl rfl rfl rfl ?_ | refine aops_stn1 tok rfl rfl rfl rfl rfl rfl rfl rfl rfl ?_ | refine acode_seq ?_ | refine acode_region ?_ | refine acode_block ?_ | refine acode_skip ?_ | refine then_n ?_ | refine block_n ?_)
      exact ⟨i, by omega, by omega, ⟨rfl, rfl, rfl, rfl, by rw [hpd]; rfl, trivial⟩, rfl⟩
  · have hge : j = 0 := by omega
    subst hge
    refine acode_exit ?_
    repeat (first | refine exit_then ?_ | refine exit_here ?_ | refine exit_out rfl ?_ | refine ret_then ?_ | refine ret_block ?_ | refine then_n ?_ | refine block_n ?_)
    refine acode_pub0 7 3 (n := out.length) (by rw [hol]; rfl) rfl (by show (_ ++ encs trC out).length = _; rw [List.length_append, encs_len trC_len, zerosA_len]; simp) rfl ?_
    repeat (first | refine aops_put rfl ?_ | refine aops_end ?_ | refine aops_endb ?_ | refine aops_o rfl rfl rfl ?_ | refine aops_max tok rfl rfl rfl rfl rfl rfl ?_ | refine aops_min tok rfl rfl rfl rfl rfl rfl ?_ | refine aops_a tok rfl (by omega) (by omega) rfl rfl rfl ?_ | refine aops_p tok rfl rfl rfl rfl ?_ | refine aops_ixa tok rfl rfl rfl (by decide) rfl rfl rfl rfl ?_ | refine aops_ld tok 0 rfl rfl rfl rfl rfl rfl rfl rfl ?_ | refine aops_ld tok 1 rfl rfl rfl rfl rfl rfl rfl rfl ?_ | refine aops_stn tok rfl rfl rfl rfl rfl rfl rfl rfl rfl ?_ | refine aops_stn1 tok rfl rfl rfl rfl rfl rfl rfl rfl rfl ?_ | refine acode_seq ?_ | refine acode_region ?_ | refine acode_block ?_ | refine acode_skip ?_ | refine then_n ?_ | refine block_n ?_)
    refine acode_ret ?_
    repeat (first | refine exit_then ?_ | refine exit_here ?_ | refine exit_out rfl ?_ | refine ret_then ?_ | refine ret_block ?_ | refine then_n ?_ | refine block_n ?_)
    exact ⟨_, ⟨out, ho1, rfl, rfl⟩, resOf_tmp rfl⟩
end Go.Proofs.Ytnlmfhnjjblhoaa.Ab

/- How large the largest tree of a node is, in plain terms. No condition. -/
import Derived.Test.YtnlmfhnjjblhoaaTre2
set_option linter.unusedVariables false
set_option linter.unusedSimpArgs false
namespace Go.Proofs.Ytnlmfhnjjblhoaa.Ab
def bigM : Int := 1099511627776
def bigK (g : Nat → Int) : Int → List Int → Int
  | x, [] => x
  | x, k :: ks => if x < bigM then bigK g (if 0 ≤ k then x + g k.toNat else x + 1) ks else x
def bigA (g : Nat → Int) : Int → List Al → Int
  | m, [] => m
  | m, a :: l => bigA g (if bigK g 0 a.kids > m then bigK g 0 a.kids else m) l
def bigN (f : Fo) (g : Nat → Int) (i : Nat) : Int := (if bigA g 0 (altsOf f i) ≥ bigM then bigM - 1 else bigA g 0 (altsOf f i)) + 1
theorem bigK_congr {g h : Nat → Int} : ∀ (ks : List Int) (x : Int), (∀ k : Nat, (k : Int) ∈ ks → g k = h k) → bigK g x ks = bigK h x ks
  | [], _, _ => rfl
  | k :: ks, x, hk => by
    have e : (if 0 ≤ k then x + g k.toNat else x + 1) = (if 0 ≤ k then x + h k.toNat else x + 1) := by
      split
      · rename_i h0; rw [hk k.toNat (by rw [Int.toNat_of_nonneg h0]; simp)]
      · rfl
    simp only [bigK, e]
    rw [bigK_congr ks _ fun k hm => hk k (by simp [hm])]
theorem bigA_congr {g h : Nat → Int} : ∀ (l : List Al) (m : Int), (∀ a ∈ l, ∀ k : Nat, (k : Int) ∈ a.kids → g k = h k) → bigA g m l = bigA h m l
  | [], _, _ => rfl
  | a :: l, m, hk => by
    simp only [bigA, bigK_congr a.kids 0 (hk a (by simp))]
    exact bigA_congr l _ fun b hb => hk b (by simp [hb])
theorem big_ex (f : Fo) : ∃ T : Nat → Int, ∀ i, WF f i → T i = bigN f T i := recT (bigN f) fun g h i hk => by
  unfold bigN; rw [bigA_congr _ _ fun a ha k hm => hk k ⟨a, ha, hm⟩]
noncomputable def big (f : Fo) : Nat → Int := Classical.choose (big_ex f)
theorem big_eq {f : Fo} {i : Nat} (h : WF f i) : big f i = bigN f (big f) i := Classical.choose_spec (big_ex f) i h
theorem bigK_is {g : Nat → Int} : ∀ (ks : List Int) (x : Int), 0 ≤ x ∧ x ≤ 2 * bigM → (∀ k : Nat, (k : Int) ∈ ks → 0 ≤ g k ∧ g k ≤ bigM) → 0 ≤ bigK g x ks ∧ bigK g x ks ≤ 2 * bigM
  | [], _, h, _ => h
  | k :: ks, x, h, hk => by
    simp only [bigK]
    split
    · refine bigK_is ks _ ?_ fun k hm => hk k (by simp [hm])
      unfold bigM at *
      split
      · rename_i h0; have := hk k.toNat (by rw [Int.toNat_of_nonneg h0]; simp); omega
      · omega
    · exact h
theorem bigA_is {g : Nat → Int} : ∀ (l : List Al) (m : Int), 0 ≤ m ∧ m ≤ 2 * bigM → (∀ a ∈ l, ∀ k : Nat, (k : Int) ∈ a.kids → 0 ≤ g k ∧ g k ≤ bigM) → 0 ≤ bigA g m l ∧ bigA g m l ≤ 2 * bigM ∧ m ≤ bigA g m l
  | [], _, h, _ => ⟨h.1, h.2, Int.le_refl _⟩
  | a :: l, m, h, hk => by
    simp only [bigA]
    have hb := bigK_is a.kids 0 ⟨by decide, by decide⟩ (hk a (by simp))
    split
    · have := bigA_is l (bigK g 0 a.kids) hb fun b hb => hk b (by simp [hb])
      exact ⟨this.1, this.2.1, by omega⟩
    · exact bigA_is l m h fun b hb => hk b (by simp [hb])
theorem big_is {f : Fo} {i : Nat} (h : WF f i) : 1 ≤ big f i ∧ big f i ≤ bigM := by
  induction h with
  | @mk i hi hk hs ih =>
    rw [big_eq (.mk hi hk hs)]
    have := bigA_is (g := big f) (altsOf f i) 0 ⟨by decide, by decide⟩ fun a ha k hm => by have := ih k ⟨a, ha, hm⟩; exact ⟨by omega, this.2⟩
    unfold bigN
    unfold bigM at *
    split <;> omega
theorem bigA_mem {g : Nat → Int} : ∀ (l : List Al) (m : Int) (a : Al), a ∈ l → bigK g 0 a.kids ≤ bigA g m l ∧ m ≤ bigA g m l
  | [], _, _, h => by cases h
  | b :: l, m, a, h => by
    simp only [bigA]
    have hge : ∀ (l : List Al) (m : Int), m ≤ bigA g m l := by
      intro l
      induction l with
      | nil => intro m; exact Int.le_refl _
      | cons c l ih =>
        intro m
        simp only [bigA]
        split
        · rename_i h; exact Int.le_trans (Int.le_of_lt h) (ih _)
        · exact ih _
    rcases List.mem_cons.1 h with rfl | h
    · split
      · rename_i h; exact ⟨hge _ _, Int.le_trans (Int.le_of_lt h) (hge _ _)⟩
      · rename_i h; exact ⟨Int.le_trans (Int.not_lt.1 h) (hge _ _), hge _ _⟩
    · obtain ⟨h1, h2⟩ := bigA_mem l (if bigK g 0 b.kids > m then bigK g 0 b.kids else m) a h
      refine ⟨h1, Int.le_trans ?_ h2⟩
      split <;> omega
/-- What a row of kids weighs. -/
def wgt (g : Nat → Int) : List Int → Int
  | [] => 0
  | k :: ks => (if 0 ≤ k then g k.toNat else 1) + wgt g ks
theorem bigK_exact {g : Nat → Int} : ∀ (ks : List Int) (x : Int), (∀ k : Nat, (k : Int) ∈ ks → 1 ≤ g k) → bigK g x ks < bigM → bigK g x ks = x + wgt g ks
  | [], x, _, _ => by simp [bigK, wgt]
  | k :: ks, x, hk, h => by
    simp only [bigK, wgt] at h ⊢
    split at h
    · rename_i hx
      rw [if_pos hx, bigK_exact ks _ (fun k hm => hk k (by simp [hm])) h]
      split <;> omega
    · omega
theorem wgt_len {g : Nat → Int} : ∀ (ks : List Int), (∀ k : Nat, (k : Int) ∈ ks → 1 ≤ g k) → (ks.length : Int) ≤ wgt g ks
  | [], _ => by simp [wgt]
  | k :: ks, hk => by
    have ih := wgt_len ks fun k hm => hk k (by simp [hm])
    simp only [wgt, List.length_cons]
    split
    · rename_i h0; have := hk k.toNat (by rw [Int.toNat_of_nonneg h0]; simp); omega
    · omega
theorem wgt_mem {g : Nat → Int} : ∀ (ks : List Int), (∀ k : Nat, (k : Int) ∈ ks → 1 ≤ g k) → ∀ k : Nat, (k : Int) ∈ ks → g k ≤ wgt g ks
  | [], _, _, h => by cases h
  | k0 :: ks, hk, k, h => by
    have ih := wgt_len ks fun k hm => hk k (by simp [hm])
    simp only [wgt]
    rcases List.mem_cons.1 h with rfl | h
    · rw [if_pos (by omega), Int.toNat_natCast]; omega
    · have := wgt_mem ks (fun k hm => hk k (by simp [hm])) k h
      split
      · rename_i h0; have := hk k0.toNat (by rw [Int.toNat_of_nonneg h0]; simp); omega
      · omega
/-- Rows of trees, one of each list, are no larger than they weigh. -/
theorem prod_size {g : Nat → Int} {L : Nat → List Tr} : ∀ (ks : List Int) (out : List Tr), (∀ k : Nat, (k : Int) ∈ ks → ∀ t ∈ L k, (trSize t : Int) ≤ g k) → out ∈ prodL (kidsL L ks) → (trsSize out : Int) ≤ wgt g ks
  | [], out, _, h => by
    simp only [kidsL, List.map_nil, prodL, List.mem_singleton] at h
    subst h; simp [trsSize, wgt]
  | k :: ks, out, hk, h => by
    simp only [kidsL, List.map_cons, prodL, List.mem_flatMap, List.mem_map] at h
    obtain ⟨t, ht, ts, hts, rfl⟩ := h
    have ih := prod_size ks ts (fun k hm => hk k (by simp [hm])) hts
    simp only [trsSize, wgt]
    rw [Int.natCast_add]
    split at ht
    · rename_i h0
      have := hk k.toNat (by rw [Int.toNat_of_nonneg h0]; simp) t ht
      rw [if_pos h0]; omega
    · rename_i h0
      simp only [List.mem_singleton] at ht
      subst ht
      rw [if_neg h0]
      have : trSize (leafT k) = 1 := by simp [leafT, trSize, trsSize]
      omega
theorem big_tr {f : Fo} {i : Nat} (h : WF f i) : big f i < bigM → ∀ t ∈ trL f i, (trSize t : Int) ≤ big f i := by
  induction h with
  | @mk i hi hk hs ih =>
    intro hb t ht
    have hwf : WF f i := .mk hi hk hs
    rw [trL_eq hwf] at ht
    obtain ⟨a, ha, ht⟩ := List.mem_flatMap.1 ht
    obtain ⟨out, ho, rfl⟩ := List.mem_map.1 ht
    have hkid : ∀ k : Nat, (k : Int) ∈ a.kids → Kid f i k := fun k hk => ⟨a, ha, hk⟩
    have h1 := (bigA_mem (g := big f) (altsOf f i) 0 a ha).1
    have hbe := big_eq hwf
    unfold bigN at hbe
    have h2 : bigA (big f) 0 (altsOf f i) + 1 = big f i := by
      split at hbe
      · omega
      · exact hbe.symm
    have h3 := bigK_exact (g := big f) a.kids 0 (fun k hm => (big_is (hs k (hkid k hm))).1) (by omega)
    have hle : ∀ k : Nat, (k : Int) ∈ a.kids → big f k < bigM := fun k hm => by
      have := wgt_mem (g := big f) a.kids (fun k hm => (big_is (hs k (hkid k hm))).1) k hm
      omega
    have h4 := prod_size (g := big f) a.kids out (fun k hm t ht => ih k (hkid k hm) (hle k hm) t ht) ho
    rw [trSize_eq]
    simp only [Tr.kids]
    omega
end Go.Proofs.Ytnlmfhnjjblhoaa.Ab

/- The trees of a forest, all of them in order, in plain terms. No condition. -/
import Derived.Test.YtnlmfhnjjblhoaaTre1
set_option linter.unusedVariables false
set_option linter.unusedSimpArgs false
namespace Go.Proofs.Ytnlmfhnjjblhoaa.Ab
/-! ### numbers, at most great -/
def sat (n : Int) : Int := if n > great then great else n
theorem great_pos : (0 : Int) < great := by decide
theorem sat_of {n : Int} (h : sat n < great) : sat n = n := by unfold sat at h ⊢; split at h <;> split <;> omega
theorem sat_small {n : Int} (h : n ≤ great) : sat n = n := by unfold sat; rw [if_neg (by omega)]
theorem sat_nn {n : Int} (h : 0 ≤ n) : 0 ≤ sat n := by have := great_pos; unfold sat; split <;> omega
theorem sat_le (n : Int) : sat n ≤ great := by unfold sat; split <;> omega
theorem sat_zero {n : Int} (h : 0 ≤ n) : sat n = 0 ↔ n = 0 := by
  have := great_pos
  unfold sat; split <;> omega
theorem addN_sat {a b : Int} (ha : 0 ≤ a) (hb : 0 ≤ b) : addN (sat a) (sat b) = sat (a + b) := by
  have := great_pos
  unfold addN sat
  split <;> split <;> split <;> (try split) <;> omega
theorem mulN_sat {a b : Int} (ha : 0 ≤ a) (hb : 0 ≤ b) : mulN (sat a) (sat b) = sat (a * b) := by
  have hg := great_pos
  unfold mulN
  by_cases h0 : sat a = 0 ∨ sat b = 0
  · rw [if_pos h0]
    rcases h0 with h | h
    · rw [(sat_zero ha).1 h]; simp [sat]; decide
    · rw [(sat_zero hb).1 h]; simp [sat]; decide
  · rw [if_neg h0]
    have ha1 : 0 < a := by
      rcases Int.lt_or_eq_of_le ha with h | h
      · exact h
      · exact absurd (.inl ((sat_zero ha).2 h.symm)) h0
    have hb1 : 0 < b := by
      rcases Int.lt_or_eq_of_le hb with h | h
      · exact h
      · exact absurd (.inr ((sat_zero hb).2 h.symm)) h0
    have sb : 0 < sat b := by unfold sat; split <;> omega
    have sa : 0 < sat a := by unfold sat; split <;> omega
    have key : sat a > great / sat b ↔ sat a * sat b > great := by
      have := Int.ediv_lt_iff_lt_mul (a := great) (b := sat a) (c := sat b) sb
      omega
    by_cases hc : sat a > great / sat b
    · rw [if_pos hc]
      have h1 := key.1 hc
      have h2 : sat a * sat b ≤ a * b := Int.mul_le_mul (by unfold sat; split <;> omega) (by unfold sat; split <;> omega) (by omega) ha
      have h3 : a * b > great := by omega
      rw [sat, if_pos h3]
    · rw [if_neg hc]
      have h1 : ¬ sat a * sat b > great := fun h => hc (key.2 h)
      by_cases hA : a > great
      · have e1 : sat a = great := by unfold sat; rw [if_pos hA]
        have e2 : sat b = 1 := by
          rw [e1] at h1
          apply Classical.byContradiction
          intro hne
          have : great * 2 ≤ great * sat b := Int.mul_le_mul_of_nonneg_left (by omega) (by omega)
          omega
        have e3 : b = 1 := by
          unfold sat at e2
          have : (1 : Int) < great := by decide
          split at e2 <;> omega
        rw [e1, e2, e3, Int.mul_one, Int.mul_one, e1]
      · by_cases hB : b > great
        · have e1 : sat b = great := by unfold sat; rw [if_pos hB]
          have e2 : sat a = 1 := by
            rw [e1] at h1
            apply Classical.byContradiction
            intro hne
            have : 2 * great ≤ sat a * great := Int.mul_le_mul_of_nonneg_right (by omega) (by omega)
            omega
          have e3 : a = 1 := by
            unfold sat at e2
            have : (1 : Int) < great := by decide
            split at e2 <;> omega
          rw [e1, e2, e3, Int.one_mul, Int.one_mul, e1]
        · rw [sat_small (n := a) (by omega), sat_small (n := b) (by omega)] at h1 ⊢
          rw [sat_small (by omega)]
/-! ### rows of trees, one of each list, the last one turns first -/
def prodL {α : Type} : List (List α) → List (List α)
  | [] => [[]]
  | l :: ls => l.flatMap fun x => (prodL ls).map (x :: ·)
def plen {α : Type} : List (List α) → Nat
  | [] => 1
  | l :: ls => l.length * plen ls
theorem flatMap_len {α β : Type} {g : α → List β} {P : Nat} : ∀ {l : List α}, (∀ x ∈ l, (g x).length = P) → (l.flatMap g).length = l.length * P
  | [], _ => by simp
  | x :: l, h => by
    rw [List.flatMap_cons, List.length_append, h x (by simp), flatMap_len fun y hy => h y (by simp [hy]), List.length_cons, Nat.succ_mul, Nat.add_comm]
theorem prodL_len {α : Type} : ∀ ls : List (List α), (prodL ls).length = plen ls
  | [] => rfl
  | l :: ls => by
    simp only [prodL, plen]
    exact flatMap_len fun x _ => by rw [List.length_map, prodL_len ls]
theorem flatMap_at {α β : Type} {g : α → List β} {P : Nat} (hP : 0 < P) : ∀ {l : List α} {n : Nat}, (∀ x ∈ l, (g x).length = P) → (l.flatMap g)[n]? = (l[n / P]?).bind fun x => (g x)[n % P]?
  | [], n, _ => by simp
  | x :: l, n, h => by
    rw [List.flatMap_cons]
    by_cases hn : n < P
    · rw [List.getElem?_append_left (by rw [h x (by simp)]; exact hn), Nat.div_eq_of_lt hn, Nat.mod_eq_of_lt hn]; rfl
    · have hge : P ≤ n := by omega
      rw [List.getElem?_append_right (by rw [h x (by simp)]; exact hge), h x (by simp), flatMap_at hP fun y hy => h y (by simp [hy]), Nat.div_eq_sub_div hP hge, Nat.mod_eq_sub_mod hge]; rfl
/-- The n-th row: of each list the digit that the number says. -/
theorem prodL_at {α : Type} : ∀ (ls : List (List α)) (n : Nat), n < plen ls → ∃ out, (prodL ls)[n]? = some out ∧ out.length = ls.length ∧ ∀ (j : Nat) (l : List α), ls[j]? = some l → ∃ t, out[j]? = some t ∧ l[(n / plen (ls.drop (j + 1))) % l.length]? = some t
  | [], n, h => by
    simp only [plen, Nat.lt_one_iff] at h
    subst h
    exact ⟨[], rfl, rfl, fun j l h => by simp at h⟩
  | l :: ls, n, h => by
    simp only [plen] at h
    have hP : 0 < plen ls := by
      rcases Nat.eq_zero_or_pos (plen ls) with e | e
      · rw [e, Nat.mul_zero] at h; omega
      · exact e
    have hq : n / plen ls < l.length := (Nat.div_lt_iff_lt_mul hP).2 h
    obtain ⟨out, h1, h2, h3⟩ := prodL_at ls (n % plen ls) (Nat.mod_lt _ hP)
    refine ⟨l[n / plen ls] :: out, ?_, by simp [h2], fun j l' hj => ?_⟩
    · simp only [prodL]
      rw [flatMap_at hP fun x _ => by rw [List.length_map, prodL_len ls], List.getElem?_eq_getElem hq]
      simp [h1]
    · cases j with
      | zero =>
        simp at hj; subst hj
        refine ⟨_, rfl, ?_⟩
        simp only [List.drop_succ_cons, List.drop_zero]
        rw [Nat.mod_eq_of_lt hq, List.getElem?_eq_getElem hq]
      | succ j =>
        simp only [List.getElem?_cons_succ] at hj ⊢
        obtain ⟨t, h4, h5⟩ := h3 j l' hj
        refine ⟨t, h4, ?_⟩
        simp only [List.drop_succ_cons]
        have e : n % plen ls / plen (ls.drop (j + 1)) % l'.length = n / plen (ls.drop (j + 1)) % l'.length := by
          have hd : ∀ (ls : List (List α)) (j : Nat) (l' : List α), ls[j]? = some l' → ∃ c, plen ls = c * (l'.length * plen (ls.drop (j + 1))) := by
            intro ls
            induction ls with
            | nil => intro j l' h; simp at h
            | cons a ls ih =>
              intro j l' h
              cases j with
              | zero => simp at h; subst h; exact ⟨1, by simp [plen]⟩
              | succ j =>
                obtain ⟨c, hc⟩ := ih j l' (by simpa using h)
                refine ⟨a.length * c, ?_⟩
                simp only [plen, List.drop_succ_cons]
                rw [hc, Nat.mul_assoc]
          obtain ⟨c, hc⟩ := hd ls j l' hj
          rw [hc]
          generalize plen (ls.drop (j + 1)) = p
          generalize l'.length = q
          rw [Nat.mul_comm q p, ← Nat.mul_assoc, Nat.mul_comm c p, Nat.mul_assoc, Nat.mod_mul_right_div_self, Nat.mod_mul_left_mod]
        rw [← e]; exact h5
/-! ### the trees -/
def leafT (k : Int) : Tr := .mk (-1) (-1 - k) []
def kidsL (g : Nat → List Tr) (ks : List Int) : List (List Tr) := ks.map fun k => if 0 ≤ k then g k.toNat else [leafT k]
def altL (g : Nat → List Tr) (a : Al) : List Tr := (prodL (kidsL g a.kids)).map (Tr.mk a.rule 0)
def nodeL (f : Fo) (g : Nat → List Tr) (i : Nat) : List Tr := (altsOf f i).flatMap (altL g)
theorem kidsL_congr {g h : Nat → List Tr} {ks : List Int} (hk : ∀ k : Nat, (k : Int) ∈ ks → g k = h k) : kidsL g ks = kidsL h ks := by
  refine List.map_congr_left fun k hm => ?_
  split
  · rename_i h0; exact hk _ (by rw [Int.toNat_of_nonneg h0]; exact hm)
  · rfl
theorem nodeL_congr {f : Fo} {g h : Nat → List Tr} {i : Nat} (hk : ∀ k : Nat, Kid f i k → g k = h k) : nodeL f g i = nodeL f h i := by
  unfold nodeL
  have : ∀ l : List Al, (∀ a ∈ l, a ∈ altsOf f i) → l.flatMap (altL g) = l.flatMap (altL h) := by
    intro l
    induction l with
    | nil => intro _; rfl
    | cons a l ih =>
      intro hl
      rw [List.flatMap_cons, List.flatMap_cons, ih fun b hb => hl b (by simp [hb])]
      congr 1
      unfold altL
      rw [kidsL_congr fun k hm => hk k ⟨a, hl a (by simp), hm⟩]
  exact this _ fun a h => h
theorem trL_ex (f : Fo) : ∃ T : Nat → List Tr, ∀ i, WF f i → T i = nodeL f T i := recT (nodeL f) fun g h i hk => nodeL_congr hk
noncomputable def trL (f : Fo) : Nat → List Tr := Classical.choose (trL_ex f)
theorem trL_eq {f : Fo} {i : Nat} (h : WF f i) : trL f i = nodeL f (trL f) i := Classical.choose_spec (trL_ex f) i h
theorem altL_len (g : Nat → List Tr) (a : Al) : (altL g a).length = plen (kidsL g a.kids) := by unfold altL; rw [List.length_map, prodL_len]
theorem altF_sat {g : Nat → List Tr} {T : Nat → Int} : ∀ (ks : List Int) (v : Nat), (∀ k : Nat, (k : Int) ∈ ks → T k = sat (g k).length) → altF T (sat v) ks = sat ((v * plen (kidsL g ks) : Nat) : Int)
  | [], v, _ => by simp [altF, kidsL, plen]
  | k :: ks, v, hk => by
    simp only [altF, List.foldl_cons]
    have ih := fun w => altF_sat (g := g) (T := T) ks w fun k hm => hk k (by simp [hm])
    by_cases h0 : 0 ≤ k
    · rw [if_pos h0, hk k.toNat (by rw [Int.toNat_of_nonneg h0]; simp), mulN_sat (by omega) (by omega)]
      have := ih (v * (g k.toNat).length)
      rw [Int.natCast_mul] at this
      unfold altF at this
      rw [this]
      simp only [kidsL, List.map_cons, if_pos h0, plen]
      rw [Nat.mul_assoc]
    · rw [if_neg h0]
      have := ih v
      unfold altF at this
      rw [this]
      simp only [kidsL, List.map_cons, if_neg h0, plen, List.length_singleton, Nat.one_mul]
theorem altF_len {g : Nat → List Tr} {T : Nat → Int} {a : Al} (hk : ∀ k : Nat, (k : Int) ∈ a.kids → T k = sat (g k).length) : altF T 1 a.kids = sat (altL g a).length := by
  have := altF_sat a.kids 1 hk
  rw [show sat ((1 : Nat) : Int) = 1 from by decide, Nat.one_mul] at this
  rw [this, altL_len]
theorem trees_sat {f : Fo} {i : Nat} (h : WF f i) : trees f i = sat (trL f i).length := by
  induction h with
  | @mk i hi hk hs ih =>
    rw [trees_eq (.mk hi hk hs), trL_eq (.mk hi hk hs)]
    have : ∀ (l : List Al) (v : Nat), (∀ a ∈ l, a ∈ altsOf f i) → altsF (trees f) (sat v) l = sat ((v + (l.flatMap (altL (trL f))).length : Nat) : Int) := by
      intro l
      induction l with
      | nil => intro v _; simp [altsF]
      | cons a l ih2 =>
        intro v hl
        simp only [altsF, List.foldl_cons]
        rw [altF_len (g := trL f) fun k hm => ih k ⟨a, hl a (by simp), hm⟩, addN_sat (by omega) (by omega)]
        have := ih2 (v + (altL (trL f) a).length) fun b hb => hl b (by simp [hb])
        rw [Int.natCast_add] at this
        unfold altsF at this
        rw [this, List.flatMap_cons, List.length_append, Nat.add_assoc]
    have := this (altsOf f i) 0 fun a h => h
    rw [show sat ((0 : Nat) : Int) = 0 from by decide, Nat.zero_add] at this
    exact this
end Go.Proofs.Ytnlmfhnjjblhoaa.Ab

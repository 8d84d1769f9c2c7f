/- How many trees of a forest may be, in plain terms. No condition. -/
import Derived.Test.YtnlmfhnjjblhoaaTre1
set_option linter.unusedVariables false
set_option linter.unusedSimpArgs false
namespace Go.Proofs.Ytnlmfhnjjblhoaa.Ab

/-- Of a node's Alts those that may stand at a place of a rule. -/
def kidGo (fb : List F3) (r p : Int) : List Al → List Int → Int → Int
  | a :: as, t :: ts, n => kidGo fb r p as ts (if (r, p, a.rule) ∈ fb then n else addN n t)
  | _, _, n => n
def altGo (fb : List F3) (f : Fo) (g : Nat → List Int) (r : Int) : Nat → List Int → Int → Int
  | _, [], n => n
  | p, k :: ks, n => altGo fb f g r (p + 1) ks (if 0 ≤ k then mulN n (kidGo fb r p (altsOf f k.toNat) (g k.toNat) 0) else n)
def nodeG (fb : List F3) (f : Fo) (g : Nat → List Int) (i : Nat) : List Int := (altsOf f i).map fun a => altGo fb f g a.rule 0 a.kids 1
theorem altGo_congr {fb : List F3} {f : Fo} {g h : Nat → List Int} {r : Int} : ∀ (ks : List Int) (p : Nat) (n : Int), (∀ k : Nat, (k : Int) ∈ ks → g k = h k) → altGo fb f g r p ks n = altGo fb f h r p ks n
  | [], _, _, _ => rfl
  | k :: ks, p, n, hk => by
    have e : (if 0 ≤ k then mulN n (kidGo fb r p (altsOf f k.toNat) (g k.toNat) 0) else n) = (if 0 ≤ k then mulN n (kidGo fb r p (altsOf f k.toNat) (h k.toNat) 0) else n) := by
      split
      · rename_i h0; rw [hk k.toNat (by rw [Int.toNat_of_nonneg h0]; simp)]
      · rfl
    simp only [altGo, e]
    exact altGo_congr ks _ _ fun k hm => hk k (by simp [hm])
theorem nodeG_congr {fb : List F3} {f : Fo} {g h : Nat → List Int} {i : Nat} (hk : ∀ k : Nat, Kid f i k → g k = h k) : nodeG fb f g i = nodeG fb f h i := by
  unfold nodeG
  refine List.map_congr_left fun a ha => altGo_congr _ _ _ fun k hm => hk k ⟨a, ha, hm⟩
theorem ftr_ex (fb : List F3) (f : Fo) : ∃ T : Nat → List Int, ∀ i, WF f i → T i = nodeG fb f T i := recT (nodeG fb f) fun g h i hk => nodeG_congr hk
noncomputable def ftr (fb : List F3) (f : Fo) : Nat → List Int := Classical.choose (ftr_ex fb f)
theorem ftr_eq {fb : List F3} {f : Fo} {i : Nat} (h : WF f i) : ftr fb f i = nodeG fb f (ftr fb f) i := Classical.choose_spec (ftr_ex fb f) i h
theorem ftr_len {fb : List F3} {f : Fo} {i : Nat} (h : WF f i) : (ftr fb f i).length = (altsOf f i).length := by rw [ftr_eq h]; simp [nodeG]
theorem kidGo_is {fb : List F3} {r p : Int} : ∀ (as : List Al) (ts : List Int) (n : Int), isN n → (∀ t ∈ ts, isN t) → isN (kidGo fb r p as ts n)
  | [], _, n, h, _ => by simpa [kidGo] using h
  | _ :: _, [], n, h, _ => by simpa [kidGo] using h
  | a :: as, t :: ts, n, h, ht => by
    simp only [kidGo]
    refine kidGo_is as ts _ ?_ fun t hm => ht t (by simp [hm])
    split
    · exact h
    · exact addN_is h (ht t (by simp))
theorem altGo_is {fb : List F3} {f : Fo} {g : Nat → List Int} {r : Int} : ∀ (ks : List Int) (p : Nat) (n : Int), isN n → (∀ k : Nat, (k : Int) ∈ ks → ∀ t ∈ g k, isN t) → isN (altGo fb f g r p ks n)
  | [], _, _, h, _ => h
  | k :: ks, p, n, h, hk => by
    simp only [altGo]
    refine altGo_is ks _ _ ?_ fun k hm => hk k (by simp [hm])
    split
    · rename_i h0; exact mulN_is h (kidGo_is _ _ _ ⟨by decide, by decide⟩ (hk k.toNat (by rw [Int.toNat_of_nonneg h0]; simp)))
    · exact h
theorem ftr_is {fb : List F3} {f : Fo} {i : Nat} (h : WF f i) : ∀ t ∈ ftr fb f i, isN t := by
  induction h with
  | @mk i hi hk hs ih =>
    rw [ftr_eq (.mk hi hk hs)]
    intro t ht
    obtain ⟨a, ha, rfl⟩ := List.mem_map.1 ht
    exact altGo_is _ _ _ ⟨by decide, by decide⟩ fun k hm => ih k ⟨a, ha, hm⟩
def sumN (l : List Int) : Int := l.foldl addN 0
theorem foldl_addN_is : ∀ (l : List Int) (n : Int), isN n → (∀ t ∈ l, isN t) → isN (l.foldl addN n)
  | [], _, h, _ => h
  | t :: l, n, h, hl => foldl_addN_is l _ (addN_is h (hl t (by simp))) fun t hm => hl t (by simp [hm])
theorem sumN_is {l : List Int} (h : ∀ t ∈ l, isN t) : isN (sumN l) := foldl_addN_is l 0 ⟨by decide, by decide⟩ h
/-! ### without anything forbidden -/
theorem kidGo_none {r p : Int} : ∀ (as : List Al) (ts : List Int) (n : Int), as.length = ts.length → kidGo [] r p as ts n = ts.foldl addN n
  | [], [], n, _ => rfl
  | [], _ :: _, n, h => by simp at h
  | _ :: _, [], n, h => by simp at h
  | a :: as, t :: ts, n, h => by
    simp only [kidGo, List.not_mem_nil, if_false, List.foldl_cons]
    exact kidGo_none as ts _ (by simpa using h)
theorem altGo_none {f : Fo} {g : Nat → List Int} {T : Nat → Int} {r : Int} : ∀ (ks : List Int) (p : Nat) (n : Int), (∀ k : Nat, (k : Int) ∈ ks → (g k).length = (altsOf f k).length ∧ sumN (g k) = T k) → altGo [] f g r p ks n = altF T n ks
  | [], _, _, _ => rfl
  | k :: ks, p, n, hk => by
    simp only [altGo, altF, List.foldl_cons]
    rw [altGo_none ks _ _ fun k hm => hk k (by simp [hm])]
    congr 1
    split
    · rename_i h0
      obtain ⟨h1, h2⟩ := hk k.toNat (by rw [Int.toNat_of_nonneg h0]; simp)
      rw [kidGo_none _ _ _ h1.symm, ← h2]; rfl
    · rfl
theorem ftr_none {f : Fo} {i : Nat} (h : WF f i) : sumN (ftr [] f i) = trees f i := by
  induction h with
  | @mk i hi hk hs ih =>
    rw [ftr_eq (.mk hi hk hs), trees_eq (.mk hi hk hs)]
    have : ∀ (l : List Al) (n : Int), (∀ a ∈ l, a ∈ altsOf f i) → (l.map fun a => altGo [] f (ftr [] f) a.rule 0 a.kids 1).foldl addN n = altsF (trees f) n l := by
      intro l
      induction l with
      | nil => intro n _; rfl
      | cons a l ih2 =>
        intro n hl
        simp only [List.map_cons, List.foldl_cons, altsF]
        rw [altGo_none (T := trees f) a.kids 0 1 fun k hm => ⟨ftr_len (hs k ⟨a, hl a (by simp), hm⟩), ih k ⟨a, hl a (by simp), hm⟩⟩]
        exact ih2 _ fun b hb => hl b (by simp [hb])
    exact this (altsOf f i) 0 fun a h => h
end Go.Proofs.Ytnlmfhnjjblhoaa.Ab

/- Rows of nodes that have so many trees each, in plain terms. No condition. -/
import Derived.Test.YtnlmfhnjjblhoaaFor1
set_option linter.unusedVariables false
set_option linter.unusedSimpArgs false
namespace Go.Proofs.Ytnlmfhnjjblhoaa.Ab
def leafN (w : Nat) : Nd := ⟨0, 0, 0, List.replicate w ⟨0, []⟩⟩
def kidsD (n : Nat) (none : Bool) : List Int := (List.range n).map Int.ofNat ++ (if none then [(n : Int) + 1] else [])
/-- n nodes of w Alts each; the root, which has them all, and a node without any if so. -/
def dbl (n w : Nat) (none : Bool) : Fo := ⟨List.replicate n (leafN w) ++ (⟨0, 0, 0, [⟨0, kidsD n none⟩]⟩ :: (if none then [⟨0, 0, 0, []⟩] else [])), n⟩
theorem dbl_len (n w : Nat) (b : Bool) : (dbl n w b).nodes.length = n + 1 + (if b then 1 else 0) := by
  cases b <;> simp [dbl]
theorem dbl_leaf {n w : Nat} {b : Bool} {i : Nat} (hi : i < n) : altsOf (dbl n w b) i = List.replicate w ⟨0, []⟩ := by
  simp [altsOf, dbl, List.getElem?_append_left, hi, leafN]
theorem dbl_root {n w : Nat} {b : Bool} : altsOf (dbl n w b) n = [⟨0, kidsD n b⟩] := by
  simp [altsOf, dbl]
theorem dbl_none {n w : Nat} : altsOf (dbl n w true) (n + 1) = [] := by
  simp [altsOf, dbl, List.getElem?_append_right]
theorem dbl_kid {n w : Nat} {b : Bool} {i : Nat} {k : Int} (h : Kid (dbl n w b) i k) : i = n ∧ k ∈ kidsD n b := by
  obtain ⟨a, ha, hk⟩ := h
  by_cases h1 : i < n
  · rw [dbl_leaf h1] at ha
    have := List.eq_of_mem_replicate ha
    subst this
    simp at hk
  · by_cases h2 : i = n
    · subst h2
      rw [dbl_root] at ha
      simp only [List.mem_singleton] at ha
      subst ha
      exact ⟨rfl, hk⟩
    · cases b with
      | false =>
        rw [altsOf, List.getElem?_eq_none (by have := dbl_len n w false; simp at this; omega)] at ha
        simp at ha
      | true =>
        by_cases h3 : i = n + 1
        · subst h3; rw [dbl_none] at ha; simp at ha
        · rw [altsOf, List.getElem?_eq_none (by have := dbl_len n w true; simp at this; omega)] at ha
          simp at ha
theorem kidsD_mem {n : Nat} {b : Bool} {k : Int} (h : k ∈ kidsD n b) : (∃ j : Nat, j < n ∧ k = j) ∨ (b = true ∧ k = (n : Int) + 1) := by
  simp only [kidsD, List.mem_append, List.mem_map, List.mem_range] at h
  rcases h with ⟨j, hj, rfl⟩ | h
  · exact .inl ⟨j, hj, rfl⟩
  · cases b with
    | false => simp at h
    | true => simp at h; exact .inr ⟨rfl, h⟩
theorem dbl_wf0 {n w : Nat} {b : Bool} {i : Nat} (hi : i ≠ n) (hl : i < (dbl n w b).nodes.length) : WF (dbl n w b) i :=
  .mk hl (fun k hk => absurd (dbl_kid hk).1 hi) (fun k hk => absurd (dbl_kid hk).1 hi)
theorem dbl_wf {n w : Nat} {b : Bool} {i : Nat} (hl : i < (dbl n w b).nodes.length) : WF (dbl n w b) i := by
  by_cases h : i = n
  · subst h
    refine .mk hl (fun k hk => ?_) (fun k hk => ?_)
    · have hd := dbl_len i w b
      rcases kidsD_mem (dbl_kid hk).2 with ⟨j, hj, rfl⟩ | ⟨rfl, rfl⟩
      · omega
      · rw [if_pos rfl] at hd; omega
    · have hd := dbl_len i w b
      rcases kidsD_mem (dbl_kid hk).2 with ⟨j, hj, e⟩ | ⟨rfl, e⟩
      · exact dbl_wf0 (by omega) (by omega)
      · rw [if_pos rfl] at hd; exact dbl_wf0 (by omega) (by omega)
  · exact dbl_wf0 h hl
theorem dbl_form (n w : Nat) (b : Bool) : (0 ≤ (dbl n w b).root ∧ (dbl n w b).root < (dbl n w b).nodes.length) ∧ ∀ i, i < (dbl n w b).nodes.length → WF (dbl n w b) i := ⟨⟨by simp [dbl], by rw [dbl_len]; simp only [dbl]; omega⟩, fun i hi => dbl_wf hi⟩

def wantF (w : Nat) : Nat → Int
  | 0 => 1
  | i + 1 => mulN (wantF w i) w
theorem wantF_is {w : Nat} (h0 : 1 ≤ w) (hw : w ≤ 9) : ∀ i, 1 ≤ wantF w i ∧ wantF w i ≤ great
  | 0 => ⟨Int.le_refl _, by show (1 : Int) ≤ great; decide⟩
  | i + 1 => by
    obtain ⟨h1, h2⟩ := wantF_is h0 hw i
    have h3 := mulN_is (a := wantF w i) (b := w) ⟨by omega, h2⟩ ⟨by omega, by unfold great; omega⟩
    refine ⟨?_, h3.2⟩
    show 1 ≤ mulN (wantF w i) w
    unfold mulN
    rw [if_neg (by omega)]
    split
    · decide
    · have := Int.mul_le_mul h1 (show (1 : Int) ≤ w by omega) (by omega) (by omega)
      omega
theorem altsF_rep (g : Nat → Int) : ∀ (w : Nat) (s : Int), 0 ≤ s → s + w ≤ 100 → altsF g s (List.replicate w ⟨0, []⟩) = s + w
  | 0, s, _, _ => by simp [altsF]
  | w + 1, s, h0, h1 => by
    have e : addN s (altF g 1 []) = s + 1 := by
      show addN s 1 = s + 1
      unfold addN great
      rw [if_neg (by omega)]
    have := altsF_rep g w (s + 1) (by omega) (by omega)
    simp only [altsF, List.replicate_succ, List.foldl_cons] at this ⊢
    rw [e, this]
    omega
theorem dbl_tleaf {n w : Nat} {b : Bool} (hw : w ≤ 9) {i : Nat} (hi : i < n) : trees (dbl n w b) i = w := by
  rw [trees_eq (dbl_wf0 (by omega) (by rw [dbl_len]; omega)), dbl_leaf hi, altsF_rep _ _ _ (by omega) (by omega)]
  omega
theorem altF_range {T : Nat → Int} {w n : Nat} (hT : ∀ i, i < n → T i = w) : ∀ m, m ≤ n → altF T 1 ((List.range m).map Int.ofNat) = wantF w m
  | 0, _ => rfl
  | m + 1, h => by
    have ih := altF_range hT m (by omega)
    simp only [altF, List.range_succ, List.map_append, List.foldl_append, List.map_cons, List.map_nil, List.foldl_cons, List.foldl_nil] at ih ⊢
    rw [ih, if_pos (by simp)]
    show mulN (wantF w m) (T m) = _
    rw [hT m (by omega)]; rfl
theorem dbl_trees {n w : Nat} {b : Bool} (hw : w ≤ 9) : trees (dbl n w b) n = if b then 0 else wantF w n := by
  rw [trees_eq (dbl_wf (by rw [dbl_len]; omega)), dbl_root]
  have h1 := altF_range (T := trees (dbl n w b)) (fun i hi => dbl_tleaf (b := b) hw hi) n (Nat.le_refl _)
  have e : ∀ x, isN x → addN 0 x = x := fun x hx => by unfold addN; rw [if_neg (by have := hx.2; omega)]; omega
  show addN 0 (altF (trees (dbl n w b)) 1 (kidsD n b)) = _
  cases b with
  | false =>
    have e2 : kidsD n false = (List.range n).map Int.ofNat := by simp [kidsD]
    rw [e2, e _ (altF_is _ _ ⟨by decide, by decide⟩ fun k hk => trees_is (dbl_wf (by
      simp only [List.mem_map, List.mem_range] at hk
      obtain ⟨j, hj, h⟩ := hk
      have : (j : Int) = k := h
      rw [dbl_len]; omega))), h1]
    rfl
  | true =>
    have h0 : trees (dbl n w true) (n + 1) = 0 := by
      rw [trees_eq (dbl_wf (by rw [dbl_len]; simp)), dbl_none]; rfl
    have e2 : altF (trees (dbl n w true)) 1 (kidsD n true) = 0 := by
      simp only [altF, kidsD, List.foldl_append] at h1 ⊢
      rw [h1]
      simp only [if_true, List.foldl_cons, List.foldl_nil]
      rw [if_pos (by omega), show ((n : Int) + 1).toNat = n + 1 from by omega, h0]
      unfold mulN; rw [if_pos (.inr rfl)]
    rw [e2]; rfl
theorem depK_ones {D : Nat → Int} : ∀ (l : List Int) (d : Int), (∀ k ∈ l, 0 ≤ k ∧ D k.toNat = 1) → (l ≠ [] ∨ d = 1) → 0 ≤ d → d ≤ 1 → depK D d l = 1
  | [], d, _, h, _, _ => by rcases h with h | h; exact absurd rfl h; exact h
  | k :: l, d, hk, _, h0, h1 => by
    obtain ⟨k0, k1⟩ := hk k (by simp)
    simp only [depK, List.foldl_cons]
    rw [if_pos k0, k1]
    exact depK_ones l _ (fun k hm => hk k (by simp [hm])) (.inr (by omega)) (by omega) (by omega)
theorem dbl_d1 {n w : Nat} {b : Bool} {i : Nat} (hi : i ≠ n) (hl : i < (dbl n w b).nodes.length) : depth (dbl n w b) i = 1 := by
  rw [depth_eq (dbl_wf0 hi hl)]
  have : ∀ (l : List Al), (∀ a ∈ l, a.kids = []) → depA (depth (dbl n w b)) 0 l = 0 := by
    intro l
    induction l with
    | nil => intro _; rfl
    | cons a l ih =>
      intro h
      have h1 := h a (by simp)
      have h2 := ih fun a ha => h a (by simp [ha])
      simp only [depA, List.foldl_cons] at h2 ⊢
      rw [h1]; exact h2
  rw [this]
  · rfl
  intro a ha
  apply List.eq_nil_iff_forall_not_mem.2
  intro k hk
  exact absurd (dbl_kid ⟨a, ha, hk⟩).1 hi
theorem dbl_depth {n w : Nat} {b : Bool} (hn : 0 < n) : depth (dbl n w b) n = 2 := by
  rw [depth_eq (dbl_wf (by rw [dbl_len]; omega)), dbl_root]
  show depK (depth (dbl n w b)) 0 (kidsD n b) + 1 = 2
  rw [depK_ones]
  · rfl
  · intro k hk
    have hd := dbl_len n w b
    rcases kidsD_mem hk with ⟨j, hj, rfl⟩ | ⟨rfl, rfl⟩
    · exact ⟨by omega, by rw [Int.toNat_natCast]; exact dbl_d1 (by omega) (by omega)⟩
    · rw [if_pos rfl] at hd
      exact ⟨by omega, by rw [show ((n : Int) + 1).toNat = n + 1 from by omega]; exact dbl_d1 (by omega) (by omega)⟩
  · left
    intro h
    have : (0 : Int) ∈ kidsD n b := by simp only [kidsD, List.mem_append, List.mem_map, List.mem_range]; exact .inl ⟨0, hn, rfl⟩
    rw [h] at this
    simp at this
  · omega
  · omega
theorem dbl_ok {n w : Nat} {b : Bool} (hn : n ≤ 80) (hw : w ≤ 9) : (dbl n w b).nodes.length ≤ 1000000 ∧ ∀ nd ∈ (dbl n w b).nodes, nd.alts.length ≤ 9223372036854775807 ∧ ∀ a ∈ nd.alts, a.kids.length ≤ 9223372036854775807 := by
  refine ⟨by rw [dbl_len]; split <;> omega, fun nd hnd => ?_⟩
  simp only [dbl, List.mem_append, List.mem_cons] at hnd
  rcases hnd with hnd | rfl | hnd
  · have := List.eq_of_mem_replicate hnd
    subst this
    refine ⟨by simp [leafN]; omega, fun a ha => ?_⟩
    have := List.eq_of_mem_replicate ha
    subst this; simp
  · refine ⟨by simp, fun a ha => ?_⟩
    simp only [List.mem_singleton] at ha
    subst ha
    simp [kidsD]
    split <;> simp <;> omega
  · split at hnd
    · simp only [List.mem_singleton] at hnd
      subst hnd; simp
    · simp at hnd
end Go.Proofs.Ytnlmfhnjjblhoaa.Ab

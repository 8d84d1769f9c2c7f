/- Spans in plain terms: rows of bytes that have classes. No condition. -/
import Derived.Test.YtbnhmioijeagiaaAbS
set_option linter.unusedVariables false
set_option linter.unusedSimpArgs false
namespace Go.Proofs.Ytbnhmioijeagiaa.Ab
structure Sp where
  fr : Int
  to : Int
  cl : Int
def spC (s : Sp) : List A := [.int .i64 s.fr, .int .i64 s.to, .int .i64 s.cl]
/-- Bytes get a class. -/
def putF (l : List Sp) (fr to c : Int) : List Sp :=
  if fr ≥ to ∨ c ≤ 0 then l else match l.getLast? with
    | some s => if s.to = fr ∧ s.cl = c then l.dropLast ++ [⟨s.fr, to, s.cl⟩] else l ++ [⟨fr, to, c⟩]
    | none => [⟨fr, to, c⟩]
/-- The class of a byte. -/
def atF (l : List Sp) (i : Int) : Int := match l with
  | [] => 0
  | s :: l => if i ≥ s.fr ∧ i < s.to then s.cl else atF l i
/-- No span ends beyond a place. -/
def Ends (l : List Sp) (e : Int) : Prop := ∀ s ∈ l, s.fr < s.to ∧ s.to ≤ e
theorem Ends.mono {l : List Sp} {e f : Int} (h : Ends l e) (hf : e ≤ f) : Ends l f := fun s hs => ⟨(h s hs).1, Int.le_trans (h s hs).2 hf⟩
theorem atF_app (l m : List Sp) (i : Int) : atF (l ++ m) i = if ∃ s ∈ l, i ≥ s.fr ∧ i < s.to then atF l i else atF m i := by
  induction l with
  | nil => simp
  | cons s l ih =>
    simp only [List.cons_append, atF]
    by_cases h : i ≥ s.fr ∧ i < s.to
    · rw [if_pos h, if_pos h, if_pos ⟨s, by simp, h⟩]
    · rw [if_neg h, if_neg h, ih]
      by_cases h2 : ∃ s ∈ l, i ≥ s.fr ∧ i < s.to
      · obtain ⟨t, ht, h3⟩ := h2
        rw [if_pos ⟨t, ht, h3⟩, if_pos ⟨t, by simp [ht], h3⟩]
      · rw [if_neg h2, if_neg]
        rintro ⟨t, ht, h3⟩
        simp only [List.mem_cons] at ht
        rcases ht with rfl | ht
        · exact h h3
        · exact h2 ⟨t, ht, h3⟩
theorem atF_out {l : List Sp} {e i : Int} (h : Ends l e) (hi : e ≤ i) : atF l i = 0 := by
  induction l with
  | nil => rfl
  | cons s l ih =>
    have := (h s (by simp)).2
    simp only [atF]
    rw [if_neg (by omega)]
    exact ih fun t ht => h t (by simp [ht])
theorem put_ends {l : List Sp} {fr to c : Int} (h : Ends l fr) (hft : fr ≤ to) : Ends (putF l fr to c) to := by
  unfold putF
  split
  · exact h.mono hft
  · rename_i hc
    split
    · rename_i s hs
      have hsl := h s (List.mem_of_getLast? hs)
      split
      · rename_i he
        intro t ht
        simp only [List.mem_append, List.mem_singleton] at ht
        rcases ht with ht | rfl
        · have := h t (List.dropLast_subset _ ht); exact ⟨this.1, by omega⟩
        · exact ⟨by simp only; omega, Int.le_refl _⟩
      · intro t ht
        simp only [List.mem_append, List.mem_singleton] at ht
        rcases ht with ht | rfl
        · have := h t ht; exact ⟨this.1, by omega⟩
        · exact ⟨by simp only; omega, Int.le_refl _⟩
    · intro t ht
      simp only [List.mem_singleton] at ht
      subst ht
      exact ⟨by simp only; omega, Int.le_refl _⟩
theorem put_at {l : List Sp} {fr to c : Int} (h : Ends l fr) (hc : 0 ≤ c) (i : Int) : atF (putF l fr to c) i = if fr ≤ i ∧ i < to then c else atF l i := by
  unfold putF
  split
  · rename_i h1
    split
    · rename_i h2
      rw [atF_out h h2.1]; omega
    · rfl
  · rename_i h1
    have key : ∀ (m : List Sp) (f : Int), Ends m fr → (∀ j, atF (m ++ [⟨fr, to, c⟩]) j = if fr ≤ j ∧ j < to then c else atF m j) := by
      intro m f hm j
      rw [atF_app]
      by_cases h2 : ∃ s ∈ m, j ≥ s.fr ∧ j < s.to
      · rw [if_pos h2]
        obtain ⟨s, hs, h3⟩ := h2
        have := (hm s hs).2
        rw [if_neg (by omega)]
      · rw [if_neg h2]
        have h0 : atF m j = 0 := by
          clear hm
          induction m with
          | nil => rfl
          | cons s m ih =>
            simp only [atF]
            rw [if_neg fun h => h2 ⟨s, by simp, h⟩]
            exact ih fun ⟨t, ht, h⟩ => h2 ⟨t, by simp [ht], h⟩
        simp only [atF, h0]
    split
    · rename_i s hs
      split
      · rename_i he
        obtain ⟨he1, he2⟩ := he
        have hl : l = l.dropLast ++ [s] := by
          obtain ⟨ys, rfl⟩ := List.getLast?_eq_some_iff.1 hs
          simp
        have hsl := h s (List.mem_of_getLast? hs)
        have hd : Ends l.dropLast fr := fun t ht => h t (List.dropLast_subset _ ht)
        conv => rhs; rw [hl]
        generalize l.dropLast = m at *
        rw [atF_app, atF_app]
        by_cases h2 : ∃ s ∈ m, i ≥ s.fr ∧ i < s.to
        · rw [if_pos h2, if_pos h2]
          obtain ⟨t, ht, h3⟩ := h2
          have := (hd t ht).2
          rw [if_neg (by omega)]
        · rw [if_neg h2, if_neg h2]
          simp only [atF]
          by_cases h3 : i ≥ s.fr ∧ i < to
          · rw [if_pos h3]
            by_cases h4 : fr ≤ i ∧ i < to
            · rw [if_pos h4]; exact he2
            · rw [if_neg h4, if_pos (by omega)]
          · rw [if_neg h3, if_neg (by omega), if_neg (by omega)]
      · exact key l fr h i
    · rename_i hs
      have : l = [] := by simpa using hs
      subst this
      exact key [] fr h i
theorem put_len (l : List Sp) (fr to c : Int) : (putF l fr to c).length ≤ l.length + 1 := by
  unfold putF
  split
  · omega
  · split
    · split
      · simp
      · simp
    · simp
/-! ### nodes within nodes -/
def ei (c o : Int) : Int := if c > 0 then c else o
/-- What is painted of the nodes that are D deep from the middle; n: how many there are. -/
def chP (n : Nat) (own : Int) (rc : Nat → Int) : Nat → Int → List Sp → List Sp
  | 0, cls, l => putF l (2 * n) (2 * n + 1) (ei own cls)
  | D + 1, cls, l =>
    let c := ei (rc (n - (D + 1))) cls
    let l2 := putF l (2 * n - 2 * (D + 1)) (2 * n - 2 * (D + 1) + 1) (ei own c)
    let l3 := putF l2 (2 * n - 2 * (D + 1) + 1) (2 * n - 2 * D) c
    let l4 := chP n own rc D c l3
    let l5 := putF l4 (2 * n + 2 * D + 1) (2 * n + 2 * (D + 1)) c
    putF l5 (2 * n + 2 * (D + 1)) (2 * n + 2 * (D + 1) + 1) (ei own c)
/-- The class of a byte within. -/
def chK (n : Nat) (own : Int) (rc : Nat → Int) : Nat → Int → Int → Int
  | 0, cls, _ => ei own cls
  | D + 1, cls, b =>
    let c := ei (rc (n - (D + 1))) cls
    if b = 2 * n - 2 * (D + 1) ∨ b = 2 * n + 2 * (D + 1) then ei own c
    else if b = 2 * n - 2 * (D + 1) + 1 ∨ b = 2 * n + 2 * D + 1 then c
    else chK n own rc D c b
theorem ei_pos {c o : Int} (hc : 0 ≤ o) : 0 ≤ ei c o := by unfold ei; split <;> omega
theorem chP_spec (n : Nat) (own : Int) (rc : Nat → Int) : ∀ (D : Nat) (cls : Int) (l : List Sp), 0 ≤ cls → Ends l (2 * n - 2 * D) →
    Ends (chP n own rc D cls l) (2 * n + 2 * D + 1) ∧ ∀ b, atF (chP n own rc D cls l) b = if 2 * n - 2 * D ≤ b ∧ b < 2 * n + 2 * D + 1 then chK n own rc D cls b else atF l b := by
  intro D
  induction D with
  | zero =>
    intro cls l hc hl
    simp only [chP, chK]
    have hl : Ends l (2 * n) := hl.mono (by omega)
    refine ⟨(put_ends hl (by omega)).mono (by omega), fun b => ?_⟩
    rw [put_at hl (ei_pos hc)]
    by_cases h : (2 * n : Int) ≤ b ∧ b < 2 * n + 1
    · rw [if_pos h, if_pos (by omega)]
    · rw [if_neg h, if_neg (by omega)]
  | succ D ih =>
    intro cls l hc hl
    have hl : Ends l (2 * n - 2 * (D + 1)) := hl.mono (by omega)
    simp only [chP, chK]
    have hc' : 0 ≤ ei (rc (n - (D + 1))) cls := ei_pos hc
    generalize ei (rc (n - (D + 1))) cls = c at *
    have ho : 0 ≤ ei own c := ei_pos hc'
    have e2 := put_ends (c := ei own c) hl (show (2 * n - 2 * (D + 1) : Int) ≤ 2 * n - 2 * (D + 1) + 1 by omega)
    have a2 := put_at (to := 2 * n - 2 * (D + 1) + 1) hl ho
    generalize putF l (2 * n - 2 * (D + 1)) (2 * n - 2 * (D + 1) + 1) (ei own c) = l2 at *
    have e3 := put_ends (c := c) e2 (show (2 * n - 2 * (D + 1) + 1 : Int) ≤ 2 * n - 2 * D by omega)
    have a3 := put_at (to := 2 * n - 2 * D) e2 hc'
    generalize putF l2 (2 * n - 2 * (D + 1) + 1) (2 * n - 2 * D) c = l3 at *
    obtain ⟨e4, a4⟩ := ih c l3 hc' e3
    generalize chP n own rc D c l3 = l4 at *
    have e5 := put_ends (c := c) e4 (show (2 * n + 2 * D + 1 : Int) ≤ 2 * n + 2 * (D + 1) by omega)
    have a5 := put_at (to := 2 * n + 2 * (D + 1)) e4 hc'
    generalize putF l4 (2 * n + 2 * D + 1) (2 * n + 2 * (D + 1)) c = l5 at *
    have e6 := put_ends (c := ei own c) e5 (show (2 * n + 2 * (D + 1) : Int) ≤ 2 * n + 2 * (D + 1) + 1 by omega)
    have a6 := put_at (to := 2 * n + 2 * (D + 1) + 1) e5 ho
    refine ⟨e6.mono (by omega), fun b => ?_⟩
    rw [a6, a5, a4, a3, a2]
    repeat' split
    all_goals first
      | rfl
      | (exfalso; omega)
theorem chP_len (n : Nat) (own : Int) (rc : Nat → Int) : ∀ (D : Nat) (cls : Int) (l : List Sp), (chP n own rc D cls l).length ≤ l.length + 4 * D + 1
  | 0, cls, l => by have := put_len l (2 * n) (2 * n + 1) (ei own cls); simp only [chP]; omega
  | D + 1, cls, l => by
    simp only [chP]
    refine Nat.le_trans (put_len ..) ?_
    refine Nat.le_trans (Nat.add_le_add_right (put_len ..) 1) ?_
    refine Nat.le_trans (Nat.add_le_add_right (Nat.add_le_add_right (chP_len n own rc D _ _) 1) 1) ?_
    have h1 := put_len (putF l (2 * n - 2 * (D + 1)) (2 * n - 2 * (D + 1) + 1) (ei own (ei (rc (n - (D + 1))) cls))) (2 * n - 2 * (D + 1) + 1) (2 * n - 2 * D) (ei (rc (n - (D + 1))) cls)
    have h2 := put_len l (2 * n - 2 * (D + 1)) (2 * n - 2 * (D + 1) + 1) (ei own (ei (rc (n - (D + 1))) cls))
    omega
end Go.Proofs.Ytbnhmioijeagiaa.Ab

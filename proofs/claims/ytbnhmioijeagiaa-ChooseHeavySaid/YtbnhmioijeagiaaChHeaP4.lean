/- Texts of this proof, one behind the other (Bfo1, Bfo2, Bfo3, Tre1, Tre4, For2, For3a, Bfo4, Tre2, Tre3, Bfo5, Fil2, Unf1, SmP, Chg1, ChA, Hv1, HvKa, HvKb, HvKc, HvKd, HvK, Chs1, AbZ, AbW, Fil1). No condition. -/
import Derived.Test.YtbnhmioijeagiaaChHeaP3
import Derived.WideKeyRuns
import Derived.MapKept
/- Chapter 18's reference chart in plain terms: what its rows mean, that each entry has a rule, and which names lead to nothing. No condition. -/
set_option linter.unusedVariables false
set_option linter.unusedSimpArgs false
namespace Go.Proofs.Ytbnhmioijeagiaa.Ab

theorem nullI_fix (g : Gr) : ∀ (q : Nat) (o : List Bool), nullI g q o = fixI (nullR g) q o
  | 0, o => rfl
  | q + 1, o => by rw [nullI, fixI, nullI_fix g q]
theorem nullL_still {g : Gr} : ∀ (rs : List Ru) (x : List Bool × Bool), (rs.foldl (nullS g) x).2 = false → rs.foldl (nullS g) x = x ∧ ∀ r ∈ rs, nullS g x r = x
  | [], x, h => ⟨rfl, by simp⟩
  | r :: rs, x, h => by
    rw [List.foldl_cons] at h
    obtain ⟨h1, h2⟩ := nullL_still rs _ h
    rw [h1] at h
    have h3 : nullS g x r = x := by
      unfold nullS at h ⊢
      split
      · rename_i hc; rw [if_pos hc] at h; cases h
      · rfl
    rw [h3] at h1 h2
    refine ⟨by rw [List.foldl_cons, h3, h1], fun r' hr' => ?_⟩
    rcases List.mem_cons.1 hr' with rfl | h4
    · exact h3
    · exact h2 r' h4
theorem null_closed {g : Gr} {n : Nat} (hlt : ∀ r ∈ g.rules, r.left.toNat < n) : ∀ r ∈ g.rules, emptyF g (nullF g n) r.right = true → (nullF g n).getD r.left.toNat false = true := by
  obtain ⟨y, hy, hb, he⟩ := fixI_done (R := nullR g) (m := fun o => o.count false) (p := fun o => o.length = n) (fun x hx => by unfold nullR; rw [nullL_len]; exact hx) (fun x hx hb => by
    rcases (nullL_cnt g n g.rules (x, false) hlt hx).2 hb with h | h
    · cases h
    · exact h) (n + 1) (List.replicate n false) (by simp) (by simp)
  have hN : nullF g n = (nullR g y).1 := by unfold nullF; rw [nullI_fix]; exact he
  obtain ⟨h1, h2⟩ := nullL_still g.rules (y, false) hb
  have hy' : nullF g n = y := by rw [hN]; unfold nullR; rw [h1]
  rw [hy']
  intro r hr hemp
  have h3 := h2 r hr
  cases hc : y.getD r.left.toNat false with
  | true => rfl
  | false =>
    unfold nullS at h3
    simp only [hc, hemp] at h3
    simp at h3
/-- A row of symbols leads from a place to another. -/
def Chn (ks : List Int) (n : Nat) (F : List (List Bool)) : List Int → Nat → Nat → Prop
  | [], i, j => i = j
  | s :: l, i, j => ∃ m, m ≤ n ∧ link ks n F s i m = true ∧ Chn ks n F l m j
theorem link_le {ks : List Int} {n : Nat} {F : List (List Bool)} {s : Int} {i j : Nat} (h : link ks n F s i j = true) : i ≤ j := by
  unfold link at h
  split at h
  · simp only [Bool.and_eq_true, decide_eq_true_eq] at h; omega
  · simp only [Bool.and_eq_true, decide_eq_true_eq] at h; omega
theorem chn_le {ks : List Int} {n : Nat} {F : List (List Bool)} : ∀ {l : List Int} {i j : Nat}, Chn ks n F l i j → i ≤ j
  | [], i, j, h => Nat.le_of_eq h
  | s :: l, i, j, ⟨m, _, h1, h2⟩ => Nat.le_trans (link_le h1) (chn_le h2)
theorem stepB_get {ks : List Int} {n : Nat} {F : List (List Bool)} {fr : Nat} {now : List Bool} {s : Int} {j : Nat} : (stepB ks n F fr now s).getD j false = true ↔ j ≤ n ∧ ∃ i, fr ≤ i ∧ i ≤ n ∧ now.getD i false = true ∧ link ks n F s i j = true := by
  by_cases hj : j ≤ n
  · unfold stepB
    rw [tab_getD hj]
    unfold stepT
    rw [List.any_eq_true]
    constructor
    · rintro ⟨i, hi, h⟩
      have := List.mem_range.1 hi
      simp only [Bool.and_eq_true, decide_eq_true_eq] at h
      exact ⟨hj, i, h.1, by omega, h.2.1, h.2.2⟩
    · rintro ⟨_, i, h1, h2, h3, h4⟩
      exact ⟨i, List.mem_range.2 (by omega), by rw [h3, h4, decide_eq_true h1]; rfl⟩
  · rw [List.getD_eq_getElem?_getD, List.getElem?_eq_none (by unfold stepB; rw [tab_len]; omega)]
    simp [hj]
theorem rowL_chn {ks : List Int} {n : Nat} {F : List (List Bool)} {fr to : Nat} (hto : to ≤ n) : ∀ (l : List Int) (now : List Bool), (∀ i, now.getD i false = true → fr ≤ i) → ((l.foldl (stepB ks n F fr) now).getD to false = true ↔ ∃ i, fr ≤ i ∧ i ≤ n ∧ now.getD i false = true ∧ Chn ks n F l i to)
  | [], now, h => ⟨fun h1 => ⟨to, h _ h1, hto, h1, rfl⟩, fun ⟨i, _, _, h1, h2⟩ => by have h2 : i = to := h2; subst h2; exact h1⟩
  | s :: l, now, h => by
    rw [List.foldl_cons, rowL_chn hto l _ (fun i hi => by
      obtain ⟨_, i', h1, _, _, h4⟩ := stepB_get.1 hi
      exact Nat.le_trans h1 (link_le h4))]
    constructor
    · rintro ⟨i, h1, h2, h3, h4⟩
      obtain ⟨h5, i', g1, g2, g3, g4⟩ := stepB_get.1 h3
      exact ⟨i', g1, g2, g3, i, h2, g4, h4⟩
    · rintro ⟨i', g1, g2, g3, i, h2, g4, h4⟩
      exact ⟨i, Nat.le_trans g1 (link_le g4), h2, stepB_get.2 ⟨h2, i', g1, g2, g3, g4⟩, h4⟩
theorem row0_get {n fr i : Nat} (h : fr ≤ n) : (row0 n fr).getD i false = true ↔ i = fr := by
  by_cases hi : i ≤ n
  · unfold row0; rw [tab_getD hi]; simp
  · rw [List.getD_eq_getElem?_getD, List.getElem?_eq_none (by unfold row0; rw [tab_len]; omega)]
    simp; omega
theorem rowF_chn {ks : List Int} {n : Nat} {F : List (List Bool)} {l : List Int} {fr to : Nat} (hf : fr ≤ n) (hto : to ≤ n) : (rowF ks n F l fr).getD to false = true ↔ Chn ks n F l fr to := by
  unfold rowF
  rw [rowL_chn hto l _ (fun i hi => by rw [(row0_get hf).1 hi]; exact Nat.le_refl _)]
  constructor
  · rintro ⟨i, _, _, h1, h2⟩
    rw [(row0_get hf).1 h1] at h2; exact h2
  · exact fun h => ⟨fr, Nat.le_refl _, hf, (row0_get hf).2 rfl, h⟩
theorem rowF_some {ks : List Int} {n : Nat} {F : List (List Bool)} {l : List Int} {fr to : Nat} (h : (rowF ks n F l fr).getD to false = true) : to ≤ n := by
  apply Classical.byContradiction
  intro hn
  rw [List.getD_eq_getElem?_getD, List.getElem?_eq_none (by unfold rowF; rw [rowF_len ks n F fr l (row0 n fr) (tab_len _ _)]; omega)] at h
  cases h
/-- All that one chart says the other one says too. -/
def MSub (F F' : List (List Bool)) : Prop := ∀ p j, getM F p j = true → getM F' p j = true
theorem link_mono {ks : List Int} {n : Nat} {F F' : List (List Bool)} (h : MSub F F') {s : Int} {i j : Nat} (hl : link ks n F s i j = true) : link ks n F' s i j = true := by
  unfold link at hl ⊢
  split
  · rename_i h0; rw [if_pos h0] at hl; exact hl
  · rename_i h0
    rw [if_neg h0] at hl
    simp only [Bool.and_eq_true] at hl ⊢
    exact ⟨hl.1, h _ _ hl.2⟩
theorem chn_mono {ks : List Int} {n : Nat} {F F' : List (List Bool)} (h : MSub F F') : ∀ {l : List Int} {i j : Nat}, Chn ks n F l i j → Chn ks n F' l i j
  | [], i, j, hc => hc
  | s :: l, i, j, ⟨m, h0, h1, h2⟩ => ⟨m, h0, link_mono h h1, chn_mono h h2⟩
theorem joinS_at {x : List (List Bool) × Bool} {s : Nat} {f : List Bool} {p j : Nat} (h : getM (joinS s f x).1 p j = true) : getM x.1 p j = true ∨ (p = s ∧ f.getD j false = true) := by
  unfold getM joinS at h
  simp only at h
  by_cases hp : p = s
  · subst hp
    by_cases hl : p < x.1.length
    · rw [List.getD_eq_getElem?_getD (l := x.1.set _ _), List.getElem?_set, if_pos rfl, if_pos hl, Option.getD_some] at h
      by_cases hj : j < (x.1.getD p []).length
      · rw [orL_getD hj] at h
        simp only [Bool.or_eq_true] at h
        rcases h with h | h
        · exact .inl h
        · exact .inr ⟨rfl, h⟩
      · rw [List.getD_eq_getElem?_getD, List.getElem?_eq_none (by rw [orL_len]; omega)] at h; cases h
    · rw [List.set_eq_of_length_le (by omega)] at h
      exact .inl h
  · rw [List.getD_eq_getElem?_getD (l := x.1.set _ _), List.getElem?_set, if_neg (fun e => hp e.symm), ← List.getD_eq_getElem?_getD] at h
    exact .inl h
theorem joinS_sub (x : List (List Bool) × Bool) (s : Nat) (f : List Bool) : MSub x.1 (joinS s f x).1 := by
  intro p j h
  unfold getM joinS
  simp only
  by_cases hp : p = s
  · subst hp
    by_cases hl : p < x.1.length
    · rw [List.getD_eq_getElem?_getD (l := x.1.set _ _), List.getElem?_set, if_pos rfl, if_pos hl, Option.getD_some]
      unfold getM at h
      by_cases hj : j < (x.1.getD p []).length
      · rw [orL_getD hj, h]; rfl
      · rw [List.getD_eq_getElem?_getD, List.getElem?_eq_none (by omega)] at h; cases h
    · rw [List.set_eq_of_length_le (by omega)]; exact h
  · rw [List.getD_eq_getElem?_getD (l := x.1.set _ _), List.getElem?_set, if_neg (fun e => hp e.symm), ← List.getD_eq_getElem?_getD]
    exact h
theorem idx_one {a b i j n : Nat} (hi : i ≤ n) (hj : j ≤ n) (h : a * (n + 1) + i = b * (n + 1) + j) : a = b ∧ i = j := by
  have h1 : (a * (n + 1) + i) / (n + 1) = a := by rw [Nat.mul_comm, Nat.mul_add_div (by omega), Nat.div_eq_of_lt (by omega)]; rfl
  have h2 : (b * (n + 1) + j) / (n + 1) = b := by rw [Nat.mul_comm, Nat.mul_add_div (by omega), Nat.div_eq_of_lt (by omega)]; rfl
  rw [h] at h1
  have : a = b := by omega
  subst this
  exact ⟨rfl, by omega⟩
/-- What holds of the chart at each moment: each entry has its rule, and one from a place to itself is of a name that derives nothing. -/
structure Sup (g : Gr) (ks : List Int) (N n : Nat) (F : List (List Bool)) : Prop where
  rule : ∀ a i j, i ≤ n → chAt n F a i j = true → i ≤ j ∧ j ≤ n ∧ ∃ r ∈ g.rules, r.left.toNat = a ∧ Chn ks n F r.right i j
  null : ∀ a i, i ≤ n → chAt n F a i i = true → (nullF g N).getD a false = true
theorem chn_null {g : Gr} {ks : List Int} {N n : Nat} {F : List (List Bool)} (h : Sup g ks N n F) : ∀ {l : List Int} {i : Nat}, i ≤ n → (∀ s ∈ l, isSym g s) → Chn ks n F l i i → emptyF g (nullF g N) l = true
  | [], i, _, _, _ => rfl
  | s :: l, i, hi, hs, ⟨m, h0, h1, h2⟩ => by
    have ha := link_le h1
    have hb := chn_le h2
    obtain rfl : m = i := by omega
    unfold emptyF
    rw [List.all_cons]
    have hr := chn_null h hi (fun t ht => hs t (by simp [ht])) h2
    unfold emptyF at hr
    rw [hr, Bool.and_true]
    unfold link at h1
    split at h1
    · simp only [Bool.and_eq_true, decide_eq_true_eq] at h1; omega
    · rename_i h3
      simp only [Bool.and_eq_true] at h1
      have := hs s (by simp)
      rw [h.null _ _ hi h1.2, Bool.and_true]
      unfold isSym isKind at this
      rcases this with h4 | h4
      · omega
      · exact decide_eq_true h4
theorem sup_step {g : Gr} {ks : List Int} {N n : Nat} (hsy : ∀ r ∈ g.rules, ∀ s ∈ r.right, isSym g s) (hlt : ∀ r ∈ g.rules, r.left.toNat < N) {r : Ru} (hr : r ∈ g.rules) {x : List (List Bool) × Bool} {i : Nat} (hi : i ≤ n) (h : Sup g ks N n x.1) : Sup g ks N n (chS ks n r x i).1 := by
  have hsub : MSub x.1 (chS ks n r x i).1 := joinS_sub _ _ _
  have key : ∀ a i' j, i' ≤ n → chAt n (chS ks n r x i).1 a i' j = true → chAt n x.1 a i' j = true ∨ (a = r.left.toNat ∧ i' = i ∧ i ≤ j ∧ j ≤ n ∧ Chn ks n x.1 r.right i j) := by
    intro a i' j hi' hc
    rcases joinS_at hc with h1 | ⟨h1, h2⟩
    · exact .inl h1
    · obtain ⟨h3, h4⟩ := idx_one hi' hi h1
      unfold fromT at h2
      by_cases hj : j ≤ n
      · rw [tab_getD hj] at h2
        simp only [Bool.and_eq_true, decide_eq_true_eq] at h2
        exact .inr ⟨h3, h4, h2.1, hj, (rowF_chn hi hj).1 h2.2⟩
      · rw [List.getD_eq_getElem?_getD, List.getElem?_eq_none (by rw [tab_len]; omega)] at h2; cases h2
  refine ⟨fun a i' j hi' hc => ?_, fun a i' hi' hc => ?_⟩
  · rcases key a i' j hi' hc with h1 | ⟨rfl, rfl, h3, h4, h5⟩
    · obtain ⟨g1, g2, r', g3, g4, g5⟩ := h.rule a i' j hi' h1
      exact ⟨g1, g2, r', g3, g4, chn_mono hsub g5⟩
    · exact ⟨h3, h4, r, hr, rfl, chn_mono hsub h5⟩
  · rcases key a i' i' hi' hc with h1 | ⟨rfl, rfl, h3, h4, h5⟩
    · exact h.null a i' hi' h1
    · exact null_closed hlt r hr (chn_null h hi (hsy r hr) h5)
theorem sup_fold {α : Type} {g : Gr} {ks : List Int} {N n : Nat} {f : List (List Bool) × Bool → α → List (List Bool) × Bool} : ∀ (l : List α) (x : List (List Bool) × Bool), (∀ a ∈ l, ∀ x, Sup g ks N n x.1 → Sup g ks N n (f x a).1) → Sup g ks N n x.1 → Sup g ks N n (l.foldl f x).1
  | [], _, _, h => h
  | a :: l, x, hf, h => sup_fold l _ (fun b hb => hf b (by simp [hb])) (hf a (by simp) x h)
theorem zeroF_get (N k p j : Nat) : getM (zeroF N k) p j = false := by
  unfold getM zeroF
  rw [List.getD_eq_getElem?_getD (l := List.replicate _ _), List.getElem?_replicate]
  split
  · rw [Option.getD_some]
    unfold zeroB
    rw [List.getD_eq_getElem?_getD, List.getElem?_replicate]
    split <;> rfl
  · rfl
theorem chF_sup {g : Gr} {ks : List Int} {N n : Nat} (hsy : ∀ r ∈ g.rules, ∀ s ∈ r.right, isSym g s) (hlt : ∀ r ∈ g.rules, r.left.toNat < N) : Sup g ks N n (chF g ks N n) := by
  unfold chF
  refine fixI_ok (p := Sup g ks N n) (fun F h => ?_) _ _ ⟨fun a i j _ h => ?_, fun a i _ h => ?_⟩
  · unfold chI
    refine sup_fold _ _ (fun r hr x hx => ?_) h
    unfold chR
    exact sup_fold _ _ (fun i hi x hx => sup_step hsy hlt hr (by have := List.mem_range.1 (List.mem_reverse.1 hi); omega) hx) hx
  · unfold chAt at h; rw [zeroF_get] at h; cases h
  · unfold chAt at h; rw [zeroF_get] at h; cases h
end Go.Proofs.Ytbnhmioijeagiaa.Ab
/- A grammar without a name that comes back to itself: a rank of names that falls along rules of one name alone. No condition. -/
set_option linter.unusedVariables false
set_option linter.unusedSimpArgs false
namespace Go.Proofs.Ytbnhmioijeagiaa.Ab

theorem fold_all {α β : Type} {I : β → Prop} {P : α → β → Prop} {f : β → α → β} : ∀ (L : List α) (x : β), (∀ x, ∀ a ∈ L, I x → I (f x a)) → (∀ x, ∀ a ∈ L, I x → P a (f x a)) → (∀ x, ∀ a ∈ L, ∀ b, I x → P b x → P b (f x a)) → I x → I (L.foldl f x) ∧ (∀ b, P b x → P b (L.foldl f x)) ∧ ∀ a ∈ L, P a (L.foldl f x)
  | [], x, _, _, _, h => ⟨h, fun _ hb => hb, by simp⟩
  | a :: L, x, h1, h2, h3, h => by
    obtain ⟨g1, g2, g3⟩ := fold_all L (f x a) (fun x b hb => h1 x b (by simp [hb])) (fun x b hb => h2 x b (by simp [hb])) (fun x b hb => h3 x b (by simp [hb])) (h1 x a (by simp) h)
    refine ⟨g1, fun b hb => g2 b (h3 x a (by simp) b h hb), fun b hb => ?_⟩
    rcases List.mem_cons.1 hb with rfl | hb
    · exact g2 b (h2 x b (by simp) h)
    · exact g3 b hb
theorem setM_get {n k : Nat} {F : List (List Bool)} (h : FOk n k F) {i j : Nat} (hi : i < n) (hj : j ≤ k) (v : Bool) (p q : Nat) : getM (setM F i j v) p q = if p = i ∧ q = j then v else getM F p q := by
  obtain ⟨x, hx, hl⟩ := fok_at h hi
  have hil : i < F.length := by rw [h.1]; exact hi
  rw [setM_of hx]
  unfold getM
  by_cases hp : p = i
  · subst hp
    rw [List.getD_eq_getElem?_getD (l := F.set _ _), List.getElem?_set, if_pos rfl, if_pos hil, Option.getD_some, List.getD_eq_getElem?_getD, List.getElem?_set]
    by_cases hq : q = j
    · subst hq; rw [if_pos rfl, if_pos (by omega), if_pos ⟨rfl, rfl⟩]; rfl
    · rw [if_neg (fun e => hq e.symm), if_neg (fun e => hq e.2), List.getD_eq_getElem?_getD (l := F), hx, Option.getD_some, List.getD_eq_getElem?_getD]
  · rw [List.getD_eq_getElem?_getD (l := F.set _ _), List.getElem?_set, if_neg (fun e => hp e.symm), if_neg (fun e => hp e.1), ← List.getD_eq_getElem?_getD]
theorem setM_true {n k : Nat} {F : List (List Bool)} (h : FOk n k F) {i j : Nat} (hi : i < n) (hj : j ≤ k) : MSub F (setM F i j true) ∧ getM (setM F i j true) i j = true := by
  refine ⟨fun p q hpq => ?_, by rw [setM_get h hi hj, if_pos ⟨rfl, rfl⟩]⟩
  rw [setM_get h hi hj]; split
  · rfl
  · exact hpq
/-- Between the chart before a step and what it may become. -/
structure Wi (n k m : Nat) (F0 F : List (List Bool)) : Prop where
  ok : FOk n k F
  lo : MSub F0 F
  hi : ∀ p q, getM F p q = true → getM F0 p q = true ∨ getM F0 p m = true ∧ getM F0 m q = true
theorem closS_wi {n k m i j : Nat} {F0 F : List (List Bool)} (hi : i < n) (hj : j ≤ k) (h : Wi n k m F0 F) : Wi n k m F0 (closS m i F j) ∧ MSub F (closS m i F j) ∧ (getM F0 i j = true ∨ getM F0 i m = true ∧ getM F0 m j = true → getM (closS m i F j) i j = true) := by
  have hm : MSub F (closS m i F j) := by
    intro p q hpq
    unfold closS
    rw [setM_get h.ok hi hj]
    split
    · rename_i e; rw [← e.1, ← e.2, hpq]; rfl
    · exact hpq
  refine ⟨⟨setM_ok h.ok hi _ _, fun p q hpq => hm p q (h.lo p q hpq), fun p q hpq => ?_⟩, hm, fun hc => ?_⟩
  · unfold closS at hpq
    rw [setM_get h.ok hi hj] at hpq
    split at hpq
    · rename_i e
      obtain ⟨rfl, rfl⟩ := e
      simp only [Bool.or_eq_true, Bool.and_eq_true] at hpq
      rcases hpq with h1 | ⟨h1, h2⟩
      · exact h.hi _ _ h1
      · have a1 : getM F0 p m = true := by rcases h.hi _ _ h1 with h3 | h3; exact h3; exact h3.1
        have a2 : getM F0 m q = true := by rcases h.hi _ _ h2 with h3 | h3; exact h3; exact h3.2
        exact .inr ⟨a1, a2⟩
    · exact h.hi _ _ hpq
  · unfold closS
    rw [setM_get h.ok hi hj, if_pos ⟨rfl, rfl⟩]
    rcases hc with h1 | ⟨h1, h2⟩
    · rw [h.lo _ _ h1]; rfl
    · rw [h.lo _ _ h1, h.lo _ _ h2]; simp
theorem closK_wi {n k m : Nat} {F : List (List Bool)} (hn : n = k + 1) (h : FOk n k F) : Wi n k m F (closK n F m) ∧ ∀ i j, i < n → j < n → (getM F i j = true ∨ getM F i m = true ∧ getM F m j = true → getM (closK n F m) i j = true) := by
  have hr : ∀ (G : List (List Bool)) (i : Nat), i < n → Wi n k m F G → Wi n k m F (closR n m G i) ∧ MSub G (closR n m G i) ∧ ∀ j ∈ List.range n, (getM F i j = true ∨ getM F i m = true ∧ getM F m j = true → getM (closR n m G i) i j = true) := by
    intro G i hi hG
    obtain ⟨g1, g2, g3⟩ := fold_all (I := fun X => Wi n k m F X ∧ MSub G X) (P := fun j X => (getM F i j = true ∨ getM F i m = true ∧ getM F m j = true → getM X i j = true)) (f := closS m i) (List.range n) G
      (fun x a ha hx => by
        have := List.mem_range.1 ha
        obtain ⟨b1, b2, b3⟩ := closS_wi (j := a) hi (by omega) hx.1
        exact ⟨b1, fun p q hpq => b2 p q (hx.2 p q hpq)⟩)
      (fun x a ha hx => by
        have := List.mem_range.1 ha
        exact (closS_wi (j := a) hi (by omega) hx.1).2.2)
      (fun x a ha b hx hb hc => by
        have := List.mem_range.1 ha
        exact (closS_wi (j := a) hi (by omega) hx.1).2.1 _ _ (hb hc)) ⟨hG, fun p q h => h⟩
    exact ⟨g1.1, g1.2, g3⟩
  obtain ⟨g1, g2, g3⟩ := fold_all (I := Wi n k m F) (P := fun i X => ∀ j, j < n → (getM F i j = true ∨ getM F i m = true ∧ getM F m j = true → getM X i j = true)) (f := closR n m) (List.range n) F
    (fun x a ha hx => (hr x a (List.mem_range.1 ha) hx).1)
    (fun x a ha hx j hj => (hr x a (List.mem_range.1 ha) hx).2.2 j (List.mem_range.2 hj))
    (fun x a ha b hx hb j hj hc => (hr x a (List.mem_range.1 ha) hx).2.1 _ _ (hb j hj hc)) ⟨h, fun p q h => h, fun p q h => .inl h⟩
  exact ⟨g1, fun i j hi hj => g3 i (List.mem_range.2 hi) j hj⟩
theorem warsh {n k : Nat} {F : List (List Bool)} (hn : n = k + 1) (h : FOk n k F) : ∀ m, m ≤ n → FOk n k ((List.range m).foldl (closK n) F) ∧ MSub F ((List.range m).foldl (closK n) F) ∧ ∀ q i j, q < m → i < n → j < n → getM ((List.range m).foldl (closK n) F) i q = true → getM ((List.range m).foldl (closK n) F) q j = true → getM ((List.range m).foldl (closK n) F) i j = true
  | 0, _ => ⟨h, fun p q h => h, fun q i j h => absurd h (by omega)⟩
  | m + 1, hm => by
    obtain ⟨h1, h2, h3⟩ := warsh hn h m (by omega)
    rw [List.range_succ, List.foldl_append, List.foldl_cons, List.foldl_nil]
    generalize (List.range m).foldl (closK n) F = G at *
    obtain ⟨g1, g2⟩ := closK_wi (m := m) hn h1
    refine ⟨g1.ok, fun p q hpq => g1.lo _ _ (h2 _ _ hpq), fun q i j hq hi hj a b => g2 i j hi hj ?_⟩
    by_cases e : q = m
    · subst e
      have a' : getM G i q = true := by rcases g1.hi _ _ a with h4 | h4; exact h4; exact h4.1
      have b' : getM G q j = true := by rcases g1.hi _ _ b with h4 | h4; exact h4; exact h4.2
      exact .inr ⟨a', b'⟩
    · have hqm : q < m := by omega
      rcases g1.hi _ _ a with a1 | ⟨a1, a2⟩ <;> rcases g1.hi _ _ b with b1 | ⟨b1, b2⟩
      · exact .inl (h3 q i j hqm hi hj a1 b1)
      · exact .inr ⟨h3 q i m hqm hi (by omega) a1 b1, b2⟩
      · exact .inr ⟨a1, h3 q m j hqm (by omega) hj a2 b1⟩
      · exact .inr ⟨a1, b2⟩
theorem edge_in {g : Gr} {n k : Nat} (hn : n = k + 1) (hlt : ∀ r ∈ g.rules, r.left.toNat < n) (hsy : ∀ r ∈ g.rules, ∀ s ∈ r.right, isSym g s) (hN : g.names = n) : FOk n k (edgeF g n) ∧ ∀ r ∈ g.rules, ∀ q, q < r.right.length → aloneT (nullF g n) r.right q r.right.length = true → getM (edgeF g n) r.left.toNat (r.right.getD q 0).toNat = true := by
  have hal : ∀ r ∈ g.rules, ∀ q, q < r.right.length → aloneT (nullF g n) r.right q r.right.length = true → (r.right.getD q 0).toNat ≤ k := by
    intro r hr q hq ha
    have h1 := hsy r hr (r.right.getD q 0) (by rw [List.getD_eq_getElem?_getD, List.getElem?_eq_getElem hq]; exact List.getElem_mem hq)
    unfold aloneT at ha
    simp only [Bool.and_eq_true, decide_eq_true_eq] at ha
    have := ha.1
    unfold isSym isKind isName at h1
    omega
  have hE : edgeF g n = g.rules.foldl (edgeR (nullF g n)) (zeroF n k) := by unfold edgeF; rw [hn]; rfl
  rw [hE]
  have one : ∀ r ∈ g.rules, ∀ F, FOk n k F → FOk n k (edgeR (nullF g n) F r) ∧ MSub F (edgeR (nullF g n) F r) ∧ ∀ q ∈ List.range r.right.length, aloneT (nullF g n) r.right q r.right.length = true → getM (edgeR (nullF g n) F r) r.left.toNat (r.right.getD q 0).toNat = true := by
    intro r hr F hF
    have st : ∀ X q, q ∈ List.range r.right.length → FOk n k X → FOk n k (edgeS (nullF g n) r X q) ∧ MSub X (edgeS (nullF g n) r X q) ∧ (aloneT (nullF g n) r.right q r.right.length = true → getM (edgeS (nullF g n) r X q) r.left.toNat (r.right.getD q 0).toNat = true) := by
      intro X q hq hX
      unfold edgeS
      split
      · rename_i ha
        have := hal r hr q (List.mem_range.1 hq) ha
        exact ⟨setM_ok hX (hlt r hr) _ _, (setM_true hX (hlt r hr) this).1, fun _ => (setM_true hX (hlt r hr) this).2⟩
      · rename_i ha
        exact ⟨hX, fun p q h => h, fun h => absurd h ha⟩
    obtain ⟨g1, g2, g3⟩ := fold_all (I := fun X => FOk n k X ∧ MSub F X) (P := fun q X => aloneT (nullF g n) r.right q r.right.length = true → getM X r.left.toNat (r.right.getD q 0).toNat = true) (f := edgeS (nullF g n) r) (List.range r.right.length) F
      (fun x a ha hx => ⟨(st x a ha hx.1).1, fun p q hpq => (st x a ha hx.1).2.1 _ _ (hx.2 _ _ hpq)⟩)
      (fun x a ha hx => (st x a ha hx.1).2.2)
      (fun x a ha b hx hb hc => (st x a ha hx.1).2.1 _ _ (hb hc)) ⟨hF, fun p q h => h⟩
    exact ⟨g1.1, g1.2, g3⟩
  obtain ⟨g1, g2, g3⟩ := fold_all (I := FOk n k) (P := fun (r : Ru) (X : List (List Bool)) => ∀ q ∈ List.range r.right.length, aloneT (nullF g n) r.right q r.right.length = true → getM X r.left.toNat (r.right.getD q 0).toNat = true) (f := edgeR (nullF g n)) g.rules (zeroF n k)
    (fun x r hr hx => (one r hr x hx).1)
    (fun x r hr hx => (one r hr x hx).2.2)
    (fun x r hr b hx hb q hq hc => (one r hr x hx).2.1 _ _ (hb q hq hc)) (zeroF_ok n k)
  exact ⟨g1, fun r hr q hq ha => g3 r hr q (List.mem_range.2 hq) ha⟩
theorem cntP_lt {p q : Nat → Bool} : ∀ {L : List Nat}, (∀ x ∈ L, p x = true → q x = true) → ∀ {y : Nat}, y ∈ L → q y = true → p y = false → L.countP p < L.countP q
  | [], _, y, hy, _, _ => by cases hy
  | x :: L, h, y, hy, h1, h2 => by
    have hle : L.countP p ≤ L.countP q := List.countP_mono_left fun z hz hp => h z (by simp [hz]) hp
    rw [List.countP_cons, List.countP_cons]
    rcases List.mem_cons.1 hy with rfl | hy
    · rw [h1, h2]; simp; omega
    · have := cntP_lt (fun z hz => h z (by simp [hz])) hy h1 h2
      have hx := h x (by simp)
      cases hp : p x
      · simp; omega
      · rw [hx hp]; simp; omega
/-- How many names a name leads to, each alone. -/
def rank (g : Gr) (n a : Nat) : Nat := (List.range n).countP fun b => getM (closF n (edgeF g n)) a b
theorem rank_le (g : Gr) (n a : Nat) : rank g n a ≤ n := by
  unfold rank
  refine Nat.le_trans (List.countP_le_length) ?_
  simp
theorem rank_fall {g : Gr} {n k : Nat} (hn : n = k + 1) (hlt : ∀ r ∈ g.rules, r.left.toNat < n) (hsy : ∀ r ∈ g.rules, ∀ s ∈ r.right, isSym g s) (hN : g.names = n) (hc : (cycF g n).any id = false) : ∀ r ∈ g.rules, ∀ q, q < r.right.length → aloneT (nullF g n) r.right q r.right.length = true → rank g n (r.right.getD q 0).toNat < rank g n r.left.toNat := by
  intro r hr q hq ha
  obtain ⟨h1, h2⟩ := edge_in hn hlt hsy hN
  obtain ⟨g1, g2, g3⟩ := warsh hn h1 n (Nat.le_refl _)
  have hE := g2 _ _ (h2 r hr q hq ha)
  have hb : (r.right.getD q 0).toNat < n := by
    have h1 := hsy r hr (r.right.getD q 0) (by rw [List.getD_eq_getElem?_getD, List.getElem?_eq_getElem hq]; exact List.getElem_mem hq)
    unfold aloneT at ha
    simp only [Bool.and_eq_true, decide_eq_true_eq] at ha
    have := ha.1
    unfold isSym isKind isName at h1
    omega
  have hd : ∀ i, i < n → getM (closF n (edgeF g n)) i i = false := by
    intro i hi
    rw [List.any_eq_false] at hc
    have := hc (getM (closF n (edgeF g n)) i i) (List.mem_map.2 ⟨i, List.mem_range.2 hi, rfl⟩)
    simpa using this
  unfold rank
  refine cntP_lt (fun x hx hp => ?_) (List.mem_range.2 hb) hE (hd _ hb)
  exact g3 _ _ _ hb (hlt r hr) (List.mem_range.1 hx) hE hp
end Go.Proofs.Ytbnhmioijeagiaa.Ab
/- Chapter 19's reference in plain terms: what the ways of a key are, and what the queue of Build ends with. No condition. -/
set_option linter.unusedVariables false
set_option linter.unusedSimpArgs false
namespace Go.Proofs.Ytbnhmioijeagiaa.Ab

theorem nodup_on {α β : Type} {f : α → β} {l : List α} (hf : ∀ a ∈ l, ∀ b ∈ l, f a = f b → a = b) (h : l.Nodup) : (l.map f).Nodup := by
  unfold List.Nodup at *
  rw [List.pairwise_map]
  exact h.imp_of_mem fun ha hb hne e => hne (hf _ ha _ hb e)
/-- A way: kids one behind the other, each of its symbol. -/
def WayOk (ks : List Int) (n : Nat) (F : List (List Bool)) : List Int → Nat → Nat → List Ky → Prop
  | [], fr, to, w => w = [] ∧ fr = to
  | s :: l, fr, to, w => ∃ (j : Nat) (w' : List Ky), w = kyOf s fr j :: w' ∧ j ≤ n ∧ link ks n F s fr j = true ∧ WayOk ks n F l j to w'
theorem waysL_way {ks : List Int} {n : Nat} {F : List (List Bool)} {R : Nat → Nat → List (List Ky)} {s : Int} {l : List Int} {fr to m : Nat} (hto : to ≤ n) (hR : ∀ j m', j ≤ to → ∀ w ∈ R j m', WayOk ks n F l j to w) : ∀ (L : List Nat) (out : List (List Ky)), (∀ j ∈ L, j ≤ to) → (∀ w ∈ out, WayOk ks n F (s :: l) fr to w) → ∀ w ∈ L.foldl (waysS ks n F R s l fr to m) out, WayOk ks n F (s :: l) fr to w
  | [], _, _, h => h
  | j :: L, out, hL, h => waysL_way hto hR L _ (fun q hq => hL q (by simp [hq])) (by
    have hjt := hL j (by simp)
    intro w hw
    unfold waysS at hw
    split at hw
    · rename_i hc
      rcases List.mem_append.1 hw with h1 | h1
      · exact h w h1
      · obtain ⟨v, hv, rfl⟩ := List.mem_map.1 h1
        exact ⟨j, v, rfl, by omega, hc.2.2.1, hR j _ hjt v hv⟩
    · exact h w hw)
theorem waysF_way {ks : List Int} {n : Nat} {F : List (List Bool)} : ∀ (l : List Int) (fr to m : Nat), to ≤ n → ∀ w ∈ waysF ks n F l fr to m, WayOk ks n F l fr to w
  | [], fr, to, m, _, w, hw => by
    unfold waysF at hw
    split at hw
    · rename_i h; exact ⟨by simpa using hw, h⟩
    · simp at hw
  | s :: l, fr, to, m, hto, w, hw => by
    unfold waysF at hw
    exact waysL_way hto (fun j m' hj => waysF_way l j to m' hto) _ _ (fun j hj => by have := List.mem_range.1 hj; omega) (by simp) w hw
theorem waysF_some {ks : List Int} {n : Nat} {F : List (List Bool)} : ∀ (l : List Int) (fr to m : Nat), fr ≤ n → to ≤ n → Chn ks n F l fr to → waysF ks n F l fr to m ≠ []
  | [], fr, to, m, _, _, h => by
    unfold waysF
    have h : fr = to := h
    rw [if_pos h]; simp
  | s :: l, fr, to, m, hfr, hto, ⟨j, hj, h1, h2⟩ => by
    unfold waysF
    have hjt := chn_le h2
    have hfj := link_le h1
    obtain ⟨_, _, g3⟩ := fold_all (I := fun _ : List (List Ky) => True) (P := fun q X => q = j → X ≠ []) (f := waysS ks n F (fun j m' => waysF ks n F l j to m') s l fr to m) (List.range (to + 1)) []
      (fun _ _ _ _ => trivial)
      (fun x a ha _ haj => by
        subst haj
        unfold waysS
        by_cases hx : x.length ≤ m
        · rw [if_pos ⟨hfj, hx, h1, (rowF_chn hj hto).2 h2⟩]
          have := waysF_some l a to (m - x.length) hj hto h2
          intro e
          have e2 := (List.append_eq_nil_iff.1 e).2
          exact this (by simpa using e2)
        · rw [if_neg (fun hc => hx hc.2.1)]
          intro e; subst e; simp at hx)
      (fun x a ha b _ hb hbj => by
        have := hb hbj
        unfold waysS
        split
        · intro e; exact this (List.append_eq_nil_iff.1 e).1
        · exact this) trivial
    exact g3 j (List.mem_range.2 (by omega)) rfl
theorem waysL_nodup {ks : List Int} {n : Nat} {F : List (List Bool)} {R : Nat → Nat → List (List Ky)} {s : Int} {l : List Int} {fr to m : Nat} (hR : ∀ j m', (R j m').Nodup) : ∀ (L : List Nat) (out : List (List Ky)), L.Nodup → out.Nodup → (∀ w ∈ out, ∀ y ∈ w.head?, ∀ j ∈ L, y.2.2 ≠ (j : Int)) → (L.foldl (waysS ks n F R s l fr to m) out).Nodup
  | [], _, _, h, _ => h
  | j :: L, out, hL, h, hh => by
    obtain ⟨hj, hL⟩ := List.nodup_cons.1 hL
    rw [List.foldl_cons]
    refine waysL_nodup hR L _ hL ?_ ?_
    · unfold waysS
      split
      · refine List.nodup_append.2 ⟨h, nodup_on (fun a _ b _ e => by simpa using e) (hR _ _), fun a ha b hb e => ?_⟩
        subst e
        obtain ⟨v, hv, rfl⟩ := List.mem_map.1 hb
        exact hh _ ha (kyOf s fr j) rfl j (by simp) rfl
      · exact h
    · intro w hw y hy q hq
      unfold waysS at hw
      split at hw
      · rcases List.mem_append.1 hw with h1 | h1
        · exact hh w h1 y hy q (by simp [hq])
        · obtain ⟨v, hv, rfl⟩ := List.mem_map.1 h1
          have : kyOf s fr j = y := by simpa using hy
          subst this
          intro e
          have e : (j : Int) = q := e
          exact hj (by have : j = q := by omega
                       subst this; exact hq)
      · exact hh w hw y hy q (by simp [hq])
theorem waysF_nodup {ks : List Int} {n : Nat} {F : List (List Bool)} : ∀ (l : List Int) (fr to m : Nat), (waysF ks n F l fr to m).Nodup
  | [], fr, to, m => by unfold waysF; split <;> simp
  | s :: l, fr, to, m => by
    unfold waysF
    exact waysL_nodup (fun j m' => waysF_nodup l j to m') _ _ List.nodup_range (by simp) (by simp)

/-- A token's key, and a node's. -/
def KyT (ks : List Int) (n : Nat) (y : Ky) : Prop := ∃ i : Nat, i < n ∧ y = (-1, (i : Int), ((i + 1 : Nat) : Int))
def KyN (N n : Nat) (F : List (List Bool)) (y : Ky) : Prop := ∃ s a b : Nat, s < N ∧ a ≤ b ∧ b ≤ n ∧ y = ((s : Int), (a : Int), (b : Int)) ∧ chAt n F s a b = true
theorem kyOf_is {g : Gr} {ks : List Int} {N n : Nat} {F : List (List Bool)} {s : Int} {a b : Nat} (hN : g.names = N) (hs : isSym g s) (hb : b ≤ n) (h : link ks n F s a b = true) : (s < 0 ∧ b = a + 1 ∧ a < n ∧ ks.getD a 0 = -1 - s ∧ kyOf s a b = (-1, (a : Int), ((a + 1 : Nat) : Int))) ∨ (∃ t : Nat, s = t ∧ t < N ∧ a ≤ b ∧ chAt n F t a b = true ∧ kyOf s a b = ((t : Int), (a : Int), (b : Int))) := by
  unfold link at h
  unfold kyOf
  split at h
  · rename_i h0
    simp only [Bool.and_eq_true, decide_eq_true_eq] at h
    rw [if_pos h0]
    exact .inl ⟨h0, h.1, h.2.1, h.2.2, by rw [h.1]⟩
  · rename_i h0
    simp only [Bool.and_eq_true, decide_eq_true_eq] at h
    rw [if_neg h0]
    obtain ⟨t, rfl⟩ := Int.eq_ofNat_of_zero_le (show 0 ≤ s by omega)
    unfold isSym isKind isName at hs
    exact .inr ⟨t, rfl, by omega, h.1, h.2, rfl⟩
theorem way_ky {g : Gr} {ks : List Int} {N n : Nat} {F : List (List Bool)} (hN : g.names = N) : ∀ {l : List Int} {fr to : Nat} {w : List Ky}, (∀ s ∈ l, isSym g s) → WayOk ks n F l fr to w → ∀ y ∈ w, KyT ks n y ∨ KyN N n F y
  | [], fr, to, w, _, ⟨h, _⟩, y, hy => by subst h; cases hy
  | s :: l, fr, to, w, hs, ⟨j, w', hw, h1, h2, h3⟩, y, hy => by
    subst hw
    rcases List.mem_cons.1 hy with rfl | hy
    · rcases kyOf_is hN (hs s (by simp)) h1 h2 with ⟨_, _, h4, _, h5⟩ | ⟨t, _, h4, h5, h6, h7⟩
      · exact .inl ⟨fr, h4, h5⟩
      · exact .inr ⟨t, fr, j, h4, h5, h1, h7, h6⟩
    · exact way_ky hN (fun t ht => hs t (by simp [ht])) h3 y hy

/-! ### the ways of one key -/
/-- What is known of a key's ways: each of a rule of its name, no two alike. -/
structure MineOk (g : Gr) (ks : List Int) (n : Nat) (F : List (List Bool)) (s : Int) (a b : Nat) (m : List Wy) : Prop where
  way : ∀ w ∈ m, ∃ j : Nat, w.1 = j ∧ j < g.rules.length ∧ (ruleAt g j).left = s ∧ WayOk ks n F (ruleAt g j).right a b w.2
  one : m.Nodup
theorem mineL_all {g : Gr} {ks : List Int} {n lim : Nat} {F : List (List Bool)} {k : Ky} : ∀ (L : List Nat) (x : List Wy × Nat), L.Nodup → (∀ j ∈ L, ∀ w ∈ x.1, w.1 ≠ (j : Int)) → x.1.Nodup → x.2 ≤ (L.foldl (mineS g ks n F lim k) x).2 ∧ (L.foldl (mineS g ks n F lim k) x).1.Nodup ∧ (∀ w ∈ (L.foldl (mineS g ks n F lim k) x).1, w ∈ x.1 ∨ ∃ j ∈ L, w.1 = (j : Int) ∧ (ruleAt g j).left = k.1 ∧ w.2 ∈ waysF ks n F (ruleAt g j).right k.2.1.toNat k.2.2.toNat lim) ∧ ((L.foldl (mineS g ks n F lim k) x).2 ≤ lim → (∀ w ∈ x.1, w ∈ (L.foldl (mineS g ks n F lim k) x).1) ∧ ∀ j ∈ L, (ruleAt g j).left = k.1 → ∀ v ∈ waysF ks n F (ruleAt g j).right k.2.1.toNat k.2.2.toNat lim, ((j : Int), v) ∈ (L.foldl (mineS g ks n F lim k) x).1)
  | [], x, _, _, h => ⟨Nat.le_refl _, h, fun w hw => .inl hw, fun _ => ⟨fun w hw => hw, by simp⟩⟩
  | j :: L, x, hL, hne, hx => by
    obtain ⟨hj, hL⟩ := List.nodup_cons.1 hL
    rw [List.foldl_cons]
    by_cases hc : x.2 ≤ lim ∧ (ruleAt g j).left = k.1
    · have he : mineS g ks n F lim k x j = (x.1 ++ (waysF ks n F (ruleAt g j).right k.2.1.toNat k.2.2.toNat lim).map fun w => ((j : Int), w), x.2 + (waysF ks n F (ruleAt g j).right k.2.1.toNat k.2.2.toNat lim).length) := by unfold mineS; rw [if_pos hc]
      obtain ⟨g1, g2, g3, g4⟩ := mineL_all (g := g) (ks := ks) (n := n) (lim := lim) (F := F) (k := k) L (mineS g ks n F lim k x j) hL (by
          rw [he]
          intro q hq w hw
          rcases List.mem_append.1 hw with h1 | h1
          · exact hne q (by simp [hq]) w h1
          · obtain ⟨v, _, rfl⟩ := List.mem_map.1 h1
            intro e
            have e : (j : Int) = q := e
            exact hj (by have : j = q := by omega
                         subst this; exact hq)) (by
          rw [he]
          refine List.nodup_append.2 ⟨hx, nodup_on (fun a _ b _ e => by simpa using e) (waysF_nodup _ _ _ _), fun a ha b hb e => ?_⟩
          subst e
          obtain ⟨v, _, rfl⟩ := List.mem_map.1 hb
          exact hne j (by simp) _ ha rfl)
      refine ⟨Nat.le_trans (by rw [he]; simp) g1, g2, fun w hw => ?_, fun hl => ?_⟩
      · rcases g3 w hw with h1 | ⟨q, hq, h1⟩
        · rw [he] at h1
          rcases List.mem_append.1 h1 with h2 | h2
          · exact .inl h2
          · obtain ⟨v, hv, rfl⟩ := List.mem_map.1 h2
            exact .inr ⟨j, by simp, rfl, hc.2, hv⟩
        · exact .inr ⟨q, by simp [hq], h1⟩
      · obtain ⟨g5, g6⟩ := g4 hl
        have g5 : ∀ w ∈ x.1 ++ (waysF ks n F (ruleAt g j).right k.2.1.toNat k.2.2.toNat lim).map (fun w => ((j : Int), w)), w ∈ (L.foldl (mineS g ks n F lim k) (mineS g ks n F lim k x j)).1 := fun w hw => g5 w (by rw [he]; exact hw)
        refine ⟨fun w hw => g5 w (List.mem_append.2 (.inl hw)), fun q hq hql v hv => ?_⟩
        rcases List.mem_cons.1 hq with rfl | hq
        · exact g5 _ (List.mem_append.2 (.inr (List.mem_map.2 ⟨v, hv, rfl⟩)))
        · exact g6 q hq hql v hv
    · have he : mineS g ks n F lim k x j = x := by unfold mineS; rw [if_neg hc]
      rw [he]
      obtain ⟨g1, g2, g3, g4⟩ := mineL_all (g := g) (ks := ks) (n := n) (lim := lim) (F := F) (k := k) L x hL (fun q hq => hne q (by simp [hq])) hx
      refine ⟨g1, g2, fun w hw => ?_, fun hl => ?_⟩
      · rcases g3 w hw with h1 | ⟨q, hq, h1⟩
        · exact .inl h1
        · exact .inr ⟨q, by simp [hq], h1⟩
      · obtain ⟨g5, g6⟩ := g4 hl
        refine ⟨g5, fun q hq hql v hv => ?_⟩
        rcases List.mem_cons.1 hq with rfl | hq
        · exact absurd ⟨by omega, hql⟩ hc
        · exact g6 q hq hql v hv
theorem mineF_is {g : Gr} {ks : List Int} {n lim : Nat} {F : List (List Bool)} {s : Int} {a b : Nat} (hb : b ≤ n) (c : Nat) : MineOk g ks n F s a b (mineF g ks n F lim (s, (a : Int), (b : Int)) c).1 := by
  obtain ⟨g1, g2, g3, g4⟩ := mineL_all (g := g) (ks := ks) (n := n) (lim := lim) (F := F) (k := (s, (a : Int), (b : Int))) (List.range g.rules.length) ([], c) List.nodup_range (by simp) (by simp)
  refine ⟨fun w hw => ?_, g2⟩
  rcases g3 w hw with h | ⟨j, hj, h1, h2, h3⟩
  · cases h
  · simp only [Int.toNat_natCast] at h3
    exact ⟨j, h1, List.mem_range.1 hj, h2, waysF_way _ _ _ _ hb _ h3⟩
theorem mineF_some {g : Gr} {ks : List Int} {N n lim : Nat} {F : List (List Bool)} (hS : Sup g ks N n F) (hl0 : ∀ r ∈ g.rules, 0 ≤ r.left) {s a b : Nat} (hab : a ≤ b) (hb : b ≤ n) (hc : chAt n F s a b = true) {c : Nat} (hm : (mineF g ks n F lim ((s : Int), (a : Int), (b : Int)) c).2 ≤ lim) : (mineF g ks n F lim ((s : Int), (a : Int), (b : Int)) c).1 ≠ [] := by
  obtain ⟨g1, g2, g3, g4⟩ := mineL_all (g := g) (ks := ks) (n := n) (lim := lim) (F := F) (k := ((s : Int), (a : Int), (b : Int))) (List.range g.rules.length) ([], c) List.nodup_range (by simp) (by simp)
  obtain ⟨h1, h2, r, hr, h3, h4⟩ := hS.rule s a b (by omega) hc
  obtain ⟨j, hj, hjr⟩ := List.getElem_of_mem hr
  have hra : ruleAt g (j : Int) = r := by unfold ruleAt; rw [Int.toNat_natCast, List.getD_eq_getElem?_getD, List.getElem?_eq_getElem hj, hjr]; rfl
  have h5 := waysF_some (ks := ks) (n := n) (F := F) r.right a b lim (by omega) hb h4
  obtain ⟨v, hv⟩ := List.exists_mem_of_ne_nil _ h5
  have := hl0 r hr
  have h6 := (g4 hm).2 j (List.mem_range.2 hj) (by rw [hra]; show r.left = (s : Int); omega) v (by rw [hra]; simpa using hv)
  intro e
  unfold mineF at e
  rw [e] at h6
  cases h6

/-! ### the queue -/
theorem newS_pre (x : List Ky × Nat) (y : Ky) : x.1 <+: (newS x y).1 ∧ x.2 ≤ (newS x y).2 ∧ (0 ≤ y.1 → y ∈ (newS x y).1) ∧ ∀ k ∈ (newS x y).1, k ∈ x.1 ∨ k = y ∧ 0 ≤ y.1 := by
  unfold newS
  split
  · rename_i h
    refine ⟨⟨[y], rfl⟩, by simp, fun _ => by simp, fun k hk => ?_⟩
    rcases List.mem_append.1 hk with h1 | h1
    · exact .inl h1
    · exact .inr ⟨List.mem_singleton.1 h1, h.1⟩
  · rename_i h
    refine ⟨List.prefix_rfl, Nat.le_refl _, fun h0 => ?_, fun k hk => .inl hk⟩
    apply Classical.byContradiction
    intro hn
    exact h ⟨h0, findF_neg.2 hn⟩
theorem newL_pre : ∀ (l : List Ky) (x : List Ky × Nat), x.1 <+: (l.foldl newS x).1 ∧ x.2 ≤ (l.foldl newS x).2 ∧ (∀ y ∈ l, 0 ≤ y.1 → y ∈ (l.foldl newS x).1) ∧ ∀ k ∈ (l.foldl newS x).1, k ∈ x.1 ∨ k ∈ l ∧ 0 ≤ k.1
  | [], x => ⟨List.prefix_rfl, Nat.le_refl _, by simp, fun k hk => .inl hk⟩
  | y :: l, x => by
    obtain ⟨a1, a2, a3, a4⟩ := newS_pre x y
    obtain ⟨b1, b2, b3, b4⟩ := newL_pre l (newS x y)
    rw [List.foldl_cons]
    refine ⟨a1.trans b1, Nat.le_trans a2 b2, fun z hz h0 => ?_, fun k hk => ?_⟩
    · rcases List.mem_cons.1 hz with rfl | hz
      · exact b1.subset (a3 h0)
      · exact b3 z hz h0
    · rcases b4 k hk with h | h
      · rcases a4 k h with h | ⟨rfl, h⟩
        · exact .inl h
        · exact .inr ⟨by simp, h⟩
      · exact .inr ⟨by simp [h.1], h.2⟩
theorem newM_pre (lim : Nat) : ∀ (m : List Wy) (x : List Ky × Nat), x.1 <+: (m.foldl (newW lim) x).1 ∧ x.2 ≤ (m.foldl (newW lim) x).2 ∧ ((m.foldl (newW lim) x).2 ≤ lim → ∀ w ∈ m, ∀ y ∈ w.2, 0 ≤ y.1 → y ∈ (m.foldl (newW lim) x).1) ∧ ∀ k ∈ (m.foldl (newW lim) x).1, k ∈ x.1 ∨ 0 ≤ k.1 ∧ ∃ w ∈ m, k ∈ w.2
  | [], x => ⟨List.prefix_rfl, Nat.le_refl _, fun _ => by simp, fun k hk => .inl hk⟩
  | w :: m, x => by
    obtain ⟨b1, b2, b3, b4⟩ := newM_pre lim m (newW lim x w)
    rw [List.foldl_cons]
    by_cases hx : x.2 ≤ lim
    · have he : newW lim x w = w.2.foldl newS x := by unfold newW; rw [if_pos hx]
      obtain ⟨a1, a2, a3, a4⟩ := newL_pre w.2 x
      rw [← he] at a1 a2 a3 a4
      refine ⟨a1.trans b1, Nat.le_trans a2 b2, fun hl v hv y hy h0 => ?_, fun k hk => ?_⟩
      · rcases List.mem_cons.1 hv with rfl | hv
        · exact b1.subset (a3 y hy h0)
        · exact b3 hl v hv y hy h0
      · rcases b4 k hk with h | ⟨h0, v, hv, h⟩
        · rcases a4 k h with h | h
          · exact .inl h
          · exact .inr ⟨h.2, w, by simp, h.1⟩
        · exact .inr ⟨h0, v, by simp [hv], h⟩
    · have he : newW lim x w = x := by unfold newW; rw [if_neg hx]
      rw [he] at b1 b2 b3 b4 ⊢
      refine ⟨b1, b2, fun hl => absurd (Nat.le_trans b2 hl) hx, fun k hk => ?_⟩
      rcases b4 k hk with h | ⟨h0, v, hv, h⟩
      · exact .inl h
      · exact .inr ⟨h0, v, by simp [hv], h⟩
/-- What the queue holds of its first i keys. -/
def QOk (g : Gr) (ks : List Int) (n : Nat) (F : List (List Bool)) (lim i : Nat) (keys : List Ky) (all : List (List Wy)) : Prop := all.length = i ∧ ∀ j, j < i → ∃ k c, keys[j]? = some k ∧ (mineF g ks n F lim k c).2 ≤ lim ∧ all[j]? = some (mineF g ks n F lim k c).1 ∧ ∀ w ∈ (mineF g ks n F lim k c).1, ∀ y ∈ w.2, 0 ≤ y.1 → y ∈ keys
theorem bldQ_spec {g : Gr} {ks : List Int} {N n lim : Nat} {F : List (List Bool)} (hN : g.names = N) (hsy : ∀ r ∈ g.rules, ∀ s ∈ r.right, isSym g s) : ∀ (q i : Nat) (keys : List Ky) (all : List (List Wy)) (c : Nat) {K : List Ky} {A : List (List Wy)}, bldQ g ks n F lim q i keys all c = some (K, A) → QOk g ks n F lim i keys all → i ≤ keys.length → (∀ k ∈ keys, KyN N n F k) → keys <+: K ∧ QOk g ks n F lim K.length K A ∧ ∀ k ∈ K, KyN N n F k
  | 0, i, keys, all, c, K, A, h, _, _, _ => by simp [bldQ] at h
  | q + 1, i, keys, all, c, K, A, h, hq, hi, hk => by
    rw [bldQ] at h
    cases hki : keys[i]? with
    | none =>
      rw [hki] at h
      simp only [Option.some.injEq, Prod.mk.injEq] at h
      obtain ⟨rfl, rfl⟩ := h
      have : keys.length ≤ i := List.getElem?_eq_none_iff.1 hki
      have : i = keys.length := by omega
      subst this
      exact ⟨List.prefix_rfl, hq, hk⟩
    | some k =>
      rw [hki] at h
      simp only at h
      have hil : i < keys.length := (List.getElem?_eq_some_iff.1 hki).1
      have hkk := hk k (List.mem_of_getElem? hki)
      have hky : ∀ w ∈ (mineF g ks n F lim k c).1, ∀ y ∈ w.2, 0 ≤ y.1 → KyN N n F y := by
        obtain ⟨s, a, b, h1, h2, h3, rfl, h4⟩ := hkk
        intro w hw y hy h0
        obtain ⟨j, g1, g2, g3, g4⟩ := (mineF_is (lim := lim) h3 c).way w hw
        have hrm := List.mem_of_getElem? (ruleAt_at (g := g) (i := (j : Int)) (by omega) (by omega))
        rcases way_ky hN (hsy _ hrm) g4 y hy with ⟨t, _, rfl⟩ | h
        · simp at h0
        · exact h
      obtain ⟨p1, p2, p3, p4⟩ := newM_pre lim (mineF g ks n F lim k c).1 (keys, (mineF g ks n F lim k c).2)
      split at h
      · cases h
      · rename_i hle
        generalize ((mineF g ks n F lim k c).1.foldl (newW lim) (keys, (mineF g ks n F lim k c).2)) = z at *
        have hle : z.2 ≤ lim := by omega
        have hle2 : (mineF g ks n F lim k c).2 ≤ lim := Nat.le_trans p2 hle
        have hpl := p1.length_le
        simp only at hpl
        obtain ⟨r1, r2, r3⟩ := bldQ_spec hN hsy q (i + 1) z.1 (all ++ [(mineF g ks n F lim k c).1]) z.2 h ⟨by simp [hq.1], fun j hj => by
          by_cases hji : j < i
          · obtain ⟨k', c', e1, e2, e3, e4⟩ := hq.2 j hji
            refine ⟨k', c', ?_, e2, ?_, fun w hw y hy h0 => p1.subset (e4 w hw y hy h0)⟩
            · obtain ⟨t, ht⟩ := p1
              rw [← ht, List.getElem?_append_left (List.getElem?_eq_some_iff.1 e1).1]; exact e1
            · rw [List.getElem?_append_left (by rw [hq.1]; exact hji)]; exact e3
          · have : j = i := by omega
            subst this
            refine ⟨k, c, ?_, hle2, ?_, p3 hle⟩
            · obtain ⟨t, ht⟩ := p1
              rw [← ht, List.getElem?_append_left hil]; exact hki
            · rw [List.getElem?_append_right (by rw [hq.1]; exact Nat.le_refl _), hq.1, Nat.sub_self]; rfl⟩ (by omega) (fun k' hk' => by
          rcases p4 k' hk' with h1 | ⟨h0, w, hw, h1⟩
          · exact hk k' h1
          · exact hky w hw k' h1 h0)
        exact ⟨p1.trans r1, r2, r3⟩
end Go.Proofs.Ytbnhmioijeagiaa.Ab
/- Trees in plain terms. No condition. -/
set_option linter.unusedVariables false
set_option linter.unusedSimpArgs false
namespace Go.Proofs.Ytbnhmioijeagiaa.Ab
inductive Tr where
  | mk (rule tok : Int) (kids : List Tr)
  deriving Inhabited
def Tr.rule : Tr → Int | .mk r _ _ => r
def Tr.tok : Tr → Int | .mk _ t _ => t
def Tr.kids : Tr → List Tr | .mk _ _ ks => ks
mutual
def trC : Tr → List A
  | .mk r t ks => [.int .i64 r, .int .i64 t, .psl ks.length (trsC ks)]
def trsC : List Tr → List A
  | [] => []
  | t :: ts => trC t ++ trsC ts
end
theorem trsC_encs : ∀ ts : List Tr, trsC ts = encs trC ts
  | [] => rfl
  | t :: ts => by simp only [trsC, encs, List.flatMap_cons, trsC_encs ts]
theorem trC_eq (t : Tr) : trC t = [.int .i64 t.rule, .int .i64 t.tok, .psl t.kids.length (encs trC t.kids)] := by
  cases t with
  | mk r k ks => simp only [trC, trsC_encs, Tr.rule, Tr.tok, Tr.kids]
theorem trC_len (t : Tr) : (trC t).length = 3 := by rw [trC_eq]; rfl
theorem tr_at {l : List Tr} {i : Nat} {x : Tr} (h : l[i]? = some x) : trC x <+: (encs trC l).drop (i * 3) := encs_at trC_len h
mutual
def trSize : Tr → Nat
  | .mk _ _ ks => 1 + trsSize ks
def trsSize : List Tr → Nat
  | [] => 0
  | t :: ts => trSize t + trsSize ts
end
theorem trSize_eq (t : Tr) : trSize t = 1 + trsSize t.kids := by cases t; simp [trSize, Tr.kids]
theorem trSize_pos (t : Tr) : 0 < trSize t := by rw [trSize_eq]; omega
theorem trsSize_len : ∀ ts : List Tr, ts.length ≤ trsSize ts
  | [] => Nat.le_refl _
  | t :: ts => by have := trsSize_len ts; have := trSize_pos t; simp only [List.length_cons, trsSize]; omega
theorem trsSize_mem : ∀ {ts : List Tr} {t : Tr}, t ∈ ts → trSize t ≤ trsSize ts
  | [], _, h => by cases h
  | t0 :: ts, t, h => by
    simp only [trsSize]
    rcases List.mem_cons.1 h with rfl | h
    · omega
    · have := trsSize_mem h; omega
theorem Tr.ind {p : Tr → Prop} (h : ∀ t : Tr, (∀ k ∈ t.kids, p k) → p t) (t : Tr) : p t := by
  suffices hs : ∀ n t, trSize t < n → p t from hs _ t (Nat.lt_succ_self _)
  intro n
  induction n with
  | zero => intro t ht; omega
  | succ n ih =>
    intro t ht
    refine h t fun k hk => ih k ?_
    have := trsSize_mem hk
    rw [trSize_eq] at ht; omega
/-! ### which trees may be -/
abbrev F3 := Int × Int × Int
mutual
def mayB (fb : List F3) : Tr → Bool
  | .mk r _ ks => decide (r = -1) || maysB fb r 0 ks
def maysB (fb : List F3) (r : Int) : Nat → List Tr → Bool
  | _, [] => true
  | p, k :: ks => !(decide (k.rule ≠ -1 ∧ (r, (p : Int), k.rule) ∈ fb)) && mayB fb k && maysB fb r (p + 1) ks
end
theorem mayB_eq (fb : List F3) (t : Tr) : mayB fb t = (decide (t.rule = -1) || maysB fb t.rule 0 t.kids) := by cases t; rw [mayB]; rfl
theorem drop_at {α : Type} {l : List α} {i : Nat} {x : α} (h : l[i]? = some x) : l.drop i = x :: l.drop (i + 1) := by
  obtain ⟨h2, rfl⟩ := List.getElem?_eq_some_iff.1 h
  exact List.drop_eq_getElem_cons h2
theorem maysB_step {fb : List F3} {r : Int} {ks : List Tr} {i : Nat} {k : Tr} (h : ks[i]? = some k) : maysB fb r i (ks.drop i) = (!(decide (k.rule ≠ -1 ∧ (r, (i : Int), k.rule) ∈ fb)) && mayB fb k && maysB fb r (i + 1) (ks.drop (i + 1))) := by
  rw [drop_at h]; rfl
end Go.Proofs.Ytbnhmioijeagiaa.Ab
/- Trees held against each other, and their tokens, in plain terms. No condition. -/
set_option linter.unusedVariables false
set_option linter.unusedSimpArgs false
namespace Go.Proofs.Ytbnhmioijeagiaa.Ab
mutual
def eqT : Tr → Tr → Bool
  | .mk r t ks, .mk r' t' ks' => decide (r = r') && decide (t = t') && eqTs ks ks'
def eqTs : List Tr → List Tr → Bool
  | [], [] => true
  | x :: l, y :: m => eqT x y && eqTs l m
  | [], _ :: _ => false
  | _ :: _, [] => false
end
mutual
theorem eqT_iff : ∀ x y : Tr, eqT x y = true ↔ x = y
  | .mk r t ks, .mk r' t' ks' => by
    have h := eqTs_iff ks ks'
    rw [eqT, Bool.and_eq_true, Bool.and_eq_true, decide_eq_true_iff, decide_eq_true_iff, h, Tr.mk.injEq, and_assoc]
theorem eqTs_iff : ∀ l m : List Tr, eqTs l m = true ↔ l = m
  | [], [] => by simp [eqTs]
  | x :: l, y :: m => by rw [eqTs, Bool.and_eq_true, eqT_iff x y, eqTs_iff l m, List.cons.injEq]
  | [], _ :: _ => by simp [eqTs]
  | _ :: _, [] => by simp [eqTs]
end
theorem eqT_self (t : Tr) : eqT t t = true := (eqT_iff t t).2 rfl
theorem eqTs_self (l : List Tr) : eqTs l l = true := (eqTs_iff l l).2 rfl
theorem eqT_eq (x y : Tr) : eqT x y = (decide (x.rule = y.rule) && decide (x.tok = y.tok) && eqTs x.kids y.kids) := by cases x; cases y; rw [eqT]; rfl
theorem eqTs_len {l m : List Tr} (h : l.length ≠ m.length) : eqTs l m = false := by
  cases he : eqTs l m with
  | false => rfl
  | true => exact absurd (congrArg List.length ((eqTs_iff l m).1 he)) h
theorem eqTs_step {l m : List Tr} {i : Nat} {x y : Tr} (hx : l[i]? = some x) (hy : m[i]? = some y) : eqTs (l.drop i) (m.drop i) = (eqT x y && eqTs (l.drop (i + 1)) (m.drop (i + 1))) := by
  rw [drop_at hx, drop_at hy, eqTs]
mutual
def yieldF : Tr → List Int
  | .mk r t ks => if r = -1 then [t] else yieldsF ks
def yieldsF : List Tr → List Int
  | [] => []
  | t :: ts => yieldF t ++ yieldsF ts
end
theorem yieldF_eq (t : Tr) : yieldF t = if t.rule = -1 then [t.tok] else yieldsF t.kids := by cases t; rw [yieldF]; rfl
theorem yields_step {l : List Tr} {i : Nat} {x : Tr} (hx : l[i]? = some x) : yieldsF (l.drop i) = yieldF x ++ yieldsF (l.drop (i + 1)) := by rw [drop_at hx, yieldsF]
mutual
theorem yieldF_len : ∀ t : Tr, (yieldF t).length ≤ trSize t
  | .mk r t ks => by
    have := yieldsF_len ks
    rw [yieldF, trSize]
    split
    · simp
    · omega
theorem yieldsF_len : ∀ ts : List Tr, (yieldsF ts).length ≤ trsSize ts
  | [] => by simp [yieldsF, trsSize]
  | t :: ts => by
    have := yieldF_len t
    have := yieldsF_len ts
    rw [yieldsF, trsSize, List.length_append]; omega
end
end Go.Proofs.Ytbnhmioijeagiaa.Ab
/- Chapter 20's walk over the nodes of a forest: each behind its kids. No condition. -/
set_option linter.unusedVariables false
set_option linter.unusedSimpArgs false
namespace Go.Proofs.Ytbnhmioijeagiaa.Ab
attribute [local irreducible] thenA inBlockA ACode AOps put IntKind.wrap

theorem ndC_len (n : Nd) : (ndC n).length = 4 := rfl
theorem alC_len (a : Al) : (alC a).length = 2 := rfl
theorem nd_at {l : List Nd} {i : Nat} {x : Nd} (h : l[i]? = some x) : ndC x <+: (encs ndC l).drop (i * 4) := encs_at ndC_len h
theorem al_at {l : List Al} {i : Nat} {x : Al} (h : l[i]? = some x) : alC x <+: (encs alC l).drop (i * 2) := encs_at alC_len h
def nums (l : List Nat) : List Int := l.map Int.ofNat

/-- What is known of a walk: which are done, and in which order. -/
structure Wk0 (f : Fo) (st : List Int) (l : List Nat) : Prop where
  len : st.length = f.nodes.length
  topo : Topo f l
  don : ∀ j : Nat, st[j]? = some 2 ↔ j ∈ l
  val : ∀ (j : Nat) x, st[j]? = some x → x = 0 ∨ x = 1 ∨ x = 2
/-- What a walk from a node on leaves. -/
structure Lp (f : Fo) (st1 : List Int) (l0 : List Nat) (st : List Int) (l : List Nat) : Prop where
  w : Wk0 f st l
  one : ∀ j : Nat, st[j]? = some 1 ↔ st1[j]? = some 1
  sub : ∀ j ∈ l0, j ∈ l
  cnt : st.count 0 ≤ st1.count 0
theorem Lp.trans {f : Fo} {a b c : List Int} {l m n : List Nat} (h : Lp f a l b m) (h' : Lp f b m c n) : Lp f a l c n :=
  ⟨h'.w, fun j => (h'.one j).trans (h.one j), fun j hj => h'.sub j (h.sub j hj), Nat.le_trans h'.cnt h.cnt⟩
def Dn (f : Fo) (l : List Nat) (k : Int) : Prop := k < f.nodes.length ∧ ∀ k' : Nat, k = k' → k' ∈ l
theorem Dn.mono {f : Fo} {l m : List Nat} (h : ∀ j ∈ l, j ∈ m) {k : Int} (hk : Dn f l k) : Dn f m k := ⟨hk.1, fun k' e => h k' (hk.2 k' e)⟩
/-- All kids of the Alts ahead are done. -/
def Ahead (f : Fo) (l : List Nat) (ls : List Al) : Prop := ∀ a ∈ ls, ∀ k ∈ a.kids, Dn f l k
theorem Ahead.mono {f : Fo} {l m : List Nat} (h : ∀ j ∈ l, j ∈ m) {ls : List Al} (hk : Ahead f l ls) : Ahead f m ls := fun a ha k hm => (hk a ha k hm).mono h
theorem Ahead.add {f : Fo} {l : List Nat} {ls : List Al} {i : Nat} {a : Al} (hk : Ahead f l (ls.take i)) (ha : ls[i]? = some a) (h : ∀ k ∈ a.kids, Dn f l k) : Ahead f l (ls.take (i + 1)) := by
  intro b hb
  rw [List.take_add_one, ha] at hb
  simp only [Option.toList_some, List.mem_append, List.mem_singleton] at hb
  rcases hb with hb | rfl
  · exact hk b hb
  · exact h
theorem take_add_mem {α : Type} {l : List α} {i : Nat} {x y : α} (hx : l[i]? = some x) (h : y ∈ l.take (i + 1)) : y ∈ l.take i ∨ y = x := by
  rw [List.take_add_one, hx] at h
  simpa using h

theorem wk_open {f : Fo} {st : List Int} {l : List Nat} {i : Nat} (h : Wk0 f st l) (hi : i < f.nodes.length) (h0 : st[i]? = some 0) : Wk0 f (st.set i 1) l ∧ (st.set i 1).count 0 < st.count 0 ∧ (∀ j : Nat, (st.set i 1)[j]? = some 1 ↔ j = i ∨ st[j]? = some 1) := by
  have hlt : i < st.length := by rw [h.len]; exact hi
  have hget : ∀ j : Nat, (st.set i 1)[j]? = if i = j then some 1 else st[j]? := by
    intro j
    rw [List.getElem?_set]
    by_cases e : i = j
    · rw [if_pos e, if_pos e, if_pos hlt]
    · rw [if_neg e, if_neg e]
  refine ⟨⟨by simp [h.len], h.topo, fun j => ?_, fun j x hx => ?_⟩, ?_, fun j => ?_⟩
  · rw [hget, ← h.don]
    by_cases e : i = j
    · rw [if_pos e]; subst e; rw [h0]; simp
    · rw [if_neg e]
  · rw [hget] at hx
    by_cases e : i = j
    · rw [if_pos e] at hx; cases hx; exact .inr (.inl rfl)
    · rw [if_neg e] at hx; exact h.val j x hx
  · rw [List.count_set hlt]
    have e1 : st[i] = 0 := by rw [List.getElem?_eq_getElem hlt] at h0; exact Option.some.inj h0
    have e2 : 0 < st.count 0 := List.count_pos_iff.2 (e1 ▸ List.getElem_mem hlt)
    simp only [e1]
    simp
    omega
  · rw [hget]
    by_cases e : i = j
    · rw [if_pos e]; simp [e]
    · rw [if_neg e]
      constructor
      · exact .inr
      · rintro (h | h)
        · exact absurd h.symm e
        · exact h
theorem wk_close {f : Fo} {st0 st1 st : List Int} {l0 l : List Nat} {i : Nat} (hi : i < f.nodes.length) (h0 : st0[i]? = some 0) (hone : ∀ j : Nat, st1[j]? = some 1 ↔ j = i ∨ st0[j]? = some 1) (hcnt : st1.count 0 < st0.count 0) (h : Lp f st1 l0 st l) (hA : Ahead f l (altsOf f i)) :
    Lp f st0 l0 (st.set i 2) (l ++ [i]) := by
  have hlt : i < st.length := by rw [h.w.len]; exact hi
  have h1 : st[i]? = some 1 := (h.one i).2 ((hone i).2 (.inl rfl))
  have hget : ∀ j : Nat, (st.set i 2)[j]? = if i = j then some 2 else st[j]? := by
    intro j
    rw [List.getElem?_set]
    by_cases e : i = j
    · rw [if_pos e, if_pos e, if_pos hlt]
    · rw [if_neg e, if_neg e]
  refine ⟨⟨by simp [h.w.len], .snoc h.w.topo hi (fun hm => ?_) (fun k ⟨a, ha, hk⟩ => (hA a ha k hk).1) (fun k ⟨a, ha, hk⟩ => (hA a ha k hk).2 k rfl), fun j => ?_, fun j x hx => ?_⟩, fun j => ?_, fun j hj => by simp [h.sub j hj], ?_⟩
  · have := (h.w.don i).2 hm
    rw [h1] at this; cases this
  · rw [hget]
    by_cases e : i = j
    · rw [if_pos e]; simp [e]
    · rw [if_neg e, h.w.don j]; simp; intro h; exact absurd h.symm e
  · rw [hget] at hx
    by_cases e : i = j
    · rw [if_pos e] at hx; cases hx; exact .inr (.inr rfl)
    · rw [if_neg e] at hx; exact h.w.val j x hx
  · rw [hget]
    by_cases e : i = j
    · rw [if_pos e]; subst e; rw [h0]; simp
    · rw [if_neg e, h.one j, hone j]
      constructor
      · rintro (h | h)
        · exact absurd h.symm e
        · exact h
      · exact .inr
  · have := h.cnt
    rw [List.count_set hlt]
    have e1 : st[i] = 1 := by rw [List.getElem?_eq_getElem hlt] at h1; exact Option.some.inj h1
    simp only [e1]
    simp
    omega

abbrev wkM (f : Fo) (b bs : Nat) (ob : Option Nat) (cap : Nat) (st : List Int) (l : List Nat) (M : List Ob) : List Ob :=
  ⟨some b, 4, [.psl f.nodes.length (encs ndC f.nodes), .int .i64 f.root, .own (some bs) f.nodes.length f.nodes.length, .own ob l.length cap]⟩ :: ⟨some bs, f.nodes.length * 1, ints st⟩ :: ⟨ob, cap * 1, ints (nums l)⟩ :: M

theorem nodes_at {f : Fo} {i : Nat} (hi : i < f.nodes.length) : ∃ n, f.nodes[i]? = some n ∧ n ∈ f.nodes ∧ altsOf f i = n.alts := by
  refine ⟨f.nodes[i], List.getElem?_eq_getElem hi, List.getElem_mem hi, ?_⟩
  simp [altsOf, List.getElem?_eq_getElem hi]
theorem nums_app (l m : List Nat) : nums (l ++ m) = nums l ++ nums m := by simp [nums]
theorem nums_len (l : List Nat) : (nums l).length = l.length := by simp [nums]
set_option maxHeartbeats 4000000 in
theorem node_calls {f : Fo} (hf : FoOk f) (b bs : Nat) (M : List Ob) : ∀ (m : Nat) (st : List Int) (l : List Nat) (ob : Option Nat) (cap i : Nat), st.count 0 < m → Wk0 f st l → (∀ o : Nat, st[o]? = some 1 → Rch f o i) → i < f.nodes.length →
    ACalls Try.prog 80 [.ref b 0, .int .i64 i] (wkM f b bs ob cap st l M) (fun r M' => (r = .bool true ∧ WF f i ∧ ∃ st' l' ob' cap', M' = wkM f b bs ob' cap' st' l' M ∧ Lp f st l st' l' ∧ i ∈ l') ∨ (r = .bool false ∧ ¬ WF f i ∧ ∃ o1 o2 o3, M' = o1 :: o2 :: o3 :: M)) := by
  intro m
  induction m with
  | zero => intro st l ob cap i hm; omega
  | succ m ih =>
    intro st l ob cap i hm hw hopen hi
    obtain ⟨hf1, hf2⟩ := hf
    have hlt : i < st.length := by rw [hw.len]; exact hi
    obtain ⟨s, hs⟩ : ∃ s, st[i]? = some s := ⟨st[i], List.getElem?_eq_getElem hlt⟩
    have hsA : (ints st)[i * 1]? = some (A.int .i64 s) := by rw [Nat.mul_one]; exact ints_get hs
    refine acalls_of_code 88 Try.func80 rfl rfl rfl ?_
    repeat (first | refine aops_end ?_ | refine aops_p tok rfl rfl rfl rfl ?_ | refine aops_ld tok 0 rfl rfl rfl rfl rfl rfl rfl rfl ?_ | refine acode_seq ?_ | refine acode_region ?_)
    refine aops_ixo tok rfl rfl rfl rfl (by omega) (by omega) rfl rfl rfl ?_
    refine aops_ld tok 1 (y := .int .i64 s) rfl rfl rfl rfl (by rw [headed_eq]; exact hsA) rfl rfl rfl ?_
    repeat' (first | refine aops_end ?_ | (refine aops_pn tok rfl rfl rfl rfl ?_ ?_ <;> intro e_) | refine aops_p tok rfl rfl rfl rfl ?_ | refine acode_it rfl ?_ | refine acode_if rfl ?_ | refine aops_ld tok 0 rfl rfl rfl rfl rfl rfl rfl rfl ?_ | refine acode_seq ?_ | refine acode_region ?_ | refine acode_skip ?_ | refine then_n ?_)
    · -- seen
      refine aops_ixo tok rfl rfl rfl rfl (by omega) (by omega) rfl rfl rfl ?_
      refine aops_ld tok 1 (y := .int .i64 s) rfl rfl rfl rfl (by rw [headed_eq]; exact hsA) rfl rfl rfl ?_
      have hne := e_
      repeat' (first | refine aops_end ?_ | (refine aops_pd tok rfl rfl rfl rfl ?_ ?_ <;> intro e_) | refine aops_p tok rfl rfl rfl rfl ?_)
      · subst e_
        refine acode_ret ?_
        repeat (refine ret_then ?_)
        have hmem := (hw.don i).1 hs
        exact ⟨.bool true, .inl ⟨rfl, hw.topo.wf i hmem, st, l, ob, cap, rfl, ⟨hw, fun _ => Iff.rfl, fun _ h => h, Nat.le_refl _⟩, hmem⟩, resOf_tmp rfl⟩
      · refine acode_ret ?_
        repeat (refine ret_then ?_)
        have h1 : st[i]? = some 1 := by rcases hw.val i s hs with rfl | rfl | rfl; exact absurd rfl hne; exact hs; exact absurd rfl e_
        exact ⟨.bool false, .inr ⟨rfl, fun hwf => hwf.noring (hopen i h1), _, _, _, rfl⟩, resOf_tmp rfl⟩
    · subst e_
      obtain ⟨hw1, hc1, hone1⟩ := wk_open hw hi hs
      obtain ⟨nd, hnd, hndm, hal⟩ := nodes_at hi
      obtain ⟨hal1, hal2⟩ := hf2 nd hndm
      skip
      refine aops_ixo tok rfl rfl rfl rfl (by omega) (by omega) rfl rfl rfl ?_
      refine aops_stk tok 1 (ints (st.set i 1)) (wkM f b bs ob cap (st.set i 1) l M) rfl rfl rfl rfl rfl rfl (by rw [ints_len]; show i * 1 + 1 ≤ _; omega) (ints_set1 hlt 1) rfl rfl rfl ?_
      have hL0 : Lp f (st.set i 1) l (st.set i 1) l := ⟨hw1, fun _ => Iff.rfl, fun _ h => h, Nat.le_refl _⟩
      generalize st.set i 1 = st1 at *
      repeat (first | refine aops_end ?_ | refine aops_p tok rfl rfl rfl rfl ?_ | refine aops_ld tok 0 rfl rfl rfl rfl rfl rfl rfl rfl ?_ | refine acode_seq ?_ | refine acode_region ?_)
      refine aops_ix tok (ndC nd) rfl rfl rfl rfl (by omega) (by omega) (by simp [ndC]) (nd_at hnd) rfl rfl rfl ?_
      repeat (first | refine aops_end ?_ | refine aops_p tok rfl rfl rfl rfl ?_ | refine acode_block ?_)
      refine acode_loopS (ι := Nat × List Int × List Nat × Option Nat × Nat) (fun p => [(0, .ref b 0), (1, .int .i64 i), (39, .psl nd.alts.length (encs alC nd.alts)), (40, .int .i64 nd.alts.length), (41, .int .i64 p.1)]) (fun p => wkM f b bs p.2.2.2.1 p.2.2.2.2 p.2.1 p.2.2.1 M) (fun p => nd.alts.length - p.1) (fun p => p.1 ≤ nd.alts.length ∧ Lp f st1 l p.2.1 p.2.2.1 ∧ Ahead f p.2.2.1 (nd.alts.take p.1)) (0, st1, l, ob, cap) ⟨Nat.zero_le _, hL0, by simp [Ahead]⟩ ⟨rfl, rfl, rfl, rfl, rfl, trivial⟩ rfl ?_
      rintro ⟨ai, st2, l2, ob2, cap2⟩ ⟨hai, hL2, hA2⟩
      simp only at hai hL2 hA2 ⊢
      repeat (first | refine aops_end ?_ | refine aops_p tok rfl rfl rfl rfl ?_ | refine acode_seq ?_ | refine acode_region ?_)
      refine acode_id rfl (fun e => ?_) (fun e => ?_)
      · have hail : ai < nd.alts.length := by omega
        obtain ⟨a, ha⟩ : ∃ a, nd.alts[ai]? = some a := ⟨nd.alts[ai], List.getElem?_eq_getElem hail⟩
        have ham := List.mem_of_getElem? ha
        have hkl := hal2 a ham
        repeat (first | refine acode_seq ?_ | refine acode_region ?_ | refine acode_block ?_ | refine acode_skip ?_ | refine then_n ?_)
        refine aops_ix tok (alC a) rfl rfl rfl rfl (by omega) (by omega) (by simp [alC]) (al_at ha) rfl rfl rfl ?_
        repeat (refine aops_p tok rfl rfl rfl rfl ?_)
        refine aops_alloc tok rfl rfl rfl rfl rfl rfl fun ba => ?_
        refine aops_stn tok rfl rfl rfl rfl rfl rfl rfl rfl rfl ?_
        refine aops_pubref0 6 rfl ?_
        repeat (first | refine aops_end ?_ | refine aops_p tok rfl rfl rfl rfl ?_ | refine acode_seq ?_ | refine acode_region ?_ | refine acode_block ?_)
        refine acode_loopS (ι := Nat × List Int × List Nat × Option Nat × Nat) (fun p => [(0, .ref b 0), (1, .int .i64 i), (39, .psl nd.alts.length (encs alC nd.alts)), (40, .int .i64 nd.alts.length), (41, .int .i64 ai), (46, .psl a.kids.length (ints a.kids)), (47, .int .i64 a.kids.length), (48, .int .i64 p.1)]) (fun p => wkM f b bs p.2.2.2.1 p.2.2.2.2 p.2.1 p.2.2.1 M) (fun p => a.kids.length - p.1) (fun p => p.1 ≤ a.kids.length ∧ Lp f st1 l p.2.1 p.2.2.1 ∧ Ahead f p.2.2.1 (nd.alts.take ai) ∧ ∀ k ∈ a.kids.take p.1, Dn f p.2.2.1 k) (0, st2, l2, ob2, cap2) ⟨Nat.zero_le _, hL2, hA2, by simp⟩ ⟨rfl, rfl, rfl, rfl, rfl, rfl, rfl, rfl, trivial⟩ rfl ?_
        clear hL2 hA2 st2 l2 ob2 cap2
        rintro ⟨ki, st2, l2, ob2, cap2⟩ ⟨hki, hL2, hA2, hK2⟩
        simp only at hki hL2 hA2 hK2 ⊢
        repeat (first | refine aops_end ?_ | refine aops_p tok rfl rfl rfl rfl ?_ | refine acode_seq ?_ | refine acode_region ?_)
        refine acode_id rfl (fun e2 => ?_) (fun e2 => ?_)
        · have hkil : ki < a.kids.length := by omega
          obtain ⟨k, hk⟩ : ∃ k, a.kids[ki]? = some k := ⟨a.kids[ki], List.getElem?_eq_getElem hkil⟩
          have hkid : Kid f i k := ⟨a, by rw [hal]; exact ham, List.mem_of_getElem? hk⟩
          repeat (first | refine acode_seq ?_ | refine acode_region ?_ | refine acode_block ?_ | refine acode_skip ?_ | refine then_n ?_)
          refine aops_ix tok [A.int .i64 k] rfl rfl rfl rfl (by omega) (by omega) (by simp) (ints_at (j := ki) (by simpa using hk)) rfl rfl rfl ?_
          repeat' (first | refine aops_end ?_ | refine aops_o rfl rfl rfl ?_ | refine aops_a tok rfl (by omega) (by omega) rfl rfl rfl ?_ | (refine aops_pd tok rfl rfl rfl rfl ?_ ?_ <;> intro e_) | refine aops_p tok rfl rfl rfl rfl ?_ | refine acode_it rfl ?_ | refine acode_if rfl ?_ | refine aops_ld tok 0 rfl rfl rfl rfl rfl rfl rfl rfl ?_ | refine acode_seq ?_ | refine acode_region ?_ | refine acode_skip ?_ | refine then_n ?_ | refine block_n ?_)
          · -- no node
            refine acode_ret ?_
            repeat (first | refine ret_then ?_ | refine ret_block ?_)
            exact ⟨.bool false, .inr ⟨rfl, fun hwf => by have := hwf.small hkid; omega, _, _, _, rfl⟩, resOf_tmp rfl⟩
          · -- one
            obtain ⟨k', rfl⟩ : ∃ k' : Nat, k = k' := ⟨k.toNat, by omega⟩
            have hkn : k' < f.nodes.length := by omega
            refine aops_call Try.func80 rfl rfl rfl rfl (ih st2 l2 ob2 cap2 k' (by have := hL2.cnt; omega) hL2.w (fun o ho => ?_) hkn) rfl rfl ?_
            · rcases (hone1 o).1 ((hL2.one o).1 ho) with rfl | h
              · exact .one hkid
              · exact (hopen o h).snoc hkid
            · rintro x M' (⟨rfl, hwf, st3, l3, ob3, cap3, rfl, hL3, hm3⟩ | ⟨rfl, hwf, o1, o2, o3, rfl⟩)
              · repeat' (first | refine aops_put rfl ?_ | refine aops_end ?_ | refine aops_a tok rfl (by omega) (by omega) rfl rfl rfl ?_ | refine aops_p tok rfl rfl rfl rfl ?_ | refine acode_if rfl ?_ | refine acode_region ?_ | refine acode_skip ?_ | refine then_n ?_ | refine block_n ?_)
                refine ⟨(ki + 1, st3, l3, ob3, cap3), ⟨by simp; omega, hL2.trans hL3, hA2.mono hL3.sub, fun k hkm => ?_⟩, by simp; omega, ⟨rfl, rfl, rfl, rfl, rfl, rfl, rfl, rfl, trivial⟩, rfl⟩
                rcases take_add_mem hk hkm with hkm | rfl
                · exact (hK2 k hkm).mono hL3.sub
                · exact ⟨by omega, fun k2 e => by rw [← Int.ofNat_inj.1 e]; exact hm3⟩
              · repeat' (first | refine aops_put rfl ?_ | refine aops_end ?_ | refine aops_p tok rfl rfl rfl rfl ?_ | refine acode_it rfl ?_ | refine acode_seq ?_ | refine acode_region ?_)
                refine acode_ret ?_
                repeat (first | refine ret_then ?_ | refine ret_block ?_)
                exact ⟨.bool false, .inr ⟨rfl, fun h => hwf (h.kid hkid), _, _, _, rfl⟩, resOf_tmp rfl⟩
          · -- a token
            refine ⟨(ki + 1, st2, l2, ob2, cap2), ⟨by simp; omega, hL2, hA2, fun k2 hkm => ?_⟩, by simp; omega, ⟨rfl, rfl, rfl, rfl, rfl, rfl, rfl, rfl, trivial⟩, rfl⟩
            rcases take_add_mem hk hkm with hkm | rfl
            · exact hK2 k2 hkm
            · exact ⟨by omega, fun k3 e => by omega⟩
        · have hge : ki = a.kids.length := by omega
          subst hge
          rw [List.take_length] at hK2
          refine acode_exit ?_
          repeat (first | refine exit_then ?_ | refine exit_here ?_ | refine then_n ?_ | refine block_n ?_)
          repeat (first | refine aops_end ?_ | refine aops_a tok rfl (by omega) (by omega) rfl rfl rfl ?_ | refine aops_p tok rfl rfl rfl rfl ?_ | refine acode_region ?_)
          exact ⟨(ai + 1, st2, l2, ob2, cap2), ⟨by simp; omega, hL2, hA2.add ha hK2⟩, by simp; omega, ⟨rfl, rfl, rfl, rfl, rfl, trivial⟩, rfl⟩
      · have hge : ai = nd.alts.length := by omega
        subst hge
        rw [List.take_length, ← hal] at hA2
        have hlt2 : i < st2.length := by rw [hL2.w.len]; exact hi
        have hfin := wk_close hi hs hone1 hc1 hL2 hA2
        have hlen := hfin.w.topo.len
        simp only [List.length_append, List.length_singleton] at hlen
        refine acode_exit ?_
        repeat (first | refine exit_then ?_ | refine exit_here ?_ | refine then_n ?_)
        repeat (first | refine aops_p tok rfl rfl rfl rfl ?_ | refine aops_ld tok 0 rfl rfl rfl rfl rfl rfl rfl rfl ?_ | refine acode_seq ?_ | refine acode_region ?_)
        refine aops_ixo tok rfl rfl rfl rfl (by omega) (by omega) rfl rfl rfl ?_
        refine aops_stk tok 1 (ints (st2.set i 2)) (wkM f b bs ob2 cap2 (st2.set i 2) l2 M) rfl rfl rfl rfl rfl rfl (by rw [ints_len]; show i * 1 + 1 ≤ _; omega) (ints_set1 hlt2 2) rfl rfl rfl ?_
        repeat (first | refine aops_end ?_ | refine aops_p tok rfl rfl rfl rfl ?_ | refine aops_ld tok 0 rfl rfl rfl rfl rfl rfl rfl rfl ?_ | refine acode_seq ?_ | refine acode_region ?_)
        refine aops_litf tok rfl rfl rfl rfl rfl rfl rfl ?_
        refine aops_append tok 2 (m := 1) (ds := ints (nums [i])) rfl rfl rfl (.inl rfl) rfl rfl (by rw [ints_len, nums_len]; exact (Nat.mul_one _).symm) rfl rfl rfl (by show _ * 8 ≤ _; omega) (by omega) rfl rfl fun ob3 cap3 => ?_
        repeat (first | refine aops_put rfl ?_ | refine aops_end ?_ | refine aops_p tok rfl rfl rfl rfl ?_ | refine aops_stn tok rfl rfl rfl rfl rfl rfl rfl rfl rfl ?_ | refine acode_seq ?_ | refine acode_region ?_)
        refine acode_ret ?_
        skip
        refine ⟨.bool true, .inl ⟨rfl, hfin.w.topo.wf i (by simp), st2.set i 2, l2 ++ [i], ob3, cap3, ?_, hfin, by simp⟩, resOf_tmp rfl⟩
        simp only [wkM, nums_app, ints_app, List.length_append, List.length_singleton]
        rfl
end Go.Proofs.Ytbnhmioijeagiaa.Ab
/- (as far as count.Order) Chapter 20's functions: the walk. No condition. -/
set_option linter.unusedVariables false
set_option linter.unusedSimpArgs false
namespace Go.Proofs.Ytbnhmioijeagiaa.Ab
attribute [local irreducible] thenA inBlockA ACode AOps put IntKind.wrap

/-- A forest. -/
def FForm (f : Fo) : Prop := (0 ≤ f.root ∧ f.root < f.nodes.length) ∧ ∀ i, i < f.nodes.length → WF f i
theorem count_zeros (n : Nat) (x : Int) (j : Nat) : (List.replicate n (0 : Int))[j]? = some x → x = 0 := by
  intro h
  rw [List.getElem?_replicate] at h
  split at h
  · exact (Option.some.inj h).symm
  · cases h
theorem wk0_init (f : Fo) : Wk0 f (List.replicate f.nodes.length 0) [] :=
  ⟨by simp, .nil, fun j => ⟨fun h => by have := count_zeros _ _ _ h; omega, fun h => by simp at h⟩, fun j x h => .inl (count_zeros _ _ _ h)⟩

set_option maxHeartbeats 2000000 in
theorem order_calls {f : Fo} (hf : FoOk f) (M : List Ob) : ACalls Try.prog 47 [foA f] M (fun r M' => M' = M ∧ ((FForm f ∧ ∃ l, r = .tup [.psl l.length (ints (nums l)), .bool true] ∧ Topo f l ∧ ∀ i, i < f.nodes.length → i ∈ l) ∨ (¬ FForm f ∧ r = .tup [.nils, .bool false]))) := by
  obtain ⟨hf1, hf2⟩ := id hf
  refine acalls_of_code 39 Try.func47 rfl rfl rfl ?_
  repeat (first | refine acode_seq ?_ | refine acode_region ?_)
  refine aops_boxf rfl rfl rfl rfl rfl rfl rfl ?_
  repeat (first | refine aops_end ?_ | refine aops_p tok rfl rfl rfl rfl ?_ | refine acode_seq ?_)
  refine acode_drawP [] 7 [0, 1, 2, 3, 4, 5, 6] [4, 6] mixed (by kernel_rfl) (by kernel_rfl) rfl ?_
  repeat (refine seqO_p tok rfl rfl rfl rfl rfl ?_)
  refine seqO_mk tok f.nodes.length rfl rfl rfl rfl rfl rfl rfl (by show _ * 8 ≤ _; omega) (by omega) (by simp) rfl rfl rfl fun bs => ?_
  repeat (refine seqO_p tok rfl rfl rfl rfl rfl ?_)
  refine seqO_boxo rfl rfl rfl rfl (by simp) rfl rfl rfl rfl fun b => ?_
  refine SeqO.done ?_
  refine aops_adoptF 3 rfl rfl ?_
  repeat (refine aops_p tok rfl rfl rfl rfl ?_)
  refine aops_end ?_
  refine acode_swap1 ?_
  refine acode_M (M' := wkM f b bs none 0 (List.replicate f.nodes.length 0) [] M) (by simp only [wkM]; rw [← ints_zeros]; rfl) ?_
  have hw0 := wk0_init f
  have hno : ∀ o : Nat, (List.replicate f.nodes.length (0 : Int))[o]? ≠ some 1 := fun o h => by have := count_zeros _ _ _ h; omega
  generalize List.replicate f.nodes.length (0 : Int) = st at *
  repeat' (first | refine aops_end ?_ | refine aops_o rfl rfl rfl ?_ | (refine aops_pd tok rfl rfl rfl rfl ?_ ?_ <;> intro e_) | refine aops_p tok rfl rfl rfl rfl ?_ | refine acode_it rfl ?_ | refine acode_if rfl ?_ | refine acode_seq ?_ | refine acode_region ?_ | refine acode_block ?_ | refine acode_skip ?_ | refine then_n ?_)
  · refine acode_drop0 (acode_drop0 (acode_drop0 (acode_ret ?_)))
    repeat (refine ret_then ?_)
    exact ⟨_, ⟨rfl, .inr ⟨fun h => by have := h.1; omega, rfl⟩⟩, _, _, rfl, resOf_tmp rfl, resOf_tmp rfl⟩
  · refine acode_drop0 (acode_drop0 (acode_drop0 (acode_ret ?_)))
    repeat (refine ret_then ?_)
    exact ⟨_, ⟨rfl, .inr ⟨fun h => by have := h.1; omega, rfl⟩⟩, _, _, rfl, resOf_tmp rfl, resOf_tmp rfl⟩
  · refine acode_loopS (ι := Nat × List Int × List Nat × Option Nat × Nat) (fun p => [(4, .ref b 0), (26, .int .i64 f.nodes.length), (27, .int .i64 p.1)]) (fun p => wkM f b bs p.2.2.2.1 p.2.2.2.2 p.2.1 p.2.2.1 M) (fun p => f.nodes.length - p.1) (fun p => p.1 ≤ f.nodes.length ∧ Wk0 f p.2.1 p.2.2.1 ∧ (∀ o : Nat, p.2.1[o]? ≠ some 1) ∧ ∀ j, j < p.1 → j ∈ p.2.2.1) (0, st, [], none, 0) ⟨Nat.zero_le _, hw0, fun o h => ?_, fun j hj => by omega⟩ ⟨rfl, rfl, rfl, trivial⟩ rfl ?_
    · exact hno o h
    rintro ⟨i, st1, l, ob, cap⟩ ⟨hi, hw, hone, hdone⟩
    simp only at hi hw hone hdone ⊢
    repeat (first | refine aops_end ?_ | refine aops_p tok rfl rfl rfl rfl ?_ | refine acode_seq ?_ | refine acode_region ?_)
    refine acode_id rfl (fun e => ?_) (fun e => ?_)
    · have hil : i < f.nodes.length := by omega
      repeat (first | refine aops_end ?_ | refine aops_p tok rfl rfl rfl rfl ?_ | refine acode_seq ?_ | refine acode_region ?_ | refine acode_block ?_ | refine acode_skip ?_ | refine then_n ?_)
      refine aops_call Try.func80 rfl rfl rfl rfl (node_calls hf b bs M (st1.count 0 + 1) st1 l ob cap i (by omega) hw (fun o h => absurd h (hone o)) hil) rfl rfl ?_
      rintro x M' (⟨rfl, hwf, st2, l2, ob2, cap2, rfl, hL, hm⟩ | ⟨rfl, hwf, o1, o2, o3, rfl⟩)
      · repeat' (first | refine aops_put rfl ?_ | refine aops_end ?_ | refine aops_a tok rfl (by omega) (by omega) rfl rfl rfl ?_ | refine aops_p tok rfl rfl rfl rfl ?_ | refine acode_if rfl ?_ | refine acode_region ?_ | refine acode_skip ?_ | refine then_n ?_ | refine block_n ?_)
        refine ⟨(i + 1, st2, l2, ob2, cap2), ⟨by simp; omega, hL.w, fun o h => hone o ((hL.one o).1 h), fun j hj => ?_⟩, by simp; omega, ⟨rfl, rfl, rfl, trivial⟩, rfl⟩
        by_cases h : j = i
        · subst h; exact hm
        · exact hL.sub j (hdone j (by simp at hj; omega))
      · repeat' (first | refine aops_put rfl ?_ | refine aops_end ?_ | refine aops_p tok rfl rfl rfl rfl ?_ | refine acode_it rfl ?_ | refine acode_seq ?_ | refine acode_region ?_)
        refine acode_drop0 (acode_drop0 (acode_drop0 (acode_ret ?_)))
        repeat (first | refine ret_then ?_ | refine ret_block ?_)
        exact ⟨_, ⟨rfl, .inr ⟨fun h => hwf (h.2 i hil), rfl⟩⟩, _, _, rfl, resOf_tmp rfl, resOf_tmp rfl⟩
    · have hge : i = f.nodes.length := by omega
      subst hge
      refine acode_exit ?_
      repeat (first | refine exit_then ?_ | refine exit_here ?_ | refine then_n ?_)
      repeat (first | refine aops_end ?_ | refine aops_p tok rfl rfl rfl rfl ?_ | refine aops_ld tok 0 rfl rfl rfl rfl rfl rfl rfl rfl ?_ | refine acode_seq ?_ | refine acode_region ?_)
      refine acode_publish 2 2 1 rfl rfl rfl (by rw [ints_len, nums_len, Nat.mul_one]) (by decide) ?_
      refine acode_drop0 (acode_drop0 (acode_ret ?_))
      skip
      exact ⟨_, ⟨rfl, .inl ⟨⟨⟨by omega, by omega⟩, fun i hi => hw.topo.wf i (hdone i hi)⟩, l, rfl, hw.topo, hdone⟩⟩, _, _, rfl, resOf_tmp rfl, resOf_tmp rfl⟩
theorem altsF_add (g : Nat → Int) {ls : List Al} {i : Nat} {a : Al} (h : ls[i]? = some a) : altsF g 0 (ls.take (i + 1)) = addN (altsF g 0 (ls.take i)) (altF g 1 a.kids) := by
  rw [List.take_add_one, h]; simp [altsF, List.foldl_append]
theorem range_get (T : Nat → Int) {n i : Nat} (h : i < n) : ((List.range n).map T)[i]? = some (T i) := by simp [List.getElem?_range h]
end Go.Proofs.Ytbnhmioijeagiaa.Ab
/- The forest that chapter 19's reference builds, in plain terms: its nodes, that it has no ring, its trees. No condition. -/
set_option linter.unusedVariables false
set_option linter.unusedSimpArgs false
namespace Go.Proofs.Ytbnhmioijeagiaa.Ab

theorem buildF_some {g : Gr} {ks : List Int} {N lim : Nat} {f : Fo} (fo : FormOk g N) (hN : g.names = N) (h : (buildF g ks lim).1 = some f) : ∃ K A, f = bldF K A ∧ QOk g ks ks.length (chF g ks N ks.length) lim K.length K A ∧ (∀ k ∈ K, KyN N ks.length (chF g ks N ks.length) k) ∧ K[0]? = some (g.start, (0 : Int), (ks.length : Int)) := by
  have hNN : g.names.toNat = N := by omega
  unfold buildF at h
  rw [hNN] at h
  generalize hF : chF g ks N ks.length = F at *
  split at h
  · cases h
  · rename_i hh
    have hh : hasF N ks.length F g.start 0 ks.length = true := by simpa using hh
    have hst := fo.st
    unfold isName at hst
    cases hq : bldQ g ks ks.length F lim (lim + 2) 0 [(g.start, 0, (ks.length : Int))] [] 1 with
    | none => rw [hq] at h; cases h
    | some x =>
      rw [hq] at h
      obtain ⟨K, A⟩ := x
      obtain ⟨h1, h2, h3⟩ := bldQ_spec hN fo.sym _ _ _ _ _ hq ⟨rfl, fun j hj => absurd hj (by omega)⟩ (by simp) (by
        intro k hk
        rw [List.mem_singleton.1 hk]
        unfold hasF at hh
        simp only [Bool.and_eq_true] at hh
        exact ⟨g.start.toNat, 0, ks.length, by omega, by omega, Nat.le_refl _, by rw [Int.toNat_of_nonneg hst.1]; rfl, by simpa using hh.2⟩)
      refine ⟨K, A, (Option.some.inj h).symm, h2, h3, ?_⟩
      obtain ⟨t, ht⟩ := h1
      rw [← ht]; rfl

theorem insK_perm {α : Type} (lt : α → α → Bool) (x : α) : ∀ l : List α, (insK lt x l).Perm (x :: l)
  | [] => List.Perm.refl _
  | y :: l => by
    unfold insK
    split
    · exact ((insK_perm lt x l).cons y).trans (List.Perm.swap x y l)
    · exact List.Perm.refl _
theorem sortL_perm {α : Type} (lt : α → α → Bool) : ∀ (l out : List α), (l.foldl (fun out x => insK lt x out) out).Perm (out ++ l)
  | [], out => by simp
  | x :: l, out => by
    rw [List.foldl_cons]
    refine (sortL_perm lt l _).trans ?_
    refine ((insK_perm lt x out).append_right l).trans ?_
    exact (List.perm_middle (l₁ := out) (l₂ := l) (a := x)).symm
theorem sortK_perm {α : Type} (lt : α → α → Bool) (l : List α) : (sortK lt l).Perm l := by
  unfold sortK
  simpa using sortL_perm lt l []

/-- A node of the forest, by its key. -/
structure NodeIs (g : Gr) (ks : List Int) (N n : Nat) (F : List (List Bool)) (o : List Ky) (f : Fo) (i s a b : Nat) (m : List Wy) : Prop where
  key : o[i]? = some ((s : Int), (a : Int), (b : Int))
  sN : s < N
  ab : a ≤ b
  bn : b ≤ n
  mine : MineOk g ks n F s a b m
  some : m ≠ []
  kids : ∀ w ∈ m, ∀ y ∈ w.2, 0 ≤ y.1 → y ∈ o
  alts : altsOf f i = sortK lowF (m.map (altN o))
theorem node_is {g : Gr} {ks : List Int} {N n lim : Nat} {F : List (List Bool)} {K : List Ky} {A : List (List Wy)} (hS : Sup g ks N n F) (hl0 : ∀ r ∈ g.rules, 0 ≤ r.left) (hq : QOk g ks n F lim K.length K A) (hK : ∀ k ∈ K, KyN N n F k) {i : Nat} {k : Ky} (hi : (sortK aheadF K)[i]? = some k) : ∃ (s a b : Nat) (m : List Wy), k = ((s : Int), (a : Int), (b : Int)) ∧ NodeIs g ks N n F (sortK aheadF K) (bldF K A) i s a b m := by
  have hkK : k ∈ K := sortK_mem.1 (List.mem_of_getElem? hi)
  obtain ⟨s, a, b, h1, h2, h3, rfl, h4⟩ := hK k hkK
  obtain ⟨g1, g2, g3⟩ := findF_at hkK
  obtain ⟨k', c, e1, e2, e3, e4⟩ := hq.2 (findF ((s : Int), (a : Int), (b : Int)) K 0).toNat (by omega)
  rw [g1] at e1
  cases e1
  refine ⟨s, a, b, _, rfl, hi, h1, h2, h3, mineF_is h3 c, mineF_some hS hl0 h2 h3 h4 e2, fun w hw y hy h0 => sortK_mem.2 (e4 w hw y hy h0), ?_⟩
  unfold altsOf bldF
  simp only
  rw [List.getElem?_map, hi]
  simp only [Option.map_some, Option.getD_some]
  unfold nodeN
  simp only
  rw [List.getD_eq_getElem?_getD (l := A), e3]
  rfl
theorem way_split {ks : List Int} {n : Nat} {F : List (List Bool)} : ∀ {l : List Int} {fr to : Nat} {w : List Ky}, WayOk ks n F l fr to w → ∀ y ∈ w, ∃ l1 s l2 a b, l = l1 ++ s :: l2 ∧ b ≤ n ∧ Chn ks n F l1 fr a ∧ link ks n F s a b = true ∧ Chn ks n F l2 b to ∧ y = kyOf s a b
  | [], fr, to, w, ⟨h, _⟩, y, hy => by subst h; cases hy
  | s :: l, fr, to, w, ⟨j, w', hw, h1, h2, h3⟩, y, hy => by
    subst hw
    rcases List.mem_cons.1 hy with rfl | hy
    · refine ⟨[], s, l, fr, j, rfl, h1, rfl, h2, ?_, rfl⟩
      have : ∀ {l : List Int} {fr to : Nat} {w : List Ky}, WayOk ks n F l fr to w → Chn ks n F l fr to := by
        intro l
        induction l with
        | nil => intro fr to w h; exact h.2
        | cons s l ih => intro fr to w ⟨j, w', _, h1, h2, h3⟩; exact ⟨j, h1, h2, ih h3⟩
      exact this h3
    · obtain ⟨l1, t, l2, a, b, e, q1, q2, q3, q4, q5⟩ := way_split h3 y hy
      exact ⟨s :: l1, t, l2, a, b, by rw [e]; rfl, q1, ⟨j, h1, h2, q2⟩, q3, q4, q5⟩
theorem alone_of {null : List Bool} {g : Gr} {l1 l2 : List Int} {s : Int} (h1 : emptyF g null l1 = true) (h2 : emptyF g null l2 = true) (hs : 0 ≤ s) : aloneT null (l1 ++ s :: l2) l1.length (l1 ++ s :: l2).length = true := by
  unfold aloneT
  rw [Bool.and_eq_true]
  constructor
  · rw [List.getD_eq_getElem?_getD, List.getElem?_append_right (Nat.le_refl _), Nat.sub_self]
    exact decide_eq_true hs
  · rw [List.all_eq_true]
    intro q hq
    have hq := List.mem_range.1 hq
    rw [List.length_append, List.length_cons] at hq
    have hx : ∀ (l : List Int) (p : Nat), emptyF g null l = true → p < l.length → (decide (0 ≤ l.getD p 0) && null.getD (l.getD p 0).toNat false) = true := by
      intro l p h hp
      unfold emptyF at h
      rw [List.all_eq_true] at h
      have := h (l.getD p 0) (by rw [List.getD_eq_getElem?_getD, List.getElem?_eq_getElem hp]; exact List.getElem_mem hp)
      simp only [Bool.and_eq_true, decide_eq_true_eq] at this ⊢
      have h2 := this.1
      unfold isName at h2
      exact ⟨h2.1, this.2⟩
    rcases Nat.lt_trichotomy q l1.length with h | h | h
    · have e : (l1 ++ s :: l2).getD q 0 = l1.getD q 0 := by rw [List.getD_eq_getElem?_getD, List.getElem?_append_left h, ← List.getD_eq_getElem?_getD]
      rw [e, hx l1 q h1 h, Bool.or_true]
    · subst h; simp
    · have e : (l1 ++ s :: l2).getD q 0 = l2.getD (q - l1.length - 1) 0 := by
        rw [List.getD_eq_getElem?_getD, List.getElem?_append_right (by omega), show q - l1.length = (q - l1.length - 1) + 1 by omega, List.getElem?_cons_succ, ← List.getD_eq_getElem?_getD]
        rfl
      rw [e, hx l2 _ h2 (by omega), Bool.or_true]
/-- What a kid's key is to the node's: within it, and shorter or of a lower rank. -/
theorem kid_less {g : Gr} {ks : List Int} {N n k : Nat} {F : List (List Bool)} (fo : FormOk g N) (hN : g.names = N) (hk : N = k + 1) (hc : (cycF g N).any id = false) (hS : Sup g ks N n F) {r : Ru} (hr : r ∈ g.rules) {s a b : Nat} (hs : r.left = s) (hb : b ≤ n) {w : List Ky} (hw : WayOk ks n F r.right a b w) : ∀ y ∈ w, 0 ≤ y.1 → ∃ t a' b' : Nat, y = ((t : Int), (a' : Int), (b' : Int)) ∧ a ≤ a' ∧ a' ≤ b' ∧ b' ≤ b ∧ (b' - a' < b - a ∨ b' - a' = b - a ∧ rank g N t < rank g N s) := by
  intro y hy h0
  obtain ⟨l1, t, l2, a', b', e, q1, q2, q3, q4, rfl⟩ := way_split hw y hy
  have ht : isSym g t := fo.sym r hr t (by rw [e]; simp)
  have o1 := chn_le q2
  have o2 := chn_le q4
  have o3 := link_le q3
  rcases kyOf_is hN ht q1 q3 with ⟨_, _, _, _, h⟩ | ⟨t', rfl, h1, h2, h3, h⟩
  · rw [h] at h0; simp at h0
  · rw [h]
    refine ⟨t', a', b', rfl, o1, o3, o2, ?_⟩
    by_cases hlt : b' - a' < b - a
    · exact .inl hlt
    · obtain rfl : a = a' := by omega
      obtain rfl : b = b' := by omega
      have e1 := chn_null hS (by omega) (fun t ht => fo.sym r hr t (by rw [e]; simp [ht])) q2
      have e2 := chn_null hS hb (fun t ht => fo.sym r hr t (by rw [e]; simp [ht])) q4
      have hal := alone_of e1 e2 h0
      have hlt2 : ∀ r ∈ g.rules, r.left.toNat < N := fun r hr => by have := fo.left r hr; unfold isName at this; omega
      have := rank_fall hk hlt2 fo.sym hN hc r hr l1.length (by rw [e]; simp) (by rw [e]; exact alone_of e1 e2 (by omega))
      rw [e, List.getD_eq_getElem?_getD, List.getElem?_append_right (Nat.le_refl _), Nat.sub_self] at this
      simp only [List.getElem?_cons_zero, Option.getD_some, Int.toNat_natCast, hs] at this
      exact .inr ⟨rfl, this⟩

/-- All that is known of a forest that Build makes. -/
structure Blt (g : Gr) (ks : List Int) (N : Nat) (F : List (List Bool)) (o : List Ky) (f : Fo) : Prop where
  fo : FormOk g N
  hN : g.names = N
  cyc : (cycF g N).any id = false
  sup : Sup g ks N ks.length F
  len : f.nodes.length = o.length
  node : ∀ i k, o[i]? = some k → ∃ (s a b : Nat) (m : List Wy), k = ((s : Int), (a : Int), (b : Int)) ∧ NodeIs g ks N ks.length F o f i s a b m
  root : ∃ r : Nat, f.root = r ∧ o[r]? = some (g.start, (0 : Int), (ks.length : Int))
theorem blt_of {g : Gr} {ks : List Int} {N lim : Nat} {f : Fo} (hc : chkF g = 0) (hN : g.names = N) (h : (buildF g ks lim).1 = some f) : ∃ F o, Blt g ks N F o f := by
  have hform : (formF g).2 = 0 := by
    unfold chkF at hc
    split at hc
    · rename_i h1; exact absurd hc h1
    · rename_i h1; exact Classical.not_not.1 h1
  obtain ⟨fo, hN'⟩ := form_ok hform
  have hNN : g.names.toNat = N := by omega
  rw [hNN] at fo
  have hcyc : (cycF g N).any id = false := by
    unfold chkF at hc
    rw [if_neg (by simp [hform]), hNN] at hc
    split at hc
    · cases hc
    · split at hc
      · cases hc
      · rename_i h1; simpa using h1
  have hlt : ∀ r ∈ g.rules, r.left.toNat < N := fun r hr => by have := fo.left r hr; unfold isName at this; omega
  have hl0 : ∀ r ∈ g.rules, 0 ≤ r.left := fun r hr => by have := fo.left r hr; unfold isName at this; omega
  obtain ⟨K, A, rfl, hq, hK, hr⟩ := buildF_some fo hN h
  have hS := chF_sup (ks := ks) (n := ks.length) fo.sym hlt
  refine ⟨_, sortK aheadF K, fo, hN, hcyc, hS, by simp [bldF], fun i k hi => node_is hS hl0 hq hK hi, ?_⟩
  have hrm : (g.start, (0 : Int), (ks.length : Int)) ∈ sortK aheadF K := sortK_mem.2 (List.mem_of_getElem? hr)
  obtain ⟨h1, h2, h3⟩ := findF_at hrm
  refine ⟨(findF (g.start, (0 : Int), (ks.length : Int)) (sortK aheadF K) 0).toNat, ?_, h1⟩
  unfold bldF
  simp only
  rw [List.getD_eq_getElem?_getD, hr, Option.getD_some]
  omega
theorem blt_kid {g : Gr} {ks : List Int} {N : Nat} {F : List (List Bool)} {o : List Ky} {f : Fo} (B : Blt g ks N F o f) {i s a b : Nat} {m : List Wy} (hn : NodeIs g ks N ks.length F o f i s a b m) {k : Int} (hk : Kid f i k) : k < o.length ∧ (0 ≤ k → ∃ t a' b' : Nat, o[k.toNat]? = some ((t : Int), (a' : Int), (b' : Int)) ∧ (b' - a') * (N + 1) + rank g N t < (b - a) * (N + 1) + rank g N s) := by
  obtain ⟨al, hal, hm⟩ := hk
  rw [hn.alts] at hal
  obtain ⟨w, hw, rfl⟩ := List.mem_map.1 (sortK_mem.1 hal)
  obtain ⟨y, hy, rfl⟩ := List.mem_map.1 hm
  have ho : 0 < o.length := by have := (List.getElem?_eq_some_iff.1 hn.key).1; omega
  obtain ⟨j, h1, h2, h3, h4⟩ := hn.mine.way w hw
  have hrm := List.mem_of_getElem? (ruleAt_at (g := g) (i := (j : Int)) (by omega) (by omega))
  unfold kidN
  split
  · rename_i hy0
    rcases way_ky B.hN (B.fo.sym _ hrm) h4 y hy with ⟨t, _, rfl⟩ | ⟨t, a', b', _, _, _, rfl, _⟩
    · simp only; omega
    · simp only at hy0; omega
  · rename_i hy0
    have hy0 : 0 ≤ y.1 := by omega
    have hyo := hn.kids w hw y hy hy0
    obtain ⟨e1, e2, e3⟩ := findF_at hyo
    refine ⟨e3, fun _ => ?_⟩
    obtain ⟨N', hN'⟩ : ∃ N', N = N' + 1 := ⟨N - 1, by have := B.fo.n0; omega⟩
    obtain ⟨t, a', b', rfl, g1, g2, g3, g4⟩ := kid_less B.fo B.hN hN' B.cyc B.sup hrm h3 hn.bn h4 y hy hy0
    refine ⟨t, a', b', e1, ?_⟩
    rcases g4 with g4 | ⟨g4, g5⟩
    · have := rank_le g N t
      have h5 : (b' - a' + 1) * (N + 1) ≤ (b - a) * (N + 1) := Nat.mul_le_mul_right _ g4
      rw [Nat.add_mul, Nat.one_mul] at h5
      omega
    · rw [g4]; omega
theorem blt_wf {g : Gr} {ks : List Int} {N : Nat} {F : List (List Bool)} {o : List Ky} {f : Fo} (B : Blt g ks N F o f) : ∀ (q i s a b : Nat), o[i]? = some ((s : Int), (a : Int), (b : Int)) → (b - a) * (N + 1) + rank g N s < q → WF f i
  | 0, i, s, a, b, _, h => absurd h (by omega)
  | q + 1, i, s, a, b, hi, h => by
    obtain ⟨s', a', b', m, e, hn⟩ := B.node i _ hi
    simp only [Prod.mk.injEq] at e
    obtain ⟨rfl, rfl, rfl⟩ : s = s' ∧ a = a' ∧ b = b' := by omega
    refine .mk (by rw [B.len]; exact (List.getElem?_eq_some_iff.1 hi).1) (fun k hk => by rw [B.len]; exact (blt_kid B hn hk).1) (fun k hk => ?_)
    obtain ⟨t, a', b', h1, h2⟩ := (blt_kid B hn hk).2 (by omega)
    exact blt_wf B q k t a' b' (by simpa using h1) (by omega)
theorem blt_all {g : Gr} {ks : List Int} {N : Nat} {F : List (List Bool)} {o : List Ky} {f : Fo} (B : Blt g ks N F o f) {i : Nat} (hi : i < f.nodes.length) : WF f i := by
  rw [B.len] at hi
  obtain ⟨s, a, b, m, e, hn⟩ := B.node i _ (List.getElem?_eq_getElem hi)
  exact blt_wf B _ i s a b hn.key (Nat.lt_succ_self _)
theorem blt_form {g : Gr} {ks : List Int} {N : Nat} {F : List (List Bool)} {o : List Ky} {f : Fo} (B : Blt g ks N F o f) : FForm f := by
  obtain ⟨r, h1, h2⟩ := B.root
  have := (List.getElem?_eq_some_iff.1 h2).1
  exact ⟨⟨by omega, by rw [h1, B.len]; omega⟩, fun i hi => blt_all B hi⟩
end Go.Proofs.Ytbnhmioijeagiaa.Ab
/- The trees of a forest, all of them in order, in plain terms. No condition. -/
set_option linter.unusedVariables false
set_option linter.unusedSimpArgs false
namespace Go.Proofs.Ytbnhmioijeagiaa.Ab
/-! ### numbers, at most great -/
def sat (n : Int) : Int := if n > great then great else n
theorem great_pos : (0 : Int) < great := by decide
theorem sat_of {n : Int} (h : sat n < great) : sat n = n := by unfold sat at h ⊢; split at h <;> split <;> omega
theorem sat_small {n : Int} (h : n ≤ great) : sat n = n := by unfold sat; rw [if_neg (by omega)]
theorem sat_nn {n : Int} (h : 0 ≤ n) : 0 ≤ sat n := by have := great_pos; unfold sat; split <;> omega
theorem sat_le (n : Int) : sat n ≤ great := by unfold sat; split <;> omega
theorem sat_zero {n : Int} (h : 0 ≤ n) : sat n = 0 ↔ n = 0 := by
  have := great_pos
  unfold sat; split <;> omega
theorem addN_sat {a b : Int} (ha : 0 ≤ a) (hb : 0 ≤ b) : addN (sat a) (sat b) = sat (a + b) := by
  have := great_pos
  unfold addN sat
  split <;> split <;> split <;> (try split) <;> omega
theorem mulN_sat {a b : Int} (ha : 0 ≤ a) (hb : 0 ≤ b) : mulN (sat a) (sat b) = sat (a * b) := by
  have hg := great_pos
  unfold mulN
  by_cases h0 : sat a = 0 ∨ sat b = 0
  · rw [if_pos h0]
    rcases h0 with h | h
    · rw [(sat_zero ha).1 h]; simp [sat]; decide
    · rw [(sat_zero hb).1 h]; simp [sat]; decide
  · rw [if_neg h0]
    have ha1 : 0 < a := by
      rcases Int.lt_or_eq_of_le ha with h | h
      · exact h
      · exact absurd (.inl ((sat_zero ha).2 h.symm)) h0
    have hb1 : 0 < b := by
      rcases Int.lt_or_eq_of_le hb with h | h
      · exact h
      · exact absurd (.inr ((sat_zero hb).2 h.symm)) h0
    have sb : 0 < sat b := by unfold sat; split <;> omega
    have sa : 0 < sat a := by unfold sat; split <;> omega
    have key : sat a > great / sat b ↔ sat a * sat b > great := by
      have := Int.ediv_lt_iff_lt_mul (a := great) (b := sat a) (c := sat b) sb
      omega
    by_cases hc : sat a > great / sat b
    · rw [if_pos hc]
      have h1 := key.1 hc
      have h2 : sat a * sat b ≤ a * b := Int.mul_le_mul (by unfold sat; split <;> omega) (by unfold sat; split <;> omega) (by omega) ha
      have h3 : a * b > great := by omega
      rw [sat, if_pos h3]
    · rw [if_neg hc]
      have h1 : ¬ sat a * sat b > great := fun h => hc (key.2 h)
      by_cases hA : a > great
      · have e1 : sat a = great := by unfold sat; rw [if_pos hA]
        have e2 : sat b = 1 := by
          rw [e1] at h1
          apply Classical.byContradiction
          intro hne
          have : great * 2 ≤ great * sat b := Int.mul_le_mul_of_nonneg_left (by omega) (by omega)
          omega
        have e3 : b = 1 := by
          unfold sat at e2
          have : (1 : Int) < great := by decide
          split at e2 <;> omega
        rw [e1, e2, e3, Int.mul_one, Int.mul_one, e1]
      · by_cases hB : b > great
        · have e1 : sat b = great := by unfold sat; rw [if_pos hB]
          have e2 : sat a = 1 := by
            rw [e1] at h1
            apply Classical.byContradiction
            intro hne
            have : 2 * great ≤ sat a * great := Int.mul_le_mul_of_nonneg_right (by omega) (by omega)
            omega
          have e3 : a = 1 := by
            unfold sat at e2
            have : (1 : Int) < great := by decide
            split at e2 <;> omega
          rw [e1, e2, e3, Int.one_mul, Int.one_mul, e1]
        · rw [sat_small (n := a) (by omega), sat_small (n := b) (by omega)] at h1 ⊢
          rw [sat_small (by omega)]
/-! ### rows of trees, one of each list, the last one turns first -/
def prodL {α : Type} : List (List α) → List (List α)
  | [] => [[]]
  | l :: ls => l.flatMap fun x => (prodL ls).map (x :: ·)
def plen {α : Type} : List (List α) → Nat
  | [] => 1
  | l :: ls => l.length * plen ls
theorem flatMap_len {α β : Type} {g : α → List β} {P : Nat} : ∀ {l : List α}, (∀ x ∈ l, (g x).length = P) → (l.flatMap g).length = l.length * P
  | [], _ => by simp
  | x :: l, h => by
    rw [List.flatMap_cons, List.length_append, h x (by simp), flatMap_len fun y hy => h y (by simp [hy]), List.length_cons, Nat.succ_mul, Nat.add_comm]
theorem prodL_len {α : Type} : ∀ ls : List (List α), (prodL ls).length = plen ls
  | [] => rfl
  | l :: ls => by
    simp only [prodL, plen]
    exact flatMap_len fun x _ => by rw [List.length_map, prodL_len ls]
theorem flatMap_at {α β : Type} {g : α → List β} {P : Nat} (hP : 0 < P) : ∀ {l : List α} {n : Nat}, (∀ x ∈ l, (g x).length = P) → (l.flatMap g)[n]? = (l[n / P]?).bind fun x => (g x)[n % P]?
  | [], n, _ => by simp
  | x :: l, n, h => by
    rw [List.flatMap_cons]
    by_cases hn : n < P
    · rw [List.getElem?_append_left (by rw [h x (by simp)]; exact hn), Nat.div_eq_of_lt hn, Nat.mod_eq_of_lt hn]; rfl
    · have hge : P ≤ n := by omega
      rw [List.getElem?_append_right (by rw [h x (by simp)]; exact hge), h x (by simp), flatMap_at hP fun y hy => h y (by simp [hy]), Nat.div_eq_sub_div hP hge, Nat.mod_eq_sub_mod hge]; rfl
/-- The n-th row: of each list the digit that the number says. -/
theorem prodL_at {α : Type} : ∀ (ls : List (List α)) (n : Nat), n < plen ls → ∃ out, (prodL ls)[n]? = some out ∧ out.length = ls.length ∧ ∀ (j : Nat) (l : List α), ls[j]? = some l → ∃ t, out[j]? = some t ∧ l[(n / plen (ls.drop (j + 1))) % l.length]? = some t
  | [], n, h => by
    simp only [plen, Nat.lt_one_iff] at h
    subst h
    exact ⟨[], rfl, rfl, fun j l h => by simp at h⟩
  | l :: ls, n, h => by
    simp only [plen] at h
    have hP : 0 < plen ls := by
      rcases Nat.eq_zero_or_pos (plen ls) with e | e
      · rw [e, Nat.mul_zero] at h; omega
      · exact e
    have hq : n / plen ls < l.length := (Nat.div_lt_iff_lt_mul hP).2 h
    obtain ⟨out, h1, h2, h3⟩ := prodL_at ls (n % plen ls) (Nat.mod_lt _ hP)
    refine ⟨l[n / plen ls] :: out, ?_, by simp [h2], fun j l' hj => ?_⟩
    · simp only [prodL]
      rw [flatMap_at hP fun x _ => by rw [List.length_map, prodL_len ls], List.getElem?_eq_getElem hq]
      simp [h1]
    · cases j with
      | zero =>
        simp at hj; subst hj
        refine ⟨_, rfl, ?_⟩
        simp only [List.drop_succ_cons, List.drop_zero]
        rw [Nat.mod_eq_of_lt hq, List.getElem?_eq_getElem hq]
      | succ j =>
        simp only [List.getElem?_cons_succ] at hj ⊢
        obtain ⟨t, h4, h5⟩ := h3 j l' hj
        refine ⟨t, h4, ?_⟩
        simp only [List.drop_succ_cons]
        have e : n % plen ls / plen (ls.drop (j + 1)) % l'.length = n / plen (ls.drop (j + 1)) % l'.length := by
          have hd : ∀ (ls : List (List α)) (j : Nat) (l' : List α), ls[j]? = some l' → ∃ c, plen ls = c * (l'.length * plen (ls.drop (j + 1))) := by
            intro ls
            induction ls with
            | nil => intro j l' h; simp at h
            | cons a ls ih =>
              intro j l' h
              cases j with
              | zero => simp at h; subst h; exact ⟨1, by simp [plen]⟩
              | succ j =>
                obtain ⟨c, hc⟩ := ih j l' (by simpa using h)
                refine ⟨a.length * c, ?_⟩
                simp only [plen, List.drop_succ_cons]
                rw [hc, Nat.mul_assoc]
          obtain ⟨c, hc⟩ := hd ls j l' hj
          rw [hc]
          generalize plen (ls.drop (j + 1)) = p
          generalize l'.length = q
          rw [Nat.mul_comm q p, ← Nat.mul_assoc, Nat.mul_comm c p, Nat.mul_assoc, Nat.mod_mul_right_div_self, Nat.mod_mul_left_mod]
        rw [← e]; exact h5
/-! ### the trees -/
def leafT (k : Int) : Tr := .mk (-1) (-1 - k) []
def kidsL (g : Nat → List Tr) (ks : List Int) : List (List Tr) := ks.map fun k => if 0 ≤ k then g k.toNat else [leafT k]
def altL (g : Nat → List Tr) (a : Al) : List Tr := (prodL (kidsL g a.kids)).map (Tr.mk a.rule 0)
def nodeL (f : Fo) (g : Nat → List Tr) (i : Nat) : List Tr := (altsOf f i).flatMap (altL g)
theorem kidsL_congr {g h : Nat → List Tr} {ks : List Int} (hk : ∀ k : Nat, (k : Int) ∈ ks → g k = h k) : kidsL g ks = kidsL h ks := by
  refine List.map_congr_left fun k hm => ?_
  split
  · rename_i h0; exact hk _ (by rw [Int.toNat_of_nonneg h0]; exact hm)
  · rfl
theorem nodeL_congr {f : Fo} {g h : Nat → List Tr} {i : Nat} (hk : ∀ k : Nat, Kid f i k → g k = h k) : nodeL f g i = nodeL f h i := by
  unfold nodeL
  have : ∀ l : List Al, (∀ a ∈ l, a ∈ altsOf f i) → l.flatMap (altL g) = l.flatMap (altL h) := by
    intro l
    induction l with
    | nil => intro _; rfl
    | cons a l ih =>
      intro hl
      rw [List.flatMap_cons, List.flatMap_cons, ih fun b hb => hl b (by simp [hb])]
      congr 1
      unfold altL
      rw [kidsL_congr fun k hm => hk k ⟨a, hl a (by simp), hm⟩]
  exact this _ fun a h => h
theorem trL_ex (f : Fo) : ∃ T : Nat → List Tr, ∀ i, WF f i → T i = nodeL f T i := recT (nodeL f) fun g h i hk => nodeL_congr hk
noncomputable def trL (f : Fo) : Nat → List Tr := Classical.choose (trL_ex f)
theorem trL_eq {f : Fo} {i : Nat} (h : WF f i) : trL f i = nodeL f (trL f) i := Classical.choose_spec (trL_ex f) i h
theorem altL_len (g : Nat → List Tr) (a : Al) : (altL g a).length = plen (kidsL g a.kids) := by unfold altL; rw [List.length_map, prodL_len]
theorem altF_sat {g : Nat → List Tr} {T : Nat → Int} : ∀ (ks : List Int) (v : Nat), (∀ k : Nat, (k : Int) ∈ ks → T k = sat (g k).length) → altF T (sat v) ks = sat ((v * plen (kidsL g ks) : Nat) : Int)
  | [], v, _ => by simp [altF, kidsL, plen]
  | k :: ks, v, hk => by
    simp only [altF, List.foldl_cons]
    have ih := fun w => altF_sat (g := g) (T := T) ks w fun k hm => hk k (by simp [hm])
    by_cases h0 : 0 ≤ k
    · rw [if_pos h0, hk k.toNat (by rw [Int.toNat_of_nonneg h0]; simp), mulN_sat (by omega) (by omega)]
      have := ih (v * (g k.toNat).length)
      rw [Int.natCast_mul] at this
      unfold altF at this
      rw [this]
      simp only [kidsL, List.map_cons, if_pos h0, plen]
      rw [Nat.mul_assoc]
    · rw [if_neg h0]
      have := ih v
      unfold altF at this
      rw [this]
      simp only [kidsL, List.map_cons, if_neg h0, plen, List.length_singleton, Nat.one_mul]
theorem altF_len {g : Nat → List Tr} {T : Nat → Int} {a : Al} (hk : ∀ k : Nat, (k : Int) ∈ a.kids → T k = sat (g k).length) : altF T 1 a.kids = sat (altL g a).length := by
  have := altF_sat a.kids 1 hk
  rw [show sat ((1 : Nat) : Int) = 1 from by decide, Nat.one_mul] at this
  rw [this, altL_len]
theorem trees_sat {f : Fo} {i : Nat} (h : WF f i) : trees f i = sat (trL f i).length := by
  induction h with
  | @mk i hi hk hs ih =>
    rw [trees_eq (.mk hi hk hs), trL_eq (.mk hi hk hs)]
    have : ∀ (l : List Al) (v : Nat), (∀ a ∈ l, a ∈ altsOf f i) → altsF (trees f) (sat v) l = sat ((v + (l.flatMap (altL (trL f))).length : Nat) : Int) := by
      intro l
      induction l with
      | nil => intro v _; simp [altsF]
      | cons a l ih2 =>
        intro v hl
        simp only [altsF, List.foldl_cons]
        rw [altF_len (g := trL f) fun k hm => ih k ⟨a, hl a (by simp), hm⟩, addN_sat (by omega) (by omega)]
        have := ih2 (v + (altL (trL f) a).length) fun b hb => hl b (by simp [hb])
        rw [Int.natCast_add] at this
        unfold altsF at this
        rw [this, List.flatMap_cons, List.length_append, Nat.add_assoc]
    have := this (altsOf f i) 0 fun a h => h
    rw [show sat ((0 : Nat) : Int) = 0 from by decide, Nat.zero_add] at this
    exact this
end Go.Proofs.Ytbnhmioijeagiaa.Ab
/- How large the largest tree of a node is, in plain terms. No condition. -/
set_option linter.unusedVariables false
set_option linter.unusedSimpArgs false
namespace Go.Proofs.Ytbnhmioijeagiaa.Ab
def bigM : Int := 1099511627776
def bigK (g : Nat → Int) : Int → List Int → Int
  | x, [] => x
  | x, k :: ks => if x < bigM then bigK g (if 0 ≤ k then x + g k.toNat else x + 1) ks else x
def bigA (g : Nat → Int) : Int → List Al → Int
  | m, [] => m
  | m, a :: l => bigA g (if bigK g 0 a.kids > m then bigK g 0 a.kids else m) l
def bigN (f : Fo) (g : Nat → Int) (i : Nat) : Int := (if bigA g 0 (altsOf f i) ≥ bigM then bigM - 1 else bigA g 0 (altsOf f i)) + 1
theorem bigK_congr {g h : Nat → Int} : ∀ (ks : List Int) (x : Int), (∀ k : Nat, (k : Int) ∈ ks → g k = h k) → bigK g x ks = bigK h x ks
  | [], _, _ => rfl
  | k :: ks, x, hk => by
    have e : (if 0 ≤ k then x + g k.toNat else x + 1) = (if 0 ≤ k then x + h k.toNat else x + 1) := by
      split
      · rename_i h0; rw [hk k.toNat (by rw [Int.toNat_of_nonneg h0]; simp)]
      · rfl
    simp only [bigK, e]
    rw [bigK_congr ks _ fun k hm => hk k (by simp [hm])]
theorem bigA_congr {g h : Nat → Int} : ∀ (l : List Al) (m : Int), (∀ a ∈ l, ∀ k : Nat, (k : Int) ∈ a.kids → g k = h k) → bigA g m l = bigA h m l
  | [], _, _ => rfl
  | a :: l, m, hk => by
    simp only [bigA, bigK_congr a.kids 0 (hk a (by simp))]
    exact bigA_congr l _ fun b hb => hk b (by simp [hb])
theorem big_ex (f : Fo) : ∃ T : Nat → Int, ∀ i, WF f i → T i = bigN f T i := recT (bigN f) fun g h i hk => by
  unfold bigN; rw [bigA_congr _ _ fun a ha k hm => hk k ⟨a, ha, hm⟩]
noncomputable def big (f : Fo) : Nat → Int := Classical.choose (big_ex f)
theorem big_eq {f : Fo} {i : Nat} (h : WF f i) : big f i = bigN f (big f) i := Classical.choose_spec (big_ex f) i h
theorem bigK_is {g : Nat → Int} : ∀ (ks : List Int) (x : Int), 0 ≤ x ∧ x ≤ 2 * bigM → (∀ k : Nat, (k : Int) ∈ ks → 0 ≤ g k ∧ g k ≤ bigM) → 0 ≤ bigK g x ks ∧ bigK g x ks ≤ 2 * bigM
  | [], _, h, _ => h
  | k :: ks, x, h, hk => by
    simp only [bigK]
    split
    · refine bigK_is ks _ ?_ fun k hm => hk k (by simp [hm])
      unfold bigM at *
      split
      · rename_i h0; have := hk k.toNat (by rw [Int.toNat_of_nonneg h0]; simp); omega
      · omega
    · exact h
theorem bigA_is {g : Nat → Int} : ∀ (l : List Al) (m : Int), 0 ≤ m ∧ m ≤ 2 * bigM → (∀ a ∈ l, ∀ k : Nat, (k : Int) ∈ a.kids → 0 ≤ g k ∧ g k ≤ bigM) → 0 ≤ bigA g m l ∧ bigA g m l ≤ 2 * bigM ∧ m ≤ bigA g m l
  | [], _, h, _ => ⟨h.1, h.2, Int.le_refl _⟩
  | a :: l, m, h, hk => by
    simp only [bigA]
    have hb := bigK_is a.kids 0 ⟨by decide, by decide⟩ (hk a (by simp))
    split
    · have := bigA_is l (bigK g 0 a.kids) hb fun b hb => hk b (by simp [hb])
      exact ⟨this.1, this.2.1, by omega⟩
    · exact bigA_is l m h fun b hb => hk b (by simp [hb])
theorem big_is {f : Fo} {i : Nat} (h : WF f i) : 1 ≤ big f i ∧ big f i ≤ bigM := by
  induction h with
  | @mk i hi hk hs ih =>
    rw [big_eq (.mk hi hk hs)]
    have := bigA_is (g := big f) (altsOf f i) 0 ⟨by decide, by decide⟩ fun a ha k hm => by have := ih k ⟨a, ha, hm⟩; exact ⟨by omega, this.2⟩
    unfold bigN
    unfold bigM at *
    split <;> omega
theorem bigA_mem {g : Nat → Int} : ∀ (l : List Al) (m : Int) (a : Al), a ∈ l → bigK g 0 a.kids ≤ bigA g m l ∧ m ≤ bigA g m l
  | [], _, _, h => by cases h
  | b :: l, m, a, h => by
    simp only [bigA]
    have hge : ∀ (l : List Al) (m : Int), m ≤ bigA g m l := by
      intro l
      induction l with
      | nil => intro m; exact Int.le_refl _
      | cons c l ih =>
        intro m
        simp only [bigA]
        split
        · rename_i h; exact Int.le_trans (Int.le_of_lt h) (ih _)
        · exact ih _
    rcases List.mem_cons.1 h with rfl | h
    · split
      · rename_i h; exact ⟨hge _ _, Int.le_trans (Int.le_of_lt h) (hge _ _)⟩
      · rename_i h; exact ⟨Int.le_trans (Int.not_lt.1 h) (hge _ _), hge _ _⟩
    · obtain ⟨h1, h2⟩ := bigA_mem l (if bigK g 0 b.kids > m then bigK g 0 b.kids else m) a h
      refine ⟨h1, Int.le_trans ?_ h2⟩
      split <;> omega
/-- What a row of kids weighs. -/
def wgt (g : Nat → Int) : List Int → Int
  | [] => 0
  | k :: ks => (if 0 ≤ k then g k.toNat else 1) + wgt g ks
theorem bigK_exact {g : Nat → Int} : ∀ (ks : List Int) (x : Int), (∀ k : Nat, (k : Int) ∈ ks → 1 ≤ g k) → bigK g x ks < bigM → bigK g x ks = x + wgt g ks
  | [], x, _, _ => by simp [bigK, wgt]
  | k :: ks, x, hk, h => by
    simp only [bigK, wgt] at h ⊢
    split at h
    · rename_i hx
      rw [if_pos hx, bigK_exact ks _ (fun k hm => hk k (by simp [hm])) h]
      split <;> omega
    · omega
theorem wgt_len {g : Nat → Int} : ∀ (ks : List Int), (∀ k : Nat, (k : Int) ∈ ks → 1 ≤ g k) → (ks.length : Int) ≤ wgt g ks
  | [], _ => by simp [wgt]
  | k :: ks, hk => by
    have ih := wgt_len ks fun k hm => hk k (by simp [hm])
    simp only [wgt, List.length_cons]
    split
    · rename_i h0; have := hk k.toNat (by rw [Int.toNat_of_nonneg h0]; simp); omega
    · omega
theorem wgt_mem {g : Nat → Int} : ∀ (ks : List Int), (∀ k : Nat, (k : Int) ∈ ks → 1 ≤ g k) → ∀ k : Nat, (k : Int) ∈ ks → g k ≤ wgt g ks
  | [], _, _, h => by cases h
  | k0 :: ks, hk, k, h => by
    have ih := wgt_len ks fun k hm => hk k (by simp [hm])
    simp only [wgt]
    rcases List.mem_cons.1 h with rfl | h
    · rw [if_pos (by omega), Int.toNat_natCast]; omega
    · have := wgt_mem ks (fun k hm => hk k (by simp [hm])) k h
      split
      · rename_i h0; have := hk k0.toNat (by rw [Int.toNat_of_nonneg h0]; simp); omega
      · omega
/-- Rows of trees, one of each list, are no larger than they weigh. -/
theorem prod_size {g : Nat → Int} {L : Nat → List Tr} : ∀ (ks : List Int) (out : List Tr), (∀ k : Nat, (k : Int) ∈ ks → ∀ t ∈ L k, (trSize t : Int) ≤ g k) → out ∈ prodL (kidsL L ks) → (trsSize out : Int) ≤ wgt g ks
  | [], out, _, h => by
    simp only [kidsL, List.map_nil, prodL, List.mem_singleton] at h
    subst h; simp [trsSize, wgt]
  | k :: ks, out, hk, h => by
    simp only [kidsL, List.map_cons, prodL, List.mem_flatMap, List.mem_map] at h
    obtain ⟨t, ht, ts, hts, rfl⟩ := h
    have ih := prod_size ks ts (fun k hm => hk k (by simp [hm])) hts
    simp only [trsSize, wgt]
    rw [Int.natCast_add]
    split at ht
    · rename_i h0
      have := hk k.toNat (by rw [Int.toNat_of_nonneg h0]; simp) t ht
      rw [if_pos h0]; omega
    · rename_i h0
      simp only [List.mem_singleton] at ht
      subst ht
      rw [if_neg h0]
      have : trSize (leafT k) = 1 := by simp [leafT, trSize, trsSize]
      omega
theorem big_tr {f : Fo} {i : Nat} (h : WF f i) : big f i < bigM → ∀ t ∈ trL f i, (trSize t : Int) ≤ big f i := by
  induction h with
  | @mk i hi hk hs ih =>
    intro hb t ht
    have hwf : WF f i := .mk hi hk hs
    rw [trL_eq hwf] at ht
    obtain ⟨a, ha, ht⟩ := List.mem_flatMap.1 ht
    obtain ⟨out, ho, rfl⟩ := List.mem_map.1 ht
    have hkid : ∀ k : Nat, (k : Int) ∈ a.kids → Kid f i k := fun k hk => ⟨a, ha, hk⟩
    have h1 := (bigA_mem (g := big f) (altsOf f i) 0 a ha).1
    have hbe := big_eq hwf
    unfold bigN at hbe
    have h2 : bigA (big f) 0 (altsOf f i) + 1 = big f i := by
      split at hbe
      · omega
      · exact hbe.symm
    have h3 := bigK_exact (g := big f) a.kids 0 (fun k hm => (big_is (hs k (hkid k hm))).1) (by omega)
    have hle : ∀ k : Nat, (k : Int) ∈ a.kids → big f k < bigM := fun k hm => by
      have := wgt_mem (g := big f) a.kids (fun k hm => (big_is (hs k (hkid k hm))).1) k hm
      omega
    have h4 := prod_size (g := big f) a.kids out (fun k hm t ht => ih k (hkid k hm) (hle k hm) t ht) ho
    rw [trSize_eq]
    simp only [Tr.kids]
    omega
end Go.Proofs.Ytbnhmioijeagiaa.Ab
/- The trees of the forest that chapter 19's reference builds: each is one of its symbol, there is one, and no two are alike. No condition. -/
set_option linter.unusedVariables false
set_option linter.unusedSimpArgs false
namespace Go.Proofs.Ytbnhmioijeagiaa.Ab

/-- The tokens from a place to another. -/
def span (a b : Nat) : List Int := (List.range' a (b - a)).map fun (i : Nat) => (i : Int)
theorem span_len (a b : Nat) : (span a b).length = b - a := by simp [span]
theorem span_nil (a : Nat) : span a a = [] := by simp [span]
theorem span_one (a : Nat) : span a (a + 1) = [(a : Int)] := by simp [span, show a + 1 - a = 1 by omega]
theorem span_app {a j b : Nat} (h1 : a ≤ j) (h2 : j ≤ b) : span a j ++ span j b = span a b := by
  unfold span
  rw [← List.map_append]
  congr 1
  have := List.range'_append_1 (s := a) (m := j - a) (n := b - j)
  rw [show a + (j - a) = j by omega, show j - a + (b - j) = b - a by omega] at this
  exact this
/-- A tree is one of a symbol. -/
inductive Dv (g : Gr) (ks : List Int) : Int → Tr → Prop
  | leaf {s : Int} {i : Nat} (h0 : s < 0) (hi : i < ks.length) (hk : ks.getD i 0 = -1 - s) : Dv g ks s (.mk (-1) (i : Int) [])
  | node {j : Nat} {kids : List Tr} (hj : j < g.rules.length) (h0 : 0 ≤ (ruleAt g (j : Int)).left) (hl : kids.length = (ruleAt g (j : Int)).right.length) (hk : ∀ (q : Nat) (t : Tr), kids[q]? = some t → Dv g ks ((ruleAt g (j : Int)).right.getD q 0) t) : Dv g ks (ruleAt g (j : Int)).left (.mk (j : Int) 0 kids)
theorem head_is {g : Gr} {ks : List Int} {N : Nat} {F : List (List Bool)} {o : List Ky} {f : Fo} {s : Int} {fr j : Nat} (hN : g.names = N) (hs : isSym g s) (hj : j ≤ ks.length) (hl : link ks ks.length F s fr j = true) (hko : 0 ≤ (kyOf s fr j).1 → kyOf s fr j ∈ o)
    (ih : ∀ t a b : Nat, kyOf s fr j = ((t : Int), (a : Int), (b : Int)) → ∀ x ∈ trL f (findF (kyOf s fr j) o 0).toNat, Dv g ks t x ∧ yieldF x = span a b) {x : Tr} (hx : x ∈ (if 0 ≤ kidN o (kyOf s fr j) then trL f (kidN o (kyOf s fr j)).toNat else [leafT (kidN o (kyOf s fr j))])) : Dv g ks s x ∧ yieldF x = span fr j ∧ fr ≤ j := by
  rcases kyOf_is hN hs hj hl with ⟨h1, rfl, h3, h4, h⟩ | ⟨t, rfl, h1, h2, h3, h⟩
  · rw [h] at hx
    have hk : kidN o (-1, (fr : Int), ((fr + 1 : Nat) : Int)) = -1 - (fr : Int) := by unfold kidN; rw [if_pos (by simp)]
    rw [hk, if_neg (by omega)] at hx
    have hx := List.mem_singleton.1 hx
    have : leafT (-1 - (fr : Int)) = .mk (-1) (fr : Int) [] := by unfold leafT; congr 1; omega
    rw [this] at hx
    subst hx
    exact ⟨.leaf h1 h3 h4, by rw [yieldF_eq, span_one]; rfl, by omega⟩
  · have ho := hko (by rw [h]; simp only; omega)
    have hf := findF_at ho
    have hk : kidN o (kyOf ((t : Nat) : Int) fr j) = findF (kyOf ((t : Nat) : Int) fr j) o 0 := by unfold kidN; rw [if_neg (by rw [h]; simp only; omega)]
    rw [hk, if_pos hf.2.1] at hx
    have := ih t fr j h x hx
    exact ⟨this.1, this.2, h2⟩
theorem row_trees {g : Gr} {ks : List Int} {N : Nat} {F : List (List Bool)} {o : List Ky} {f : Fo} (hN : g.names = N) : ∀ {l : List Int} {fr to : Nat} {w : List Ky}, (∀ s ∈ l, isSym g s) → WayOk ks ks.length F l fr to w → (∀ y ∈ w, 0 ≤ y.1 → y ∈ o) → (∀ y ∈ w, ∀ t a b : Nat, y = ((t : Int), (a : Int), (b : Int)) → ∀ x ∈ trL f (findF y o 0).toNat, Dv g ks t x ∧ yieldF x = span a b) →
    ∀ out ∈ prodL (kidsL (trL f) (w.map (kidN o))), fr ≤ to ∧ out.length = l.length ∧ yieldsF out = span fr to ∧ ∀ (q : Nat) (t : Tr), out[q]? = some t → Dv g ks (l.getD q 0) t
  | [], fr, to, w, _, ⟨h1, h2⟩, _, _, out, hout => by
    subst h1; subst h2
    have : out = [] := by simpa [kidsL, prodL] using hout
    subst this
    exact ⟨Nat.le_refl _, rfl, by rw [span_nil]; rfl, by simp⟩
  | s :: l, fr, to, w, hs, ⟨j, w', hw, h1, h2, h3⟩, hko, ih, out, hout => by
    subst hw
    have e : kidsL (trL f) ((kyOf s fr j :: w').map (kidN o)) = (if 0 ≤ kidN o (kyOf s fr j) then trL f (kidN o (kyOf s fr j)).toNat else [leafT (kidN o (kyOf s fr j))]) :: kidsL (trL f) (w'.map (kidN o)) := rfl
    rw [e, prodL] at hout
    obtain ⟨t, ht, hm⟩ := List.mem_flatMap.1 hout
    obtain ⟨out', ho', rfl⟩ := List.mem_map.1 hm
    obtain ⟨g1, g2, g5⟩ := head_is hN (hs s (by simp)) h1 h2 (hko _ (by simp)) (fun t a b e => ih _ (by simp) t a b e) ht
    obtain ⟨g6, g3, g4, g7⟩ := row_trees hN (fun s hs' => hs s (by simp [hs'])) h3 (fun y hy => hko y (by simp [hy])) (fun y hy => ih y (by simp [hy])) out' ho'
    refine ⟨by omega, by simp [g3], by rw [yieldsF, g2, g4, span_app g5 g6], fun q x hx => ?_⟩
    cases q with
    | zero => simp at hx; subst hx; simpa using g1
    | succ q => simp at hx; simpa using g7 q x hx
theorem kid_in {w : Wy} {o : List Ky} {y : Ky} (hy : y ∈ w.2) (h0 : 0 ≤ y.1) (ho : y ∈ o) : (((findF y o 0).toNat : Nat) : Int) ∈ (altN o w).kids := by
  refine List.mem_map.2 ⟨y, hy, ?_⟩
  have := (findF_at ho).2.1
  unfold kidN
  rw [if_neg (by omega)]
  omega
theorem tree_is {g : Gr} {ks : List Int} {N : Nat} {F : List (List Bool)} {o : List Ky} {f : Fo} (B : Blt g ks N F o f) {i : Nat} (hw : WF f i) : ∀ s a b : Nat, o[i]? = some ((s : Int), (a : Int), (b : Int)) → ∀ x ∈ trL f i, Dv g ks s x ∧ yieldF x = span a b := by
  induction hw with
  | @mk i hi hkn hkw ih =>
  intro s a b hio x hx
  have hwf : WF f i := .mk hi hkn hkw
  obtain ⟨s', a', b', m, e, hn⟩ := B.node i _ hio
  simp only [Prod.mk.injEq] at e
  obtain ⟨rfl, rfl, rfl⟩ : s = s' ∧ a = a' ∧ b = b' := by omega
  rw [trL_eq hwf] at hx
  obtain ⟨al, hal, hx⟩ := List.mem_flatMap.1 hx
  have hal2 := hal
  rw [hn.alts] at hal
  obtain ⟨w, hw, rfl⟩ := List.mem_map.1 (sortK_mem.1 hal)
  obtain ⟨out, hout, rfl⟩ := List.mem_map.1 hx
  obtain ⟨j, h1, h2, h3, h4⟩ := hn.mine.way w hw
  have hrm := List.mem_of_getElem? (ruleAt_at (g := g) (i := (j : Int)) (by omega) (by omega))
  obtain ⟨g0, g1, g2, g3⟩ := row_trees (f := f) B.hN (B.fo.sym _ hrm) h4 (hn.kids w hw) (fun y hy t a' b' e x hx => by
    have h0 : 0 ≤ y.1 := by rw [e]; simp only; omega
    have hyo := hn.kids w hw y hy h0
    exact ih _ ⟨_, hal2, kid_in hy h0 hyo⟩ t a' b' (by rw [← e]; exact (findF_at hyo).1) x hx) out hout
  have e1 : (altN o w).rule = (j : Int) := h1
  rw [e1]
  refine ⟨?_, ?_⟩
  · rw [← h3]
    exact .node h2 (by rw [h3]; omega) g1 g3
  · rw [yieldF_eq]
    have : (Tr.mk (j : Int) 0 out).rule = (j : Int) := rfl
    rw [this, if_neg (by omega)]
    exact g2
theorem prodL_some {α : Type} : ∀ {ls : List (List α)}, (∀ l ∈ ls, l ≠ []) → prodL ls ≠ []
  | [], _ => by simp [prodL]
  | l :: ls, h => by
    obtain ⟨x, hx⟩ := List.exists_mem_of_ne_nil _ (h l (by simp))
    obtain ⟨o, ho⟩ := List.exists_mem_of_ne_nil _ (prodL_some (ls := ls) fun l hl => h l (by simp [hl]))
    rw [prodL]
    exact List.ne_nil_of_mem (List.mem_flatMap.2 ⟨x, hx, List.mem_map.2 ⟨o, ho, rfl⟩⟩)
theorem tree_some {g : Gr} {ks : List Int} {N : Nat} {F : List (List Bool)} {o : List Ky} {f : Fo} (B : Blt g ks N F o f) {i : Nat} (hw : WF f i) : trL f i ≠ [] := by
  induction hw with
  | @mk i hi hkn hkw ih =>
  have hwf : WF f i := .mk hi hkn hkw
  have hio : i < o.length := by rw [← B.len]; exact hi
  obtain ⟨s, a, b, m, e, hn⟩ := B.node i _ (List.getElem?_eq_getElem hio)
  obtain ⟨w, hw⟩ := List.exists_mem_of_ne_nil _ hn.some
  rw [trL_eq hwf]
  have hal : altN o w ∈ altsOf f i := by rw [hn.alts]; exact sortK_mem.2 (List.mem_map.2 ⟨w, hw, rfl⟩)
  have h1 : prodL (kidsL (trL f) (altN o w).kids) ≠ [] := prodL_some fun l hl => by
    obtain ⟨k, hk, rfl⟩ := List.mem_map.1 hl
    split
    · rename_i h0
      exact ih k.toNat ⟨_, hal, by rw [Int.toNat_of_nonneg h0]; exact hk⟩
    · simp
  obtain ⟨x, hx⟩ := List.exists_mem_of_ne_nil _ h1
  exact List.ne_nil_of_mem (List.mem_flatMap.2 ⟨_, hal, List.mem_map.2 ⟨x, hx, rfl⟩⟩)
theorem row_one {g : Gr} {ks : List Int} {N : Nat} {F : List (List Bool)} {o : List Ky} {f : Fo} (hN : g.names = N) : ∀ {l : List Int} {fr to to2 : Nat} {w w2 : List Ky}, (∀ s ∈ l, isSym g s) → WayOk ks ks.length F l fr to w → WayOk ks ks.length F l fr to2 w2 → (∀ y ∈ w ++ w2, 0 ≤ y.1 → y ∈ o) → (∀ y ∈ w ++ w2, ∀ t a b : Nat, y = ((t : Int), (a : Int), (b : Int)) → ∀ x ∈ trL f (findF y o 0).toNat, Dv g ks t x ∧ yieldF x = span a b) →
    ∀ out, out ∈ prodL (kidsL (trL f) (w.map (kidN o))) → out ∈ prodL (kidsL (trL f) (w2.map (kidN o))) → w = w2
  | [], fr, to, to2, w, w2, _, ⟨h1, _⟩, ⟨h2, _⟩, _, _, out, _, _ => by rw [h1, h2]
  | s :: l, fr, to, to2, w, w2, hs, ⟨j, w', hw, h1, h2, h3⟩, ⟨j2, w2', hw2, i1, i2, i3⟩, hko, ih, out, ho1, ho2 => by
    subst hw; subst hw2
    have e1 : kidsL (trL f) ((kyOf s fr j :: w').map (kidN o)) = (if 0 ≤ kidN o (kyOf s fr j) then trL f (kidN o (kyOf s fr j)).toNat else [leafT (kidN o (kyOf s fr j))]) :: kidsL (trL f) (w'.map (kidN o)) := rfl
    have e2 : kidsL (trL f) ((kyOf s fr j2 :: w2').map (kidN o)) = (if 0 ≤ kidN o (kyOf s fr j2) then trL f (kidN o (kyOf s fr j2)).toNat else [leafT (kidN o (kyOf s fr j2))]) :: kidsL (trL f) (w2'.map (kidN o)) := rfl
    rw [e1, prodL] at ho1
    rw [e2, prodL] at ho2
    obtain ⟨t, ht, hm⟩ := List.mem_flatMap.1 ho1
    obtain ⟨out', ho', rfl⟩ := List.mem_map.1 hm
    obtain ⟨t2, ht2, hm2⟩ := List.mem_flatMap.1 ho2
    obtain ⟨out2, ho2', e3⟩ := List.mem_map.1 hm2
    simp only [List.cons.injEq] at e3
    obtain ⟨rfl, rfl⟩ := e3
    obtain ⟨_, g2, g5⟩ := head_is hN (hs s (by simp)) h1 h2 (hko _ (by simp)) (fun t a b e => ih _ (by simp) t a b e) ht
    obtain ⟨_, g3, g6⟩ := head_is hN (hs s (by simp)) i1 i2 (hko _ (by simp)) (fun t a b e => ih _ (by simp) t a b e) ht2
    have hl : (span fr j).length = (span fr j2).length := by rw [← g2, ← g3]
    rw [span_len, span_len] at hl
    obtain rfl : j = j2 := by omega
    rw [row_one hN (fun s hs' => hs s (by simp [hs'])) h3 i3 (fun y hy => hko y (by rcases List.mem_append.1 hy with h | h <;> simp [h])) (fun y hy => ih y (by rcases List.mem_append.1 hy with h | h <;> simp [h])) out2 ho' ho2']
theorem prodL_nodup {α : Type} : ∀ {ls : List (List α)}, (∀ l ∈ ls, l.Nodup) → (prodL ls).Nodup
  | [], _ => by simp [prodL]
  | l :: ls, h => by
    rw [prodL]
    unfold List.Nodup
    rw [List.pairwise_flatMap]
    refine ⟨fun x _ => nodup_on (fun a _ b _ e => by simpa using e) (prodL_nodup fun l hl => h l (by simp [hl])), ?_⟩
    refine List.Pairwise.imp ?_ (h l (by simp))
    intro x y hne p hp q hq e
    obtain ⟨_, _, rfl⟩ := List.mem_map.1 hp
    obtain ⟨_, _, rfl⟩ := List.mem_map.1 hq
    simp only [List.cons.injEq] at e
    exact hne e.1
theorem tree_one {g : Gr} {ks : List Int} {N : Nat} {F : List (List Bool)} {o : List Ky} {f : Fo} (B : Blt g ks N F o f) {i : Nat} (hw : WF f i) : (trL f i).Nodup := by
  induction hw with
  | @mk i hi hkn hkw ih =>
  have hwf : WF f i := .mk hi hkn hkw
  have hio : i < o.length := by rw [← B.len]; exact hi
  obtain ⟨s, a, b, m, e, hn⟩ := B.node i _ (List.getElem?_eq_getElem hio)
  have hkt : ∀ w ∈ m, ∀ y ∈ w.2, ∀ t a b : Nat, y = ((t : Int), (a : Int), (b : Int)) → ∀ x ∈ trL f (findF y o 0).toNat, Dv g ks t x ∧ yieldF x = span a b := by
    intro w hw y hy t a' b' e x hx
    have h0 : 0 ≤ y.1 := by rw [e]; simp only; omega
    have hyo := hn.kids w hw y hy h0
    have hal : altN o w ∈ altsOf f i := by rw [hn.alts]; exact sortK_mem.2 (List.mem_map.2 ⟨w, hw, rfl⟩)
    exact tree_is B (hkw _ ⟨_, hal, kid_in hy h0 hyo⟩) t a' b' (by rw [← e]; exact (findF_at hyo).1) x hx
  rw [trL_eq hwf]
  unfold nodeL
  rw [hn.alts]
  have hp : ((sortK lowF (m.map (altN o))).flatMap (altL (trL f))).Perm ((m.map (altN o)).flatMap (altL (trL f))) := (sortK_perm lowF _).flatMap_right _
  rw [hp.nodup_iff]
  unfold List.Nodup
  rw [List.pairwise_flatMap]
  constructor
  · intro al hal
    have hal2 : al ∈ altsOf f i := by rw [hn.alts]; exact sortK_mem.2 hal
    refine nodup_on (fun a _ b _ e => by simpa using e) (prodL_nodup fun l hl => ?_)
    obtain ⟨k, hk, rfl⟩ := List.mem_map.1 hl
    split
    · rename_i h0
      exact ih k.toNat ⟨_, hal2, by rw [Int.toNat_of_nonneg h0]; exact hk⟩
    · simp
  · rw [List.pairwise_map]
    refine List.Pairwise.imp_of_mem ?_ hn.mine.one
    intro w w2 hw hw2 hne x hx y hy e
    subst e
    obtain ⟨out, ho, rfl⟩ := List.mem_map.1 hx
    obtain ⟨out2, ho2, e3⟩ := List.mem_map.1 hy
    simp only [Tr.mk.injEq, true_and] at e3
    obtain ⟨e4, rfl⟩ := e3
    obtain ⟨j, h1, h2, h3, h4⟩ := hn.mine.way w hw
    obtain ⟨j2, i1, i2, i3, i4⟩ := hn.mine.way w2 hw2
    have e4 : w2.1 = w.1 := e4
    obtain rfl : j = j2 := by omega
    have hrm := List.mem_of_getElem? (ruleAt_at (g := g) (i := (j : Int)) (by omega) (by omega))
    have := row_one (f := f) (o := o) B.hN (B.fo.sym _ hrm) h4 i4 (fun y hy => by
      rcases List.mem_append.1 hy with h | h
      · exact hn.kids w hw y h
      · exact hn.kids w2 hw2 y h) (fun y hy => by
      rcases List.mem_append.1 hy with h | h
      · exact hkt w hw y h
      · exact hkt w2 hw2 y h) out2 ho ho2
    exact hne (Prod.ext e4.symm this)
end Go.Proofs.Ytbnhmioijeagiaa.Ab
/- How many trees of a forest may be, in plain terms. No condition. -/
set_option linter.unusedVariables false
set_option linter.unusedSimpArgs false
namespace Go.Proofs.Ytbnhmioijeagiaa.Ab

/-- Of a node's Alts those that may stand at a place of a rule. -/
def kidGo (fb : List F3) (r p : Int) : List Al → List Int → Int → Int
  | a :: aS, t :: ts, n => kidGo fb r p aS ts (if (r, p, a.rule) ∈ fb then n else addN n t)
  | _, _, n => n
def altGo (fb : List F3) (f : Fo) (g : Nat → List Int) (r : Int) : Nat → List Int → Int → Int
  | _, [], n => n
  | p, k :: ks, n => altGo fb f g r (p + 1) ks (if 0 ≤ k then mulN n (kidGo fb r p (altsOf f k.toNat) (g k.toNat) 0) else n)
def nodeG (fb : List F3) (f : Fo) (g : Nat → List Int) (i : Nat) : List Int := (altsOf f i).map fun a => altGo fb f g a.rule 0 a.kids 1
theorem altGo_congr {fb : List F3} {f : Fo} {g h : Nat → List Int} {r : Int} : ∀ (ks : List Int) (p : Nat) (n : Int), (∀ k : Nat, (k : Int) ∈ ks → g k = h k) → altGo fb f g r p ks n = altGo fb f h r p ks n
  | [], _, _, _ => rfl
  | k :: ks, p, n, hk => by
    have e : (if 0 ≤ k then mulN n (kidGo fb r p (altsOf f k.toNat) (g k.toNat) 0) else n) = (if 0 ≤ k then mulN n (kidGo fb r p (altsOf f k.toNat) (h k.toNat) 0) else n) := by
      split
      · rename_i h0; rw [hk k.toNat (by rw [Int.toNat_of_nonneg h0]; simp)]
      · rfl
    simp only [altGo, e]
    exact altGo_congr ks _ _ fun k hm => hk k (by simp [hm])
theorem nodeG_congr {fb : List F3} {f : Fo} {g h : Nat → List Int} {i : Nat} (hk : ∀ k : Nat, Kid f i k → g k = h k) : nodeG fb f g i = nodeG fb f h i := by
  unfold nodeG
  refine List.map_congr_left fun a ha => altGo_congr _ _ _ fun k hm => hk k ⟨a, ha, hm⟩
theorem ftr_ex (fb : List F3) (f : Fo) : ∃ T : Nat → List Int, ∀ i, WF f i → T i = nodeG fb f T i := recT (nodeG fb f) fun g h i hk => nodeG_congr hk
noncomputable def ftr (fb : List F3) (f : Fo) : Nat → List Int := Classical.choose (ftr_ex fb f)
theorem ftr_eq {fb : List F3} {f : Fo} {i : Nat} (h : WF f i) : ftr fb f i = nodeG fb f (ftr fb f) i := Classical.choose_spec (ftr_ex fb f) i h
theorem ftr_len {fb : List F3} {f : Fo} {i : Nat} (h : WF f i) : (ftr fb f i).length = (altsOf f i).length := by rw [ftr_eq h]; simp [nodeG]
theorem kidGo_is {fb : List F3} {r p : Int} : ∀ (aS : List Al) (ts : List Int) (n : Int), isN n → (∀ t ∈ ts, isN t) → isN (kidGo fb r p aS ts n)
  | [], _, n, h, _ => by simpa [kidGo] using h
  | _ :: _, [], n, h, _ => by simpa [kidGo] using h
  | a :: aS, t :: ts, n, h, ht => by
    simp only [kidGo]
    refine kidGo_is aS ts _ ?_ fun t hm => ht t (by simp [hm])
    split
    · exact h
    · exact addN_is h (ht t (by simp))
theorem altGo_is {fb : List F3} {f : Fo} {g : Nat → List Int} {r : Int} : ∀ (ks : List Int) (p : Nat) (n : Int), isN n → (∀ k : Nat, (k : Int) ∈ ks → ∀ t ∈ g k, isN t) → isN (altGo fb f g r p ks n)
  | [], _, _, h, _ => h
  | k :: ks, p, n, h, hk => by
    simp only [altGo]
    refine altGo_is ks _ _ ?_ fun k hm => hk k (by simp [hm])
    split
    · rename_i h0; exact mulN_is h (kidGo_is _ _ _ ⟨by decide, by decide⟩ (hk k.toNat (by rw [Int.toNat_of_nonneg h0]; simp)))
    · exact h
theorem ftr_is {fb : List F3} {f : Fo} {i : Nat} (h : WF f i) : ∀ t ∈ ftr fb f i, isN t := by
  induction h with
  | @mk i hi hk hs ih =>
    rw [ftr_eq (.mk hi hk hs)]
    intro t ht
    obtain ⟨a, ha, rfl⟩ := List.mem_map.1 ht
    exact altGo_is _ _ _ ⟨by decide, by decide⟩ fun k hm => ih k ⟨a, ha, hm⟩
def sumN (l : List Int) : Int := l.foldl addN 0
theorem foldl_addN_is : ∀ (l : List Int) (n : Int), isN n → (∀ t ∈ l, isN t) → isN (l.foldl addN n)
  | [], _, h, _ => h
  | t :: l, n, h, hl => foldl_addN_is l _ (addN_is h (hl t (by simp))) fun t hm => hl t (by simp [hm])
theorem sumN_is {l : List Int} (h : ∀ t ∈ l, isN t) : isN (sumN l) := foldl_addN_is l 0 ⟨by decide, by decide⟩ h
/-! ### without anything forbidden -/
theorem kidGo_none {r p : Int} : ∀ (aS : List Al) (ts : List Int) (n : Int), aS.length = ts.length → kidGo [] r p aS ts n = ts.foldl addN n
  | [], [], n, _ => rfl
  | [], _ :: _, n, h => by simp at h
  | _ :: _, [], n, h => by simp at h
  | a :: aS, t :: ts, n, h => by
    simp only [kidGo, List.not_mem_nil, if_false, List.foldl_cons]
    exact kidGo_none aS ts _ (by simpa using h)
theorem altGo_none {f : Fo} {g : Nat → List Int} {T : Nat → Int} {r : Int} : ∀ (ks : List Int) (p : Nat) (n : Int), (∀ k : Nat, (k : Int) ∈ ks → (g k).length = (altsOf f k).length ∧ sumN (g k) = T k) → altGo [] f g r p ks n = altF T n ks
  | [], _, _, _ => rfl
  | k :: ks, p, n, hk => by
    simp only [altGo, altF, List.foldl_cons]
    rw [altGo_none ks _ _ fun k hm => hk k (by simp [hm])]
    congr 1
    split
    · rename_i h0
      obtain ⟨h1, h2⟩ := hk k.toNat (by rw [Int.toNat_of_nonneg h0]; simp)
      rw [kidGo_none _ _ _ h1.symm, ← h2]; rfl
    · rfl
theorem ftr_none {f : Fo} {i : Nat} (h : WF f i) : sumN (ftr [] f i) = trees f i := by
  induction h with
  | @mk i hi hk hs ih =>
    rw [ftr_eq (.mk hi hk hs), trees_eq (.mk hi hk hs)]
    have : ∀ (l : List Al) (n : Int), (∀ a ∈ l, a ∈ altsOf f i) → (l.map fun a => altGo [] f (ftr [] f) a.rule 0 a.kids 1).foldl addN n = altsF (trees f) n l := by
      intro l
      induction l with
      | nil => intro n _; rfl
      | cons a l ih2 =>
        intro n hl
        simp only [List.map_cons, List.foldl_cons, altsF]
        rw [altGo_none (T := trees f) a.kids 0 1 fun k hm => ⟨ftr_len (hs k ⟨a, hl a (by simp), hm⟩), ih k ⟨a, hl a (by simp), hm⟩⟩]
        exact ih2 _ fun b hb => hl b (by simp [hb])
    exact this (altsOf f i) 0 fun a h => h
end Go.Proofs.Ytbnhmioijeagiaa.Ab
/- Chapter 21: the lister's trees: the walk. No condition. -/
set_option linter.unusedVariables false
set_option linter.unusedSimpArgs false
namespace Go.Proofs.Ytbnhmioijeagiaa.Ab
attribute [local irreducible] thenA inBlockA ACode AOps put IntKind.wrap

abbrev trA (t : Tr) : A := .agg [.int .i64 t.rule, .int .i64 t.tok, .psl t.kids.length (encs trC t.kids)]
theorem trA_eq (t : Tr) : trA t = .agg (trC t) := by rw [trC_eq]
/-- Not too many kids anywhere below. -/
inductive Lim (f : Fo) : Nat → Prop
  | mk {i : Nat} (h : ∀ a ∈ altsOf f i, a.kids.length ≤ 1000000) (hs : ∀ k : Nat, Kid f i k → Lim f k) : Lim f i
theorem Lim.len {f : Fo} {i : Nat} (h : Lim f i) {a : Al} (ha : a ∈ altsOf f i) : a.kids.length ≤ 1000000 := by cases h with | mk h _ => exact h a ha
theorem Lim.kid {f : Fo} {i k : Nat} (h : Lim f i) (hk : Kid f i k) : Lim f k := by cases h with | mk _ h => exact h k hk
theorem leaf_calls {k : Int} (hk : rng k) (M : List Ob) : ACalls Try.prog 89 [.int .i64 k] M (fun r M' => r = trA (leafT k) ∧ M' = M) := by
  obtain ⟨h0, h1⟩ := hk
  refine acalls_res (R := fun r M' => r = .agg [.int .i64 (-1), .int .i64 (-1 - k), .nils] ∧ M' = M) ?_ ?_
  · refine acalls_of_code 6 Try.func89 rfl rfl rfl ?_
    repeat (first | refine acode_seq ?_ | refine acode_region ?_)
    refine aops_alloc tok rfl rfl rfl rfl rfl rfl fun ba => ?_
    repeat (first | refine aops_end ?_ | refine aops_a tok rfl (by omega) (by omega) rfl rfl rfl ?_ | refine aops_p tok rfl rfl rfl rfl ?_ | refine aops_stn tok rfl rfl rfl rfl rfl rfl rfl rfl rfl ?_ | refine acode_seq ?_ | refine acode_region ?_)
    refine acode_pubref0 2 rfl ?_
    refine acode_ret ?_
    skip
    exact ⟨_, ⟨rfl, rfl⟩, resOf_pp tok rfl rfl rfl⟩
  · rintro r M' ⟨rfl, rfl⟩
    exact ⟨_, .agg (.cons (.refl _) (.cons (.refl _) (.cons .nils .nil))), rfl, rfl⟩
noncomputable abbrev liC (f : Fo) : List A := [.psl f.nodes.length (encs ndC f.nodes), .int .i64 f.root, .psl f.nodes.length (ints ((List.range f.nodes.length).map (trees f)))]
end Go.Proofs.Ytbnhmioijeagiaa.Ab
/- Small forests: how the kernel tells them. No condition. -/
set_option linter.unusedVariables false
set_option linter.unusedSimpArgs false
namespace Go.Proofs.Ytbnhmioijeagiaa.Ab

def lsEq {α : Type} (eq : α → α → Bool) : List α → List α → Bool
  | [], [] => true
  | a :: l, b :: m => eq a b && lsEq eq l m
  | _, _ => false
theorem lsEq_eq {α : Type} {eq : α → α → Bool} (h : ∀ a b, eq a b = true → a = b) : ∀ l m, lsEq eq l m = true → l = m
  | [], [], _ => rfl
  | [], _ :: _, e => by simp [lsEq] at e
  | _ :: _, [], e => by simp [lsEq] at e
  | a :: l, b :: m, e => by
    simp only [lsEq, Bool.and_eq_true] at e
    rw [h a b e.1, lsEq_eq h l m e.2]
def alEq (a b : Al) : Bool := decide (a.rule = b.rule) && decide (a.kids = b.kids)
theorem alEq_eq (a b : Al) (h : alEq a b = true) : a = b := by
  obtain ⟨a1, a2⟩ := a; obtain ⟨b1, b2⟩ := b
  simp only [alEq, Bool.and_eq_true, decide_eq_true_eq] at h
  rw [h.1, h.2]
def ndEq (a b : Nd) : Bool := decide (a.sym = b.sym) && decide (a.fr = b.fr) && decide (a.to = b.to) && lsEq alEq a.alts b.alts
theorem ndEq_eq (a b : Nd) (h : ndEq a b = true) : a = b := by
  obtain ⟨a1, a2, a3, a4⟩ := a; obtain ⟨b1, b2, b3, b4⟩ := b
  simp only [ndEq, Bool.and_eq_true, decide_eq_true_eq] at h
  rw [h.1.1.1, h.1.1.2, h.1.2, lsEq_eq alEq_eq _ _ h.2]
def isF (x : Option Fo × Int) (f : Fo) : Bool := match x.1 with
  | some y => lsEq ndEq y.nodes f.nodes && decide (y.root = f.root)
  | none => false
theorem isF_some {x : Option Fo × Int} {f : Fo} (h : isF x f = true) : x.1 = some f := by
  obtain ⟨x1, x2⟩ := x
  cases x1 with
  | none => simp [isF] at h
  | some y =>
    obtain ⟨y1, y2⟩ := y; obtain ⟨f1, f2⟩ := f
    simp only [isF, Bool.and_eq_true, decide_eq_true_eq] at h
    rw [lsEq_eq ndEq_eq _ _ h.1, h.2]
/-- A list of numbers of trees, one for each node. -/
def tabOk (f : Fo) (tab : List Int) : Bool := (List.range f.nodes.length).all fun i => decide (tab.getD i 0 = altsF (fun k => tab.getD k 0) 0 (altsOf f i))
theorem trees_tab {f : Fo} {tab : List Int} (h : tabOk f tab = true) {i : Nat} (hw : WF f i) : trees f i = tab.getD i 0 := by
  refine recT_one (F := fun T i => altsF T 0 (altsOf f i)) (fun g h i hk => altsF_congr _ _ fun a ha k hm => hk k ⟨a, ha, hm⟩) (fun i hi => trees_eq hi) (S := fun i => tab.getD i 0) (fun i hi => ?_) hw
  unfold tabOk at h
  rw [List.all_eq_true] at h
  simpa using h i (List.mem_range.2 hi.lt)
def ftabOk (fb : List F3) (f : Fo) (tab : List (List Int)) : Bool := (List.range f.nodes.length).all fun i => decide (tab.getD i [] = nodeG fb f (fun k => tab.getD k []) i)
theorem ftr_tab {fb : List F3} {f : Fo} {tab : List (List Int)} (h : ftabOk fb f tab = true) {i : Nat} (hw : WF f i) : ftr fb f i = tab.getD i [] := by
  refine recT_one (F := nodeG fb f) (fun g h i hk => nodeG_congr hk) (fun i hi => ftr_eq hi) (S := fun i => tab.getD i []) (fun i hi => ?_) hw
  unfold ftabOk at h
  rw [List.all_eq_true] at h
  simpa using h i (List.mem_range.2 hi.lt)
/-- A forest that is small in all. -/
def smOk (f : Fo) : Bool := decide (f.nodes.length ≤ 1000) && f.nodes.all fun n => decide (n.alts.length ≤ 1000) && n.alts.all fun a => decide (a.kids.length ≤ 1000) && a.kids.all fun k => decide (-1000000 ≤ k ∧ k ≤ 1000000)
theorem smOk_is {f : Fo} (h : smOk f = true) : f.nodes.length ≤ 1000 ∧ ∀ n ∈ f.nodes, n.alts.length ≤ 1000 ∧ ∀ a ∈ n.alts, a.kids.length ≤ 1000 ∧ ∀ k ∈ a.kids, -1000000 ≤ k ∧ k ≤ 1000000 := by
  unfold smOk at h
  rw [Bool.and_eq_true, List.all_eq_true, decide_eq_true_eq] at h
  refine ⟨h.1, fun n hn => ?_⟩
  have h1 := h.2 n hn
  rw [Bool.and_eq_true, List.all_eq_true, decide_eq_true_eq] at h1
  refine ⟨h1.1, fun a ha => ?_⟩
  have h2 := h1.2 a ha
  rw [Bool.and_eq_true, List.all_eq_true, decide_eq_true_eq] at h2
  exact ⟨h2.1, fun k hk => by simpa using h2.2 k hk⟩
theorem sm_fo {f : Fo} (h : smOk f = true) : FoOk f ∧ FoRng f := by
  obtain ⟨h1, h2⟩ := smOk_is h
  refine ⟨⟨by omega, fun n hn => ⟨by have := (h2 n hn).1; omega, fun a ha => by have := ((h2 n hn).2 a ha).1; omega⟩⟩, fun n hn a ha k hk => ?_⟩
  have := ((h2 n hn).2 a ha).2 k hk
  unfold rng; omega
theorem lim_low {f : Fo} (h : smOk f = true) {i : Nat} (hw : WF f i) : Lim f i := by
  induction hw with
  | @mk i hi hk hs ih =>
    refine .mk (fun a ha => ?_) ih
    obtain ⟨nd, hnd, hndm, hal⟩ := nodes_at hi
    rw [hal] at ha
    have := (((smOk_is h).2 nd hndm).2 a ha).1
    omega
def gC : Gr := ⟨1, 1, 0, [⟨0, [0, 0], 0⟩, ⟨0, [-1], 0⟩], [], [], []⟩
def catW : List Int := [0, 1, 1, 2, 5, 14, 42, 132]
/-- What is told of a row of so many tokens. -/
def CatOk (n : Nat) (w : Int) : Prop := ∃ f tab, (buildF gC (List.replicate n 0) 3000).1 = some f ∧ smOk f = true ∧ tabOk f tab = true ∧ tab.getD f.root.toNat 0 = w
theorem catOk_of {n : Nat} {w : Int} {f : Fo} {tab : List Int} (h1 : isF (buildF gC (List.replicate n 0) 3000) f = true) (h2 : smOk f = true) (h3 : tabOk f tab = true) (h4 : tab.getD f.root.toNat 0 = w) : CatOk n w := ⟨f, tab, isF_some h1, h2, h3, h4⟩
def gS : Gr := ⟨1, 2, 0, [⟨0, [-1], 0⟩, ⟨0, [0, -2, 0], 0⟩], [], [], []⟩
def ksS : Nat → List Int
  | 0 => [0]
  | n + 1 => ksS n ++ [1, 0]
def SidOk (f : Fo) (fb : List F3) (w : Int) : Prop := ∃ tab, smOk f = true ∧ ftabOk fb f tab = true ∧ sumN (tab.getD f.root.toNat []) = w
theorem sidOk_of {f : Fo} {fb : List F3} {w : Int} {tab : List (List Int)} (h1 : smOk f = true) (h2 : ftabOk fb f tab = true) (h3 : sumN (tab.getD f.root.toNat []) = w) : SidOk f fb w := ⟨tab, h1, h2, h3⟩
/-- Of each node at most one Alt has a tree that may be. -/
def oneOk (tab : List (List Int)) : Bool := tab.all fun row => decide ((row.filter fun x => decide (x ≠ 0)).length ≤ 1)
def SidOne (f : Fo) (fb : List F3) : Prop := ∃ tab, ftabOk fb f tab = true ∧ oneOk tab = true
def fbS (r : Bool) : List F3 := if r then [(1, 0, 1)] else [(1, 2, 1)]
def fbL (l : Bool) : List F3 := if l then [(1, 0, 1)] else []
def fbR (r : Bool) : List F3 := if r then [(1, 2, 1)] else []
def fbOf (l r : Bool) : List F3 := fbL l ++ fbR r
def sidW : List Int := [1, 1, 2, 5, 14, 42, 132, 429, 1430]
def wantF (m : Nat) (l r : Bool) : Int := if (l && r) = true ∧ 2 < m then 0 else if (l || r) = true ∧ 1 < m then 1 else sidW.getD (m - 1) 0
theorem ksS_len : ∀ n, (ksS n).length = 2 * n + 1
  | 0 => rfl
  | n + 1 => by rw [ksS, List.length_append, ksS_len n]; simp; omega
/-- What Build makes hangs on the names, the start and the rules alone. -/
theorem mineS_eq {g h : Gr} (h3 : g.rules = h.rules) : mineS g = mineS h := by
  have hr : ruleAt g = ruleAt h := by funext j; unfold ruleAt; rw [h3]
  unfold mineS; rw [hr]
theorem mineF_eq {g h : Gr} (h3 : g.rules = h.rules) : mineF g = mineF h := by
  unfold mineF; rw [h3, mineS_eq h3]
theorem bldQ_eq {g h : Gr} (h3 : g.rules = h.rules) {ks : List Int} {n : Nat} {F : List (List Bool)} {lim : Nat} : ∀ (q i : Nat) (keys : List Ky) (all : List (List Wy)) (c : Nat), bldQ g ks n F lim q i keys all c = bldQ h ks n F lim q i keys all c
  | 0, _, _, _, _ => rfl
  | q + 1, i, keys, all, c => by
    rw [bldQ, bldQ, mineF_eq h3]
    cases keys[i]? with
    | none => rfl
    | some k =>
      simp only
      split
      · rfl
      · exact bldQ_eq h3 q _ _ _ _
theorem buildF_eq {g h : Gr} (h1 : g.names = h.names) (h2 : g.start = h.start) (h3 : g.rules = h.rules) (ks : List Int) (lim : Nat) : buildF g ks lim = buildF h ks lim := by
  have hc : chF g = chF h := by funext ks N n; unfold chF chI; rw [h3]
  unfold buildF
  rw [h1, h2, hc]
  simp only [bldQ_eq h3]
end Go.Proofs.Ytbnhmioijeagiaa.Ab
/- Package grammar's Good, pulled out of Gra1, Gra2, Gra3, Set1 (printed by genchk.py) -/
set_option linter.unusedVariables false
set_option linter.unusedSimpArgs false
namespace Go.Proofs.Ytbnhmioijeagiaa.Ab
attribute [local irreducible] thenA inBlockA ACode AOps put IntKind.wrap

theorem ixI_calls {l : List Int} {f : Nat} {cap : List A} {fn : Func} (p : Int → Bool) (hf : Try.prog.funcs[f]? = some fn) (hfn : callable fn = true) (hp : ∀ x ∈ l, ∀ M, ACalls Try.prog f ([.int .i64 x] ++ cap) M (fun r M' => r = .bool (p x) ∧ M' = M)) (hl : l.length ≤ 9223372036854775807) (M : List Ob) :
    ACalls Try.prog 117 [.psl l.length (ints l), .fn f cap] M (fun r M' => (∃ k : Int, r = .int .i64 k ∧ decide (0 ≤ k) = l.any p) ∧ M' = M) := by
  refine acalls_of_code 19 Try.func117 rfl rfl rfl ?_
  repeat (first | refine aops_end ?_ | refine aops_p tok rfl rfl rfl rfl ?_ | refine acode_seq ?_ | refine acode_region ?_ | refine acode_block ?_)
  refine acode_loopS (ι := Nat) (fun i => [(0, .psl l.length (ints l)), (1, .fn f cap), (7, .int .i64 l.length), (8, .int .i64 i)]) (fun _ => M) (fun i => l.length - i) (fun i => i ≤ l.length ∧ (l.take i).any p = false) 0 ⟨Nat.zero_le _, by simp⟩ ⟨rfl, rfl, rfl, rfl, trivial⟩ rfl ?_
  rintro i ⟨hi, hn⟩
  repeat (first | refine aops_end ?_ | refine aops_p tok rfl rfl rfl rfl ?_ | refine acode_seq ?_ | refine acode_region ?_)
  refine acode_id rfl (fun e => ?_) (fun e => ?_)
  · have hlt : i < l.length := by omega
    obtain ⟨x, hx⟩ : ∃ x, l[i]? = some x := ⟨l[i], List.getElem?_eq_getElem hlt⟩
    repeat (first | refine aops_end ?_ | refine aops_p tok rfl rfl rfl rfl ?_ | refine acode_seq ?_ | refine acode_region ?_ | refine acode_block ?_ | refine acode_skip ?_ | refine then_n ?_)
    refine aops_index tok [A.int .i64 x] rfl rfl rfl rfl (by omega) (by omega) (by simp) (ints_at (j := i) (by simpa using hx)) rfl rfl ?_
    repeat (first | refine aops_put rfl ?_ | refine aops_p tok rfl rfl rfl rfl ?_)
    refine aops_callx hf rfl rfl hfn rfl (hp x (List.mem_of_getElem? hx) _) rfl rfl rfl ?_
    refine aops_end ?_
    refine acode_cond rfl (fun e => ?_) (fun e => ?_)
    · repeat (first | refine aops_end ?_ | refine aops_p tok rfl rfl rfl rfl ?_ | refine acode_seq ?_ | refine acode_region ?_)
      refine acode_ret ?_
      repeat (first | refine ret_then ?_ | refine ret_block ?_)
      refine ⟨_, ⟨⟨_, rfl, ?_⟩, rfl⟩, resOf_tmp rfl⟩
      have : l.any p = true := List.any_eq_true.2 ⟨x, List.mem_of_getElem? hx, e⟩
      rw [this]; simp
    · repeat (first | refine aops_end ?_ | refine aops_a tok rfl (by omega) (by omega) rfl rfl rfl ?_ | refine aops_p tok rfl rfl rfl rfl ?_ | refine acode_region ?_ | refine acode_skip ?_ | refine then_n ?_ | refine block_n ?_)
      refine ⟨i + 1, ⟨by omega, ?_⟩, by omega, ⟨rfl, rfl, rfl, rfl, trivial⟩, rfl⟩
      rw [List.take_add_one, hx]
      simp [hn, e]
  · have hge : i = l.length := by omega
    subst hge
    refine acode_exit ?_
    repeat (first | refine exit_then ?_ | refine exit_here ?_ | refine then_n ?_)
    repeat (first | refine aops_end ?_ | refine aops_p tok rfl rfl rfl rfl ?_ | refine acode_seq ?_ | refine acode_region ?_)
    refine acode_ret ?_
    skip
    refine ⟨_, ⟨⟨_, rfl, ?_⟩, rfl⟩, resOf_tmp rfl⟩
    rw [List.take_length] at hn
    rw [hn]; rfl
theorem cfI_calls {l : List Int} {f : Nat} {cap : List A} {fn : Func} (p : Int → Bool) (hf : Try.prog.funcs[f]? = some fn) (hfn : callable fn = true) (hp : ∀ x ∈ l, ∀ M, ACalls Try.prog f ([.int .i64 x] ++ cap) M (fun r M' => r = .bool (p x) ∧ M' = M)) (hl : l.length ≤ 9223372036854775807) (M : List Ob) :
    ACalls Try.prog 110 [.psl l.length (ints l), .fn f cap] M (fun r M' => r = .bool (l.any p) ∧ M' = M) := by
  refine acalls_of_code 9 Try.func110 rfl rfl rfl ?_
  repeat (first | refine aops_end ?_ | refine aops_p tok rfl rfl rfl rfl ?_ | refine acode_seq ?_ | refine acode_region ?_)
  refine aops_call Try.func117 rfl rfl rfl rfl (ixI_calls p hf hfn hp hl _) rfl rfl ?_
  rintro x M' ⟨⟨k, rfl, hk⟩, rfl⟩
  repeat (first | refine aops_put rfl ?_ | refine aops_end ?_ | refine aops_p tok rfl rfl rfl rfl ?_)
  refine acode_ret ?_
  skip
  exact ⟨_, ⟨rfl, rfl⟩, resOf_tmp (by show A.bool _ = A.bool _; rw [← hk])⟩
theorem ixF_calls {l : List (Int × Int × Int)} {f : Nat} {cap : List A} {fn : Func} (p : Int × Int × Int → Bool) (hf : Try.prog.funcs[f]? = some fn) (hfn : callable fn = true) (hp : ∀ x ∈ l, ∀ M, ACalls Try.prog f ([.agg (f3C x)] ++ cap) M (fun r M' => r = .bool (p x) ∧ M' = M)) (hl : l.length ≤ 9223372036854775807) (M : List Ob) :
    ACalls Try.prog 113 [.psl l.length (encs f3C l), .fn f cap] M (fun r M' => (∃ k : Int, r = .int .i64 k ∧ decide (0 ≤ k) = l.any p) ∧ M' = M) := by
  refine acalls_of_code 19 Try.func113 rfl rfl rfl ?_
  repeat (first | refine aops_end ?_ | refine aops_p tok rfl rfl rfl rfl ?_ | refine acode_seq ?_ | refine acode_region ?_ | refine acode_block ?_)
  refine acode_loopS (ι := Nat) (fun i => [(0, .psl l.length (encs f3C l)), (1, .fn f cap), (7, .int .i64 l.length), (8, .int .i64 i)]) (fun _ => M) (fun i => l.length - i) (fun i => i ≤ l.length ∧ (l.take i).any p = false) 0 ⟨Nat.zero_le _, by simp⟩ ⟨rfl, rfl, rfl, rfl, trivial⟩ rfl ?_
  rintro i ⟨hi, hn⟩
  repeat (first | refine aops_end ?_ | refine aops_p tok rfl rfl rfl rfl ?_ | refine acode_seq ?_ | refine acode_region ?_)
  refine acode_id rfl (fun e => ?_) (fun e => ?_)
  · have hlt : i < l.length := by omega
    obtain ⟨x, hx⟩ : ∃ x, l[i]? = some x := ⟨l[i], List.getElem?_eq_getElem hlt⟩
    repeat (first | refine aops_end ?_ | refine aops_p tok rfl rfl rfl rfl ?_ | refine acode_seq ?_ | refine acode_region ?_ | refine acode_block ?_ | refine acode_skip ?_ | refine then_n ?_)
    refine aops_index tok (f3C x) rfl rfl rfl rfl (by omega) (by omega) (by simp [f3C]) (encs_at (e := f3C) (s := 3) (fun _ => rfl) (i := (i : Int).toNat) (by simpa using hx)) rfl rfl ?_
    repeat (first | refine aops_put rfl ?_ | refine aops_p tok rfl rfl rfl rfl ?_)
    refine aops_callx hf rfl rfl hfn rfl (hp x (List.mem_of_getElem? hx) _) rfl rfl rfl ?_
    refine aops_end ?_
    refine acode_cond rfl (fun e => ?_) (fun e => ?_)
    · repeat (first | refine aops_end ?_ | refine aops_p tok rfl rfl rfl rfl ?_ | refine acode_seq ?_ | refine acode_region ?_)
      refine acode_ret ?_
      repeat (first | refine ret_then ?_ | refine ret_block ?_)
      refine ⟨_, ⟨⟨_, rfl, ?_⟩, rfl⟩, resOf_tmp rfl⟩
      have : l.any p = true := List.any_eq_true.2 ⟨x, List.mem_of_getElem? hx, e⟩
      rw [this]; simp
    · repeat (first | refine aops_end ?_ | refine aops_a tok rfl (by omega) (by omega) rfl rfl rfl ?_ | refine aops_p tok rfl rfl rfl rfl ?_ | refine acode_region ?_ | refine acode_skip ?_ | refine then_n ?_ | refine block_n ?_)
      refine ⟨i + 1, ⟨by omega, ?_⟩, by omega, ⟨rfl, rfl, rfl, rfl, trivial⟩, rfl⟩
      rw [List.take_add_one, hx]
      simp [hn, e]
  · have hge : i = l.length := by omega
    subst hge
    refine acode_exit ?_
    repeat (first | refine exit_then ?_ | refine exit_here ?_ | refine then_n ?_)
    repeat (first | refine aops_end ?_ | refine aops_p tok rfl rfl rfl rfl ?_ | refine acode_seq ?_ | refine acode_region ?_)
    refine acode_ret ?_
    skip
    refine ⟨_, ⟨⟨_, rfl, ?_⟩, rfl⟩, resOf_tmp rfl⟩
    rw [List.take_length] at hn
    rw [hn]; rfl
theorem cfF_calls {l : List (Int × Int × Int)} {f : Nat} {cap : List A} {fn : Func} (p : Int × Int × Int → Bool) (hf : Try.prog.funcs[f]? = some fn) (hfn : callable fn = true) (hp : ∀ x ∈ l, ∀ M, ACalls Try.prog f ([.agg (f3C x)] ++ cap) M (fun r M' => r = .bool (p x) ∧ M' = M)) (hl : l.length ≤ 9223372036854775807) (M : List Ob) :
    ACalls Try.prog 98 [.psl l.length (encs f3C l), .fn f cap] M (fun r M' => r = .bool (l.any p) ∧ M' = M) := by
  refine acalls_of_code 9 Try.func98 rfl rfl rfl ?_
  repeat (first | refine aops_end ?_ | refine aops_p tok rfl rfl rfl rfl ?_ | refine acode_seq ?_ | refine acode_region ?_)
  refine aops_call Try.func113 rfl rfl rfl rfl (ixF_calls p hf hfn hp hl _) rfl rfl ?_
  rintro x M' ⟨⟨k, rfl, hk⟩, rfl⟩
  repeat (first | refine aops_put rfl ?_ | refine aops_end ?_ | refine aops_p tok rfl rfl rfl rfl ?_)
  refine acode_ret ?_
  skip
  exact ⟨_, ⟨rfl, rfl⟩, resOf_tmp (by show A.bool _ = A.bool _; rw [← hk])⟩
theorem isName_calls {g : Gr} {s : Int} (M : List Ob) : ACalls Try.prog 108 [grA g, .int .i64 s] M (fun r M' => r = .bool (decide (isName g s)) ∧ M' = M) := by
  refine acalls_of_code 13 Try.func108 rfl rfl rfl ?_
  repeat (first | refine acode_seq ?_ | refine acode_region ?_)
  refine aops_boxf rfl rfl rfl rfl rfl rfl rfl ?_
  repeat' (first | refine aops_end ?_ | refine aops_o rfl rfl rfl ?_ | (refine aops_pd tok rfl rfl rfl rfl ?_ ?_ <;> intro e_) | refine aops_p tok rfl rfl rfl rfl ?_ | refine acode_seq ?_ | refine acode_region ?_)
  all_goals
    refine acode_ret ?_
    skip
    exact ⟨.bool (decide (isName g s)), ⟨rfl, rfl⟩, resOf_tmp (by first | exact bt (by unfold isName; omega) | exact bf (by unfold isName; omega))⟩
theorem kindOf_calls {g : Gr} {s : Int} (hs : rng s) (M : List Ob) : ACalls Try.prog 118 [grA g, .int .i64 s] M (fun r M' => r = .tup [.int .i64 (-1 - s), .bool (decide (isKind g s))] ∧ M' = M) := by
  obtain ⟨s0, s1⟩ := hs
  refine acalls_of_code 18 Try.func118 rfl rfl rfl ?_
  repeat (first | refine acode_seq ?_ | refine acode_region ?_)
  refine aops_boxf rfl rfl rfl rfl rfl rfl rfl ?_
  repeat (first | refine aops_end ?_ | refine aops_a tok rfl (by omega) (by omega) rfl rfl rfl ?_ | refine aops_p tok rfl rfl rfl rfl ?_ | refine acode_seq ?_ | refine acode_region ?_)
  refine acode_drawT 11 mixed (by kernel_rfl) (by kernel_rfl) ?_
  repeat' (first | refine seqT_o rfl rfl rfl ?_ | (refine seqT_pd tok rfl rfl rfl rfl ?_ ?_ <;> intro e_) | refine seqT_p tok rfl rfl rfl rfl ?_)
  all_goals
    refine SeqT.done ?_
    repeat (refine aops_end ?_)
    refine acode_ret ?_
    skip
    exact ⟨.tup [.int .i64 (-1 - s), .bool (decide (isKind g s))], ⟨rfl, rfl⟩, _, _, rfl, resOf_tmp rfl, resOf_tmp (by first | exact bt (by unfold isKind; omega) | exact bf (by unfold isKind; omega))⟩
theorem isSym_calls {g : Gr} {s : Int} (hs : rng s) (M : List Ob) : ACalls Try.prog 112 [grA g, .int .i64 s] M (fun r M' => r = .bool (decide (isSym g s)) ∧ M' = M) := by
  refine acalls_of_code 19 Try.func112 rfl rfl rfl ?_
  repeat (first | refine acode_seq ?_ | refine acode_region ?_)
  refine aops_boxf rfl rfl rfl rfl rfl rfl rfl ?_
  repeat (first | refine aops_end ?_ | refine aops_p tok rfl rfl rfl rfl ?_ | refine acode_seq ?_ | refine acode_region ?_)
  refine aops_callx Try.func118 rfl rfl rfl rfl (kindOf_calls hs _) rfl rfl rfl ?_
  by_cases h : isKind g s
  · rw [decide_eq_true h]
    repeat (first | refine aops_end ?_ | refine aops_o rfl rfl rfl ?_ | refine aops_p tok rfl rfl rfl rfl ?_ | refine acode_seq ?_ | refine acode_region ?_)
    refine acode_ret ?_
    skip
    exact ⟨.bool (decide (isSym g s)), ⟨rfl, rfl⟩, resOf_tmp (bt (.inl h))⟩
  · rw [decide_eq_false h]
    repeat (first | refine aops_end ?_ | refine aops_p tok rfl rfl rfl rfl ?_ | refine acode_seq ?_ | refine acode_region ?_)
    refine aops_callx Try.func108 rfl rfl rfl rfl (isName_calls _) rfl rfl rfl ?_
    repeat (first | refine aops_end ?_ | refine aops_p tok rfl rfl rfl rfl ?_)
    refine acode_ret ?_
    skip
    refine ⟨.bool (decide (isSym g s)), ⟨rfl, rfl⟩, resOf_tmp ?_⟩
    show A.bool _ = A.bool _
    congr 1
    rw [Bool.eq_iff_iff]
    simp only [decide_eq_true_eq]
    exact ⟨.inr, fun h' => h'.resolve_left h⟩
theorem ruleNot_calls {g : Gr} {s : Int} (hs : rng s) (M : List Ob) : ACalls Try.prog 111 [.int .i64 s, .pp (grC g)] M (fun r M' => r = .bool (!decide (isSym g s)) ∧ M' = M) := by
  refine acalls_of_code 8 Try.func111 rfl rfl rfl ?_
  repeat (first | refine aops_end ?_ | refine aops_p tok rfl rfl rfl rfl ?_ | refine acode_seq ?_ | refine acode_region ?_)
  refine aops_callx Try.func112 rfl rfl rfl rfl (isSym_calls hs _) rfl rfl rfl ?_
  repeat (first | refine aops_end ?_ | refine aops_p tok rfl rfl rfl rfl ?_)
  refine acode_ret ?_
  skip
  exact ⟨_, ⟨rfl, rfl⟩, resOf_tmp rfl⟩
theorem classNot_calls {c : Int} (M : List Ob) : ACalls Try.prog 116 [.int .i64 c] M (fun r M' => r = .bool (badC c) ∧ M' = M) := by
  refine acalls_of_code 9 Try.func116 rfl rfl rfl ?_
  repeat' (first | refine aops_end ?_ | refine aops_o rfl rfl rfl ?_ | (refine aops_pd tok rfl rfl rfl rfl ?_ ?_ <;> intro e_) | refine aops_p tok rfl rfl rfl rfl ?_ | refine acode_seq ?_ | refine acode_region ?_)
  all_goals
    refine acode_ret ?_
    skip
    exact ⟨.bool (badC c), ⟨rfl, rfl⟩, resOf_tmp (by first | exact bt (by omega) | exact bf (by omega))⟩
theorem classes_calls {l : List Int} {n : Int} (hl : l.length ≤ 9223372036854775807) (M : List Ob) : ACalls Try.prog 109 [.psl l.length (ints l), .int .i64 n] M (fun r M' => r = .bool (decide (clsOk l n)) ∧ M' = M) := by
  refine acalls_of_code 14 Try.func109 rfl rfl rfl ?_
  repeat' (first | refine aops_end ?_ | refine aops_o rfl rfl rfl ?_ | (refine aops_pd tok rfl rfl rfl rfl ?_ ?_ <;> intro e_) | refine aops_p tok rfl rfl rfl rfl ?_ | refine acode_seq ?_ | refine acode_region ?_)
  · refine aops_callx Try.func110 rfl rfl rfl rfl (cfI_calls badC Try.func116 rfl (fun x _ M => classNot_calls M) hl _) rfl rfl rfl ?_
    repeat (first | refine aops_end ?_ | refine aops_p tok rfl rfl rfl rfl ?_)
    refine acode_ret ?_
    skip
    refine ⟨.bool (decide (clsOk l n)), ⟨rfl, rfl⟩, resOf_tmp ?_⟩
    show A.bool _ = A.bool _
    congr 1
    rw [Bool.eq_iff_iff]
    simp only [decide_eq_true_eq, Bool.not_eq_true']
    exact ⟨fun h => ⟨by omega, h⟩, fun h => h.2⟩
  · refine acode_ret ?_
    skip
    exact ⟨.bool (decide (clsOk l n)), ⟨rfl, rfl⟩, resOf_tmp (bf (fun h => by have := h.1; omega))⟩
theorem whole_calls {g : Gr} (hg : GrOk g) (M : List Ob) : ACalls Try.prog 96 [grA g] M (fun r M' => r = .int .i64 (wholeF g) ∧ M' = M) := by
  refine acalls_of_code 56 Try.func96 rfl rfl rfl ?_
  repeat (first | refine acode_seq ?_ | refine acode_region ?_)
  refine aops_boxf rfl rfl rfl rfl rfl rfl rfl ?_
  repeat' (first | refine aops_end ?_ | refine aops_o rfl rfl rfl ?_ | (refine aops_pd tok rfl rfl rfl rfl ?_ ?_ <;> intro e_) | refine aops_p tok rfl rfl rfl rfl ?_ | refine acode_it rfl ?_ | refine acode_if rfl ?_ | refine acode_seq ?_ | refine acode_region ?_ | refine acode_block ?_)
  all_goals try
    (refine acode_ret ?_
     repeat (first | refine ret_then ?_ | refine ret_block ?_)
     exact ⟨.int .i64 (wholeF g), ⟨rfl, rfl⟩, resOf_tmp (by unfold wholeF; rw [if_pos (by unfold bigB; omega)]; rfl)⟩)
  have hb : ¬ bigB g := by unfold bigB; omega
  refine aops_callb Try.func108 rfl rfl rfl rfl (isName_calls _) rfl rfl rfl (fun h => ?_) (fun h => ?_)
  · repeat' (first | refine aops_end ?_ | refine aops_p tok rfl rfl rfl rfl ?_ | refine acode_if rfl ?_ | refine acode_seq ?_ | refine acode_region ?_)
    refine aops_callb Try.func109 rfl rfl rfl rfl (classes_calls hg.rc _) rfl rfl rfl (fun h1 => ?_) (fun h1 => ?_)
    · repeat' (refine aops_p tok rfl rfl rfl rfl ?_)
      refine aops_callb Try.func109 rfl rfl rfl rfl (classes_calls hg.kc _) rfl rfl rfl (fun h2 => ?_) (fun h2 => ?_)
      · repeat' (first | refine aops_end ?_ | refine aops_p tok rfl rfl rfl rfl ?_ | refine acode_if rfl ?_ | refine acode_seq ?_ | refine acode_region ?_ | refine acode_skip ?_ | refine then_n ?_ | refine block_n ?_)
        refine acode_ret ?_
        skip
        exact ⟨.int .i64 (wholeF g), ⟨rfl, rfl⟩, resOf_tmp (by unfold wholeF; rw [if_neg hb, if_neg (by simp [h]), if_neg (by simp [h1, h2])]; rfl)⟩
      · repeat' (first | refine aops_end ?_ | refine aops_p tok rfl rfl rfl rfl ?_ | refine acode_it rfl ?_ | refine acode_seq ?_ | refine acode_region ?_)
        refine acode_ret ?_
        repeat (first | refine ret_then ?_ | refine ret_block ?_)
        exact ⟨.int .i64 (wholeF g), ⟨rfl, rfl⟩, resOf_tmp (by unfold wholeF; rw [if_neg hb, if_neg (by simp [h]), if_pos (by simp [h2])]; rfl)⟩
    · repeat' (first | refine aops_end ?_ | refine aops_o rfl rfl rfl ?_ | refine aops_p tok rfl rfl rfl rfl ?_ | refine acode_it rfl ?_ | refine acode_seq ?_ | refine acode_region ?_)
      refine acode_ret ?_
      repeat (first | refine ret_then ?_ | refine ret_block ?_)
      exact ⟨.int .i64 (wholeF g), ⟨rfl, rfl⟩, resOf_tmp (by unfold wholeF; rw [if_neg hb, if_neg (by simp [h]), if_pos (by simp [h1])]; rfl)⟩
  · repeat' (first | refine aops_end ?_ | refine aops_p tok rfl rfl rfl rfl ?_ | refine acode_it rfl ?_ | refine acode_seq ?_ | refine acode_region ?_)
    refine acode_ret ?_
    repeat (first | refine ret_then ?_ | refine ret_block ?_)
    exact ⟨.int .i64 (wholeF g), ⟨rfl, rfl⟩, resOf_tmp (by unfold wholeF; rw [if_neg hb, if_pos (by simp [h])]; rfl)⟩
theorem rule_calls {g : Gr} {r : Ru} (hr : r.right.length ≤ 9223372036854775807) (hs : ∀ s ∈ r.right, rng s) (M : List Ob) : ACalls Try.prog 97 [grA g, .agg (ruC r)] M (fun x M' => x = .int .i64 (ruleF g r) ∧ M' = M) := by
  refine acalls_of_code 31 Try.func97 rfl rfl rfl ?_
  repeat (first | refine acode_seq ?_ | refine acode_region ?_)
  refine aops_boxf rfl rfl rfl rfl rfl rfl rfl ?_
  skip
  refine aops_boxf rfl rfl rfl rfl rfl rfl rfl ?_
  repeat (first | refine aops_end ?_ | refine aops_p tok rfl rfl rfl rfl ?_ | refine acode_seq ?_ | refine acode_region ?_ | refine acode_block ?_)
  refine aops_callb Try.func108 rfl rfl rfl rfl (isName_calls _) rfl rfl rfl (fun h => ?_) (fun h => ?_)
  · repeat' (refine aops_p tok rfl rfl rfl rfl ?_)
    refine aops_callx Try.func110 rfl rfl rfl rfl (cfI_calls (fun s => !decide (isSym g s)) Try.func111 rfl (fun x hx M => ruleNot_calls (hs x hx) M) hr _) rfl rfl rfl ?_
    cases h1 : r.right.any (fun s => !decide (isSym g s)) with
    | true =>
      repeat' (first | refine aops_end ?_ | refine aops_p tok rfl rfl rfl rfl ?_ | refine acode_it rfl ?_ | refine acode_seq ?_ | refine acode_region ?_)
      refine acode_ret ?_
      repeat (first | refine ret_then ?_ | refine ret_block ?_)
      exact ⟨.int .i64 (ruleF g r), ⟨rfl, rfl⟩, resOf_tmp (by unfold ruleF; rw [if_pos (.inr h1)]; rfl)⟩
    | false =>
      have h2 : ¬ (¬ isName g r.left ∨ r.right.any (fun s => !decide (isSym g s)) = true) := by rw [h1]; simp [h]
      repeat' (first | refine aops_end ?_ | refine aops_o rfl rfl rfl ?_ | (refine aops_pd tok rfl rfl rfl rfl ?_ ?_ <;> intro e_) | refine aops_p tok rfl rfl rfl rfl ?_ | refine acode_it rfl ?_ | refine acode_if rfl ?_ | refine acode_seq ?_ | refine acode_region ?_ | refine acode_skip ?_ | refine then_n ?_ | refine block_n ?_)
      all_goals
        refine acode_ret ?_
        repeat (first | refine ret_then ?_ | refine ret_block ?_)
        refine ⟨.int .i64 (ruleF g r), ⟨rfl, rfl⟩, resOf_tmp ?_⟩
        unfold ruleF
        rw [if_neg h2]
        first
          | (rw [if_pos (by omega)]; rfl)
          | (rw [if_neg (by omega), if_pos (by omega)]; rfl)
          | (rw [if_neg (by omega), if_neg (by omega)]; rfl)
  · repeat' (first | refine aops_end ?_ | refine aops_o rfl rfl rfl ?_ | refine aops_p tok rfl rfl rfl rfl ?_ | refine acode_it rfl ?_ | refine acode_seq ?_ | refine acode_region ?_)
    refine acode_ret ?_
    repeat (first | refine ret_then ?_ | refine ret_block ?_)
    exact ⟨.int .i64 (ruleF g r), ⟨rfl, rfl⟩, resOf_tmp (by unfold ruleF; rw [if_pos (.inl h)]; rfl)⟩
set_option maxHeartbeats 2000000 in
theorem forbid_calls {g : Gr} {f : Int × Int × Int} (M : List Ob) : ACalls Try.prog 100 [grA g, .agg (f3C f)] M (fun x M' => x = .bool (decide (forbOk g f)) ∧ M' = M) := by
  refine acalls_of_code 62 Try.func100 rfl rfl rfl ?_
  repeat (first | refine acode_seq ?_ | refine acode_region ?_)
  refine aops_boxf rfl rfl rfl rfl rfl rfl rfl ?_
  skip
  refine aops_boxf rfl rfl rfl rfl rfl rfl rfl ?_
  repeat' (first | refine aops_end ?_ | refine aops_o rfl rfl rfl ?_ | (refine aops_pd tok rfl rfl rfl rfl ?_ ?_ <;> intro e_) | refine aops_p tok rfl rfl rfl rfl ?_ | refine acode_it rfl ?_ | refine acode_if rfl ?_ | refine aops_ixa tok rfl rfl rfl (by decide) rfl rfl rfl rfl ?_ | refine acode_seq ?_ | refine acode_region ?_ | refine acode_skip ?_ | refine then_n ?_)
  all_goals try
    (refine acode_ret ?_
     repeat (refine ret_then ?_)
     exact ⟨.bool (decide (forbOk g f)), ⟨rfl, rfl⟩, resOf_tmp (bf (fun h => by obtain ⟨⟨_, _, _, _⟩, _, _⟩ := h; omega))⟩)
  have a0 : 0 ≤ f.1 := by omega
  have a1 : f.1 < g.rules.length := by omega
  have c0 : 0 ≤ f.2.2 := by omega
  have c1 : f.2.2 < g.rules.length := by omega
  refine aops_ix tok (ruC (ruleAt g f.1)) rfl rfl rfl rfl a0 a1 (by simp [ruC]) (encs_at (e := ruC) (s := 3) (fun _ => rfl) (ruleAt_at a0 a1)) rfl rfl rfl ?_
  repeat (first | refine aops_end ?_ | refine aops_p tok rfl rfl rfl rfl ?_ | refine acode_seq ?_)
  refine acode_drawT 25 mixed (by kernel_rfl) (by kernel_rfl) ?_
  repeat' (first | refine seqT_o rfl rfl rfl ?_ | (refine seqT_pd tok rfl rfl rfl rfl ?_ ?_ <;> intro e_) | refine seqT_p tok rfl rfl rfl rfl ?_ | refine seqT_ixa tok rfl rfl rfl (by decide) rfl rfl rfl rfl ?_)
  all_goals try
    (refine SeqT.done ?_
     repeat (first | refine aops_end ?_ | refine aops_p tok rfl rfl rfl rfl ?_)
     refine acode_ret ?_
     skip
     exact ⟨.bool (decide (forbOk g f)), ⟨rfl, rfl⟩, resOf_tmp (bf (fun h => by obtain ⟨⟨_, _, _, _⟩, _, _⟩ := h; omega))⟩)
  have b0 : 0 ≤ f.2.1 := by omega
  have b1 : f.2.1 < (ruleAt g f.1).right.length := by omega
  refine seqT_ix tok [A.int .i64 ((ruleAt g f.1).right.getD f.2.1.toNat 0)] rfl rfl rfl rfl b0 b1 (by simp) (ints_at (int_at b0 b1)) rfl rfl rfl ?_
  repeat (first | refine seqT_p tok rfl rfl rfl rfl ?_ | refine seqT_ixa tok rfl rfl rfl (by decide) rfl rfl rfl rfl ?_)
  refine seqT_ix tok (ruC (ruleAt g f.2.2)) rfl rfl rfl rfl c0 c1 (by simp [ruC]) (encs_at (e := ruC) (s := 3) (fun _ => rfl) (ruleAt_at c0 c1)) rfl rfl rfl ?_
  repeat' (first | (refine seqT_pd tok rfl rfl rfl rfl ?_ ?_ <;> intro e_) | refine seqT_p tok rfl rfl rfl rfl ?_)
  all_goals
    refine SeqT.done ?_
    repeat (first | refine aops_end ?_ | refine aops_p tok rfl rfl rfl rfl ?_)
    refine acode_ret ?_
    skip
    exact ⟨.bool (decide (forbOk g f)), ⟨rfl, rfl⟩, resOf_tmp (by first | exact bt ⟨⟨a0, a1, c0, c1⟩, ⟨b0, b1⟩, by assumption⟩ | exact bf (fun h => by have := h.2.2; contradiction))⟩
theorem formNot_calls {g : Gr} {f : Int × Int × Int} (M : List Ob) : ACalls Try.prog 99 [.agg (f3C f), .pp (grC g)] M (fun x M' => x = .bool (!decide (forbOk g f)) ∧ M' = M) := by
  refine acalls_of_code 8 Try.func99 rfl rfl rfl ?_
  repeat (first | refine acode_seq ?_ | refine acode_region ?_)
  refine aops_boxf rfl rfl rfl rfl rfl rfl rfl ?_
  repeat (first | refine aops_end ?_ | refine aops_p tok rfl rfl rfl rfl ?_ | refine acode_seq ?_ | refine acode_region ?_)
  refine aops_callx Try.func100 rfl rfl rfl rfl (forbid_calls _) rfl rfl rfl ?_
  repeat (first | refine aops_end ?_ | refine aops_p tok rfl rfl rfl rfl ?_)
  refine acode_ret ?_
  skip
  exact ⟨_, ⟨rfl, rfl⟩, resOf_tmp rfl⟩
set_option maxHeartbeats 2000000 in
theorem form_calls {g : Gr} (hg : GrOk g) (M : List Ob) : ACalls Try.prog 81 [grA g] M (fun x M' => x = tup2 (formF g) ∧ M' = M) := by
  refine acalls_of_code 33 Try.func81 rfl rfl rfl ?_
  repeat (first | refine acode_seq ?_ | refine acode_region ?_)
  refine aops_boxf rfl rfl rfl rfl rfl rfl rfl ?_
  repeat (first | refine aops_end ?_ | refine aops_p tok rfl rfl rfl rfl ?_ | refine acode_seq ?_ | refine acode_region ?_)
  refine aops_callx Try.func96 rfl rfl rfl rfl (whole_calls hg _) rfl rfl rfl ?_
  have h0 : wholeF g ≠ 0 → formF g = (-1, wholeF g) := fun h => by unfold formF; rw [if_pos h]
  have h1 : wholeF g = 0 → formF g = match rulesF g 0 g.rules with
    | some p => p
    | none => if g.forbid.any (fun f => !decide (forbOk g f)) = true then (-1, 6) else (-1, 0) := fun h => by unfold formF; rw [if_neg (by simp [h])]; cases rulesF g 0 g.rules <;> rfl
  generalize formF g = R at *
  generalize wholeF g = w at *
  repeat' (first | refine aops_end ?_ | (refine aops_pn tok rfl rfl rfl rfl ?_ ?_ <;> intro e_) | refine aops_p tok rfl rfl rfl rfl ?_ | refine acode_it rfl ?_ | refine acode_if rfl ?_ | refine acode_seq ?_ | refine acode_region ?_ | refine acode_block ?_ | refine acode_skip ?_ | refine then_n ?_)
  · rw [h0 e_]
    refine acode_ret ?_
    repeat (refine ret_then ?_)
    exact ⟨_, ⟨rfl, rfl⟩, _, _, rfl, resOf_tmp rfl, resOf_tmp rfl⟩
  have h1 := h1 e_
  clear h0
  refine acode_loopS (ι := Nat) (fun i => [(1, .pp (grC g)), (14, .psl g.rules.length (encs ruC g.rules)), (15, .int .i64 g.rules.length), (16, .int .i64 i)]) (fun _ => M) (fun i => g.rules.length - i) (fun i => i ≤ g.rules.length ∧ rulesF g i (g.rules.drop i) = rulesF g 0 g.rules) 0 ⟨Nat.zero_le _, rfl⟩ ⟨rfl, rfl, rfl, rfl, trivial⟩ rfl ?_
  rintro i ⟨hi, hr⟩
  have hrl := hg.rl
  repeat (first | refine aops_end ?_ | refine aops_p tok rfl rfl rfl rfl ?_ | refine acode_seq ?_ | refine acode_region ?_)
  refine acode_id rfl (fun e => ?_) (fun e => ?_)
  · have hlt : i < g.rules.length := by omega
    obtain ⟨r, hx⟩ : ∃ r, g.rules[i]? = some r := ⟨g.rules[i], List.getElem?_eq_getElem hlt⟩
    have hm := List.mem_of_getElem? hx
    have hdr : g.rules.drop i = r :: g.rules.drop (i + 1) := by
      rw [List.drop_eq_getElem_cons hlt]
      rw [List.getElem?_eq_getElem hlt] at hx
      rw [Option.some.inj hx]
    rw [hdr, rulesF] at hr
    repeat (first | refine aops_p tok rfl rfl rfl rfl ?_ | refine acode_seq ?_ | refine acode_region ?_ | refine acode_block ?_ | refine acode_skip ?_ | refine then_n ?_)
    refine aops_ix tok (ruC r) rfl rfl rfl rfl (by omega) (by omega) (by simp [ruC]) (encs_at (e := ruC) (s := 3) (fun _ => rfl) (i := (i : Int).toNat) (by simpa using hx)) rfl rfl rfl ?_
    repeat (refine aops_p tok rfl rfl rfl rfl ?_)
    refine aops_alloc tok rfl rfl rfl rfl rfl rfl fun b => ?_
    repeat (first | refine aops_end ?_ | refine aops_p tok rfl rfl rfl rfl ?_ | refine aops_ld tok 0 rfl rfl rfl rfl rfl rfl rfl rfl ?_ | refine aops_stn tok rfl rfl rfl rfl rfl rfl rfl rfl rfl ?_ | refine acode_seq ?_ | refine acode_region ?_)
    refine aops_drop0 ?_
    refine aops_callx Try.func97 rfl rfl rfl rfl (rule_calls (hg.rr r hm).1 (hg.rr r hm).2 _) rfl rfl rfl ?_
    repeat' (first | refine aops_end ?_ | refine aops_a tok rfl (by omega) (by omega) rfl rfl rfl ?_ | (refine aops_pn tok rfl rfl rfl rfl ?_ ?_ <;> intro e_) | refine aops_p tok rfl rfl rfl rfl ?_ | refine acode_it rfl ?_ | refine acode_if rfl ?_ | refine acode_seq ?_ | refine acode_region ?_ | refine acode_skip ?_ | refine then_n ?_ | refine block_n ?_)
    · rw [if_pos e_] at hr
      rw [← hr] at h1
      rw [h1]
      refine acode_ret ?_
      repeat (first | refine ret_then ?_ | refine ret_block ?_)
      exact ⟨_, ⟨rfl, rfl⟩, _, _, rfl, resOf_tmp rfl, resOf_tmp rfl⟩
    · rw [if_neg (by simp [e_])] at hr
      exact ⟨i + 1, ⟨by omega, by rw [← hr]; rfl⟩, by omega, ⟨rfl, rfl, rfl, rfl, trivial⟩, rfl⟩
  · have hge : i = g.rules.length := by omega
    subst hge
    rw [List.drop_length, rulesF] at hr
    rw [← hr] at h1
    simp only at h1
    refine acode_exit ?_
    repeat (first | refine exit_then ?_ | refine exit_here ?_ | refine then_n ?_)
    repeat (first | refine aops_p tok rfl rfl rfl rfl ?_ | refine acode_seq ?_ | refine acode_region ?_)
    refine aops_callx Try.func98 rfl rfl rfl rfl (cfF_calls (fun f => !decide (forbOk g f)) Try.func99 rfl (fun x _ M => formNot_calls M) hg.fo _) rfl rfl rfl ?_
    cases h2 : g.forbid.any (fun f => !decide (forbOk g f)) with
    | true =>
      rw [if_pos h2] at h1
      rw [h1]
      repeat' (first | refine aops_end ?_ | refine aops_p tok rfl rfl rfl rfl ?_ | refine acode_it rfl ?_ | refine acode_seq ?_ | refine acode_region ?_)
      refine acode_ret ?_
      repeat (refine ret_then ?_)
      exact ⟨_, ⟨rfl, rfl⟩, _, _, rfl, resOf_tmp rfl, resOf_tmp rfl⟩
    | false =>
      rw [if_neg (by simp [h2])] at h1
      rw [h1]
      repeat' (first | refine aops_end ?_ | refine aops_p tok rfl rfl rfl rfl ?_ | refine acode_if rfl ?_ | refine acode_seq ?_ | refine acode_region ?_ | refine acode_skip ?_ | refine then_n ?_)
      refine acode_ret ?_
      skip
      exact ⟨_, ⟨rfl, rfl⟩, _, _, rfl, resOf_tmp rfl, resOf_tmp rfl⟩
theorem good_calls {g : Gr} (hg : GrOk g) (M : List Ob) : ACalls Try.prog 48 [grA g] M (fun r M' => r = .bool (decide ((formF g).2 = 0)) ∧ M' = M) := by
  refine acalls_of_code 12 Try.func48 rfl rfl rfl ?_
  repeat (first | refine acode_seq ?_ | refine acode_region ?_)
  refine aops_boxf rfl rfl rfl rfl rfl rfl rfl ?_
  repeat (first | refine aops_end ?_ | refine aops_p tok rfl rfl rfl rfl ?_ | refine acode_seq ?_ | refine acode_region ?_)
  refine aops_callx Try.func81 rfl rfl rfl rfl (form_calls hg _) rfl rfl rfl ?_
  repeat' (first | refine aops_end ?_ | (refine aops_pd tok rfl rfl rfl rfl ?_ ?_ <;> intro e_) | refine aops_p tok rfl rfl rfl rfl ?_ | refine acode_seq ?_ | refine acode_region ?_)
  · refine acode_ret ?_
    skip
    exact ⟨.bool (decide ((formF g).2 = 0)), ⟨rfl, rfl⟩, resOf_tmp (bt e_)⟩
  · refine acode_ret ?_
    skip
    exact ⟨.bool (decide ((formF g).2 = 0)), ⟨rfl, rfl⟩, resOf_tmp (bf e_)⟩
end Go.Proofs.Ytbnhmioijeagiaa.Ab
/- Package choose: whether a forest is a grammar's, the weight of a rule: the walk. No condition. -/
set_option linter.unusedVariables false
set_option linter.unusedSimpArgs false
namespace Go.Proofs.Ytbnhmioijeagiaa.Ab
attribute [local irreducible] thenA inBlockA ACode AOps put IntKind.wrap

theorem ixN_calls {l : List Nd} {f : Nat} {cap : List A} {fn : Func} (p : Nd → Bool) (hf : Try.prog.funcs[f]? = some fn) (hfn : callable fn = true) (hp : ∀ x ∈ l, ∀ M, ACalls Try.prog f ([.agg (ndC x)] ++ cap) M (fun r M' => r = .bool (p x) ∧ M' = M)) (hl : l.length ≤ 9223372036854775807) (M : List Ob) :
    ACalls Try.prog 101 [.psl l.length (encs ndC l), .fn f cap] M (fun r M' => (∃ k : Int, r = .int .i64 k ∧ decide (0 ≤ k) = l.any p) ∧ M' = M) := by
  refine acalls_of_code 19 Try.func101 rfl rfl rfl ?_
  repeat (first | refine aops_end ?_ | refine aops_p tok rfl rfl rfl rfl ?_ | refine acode_seq ?_ | refine acode_region ?_ | refine acode_block ?_)
  refine acode_loopS (ι := Nat) (fun i => [(0, .psl l.length (encs ndC l)), (1, .fn f cap), (7, .int .i64 l.length), (8, .int .i64 i)]) (fun _ => M) (fun i => l.length - i) (fun i => i ≤ l.length ∧ (l.take i).any p = false) 0 ⟨Nat.zero_le _, by simp⟩ ⟨rfl, rfl, rfl, rfl, trivial⟩ rfl ?_
  rintro i ⟨hi, hn⟩
  repeat (first | refine aops_end ?_ | refine aops_p tok rfl rfl rfl rfl ?_ | refine acode_seq ?_ | refine acode_region ?_)
  refine acode_id rfl (fun e => ?_) (fun e => ?_)
  · have hlt : i < l.length := by omega
    obtain ⟨x, hx⟩ : ∃ x, l[i]? = some x := ⟨l[i], List.getElem?_eq_getElem hlt⟩
    repeat (first | refine aops_end ?_ | refine aops_p tok rfl rfl rfl rfl ?_ | refine acode_seq ?_ | refine acode_region ?_ | refine acode_block ?_ | refine acode_skip ?_ | refine then_n ?_)
    refine aops_index tok (ndC x) rfl rfl rfl rfl (by omega) (by omega) (by simp [ndC]) (encs_at (e := ndC) (s := 4) (fun _ => rfl) (i := (i : Int).toNat) (by simpa using hx)) rfl rfl ?_
    repeat (first | refine aops_put rfl ?_ | refine aops_p tok rfl rfl rfl rfl ?_)
    refine aops_callx hf rfl rfl hfn rfl (hp x (List.mem_of_getElem? hx) _) rfl rfl rfl ?_
    refine aops_end ?_
    refine acode_cond rfl (fun e => ?_) (fun e => ?_)
    · repeat (first | refine aops_end ?_ | refine aops_p tok rfl rfl rfl rfl ?_ | refine acode_seq ?_ | refine acode_region ?_)
      refine acode_ret ?_
      repeat (first | refine ret_then ?_ | refine ret_block ?_)
      refine ⟨_, ⟨⟨_, rfl, ?_⟩, rfl⟩, resOf_tmp rfl⟩
      have : l.any p = true := List.any_eq_true.2 ⟨x, List.mem_of_getElem? hx, e⟩
      rw [this]; simp
    · repeat (first | refine aops_end ?_ | refine aops_a tok rfl (by omega) (by omega) rfl rfl rfl ?_ | refine aops_p tok rfl rfl rfl rfl ?_ | refine acode_region ?_ | refine acode_skip ?_ | refine then_n ?_ | refine block_n ?_)
      refine ⟨i + 1, ⟨by omega, ?_⟩, by omega, ⟨rfl, rfl, rfl, rfl, trivial⟩, rfl⟩
      rw [List.take_add_one, hx]
      simp [hn, e]
  · have hge : i = l.length := by omega
    subst hge
    refine acode_exit ?_
    repeat (first | refine exit_then ?_ | refine exit_here ?_ | refine then_n ?_)
    repeat (first | refine aops_end ?_ | refine aops_p tok rfl rfl rfl rfl ?_ | refine acode_seq ?_ | refine acode_region ?_)
    refine acode_ret ?_
    skip
    refine ⟨_, ⟨⟨_, rfl, ?_⟩, rfl⟩, resOf_tmp rfl⟩
    rw [List.take_length] at hn
    rw [hn]; rfl
theorem cfN_calls {l : List Nd} {f : Nat} {cap : List A} {fn : Func} (p : Nd → Bool) (hf : Try.prog.funcs[f]? = some fn) (hfn : callable fn = true) (hp : ∀ x ∈ l, ∀ M, ACalls Try.prog f ([.agg (ndC x)] ++ cap) M (fun r M' => r = .bool (p x) ∧ M' = M)) (hl : l.length ≤ 9223372036854775807) (M : List Ob) :
    ACalls Try.prog 82 [.psl l.length (encs ndC l), .fn f cap] M (fun r M' => r = .bool (l.any p) ∧ M' = M) := by
  refine acalls_of_code 9 Try.func82 rfl rfl rfl ?_
  repeat (first | refine aops_end ?_ | refine aops_p tok rfl rfl rfl rfl ?_ | refine acode_seq ?_ | refine acode_region ?_)
  refine aops_call Try.func101 rfl rfl rfl rfl (ixN_calls p hf hfn hp hl _) rfl rfl ?_
  rintro x M' ⟨⟨k, rfl, hk⟩, rfl⟩
  repeat (first | refine aops_put rfl ?_ | refine aops_end ?_ | refine aops_p tok rfl rfl rfl rfl ?_)
  refine acode_ret ?_
  skip
  exact ⟨_, ⟨rfl, rfl⟩, resOf_tmp (by show A.bool _ = A.bool _; rw [← hk])⟩
theorem ixA_calls {l : List Al} {f : Nat} {cap : List A} {fn : Func} (p : Al → Bool) (hf : Try.prog.funcs[f]? = some fn) (hfn : callable fn = true) (hp : ∀ x ∈ l, ∀ M, ACalls Try.prog f ([.agg (alC x)] ++ cap) M (fun r M' => r = .bool (p x) ∧ M' = M)) (hl : l.length ≤ 9223372036854775807) (M : List Ob) :
    ACalls Try.prog 102 [.psl l.length (encs alC l), .fn f cap] M (fun r M' => (∃ k : Int, r = .int .i64 k ∧ decide (0 ≤ k) = l.any p) ∧ M' = M) := by
  refine acalls_of_code 19 Try.func102 rfl rfl rfl ?_
  repeat (first | refine aops_end ?_ | refine aops_p tok rfl rfl rfl rfl ?_ | refine acode_seq ?_ | refine acode_region ?_ | refine acode_block ?_)
  refine acode_loopS (ι := Nat) (fun i => [(0, .psl l.length (encs alC l)), (1, .fn f cap), (7, .int .i64 l.length), (8, .int .i64 i)]) (fun _ => M) (fun i => l.length - i) (fun i => i ≤ l.length ∧ (l.take i).any p = false) 0 ⟨Nat.zero_le _, by simp⟩ ⟨rfl, rfl, rfl, rfl, trivial⟩ rfl ?_
  rintro i ⟨hi, hn⟩
  repeat (first | refine aops_end ?_ | refine aops_p tok rfl rfl rfl rfl ?_ | refine acode_seq ?_ | refine acode_region ?_)
  refine acode_id rfl (fun e => ?_) (fun e => ?_)
  · have hlt : i < l.length := by omega
    obtain ⟨x, hx⟩ : ∃ x, l[i]? = some x := ⟨l[i], List.getElem?_eq_getElem hlt⟩
    repeat (first | refine aops_end ?_ | refine aops_p tok rfl rfl rfl rfl ?_ | refine acode_seq ?_ | refine acode_region ?_ | refine acode_block ?_ | refine acode_skip ?_ | refine then_n ?_)
    refine aops_index tok (alC x) rfl rfl rfl rfl (by omega) (by omega) (by simp [alC]) (encs_at (e := alC) (s := 2) (fun _ => rfl) (i := (i : Int).toNat) (by simpa using hx)) rfl rfl ?_
    repeat (first | refine aops_put rfl ?_ | refine aops_p tok rfl rfl rfl rfl ?_)
    refine aops_callx hf rfl rfl hfn rfl (hp x (List.mem_of_getElem? hx) _) rfl rfl rfl ?_
    refine aops_end ?_
    refine acode_cond rfl (fun e => ?_) (fun e => ?_)
    · repeat (first | refine aops_end ?_ | refine aops_p tok rfl rfl rfl rfl ?_ | refine acode_seq ?_ | refine acode_region ?_)
      refine acode_ret ?_
      repeat (first | refine ret_then ?_ | refine ret_block ?_)
      refine ⟨_, ⟨⟨_, rfl, ?_⟩, rfl⟩, resOf_tmp rfl⟩
      have : l.any p = true := List.any_eq_true.2 ⟨x, List.mem_of_getElem? hx, e⟩
      rw [this]; simp
    · repeat (first | refine aops_end ?_ | refine aops_a tok rfl (by omega) (by omega) rfl rfl rfl ?_ | refine aops_p tok rfl rfl rfl rfl ?_ | refine acode_region ?_ | refine acode_skip ?_ | refine then_n ?_ | refine block_n ?_)
      refine ⟨i + 1, ⟨by omega, ?_⟩, by omega, ⟨rfl, rfl, rfl, rfl, trivial⟩, rfl⟩
      rw [List.take_add_one, hx]
      simp [hn, e]
  · have hge : i = l.length := by omega
    subst hge
    refine acode_exit ?_
    repeat (first | refine exit_then ?_ | refine exit_here ?_ | refine then_n ?_)
    repeat (first | refine aops_end ?_ | refine aops_p tok rfl rfl rfl rfl ?_ | refine acode_seq ?_ | refine acode_region ?_)
    refine acode_ret ?_
    skip
    refine ⟨_, ⟨⟨_, rfl, ?_⟩, rfl⟩, resOf_tmp rfl⟩
    rw [List.take_length] at hn
    rw [hn]; rfl
theorem cfA_calls {l : List Al} {f : Nat} {cap : List A} {fn : Func} (p : Al → Bool) (hf : Try.prog.funcs[f]? = some fn) (hfn : callable fn = true) (hp : ∀ x ∈ l, ∀ M, ACalls Try.prog f ([.agg (alC x)] ++ cap) M (fun r M' => r = .bool (p x) ∧ M' = M)) (hl : l.length ≤ 9223372036854775807) (M : List Ob) :
    ACalls Try.prog 84 [.psl l.length (encs alC l), .fn f cap] M (fun r M' => r = .bool (l.any p) ∧ M' = M) := by
  refine acalls_of_code 9 Try.func84 rfl rfl rfl ?_
  repeat (first | refine aops_end ?_ | refine aops_p tok rfl rfl rfl rfl ?_ | refine acode_seq ?_ | refine acode_region ?_)
  refine aops_call Try.func102 rfl rfl rfl rfl (ixA_calls p hf hfn hp hl _) rfl rfl ?_
  rintro x M' ⟨⟨k, rfl, hk⟩, rfl⟩
  repeat (first | refine aops_put rfl ?_ | refine aops_end ?_ | refine aops_p tok rfl rfl rfl rfl ?_)
  refine acode_ret ?_
  skip
  exact ⟨_, ⟨rfl, rfl⟩, resOf_tmp (by show A.bool _ = A.bool _; rw [← hk])⟩

def dynF (g : Gr) (r : Int) : Int := if 0 ≤ r ∧ r < g.rules.length then (ruleAt g r).dyn else 0
set_option maxHeartbeats 4000000 in
theorem dyn_calls {g : Gr} {r : Int} (M : List Ob) : ACalls Try.prog 63 [grA g, .int .i64 r] M (fun x M' => x = .int .i64 (dynF g r) ∧ M' = M) := by
  refine acalls_of_code 20 Try.func63 rfl rfl rfl ?_
  repeat (first | refine acode_seq ?_ | refine acode_region ?_)
  refine aops_boxf rfl rfl rfl rfl rfl rfl rfl ?_
  by_cases h : 0 ≤ r ∧ r < g.rules.length
  · obtain ⟨h0, h1⟩ := h
    have hd : dynF g r = (ruleAt g r).dyn := by unfold dynF; rw [if_pos ⟨h0, h1⟩]
    rw [hd]
    have hr : g.rules[r.toNat]? = some (ruleAt g r) := ruleAt_at h0 h1
    have hra := encs_at (e := ruC) (s := 3) (fun _ => rfl) hr
    generalize ruleAt g r = u at *
    repeat' (first | refine aops_end ?_ | refine aops_pbf tok rfl (by first | omega | decide) rfl rfl rfl ?_ | refine aops_p tok rfl rfl rfl rfl ?_ | refine acode_if rfl ?_ | refine acode_seq ?_ | refine acode_region ?_ | refine acode_skip ?_ | refine then_n ?_)
    try any_goals (exfalso; omega)
    refine aops_ix tok (ruC u) rfl rfl rfl rfl (by omega) (by omega) (by simp [ruC]) hra rfl rfl rfl ?_
    repeat (first | refine aops_end ?_ | refine aops_p tok rfl rfl rfl rfl ?_)
    refine acode_ret ?_
    skip
    exact ⟨_, ⟨rfl, rfl⟩, resOf_tmp rfl⟩
  · have hd : dynF g r = 0 := by unfold dynF; rw [if_neg h]
    rw [hd]
    repeat' (first | refine aops_end ?_ | refine aops_o rfl rfl rfl ?_ | (refine aops_pd tok rfl rfl rfl rfl ?_ ?_ <;> intro e_) | refine aops_p tok rfl rfl rfl rfl ?_ | refine acode_it rfl ?_ | refine acode_if rfl ?_ | refine acode_seq ?_ | refine acode_region ?_ | refine acode_skip ?_ | refine then_n ?_)
    all_goals try (exfalso; omega)
    all_goals
      (refine acode_ret ?_
       repeat (refine ret_then ?_)
       exact ⟨_, ⟨rfl, rfl⟩, resOf_tmp rfl⟩)
/-- Does a kid fit a symbol? -/
def fitB (g : Gr) (f : Fo) (k s : Int) : Bool := if isName g s then decide (0 ≤ k ∧ (f.nodes.getD k.toNat ⟨0, 0, 0, []⟩).sym = s) else decide (k < 0)
theorem nodeD_at {f : Fo} {k : Int} (h1 : k < f.nodes.length) (h0 : 0 ≤ k) : f.nodes[k.toNat]? = some (f.nodes.getD k.toNat ⟨0, 0, 0, []⟩) := by
  rw [List.getD_eq_getElem?_getD, List.getElem?_eq_getElem (by omega)]; rfl
set_option maxHeartbeats 4000000 in
theorem chfits_calls {g : Gr} {f : Fo} {k s : Int} (hk : k < f.nodes.length) (M : List Ob) : ACalls Try.prog 103 [grA g, foA f, .int .i64 k, .int .i64 s] M (fun x M' => x = .bool (fitB g f k s) ∧ M' = M) := by
  refine acalls_of_code 26 Try.func103 rfl rfl rfl ?_
  repeat (first | refine acode_seq ?_ | refine acode_region ?_)
  refine aops_boxf rfl rfl rfl rfl rfl rfl rfl ?_
  refine aops_boxf rfl rfl rfl rfl rfl rfl rfl ?_
  repeat (first | refine aops_end ?_ | refine aops_p tok rfl rfl rfl rfl ?_ | refine acode_seq ?_ | refine acode_region ?_)
  refine aops_callb Try.func108 rfl rfl rfl rfl (isName_calls _) rfl rfl rfl (fun h => ?_) (fun h => ?_)
  · have hF : fitB g f k s = decide (0 ≤ k ∧ (f.nodes.getD k.toNat ⟨0, 0, 0, []⟩).sym = s) := by unfold fitB; rw [if_pos h]
    by_cases h0 : 0 ≤ k
    · have hn := nodeD_at hk h0
      generalize f.nodes.getD k.toNat ⟨0, 0, 0, []⟩ = nd at *
      repeat' (first | refine aops_end ?_ | refine aops_pbt tok rfl (by first | omega | decide) rfl rfl rfl ?_ | refine aops_p tok rfl rfl rfl rfl ?_ | refine acode_it rfl ?_ | refine acode_seq ?_ | refine acode_region ?_)
      try any_goals (exfalso; omega)
      refine aops_ix tok (ndC nd) rfl rfl rfl rfl (by omega) (by omega) (by simp [ndC]) (nd_at hn) rfl rfl rfl ?_
      by_cases h2 : nd.sym = s
      · rw [decide_eq_true ⟨h0, h2⟩] at hF
        repeat' (first | refine aops_end ?_ | refine aops_pbt tok rfl (by first | omega | decide) rfl rfl rfl ?_ | refine aops_p tok rfl rfl rfl rfl ?_)
        try any_goals (exfalso; omega)
        refine acode_ret ?_
        repeat (refine ret_then ?_)
        exact ⟨.bool true, ⟨by rw [hF], rfl⟩, resOf_tmp rfl⟩
      · rw [decide_eq_false (fun h => h2 h.2)] at hF
        repeat' (first | refine aops_end ?_ | refine aops_pbf tok rfl (by first | omega | decide) rfl rfl rfl ?_ | refine aops_p tok rfl rfl rfl rfl ?_)
        try any_goals (exfalso; omega)
        refine acode_ret ?_
        repeat (refine ret_then ?_)
        exact ⟨.bool false, ⟨by rw [hF], rfl⟩, resOf_tmp rfl⟩
    · rw [decide_eq_false (fun h => h0 h.1)] at hF
      repeat' (first | refine aops_end ?_ | refine aops_o rfl rfl rfl ?_ | refine aops_pbf tok rfl (by first | omega | decide) rfl rfl rfl ?_ | refine aops_p tok rfl rfl rfl rfl ?_ | refine acode_it rfl ?_ | refine acode_seq ?_ | refine acode_region ?_)
      try any_goals (exfalso; omega)
      refine acode_ret ?_
      repeat (refine ret_then ?_)
      exact ⟨.bool false, ⟨by rw [hF], rfl⟩, resOf_tmp rfl⟩
  · have hF : fitB g f k s = decide (k < 0) := by unfold fitB; rw [if_neg h]
    by_cases h0 : k < 0
    · rw [decide_eq_true h0] at hF
      repeat' (first | refine aops_end ?_ | refine aops_pbt tok rfl (by first | omega | decide) rfl rfl rfl ?_ | refine aops_p tok rfl rfl rfl rfl ?_ | refine acode_if rfl ?_ | refine acode_seq ?_ | refine acode_region ?_ | refine acode_skip ?_ | refine then_n ?_)
      try any_goals (exfalso; omega)
      refine acode_ret ?_
      skip
      exact ⟨.bool true, ⟨by rw [hF], rfl⟩, resOf_tmp rfl⟩
    · rw [decide_eq_false h0] at hF
      repeat' (first | refine aops_end ?_ | refine aops_pbf tok rfl (by first | omega | decide) rfl rfl rfl ?_ | refine aops_p tok rfl rfl rfl rfl ?_ | refine acode_if rfl ?_ | refine acode_seq ?_ | refine acode_region ?_ | refine acode_skip ?_ | refine then_n ?_)
      try any_goals (exfalso; omega)
      refine acode_ret ?_
      skip
      exact ⟨.bool false, ⟨by rw [hF], rfl⟩, resOf_tmp rfl⟩
/-- Is an Alt a grammar's, of a name? -/
def ofB (g : Gr) (f : Fo) (sym : Int) (a : Al) : Bool := decide ((0 ≤ a.rule ∧ a.rule < g.rules.length) ∧ (ruleAt g a.rule).left = sym ∧ a.kids.length = (ruleAt g a.rule).right.length) && (List.range a.kids.length).all fun i => fitB g f (a.kids.getD i 0) ((ruleAt g a.rule).right.getD i 0)
set_option maxHeartbeats 8000000 in
theorem of2_calls {g : Gr} {f : Fo} {sym : Int} {a : Al} (hg : GrOk g) (hal : a.kids.length ≤ 9223372036854775807) (hk : ∀ k ∈ a.kids, k < f.nodes.length) (M : List Ob) : ACalls Try.prog 86 [grA g, foA f, .int .i64 sym, .agg (alC a)] M (fun x M' => x = .bool (ofB g f sym a) ∧ M' = M) := by
  refine acalls_of_code 65 Try.func86 rfl rfl rfl ?_
  repeat (first | refine acode_seq ?_ | refine acode_region ?_)
  refine aops_boxf rfl rfl rfl rfl rfl rfl rfl ?_
  refine aops_boxf rfl rfl rfl rfl rfl rfl rfl ?_
  refine aops_boxf rfl rfl rfl rfl rfl rfl rfl ?_
  by_cases h : 0 ≤ a.rule ∧ a.rule < g.rules.length
  rotate_left
  · have hF : ofB g f sym a = false := by unfold ofB; rw [decide_eq_false (fun h2 => h h2.1)]; rfl
    repeat' (first | refine aops_end ?_ | refine aops_o rfl rfl rfl ?_ | (refine aops_pd tok rfl rfl rfl rfl ?_ ?_ <;> intro e_) | refine aops_p tok rfl rfl rfl rfl ?_ | refine acode_it rfl ?_ | refine acode_seq ?_ | refine acode_region ?_)
    all_goals try (exfalso; omega)
    all_goals
      (refine acode_ret ?_
       repeat (refine ret_then ?_)
       exact ⟨.bool false, ⟨by rw [hF], rfl⟩, resOf_tmp rfl⟩)
  obtain ⟨h0, h1⟩ := h
  have hr : g.rules[a.rule.toNat]? = some (ruleAt g a.rule) := ruleAt_at h0 h1
  have hrm := List.mem_of_getElem? hr
  have hrr := (hg.rr _ hrm).1
  have hra := encs_at (e := ruC) (s := 3) (fun _ => rfl) hr
  have hF : ofB g f sym a = (decide ((ruleAt g a.rule).left = sym ∧ a.kids.length = (ruleAt g a.rule).right.length) && (List.range a.kids.length).all fun i => fitB g f (a.kids.getD i 0) ((ruleAt g a.rule).right.getD i 0)) := by
    unfold ofB
    congr 1
    simp [h0, h1]
  generalize ruleAt g a.rule = u at *
  repeat' (first | refine aops_end ?_ | refine aops_pbf tok rfl (by first | omega | decide) rfl rfl rfl ?_ | refine aops_p tok rfl rfl rfl rfl ?_ | refine acode_seq ?_ | refine acode_region ?_)
  try any_goals (exfalso; omega)
  refine aops_ix tok (ruC u) rfl rfl rfl rfl (by omega) (by omega) (by simp [ruC]) hra rfl rfl rfl ?_
  by_cases hl : u.left = sym
  rotate_left
  · rw [decide_eq_false (fun h => hl h.1)] at hF
    repeat' (first | refine aops_end ?_ | (refine aops_pn tok rfl rfl rfl rfl ?_ ?_ <;> intro e_) | refine aops_p tok rfl rfl rfl rfl ?_ | refine acode_it rfl ?_ | refine acode_if rfl ?_ | refine acode_seq ?_ | refine acode_region ?_ | refine acode_skip ?_ | refine then_n ?_)
    try any_goals (exfalso; omega)
    refine acode_ret ?_
    repeat (refine ret_then ?_)
    exact ⟨.bool false, ⟨by rw [hF]; rfl, rfl⟩, resOf_tmp rfl⟩
  repeat' (first | refine aops_end ?_ | (refine aops_pn tok rfl rfl rfl rfl ?_ ?_ <;> intro e_) | refine aops_p tok rfl rfl rfl rfl ?_ | refine acode_it rfl ?_ | refine acode_if rfl ?_ | refine acode_seq ?_ | refine acode_region ?_ | refine acode_skip ?_ | refine then_n ?_)
  try any_goals (exfalso; omega)
  refine aops_ix tok (ruC u) rfl rfl rfl rfl (by omega) (by omega) (by simp [ruC]) hra rfl rfl rfl ?_
  by_cases hn : a.kids.length = u.right.length
  rotate_left
  · rw [decide_eq_false (fun h => hn h.2)] at hF
    repeat' (first | refine aops_end ?_ | (refine aops_pn tok rfl rfl rfl rfl ?_ ?_ <;> intro e_) | refine aops_p tok rfl rfl rfl rfl ?_ | refine acode_it rfl ?_ | refine acode_if rfl ?_ | refine acode_seq ?_ | refine acode_region ?_ | refine acode_block ?_ | refine acode_skip ?_ | refine then_n ?_)
    try any_goals (exfalso; omega)
    refine acode_ret ?_
    repeat (refine ret_then ?_)
    exact ⟨.bool false, ⟨by rw [hF]; rfl, rfl⟩, resOf_tmp rfl⟩
  rw [decide_eq_true ⟨hl, hn⟩, Bool.true_and] at hF
  generalize hX : (fun i => fitB g f (a.kids.getD i 0) (u.right.getD i 0)) = X at hF
  repeat' (first | refine aops_end ?_ | (refine aops_pn tok rfl rfl rfl rfl ?_ ?_ <;> intro e_) | refine aops_p tok rfl rfl rfl rfl ?_ | refine acode_it rfl ?_ | refine acode_if rfl ?_ | refine acode_seq ?_ | refine acode_region ?_ | refine acode_block ?_ | refine acode_skip ?_ | refine then_n ?_)
  try any_goals (exfalso; omega)
  refine acode_loopS (ι := Nat) (fun q => [(4, .pp (grC g)), (5, .pp (foC f)), (9, .psl u.right.length (ints u.right)), (48, .psl a.kids.length (ints a.kids)), (49, .int .i64 a.kids.length), (50, .int .i64 q)]) (fun _ => M) (fun q => a.kids.length - q) (fun q => q ≤ a.kids.length ∧ (List.range q).all X = true) 0 ⟨Nat.zero_le _, rfl⟩ ⟨rfl, rfl, rfl, rfl, rfl, rfl, trivial⟩ rfl ?_
  rintro q ⟨hq, hall⟩
  repeat (first | refine aops_end ?_ | refine aops_p tok rfl rfl rfl rfl ?_ | refine acode_seq ?_ | refine acode_region ?_)
  refine acode_id rfl (fun e => ?_) (fun e => ?_)
  · have hql : q < a.kids.length := by omega
    obtain ⟨k, hkk⟩ : ∃ k, a.kids[q]? = some k := ⟨a.kids[q], List.getElem?_eq_getElem hql⟩
    obtain ⟨s, hs⟩ : ∃ s, u.right[q]? = some s := ⟨u.right[q]'(by omega), List.getElem?_eq_getElem (by omega)⟩
    have hXq : X q = fitB g f k s := by rw [← hX]; simp only; rw [List.getD_eq_getElem?_getD, hkk, List.getD_eq_getElem?_getD, hs]; rfl
    repeat (first | refine aops_p tok rfl rfl rfl rfl ?_ | refine acode_seq ?_ | refine acode_region ?_ | refine acode_block ?_ | refine acode_skip ?_ | refine then_n ?_)
    refine aops_ix tok [A.int .i64 k] rfl rfl rfl rfl (by omega) (by omega) (by simp) (ints_at (j := q) (by simpa using hkk)) rfl rfl rfl ?_
    repeat (first | refine aops_end ?_ | refine aops_p tok rfl rfl rfl rfl ?_ | refine acode_seq ?_)
    refine acode_drawT 9 mixed (by kernel_rfl) (by kernel_rfl) ?_
    repeat (refine seqT_p tok rfl rfl rfl rfl ?_)
    refine seqT_ix tok [A.int .i64 s] rfl rfl rfl rfl (by omega) (by omega) (by simp) (ints_at (j := q) (by simpa using hs)) rfl rfl rfl ?_
    repeat (refine seqT_p tok rfl rfl rfl rfl ?_)
    refine seqT_call _ Try.func103 rfl rfl rfl rfl (chfits_calls (hk k (List.mem_of_getElem? hkk)) _) rfl rfl rfl ?_
    repeat (refine seqT_p tok rfl rfl rfl rfl ?_)
    refine SeqT.done ?_
    rw [← hXq]
    cases hx : X q with
    | true =>
      repeat' (first | refine aops_end ?_ | refine aops_a tok rfl (by omega) (by omega) rfl rfl rfl ?_ | refine aops_p tok rfl rfl rfl rfl ?_ | refine acode_if rfl ?_ | refine acode_region ?_ | refine acode_skip ?_ | refine then_n ?_ | refine block_n ?_)
      exact ⟨q + 1, ⟨by omega, by rw [List.range_succ, List.all_append, hall]; simp [hx]⟩, by omega, ⟨rfl, rfl, rfl, rfl, rfl, rfl, trivial⟩, rfl⟩
    | false =>
      repeat' (first | refine aops_end ?_ | refine aops_p tok rfl rfl rfl rfl ?_ | refine acode_it rfl ?_ | refine acode_seq ?_ | refine acode_region ?_)
      refine acode_ret ?_
      repeat (first | refine ret_then ?_ | refine ret_block ?_)
      have : (List.range a.kids.length).all X = false := by
        rw [List.all_eq_false]
        exact ⟨q, List.mem_range.2 hql, by simp [hx]⟩
      exact ⟨.bool false, ⟨by rw [hF, this], rfl⟩, resOf_tmp rfl⟩
  · obtain rfl : q = a.kids.length := by omega
    refine acode_exit ?_
    repeat (first | refine exit_then ?_ | refine exit_here ?_ | refine then_n ?_)
    repeat (first | refine aops_end ?_ | refine aops_p tok rfl rfl rfl rfl ?_ | refine acode_seq ?_ | refine acode_region ?_)
    refine acode_ret ?_
    skip
    exact ⟨.bool true, ⟨by rw [hF, hall], rfl⟩, resOf_tmp rfl⟩
/-- Are all Alts of a forest a grammar's? -/
def wholeB (g : Gr) (f : Fo) : Bool := !(f.nodes.any fun n => n.alts.any fun a => !ofB g f n.sym a)
theorem whole11_calls {g : Gr} {f : Fo} {n : Nd} {a : Al} (hg : GrOk g) (hal : a.kids.length ≤ 9223372036854775807) (hk : ∀ k ∈ a.kids, k < f.nodes.length) (M : List Ob) : ACalls Try.prog 85 [.agg (alC a), .pp (grC g), .pp (foC f), .pp (ndC n)] M (fun x M' => x = .bool (!ofB g f n.sym a) ∧ M' = M) := by
  refine acalls_of_code 13 Try.func85 rfl rfl rfl ?_
  repeat (first | refine acode_seq ?_ | refine acode_region ?_)
  refine aops_boxf rfl rfl rfl rfl rfl rfl rfl ?_
  repeat (first | refine aops_end ?_ | refine aops_p tok rfl rfl rfl rfl ?_ | refine acode_seq ?_ | refine acode_region ?_)
  refine aops_callx Try.func86 rfl rfl rfl rfl (of2_calls hg hal hk _) rfl rfl rfl ?_
  repeat (first | refine aops_end ?_ | refine aops_p tok rfl rfl rfl rfl ?_)
  refine acode_ret ?_
  skip
  exact ⟨_, ⟨rfl, rfl⟩, resOf_tmp rfl⟩
theorem whole1_calls {g : Gr} {f : Fo} {n : Nd} (hg : GrOk g) (hn : n.alts.length ≤ 9223372036854775807) (ha : ∀ a ∈ n.alts, a.kids.length ≤ 9223372036854775807 ∧ ∀ k ∈ a.kids, k < f.nodes.length) (M : List Ob) : ACalls Try.prog 83 [.agg (ndC n), .pp (grC g), .pp (foC f)] M (fun x M' => x = .bool (n.alts.any fun a => !ofB g f n.sym a) ∧ M' = M) := by
  refine acalls_of_code 9 Try.func83 rfl rfl rfl ?_
  repeat (first | refine acode_seq ?_ | refine acode_region ?_)
  refine aops_boxf rfl rfl rfl rfl rfl rfl rfl ?_
  repeat (first | refine aops_end ?_ | refine aops_p tok rfl rfl rfl rfl ?_ | refine acode_seq ?_ | refine acode_region ?_)
  refine aops_callx Try.func84 rfl rfl rfl rfl (cfA_calls (fun a => !ofB g f n.sym a) Try.func85 rfl (fun a h M => whole11_calls hg (ha a h).1 (ha a h).2 M) hn _) rfl rfl rfl ?_
  repeat (first | refine aops_end ?_ | refine aops_p tok rfl rfl rfl rfl ?_)
  refine acode_ret ?_
  skip
  exact ⟨_, ⟨rfl, rfl⟩, resOf_tmp rfl⟩
theorem chwhole_calls {g : Gr} {f : Fo} (hg : GrOk g) (hf : FoOk f) (hF : FForm f) (M : List Ob) : ACalls Try.prog 49 [grA g, foA f] M (fun x M' => x = .bool (wholeB g f) ∧ M' = M) := by
  obtain ⟨hf1, hf2⟩ := id hf
  have hsm : ∀ n ∈ f.nodes, n.alts.length ≤ 9223372036854775807 ∧ ∀ a ∈ n.alts, a.kids.length ≤ 9223372036854775807 ∧ ∀ k ∈ a.kids, k < f.nodes.length := by
    intro n hn
    refine ⟨by have := (hf2 n hn).1; omega, fun a ha => ⟨by have := (hf2 n hn).2 a ha; omega, fun k hk => ?_⟩⟩
    obtain ⟨i, hi, hni⟩ := List.getElem_of_mem hn
    refine (hF.2 i hi).small ⟨a, ?_, hk⟩
    unfold altsOf
    rw [List.getElem?_eq_getElem hi, hni]
    exact ha
  refine acalls_of_code 10 Try.func49 rfl rfl rfl ?_
  repeat (first | refine acode_seq ?_ | refine acode_region ?_)
  refine aops_boxf rfl rfl rfl rfl rfl rfl rfl ?_
  refine aops_boxf rfl rfl rfl rfl rfl rfl rfl ?_
  repeat (first | refine aops_end ?_ | refine aops_p tok rfl rfl rfl rfl ?_ | refine acode_seq ?_ | refine acode_region ?_)
  refine aops_callx Try.func82 rfl rfl rfl rfl (cfN_calls (fun n => n.alts.any fun a => !ofB g f n.sym a) Try.func83 rfl (fun n h M => whole1_calls hg (hsm n h).1 (hsm n h).2 M) (by omega) _) rfl rfl rfl ?_
  repeat (first | refine aops_end ?_ | refine aops_p tok rfl rfl rfl rfl ?_)
  refine acode_ret ?_
  skip
  exact ⟨_, ⟨rfl, rfl⟩, resOf_tmp rfl⟩
end Go.Proofs.Ytbnhmioijeagiaa.Ab
/- The grammar of many rules that say the same: its forest, in plain terms. No condition. -/
set_option linter.unusedVariables false
set_option linter.unusedSimpArgs false
set_option maxRecDepth 100000
namespace Go.Proofs.Ytbnhmioijeagiaa.Ab

def ruV (d : Int) : Ru := ⟨1, [-1], d⟩
def gV (n : Nat) (ds : List Int) : Gr := ⟨2, 1, 0, ⟨0, List.replicate n 1, 0⟩ :: ds.map ruV, [], [], []⟩
def gV0 (n r : Nat) : Gr := gV n (List.replicate r 0)
def altV (i : Nat) (j : Nat) : Al := ⟨(j : Int) + 1, [-1 - (i : Int)]⟩
def rtV (n : Nat) : Nat := if n = 1 then 0 else 1
def psV (n i : Nat) : Nat := if i = 0 then (if n = 1 then 1 else 0) else i + 1
def kidV (n i : Nat) : Int := (psV n i : Nat)
def ndV (r i : Nat) : Nd := ⟨1, i, (i : Int) + 1, (List.range r).map (altV i)⟩
def nd0V (n : Nat) : Nd := ⟨0, 0, n, [⟨0, (List.range n).map (kidV n)⟩]⟩
def fV (n r : Nat) : Fo := ⟨if n = 1 then [nd0V n, ndV r 0] else ndV r 0 :: nd0V n :: (List.range (n - 1)).map fun i => ndV r (i + 1), rtV n⟩
/-! What hangs on the rules but for their weights. -/
def stR (r : Ru) : Ru := ⟨r.left, r.right, 0⟩
theorem fold_st {α : Type} {F : α → Ru → α} (hF : ∀ x r, F x (stR r) = F x r) {l m : List Ru} (h : l.map stR = m.map stR) (x : α) : l.foldl F x = m.foldl F x := by
  have e : ∀ l : List Ru, (l.map stR).foldl F x = l.foldl F x := fun l => by
    rw [List.foldl_map]
    congr 1
    funext x r; exact hF x r
  rw [← e l, ← e m, h]
theorem gV_st (n : Nat) (ds : List Int) : (gV n ds).rules.map stR = (gV0 n ds.length).rules.map stR := by
  show stR _ :: (ds.map ruV).map stR = stR _ :: ((List.replicate ds.length 0).map ruV).map stR
  congr 1
  rw [List.map_map, List.map_map, List.map_replicate]
  show ds.map (fun _ => (⟨1, [-1], 0⟩ : Ru)) = _
  rw [List.map_const']
  rfl
theorem gV_len (n : Nat) (ds : List Int) : (gV n ds).rules.length = (gV0 n ds.length).rules.length := by
  have := congrArg List.length (gV_st n ds)
  simpa using this
theorem gV_at (n : Nat) (ds : List Int) (j : Int) : (ruleAt (gV n ds) j).left = (ruleAt (gV0 n ds.length) j).left ∧ (ruleAt (gV n ds) j).right = (ruleAt (gV0 n ds.length) j).right := by
  have e : ∀ g : Gr, stR (ruleAt g j) = (g.rules.map stR).getD j.toNat ruD := fun g => by
    unfold ruleAt
    rw [List.getD_eq_getElem?_getD, List.getD_eq_getElem?_getD, List.getElem?_map]
    cases g.rules[j.toNat]? <;> rfl
  have h := (e (gV n ds)).trans ((congrArg (fun l => l.getD j.toNat ruD) (gV_st n ds)).trans (e (gV0 n ds.length)).symm)
  have h1 := congrArg Ru.left h
  have h2 := congrArg Ru.right h
  exact ⟨h1, h2⟩
theorem gV_mineS (n : Nat) (ds : List Int) : mineS (gV n ds) = mineS (gV0 n ds.length) := by
  funext ks m F lim k x j
  unfold mineS
  rw [(gV_at n ds j).1, (gV_at n ds j).2]
theorem gV_mineF (n : Nat) (ds : List Int) : mineF (gV n ds) = mineF (gV0 n ds.length) := by
  funext ks m F lim k c
  unfold mineF
  rw [gV_mineS, gV_len]
theorem gV_bldQ (n : Nat) (ds : List Int) {ks : List Int} {m : Nat} {F : List (List Bool)} {lim : Nat} : ∀ (q i : Nat) (keys : List Ky) (all : List (List Wy)) (c : Nat), bldQ (gV n ds) ks m F lim q i keys all c = bldQ (gV0 n ds.length) ks m F lim q i keys all c
  | 0, _, _, _, _ => rfl
  | q + 1, i, keys, all, c => by
    rw [bldQ, bldQ, gV_mineF]
    cases keys[i]? with
    | none => rfl
    | some k =>
      simp only
      split
      · rfl
      · exact gV_bldQ n ds q _ _ _ _
theorem gV_build (n : Nat) (ds : List Int) (ks : List Int) (lim : Nat) : buildF (gV n ds) ks lim = buildF (gV0 n ds.length) ks lim := by
  have hc : chF (gV n ds) = chF (gV0 n ds.length) := by
    funext ks N m
    unfold chF
    have : chI (gV n ds) ks m = chI (gV0 n ds.length) ks m := by
      funext F
      exact fold_st (fun x r => rfl) (gV_st n ds) _
    rw [this]
  unfold buildF
  rw [hc]
  simp only [gV_bldQ]
  rfl
theorem gV_use (n : Nat) (ds : List Int) (i : Nat) : useless (gV n ds) 2 i = useless (gV0 n ds.length) 2 i := by
  have h1 : reachF (gV n ds) 2 = reachF (gV0 n ds.length) 2 := by
    unfold reachF
    have : reachR (gV n ds) = reachR (gV0 n ds.length) := by
      funext o
      exact fold_st (F := reachS (gV n ds)) (fun x r => rfl) (gV_st n ds) _
    rw [this]; rfl
  have h2 : prodF (gV n ds) 2 = prodF (gV0 n ds.length) 2 := by
    unfold prodF shortF
    have : shortR (gV n ds) = shortR (gV0 n ds.length) := by
      funext o
      exact fold_st (fun x r => rfl) (gV_st n ds) _
    rw [this]
  unfold useless
  rw [h1, h2]
theorem gV_null (n : Nat) (ds : List Int) : ∀ (k : Nat) (o : List Bool), nullI (gV n ds) k o = nullI (gV0 n ds.length) k o
  | 0, o => by unfold nullI; rfl
  | k + 1, o => by
    have : nullR (gV n ds) o = nullR (gV0 n ds.length) o := fold_st (F := nullS (gV n ds)) (fun x r => rfl) (gV_st n ds) _
    unfold nullI
    rw [this, gV_null n ds k]
theorem gV_cyc (n : Nat) (ds : List Int) : cycF (gV n ds) 2 = cycF (gV0 n ds.length) 2 := by
  have h0 : nullF (gV n ds) 2 = nullF (gV0 n ds.length) 2 := gV_null n ds _ _
  have : edgeF (gV n ds) 2 = edgeF (gV0 n ds.length) 2 := by
    unfold edgeF
    rw [h0]
    exact fold_st (fun x r => rfl) (gV_st n ds) _
  unfold cycF
  rw [this]
theorem gV_whole (n : Nat) (ds : List Int) (f : Fo) : wholeB (gV n ds) f = wholeB (gV0 n ds.length) f := by
  have : ∀ s a, ofB (gV n ds) f s a = ofB (gV0 n ds.length) f s a := fun s a => by
    unfold ofB
    rw [(gV_at n ds a.rule).1, (gV_at n ds a.rule).2, gV_len]
    rfl
  unfold wholeB
  simp only [this]
def okV (n r : Nat) : Bool := isF (buildF (gV0 n r) (List.replicate n 0) 5000) (fV n r) && !((List.range 2).any (useless (gV0 n r) 2)) && !((cycF (gV0 n r) 2).any id) && smOk (fV n r) && wholeB (gV0 n r) (fV n r)
end Go.Proofs.Ytbnhmioijeagiaa.Ab
/- The grammar of many rules that say the same: the forests that Build makes of it, as the kernel tells them (1 to 4). No condition. -/
set_option linter.unusedVariables false
set_option maxRecDepth 100000
namespace Go.Proofs.Ytbnhmioijeagiaa.Ab
theorem okV1a : ((List.range 20).all fun r => okV 1 (r + 1)) = true := by decide +kernel
theorem okV2a : ((List.range 20).all fun r => okV 2 (r + 1)) = true := by decide +kernel
theorem okV3a : ((List.range 20).all fun r => okV 3 (r + 1)) = true := by decide +kernel
theorem okV4a : ((List.range 20).all fun r => okV 4 (r + 1)) = true := by decide +kernel
end Go.Proofs.Ytbnhmioijeagiaa.Ab
/- The grammar of many rules that say the same: the forests that Build makes of it, as the kernel tells them (5). No condition. -/
set_option linter.unusedVariables false
set_option maxRecDepth 100000
namespace Go.Proofs.Ytbnhmioijeagiaa.Ab
theorem okV5a : ((List.range 20).all fun r => okV 5 (r + 1)) = true := by decide +kernel
end Go.Proofs.Ytbnhmioijeagiaa.Ab
/- The grammar of many rules that say the same: the forests that Build makes of it, as the kernel tells them (6, few). No condition. -/
set_option linter.unusedVariables false
set_option maxRecDepth 100000
namespace Go.Proofs.Ytbnhmioijeagiaa.Ab
theorem okV6a : ((List.range 13).all fun r => okV 6 (r + 1)) = true := by decide +kernel
end Go.Proofs.Ytbnhmioijeagiaa.Ab
/- The grammar of many rules that say the same: the forests that Build makes of it, as the kernel tells them (6, many). No condition. -/
set_option linter.unusedVariables false
set_option maxRecDepth 100000
namespace Go.Proofs.Ytbnhmioijeagiaa.Ab
theorem okV6b : ((List.range 7).all fun r => okV 6 (r + 14)) = true := by decide +kernel
end Go.Proofs.Ytbnhmioijeagiaa.Ab
/- The grammar of many rules that say the same: the forests that Build makes of it. No condition. -/
set_option linter.unusedVariables false
namespace Go.Proofs.Ytbnhmioijeagiaa.Ab
theorem okV_all {n r : Nat} (h1 : 1 ≤ n) (h6 : n ≤ 6) (r1 : 1 ≤ r) (r20 : r ≤ 20) : okV n r = true := by
  have key : ∀ {n a c r : Nat}, ((List.range c).all fun r => okV n (r + a)) = true → a ≤ r → r < a + c → okV n r = true := fun {n a c r} h ha hc => by
    have := List.all_eq_true.1 h (r - a) (List.mem_range.2 (by omega))
    rwa [Nat.sub_add_cancel ha] at this
  rcases (show n = 1 ∨ n = 2 ∨ n = 3 ∨ n = 4 ∨ n = 5 ∨ n = 6 by omega) with rfl | rfl | rfl | rfl | rfl | rfl
  · exact key okV1a r1 (by omega)
  · exact key okV2a r1 (by omega)
  · exact key okV3a r1 (by omega)
  · exact key okV4a r1 (by omega)
  · exact key okV5a r1 (by omega)
  · by_cases h : r ≤ 13
    · exact key okV6a r1 (by omega)
    · exact key okV6b (by omega) (by omega)
end Go.Proofs.Ytbnhmioijeagiaa.Ab
/- Package choose in plain terms: picks, the best of a node's, the tree of a pick. No condition. -/
set_option linter.unusedVariables false
set_option linter.unusedSimpArgs false
namespace Go.Proofs.Ytbnhmioijeagiaa.Ab

/-- A pick: the best tree of an Alt (tk: none, or a token's place). -/
inductive Pk where
  | tk
  | nd (a : Al) (w : Int) (kids : List Pk)
instance : Inhabited Pk := ⟨.tk⟩
def Pk.isTk : Pk → Bool | .tk => true | _ => false
def Pk.rule : Pk → Int | .tk => -1 | .nd a _ _ => a.rule
def Pk.wt : Pk → Int | .tk => 0 | .nd _ w _ => w
mutual
def pkA : Pk → A
  | .tk => .nilp
  | .nd a w ks => .cp [.int .i64 a.rule, .psl a.kids.length (ints a.kids), .int .i64 w, .psl ks.length (pksA ks)]
def pksA : List Pk → List A
  | [] => []
  | k :: ks => pkA k :: pksA ks
end
def pk1 (p : Pk) : List A := [pkA p]
theorem pk1_len (p : Pk) : (pk1 p).length = 1 := rfl
theorem pksA_encs : ∀ ks : List Pk, pksA ks = encs pk1 ks
  | [] => rfl
  | k :: ks => by rw [pksA, pksA_encs ks]; rfl
theorem pkA_nd (a : Al) (w : Int) (ks : List Pk) : pkA (.nd a w ks) = .cp [.int .i64 a.rule, .psl a.kids.length (ints a.kids), .int .i64 w, .psl ks.length (encs pk1 ks)] := by rw [pkA, pksA_encs]
def mayP (fb : List F3) (r p : Int) (q : Int) : Bool := !decide ((r, p, q) ∈ fb)
def betP (p out : Pk) : Bool := decide (p.wt > out.wt) || (decide (p.wt = out.wt) && decide (p.rule < out.rule))
def bestS (may : Int → Bool) (out p : Pk) : Pk := if p.isTk || !may p.rule then out else if out.isTk || betP p out then p else out
def bestF (may : Int → Bool) (l : List Pk) : Pk := l.foldl (bestS may) .tk
def goP (fb : List F3) (T : Nat → List Pk) (r : Int) : Nat → List Int → Int → List Pk → Option (Int × List Pk)
  | _, [], w, ks => some (w, ks)
  | p, k :: l, w, ks => if k < 0 then goP fb T r (p + 1) l w (ks ++ [.tk]) else
    if (bestF (mayP fb r p) (T k.toNat)).isTk then none else goP fb T r (p + 1) l (w + (bestF (mayP fb r p) (T k.toNat)).wt) (ks ++ [bestF (mayP fb r p) (T k.toNat)])
def altP (g : Gr) (T : Nat → List Pk) (a : Al) : Pk := match goP g.forbid T a.rule 0 a.kids (dynF g a.rule) [] with
  | some x => .nd a x.1 x.2
  | none => .tk
def rowP (g : Gr) (f : Fo) (T : Nat → List Pk) (i : Nat) : List Pk := (altsOf f i).map (altP g T)
theorem goP_congr {fb : List F3} {T S : Nat → List Pk} {r : Int} : ∀ (l : List Int) (p : Nat) (w : Int) (ks : List Pk), (∀ k : Nat, (k : Int) ∈ l → T k = S k) → goP fb T r p l w ks = goP fb S r p l w ks
  | [], _, _, _, _ => rfl
  | k :: l, p, w, ks, h => by
    have h2 : ∀ q : Nat, (q : Int) ∈ l → T q = S q := fun q hq => h q (by simp [hq])
    simp only [goP]
    split
    · exact goP_congr l _ _ _ h2
    · rename_i h0
      rw [h k.toNat (by rw [Int.toNat_of_nonneg (by omega)]; simp)]
      split
      · rfl
      · exact goP_congr l _ _ _ h2
theorem rowP_congr {g : Gr} {f : Fo} {T S : Nat → List Pk} {i : Nat} (hk : ∀ k : Nat, Kid f i k → T k = S k) : rowP g f T i = rowP g f S i := by
  unfold rowP
  refine List.map_congr_left fun a ha => ?_
  unfold altP
  rw [goP_congr a.kids _ _ _ fun k hm => hk k ⟨a, ha, hm⟩]
theorem pkT_ex (g : Gr) (f : Fo) : ∃ T : Nat → List Pk, ∀ i, WF f i → T i = rowP g f T i := recT (rowP g f) fun _ _ _ hk => rowP_congr hk
noncomputable def pkT (g : Gr) (f : Fo) : Nat → List Pk := Classical.choose (pkT_ex g f)
theorem pkT_eq {g : Gr} {f : Fo} {i : Nat} (h : WF f i) : pkT g f i = rowP g f (pkT g f) i := Classical.choose_spec (pkT_ex g f) i h
theorem pkT_len {g : Gr} {f : Fo} {i : Nat} (h : WF f i) : (pkT g f i).length = (altsOf f i).length := by rw [pkT_eq h]; simp [rowP]
/-- Of a row of picks no two have one rule. -/
def DistR (l : List Pk) : Prop := l.Pairwise fun p q => p.isTk = true ∨ q.isTk = true ∨ p.rule ≠ q.rule
theorem best_from (may : Int → Bool) : ∀ (l : List Pk) (out : Pk), l.foldl (bestS may) out = out ∨ (l.foldl (bestS may) out ∈ l ∧ (l.foldl (bestS may) out).isTk = false ∧ may (l.foldl (bestS may) out).rule = true)
  | [], out => .inl rfl
  | p :: l, out => by
    rw [List.foldl_cons]
    have hs : bestS may out p = out ∨ bestS may out p = p ∧ p.isTk = false ∧ may p.rule = true := by
      unfold bestS
      split
      · exact .inl rfl
      · rename_i h
        simp only [Bool.or_eq_true, Bool.not_eq_true', not_or, Bool.not_eq_true, Bool.not_eq_false] at h
        split
        · exact .inr ⟨rfl, h.1, h.2⟩
        · exact .inl rfl
    rcases best_from may l (bestS may out p) with h | ⟨h1, h2, h3⟩
    · rw [h]
      rcases hs with h4 | ⟨h4, h5, h6⟩
      · exact .inl h4
      · rw [h4]; exact .inr ⟨by simp, h5, h6⟩
    · exact .inr ⟨by simp [h1], h2, h3⟩
theorem best_in {may : Int → Bool} {l : List Pk} (h : (bestF may l).isTk = false) : bestF may l ∈ l ∧ may (bestF may l).rule = true := by
  unfold bestF at *
  rcases best_from may l .tk with h1 | h1
  · rw [h1] at h; cases h
  · exact ⟨h1.1, h1.2.2⟩
theorem best_tk {may : Int → Bool} : ∀ {l : List Pk}, (bestF may l).isTk = true ↔ ∀ p ∈ l, p.isTk = true ∨ may p.rule = false := by
  have key : ∀ (l : List Pk) (out : Pk), (l.foldl (bestS may) out).isTk = true ↔ out.isTk = true ∧ ∀ p ∈ l, p.isTk = true ∨ may p.rule = false := by
    intro l
    induction l with
    | nil => intro out; simp
    | cons p l ih =>
      intro out
      rw [List.foldl_cons, ih]
      have hs : (bestS may out p).isTk = true ↔ out.isTk = true ∧ (p.isTk = true ∨ may p.rule = false) := by
        unfold bestS
        cases hp : p.isTk <;> cases hm : may p.rule <;> cases ho : out.isTk <;> simp [hp, ho]
        split <;> simp [hp, ho]
      rw [hs]
      simp only [List.mem_cons, forall_eq_or_imp, and_assoc]
  intro l
  unfold bestF
  rw [key]
  simp [Pk.isTk]
/- The tree of a pick. -/
mutual
def treeP : Pk → Tr
  | .tk => .mk (-1) 0 []
  | .nd a _ ks => .mk a.rule 0 (treesP a.kids ks)
def treesP : List Int → List Pk → List Tr
  | k :: l, .tk :: ks => leafT k :: treesP l ks
  | _ :: l, .nd a w q :: ks => treeP (.nd a w q) :: treesP l ks
  | _, _ => []
end
end Go.Proofs.Ytbnhmioijeagiaa.Ab
/- Maps that say yes to rows of numbers: held against a row. No condition. -/
set_option linter.unusedVariables false
set_option linter.unusedSimpArgs false
namespace Go.Proofs.Ytbnhmioijeagiaa.Ab
section
variable {P : Program} {T : List TI} {N : Nat} {ops : Array Oper} {rest : List Oper} {o : Oper} {Q : Exit → St → Prop} {E F : Env} {M : List Ob}
theorem run_eqInts (w : World) (d : Nat) (t e : TypeId) (n : Nat) (k : IntKind) (ht : P.underlying t = some (.array n e)) (he : P.underlying e = some (.int k)) (hsz : ∀ w, (sizeOf e).run P w = .ok 1 w) (xs ys : List Int) (hx : xs.length = n) (hy : ys.length = n) :
    (Op.equalIn (d + 2) t (.agg (xs.map (Value.int k)).toArray) (.agg (ys.map (Value.int k)).toArray)).run P w = .ok (decide (xs = ys)) w := by
  have hd : decide (xs = ys) = decide (∀ i ∈ List.range' 0 n 1, xs.getD i 0 = ys.getD i 0) := by
    congr 1
    rw [eq_iff_iff]
    constructor
    · rintro rfl i _; rfl
    · intro h
      refine List.ext_getElem (by omega) fun i h1 h2 => ?_
      have := h i (by rw [List.mem_range'_1]; omega)
      simpa [List.getD, List.getElem?_eq_getElem h1, List.getElem?_eq_getElem h2] using this
  rw [hd, Op.equalIn]
  simp only [Sem.run_bind, run_underlying ht, Result.andThen_ok, hsz, Std.Legacy.Range.forIn_eq_forIn_range', Std.Legacy.Range.size, Nat.sub_zero, Nat.add_sub_cancel, Nat.div_one]
  have hl : ∀ i ∈ List.range' 0 n 1, i < n := fun i hi => by simpa using (List.mem_range'_1.1 hi).2
  generalize List.range' 0 n 1 = l at hl ⊢
  induction l with
  | nil => simp
  | cons i l ih =>
    have hi : i < n := hl i (by simp)
    have px : ∀ zs : List Int, zs.length = n → (part e (zs.map (Value.int k)).toArray (i * 1)).run P w = .ok (Value.int k (zs.getD i 0)) w := fun zs hz => by
      simp [part, isAgg, run_underlying he, List.getD, List.getElem?_eq_getElem (show i < zs.length by omega)]
    have pe : (Op.equalIn (d + 1) e (Value.int k (xs.getD i 0)) (Value.int k (ys.getD i 0))).run P w = .ok (decide (xs.getD i 0 = ys.getD i 0)) w := by
      rw [run_equalIn_int w d e k k _ _ he]
      simp
      rfl
    simp only [List.forIn_cons, Sem.run_bind, px xs hx, px ys hy, pe, Result.andThen_ok]
    by_cases h : xs.getD i 0 = ys.getD i 0
    · simp only [h, decide_true, Bool.not_true, Bool.false_eq_true, if_false, Sem.run_pure, List.mem_cons, forall_eq_or_imp, true_and]
      exact ih fun j hj => hl j (by simp [hj])
    · have : ¬ ∀ j ∈ i :: l, xs.getD j 0 = ys.getD j 0 := fun hh => h (hh i (by simp))
      simp only [h, decide_false, Bool.not_false, if_true, Sem.run_pure, Result.andThen_ok, this]
theorem run_checkInts (w : World) (em : Bool) (m : Nat) (t e : TypeId) (n : Nat) (k : IntKind) (ht : P.underlying t = some (.array n e)) (he : P.underlying e = some (.int k)) (hsz : ∀ w, (sizeOf e).run P w = .ok 1 w) (xs : List Int) (hx : xs.length = n) :
    (Instr.checkKey em (m + 2) t (.agg (xs.map (Value.int k)).toArray)).run P w = .ok () w := by
  rw [Instr.checkKey]
  simp only [Sem.run_bind, run_underlying ht, Result.andThen_ok, hsz, Std.Legacy.Range.forIn_eq_forIn_range', Std.Legacy.Range.size, Nat.sub_zero, Nat.add_sub_cancel, Nat.div_one]
  have hl : ∀ i ∈ List.range' 0 n 1, i < n := fun i hi => by simpa using (List.mem_range'_1.1 hi).2
  generalize List.range' 0 n 1 = l at hl ⊢
  induction l with
  | nil => simp
  | cons i l ih =>
    have hi : i < n := hl i (by simp)
    have px : (part e (xs.map (Value.int k)).toArray (i * 1)).run P w = .ok (Value.int k (xs.getD i 0)) w := by
      simp [part, isAgg, run_underlying he, List.getD, List.getElem?_eq_getElem (show i < xs.length by omega)]
    have pc : (Instr.checkKey em (m + 1) e (Value.int k (xs.getD i 0))).run P w = .ok () w := by
      simp [Instr.checkKey, run_underlying he]
    simp only [List.forIn_cons, Sem.run_bind, hsz, px, pc, Result.andThen_ok, Sem.run_pure] at ih ⊢
    exact ih fun j hj => hl j (by simp [hj])

theorem keyView_keyV (k : List Int) : keyView (keyV k) = some k := by
  simp only [keyView, keyV]
  induction k with
  | nil => rfl
  | cons x k ih =>
    simp only [List.map_cons, List.mapM_cons, intView]
    rw [ih]; rfl
theorem keyView_inv {v : Value} {k : List Int} (h : keyView v = some k) : v = keyV k := by
  cases v with
  | agg cs =>
    simp only [keyView] at h
    have : ∀ (l : List Value) (k : List Int), l.mapM intView = some k → l = k.map (Value.int .i64) := by
      intro l
      induction l with
      | nil => intro k hk; simp at hk; subst hk; rfl
      | cons v l ih =>
        intro k hk
        simp only [List.mapM_cons] at hk
        cases hv : intView v with
        | none => simp [hv] at hk
        | some x =>
          cases hl : l.mapM intView with
          | none => simp [hv, hl] at hk
          | some ks =>
            simp [hv, hl] at hk
            subst hk
            have : v = .int .i64 x := by
              unfold intView at hv
              split at hv
              · simp at hv; subst hv; rfl
              · cases hv
            rw [this, ih ks hl]; rfl
    have := this _ _ h
    unfold keyV
    rw [← this]
  | _ => simp [keyView] at h
structure KeyT (P : Program) (kt : Nat) (n : Nat) : Prop where
  e : ∃ e, P.underlying kt = some (.array n e) ∧ P.underlying e = some (.int .i64) ∧ ∀ w, (sizeOf e).run P w = .ok 1 w
theorem run_askInts (w : World) {kt n : Nat} (hk : KeyT P kt n) (k : List Int) (hl : k.length = n) : ∀ (es : List MapEntry) (ks : List (List Int)) (i : Nat), mapView es = some ks → (∀ x ∈ ks, x.length = n) →
    (k ∈ ks ∧ ∃ j e, (Instr.findAsking kt (keyV k) es i).run P w = .ok (some (i + j, .bool true)) w ∧ es[j]? = some e ∧ e.key = keyV k) ∨ (k ∉ ks ∧ (Instr.findAsking kt (keyV k) es i).run P w = .ok none w)
  | [], ks, i, h, _ => by
    simp only [mapView, Option.some.injEq] at h
    subst h
    exact .inr ⟨by simp, by simp [Instr.findAsking]⟩
  | e :: es, ks, i, h, hn => by
    obtain ⟨et, h1, h2, h3⟩ := hk.e
    simp only [mapView] at h
    split at h
    · rename_i k1 hv hb
      cases hm : mapView es with
      | none => simp [hm] at h
      | some ks' =>
        simp only [hm, Option.map_some, Option.some.injEq] at h
        subst h
        have ek := keyView_inv hv
        have eq : (Op.equal kt (keyV k) e.key).run P w = .ok (decide (k = k1)) w := by
          rw [ek]
          exact run_eqInts w 9998 kt et n .i64 h1 h2 h3 k k1 hl (hn k1 (by simp))
        by_cases hkk : k = k1
        · refine .inl ⟨by simp [hkk], 0, e, ?_, rfl, by rw [ek, hkk]⟩
          subst hkk
          simp [Instr.findAsking, eq, hb]
        · rcases run_askInts w hk k hl es ks' (i + 1) hm (fun x hx => hn x (by simp [hx])) with ⟨a1, j, e', a2, a3, a4⟩ | ⟨a1, a2⟩
          · exact .inl ⟨by simp [a1], j + 1, e', by simp [Instr.findAsking, eq, hkk, a2, Nat.add_assoc, Nat.add_comm 1 j], by simpa using a3, a4⟩
          · exact .inr ⟨by simp [hkk, a1], by simp [Instr.findAsking, eq, hkk, a2]⟩
    · cases h
theorem und_map {t k e : Nat} {i : TI} (h : TG P t i) (hk : i.k = .map k e) : P.underlying t = some (.map k e) := by
  obtain ⟨d, h1, h2⟩ := h.und
  rw [hk] at h2
  cases d <;> simp [tkOf] at h2
  rw [h1, h2.1, h2.2]
/-- What the table says of a map's type: from rows of n numbers to truth values. -/
def mapT (T : List TI) (t n : Nat) : Bool := match kindOf T t with
  | some (.map k e) => (match kindOf T k with
    | some (.array m x) => Nat.beq m n && (match known T x with | some ⟨.int .i64, 1, _, _⟩ => true | _ => false)
    | _ => false) && (match known T e with | some ⟨.bool, _, _, [.bool false]⟩ => true | _ => false)
  | _ => false
theorem mapT_spec (hT : TOk P T) {t n : Nat} (h : mapT T t n = true) : ∃ k e, P.underlying t = some (.map k e) ∧ KeyT P k n ∧ (∀ w, (zeroValue e).run P w = .ok (.bool false) w) ∧ ∃ x, P.underlying k = some (.array n x) := by
  unfold mapT at h
  split at h
  · rename_i k e hk
    rw [Bool.and_eq_true] at h
    obtain ⟨ha, hb⟩ := h
    split at ha
    · rename_i m x hkm
      rw [Bool.and_eq_true] at ha
      obtain ⟨h1, h2⟩ := ha
      obtain rfl := Nat.eq_of_beq_eq_true h1
      split at h2
      · rename_i bb zz hx
        split at hb
        · rename_i s1 b1 he
          obtain ⟨ti, hti, hkk⟩ := Option.map_eq_some_iff.1 hk
          obtain ⟨k1, k2⟩ := known_spec hti
          obtain ⟨tj, htj, hkj⟩ := Option.map_eq_some_iff.1 hkm
          obtain ⟨k3, k4⟩ := known_spec htj
          obtain ⟨k5, k6⟩ := known_spec hx
          obtain ⟨k7, k8⟩ := known_spec he
          have hu := und_map (hT.get k1 k2) hkk
          have ha : P.underlying k = some (.array m x) := by
            obtain ⟨d, d1, d2⟩ := (hT.get k3 k4).und
            rw [hkj] at d2
            cases d <;> simp [tkOf] at d2
            rw [d1, d2.1, d2.2]
          refine ⟨k, e, hu, ⟨x, ha, und_int (hT.get k5 k6) rfl, fun w => run_size (hT.get k5 k6)⟩, fun w => ?_, x, ha⟩
          obtain ⟨info, z, i1, i2, i3, i4, i5, i6, i7⟩ := (hT.get k7 k8).info
          obtain ⟨v, v1, v2⟩ := i7 rfl
          simp at v1
          subst v1; subst v2
          obtain ⟨z', z1, z2⟩ := run_zero (P := P) (w := w) (hT.get k7 k8)
          have : (zeroValue e).run P w = .ok (.bool false) w := by
            simp [zeroValue, run_info i1, i4]
          exact this
        · cases hb
      · cases h2
    · cases ha
  · cases h
theorem ints_value {G : Gh} : ∀ {l : List Int} {vs : List Value}, RepL G (ints l) vs → vs = l.map (Value.int .i64)
  | [], _, h => h
  | x :: l, _, h => by
    obtain ⟨v, vs', rfl, h1, h2⟩ := h
    simp only [Rep] at h1
    rw [h1, ints_value h2]; rfl
theorem look_run (hT : TOk P T) {t n : Nat} (ht : mapT T t n = true) {w : World} {b : Nat} {es : Array MapEntry} {c : Nat} (hb : w.heap[b]? = some (.map es c)) {ks : List (List Int)} (hv : mapView es.toList = some ks) (hn : ∀ x ∈ ks, x.length = n) (k : List Int) (hk : k.length = n) :
    (Instr.lookup t (.map (some b)) (keyV k) false).run P w = .ok (.bool (decide (k ∈ ks))) w := by
  obtain ⟨kt, et, h1, h2, h3, x, h4⟩ := mapT_spec hT ht
  obtain ⟨e, h5, h6, h7⟩ := id h2.e
  have hc := run_checkInts (P := P) w es.isEmpty 9998 kt e n .i64 h5 h6 h7 k hk
  have hf := run_findKey_eq (P := P) w (k := kt) (by rw [h4]) (keyV k) es.toList
  unfold Instr.lookup
  rcases run_askInts w h2 k hk es.toList ks 0 hv hn with ⟨a1, j, e', a2, a3, a4⟩ | ⟨a1, a2⟩
  · simp only [Sem.run_bind, run_underlying h1, Result.andThen_ok, MapKept.run_getObj_map hb, Sem.run_pure]
    rw [show (Instr.checkKey es.isEmpty 10000 kt (keyV k)).run P w = .ok () w from hc]
    simp only [Result.andThen_ok, hf, a2, Sem.run_pure, a1, decide_true]
    rfl
  · simp only [Sem.run_bind, run_underlying h1, Result.andThen_ok, MapKept.run_getObj_map hb, Sem.run_pure]
    rw [show (Instr.checkKey es.isEmpty 10000 kt (keyV k)).run P w = .ok () w from hc]
    simp only [Result.andThen_ok, hf, a2, Sem.run_pure, Sem.run_bind, h3, a1, decide_false]
    rfl
/-- A row of numbers held against a frozen map. -/
theorem aops_look (hT : TOk P T) {t n d : Nat} {x ix : Operand} {ks : List (List Int)} {k : List Int} (ho : o.op = .lookup t x ix false) (ht : mapT T t n = true) (hx : opA E x = .mp ks) (hix : opA E ix = .agg (ints k)) (hn : ∀ x ∈ ks, x.length = n) (hk : k.length = n)
    (hg : guardOn ops o E = some true) (hd : o.dst = some d) (hN : Nat.blt d N = true) (next : AOps P N ops rest Q ⟨(d, .bool (decide (k ∈ ks))) :: E, M⟩) : AOps P N ops (o :: rest) Q ⟨E, M⟩ := by
  refine aops_val hg (by rw [hd]; exact hN) (.bool (decide (k ∈ ks))) M (fun K G av w hi => ?_) (by rw [hd]; exact next)
  have hrx := opA_rep hi x
  have hry := opA_rep hi ix
  rw [hx] at hrx; rw [hix] at hry
  obtain ⟨b, ex, hy⟩ := hrx
  obtain ⟨vs, ey, hl⟩ := hry
  have e2 := ints_value hl
  subst e2
  obtain ⟨es, c, m1, m2⟩ := (hi.ok.mz b ks hy).1
  refine ⟨_, w, G, ?_, hi.ok, G.le_refl, rfl⟩
  have := look_run hT ht m1 m2 hn k hk
  simp only [execOp, ho, ex, ey, Sem.run_bind, show (Value.agg (List.map (Value.int IntKind.i64) k).toArray) = keyV k from rfl, this, Result.andThen_ok]
  rfl
theorem yields_look (hT : TOk P T) {t n : Nat} {x ix : Operand} {ks : List (List Int)} {k : List Int} (ho : o.op = .lookup t x ix false) (ht : mapT T t n = true) (hx : opA F x = .mp ks) (hix : opA F ix = .agg (ints k)) (hn : ∀ x ∈ ks, x.length = n) (hk : k.length = n)
    (hg : guardOn ops o F = some true) (hd : dstOk N o.dst = true) : Yields P N ops o (.bool (decide (k ∈ ks))) F M := by
  intro E hE rest Q next
  have hox : ∀ y ∈ o.op.operands, opA E y = opA F y := fun y hy => agree_op hE hy
  rw [ho] at hox
  have hx' : opA E x = .mp ks := by rw [hox x (by simp [Op.operands]), hx]
  have hix' : opA E ix = .agg (ints k) := by rw [hox ix (by simp [Op.operands]), hix]
  refine aops_val (by rw [agree_guard hE]; exact hg) hd (.bool (decide (k ∈ ks))) M (fun K G av w hi => ?_) next
  have hrx := opA_rep hi x
  have hry := opA_rep hi ix
  rw [hx'] at hrx; rw [hix'] at hry
  obtain ⟨b, ex, hy⟩ := hrx
  obtain ⟨vs, ey, hl⟩ := hry
  have e2 := ints_value hl
  subst e2
  obtain ⟨es, c, m1, m2⟩ := (hi.ok.mz b ks hy).1
  refine ⟨_, w, G, ?_, hi.ok, G.le_refl, rfl⟩
  have := look_run hT ht m1 m2 hn k hk
  simp only [execOp, ho, ex, ey, Sem.run_bind, show (Value.agg (List.map (Value.int IntKind.i64) k).toArray) = keyV k from rfl, this, Result.andThen_ok]
  rfl
end
end Go.Proofs.Ytbnhmioijeagiaa.Ab
/- A new map while it is filled: the walk beside it, and its freezing. No condition. -/
set_option linter.unusedVariables false
set_option linter.unusedSimpArgs false
namespace Go.Proofs.Ytbnhmioijeagiaa.Ab
/-- The invariant, and one new map of one's own besides. -/
structure InvM (K : Ctx) (N : Nat) (G : Gh) (st : St) (a : Act) (w : World) (b : Nat) (es : Array MapEntry) (c : Nat) : Prop where
  i : Inv K N G st a w
  m : w.heap[b]? = some (.map es c)
  nw : K.w0.heap.size ≤ b
  y : G.Y b = none
abbrev Pst := Ctx → Exit → Act → World → Prop
def GCode (P : Program) (N : Nat) (c : Code) (R : Pst) (st : St) : Prop := ∀ K G a w, Inv K N G st a w → c.wp P (R K) a w
def GOps (P : Program) (N : Nat) (ops : Array Oper) (l : List Oper) (R : Pst) (st : St) : Prop := ∀ K G a w, Inv K N G st a w → wpList P ops (R K) l a w
def HCode (P : Program) (N : Nat) (c : Code) (R : Pst) (b : Nat) (es : Array MapEntry) (cl : Nat) (st : St) : Prop := ∀ K G a w, InvM K N G st a w b es cl → c.wp P (R K) a w
def HOps (P : Program) (N : Nat) (ops : Array Oper) (l : List Oper) (R : Pst) (b : Nat) (es : Array MapEntry) (cl : Nat) (st : St) : Prop := ∀ K G a w, InvM K N G st a w b es cl → wpList P ops (R K) l a w
section
variable {P : Program} {T : List TI} {N : Nat} {ops : Array Oper} {rest : List Oper} {o : Oper} {Q : Exit → St → Prop} {R : Pst} {E F : Env} {M : List Ob} {st st' : St} {b : Nat} {es : Array MapEntry} {cl : Nat} {x y : Code}
def toR (N : Nat) (Q : Exit → St → Prop) : Pst := fun K => lift K N Q
def thenR (P : Program) (y : Code) (R : Pst) : Pst := fun K => Exit.then (y.wp P (R K)) (R K)
def blockR (id : Nat) (R : Pst) : Pst := fun K => Exit.inBlock id (R K)
theorem acode_of_g (h : GCode P N x (toR N Q) st) : ACode P N x Q st := h
theorem gcode_of_a (h : ACode P N x Q st) : GCode P N x (toR N Q) st := h
theorem aops_of_g {l : List Oper} (h : GOps P N ops l (toR N Q) st) : AOps P N ops l Q st := h
theorem gops_of_a {l : List Oper} (h : AOps P N ops l Q st) : GOps P N ops l (toR N Q) st := h
theorem gcode_seq (h : GCode P N x (thenR P y R) st) : GCode P N (.seq x y) R st := fun K G a w hi => wp_seq (h K G a w hi)
theorem hcode_seq (h : HCode P N x (thenR P y R) b es cl st) : HCode P N (.seq x y) R b es cl st := fun K G a w hi => wp_seq (h K G a w hi)
theorem hcode_block {id : Nat} (h : HCode P N x (blockR id R) b es cl st) : HCode P N (.block id x) R b es cl st := fun K G a w hi => wp_block (h K G a w hi)
theorem gcode_region {id : Nat} {l : List Oper} (h : GOps P N l.toArray l R st) : GCode P N (.region id l.toArray false) R st := fun K G a w hi => wp_region_lit (h K G a w hi)
theorem hcode_region {id : Nat} {l : List Oper} (h : HOps P N l.toArray l R b es cl st) : HCode P N (.region id l.toArray false) R b es cl st := fun K G a w hi => wp_region_lit (h K G a w hi)
theorem gops_end (h : GCode P N y R st) : GOps P N ops [] (thenR P y R) st := fun K G a w hi => wpList_nil (h K G a w hi)
theorem hops_end (h : HCode P N y R b es cl st) : HOps P N ops [] (thenR P y R) b es cl st := fun K G a w hi => wpList_nil (h K G a w hi)
theorem hcode_skip (h : HCode P N y R b es cl st) : HCode P N .skip (thenR P y R) b es cl st := fun K G a w hi => wp_skip (h K G a w hi)
/-- A part that is walked as ever. -/
theorem gcode_a (h : ACode P N x (fun e s => e = .normal ∧ GCode P N y R s) st) : GCode P N x (thenR P y R) st := fun K G a w hi => by
  refine wp_mono (h K G a w hi) ?_
  rintro e a' w' ⟨G', s, ⟨rfl, next⟩, i⟩
  exact next K G' a' w' i
/-- What another walk leaves, beside the map. -/
theorem InvM.back {K : Ctx} {G G' : Gh} {a a' : Act} {w w' : World} (h : InvM K N G st a w b es cl) (h' : Inv ⟨w, keys st.M, G⟩ N G' st' a' w') : InvM K N G' st' a' w' b es cl := by
  have hlt : b < w.heap.size := (Array.getElem?_eq_some_iff.1 h.m).1
  have hn : b ∉ keys st.M := fun hm => by
    obtain ⟨o, ho, hob⟩ := List.mem_filterMap.1 hm
    obtain ⟨us, sp, t, a1, _⟩ := h.i.ok.ow o ho b hob
    rw [h.m] at a1; cases a1
  refine ⟨⟨h.i.ok.back h'.ok, h'.sz, h'.df, h'.ev⟩, by rw [h'.ok.fr b hlt hn]; exact h.m, h.nw, ?_⟩
  cases hy : G'.Y b with
  | none => rfl
  | some ks =>
    have := (h'.ok.mz b ks hy).2 hlt
    rw [h.y] at this; cases this
theorem InvM.enter {K : Ctx} {G : Gh} {a : Act} {w : World} (h : InvM K N G st a w b es cl) : Inv ⟨w, keys st.M, G⟩ N G st a w := ⟨h.i.ok.enter, h.i.sz, h.i.df, h.i.ev⟩
theorem hcode_a (h : ACode P N x (fun e s => e = .normal ∧ HCode P N y R b es cl s) st) : HCode P N x (thenR P y R) b es cl st := fun K G a w hi => by
  refine wp_mono (h _ G a w hi.enter) ?_
  rintro e a' w' ⟨G', s, ⟨rfl, next⟩, i⟩
  exact next K G' a' w' (hi.back i)
theorem wpList_cons_of {Q1 Q2 : Exit → Act → World → Prop} {l : List Oper} {a : Act} {w : World} (h : wpList P ops Q1 [o] a w) (h1 : ∀ a w, Q1 .normal a w → wpList P ops Q2 l a w) (h2 : ∀ e a w, Q1 e a w → e = .normal) : wpList P ops Q2 (o :: l) a w := by
  have hlo : LetsOut Q1 → LetsOut Q2 := fun ⟨a0, w0, h0⟩ => by have := h2 _ _ _ h0; cases this
  simp only [wpList] at h ⊢
  split at h
  · rename_i hw
    rw [if_pos hw]
    rcases h with h | ⟨h3, h4⟩
    · refine .inl ?_
      unfold Oper.wp at h ⊢
      generalize (execOp a.eval o).run P w = r at h ⊢
      cases r with
      | ok n w' =>
        cases n <;> simp only [Oper.upon] at h ⊢ <;> first
          | exact h1 _ _ h
          | exact h
          | (refine Calls.mono h (fun e w'' he => ?_)
             cases e with
             | returned v => exact h1 _ _ he
             | panicked ch => have := h2 _ _ _ he; cases this
             | outgrown => exact hlo he)
          | exact Rows.mono h (fun _ _ he => h1 _ _ he)
      | halt e w' =>
        cases e <;> simp only [Oper.upon] at h ⊢
        have := h2 _ _ _ h; cases this
    · exact .inr ⟨h3, hlo h4⟩
  · rename_i hw
    rw [if_neg hw]
    exact h1 _ _ h
theorem gops_a {l : List Oper} (h : AOps P N ops [o] (fun e s => e = .normal ∧ GOps P N ops l R s) st) : GOps P N ops (o :: l) R st := fun K G a w hi =>
  wpList_cons_of (h K G a w hi) (by rintro a' w' ⟨G', s, ⟨_, next⟩, i⟩; exact next K G' a' w' i) (by rintro e a' w' ⟨G', s, ⟨rfl, _⟩, i⟩; rfl)
theorem hops_a {l : List Oper} (h : AOps P N ops [o] (fun e s => e = .normal ∧ HOps P N ops l R b es cl s) st) : HOps P N ops (o :: l) R b es cl st := fun K G a w hi =>
  wpList_cons_of (h _ G a w hi.enter) (by rintro a' w' ⟨G', s, ⟨_, next⟩, i⟩; exact next K G' a' w' (hi.back i)) (by rintro e a' w' ⟨G', s, ⟨rfl, _⟩, i⟩; rfl)
theorem hcode_cond {t : Tmp} {p : Prop} [Decidable p] (hb : get st.E t = .bool (decide p)) (h1 : p → HCode P N x R b es cl st) (h0 : ¬ p → HCode P N y R b es cl st) : HCode P N (.cond (.tmp t) x y) R b es cl st := fun K G a w hi => by
  have he := hi.i.ev t
  rw [hb] at he
  simp only [Rep] at he
  exact wp_cond_split (t := decide p) he (fun hb => h1 (of_decide_eq_true hb) K G a w hi) (fun hb => h0 (of_decide_eq_false hb) K G a w hi)
theorem hcode_exit {id : Nat} (h : ∀ K G a w, InvM K N G st a w b es cl → R K (.exit id) a w) : HCode P N (.exit id) R b es cl st := fun K G a w hi => wp_exit (h K G a w hi)
theorem hcode_loop {ι : Type} {c : Code} (S : ι → Env) (L : ι → List Ob) (X : ι → Array MapEntry × Nat) (m : ι → Nat) (I : ι → Prop) (i0 : ι) (h0 : I i0) (hE : subE (S i0) E) (hM : M = L i0) (hX : X i0 = (es, cl))
    (round : ∀ i, I i → HCode P N c (fun K => Exit.then (fun a w => ∃ j G E', I j ∧ m j < m i ∧ subE (S j) E' ∧ InvM K N G ⟨E', L j⟩ a w b (X j).1 (X j).2) (R K)) b (X i).1 (X i).2 ⟨S i, L i⟩) : HCode P N (.loop c) R b es cl ⟨E, M⟩ := by
  subst hM
  intro K G a w hi
  have hsub : ∀ {G : Gh} {a : Act} {w : World} {E E' : Env} {M : List Ob} {es cl}, subE E' E → InvM K N G ⟨E, M⟩ a w b es cl → InvM K N G ⟨E', M⟩ a w b es cl := fun h hi => ⟨inv_sub h hi.i, hi.m, hi.nw, hi.y⟩
  refine wp_loop_ghost (fun n a w => ∃ i G, I i ∧ m i = n ∧ InvM K N G ⟨S i, L i⟩ a w b (X i).1 (X i).2) (m i0) ⟨i0, G, h0, rfl, by rw [hX]; exact hsub hE hi⟩ ?_
  rintro n a w ⟨i, G, hI, rfl, hi⟩
  refine wp_mono (round i hI K G a w hi) ?_
  intro e a' w' h
  cases e with
  | normal =>
    obtain ⟨j, G', E', hj, hm, hs, hi'⟩ := h
    exact ⟨m j, hm, j, G', hj, rfl, hsub hs hi'⟩
  | _ => exact h
/-- A new map. -/
theorem gops_make {t d : Nat} (ho : o.op = .makeMap t none) (hg : guardOn ops o E = some true) (hd : o.dst = some d) (hN : Nat.blt d N = true)
    (next : ∀ b, HOps P N ops rest R b #[] 0 ⟨(d, .mr b) :: E, M⟩) : GOps P N ops (o :: rest) R ⟨E, M⟩ := by
  intro K G a w hi
  have hok : Ok K G M (w.alloc (.map #[] 0)) := by
    have k := hi.ok
    have ha : ∀ j, j < w.heap.size → (w.alloc (.map #[] 0)).heap[j]? = w.heap[j]? := (MapKept.heap_alloc w _).2
    refine ⟨k.g, k.os, k.tape, k.output, Nat.le_trans k.size (by simp), fun j h1 h2 => ?_, fun j hz => ?_, fun o ho j hj => ?_, k.vn, k.un, k.kb, k.nd, fun j ks e => ?_, fun j hu => ?_, fun j t' e => ?_⟩
    · rw [ha j (Nat.lt_of_lt_of_le h1 k.size)]; exact k.fr j h1 h2
    · rw [ha j (k.zlt hz)]; exact k.fz j hz
    · rw [ha j (k.lt ho hj)]; exact k.ow o ho j hj
    · rw [ha j (k.ylt e)]; exact k.mz j ks e
    · rw [ha j (k.zlt (k.um j hu).1)]; exact k.um j hu
    · rw [ha j (k.wlt e)]; exact k.wt j t' e
  have hy : G.Y w.heap.size = none := by
    cases hy : G.Y w.heap.size with
    | none => rfl
    | some ks => exact absurd (hi.ok.ylt hy) (Nat.lt_irrefl _)
  have hrun : (execOp a.eval o).run P w = .ok (.value (.map (some w.heap.size))) (w.alloc (.map #[] 0)) := by
    simp [execOp, ho, Instr.makeMap]
  refine wpList_step fun Kn hK => ?_
  have hw : Region.wanted o (yielded ops a.tmps) = true := guard_spec hi hg
  rw [if_pos hw]
  unfold Oper.wp
  rw [hrun]
  simp only [Oper.upon]
  refine hK _ _ (next w.heap.size K G _ _ ⟨?_, (MapKept.heap_alloc w _).1, hi.ok.size, hy⟩)
  have := hi.put (G.le_refl) hok (d := o.dst) (by rw [hd]; exact hN) (x := .mr w.heap.size) (v := .map (some w.heap.size)) rfl
  rw [hd] at this ⊢
  exact this
theorem mapView_push {es : Array MapEntry} {ks : List (List Int)} {k : List Int} {c : Nat} (h : mapView es.toList = some ks) : mapView (es.push ⟨keyV k, .bool true, c⟩).toList = some (ks ++ [k]) := by
  rw [Array.toList_push]
  generalize es.toList = l at h ⊢
  induction l generalizing ks with
  | nil => simp [mapView] at h; subst h; simp [mapView, keyView_keyV]
  | cons e l ih =>
    simp only [mapView, List.cons_append] at h ⊢
    split at h
    · rename_i k1 h1 h2
      cases hm : mapView l with
      | none => simp [hm] at h
      | some ks' =>
        simp only [hm, Option.map_some, Option.some.injEq] at h
        subst h
        simp [ih hm]
    · cases h
theorem mapView_set {k : List Int} : ∀ {l : List MapEntry} {ks : List (List Int)} {j : Nat} {e : MapEntry}, mapView l = some ks → l[j]? = some e → e.key = keyV k → mapView (l.modify j fun e => { e with key := keyV k, val := .bool true }) = some ks
  | [], ks, j, e, h, hj, _ => by simp at hj
  | e0 :: l, ks, j, e, h, hj, he => by
    simp only [mapView] at h
    split at h
    · rename_i k1 h1 h2
      cases hm : mapView l with
      | none => simp [hm] at h
      | some ks' =>
        simp only [hm, Option.map_some, Option.some.injEq] at h
        subst h
        cases j with
        | zero =>
          simp at hj; subst hj
          have : k1 = k := by rw [he, keyView_keyV] at h1; exact (Option.some.inj h1).symm
          simp [mapView, keyView_keyV, hm, this]
        | succ j =>
          simp at hj
          have := mapView_set hm hj he
          simp [mapView, h1, h2, this]
    · cases h
theorem setObj_facts {w : World} {b : Nat} {o o' : Obj} (hb : w.heap[b]? = some o) : ({ w with heap := w.heap.setIfInBounds b o' } : World).heap[b]? = some o' ∧ ∀ k, k ≠ b → ({ w with heap := w.heap.setIfInBounds b o' } : World).heap[k]? = w.heap[k]? := MapKept.heap_set hb
theorem InvM.setm {K : Ctx} {G : Gh} {a : Act} {w : World} (h : InvM K N G st a w b es cl) (es' : Array MapEntry) (cl' : Nat) : InvM K N G st a { w with heap := w.heap.setIfInBounds b (.map es' cl') } b es' cl' := by
  obtain ⟨h1, h2⟩ := setObj_facts (o' := .map es' cl') h.m
  have k := h.i.ok
  have nb : ∀ o ∈ st.M, o.b ≠ some b := fun o ho hob => by
    obtain ⟨us, sp, t, a1, _⟩ := k.ow o ho b hob
    rw [h.m] at a1; cases a1
  refine ⟨⟨⟨k.g, k.os, k.tape, k.output, by simpa using k.size, fun j h3 h4 => ?_, fun j hz => ?_, fun o ho j hj => ?_, k.vn, k.un, k.kb, k.nd, fun j ks e => ?_, fun j hu => ?_, fun j t e => ?_⟩, h.i.sz, h.i.df, h.i.ev⟩, h1, h.nw, h.y⟩
  · rw [h2 j (by have := h.nw; omega)]; exact k.fr j h3 h4
  · rw [h2 j (by rintro rfl; obtain ⟨c, t, f, a1, _⟩ := k.fz j hz; rw [h.m] at a1; cases a1)]; exact k.fz j hz
  · rw [h2 j (by rintro rfl; exact nb o ho hj)]; exact k.ow o ho j hj
  · rw [h2 j (by rintro rfl; rw [h.y] at e; cases e)]; exact k.mz j ks e
  · rw [h2 j (by rintro rfl; obtain ⟨_, c, t, a1⟩ := k.um j hu; rw [h.m] at a1; cases a1)]; exact k.um j hu
  · rw [h2 j (by rintro rfl; obtain ⟨c, f, a1⟩ := k.wt j t e; rw [h.m] at a1; cases a1)]; exact k.wt j t e
theorem sameBits_ints (n : Nat) (k : List Int) : Instr.sameBits (n + 2) (keyV k) (keyV k) = true := by
  simp only [keyV, Instr.sameBits, Bool.and_eq_true, beq_self_eq_true, true_and, List.all_eq_true, List.toList_toArray]
  rintro ⟨u, v⟩ h
  have : u = v ∧ ∃ z, u = Value.int .i64 z := by
    obtain ⟨i, hi⟩ := List.getElem?_of_mem h
    rw [List.getElem?_zip_eq_some] at hi
    obtain ⟨h1, h2⟩ := hi
    rw [h1] at h2
    obtain ⟨z, hz, rfl⟩ := List.mem_map.1 (List.mem_of_getElem? h1)
    exact ⟨Option.some.inj h2, z, rfl⟩
  obtain ⟨rfl, z, rfl⟩ := this
  simp [Instr.sameBits]
/-- A row of numbers is said yes to. -/
theorem hops_upd (hT : TOk P T) {t n : Nat} {xm xk xv : Operand} {ks : List (List Int)} {k : List Int} (ho : o.op = .mapUpdate t xm xk xv) (ht : mapT T t n = true) (hm : opA E xm = .mr b) (hk : opA E xk = .agg (ints k)) (hv : opA E xv = .bool true)
    (hes : mapView es.toList = some ks) (hn : ∀ x ∈ ks, x.length = n) (hkn : k.length = n) (hg : guardOn ops o E = some true) (hd : o.dst = none)
    (next : ∀ es' cl', mapView es'.toList = some (if k ∈ ks then ks else ks ++ [k]) → HOps P N ops rest R b es' cl' ⟨E, M⟩) : HOps P N ops (o :: rest) R b es cl ⟨E, M⟩ := by
  intro K G a w hi
  have r1 := opA_rep hi.i xm
  have r2 := opA_rep hi.i xk
  have r3 := opA_rep hi.i xv
  rw [hm] at r1; rw [hk] at r2; rw [hv] at r3
  simp only [Rep] at r1 r3
  obtain ⟨vs, e2, hl⟩ := r2
  have e3 := ints_value hl
  subst e3
  obtain ⟨kt, et, h1, h2, h3, x, h4⟩ := mapT_spec hT ht
  obtain ⟨e, h5, h6, h7⟩ := id h2.e
  have hc := run_checkInts (P := P) w false 9998 kt e n .i64 h5 h6 h7 k hkn
  have hf := run_findKey_eq (P := P) w (k := kt) (by rw [h4]) (keyV k) es.toList
  have done : ∀ es' cl', (Instr.mapUpdate t (.map (some b)) (keyV k) (.bool true)).run P w = .ok () { w with heap := w.heap.setIfInBounds b (.map es' cl') } → mapView es'.toList = some (if k ∈ ks then ks else ks ++ [k]) → wpList P ops (R K) (o :: rest) a w := by
    intro es' cl' hrun a1
    have hr : (execOp a.eval o).run P w = .ok .skip { w with heap := w.heap.setIfInBounds b (.map es' cl') } := by
      simp only [execOp, ho, r1, e2, r3, Sem.run_bind, show (Value.agg (List.map (Value.int IntKind.i64) k).toArray) = keyV k from rfl, hrun, Result.andThen_ok]
      rfl
    refine wpList_step fun Kn hK => ?_
    have hw : Region.wanted o (yielded ops a.tmps) = true := guard_spec hi.i hg
    rw [if_pos hw]
    unfold Oper.wp
    rw [hr]
    simp only [Oper.upon]
    rw [hd]
    exact hK _ _ (next es' cl' a1 K G a _ (hi.setm es' cl'))
  rcases run_askInts w h2 k hkn es.toList ks 0 hes hn with ⟨a1, j, e', a2, a3, a4⟩ | ⟨a1, a2⟩
  · refine done (es.modify j fun e => { e with key := keyV k, val := .bool true }) cl ?_ ?_
    · unfold Instr.mapUpdate
      simp only [Sem.run_bind, run_underlying h1, Result.andThen_ok, MapKept.run_getObj_map hi.m, Sem.run_pure]
      rw [show (Instr.checkKey false 10000 kt (keyV k)).run P w = .ok () w from hc]
      have ej : es[j]? = some e' := by simpa using a3
      simp only [Result.andThen_ok, hf, a2, Nat.zero_add, ej, Option.map_some, Option.getD_some, a4, Instr.keyThatStays, sameBits_ints 9998 k, if_true, Sem.run_pure, Sem.run_bind, MapKept.run_setObj_map _ hi.m]
    · rw [if_pos a1]
      have ej : es[j]? = some e' := by simpa using a3
      have := mapView_set hes (by simpa using ej) a4
      rw [Array.toList_modify]
      exact this
  · refine done (es.push ⟨keyV k, .bool true, cl⟩) (cl + 1) ?_ (by rw [if_neg a1]; exact mapView_push hes)
    unfold Instr.mapUpdate
    simp only [Sem.run_bind, run_underlying h1, Result.andThen_ok, MapKept.run_getObj_map hi.m, Sem.run_pure]
    rw [show (Instr.checkKey false 10000 kt (keyV k)).run P w = .ok () w from hc]
    simp only [Result.andThen_ok, hf, a2, Sem.run_bind, MapKept.run_setObj_map _ hi.m]
/-- The map is read alone from now on. -/
theorem hcode_freeze {t : Nat} {ks : List (List Int)} (hes : mapView es.toList = some ks) (ht : get E t = .mr b) (next : GCode P N x R ⟨(t, .mp ks) :: E, M⟩) : HCode P N x R b es cl ⟨E, M⟩ := by
  intro K G a w hi
  let G' : Gh := ⟨G.Z, fun j => if j = b then some ks else G.Y j, G.U, G.W⟩
  have yb : G'.Y b = some ks := if_pos rfl
  have yo : ∀ j, j ≠ b → G'.Y j = G.Y j := fun j h => if_neg h
  have hle : G.le G' := ⟨fun _ => List.prefix_refl _, fun j l e => by
    by_cases h : j = b
    · subst h; rw [hi.y] at e; cases e
    · rw [yo j h]; exact e, fun _ h => h, fun _ _ h => h⟩
  have k := hi.i.ok
  refine next K G' a w ⟨⟨Gh.le_trans k.g hle, k.os, k.tape, k.output, k.size, k.fr, k.fz, fun o ho j hj => ?_, k.vn, k.un, k.kb, k.nd, fun j l e => ?_, k.um, k.wt⟩, hi.i.sz, hi.i.df, fun s => ?_⟩
  · obtain ⟨us, sp, t, a1, a2, a3⟩ := k.ow o ho j hj
    exact ⟨us, sp, t, a1, a2.mono hle, a3⟩
  · by_cases h : j = b
    · subst h
      rw [yb] at e; cases e
      exact ⟨⟨es, cl, hi.m, hes⟩, fun hlt => by have := hi.nw; omega⟩
    · rw [yo j h] at e; exact k.mz j l e
  · simp only [get]
    cases hs : Nat.beq t s with
    | true =>
      obtain rfl := Nat.eq_of_beq_eq_true hs
      have := hi.i.ev t
      rw [ht] at this
      exact ⟨b, this, yb⟩
    | false => exact (hi.i.ev s).mono hle _ _
theorem hops_endb {id : Nat} (h : HCode P N y R b es cl st) : HOps P N ops [] (blockR id (thenR P y R)) b es cl st := fun K G a w hi => wpList_nil (h K G a w hi)
theorem hops_fin (h : ∀ K G a w, InvM K N G st a w b es cl → R K .normal a w) : HOps P N ops [] R b es cl st := fun K G a w hi => wpList_nil (h K G a w hi)
/-- Out of a loop in a block, and on behind it. -/
theorem hcode_exit_on {id : Nat} {Z : Ctx → Act → World → Prop} {y' : Code} (h : HCode P N y R b es cl st) : HCode P N (.exit id) (thenR P y' (fun K => Exit.then (Z K) (blockR id (thenR P y R) K))) b es cl st := fun K G a w hi => by
  refine wp_exit ?_
  show (if id = id then _ else _)
  rw [if_pos rfl]
  exact h K G a w hi
/-- The map is nobody's any more. -/
theorem hops_forget {l : List Oper} (next : GOps P N ops l R st) : HOps P N ops l R b es cl st := fun K G a w hi => next K G a w hi.i
end
end Go.Proofs.Ytbnhmioijeagiaa.Ab
/- Chapter 23's set of what is forbidden: the walk. No condition. -/
set_option linter.unusedVariables false
set_option linter.unusedSimpArgs false
namespace Go.Proofs.Ytbnhmioijeagiaa.Ab
attribute [local irreducible] thenA inBlockA ACode AOps put IntKind.wrap

def l3 (f : Int × Int × Int) : List Int := [f.1, f.2.1, f.2.2]
theorem l3_inj {f f' : Int × Int × Int} (h : l3 f = l3 f') : f = f' := by
  obtain ⟨a, b, c⟩ := f; obtain ⟨a', b', c'⟩ := f'
  simp only [l3, List.cons.injEq, and_true] at h
  obtain ⟨rfl, rfl, rfl⟩ := h; rfl
/-- What is forbidden, as a map. -/
def SetOf (l : List (Int × Int × Int)) (ks : List (List Int)) : Prop := (∀ x ∈ ks, x.length = 3) ∧ ∀ f, l3 f ∈ ks ↔ f ∈ l
def setF (l : List (Int × Int × Int)) : List (List Int) := l.foldl (fun ks f => if l3 f ∈ ks then ks else ks ++ [l3 f]) []
theorem setF_add {l : List (Int × Int × Int)} {i : Nat} {f : Int × Int × Int} (h : l[i]? = some f) : setF (l.take (i + 1)) = if l3 f ∈ setF (l.take i) then setF (l.take i) else setF (l.take i) ++ [l3 f] := by
  unfold setF
  rw [List.take_add_one, h, List.foldl_append]; rfl
theorem setF_of (l : List (Int × Int × Int)) : SetOf l (setF l) := by
  suffices h : ∀ (l m : List (Int × Int × Int)) (ks : List (List Int)), SetOf m ks → SetOf (m ++ l) (l.foldl (fun ks f => if l3 f ∈ ks then ks else ks ++ [l3 f]) ks) by
    have := h l [] [] ⟨by simp, by simp⟩
    rw [List.nil_append] at this
    exact this
  intro l
  induction l with
  | nil => intro m ks h; rw [List.append_nil]; exact h
  | cons f l ih =>
    intro m ks h
    have := ih (m ++ [f]) (if l3 f ∈ ks then ks else ks ++ [l3 f]) ?_
    · rw [List.append_assoc] at this; exact this
    · split
      · rename_i hm
        refine ⟨h.1, fun f' => ?_⟩
        rw [h.2]
        simp only [List.mem_append, List.mem_singleton]
        exact ⟨.inl, fun h2 => h2.elim id fun e => by rw [e]; exact (h.2 f).1 hm⟩
      · refine ⟨fun x hx => ?_, fun f' => ?_⟩
        · rcases List.mem_append.1 hx with hx | hx
          · exact h.1 x hx
          · simp only [List.mem_singleton] at hx; subst hx; rfl
        · simp only [List.mem_append, List.mem_singleton, h.2]
          exact ⟨fun h2 => h2.imp id l3_inj, fun h2 => h2.imp id fun e => by rw [e]⟩
theorem f3_at {l : List (Int × Int × Int)} {i : Nat} {x : Int × Int × Int} (h : l[i]? = some x) : f3C x <+: (encs f3C l).drop (i * 3) := encs_at (e := f3C) (s := 3) (fun _ => rfl) h

set_option maxHeartbeats 1000000 in
theorem fset_calls {g : Gr} (hf : g.forbid.length ≤ 9223372036854775807) (M : List Ob) : ACalls Try.prog 50 [grA g] M (fun r M' => r = .mp (setF g.forbid) ∧ M' = M) := by
  refine acalls_of_code 18 Try.func50 rfl rfl rfl ?_
  refine acode_seq ?_
  refine acode_region ?_
  refine aops_boxf rfl rfl rfl rfl rfl rfl rfl ?_
  repeat (refine aops_p tok rfl rfl rfl rfl ?_)
  refine aops_end ?_
  refine acode_of_g (gcode_seq (gcode_region (gops_make rfl rfl rfl rfl fun b => ?_)))
  refine hops_a ?_
  repeat (refine aops_p tok rfl rfl rfl rfl ?_)
  refine aops_nil ⟨rfl, ?_⟩
  refine hops_end ?_
  refine hcode_seq (hcode_seq ?_)
  refine hcode_a ?_
  refine acode_region ?_
  repeat (refine aops_p tok rfl rfl rfl rfl ?_)
  refine aops_nil ⟨rfl, ?_⟩
  refine hcode_block ?_
  refine hcode_loop (ι := Nat × Array MapEntry × Nat) (fun p => [(3, .mr b), (8, .psl g.forbid.length (encs f3C g.forbid)), (9, .int .i64 g.forbid.length), (10, .int .i64 p.1)]) (fun _ => M) (fun p => (p.2.1, p.2.2)) (fun p => g.forbid.length - p.1)
    (fun p => p.1 ≤ g.forbid.length ∧ mapView p.2.1.toList = some (setF (g.forbid.take p.1))) (0, #[], 0) ⟨Nat.zero_le _, rfl⟩ ⟨rfl, rfl, rfl, rfl, trivial⟩ rfl rfl ?_
  rintro ⟨i, es, cl⟩ ⟨hi, hv⟩
  simp only at hi hv ⊢
  refine hcode_seq ?_
  refine hcode_a ?_
  refine acode_region ?_
  repeat (refine aops_p tok rfl rfl rfl rfl ?_)
  refine aops_nil ⟨rfl, ?_⟩
  refine hcode_seq (hcode_cond rfl (fun e => ?_) (fun e => ?_))
  · have hlt : i < g.forbid.length := by omega
    obtain ⟨f, hff⟩ : ∃ f, g.forbid[i]? = some f := ⟨g.forbid[i], List.getElem?_eq_getElem hlt⟩
    refine hcode_skip (hcode_seq (hcode_block (hcode_seq ?_)))
    refine hcode_a ?_
    refine acode_region ?_
    refine aops_ix tok (f3C f) rfl rfl rfl rfl (by omega) (by omega) (by simp [f3C]) (f3_at hff) rfl rfl rfl ?_
    repeat (refine aops_p tok rfl rfl rfl rfl ?_)
    refine aops_alloc tok rfl rfl rfl rfl rfl rfl fun bf => ?_
    refine aops_stn tok rfl rfl rfl rfl rfl rfl rfl rfl rfl ?_
    refine aops_pubref0 5 rfl ?_
    refine aops_nil ⟨rfl, ?_⟩
    refine hcode_region ?_
    refine hops_a ?_
    repeat (refine aops_p tok rfl rfl rfl rfl ?_)
    refine aops_nil ⟨rfl, ?_⟩
    refine hops_a ?_
    repeat (refine aops_p tok rfl rfl rfl rfl ?_)
    refine aops_nil ⟨rfl, ?_⟩
    refine hops_upd tok (k := l3 f) rfl rfl rfl rfl rfl hv (setF_of _).1 rfl rfl rfl fun es' cl' h1 => ?_
    refine hops_endb (hcode_region ?_)
    refine hops_a ?_
    repeat (refine aops_a tok rfl (by omega) (by omega) rfl rfl rfl ?_)
    refine aops_nil ⟨rfl, ?_⟩
    refine hops_a ?_
    repeat (refine aops_p tok rfl rfl rfl rfl ?_)
    refine aops_nil ⟨rfl, ?_⟩
    refine hops_fin fun K G a w hi' => ⟨(i + 1, es', cl'), G, _, ⟨by simp; omega, by rw [h1, setF_add hff]⟩, by simp; omega, ⟨rfl, rfl, rfl, rfl, trivial⟩, hi'⟩
  · have hge : i = g.forbid.length := by omega
    subst hge
    rw [List.take_length] at hv
    refine hcode_exit_on ?_
    refine hcode_freeze (t := 3) hv rfl ?_
    refine gcode_of_a ?_
    repeat (first | refine aops_end ?_ | refine aops_p tok rfl rfl rfl rfl ?_ | refine acode_seq ?_ | refine acode_region ?_)
    refine acode_ret ?_
    skip
    exact ⟨_, ⟨rfl, rfl⟩, resOf_tmp rfl⟩
end Go.Proofs.Ytbnhmioijeagiaa.Ab

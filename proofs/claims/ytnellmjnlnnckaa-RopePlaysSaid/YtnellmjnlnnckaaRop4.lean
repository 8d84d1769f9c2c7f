/- Chapter 2's ropes in plain terms: how two are joined, what a part is; that they stay even. No condition. -/
import Derived.Test.YtnellmjnlnnckaaRop3
set_option linter.unusedVariables false
set_option linter.unusedSimpArgs false
namespace Go.Proofs.Ytnellmjnlnnckaa.Ab

def RT.isLf : RT → Bool
  | .lf _ => true
  | .nd _ _ => false
def RT.nodes : RT → Nat
  | .lf _ => 1
  | .nd l r => 1 + l.nodes + r.nodes
theorem RT.sz_nd (l r : RT) : (RT.nd l r).sz = l.sz + r.sz := by simp [RT.sz, RT.txt]
theorem RT.ht_nd (l r : RT) : (RT.nd l r).ht = 1 + max l.ht r.ht := rfl
theorem RT.nd_of {t : RT} (h : 1 < t.ht) : ∃ a b, t = .nd a b := by
  cases t with
  | lf b => exact absurd h (by show ¬ 1 < 1; omega)
  | nd a b => exact ⟨a, b, rfl⟩

/-! ### balance -/
def balL (l r : RT) : RT := match l with
  | .nd a (.nd c d) => if (RT.nd c d).ht ≤ a.ht then .nd a (.nd (.nd c d) r) else .nd (.nd a c) (.nd d r)
  | .nd a b => .nd a (.nd b r)
  | l => .nd l r
def balR (l r : RT) : RT := match r with
  | .nd (.nd c d) b => if (RT.nd c d).ht ≤ b.ht then .nd (.nd l (.nd c d)) b else .nd (.nd l c) (.nd d b)
  | .nd a b => .nd (.nd l a) b
  | r => .nd l r
def balF (l r : RT) : RT := if r.ht + 1 < l.ht then balL l r else if l.ht + 1 < r.ht then balR l r else .nd l r
theorem balL_one {a b r : RT} (h : b.ht ≤ a.ht) : balL (.nd a b) r = .nd a (.nd b r) := by
  cases b with
  | lf b => rfl
  | nd c d => show (if _ then _ else _) = _; rw [if_pos h]
theorem balL_two {a c d r : RT} (h : ¬ (RT.nd c d).ht ≤ a.ht) : balL (.nd a (.nd c d)) r = .nd (.nd a c) (.nd d r) := by
  show (if _ then _ else _) = _; rw [if_neg h]
theorem balR_one {l a b : RT} (h : a.ht ≤ b.ht) : balR l (.nd a b) = .nd (.nd l a) b := by
  cases a with
  | lf b => rfl
  | nd c d => show (if _ then _ else _) = _; rw [if_pos h]
theorem balR_two {l c d b : RT} (h : ¬ (RT.nd c d).ht ≤ b.ht) : balR l (.nd (.nd c d) b) = .nd (.nd l c) (.nd d b) := by
  show (if _ then _ else _) = _; rw [if_neg h]
theorem bal_law {l r : RT} (hl : l.Av) (hr : r.Av) (h1 : l.ht ≤ r.ht + 2) (h2 : r.ht ≤ l.ht + 2) :
    (balF l r).txt = l.txt ++ r.txt ∧ (balF l r).Av ∧ (l.Full → r.Full → (balF l r).Full) ∧ max l.ht r.ht ≤ (balF l r).ht ∧ (balF l r).ht ≤ 1 + max l.ht r.ht ∧ (l.ht ≤ r.ht + 1 → r.ht ≤ l.ht + 1 → (balF l r).ht = 1 + max l.ht r.ht) := by
  unfold balF
  have pl := l.ht_pos
  have pr := r.ht_pos
  split
  · rename_i h
    obtain ⟨a, b, rfl⟩ := RT.nd_of (t := l) (by omega)
    obtain ⟨va, vb, u1, u2⟩ := hl
    rw [RT.ht_nd] at h h1 h2 ⊢
    by_cases hab : b.ht ≤ a.ht
    · rw [balL_one hab]
      refine ⟨by simp [RT.txt], ⟨va, ⟨vb, hr, by omega, by omega⟩, by rw [RT.ht_nd]; omega, by rw [RT.ht_nd]; omega⟩, fun f1 f2 => ⟨f1.1, f1.2, f2⟩, ?_, ?_, ?_⟩ <;> simp only [RT.ht_nd] <;> omega
    · have pa := a.ht_pos
      obtain ⟨c, d, rfl⟩ := RT.nd_of (t := b) (by omega)
      obtain ⟨vc, vd, w1, w2⟩ := vb
      rw [balL_two hab]
      simp only [RT.ht_nd] at *
      refine ⟨by simp [RT.txt], ⟨⟨va, vc, by omega, by omega⟩, ⟨vd, hr, by omega, by omega⟩, by simp only [RT.ht_nd]; omega, by simp only [RT.ht_nd]; omega⟩, fun f1 f2 => ⟨⟨f1.1, f1.2.1⟩, f1.2.2, f2⟩, ?_, ?_, ?_⟩ <;> omega
  · split
    · rename_i h0 h
      obtain ⟨a, b, rfl⟩ := RT.nd_of (t := r) (by omega)
      obtain ⟨va, vb, u1, u2⟩ := hr
      rw [RT.ht_nd] at h h0 h1 h2 ⊢
      by_cases hab : a.ht ≤ b.ht
      · rw [balR_one hab]
        refine ⟨by simp [RT.txt], ⟨⟨hl, va, by omega, by omega⟩, vb, by rw [RT.ht_nd]; omega, by rw [RT.ht_nd]; omega⟩, fun f1 f2 => ⟨⟨f1, f2.1⟩, f2.2⟩, ?_, ?_, ?_⟩ <;> simp only [RT.ht_nd] <;> omega
      · have pb := b.ht_pos
        obtain ⟨c, d, rfl⟩ := RT.nd_of (t := a) (by omega)
        obtain ⟨vc, vd, w1, w2⟩ := va
        rw [balR_two hab]
        simp only [RT.ht_nd] at *
        refine ⟨by simp [RT.txt], ⟨⟨hl, vc, by omega, by omega⟩, ⟨vd, vb, by omega, by omega⟩, by simp only [RT.ht_nd]; omega, by simp only [RT.ht_nd]; omega⟩, fun f1 f2 => ⟨⟨f1, f2.1.1⟩, f2.1.2, f2.2⟩, ?_, ?_, ?_⟩ <;> omega
    · rename_i h0 h
      exact ⟨rfl, ⟨hl, hr, by omega, by omega⟩, fun f1 f2 => ⟨f1, f2⟩, by rw [RT.ht_nd]; omega, by rw [RT.ht_nd]; omega, fun _ _ => rfl⟩

/-! ### join -/
def joinF (l r : RT) : RT :=
  if l.sz = 0 then r else if r.sz = 0 then l else
  if l.isLf = true ∧ r.isLf = true ∧ l.sz + r.sz ≤ 64 then .lf (l.txt ++ r.txt) else
  if r.ht + 1 < l.ht then
    match h : l with
    | .lf _ => .nd l r
    | .nd a b => balF a (joinF b r)
  else if l.ht + 1 < r.ht then
    match h : r with
    | .lf _ => .nd l r
    | .nd a b => balF (joinF l a) b
  else .nd l r
termination_by l.nodes + r.nodes
decreasing_by
  · simp only [RT.nodes]; omega
  · simp only [RT.nodes]; omega
theorem join_0 {l r : RT} (h : l.sz = 0) : joinF l r = r := by rw [joinF.eq_def, if_pos h]
theorem join_1 {l r : RT} (h0 : l.sz ≠ 0) (h : r.sz = 0) : joinF l r = l := by rw [joinF.eq_def, if_neg h0, if_pos h]
theorem join_2 {l r : RT} (h0 : l.sz ≠ 0) (h1 : r.sz ≠ 0) (h : l.isLf = true ∧ r.isLf = true ∧ l.sz + r.sz ≤ 64) : joinF l r = .lf (l.txt ++ r.txt) := by rw [joinF.eq_def, if_neg h0, if_neg h1, if_pos h]
theorem join_3 {a b r : RT} (h0 : (RT.nd a b).sz ≠ 0) (h1 : r.sz ≠ 0) (h : r.ht + 1 < (RT.nd a b).ht) : joinF (.nd a b) r = balF a (joinF b r) := by
  rw [joinF.eq_def, if_neg h0, if_neg h1, if_neg (fun h => by cases h.1), if_pos h]
theorem join_4 {l a b : RT} (h0 : l.sz ≠ 0) (h1 : (RT.nd a b).sz ≠ 0) (h : l.ht + 1 < (RT.nd a b).ht) : joinF l (.nd a b) = balF (joinF l a) b := by
  rw [joinF.eq_def, if_neg h0, if_neg h1, if_neg (fun h => by cases h.2.1), if_neg (by omega), if_pos h]
theorem join_5 {l r : RT} (h0 : l.sz ≠ 0) (h1 : r.sz ≠ 0) (h2 : ¬ (l.isLf = true ∧ r.isLf = true ∧ l.sz + r.sz ≤ 64)) (h3 : ¬ r.ht + 1 < l.ht) (h4 : ¬ l.ht + 1 < r.ht) : joinF l r = .nd l r := by
  rw [joinF.eq_def, if_neg h0, if_neg h1, if_neg h2, if_neg h3, if_neg h4]
theorem join_law : ∀ (n : Nat) {l r : RT}, l.nodes + r.nodes ≤ n → l.Av → r.Av → l.Full → r.Full → (joinF l r).txt = l.txt ++ r.txt ∧ (joinF l r).Av ∧ (joinF l r).Full ∧ max l.ht r.ht ≤ (joinF l r).ht ∧ (joinF l r).ht ≤ 1 + max l.ht r.ht
  | n, l, r, hn, vl, vr, fl, fr => by
    have h0 : l.sz ≠ 0 := by have := fl.pos; omega
    have h1 : r.sz ≠ 0 := by have := fr.pos; omega
    have pl := l.ht_pos
    have pr := r.ht_pos
    by_cases h2 : l.isLf = true ∧ r.isLf = true ∧ l.sz + r.sz ≤ 64
    · rw [join_2 h0 h1 h2]
      obtain ⟨e1, e2, _⟩ := h2
      cases l with
      | nd _ _ => cases e1
      | lf x =>
        cases r with
        | nd _ _ => cases e2
        | lf y =>
          refine ⟨rfl, trivial, ?_, by show max 1 1 ≤ 1; omega, by show 1 ≤ 1 + max 1 1; omega⟩
          show x ++ y ≠ []
          intro h
          exact fl (List.append_eq_nil_iff.1 h).1
    · by_cases h3 : r.ht + 1 < l.ht
      · obtain ⟨a, b, rfl⟩ := RT.nd_of (t := l) (by omega)
        rw [join_3 h0 h1 h3]
        obtain ⟨va, vb, u1, u2⟩ := vl
        obtain ⟨n', rfl⟩ : ∃ n', n = n' + 1 := ⟨n - 1, by simp only [RT.nodes] at hn; omega⟩
        obtain ⟨t1, t2, t3, t4, t5⟩ := join_law n' (l := b) (r := r) (by simp only [RT.nodes] at hn; omega) vb vr fl.2 fr
        rw [RT.ht_nd] at h3 ⊢
        obtain ⟨b1, b2, b3, b4, b5, b6⟩ := bal_law va t2 (by omega) (by omega)
        refine ⟨by rw [b1, t1]; simp [RT.txt], b2, b3 fl.1 t3, ?_, ?_⟩
        · by_cases hj : (joinF b r).ht ≤ a.ht + 1
          · rw [b6 (by omega) hj]; omega
          · omega
        · by_cases hj : (joinF b r).ht ≤ a.ht + 1
          · rw [b6 (by omega) hj]; omega
          · omega
      · by_cases h4 : l.ht + 1 < r.ht
        · obtain ⟨a, b, rfl⟩ := RT.nd_of (t := r) (by omega)
          rw [join_4 h0 h1 h4]
          obtain ⟨va, vb, u1, u2⟩ := vr
          obtain ⟨n', rfl⟩ : ∃ n', n = n' + 1 := ⟨n - 1, by simp only [RT.nodes] at hn; omega⟩
          obtain ⟨t1, t2, t3, t4, t5⟩ := join_law n' (l := l) (r := a) (by simp only [RT.nodes] at hn; omega) vl va fl fr.1
          rw [RT.ht_nd] at h4 ⊢
          obtain ⟨b1, b2, b3, b4, b5, b6⟩ := bal_law t2 vb (by omega) (by omega)
          refine ⟨by rw [b1, t1]; simp [RT.txt], b2, b3 t3 fr.2, ?_, ?_⟩
          · by_cases hj : (joinF l a).ht ≤ b.ht + 1
            · rw [b6 hj (by omega)]; omega
            · omega
          · by_cases hj : (joinF l a).ht ≤ b.ht + 1
            · rw [b6 hj (by omega)]; omega
            · omega
        · rw [join_5 h0 h1 h2 h3 h4]
          exact ⟨rfl, ⟨vl, vr, by omega, by omega⟩, ⟨fl, fr⟩, by rw [RT.ht_nd]; omega, by rw [RT.ht_nd]; omega⟩
theorem join_ok {l r : RT} (hl : l.Ok) (hr : r.Ok) : (joinF l r).Ok ∧ (joinF l r).txt = l.txt ++ r.txt := by
  by_cases h0 : l.sz = 0
  · rw [join_0 h0]
    have : l.txt = [] := List.eq_nil_of_length_eq_zero h0
    exact ⟨hr, by rw [this]; rfl⟩
  · by_cases h1 : r.sz = 0
    · rw [join_1 h0 h1]
      have : r.txt = [] := List.eq_nil_of_length_eq_zero h1
      exact ⟨hl, by rw [this, List.append_nil]⟩
    · obtain ⟨t1, t2, t3, _⟩ := join_law _ (Nat.le_refl _) hl.1 hr.1 (hl.full h0) (hr.full h1)
      exact ⟨⟨t2, .inl t3⟩, t1⟩

/-! ### part -/
def partF : RT → Nat → Nat → RT
  | .lf b, f, t => if f = 0 ∧ b.length ≤ t then .lf b else .lf ((b.drop f).take (t - f))
  | .nd l r, f, t => if f = 0 ∧ (RT.nd l r).sz ≤ t then .nd l r else if t ≤ l.sz then partF l f t else if l.sz ≤ f then partF r (f - l.sz) (t - l.sz) else joinF (partF l f l.sz) (partF r 0 (t - l.sz))
theorem part_ok : ∀ {x : RT} {f t : Nat}, x.Ok → f ≤ t → t ≤ x.sz → (partF x f t).Ok ∧ (partF x f t).txt = (x.txt.drop f).take (t - f)
  | .lf b, f, t, h, h1, h2 => by
    rw [partF]
    split
    · rename_i hc
      refine ⟨h, ?_⟩
      have : t = b.length := Nat.le_antisymm h2 hc.2
      rw [hc.1, this]; simp [RT.txt]
    · refine ⟨⟨trivial, ?_⟩, rfl⟩
      by_cases h0 : (b.drop f).take (t - f) = []
      · exact .inr (by rw [h0])
      · exact .inl h0
  | .nd l r, f, t, h, h1, h2 => by
    have hf : (RT.nd l r).Full := by
      rcases h.2 with h | h
      · exact h
      · cases h
    obtain ⟨⟨vl, vr, u1, u2⟩, _⟩ := h
    rw [RT.sz_nd] at h2
    rw [partF, RT.sz_nd]
    have el : l.sz = l.txt.length := rfl
    have er : r.sz = r.txt.length := rfl
    split
    · rename_i hc
      refine ⟨⟨⟨vl, vr, u1, u2⟩, .inl hf⟩, ?_⟩
      rw [hc.1, List.drop_zero, List.take_of_length_le (by rw [RT.txt, List.length_append]; omega)]
    · split
      · rename_i hc
        obtain ⟨a1, a2⟩ := part_ok (x := l) ⟨vl, .inl hf.1⟩ h1 hc
        refine ⟨a1, ?_⟩
        rw [a2, RT.txt, List.drop_append_of_le_length (by omega), List.take_append_of_le_length (by rw [List.length_drop]; omega)]
      · split
        · rename_i hc
          obtain ⟨a1, a2⟩ := part_ok (x := r) (f := f - l.sz) (t := t - l.sz) ⟨vr, .inl hf.2⟩ (by omega) (by omega)
          refine ⟨a1, ?_⟩
          rw [a2, RT.txt, List.drop_append (l₁ := l.txt), List.drop_of_length_le (l := l.txt) (by omega), List.nil_append, ← el, show t - l.sz - (f - l.sz) = t - f by omega]
        · obtain ⟨a1, a2⟩ := part_ok (x := l) (f := f) (t := l.sz) ⟨vl, .inl hf.1⟩ (by omega) (Nat.le_refl _)
          obtain ⟨b1, b2⟩ := part_ok (x := r) (f := 0) (t := t - l.sz) ⟨vr, .inl hf.2⟩ (by omega) (by omega)
          obtain ⟨c1, c2⟩ := join_ok a1 b1
          refine ⟨c1, ?_⟩
          rw [c2, a2, b2, RT.txt, List.drop_zero, List.drop_append_of_le_length (by omega), List.take_append, List.length_drop, Nat.sub_zero]
          rw [List.take_of_length_le (l := l.txt.drop f) (i := l.sz - f) (by rw [List.length_drop]; omega), List.take_of_length_le (l := l.txt.drop f) (i := t - f) (by rw [List.length_drop]; omega)]
          congr 2
          omega
end Go.Proofs.Ytnellmjnlnnckaa.Ab

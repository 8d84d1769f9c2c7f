/- Chapter 3's laws in plain terms: ranges, depth, the table of what is no pattern. No condition. -/
import Derived.Test.YtafncdbkbmaifaaReg2
set_option linter.unusedVariables false
set_option linter.unusedSimpArgs false
namespace Go.Proofs.Ytafncdbkbmaifaa.Ab
def rangeP (not : Bool) (a b : Int) : List Int := (if not then [91, 94] else [91]) ++ [92, a, 45, 92, b, 93]
theorem is_of {s : List Int} {i w : Nat} {x c : Int} (h : s[i]? = some x) : Rd.is s ⟨i, 0, w⟩ c = decide (x = c) := by simp [Rd.is, h]
theorem is_end {s : List Int} {i w : Nat} {c : Int} (h : s[i]? = none) : Rd.is s ⟨i, 0, w⟩ c = false := by simp [Rd.is, h]
theorem is_bad {s : List Int} {r : Rd} {c : Int} (h : r.e ≠ 0) : Rd.is s r c = false := by simp [Rd.is, h]
theorem is_stop {s : List Int} {r : Rd} {c : Int} (h : r.e ≠ 0 ∨ s[r.at_]? = none) : Rd.is s r c = false := by
  rcases h with h | h
  · exact is_bad h
  · simp [Rd.is, h]
theorem item_esc {s : List Int} {i w S : Nat} {a b : Int} (h0 : s[i]? = some 92) (h1 : s[i + 1]? = some a) (h2 : s[i + 2]? = some 45) (h3 : s[i + 3]? = some 92) (h4 : s[i + 4]? = some b) : Rd.item s S ⟨i, 0, w⟩ = if b < a then (S, ⟨i + 3, 2, i + 3⟩) else (addRange S (b + 1 - a).toNat a.toNat, ⟨i + 5, 0, w⟩) := by
  have m1 : Rd.member s ⟨i, 0, w⟩ = (a, ⟨i + 2, 0, w⟩) := by
    unfold Rd.member; rw [is_of h0, if_pos (by simp)]
    simp [Rd.any, Rd.next, h1]
  have bt : Rd.between s ⟨i + 2, 0, w⟩ = true := by
    unfold Rd.between; rw [is_of h2]; simp [h3]
  have m2 : Rd.member s ⟨i + 3, 0, w⟩ = (b, ⟨i + 5, 0, w⟩) := by
    unfold Rd.member; rw [is_of h3, if_pos (by simp)]
    simp [Rd.any, Rd.next, h4]
  unfold Rd.item
  simp only [m1, bt, if_true]
  rw [show Rd.next ⟨i + 2, 0, w⟩ = ⟨i + 3, 0, w⟩ from rfl]
  simp only [m2]
  by_cases h : b < a
  · simp [h, Rd.fail]
  · simp [h]
theorem rep_stop {s : List Int} {x : RE} {r : Rd} (n : Nat) (h : r.e ≠ 0 ∨ s[r.at_]? = none) : repF s (n + 1) x r = (x, r) := by
  rw [repF, is_stop h, is_stop h, is_stop h]; simp
theorem parse_one {s : List Int} {x : RE} {r : Rd} {c : Int} (hl : s.length ≤ 200) (h0 : s[0]? = some c) (hc : c ≠ 124 ∧ c ≠ 41) (hp : ∀ f, partP s (f + 2) 0 ⟨0, 0, 0⟩ = (x, r)) (hst : r.e ≠ 0 ∨ r.at_ = s.length) : parseP s = if r.e = 0 then (x, s.length, 0) else (reNone, r.w, r.e) := by
  have hst' : r.e ≠ 0 ∨ s[r.at_]? = none := by
    rcases hst with h | h
    · exact .inl h
    · exact .inr (by rw [h]; simp)
  have hpos : 0 < s.length := (List.getElem?_eq_some_iff.1 h0).1
  have hs2 : ∀ n, seqL s (n + 1) 0 [x] r = ([x], r) := by
    intro n
    rw [seqL, if_neg]
    rintro ⟨a1, a2, _⟩
    rcases hst with h | h
    · exact h a1
    · omega
  have hs1 : ∀ n, seqL s (n + 4) 0 [] ⟨0, 0, 0⟩ = ([x], r) := by
    intro n
    rw [seqL, if_pos ⟨rfl, hpos, by rw [is_of h0]; simp [hc.1], by rw [is_of h0]; simp [hc.2]⟩, hp (n + 1)]
    exact hs2 (n + 2)
  have ha : ∀ n, altL s (n + 1) 0 [x] r = ([x], r) := by
    intro n
    rw [altL, is_stop hst', if_neg (by simp)]
  unfold parseP
  rw [if_neg (by omega)]
  obtain ⟨n, hn⟩ : ∃ n, fuelP s = n + 6 := ⟨fuelP s - 6, by unfold fuelP; omega⟩
  rw [hn, altF, seqF, hs1 n]
  simp only [reMany, ha (n + 4)]
  rcases hst with h | h
  · by_cases h2 : r.at_ < s.length
    · rw [if_pos h2]; simp [Rd.fail, h]
    · rw [if_neg h2]
  · have h2 : ¬ r.at_ < s.length := by omega
    rw [if_neg h2]
theorem atom_class {s : List Int} {f d i w : Nat} (h : s[i]? = some 91) : atomF s (f + 1) d ⟨i, 0, w⟩ = Rd.class_ s ⟨i + 1, 0, w⟩ := by
  rw [atomF, is_of h, is_of h, is_of h, is_of h, if_neg (by simp), if_neg (by simp), if_neg (by simp), if_pos (by simp)]; rfl
theorem range_parse (not : Bool) (a b : Int) : parseP (rangeP not a b) = if b < a then (reNone, (if not then 5 else 4), 2) else (reSet (if not then setNot (addRange 0 (b + 1 - a).toNat a.toNat) else addRange 0 (b + 1 - a).toNat a.toNat), (rangeP not a b).length, 0) := by
  have step : ∀ (i : Nat) (s : List Int) (nt : Bool), s[0]? = some 91 → s.length = i + 6 → s.length ≤ 200 → (nt = true → i = 2 ∧ s[1]? = some 94) → (nt = false → i = 1) → s[i]? = some 92 → s[i + 1]? = some a → s[i + 2]? = some 45 → s[i + 3]? = some 92 → s[i + 4]? = some b → s[i + 5]? = some 93 →
      parseP s = if b < a then (reNone, i + 3, 2) else (reSet (if nt then setNot (addRange 0 (b + 1 - a).toNat a.toNat) else addRange 0 (b + 1 - a).toNat a.toNat), s.length, 0) := by
    intro i s nt h91 hlen hl ht hf h0 h1 h2 h3 h4 h5
    have hi := item_esc (S := 0) (w := 0) h0 h1 h2 h3 h4
    have hcl : Rd.class_ s ⟨1, 0, 0⟩ = if b < a then (reSet (if nt then setNot 0 else 0), ⟨i + 3, 2, i + 3⟩) else (reSet (if nt then setNot (addRange 0 (b + 1 - a).toNat a.toNat) else addRange 0 (b + 1 - a).toNat a.toNat), ⟨i + 6, 0, 0⟩) := by
      have hn : Rd.is s ⟨1, 0, 0⟩ 94 = nt ∧ (if nt = true then Rd.next ⟨1, 0, 0⟩ else ⟨1, 0, 0⟩) = (⟨i, 0, 0⟩ : Rd) := by
        cases nt with
        | true => obtain ⟨rfl, h94⟩ := ht rfl; rw [is_of h94]; exact ⟨by simp, by simp [Rd.next]⟩
        | false => obtain rfl := hf rfl; rw [is_of h0]; exact ⟨by simp, by simp⟩
      unfold Rd.class_
      simp only [hn.1, hn.2, hi]
      by_cases h : b < a
      · have hc : classL s (s.length + 1) 0 ⟨i + 3, 2, i + 3⟩ = (0, ⟨i + 3, 2, i + 3⟩) := by rw [classL, if_pos (by simp)]
        simp only [if_pos h, hc]
      · have hc : classL s (s.length + 1) (addRange 0 (b + 1 - a).toNat a.toNat) ⟨i + 5, 0, 0⟩ = (addRange 0 (b + 1 - a).toNat a.toNat, ⟨i + 6, 0, 0⟩) := by
          rw [classL, if_neg (by simp), is_of h5, if_pos (by simp)]; rfl
        simp only [if_neg h, hc]
    by_cases h : b < a
    · rw [if_pos h] at hcl ⊢
      have := parse_one (s := s) (x := reSet (if nt then setNot 0 else 0)) (r := ⟨i + 3, 2, i + 3⟩) hl h91 (by decide) (fun f => by
        rw [partP, atom_class h91, hcl]; exact rep_stop _ (.inl (by simp))) (.inl (by simp))
      rw [this]; simp
    · rw [if_neg h] at hcl ⊢
      have := parse_one (s := s) (x := reSet (if nt then setNot (addRange 0 (b + 1 - a).toNat a.toNat) else addRange 0 (b + 1 - a).toNat a.toNat)) (r := ⟨i + 6, 0, 0⟩) hl h91 (by decide) (fun f => by
        rw [partP, atom_class h91, hcl]; exact rep_stop _ (.inr (by simp; omega))) (.inr (by simp; omega))
      rw [this]; simp
  cases not with
  | true => exact step 2 (rangeP true a b) true rfl rfl (by show 8 ≤ 200; omega) (fun _ => ⟨rfl, rfl⟩) (fun h => by cases h) rfl rfl rfl rfl rfl rfl
  | false => exact step 1 (rangeP false a b) false rfl rfl (by show 7 ≤ 200; omega) (fun h => by cases h) (fun _ => rfl) rfl rfl rfl rfl rfl rfl

/-! ### depth -/
def nestP : Nat → List Int
  | 0 => []
  | n + 1 => 40 :: (nestP n ++ [41])
theorem nest_parse : ∀ n, n < 41 → (parseP (nestP n)).2.2 = (if n ≤ 20 then 0 else 4) ∧ (20 < n → (parseP (nestP n)).2.1 = 20) := by decide +kernel
theorem as_part {s : List Int} {i w : Nat} {f d : Nat} (h : s[i]? = some 97) (hn : s[i + 1]? = some 97 ∨ s[i + 1]? = none) : partP s (f + 2) d ⟨i, 0, w⟩ = (reOne 97, ⟨i + 1, 0, w⟩) := by
  have hr : repF s (s.length + 1) (reOne 97) ⟨i + 1, 0, w⟩ = (reOne 97, ⟨i + 1, 0, w⟩) := by
    rw [repF]
    rcases hn with h2 | h2 <;> simp [Rd.is, h2]
  simp [partP, atomF, Rd.is, Rd.any, Rd.next, h, specials]
  exact hr
theorem as_seq {n : Nat} : ∀ (m i w f d : Nat) (l : List RE), m = n - i → i ≤ n → m + 2 < f → ∃ l', seqL (List.replicate n 97) f d l ⟨i, 0, w⟩ = (l', ⟨n, 0, w⟩) ∧ l'.length = l.length + m
  | 0, i, w, f, d, l, hm, hi, hf => by
    obtain ⟨f', rfl⟩ : ∃ f', f = f' + 1 := ⟨f - 1, by omega⟩
    have : i = n := by omega
    subst this
    exact ⟨l, by rw [seqL, if_neg (by simp)], rfl⟩
  | m + 1, i, w, f, d, l, hm, hi, hf => by
    obtain ⟨f', rfl⟩ : ∃ f', f = f' + 3 := ⟨f - 3, by omega⟩
    have h0 : (List.replicate n (97 : Int))[i]? = some 97 := by rw [List.getElem?_replicate, if_pos (by omega)]
    have h1 : (List.replicate n (97 : Int))[i + 1]? = some 97 ∨ (List.replicate n (97 : Int))[i + 1]? = none := by
      rw [List.getElem?_replicate]; split <;> simp
    obtain ⟨l', e1, e2⟩ := as_seq (n := n) m (i + 1) w (f' + 2) d (l ++ [reOne 97]) (by omega) (by omega) (by omega)
    refine ⟨l', ?_, by rw [e2, List.length_append]; simp; omega⟩
    rw [seqL, if_pos (by simp [Rd.is, h0]; omega), as_part h0 h1]
    exact e1
theorem as_parse {n : Nat} : ((parseP (List.replicate n 97)).2.2 = if n ≤ 200 then 0 else 3) ∧ (parseP (List.replicate n 97)).2.1 = if n ≤ 200 then n else 0 := by
  unfold parseP
  rw [List.length_replicate]
  by_cases h : 200 < n
  · rw [if_pos h, if_neg (by omega), if_neg (by omega)]; exact ⟨rfl, rfl⟩
  · rw [if_neg h, if_pos (by omega), if_pos (by omega)]
    obtain ⟨l', e1, e2⟩ := as_seq (n := n) n 0 0 (8 * n + 14) 0 [] (by omega) (by omega) (by omega)
    have hf : fuelP (List.replicate n 97) = 8 * n + 14 + 2 := by unfold fuelP; rw [List.length_replicate]
    rw [hf, altF, seqF, e1]
    have ha : altL (List.replicate n 97) (8 * n + 14 + 1) 0 [reMany 2 l'] ⟨n, 0, 0⟩ = ([reMany 2 l'], ⟨n, 0, 0⟩) := by
      rw [altL, if_neg (by simp [Rd.is])]
    simp only [ha]
    simp
/-! ### what is no pattern -/
def wrongL : List (List Int) := [[], [124], [40], [41], [97, 41], [40, 97], [42], [43, 97], [97, 42, 42], [97, 124, 42], [91], [91, 93], [91, 94, 93], [91, 97], [91, 97, 45], [91, 97, 45, 93], [91, 45, 97, 93], [91, 98, 45, 97, 93], [91, 98, 45, 92, 97, 93], [91, 92, 93, 93], [92], [97, 92], [93], [40, 41], [40, 124, 41], [91, 97, 45, 122, 45, 57, 93], [91, 45, 45, 97, 93], [46], [91, 94, 94, 93], [91, 97, 94, 93], [91, 92]]
def wrongE : List Int := [0, 0, 2, 2, 2, 2, 2, 2, 0, 2, 2, 2, 2, 2, 2, 0, 0, 2, 2, 0, 2, 2, 2, 0, 0, 0, 0, 0, 0, 0, 2]
def wrongA : List Int := [0, 1, 1, 0, 1, 2, 0, 0, 3, 2, 1, 1, 2, 2, 3, 4, 4, 3, 3, 4, 1, 2, 0, 2, 3, 7, 5, 1, 4, 4, 2]
theorem wrong_parse : wrongL.map (fun s => (parseP s).2.2) = wrongE ∧ wrongL.map (fun s => ((parseP s).2.1 : Int)) = wrongA := by decide +kernel
end Go.Proofs.Ytafncdbkbmaifaa.Ab

/- What a good argument is, told by its parts. No condition. -/
import Derived.Test.YtlaeoddkgeifbaaAbF
import Derived.Test.YtlaeoddkgeifbaaAbI
set_option linter.unusedVariables false
set_option linter.unusedSimpArgs false
namespace Go.Proofs.Ytlaeoddkgeifbaa.Ab
section
variable {T : List TI}
def GoodF (T : List TI) (f : Nat) : List (Nat × Nat) → List A → Prop
  | [], ys => ys = []
  | p :: fs, ys => ∃ y ys', ys = y :: ys' ∧ Good T f p.2 y ∧ GoodF T f fs ys'
theorem goodF_of {f : Nat} : ∀ {fs : List (Nat × Nat)} {css : List (List A)}, css.length = fs.length → (∀ (i : Nat) (c : List A) (p : Nat × Nat), css[i]? = some c → fs[i]? = some p → ∃ y, Good T f p.2 y ∧ y.cs = c) → ∃ ys, GoodF T f fs ys ∧ css = ys.map A.cs
  | [], css, hl, _ => by
    obtain rfl := List.eq_nil_of_length_eq_zero (by simpa using hl)
    exact ⟨[], rfl, rfl⟩
  | p :: fs, [], hl, _ => by simp at hl
  | p :: fs, c :: css, hl, h => by
    obtain ⟨y, g, rfl⟩ := h 0 c p rfl rfl
    obtain ⟨ys, g2, rfl⟩ := goodF_of (fs := fs) (css := css) (by simpa using hl) (fun i c p h1 h2 => h (i + 1) c p (by simpa using h1) (by simpa using h2))
    exact ⟨y :: ys, ⟨y, ys, rfl, g, g2⟩, rfl⟩
theorem good_struct {f t : Nat} {x : A} {fs : List (Nat × Nat)} (hk : kindOf T t = some (.struct fs)) (h : Good T f t x) : ∃ (f' : Nat) (ys : List A), x = .agg (ys.map A.cs).flatten ∧ GoodF T f' fs ys := by
  cases f with
  | zero => exact h.elim
  | succ f =>
    simp only [Good, hk] at h
    obtain ⟨css, rfl, hl, hc⟩ := h
    obtain ⟨ys, g, rfl⟩ := goodF_of hl hc
    exact ⟨f, ys, rfl, g⟩
theorem good_int {f t : Nat} {x : A} {k : IntKind} (hk : kindOf T t = some (.int k)) (h : Good T f t x) : ∃ n, x = .int k n ∧ (Lit.int k n).wf = true := by
  cases f with
  | zero => exact h.elim
  | succ f => simpa only [Good, hk] using h
theorem good_bool {f t : Nat} {x : A} (hk : kindOf T t = some .bool) (h : Good T f t x) : ∃ b, x = .bool b := by
  cases f with
  | zero => exact h.elim
  | succ f => simpa only [Good, hk] using h
theorem good_str {f t : Nat} {x : A} (hk : kindOf T t = some .string) (h : Good T f t x) : ∃ s, x = .str s ∧ s.size ≤ maxLen := by
  cases f with
  | zero => exact h.elim
  | succ f => simpa only [Good, hk] using h
theorem wf_i64 {n : Int} (h : (Lit.int .i64 n).wf = true) : -9223372036854775808 ≤ n ∧ n ≤ 9223372036854775807 := by
  simp only [Lit.wf, Bool.and_eq_true, decide_eq_true_eq] at h
  exact h
/-- A slice, by its elements. -/
theorem good_slice {f t e : Nat} {x : A} (hk : kindOf T t = some (.slice e)) (h : Good T f t x) : ∃ (f' : Nat) (ys : List A), x = .psl ys.length (ys.map A.cs).flatten ∧ ys.length ≤ maxLen ∧ ∀ y ∈ ys, Good T f' e y := by
  cases f with
  | zero => exact h.elim
  | succ f =>
    simp only [Good, hk] at h
    obtain ⟨css, rfl, hl, hc⟩ := h
    have key : ∀ css : List (List A), (∀ c ∈ css, ∃ y, Good T f e y ∧ y.cs = c) → ∃ ys : List A, css = ys.map A.cs ∧ ∀ y ∈ ys, Good T f e y := by
      intro css
      induction css with
      | nil => intro _; exact ⟨[], rfl, by simp⟩
      | cons c css ih =>
        intro h
        obtain ⟨y, g, rfl⟩ := h c (by simp)
        obtain ⟨ys, rfl, g2⟩ := ih (fun c hc => h c (by simp [hc]))
        exact ⟨y :: ys, rfl, fun z hz => (List.mem_cons.1 hz).elim (fun e => e ▸ g) (g2 z)⟩
    obtain ⟨ys, rfl, g⟩ := key css hc
    exact ⟨f, ys, by simp, by simpa using hl, g⟩
theorem good_bytes {f t e : Nat} {x : A} (hk : kindOf T t = some (.slice e)) (he : kindOf T e = some (.int .u8)) (h : Good T f t x) : ∃ xs : List Int, x = .psl xs.length (u8s xs) ∧ xs.length ≤ maxLen ∧ ∀ n ∈ xs, (Lit.int .u8 n).wf = true := by
  obtain ⟨f', ys, rfl, hl, hg⟩ := good_slice hk h
  have key : ∀ ys : List A, (∀ y ∈ ys, Good T f' e y) → ∃ xs : List Int, ys = u8s xs ∧ ∀ n ∈ xs, (Lit.int .u8 n).wf = true := by
    intro ys
    induction ys with
    | nil => intro _; exact ⟨[], rfl, by simp⟩
    | cons y ys ih =>
      intro h
      obtain ⟨n, rfl, hn⟩ := good_int he (h y (by simp))
      obtain ⟨xs, rfl, hx⟩ := ih (fun y hy => h y (by simp [hy]))
      exact ⟨n :: xs, rfl, fun m hm => (List.mem_cons.1 hm).elim (fun e => e ▸ hn) (hx m)⟩
  obtain ⟨xs, rfl, hx⟩ := key ys hg
  have e1 : ((u8s xs).map A.cs).flatten = u8s xs := by
    clear hl hg hx h
    induction xs with
    | nil => rfl
    | cons n xs ih => simp only [u8s, List.map_cons, List.flatten_cons] at ih ⊢; rw [ih]; rfl
  have e2 : (u8s xs).length = xs.length := by simp [u8s]
  exact ⟨xs, by rw [e1, e2], by omega, hx⟩
end
end Go.Proofs.Ytlaeoddkgeifbaa.Ab

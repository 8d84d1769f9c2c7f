/- Grammars as arguments. No condition. -/
import Derived.Test.YtnellmjnlnnckaaGra4
set_option linter.unusedVariables false
set_option linter.unusedSimpArgs false
namespace Go.Proofs.Ytnellmjnlnnckaa.Ab
attribute [local irreducible] thenA inBlockA ACode AOps put IntKind.wrap

theorem good_arr {T : List TI} {f t n e : Nat} {x : A} (hk : kindOf T t = some (.array n e)) (h : Good T f t x) : ∃ (f' : Nat) (css : List (List A)), x = .agg css.flatten ∧ css.length = n ∧ ∀ c ∈ css, ∃ y, Good T f' e y ∧ y.cs = c := by
  cases f with
  | zero => exact h.elim
  | succ f =>
    simp only [Good, hk] at h
    obtain ⟨css, rfl, hl, hc⟩ := h
    exact ⟨f, css, rfl, hl, hc⟩
theorem good_f3 {f : Nat} {x : A} (h : Good T f 66 x) : ∃ r, x = .agg (f3C r) ∧ True := by
  obtain ⟨f', css, rfl, hl, hc⟩ := good_arr (n := 3) (e := 3) rfl h
  match css, hl with
  | [c0, c1, c2], _ =>
    obtain ⟨y0, g0, rfl⟩ := hc c0 (by simp)
    obtain ⟨y1, g1, rfl⟩ := hc c1 (by simp)
    obtain ⟨y2, g2, rfl⟩ := hc c2 (by simp)
    obtain ⟨a, rfl, _⟩ := good_int (k := .i64) rfl g0
    obtain ⟨b, rfl, _⟩ := good_int (k := .i64) rfl g1
    obtain ⟨c, rfl, _⟩ := good_int (k := .i64) rfl g2
    exact ⟨(a, b, c), rfl, trivial⟩
theorem good_ru {f : Nat} {x : A} (h : Good T f 38 x) : ∃ r, x = .agg (ruC r) ∧ (r.right.length ≤ 9223372036854775807 ∧ ∀ s ∈ r.right, rng s) := by
  obtain ⟨f', ys, rfl, y0, _, rfl, g0, y1, _, rfl, g1, y2, _, rfl, g2, rfl⟩ := good_struct (fs := [(0, 3), (1, 24), (2, 3)]) rfl h
  obtain ⟨a, rfl, _⟩ := good_int (k := .i64) rfl g0
  obtain ⟨l, rfl, hl, hw⟩ := good_ints' (e := 3) (k := .i64) rfl rfl g1
  obtain ⟨d, rfl, _⟩ := good_int (k := .i64) rfl g2
  exact ⟨⟨a, l, d⟩, rfl, hl, fun s hs => wf_i64 (hw s hs)⟩
theorem good_gr {f : Nat} {x : A} (h : Good T f 26 x) : ∃ g, x = grA g ∧ GrOk g := by
  obtain ⟨f', ys, rfl, y0, _, rfl, g0, y1, _, rfl, g1, y2, _, rfl, g2, y3, _, rfl, g3, y4, _, rfl, g4, y5, _, rfl, g5, y6, _, rfl, g6, rfl⟩ := good_struct (fs := [(0, 3), (1, 3), (2, 3), (3, 22), (4, 23), (5, 24), (6, 24)]) rfl h
  obtain ⟨a, rfl, _⟩ := good_int (k := .i64) rfl g0
  obtain ⟨b, rfl, _⟩ := good_int (k := .i64) rfl g1
  obtain ⟨c, rfl, _⟩ := good_int (k := .i64) rfl g2
  obtain ⟨rs, rfl, h3, h3'⟩ := good_encs (g := fun r => A.agg (ruC r)) (c := ruC) (p := fun r => r.right.length ≤ 9223372036854775807 ∧ ∀ s ∈ r.right, rng s) (e := 38) rfl (fun f y hy => good_ru hy) (fun _ => rfl) g3
  obtain ⟨fs, rfl, h4, _⟩ := good_encs (g := fun r => A.agg (f3C r)) (c := f3C) (p := fun _ => True) (e := 66) rfl (fun f y hy => good_f3 hy) (fun _ => rfl) g4
  obtain ⟨l5, rfl, h5⟩ := good_ints (e := 3) (k := .i64) rfl rfl g5
  obtain ⟨l6, rfl, h6⟩ := good_ints (e := 3) (k := .i64) rfl rfl g6
  exact ⟨⟨a, b, c, rs, fs, l5, l6⟩, rfl, h5, h6, h4, h3, h3'⟩

end Go.Proofs.Ytnellmjnlnnckaa.Ab

/- Grammars in plain terms, and as arguments. No condition. -/
import Derived.Test.YtnlmfhnjjblhoaaTabA
import Derived.Test.YtnlmfhnjjblhoaaAbK
import Derived.Test.YtnlmfhnjjblhoaaAbP
set_option linter.unusedVariables false
set_option linter.unusedSimpArgs false
namespace Go.Proofs.Ytnlmfhnjjblhoaa.Ab
structure Ru where
  left : Int
  right : List Int
  dyn : Int
def ruC (r : Ru) : List A := [.int .i64 r.left, .psl r.right.length (ints r.right), .int .i64 r.dyn]
structure Gr where
  names : Int
  kinds : Int
  start : Int
  rules : List Ru
  forbid : List (Int × Int × Int)
  rc : List Int
  kc : List Int
def f3C (f : Int × Int × Int) : List A := [.int .i64 f.1, .int .i64 f.2.1, .int .i64 f.2.2]
def grC (g : Gr) : List A := [.int .i64 g.names, .int .i64 g.kinds, .int .i64 g.start, .psl g.rules.length (encs ruC g.rules), .psl g.forbid.length (encs f3C g.forbid), .psl g.rc.length (ints g.rc), .psl g.kc.length (ints g.kc)]
def grA (g : Gr) : A := .agg (grC g)

structure GrOk (g : Gr) : Prop where
  rc : g.rc.length ≤ 9223372036854775807
  kc : g.kc.length ≤ 9223372036854775807
  fo : g.forbid.length ≤ 9223372036854775807
  rl : g.rules.length ≤ 9223372036854775807
  rr : ∀ r ∈ g.rules, r.right.length ≤ 9223372036854775807 ∧ ∀ s ∈ r.right, rng s

theorem good_arr {T : List TI} {f t n e : Nat} {x : A} (hk : kindOf T t = some (.array n e)) (h : Good T f t x) : ∃ (f' : Nat) (css : List (List A)), x = .agg css.flatten ∧ css.length = n ∧ ∀ c ∈ css, ∃ y, Good T f' e y ∧ y.cs = c := by
  cases f with
  | zero => exact h.elim
  | succ f =>
    simp only [Good, hk] at h
    obtain ⟨css, rfl, hl, hc⟩ := h
    exact ⟨f, css, rfl, hl, hc⟩
theorem good_f3 {f : Nat} {x : A} (h : Good T f 44 x) : ∃ r, x = .agg (f3C r) ∧ True := by
  obtain ⟨f', css, rfl, hl, hc⟩ := good_arr (n := 3) (e := 3) rfl h
  match css, hl with
  | [c0, c1, c2], _ =>
    obtain ⟨y0, g0, rfl⟩ := hc c0 (by simp)
    obtain ⟨y1, g1, rfl⟩ := hc c1 (by simp)
    obtain ⟨y2, g2, rfl⟩ := hc c2 (by simp)
    obtain ⟨a, rfl, _⟩ := good_int (k := .i64) rfl g0
    obtain ⟨b, rfl, _⟩ := good_int (k := .i64) rfl g1
    obtain ⟨c, rfl, _⟩ := good_int (k := .i64) rfl g2
    exact ⟨(a, b, c), rfl, trivial⟩
theorem good_ru {f : Nat} {x : A} (h : Good T f 39 x) : ∃ r, x = .agg (ruC r) ∧ (r.right.length ≤ 9223372036854775807 ∧ ∀ s ∈ r.right, rng s) := by
  obtain ⟨f', ys, rfl, y0, _, rfl, g0, y1, _, rfl, g1, y2, _, rfl, g2, rfl⟩ := good_struct (fs := [(0, 3), (1, 26), (2, 3)]) rfl h
  obtain ⟨a, rfl, _⟩ := good_int (k := .i64) rfl g0
  obtain ⟨l, rfl, hl, hw⟩ := good_ints' (e := 3) (k := .i64) rfl rfl g1
  obtain ⟨d, rfl, _⟩ := good_int (k := .i64) rfl g2
  exact ⟨⟨a, l, d⟩, rfl, hl, fun s hs => wf_i64 (hw s hs)⟩
theorem good_gr {f : Nat} {x : A} (h : Good T f 43 x) : ∃ g, x = grA g ∧ GrOk g := by
  obtain ⟨f', ys, rfl, y0, _, rfl, g0, y1, _, rfl, g1, y2, _, rfl, g2, y3, _, rfl, g3, y4, _, rfl, g4, y5, _, rfl, g5, y6, _, rfl, g6, rfl⟩ := good_struct (fs := [(0, 3), (1, 3), (2, 3), (3, 40), (4, 41), (5, 26), (6, 26)]) rfl h
  obtain ⟨a, rfl, _⟩ := good_int (k := .i64) rfl g0
  obtain ⟨b, rfl, _⟩ := good_int (k := .i64) rfl g1
  obtain ⟨c, rfl, _⟩ := good_int (k := .i64) rfl g2
  obtain ⟨rs, rfl, h3, h3'⟩ := good_encs (g := fun r => A.agg (ruC r)) (c := ruC) (p := fun r => r.right.length ≤ 9223372036854775807 ∧ ∀ s ∈ r.right, rng s) (e := 39) rfl (fun f y hy => good_ru hy) (fun _ => rfl) g3
  obtain ⟨fs, rfl, h4, _⟩ := good_encs (g := fun r => A.agg (f3C r)) (c := f3C) (p := fun _ => True) (e := 44) rfl (fun f y hy => good_f3 hy) (fun _ => rfl) g4
  obtain ⟨l5, rfl, h5⟩ := good_ints (e := 3) (k := .i64) rfl rfl g5
  obtain ⟨l6, rfl, h6⟩ := good_ints (e := 3) (k := .i64) rfl rfl g6
  exact ⟨⟨a, b, c, rs, fs, l5, l6⟩, rfl, h5, h6, h4, h3, h3'⟩

end Go.Proofs.Ytnlmfhnjjblhoaa.Ab

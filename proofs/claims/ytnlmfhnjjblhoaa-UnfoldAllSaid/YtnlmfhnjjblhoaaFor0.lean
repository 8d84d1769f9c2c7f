/- Forests as arguments. No condition. -/
import Derived.Test.YtnlmfhnjjblhoaaTabA
import Derived.Test.YtnlmfhnjjblhoaaAbJ
import Derived.Test.YtnlmfhnjjblhoaaFor1
set_option linter.unusedVariables false
set_option linter.unusedSimpArgs false
namespace Go.Proofs.Ytnlmfhnjjblhoaa.Ab
/-- How many Alts and kids there may be. -/
def FoOk (f : Fo) : Prop := f.nodes.length ≤ 2932031007402 ∧ ∀ n ∈ f.nodes, n.alts.length ≤ 4398046510976 ∧ ∀ a ∈ n.alts, a.kids.length ≤ 17592186043904
theorem good_al {f : Nat} {x : A} (h : Good T f 28 x) : ∃ a, x = .agg (alC a) ∧ a.kids.length ≤ 17592186043904 := by
  obtain ⟨f', ys, rfl, y0, _, rfl, g0, y1, _, rfl, g1, rfl⟩ := good_struct (fs := [(0, 3), (1, 26)]) rfl h
  obtain ⟨a, rfl, _⟩ := good_int (k := .i64) rfl g0
  obtain ⟨n, cs, e, hn⟩ := good_sliceS (e := 3) rfl rfl g1
  obtain ⟨l, rfl, hl⟩ := good_ints (e := 3) (k := .i64) rfl rfl g1
  simp only [A.psl.injEq] at e
  refine ⟨⟨a, l⟩, rfl, ?_⟩
  rw [← e.1] at hn
  have : l.length * 8 ≤ 140737488351232 := hn
  show l.length ≤ _
  omega
theorem good_nd {f : Nat} {x : A} (h : Good T f 31 x) : ∃ n, x = .agg (ndC n) ∧ (n.alts.length ≤ 4398046510976 ∧ ∀ a ∈ n.alts, a.kids.length ≤ 17592186043904) := by
  obtain ⟨f', ys, rfl, y0, _, rfl, g0, y1, _, rfl, g1, y2, _, rfl, g2, y3, _, rfl, g3, rfl⟩ := good_struct (fs := [(0, 3), (1, 3), (2, 3), (3, 29)]) rfl h
  obtain ⟨a, rfl, _⟩ := good_int (k := .i64) rfl g0
  obtain ⟨b, rfl, _⟩ := good_int (k := .i64) rfl g1
  obtain ⟨c, rfl, _⟩ := good_int (k := .i64) rfl g2
  obtain ⟨n, cs, e, hn⟩ := good_sliceS (e := 28) rfl rfl g3
  obtain ⟨rs, rfl, h3, h3'⟩ := good_encs (g := fun r => A.agg (alC r)) (c := alC) (p := fun r => r.kids.length ≤ 17592186043904) (e := 28) rfl (fun f y hy => good_al hy) (fun _ => rfl) g3
  simp only [A.psl.injEq] at e
  rw [← e.1] at hn
  have : rs.length * 32 ≤ 140737488351232 := hn
  exact ⟨⟨a, b, c, rs⟩, rfl, by show rs.length ≤ _; omega, h3'⟩
theorem good_fo {f : Nat} {x : A} (h : Good T f 25 x) : ∃ g, x = foA g ∧ (g.nodes.length ≤ 9223372036854775807 ∧ ∀ n ∈ g.nodes, n.alts.length ≤ 4398046510976 ∧ ∀ a ∈ n.alts, a.kids.length ≤ 17592186043904) := by
  obtain ⟨f', ys, rfl, y0, _, rfl, g0, y1, _, rfl, g1, rfl⟩ := good_struct (fs := [(0, 23), (1, 3)]) rfl h
  obtain ⟨rs, rfl, h3, h3'⟩ := good_encs (g := fun r => A.agg (ndC r)) (c := ndC) (p := fun n => n.alts.length ≤ 4398046510976 ∧ ∀ a ∈ n.alts, a.kids.length ≤ 17592186043904) (e := 31) rfl (fun f y hy => good_nd hy) (fun _ => rfl) g0
  obtain ⟨a, rfl, _⟩ := good_int (k := .i64) rfl g1
  exact ⟨⟨rs, a⟩, rfl, h3, h3'⟩
/-- The kids are numbers that an int holds. -/
def FoRng (f : Fo) : Prop := ∀ n ∈ f.nodes, ∀ a ∈ n.alts, ∀ k ∈ a.kids, rng k
theorem good_alR {f : Nat} {x : A} (h : Good T f 28 x) : ∃ a, x = .agg (alC a) ∧ (a.kids.length ≤ 17592186043904 ∧ ∀ k ∈ a.kids, rng k) := by
  obtain ⟨f', ys, rfl, y0, _, rfl, g0, y1, _, rfl, g1, rfl⟩ := good_struct (fs := [(0, 3), (1, 26)]) rfl h
  obtain ⟨a, rfl, _⟩ := good_int (k := .i64) rfl g0
  obtain ⟨n, cs, e, hn⟩ := good_sliceS (e := 3) rfl rfl g1
  obtain ⟨l, rfl, hl, hw⟩ := good_ints' (e := 3) (k := .i64) rfl rfl g1
  simp only [A.psl.injEq] at e
  rw [← e.1] at hn
  have : l.length * 8 ≤ 140737488351232 := hn
  exact ⟨⟨a, l⟩, rfl, by show l.length ≤ _; omega, fun k hk => wf_i64 (hw k hk)⟩
theorem good_ndR {f : Nat} {x : A} (h : Good T f 31 x) : ∃ n, x = .agg (ndC n) ∧ (n.alts.length ≤ 4398046510976 ∧ ∀ a ∈ n.alts, a.kids.length ≤ 17592186043904 ∧ ∀ k ∈ a.kids, rng k) := by
  obtain ⟨f', ys, rfl, y0, _, rfl, g0, y1, _, rfl, g1, y2, _, rfl, g2, y3, _, rfl, g3, rfl⟩ := good_struct (fs := [(0, 3), (1, 3), (2, 3), (3, 29)]) rfl h
  obtain ⟨a, rfl, _⟩ := good_int (k := .i64) rfl g0
  obtain ⟨b, rfl, _⟩ := good_int (k := .i64) rfl g1
  obtain ⟨c, rfl, _⟩ := good_int (k := .i64) rfl g2
  obtain ⟨n, cs, e, hn⟩ := good_sliceS (e := 28) rfl rfl g3
  obtain ⟨rs, rfl, h3, h3'⟩ := good_encs (g := fun r => A.agg (alC r)) (c := alC) (p := fun r => r.kids.length ≤ 17592186043904 ∧ ∀ k ∈ r.kids, rng k) (e := 28) rfl (fun f y hy => good_alR hy) (fun _ => rfl) g3
  simp only [A.psl.injEq] at e
  rw [← e.1] at hn
  have : rs.length * 32 ≤ 140737488351232 := hn
  exact ⟨⟨a, b, c, rs⟩, rfl, by show rs.length ≤ _; omega, h3'⟩
theorem good_foR {f : Nat} {x : A} (h : Good T f 25 x) : ∃ g, x = foA g ∧ FoOk g ∧ FoRng g := by
  obtain ⟨f', ys, rfl, y0, _, rfl, g0, y1, _, rfl, g1, rfl⟩ := good_struct (fs := [(0, 23), (1, 3)]) rfl h
  obtain ⟨n, cs, e, hn⟩ := good_sliceS (e := 31) rfl rfl g0
  obtain ⟨rs, rfl, h3, h3'⟩ := good_encs (g := fun r => A.agg (ndC r)) (c := ndC) (p := fun n => n.alts.length ≤ 4398046510976 ∧ ∀ a ∈ n.alts, a.kids.length ≤ 17592186043904 ∧ ∀ k ∈ a.kids, rng k) (e := 31) rfl (fun f y hy => good_ndR hy) (fun _ => rfl) g0
  obtain ⟨a, rfl, _⟩ := good_int (k := .i64) rfl g1
  simp only [A.psl.injEq] at e
  rw [← e.1] at hn
  have hn : rs.length * 48 ≤ 140737488351232 := hn
  exact ⟨⟨rs, a⟩, rfl, ⟨by show rs.length ≤ _; omega, fun n hn => ⟨(h3' n hn).1, fun a ha => ((h3' n hn).2 a ha).1⟩⟩, fun n hn a ha => ((h3' n hn).2 a ha).2⟩
end Go.Proofs.Ytnlmfhnjjblhoaa.Ab

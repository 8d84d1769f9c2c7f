/- Forests in plain terms: which nodes come to no ring, and what is told of a node out of its kids. No condition. -/
import Derived.Test.YtnlmfhnjjblhoaaAbP
set_option linter.unusedVariables false
set_option linter.unusedSimpArgs false
namespace Go.Proofs.Ytnlmfhnjjblhoaa.Ab
structure Al where
  rule : Int
  kids : List Int
structure Nd where
  sym : Int
  fr : Int
  to : Int
  alts : List Al
structure Fo where
  nodes : List Nd
  root : Int
def alC (a : Al) : List A := [.int .i64 a.rule, .psl a.kids.length (ints a.kids)]
def ndC (n : Nd) : List A := [.int .i64 n.sym, .int .i64 n.fr, .int .i64 n.to, .psl n.alts.length (encs alC n.alts)]
def foC (f : Fo) : List A := [.psl f.nodes.length (encs ndC f.nodes), .int .i64 f.root]
def foA (f : Fo) : A := .agg (foC f)

def altsOf (f : Fo) (i : Nat) : List Al := (f.nodes[i]?.map (·.alts)).getD []
def Kid (f : Fo) (i : Nat) (k : Int) : Prop := ∃ a ∈ altsOf f i, k ∈ a.kids
/-- A node that comes to no ring and to no kid that is none. -/
inductive WF (f : Fo) : Nat → Prop
  | mk {i : Nat} (hi : i < f.nodes.length) (hk : ∀ k, Kid f i k → k < f.nodes.length) (hs : ∀ k : Nat, Kid f i k → WF f k) : WF f i
inductive Rch (f : Fo) : Nat → Nat → Prop
  | one {i k : Nat} (h : Kid f i k) : Rch f i k
  | cons {i j k : Nat} (h : Kid f i j) (t : Rch f j k) : Rch f i k
theorem WF.lt {f : Fo} {i : Nat} (h : WF f i) : i < f.nodes.length := by cases h; assumption
theorem WF.kid {f : Fo} {i k : Nat} (h : WF f i) (hk : Kid f i k) : WF f k := by cases h with | mk _ _ hs => exact hs k hk
theorem WF.small {f : Fo} {i : Nat} {k : Int} (h : WF f i) (hk : Kid f i k) : k < f.nodes.length := by cases h with | mk _ h2 _ => exact h2 k hk
theorem Rch.snoc {f : Fo} {i j k : Nat} (h : Rch f i j) (hk : Kid f j k) : Rch f i k := by
  induction h with
  | one h => exact .cons h (.one hk)
  | cons h _ ih => exact .cons h (ih hk)
theorem WF.noring {f : Fo} {i : Nat} (h : WF f i) : ¬ Rch f i i := by
  induction h with
  | mk hi hk hs ih =>
    intro r
    cases r with
    | one h => exact ih _ h (.one h)
    | cons h t => exact ih _ h (t.snoc h)
/-- That a kid of a node is below it. -/
def Bel (f : Fo) (k i : Nat) : Prop := WF f i ∧ Kid f i k
theorem WF.acc {f : Fo} {i : Nat} (h : WF f i) : Acc (Bel f) i := by
  induction h with
  | mk hi hk hs ih => exact ⟨_, fun k ⟨_, h⟩ => ih k h⟩
theorem bel_wf (f : Fo) : WellFounded (Bel f) := ⟨fun i => ⟨i, fun k ⟨h, hk⟩ => (h.kid hk).acc⟩⟩
/-- What is told of each node out of what is told of its kids. -/
theorem recT {α : Type} [Inhabited α] {f : Fo} (F : (Nat → α) → Nat → α) (hF : ∀ g h i, (∀ k : Nat, Kid f i k → g k = h k) → F g i = F h i) : ∃ T : Nat → α, ∀ i, WF f i → T i = F T i := by
  classical
  refine ⟨(bel_wf f).fix fun i rec => F (fun k => if h : Bel f k i then rec k h else default) i, fun i hi => ?_⟩
  rw [WellFounded.fix_eq]
  exact hF _ _ i fun k hk => by rw [dif_pos ⟨hi, hk⟩]
theorem recT_one {α : Type} {f : Fo} {F : (Nat → α) → Nat → α} (hF : ∀ g h i, (∀ k : Nat, Kid f i k → g k = h k) → F g i = F h i) {T S : Nat → α} (hT : ∀ i, WF f i → T i = F T i) (hS : ∀ i, WF f i → S i = F S i) {i : Nat} (h : WF f i) : T i = S i := by
  induction h with
  | @mk i hi hk hs ih => rw [hT i (.mk hi hk hs), hS i (.mk hi hk hs)]; exact hF _ _ i fun k hk => ih k hk

/-! ### an order in which each stands behind its kids -/
inductive Topo (f : Fo) : List Nat → Prop
  | nil : Topo f []
  | snoc {l : List Nat} {i : Nat} (h : Topo f l) (hi : i < f.nodes.length) (hn : i ∉ l) (hb : ∀ k, Kid f i k → k < f.nodes.length) (hk : ∀ k : Nat, Kid f i k → k ∈ l) : Topo f (l ++ [i])
theorem Topo.lt {f : Fo} {l : List Nat} (h : Topo f l) : ∀ i ∈ l, i < f.nodes.length := by
  induction h with
  | nil => simp
  | snoc h hi hn hb hk ih => intro j hj; simp only [List.mem_append, List.mem_singleton] at hj; rcases hj with hj | rfl; exact ih j hj; exact hi
theorem Topo.nodup {f : Fo} {l : List Nat} (h : Topo f l) : l.Nodup := by
  induction h with
  | nil => exact List.nodup_nil
  | snoc h hi hn hb hk ih => rw [List.nodup_append]; exact ⟨ih, by simp, fun a ha b hb e => by simp only [List.mem_singleton] at hb; subst hb; subst e; exact hn ha⟩
theorem Topo.wf {f : Fo} {l : List Nat} (h : Topo f l) : ∀ i ∈ l, WF f i := by
  induction h with
  | nil => simp
  | snoc h hi hn hb hk ih => intro j hj; simp only [List.mem_append, List.mem_singleton] at hj; rcases hj with hj | rfl; exact ih j hj; exact .mk hi hb fun k h => ih k (hk k h)
theorem Topo.len {f : Fo} {l : List Nat} (h : Topo f l) : l.length ≤ f.nodes.length := by
  have := List.Nodup.length_le_of_subset h.nodup (l₂ := List.range f.nodes.length) (fun i hi => by simpa using h.lt i hi)
  simpa using this
theorem Topo.pre {f : Fo} {l : List Nat} (h : Topo f l) : ∀ {a b : List Nat} {i : Nat}, l = a ++ i :: b → Topo f a ∧ i ∉ a ∧ ∀ k : Nat, Kid f i k → k ∈ a := by
  induction h with
  | nil => intro a b i e; simp at e
  | @snoc l j h hi hn hb hk ih =>
    intro a b i e
    rcases List.eq_nil_or_concat b with rfl | ⟨b', x, rfl⟩
    · have := List.append_inj' (s₁ := l) (t₁ := [j]) (s₂ := a) (t₂ := [i]) e rfl
      obtain ⟨rfl, e2⟩ := this
      cases e2
      exact ⟨h, hn, hk⟩
    · have := List.append_inj' (s₁ := l) (t₁ := [j]) (s₂ := a ++ i :: b') (t₂ := [x]) (by rw [e]; simp) rfl
      exact ih this.1
/-! ### how many trees -/
def great : Int := 4611686018427387903
def addN (a b : Int) : Int := if a > great - b then great else a + b
def mulN (a b : Int) : Int := if a = 0 ∨ b = 0 then 0 else if a > great / b then great else a * b
def isN (a : Int) : Prop := 0 ≤ a ∧ a ≤ great
theorem addN_is {a b : Int} (ha : isN a) (hb : isN b) : isN (addN a b) := by
  obtain ⟨a0, a1⟩ := ha; obtain ⟨b0, b1⟩ := hb
  unfold isN addN; split
  · exact ⟨by decide, by omega⟩
  · exact ⟨by omega, by omega⟩
theorem mul_le_of {a b : Int} (hb : 0 < b) (h : a ≤ great / b) : a * b ≤ great := by
  have := Int.ediv_mul_le great (b := b) (by omega)
  have h2 := Int.mul_le_mul_of_nonneg_right h (by omega : 0 ≤ b)
  omega
theorem mulN_is {a b : Int} (ha : isN a) (hb : isN b) : isN (mulN a b) := by
  obtain ⟨a0, a1⟩ := ha; obtain ⟨b0, b1⟩ := hb
  unfold isN mulN; split
  · exact ⟨by omega, by decide⟩
  · rename_i h
    split
    · exact ⟨by decide, by omega⟩
    · exact ⟨Int.mul_nonneg a0 b0, mul_le_of (by omega) (by omega)⟩
def altF (g : Nat → Int) (n0 : Int) (l : List Int) : Int := l.foldl (fun n k => if 0 ≤ k then mulN n (g k.toNat) else n) n0
def altsF (g : Nat → Int) (s0 : Int) (l : List Al) : Int := l.foldl (fun s a => addN s (altF g 1 a.kids)) s0
theorem altF_congr {g h : Nat → Int} : ∀ (l : List Int) (n0 : Int), (∀ k : Nat, (k : Int) ∈ l → g k = h k) → altF g n0 l = altF h n0 l
  | [], _, _ => rfl
  | k :: l, n0, hk => by
    have e : (if 0 ≤ k then mulN n0 (g k.toNat) else n0) = (if 0 ≤ k then mulN n0 (h k.toNat) else n0) := by
      split
      · rename_i h0; rw [hk k.toNat (by rw [Int.toNat_of_nonneg h0]; simp)]
      · rfl
    simp only [altF, List.foldl_cons, e]
    exact altF_congr l _ fun k hm => hk k (by simp [hm])
theorem altsF_congr {g h : Nat → Int} : ∀ (l : List Al) (s0 : Int), (∀ a ∈ l, ∀ k : Nat, (k : Int) ∈ a.kids → g k = h k) → altsF g s0 l = altsF h s0 l
  | [], _, _ => rfl
  | a :: l, s0, hk => by
    simp only [altsF, List.foldl_cons, altF_congr a.kids 1 (hk a (by simp))]
    exact altsF_congr l _ fun a hm => hk a (by simp [hm])
theorem altF_is {g : Nat → Int} : ∀ (l : List Int) (n0 : Int), isN n0 → (∀ k : Nat, (k : Int) ∈ l → isN (g k)) → isN (altF g n0 l)
  | [], _, h, _ => h
  | k :: l, n0, h, hk => by
    simp only [altF, List.foldl_cons]
    refine altF_is l _ ?_ fun k hm => hk k (by simp [hm])
    split
    · rename_i h0; exact mulN_is h (hk k.toNat (by rw [Int.toNat_of_nonneg h0]; simp))
    · exact h
theorem altsF_is {g : Nat → Int} : ∀ (l : List Al) (s0 : Int), isN s0 → (∀ a ∈ l, ∀ k : Nat, (k : Int) ∈ a.kids → isN (g k)) → isN (altsF g s0 l)
  | [], _, h, _ => h
  | a :: l, s0, h, hk => by
    simp only [altsF, List.foldl_cons]
    exact altsF_is l _ (addN_is h (altF_is _ _ ⟨by decide, by decide⟩ (hk a (by simp)))) fun a hm => hk a (by simp [hm])
theorem trees_ex (f : Fo) : ∃ T : Nat → Int, ∀ i, WF f i → T i = altsF T 0 (altsOf f i) :=
  recT (fun g i => altsF g 0 (altsOf f i)) fun g h i hk => altsF_congr _ _ fun a ha k hm => hk k ⟨a, ha, hm⟩
noncomputable def trees (f : Fo) : Nat → Int := Classical.choose (trees_ex f)
theorem trees_eq {f : Fo} {i : Nat} (h : WF f i) : trees f i = altsF (trees f) 0 (altsOf f i) := Classical.choose_spec (trees_ex f) i h
theorem trees_is {f : Fo} {i : Nat} (h : WF f i) : isN (trees f i) := by
  induction h with
  | @mk i hi hk hs ih => rw [trees_eq (.mk hi hk hs)]; exact altsF_is _ _ ⟨by decide, by decide⟩ fun a ha k hm => ih k ⟨a, ha, hm⟩
/-! ### how deep -/
def depK (g : Nat → Int) (d0 : Int) (l : List Int) : Int := l.foldl (fun d k => if 0 ≤ k then max d (g k.toNat) else d) d0
def depA (g : Nat → Int) (d0 : Int) (l : List Al) : Int := l.foldl (fun d a => depK g d a.kids) d0
theorem depK_congr {g h : Nat → Int} : ∀ (l : List Int) (n0 : Int), (∀ k : Nat, (k : Int) ∈ l → g k = h k) → depK g n0 l = depK h n0 l
  | [], _, _ => rfl
  | k :: l, n0, hk => by
    have e : (if 0 ≤ k then max n0 (g k.toNat) else n0) = (if 0 ≤ k then max n0 (h k.toNat) else n0) := by
      split
      · rename_i h0; rw [hk k.toNat (by rw [Int.toNat_of_nonneg h0]; simp)]
      · rfl
    simp only [depK, List.foldl_cons, e]
    exact depK_congr l _ fun k hm => hk k (by simp [hm])
theorem depA_congr {g h : Nat → Int} : ∀ (l : List Al) (s0 : Int), (∀ a ∈ l, ∀ k : Nat, (k : Int) ∈ a.kids → g k = h k) → depA g s0 l = depA h s0 l
  | [], _, _ => rfl
  | a :: l, s0, hk => by
    simp only [depA, List.foldl_cons, depK_congr a.kids s0 (hk a (by simp))]
    exact depA_congr l _ fun a hm => hk a (by simp [hm])
theorem depth_ex (f : Fo) : ∃ T : Nat → Int, ∀ i, WF f i → T i = depA T 0 (altsOf f i) + 1 :=
  recT (fun g i => depA g 0 (altsOf f i) + 1) fun g h i hk => by rw [depA_congr _ _ fun a ha k hm => hk k ⟨a, ha, hm⟩]
noncomputable def depth (f : Fo) : Nat → Int := Classical.choose (depth_ex f)
theorem depth_eq {f : Fo} {i : Nat} (h : WF f i) : depth f i = depA (depth f) 0 (altsOf f i) + 1 := Classical.choose_spec (depth_ex f) i h
theorem depK_b {g : Nat → Int} {m : Int} : ∀ (l : List Int) (d0 : Int), 0 ≤ d0 → d0 ≤ m → (∀ k : Nat, (k : Int) ∈ l → g k ≤ m) → 0 ≤ depK g d0 l ∧ depK g d0 l ≤ m
  | [], _, h0, h, _ => ⟨h0, h⟩
  | k :: l, d0, h0, h, hk => by
    simp only [depK, List.foldl_cons]
    refine depK_b l _ ?_ ?_ fun k hm => hk k (by simp [hm])
    · split <;> omega
    · split
      · rename_i hk0; have := hk k.toNat (by rw [Int.toNat_of_nonneg hk0]; simp); omega
      · exact h
theorem depA_b {g : Nat → Int} {m : Int} : ∀ (l : List Al) (d0 : Int), 0 ≤ d0 → d0 ≤ m → (∀ a ∈ l, ∀ k : Nat, (k : Int) ∈ a.kids → g k ≤ m) → 0 ≤ depA g d0 l ∧ depA g d0 l ≤ m
  | [], _, h0, h, _ => ⟨h0, h⟩
  | a :: l, d0, h0, h, hk => by
    simp only [depA, List.foldl_cons]
    have := depK_b a.kids d0 h0 h (hk a (by simp))
    exact depA_b l _ this.1 this.2 fun a hm => hk a (by simp [hm])
theorem Topo.depth {f : Fo} {l : List Nat} (h : Topo f l) : ∀ i ∈ l, 1 ≤ depth f i ∧ depth f i ≤ l.length := by
  induction h with
  | nil => simp
  | @snoc l j h hi hn hb hk ih =>
    intro i hm
    simp only [List.mem_append, List.mem_singleton] at hm
    rcases hm with hm | rfl
    · have := ih i hm; simp only [List.length_append, List.length_singleton]; omega
    · have hw : WF f i := .mk hi hb fun k hh => h.wf k (hk k hh)
      rw [depth_eq hw]
      have := depA_b (g := Ab.depth f) (m := l.length) (altsOf f i) 0 (by omega) (by omega) fun a ha k hm => (ih k (hk k ⟨a, ha, hm⟩)).2
      simp only [List.length_append, List.length_singleton]; omega
end Go.Proofs.Ytnlmfhnjjblhoaa.Ab

/- Abstract values, what they stand for in a world, and the invariant of a walk over them. No condition. -/
import Derived.Tactics
import Derived.Orders
import Derived.Deep.LoopGhost
import Derived.Below
import Derived.KernelRfl
set_option linter.unusedVariables false
set_option linter.unusedSimpArgs false
namespace Go.Proofs.Ytafncdbkbmaifaa.Ab

/-- One cell's (or an aggregate's) value, without addresses: what is frozen stands as a tree. -/
inductive A where
  | any
  | bool (b : Bool)
  | int (k : IntKind) (n : Int)
  | str (s : ByteArray)
  | nils
  | nilp
  | nilf
  | pp (cs : List A)
  | cp (cs : List A)
  | tref (b t : Nat)
  | town (t : Nat) (ob : Option Nat) (n cap : Nat)
  | ref (b off : Nat)
  | psl (n : Nat) (cs : List A)
  | own (ob : Option Nat) (n cap : Nat)
  | fn (f : Nat) (cap : List A)
  | agg (cs : List A)
  | tup (cs : List A)
  | mp (ks : List (List Int))
  | mr (b : Nat)
  deriving Inhabited

/-- May stand in one cell. -/
def A.isCell : A → Bool
  | .any | .agg _ | .tup _ => false
  | _ => true

/-- What is frozen: of each block its cells, of maps that say yes to rows of numbers which rows, which blocks bear no mark, and of which type blocks are. -/
structure Gh where
  Z : Nat → List Value
  Y : Nat → Option (List (List Int)) := fun _ => none
  U : Nat → Prop := fun _ => False
  W : Nat → Option Nat := fun _ => none

def Gh.le (G G' : Gh) : Prop := (∀ b, G.Z b <+: G'.Z b) ∧ (∀ b ks, G.Y b = some ks → G'.Y b = some ks) ∧ (∀ b, G.U b → G'.U b) ∧ ∀ b t, G.W b = some t → G'.W b = some t
theorem Gh.le_refl (G : Gh) : G.le G := ⟨fun _ => List.prefix_refl _, fun _ _ h => h, fun _ h => h, fun _ _ h => h⟩
theorem Gh.le_trans {G G' G'' : Gh} (h : G.le G') (h' : G'.le G'') : G.le G'' := ⟨fun b => (h.1 b).trans (h'.1 b), fun b ks e => h'.2.1 b ks (h.2.1 b ks e), fun b e => h'.2.2.1 b (h.2.2.1 b e), fun b t e => h'.2.2.2 b t (h.2.2.2 b t e)⟩
/-- A row of numbers, as a map's key. -/
def keyV (k : List Int) : Value := .agg (k.map (Value.int .i64)).toArray
def intView : Value → Option Int
  | .int .i64 n => some n
  | _ => none
def keyView : Value → Option (List Int)
  | .agg cs => cs.toList.mapM intView
  | _ => none
/-- Which rows of numbers a map says yes to; none: it is no such map. -/
def mapView : List MapEntry → Option (List (List Int))
  | [] => some []
  | e :: es => match keyView e.key, e.val with
    | some k, .bool true => (mapView es).map (k :: ·)
    | _, _ => none

def At (G : Gh) (b off : Nat) (vs : List Value) : Prop := vs <+: (G.Z b).drop off

theorem At.mono {G G' : Gh} (h : G.le G') {b off : Nat} {vs : List Value} (ha : At G b off vs) : At G' b off vs := by
  obtain ⟨t, ht⟩ := h.1 b
  obtain ⟨u, hu⟩ := ha
  unfold At
  by_cases hl : off ≤ (G.Z b).length
  · refine ⟨u ++ t, ?_⟩
    rw [← ht, List.drop_append_of_le_length hl, ← hu, List.append_assoc]
  · have : (G.Z b).drop off = [] := List.drop_eq_nil_of_le (by omega)
    rw [this] at hu
    have : vs = [] := by cases vs <;> simp_all
    subst this
    exact List.nil_prefix

mutual
def Rep (G : Gh) : A → Value → Prop
  | .any, _ => True
  | .bool b, v => v = .bool b
  | .int k n, v => v = .int k n
  | .str s, v => v = .string s
  | .nils, v => v = .slice none 0 0
  | .nilp, v => v = .pointer none
  | .nilf, v => v = .nilFunc
  | .pp cs, v => ∃ b off vs, v = .pointer (some ⟨b, off, none⟩) ∧ At G b off vs ∧ RepL G cs vs
  | .cp cs, v => ∃ b off vs, v = .pointer (some ⟨b, off, none⟩) ∧ At G b off vs ∧ RepL G cs vs ∧ G.U b
  | .tref b t, v => v = .pointer (some ⟨b, 0, none⟩) ∧ G.W b = some t
  | .town t ob n cap, v => (match ob with
    | none => v = .slice none 0 0 ∧ n = 0 ∧ cap = 0
    | some b => v = .slice (some ⟨b, 0, none⟩) n cap) ∧ ∀ b, ob = some b → G.W b = some t
  | .ref b off, v => v = .pointer (some ⟨b, off, none⟩)
  | .psl n cs, v => ∃ a cap, v = .slice a n cap ∧ n ≤ cap ∧ (0 < cap → a ≠ none) ∧ ∃ vs, RepL G cs vs ∧ (cs = [] ∨ ∃ b off, a = some ⟨b, off, none⟩ ∧ At G b off vs)
  | .own ob n cap, v => match ob with
    | none => v = .slice none 0 0 ∧ n = 0 ∧ cap = 0
    | some b => v = .slice (some ⟨b, 0, none⟩) n cap
  | .fn f cap, v => ∃ vs : List Value, v = .func (.func f) #[] vs.toArray ∧ RepL G cap vs
  | .agg cs, v => ∃ vs : List Value, v = .agg vs.toArray ∧ RepL G cs vs
  | .tup cs, v => ∃ vs : List Value, v = .tuple vs.toArray ∧ RepL G cs vs
  | .mp ks, v => ∃ b, v = .map (some b) ∧ G.Y b = some ks
  | .mr b, v => v = .map (some b)
def RepL (G : Gh) : List A → List Value → Prop
  | [], vs => vs = []
  | c :: cs, vs => ∃ v vs', vs = v :: vs' ∧ Rep G c v ∧ RepL G cs vs'
end

mutual
theorem Rep.mono {G G' : Gh} (h : G.le G') : ∀ (x : A) (v : Value), Rep G x v → Rep G' x v
  | .any, _, _ => by simp [Rep]
  | .bool b, v, hv => by simpa [Rep] using hv
  | .int k n, v, hv => by simpa [Rep] using hv
  | .str s, v, hv => by simpa [Rep] using hv
  | .nils, v, hv => by simpa [Rep] using hv
  | .nilp, v, hv => by simpa [Rep] using hv
  | .nilf, v, hv => by simpa [Rep] using hv
  | .pp cs, v, hv => by
    simp only [Rep] at hv ⊢
    obtain ⟨b, off, vs, e, ha, hl⟩ := hv
    exact ⟨b, off, vs, e, ha.mono h, RepL.mono h cs vs hl⟩
  | .cp cs, v, hv => by
    simp only [Rep] at hv ⊢
    obtain ⟨b, off, vs, e, ha, hl, hu⟩ := hv
    exact ⟨b, off, vs, e, ha.mono h, RepL.mono h cs vs hl, h.2.2.1 b hu⟩
  | .tref b t, v, hv => by
    simp only [Rep] at hv ⊢
    exact ⟨hv.1, h.2.2.2 b t hv.2⟩
  | .town t ob n cap, v, hv => by
    simp only [Rep] at hv ⊢
    exact ⟨hv.1, fun b e => h.2.2.2 b t (hv.2 b e)⟩
  | .ref b off, v, hv => by simpa [Rep] using hv
  | .psl n cs, v, hv => by
    simp only [Rep] at hv ⊢
    obtain ⟨a, cap, e, hn, h0, vs, hl, hz⟩ := hv
    refine ⟨a, cap, e, hn, h0, vs, RepL.mono h cs vs hl, ?_⟩
    rcases hz with hz | ⟨b, off, e', ha⟩
    · exact .inl hz
    · exact .inr ⟨b, off, e', ha.mono h⟩
  | .own ob n cap, v, hv => by simpa [Rep] using hv
  | .fn f cap, v, hv => by
    simp only [Rep] at hv ⊢
    obtain ⟨vs, e, hl⟩ := hv
    exact ⟨vs, e, RepL.mono h cap vs hl⟩
  | .agg cs, v, hv => by
    simp only [Rep] at hv ⊢
    obtain ⟨vs, e, hl⟩ := hv
    exact ⟨vs, e, RepL.mono h cs vs hl⟩
  | .tup cs, v, hv => by
    simp only [Rep] at hv ⊢
    obtain ⟨vs, e, hl⟩ := hv
    exact ⟨vs, e, RepL.mono h cs vs hl⟩
  | .mp ks, v, hv => by
    simp only [Rep] at hv ⊢
    obtain ⟨b, e, hy⟩ := hv
    exact ⟨b, e, h.2.1 b ks hy⟩
  | .mr b, v, hv => by simpa [Rep] using hv
theorem RepL.mono {G G' : Gh} (h : G.le G') : ∀ (cs : List A) (vs : List Value), RepL G cs vs → RepL G' cs vs
  | [], vs, hv => by simpa [RepL] using hv
  | c :: cs, vs, hv => by
    simp only [RepL] at hv ⊢
    obtain ⟨v, vs', e, h1, h2⟩ := hv
    exact ⟨v, vs', e, Rep.mono h c v h1, RepL.mono h cs vs' h2⟩
end

theorem RepL.nil {G : Gh} : RepL G [] [] := rfl
theorem RepL.cons {G : Gh} {c : A} {cs : List A} {v : Value} {vs : List Value} (h : Rep G c v) (hl : RepL G cs vs) : RepL G (c :: cs) (v :: vs) := ⟨v, vs, rfl, h, hl⟩

theorem RepL.length {G : Gh} {cs : List A} : ∀ {vs : List Value}, RepL G cs vs → vs.length = cs.length := by
  induction cs with
  | nil => intro vs h; simp [RepL] at h; simp [h]
  | cons c cs ih =>
    intro vs h
    obtain ⟨v, vs', rfl, _, hl⟩ := h
    simp [ih hl]

theorem RepL.append {G : Gh} {cs ds : List A} : ∀ {vs ws : List Value}, RepL G cs vs → RepL G ds ws → RepL G (cs ++ ds) (vs ++ ws) := by
  induction cs with
  | nil => intro vs ws h h'; simp [RepL] at h; subst h; simpa using h'
  | cons c cs ih =>
    intro vs ws h h'
    obtain ⟨v, vs', rfl, h1, hl⟩ := h
    exact ⟨v, vs' ++ ws, rfl, h1, ih hl h'⟩

theorem RepL.append_inv {G : Gh} {cs ds : List A} : ∀ {vs : List Value}, RepL G (cs ++ ds) vs → ∃ v1 v2, vs = v1 ++ v2 ∧ RepL G cs v1 ∧ RepL G ds v2 := by
  induction cs with
  | nil => intro vs h; exact ⟨[], vs, rfl, rfl, h⟩
  | cons c cs ih =>
    intro vs h
    obtain ⟨v, vs', rfl, h1, hl⟩ := h
    obtain ⟨v1, v2, rfl, h2, h3⟩ := ih hl
    exact ⟨v :: v1, v2, rfl, ⟨v, v1, rfl, h1, h2⟩, h3⟩

theorem RepL.drop {G : Gh} : ∀ (n : Nat) {cs : List A} {vs : List Value}, RepL G cs vs → RepL G (cs.drop n) (vs.drop n)
  | 0, cs, vs, h => by simpa using h
  | n + 1, [], vs, h => by simp [RepL] at h; subst h; simp [RepL]
  | n + 1, c :: cs, vs, h => by
    obtain ⟨v, vs', rfl, _, hl⟩ := h
    simpa using RepL.drop n hl

theorem RepL.take {G : Gh} : ∀ (n : Nat) {cs : List A} {vs : List Value}, RepL G cs vs → RepL G (cs.take n) (vs.take n)
  | 0, cs, vs, h => by simp [RepL]
  | n + 1, [], vs, h => by simp [RepL] at h; subst h; simp [RepL]
  | n + 1, c :: cs, vs, h => by
    obtain ⟨v, vs', rfl, h1, hl⟩ := h
    exact ⟨v, vs'.take n, by simp, h1, RepL.take n hl⟩

theorem RepL.at {G : Gh} {cs : List A} : ∀ {vs : List Value} (i : Nat) {c : A}, RepL G cs vs → cs[i]? = some c → ∃ v, vs[i]? = some v ∧ Rep G c v := by
  induction cs with
  | nil => intro vs i c h hc; simp at hc
  | cons d cs ih =>
    intro vs i c h hc
    obtain ⟨v, vs', rfl, h1, hl⟩ := h
    cases i with
    | zero => simp at hc; subst hc; exact ⟨v, by simp, h1⟩
    | succ i => simp at hc; simpa using ih i hl hc

theorem RepL.set {G : Gh} {cs : List A} : ∀ {vs : List Value} (i : Nat) {c : A} {v : Value}, RepL G cs vs → Rep G c v → RepL G (cs.set i c) (vs.set i v) := by
  induction cs with
  | nil => intro vs i c v h _; simp [RepL] at h; subst h; simp [RepL]
  | cons d cs ih =>
    intro vs i c v h hc
    obtain ⟨u, vs', rfl, h1, hl⟩ := h
    cases i with
    | zero => exact ⟨v, vs', rfl, hc, hl⟩
    | succ i => exact ⟨u, vs'.set i v, rfl, h1, ih i hl hc⟩

theorem Rep.oneCell {G : Gh} {x : A} {v : Value} (h : Rep G x v) (hx : x.isCell = true) : v.cells = #[v] ∧ v.oneCell' = true := by
  cases x <;> simp [A.isCell] at hx <;> simp only [Rep] at h
  case own ob n cap =>
    cases ob with
    | none => obtain ⟨rfl, _⟩ := h; exact ⟨rfl, rfl⟩
    | some b => simp only at h; subst h; exact ⟨rfl, rfl⟩
  case pp cs => obtain ⟨b, off, vs, rfl, _⟩ := h; exact ⟨rfl, rfl⟩
  case cp cs => obtain ⟨b, off, vs, rfl, _⟩ := h; exact ⟨rfl, rfl⟩
  case tref b t => obtain ⟨rfl, _⟩ := h; exact ⟨rfl, rfl⟩
  case town t ob n cap =>
    cases ob with
    | none => obtain ⟨⟨rfl, _⟩, _⟩ := h; exact ⟨rfl, rfl⟩
    | some b => obtain ⟨h, _⟩ := h; simp only at h; subst h; exact ⟨rfl, rfl⟩
  case psl n cs => obtain ⟨a, cap, rfl, _⟩ := h; exact ⟨rfl, rfl⟩
  case fn f cap => obtain ⟨vs, rfl, _⟩ := h; exact ⟨rfl, rfl⟩
  case mp ks => obtain ⟨b, rfl, _⟩ := h; exact ⟨rfl, rfl⟩
  all_goals (subst h; exact ⟨rfl, rfl⟩)

/-! ### The world -/
structure Ob where
  b : Option Nat
  room : Nat
  cs : List A

structure Ctx where
  w0 : World
  own0 : List Nat
  g0 : Gh

structure Ok (K : Ctx) (G : Gh) (M : List Ob) (w : World) : Prop where
  g : K.g0.le G
  os : w.os = K.w0.os
  tape : w.tape = K.w0.tape
  output : w.output = K.w0.output
  size : K.w0.heap.size ≤ w.heap.size
  fr : ∀ k, k < K.w0.heap.size → k ∉ K.own0 → w.heap[k]? = K.w0.heap[k]?
  fz : ∀ b, G.Z b ≠ [] → ∃ c t f, w.heap[b]? = some (.cells c t f) ∧ G.Z b <+: c.toList
  ow : ∀ o ∈ M, ∀ b, o.b = some b → ∃ vs sp t, w.heap[b]? = some (.cells (vs ++ sp).toArray t (0, 0)) ∧ RepL G o.cs vs ∧ vs.length + sp.length = o.room
  vn : ∀ o ∈ M, o.b = none → o.cs = [] ∧ o.room = 0
  un : ∀ o ∈ M, ∀ b, o.b = some b → G.Z b = []
  kb : ∀ o ∈ M, ∀ b, o.b = some b → b ∈ K.own0 ∨ K.w0.heap.size ≤ b
  nd : (M.filterMap (·.b)).Nodup
  mz : ∀ b ks, G.Y b = some ks → (∃ es c, w.heap[b]? = some (.map es c) ∧ mapView es.toList = some ks) ∧ (b < K.w0.heap.size → K.g0.Y b = some ks)
  um : ∀ b, G.U b → G.Z b ≠ [] ∧ ∃ c t, w.heap[b]? = some (.cells c t (0, 0))
  wt : ∀ b t, G.W b = some t → ∃ c f, w.heap[b]? = some (.cells c t f)

theorem Ok.lt {K : Ctx} {G : Gh} {M : List Ob} {w : World} (h : Ok K G M w) {o : Ob} (ho : o ∈ M) {b : Nat} (hb : o.b = some b) : b < w.heap.size := by
  obtain ⟨vs, sp, t, hh, _⟩ := h.ow o ho b hb
  exact (Array.getElem?_eq_some_iff.1 hh).1
theorem Ok.zlt {K : Ctx} {G : Gh} {M : List Ob} {w : World} (h : Ok K G M w) {b : Nat} (hb : G.Z b ≠ []) : b < w.heap.size := by
  obtain ⟨c, t, f, hh, _⟩ := h.fz b hb
  exact (Array.getElem?_eq_some_iff.1 hh).1

theorem Ok.ylt {K : Ctx} {G : Gh} {M : List Ob} {w : World} (h : Ok K G M w) {b : Nat} {ks : List (List Int)} (hb : G.Y b = some ks) : b < w.heap.size := by
  obtain ⟨es, c, hh, _⟩ := (h.mz b ks hb).1
  exact (Array.getElem?_eq_some_iff.1 hh).1

theorem Ok.wlt {K : Ctx} {G : Gh} {M : List Ob} {w : World} (h : Ok K G M w) {b t : Nat} (hb : G.W b = some t) : b < w.heap.size := by
  obtain ⟨c, f, hh⟩ := h.wt b t hb
  exact (Array.getElem?_eq_some_iff.1 hh).1
theorem Ok.drew {K : Ctx} {G : Gh} {M : List Ob} {w : World} (h : Ok K G M w) : Ok K G M w.drew :=
  ⟨h.g, h.os, h.tape, h.output, h.size, h.fr, h.fz, h.ow, h.vn, h.un, h.kb, h.nd, h.mz, h.um, h.wt⟩

/-- Cells that are frozen are read. -/
theorem Ok.cell {K : Ctx} {G : Gh} {M : List Ob} {w : World} (h : Ok K G M w) {b off : Nat} {vs : List Value} (ha : At G b off vs) {i : Nat} {v : Value} (hi : vs[i]? = some v) : w.cell? ⟨b, off + i, none⟩ = some v := by
  have hlt : i < vs.length := (List.getElem?_eq_some_iff.1 hi).1
  obtain ⟨u, hu⟩ := ha
  have hz : G.Z b ≠ [] := by
    intro he
    rw [he] at hu
    simp at hu
    simp [hu.1] at hlt
  obtain ⟨c, t, f, hh, r, hr⟩ := h.fz b hz
  have e1 : (G.Z b)[off + i]? = some v := by
    rw [← List.getElem?_drop, ← hu, List.getElem?_append_left hlt, hi]
  have e2 : c[off + i]? = some v := by
    rw [← Array.getElem?_toList, ← hr, List.getElem?_append_left (List.getElem?_eq_some_iff.1 e1).1, e1]
  simp [World.cell?, hh, e2]

/-- Cells of an object are read. -/
theorem Ok.ocell {K : Ctx} {G : Gh} {M : List Ob} {w : World} (h : Ok K G M w) {o : Ob} (ho : o ∈ M) {b : Nat} (hb : o.b = some b) : ∃ vs, RepL G o.cs vs ∧ ∀ i v, vs[i]? = some v → w.cell? ⟨b, i, none⟩ = some v := by
  obtain ⟨vs, sp, t, hh, hl, _⟩ := h.ow o ho b hb
  refine ⟨vs, hl, fun i v hi => ?_⟩
  have hlt : i < vs.length := (List.getElem?_eq_some_iff.1 hi).1
  simp [World.cell?, hh, List.getElem?_append_left hlt, hi]

def Gh.freeze (G : Gh) (b : Nat) (vs : List Value) : Gh := ⟨fun k => if k = b then vs else G.Z k, G.Y, G.U, G.W⟩
theorem Gh.freeze_le {G : Gh} {b : Nat} {vs : List Value} (h : G.Z b = []) : G.le (G.freeze b vs) := by
  refine ⟨fun k => ?_, fun k ks e => e, fun k e => e, fun k t e => e⟩
  by_cases hk : k = b
  · subst hk; simp [Gh.freeze, h]
  · simp [Gh.freeze, hk]
theorem Gh.at_freeze (G : Gh) (b : Nat) (vs : List Value) : At (G.freeze b vs) b 0 vs := by simp [At, Gh.freeze]

/-- A new block that nobody writes any more. -/
theorem Ok.alloc_frozen {K : Ctx} {G : Gh} {M : List Ob} {w : World} (h : Ok K G M w) (vs : List Value) (t : TypeId) :
    G.Z w.heap.size = [] ∧ Ok K (G.freeze w.heap.size vs) M (w.alloc (.cells vs.toArray t)) := by
  have hz : G.Z w.heap.size = [] := by
    apply Classical.byContradiction
    intro hne
    exact absurd (h.zlt hne) (Nat.lt_irrefl _)
  have hle := Gh.freeze_le (vs := vs) hz
  refine ⟨hz, ⟨Gh.le_trans h.g hle, h.os, h.tape, h.output, Nat.le_trans h.size (by simp), ?_, ?_, ?_, h.vn, ?_, h.kb, h.nd, fun b ks e => ?_, fun b hu => ?_, fun b t' e => ?_⟩⟩
  · intro k hk ho
    rw [RowKit.Below.heap_alloc _ _ _ (Nat.lt_of_lt_of_le hk h.size)]
    exact h.fr k hk ho
  · intro b hb
    by_cases e : b = w.heap.size
    · subst e
      refine ⟨vs.toArray, t, (0, 0), ?_, by simp [Gh.freeze]⟩
      show (w.heap.push _)[w.heap.size]? = _
      simp
    · simp only [Gh.freeze, if_neg e] at hb
      obtain ⟨c, t', f, hh, hp⟩ := h.fz b hb
      refine ⟨c, t', f, ?_, by simpa [Gh.freeze, e] using hp⟩
      rw [RowKit.Below.heap_alloc _ _ _ (h.zlt hb)]
      exact hh
  · intro o ho b hb
    obtain ⟨us, sp, t', hh, hl, hr⟩ := h.ow o ho b hb
    refine ⟨us, sp, t', ?_, hl.mono hle _ _, hr⟩
    rw [RowKit.Below.heap_alloc _ _ _ (h.lt ho hb)]
    exact hh
  · intro o ho b hb
    have : b ≠ w.heap.size := Nat.ne_of_lt (h.lt ho hb)
    simp [Gh.freeze, this, h.un o ho b hb]
  · rw [RowKit.Below.heap_alloc _ _ _ (h.ylt e)]
    exact h.mz b ks e
  · obtain ⟨h1, c, t', h2⟩ := h.um b hu
    have hlt := h.zlt h1
    refine ⟨?_, c, t', by rw [RowKit.Below.heap_alloc _ _ _ hlt]; exact h2⟩
    show (if b = w.heap.size then vs else G.Z b) ≠ []
    rw [if_neg (by omega)]; exact h1
  · rw [RowKit.Below.heap_alloc _ _ _ (h.wlt e)]; exact h.wt b t' e

/-- A new block of one's own. -/
theorem Ok.alloc_own {K : Ctx} {G : Gh} {M : List Ob} {w : World} (h : Ok K G M w) (cs : List A) (vs sp : List Value) (t : TypeId) (room : Nat) (hl : RepL G cs vs) (hr : vs.length + sp.length = room) :
    Ok K G (M ++ [⟨some w.heap.size, room, cs⟩]) (w.alloc (.cells (vs ++ sp).toArray t)) := by
  have hz : G.Z w.heap.size = [] := by
    apply Classical.byContradiction
    intro hne
    exact absurd (h.zlt hne) (Nat.lt_irrefl _)
  refine ⟨h.g, h.os, h.tape, h.output, Nat.le_trans h.size (by simp), ?_, ?_, ?_, ?_, ?_, ?_, ?_, fun b ks e => by rw [RowKit.Below.heap_alloc _ _ _ (h.ylt e)]; exact h.mz b ks e, fun b hu => by
    obtain ⟨h1, c, t', h2⟩ := h.um b hu
    exact ⟨h1, c, t', by rw [RowKit.Below.heap_alloc _ _ _ (h.zlt h1)]; exact h2⟩, fun b t' e => by rw [RowKit.Below.heap_alloc _ _ _ (h.wlt e)]; exact h.wt b t' e⟩
  · intro k hk ho
    rw [RowKit.Below.heap_alloc _ _ _ (Nat.lt_of_lt_of_le hk h.size)]
    exact h.fr k hk ho
  · intro b hb
    obtain ⟨c, t', f, hh, hp⟩ := h.fz b hb
    refine ⟨c, t', f, ?_, hp⟩
    rw [RowKit.Below.heap_alloc _ _ _ (h.zlt hb)]
    exact hh
  · intro o ho b hb
    rcases List.mem_append.1 ho with ho | ho
    · obtain ⟨us, sp', t', hh, hl', hr'⟩ := h.ow o ho b hb
      refine ⟨us, sp', t', ?_, hl', hr'⟩
      rw [RowKit.Below.heap_alloc _ _ _ (h.lt ho hb)]
      exact hh
    · simp only [List.mem_singleton] at ho
      subst ho
      simp only [Option.some.injEq] at hb
      subst hb
      refine ⟨vs, sp, t, ?_, hl, hr⟩
      show (w.heap.push _)[w.heap.size]? = _
      simp
  · intro o ho hb
    rcases List.mem_append.1 ho with ho | ho
    · exact h.vn o ho hb
    · simp only [List.mem_singleton] at ho
      subst ho
      simp at hb
  · intro o ho b hb
    rcases List.mem_append.1 ho with ho | ho
    · exact h.un o ho b hb
    · simp only [List.mem_singleton] at ho
      subst ho
      simp only [Option.some.injEq] at hb
      subst hb
      exact hz
  · intro o ho b hb
    rcases List.mem_append.1 ho with ho | ho
    · exact h.kb o ho b hb
    · simp only [List.mem_singleton] at ho
      subst ho
      simp only [Option.some.injEq] at hb
      subst hb
      exact .inr h.size
  · rw [List.filterMap_append, List.nodup_append]
    refine ⟨h.nd, by simp, ?_⟩
    intro x hx y hy
    simp at hy
    subst hy
    obtain ⟨o, ho, hb⟩ := List.mem_filterMap.1 hx
    exact Nat.ne_of_lt (h.lt ho hb)

/-- An object's cells are set anew (its block as told). -/
theorem Ok.update {K : Ctx} {G : Gh} {M : List Ob} {w w' : World} (h : Ok K G M w) {i : Nat} {o : Ob} (ho : M[i]? = some o) {b : Nat} (hb : o.b = some b) (cs : List A)
    (hw : w'.os = w.os ∧ w'.tape = w.tape ∧ w'.output = w.output ∧ w'.heap.size = w.heap.size ∧ ∀ k, k ≠ b → w'.heap[k]? = w.heap[k]?)
    (hc : ∃ vs sp t, w'.heap[b]? = some (.cells (vs ++ sp).toArray t (0, 0)) ∧ RepL G cs vs ∧ vs.length + sp.length = o.room)
    (htt : ∀ c t f, w.heap[b]? = some (.cells c t f) → ∃ c' f', w'.heap[b]? = some (.cells c' t f')) :
    Ok K G (M.set i ⟨some b, o.room, cs⟩) w' := by
  obtain ⟨h1, h2, h3, h4, h5⟩ := hw
  have hmem : o ∈ M := List.mem_of_getElem? ho
  have hlt : i < M.length := (List.getElem?_eq_some_iff.1 ho).1
  have hk := h.kb o hmem b hb
  have hu := h.un o hmem b hb
  have hfm : (M.set i ⟨some b, o.room, cs⟩).filterMap (·.b) = M.filterMap (·.b) := by
    have : ∀ (M : List Ob) (i : Nat), M[i]? = some o → (M.set i ⟨some b, o.room, cs⟩).filterMap (·.b) = M.filterMap (·.b) := by
      intro M
      induction M with
      | nil => intro i hi; simp at hi
      | cons x M ih =>
        intro i hi
        cases i with
        | zero => simp at hi; subst hi; simp [hb]
        | succ i => simp at hi; simp [List.filterMap_cons, ih i hi]
    exact this M i ho
  -- another object is of another block
  have other : ∀ o' ∈ M.set i ⟨some b, o.room, cs⟩, ∀ b', o'.b = some b' → b' = b ∧ o' = ⟨some b, o.room, cs⟩ ∨ b' ≠ b ∧ o' ∈ M := by
    intro o' ho' b' hb'
    obtain ⟨j, hj⟩ := List.getElem?_of_mem ho'
    by_cases e : i = j
    · subst e
      rw [List.getElem?_set_self hlt] at hj
      obtain rfl := Option.some.inj hj
      simp at hb'
      exact .inl ⟨hb'.symm, rfl⟩
    · rw [List.getElem?_set_ne e] at hj
      refine .inr ⟨?_, List.mem_of_getElem? hj⟩
      intro hbb
      subst hbb
      have : ∀ (M : List Ob) (i j : Nat), i ≠ j → M[i]? = some o → M[j]? = some o' → (M.filterMap (·.b)).Nodup → False := by
        intro M
        induction M with
        | nil => intro i j _ hi; simp at hi
        | cons x M ih =>
          intro i j hne hi hj hnd
          cases i with
          | zero =>
            cases j with
            | zero => exact hne rfl
            | succ j =>
              simp at hi hj
              subst hi
              simp only [List.filterMap_cons, hb, List.nodup_cons] at hnd
              exact hnd.1 (List.mem_filterMap.2 ⟨o', List.mem_of_getElem? hj, hb'⟩)
          | succ i =>
            cases j with
            | zero =>
              simp at hi hj
              subst hj
              simp only [List.filterMap_cons, hb', List.nodup_cons] at hnd
              exact hnd.1 (List.mem_filterMap.2 ⟨o, List.mem_of_getElem? hi, hb⟩)
            | succ j =>
              simp at hi hj
              have hnd' : (M.filterMap (·.b)).Nodup := by
                cases hx : x.b with
                | none => simpa [List.filterMap_cons, hx] using hnd
                | some y => simp only [List.filterMap_cons, hx, List.nodup_cons] at hnd; exact hnd.2
              exact ih i j (by omega) hi hj hnd'
      exact this M i j e ho hj h.nd
  refine ⟨h.g, h1.trans h.os, h2.trans h.tape, h3.trans h.output, by rw [h4]; exact h.size, ?_, ?_, ?_, ?_, ?_, ?_, by rw [hfm]; exact h.nd, fun k ks e => ?_, fun k hu' => ?_, fun k t e => ?_⟩
  · intro k hk' ho'
    have : k ≠ b := by
      rintro rfl
      rcases hk with hk | hk
      · exact ho' hk
      · omega
    rw [h5 k this]
    exact h.fr k hk' ho'
  · intro k hz
    have : k ≠ b := by
      rintro rfl
      exact hz hu
    obtain ⟨c, t, f, hh, hp⟩ := h.fz k hz
    exact ⟨c, t, f, by rw [h5 k this]; exact hh, hp⟩
  · intro o' ho' b' hb'
    rcases other o' ho' b' hb' with ⟨rfl, rfl⟩ | ⟨hne, hm⟩
    · exact hc
    · obtain ⟨vs, sp, t, hh, hr⟩ := h.ow o' hm b' hb'
      exact ⟨vs, sp, t, by rw [h5 b' hne]; exact hh, hr⟩
  · intro o' ho' hb'
    rcases List.mem_or_eq_of_mem_set ho' with hm | rfl
    · exact h.vn o' hm hb'
    · simp at hb'
  · intro o' ho' b' hb'
    rcases other o' ho' b' hb' with ⟨rfl, rfl⟩ | ⟨hne, hm⟩
    · exact hu
    · exact h.un o' hm b' hb'
  · intro o' ho' b' hb'
    rcases other o' ho' b' hb' with ⟨rfl, rfl⟩ | ⟨hne, hm⟩
    · exact hk
    · exact h.kb o' hm b' hb'
  · obtain ⟨⟨es, c, a1, a2⟩, a0⟩ := h.mz k ks e
    have : k ≠ b := by
      rintro rfl
      obtain ⟨us, sp, t, a3, _⟩ := h.ow o (List.mem_of_getElem? ho) k hb
      rw [a1] at a3; cases a3
    exact ⟨⟨es, c, by rw [h5 k this]; exact a1, a2⟩, a0⟩
  · obtain ⟨a1, c, t, a2⟩ := h.um k hu'
    have : k ≠ b := by rintro rfl; exact a1 hu
    exact ⟨a1, c, t, by rw [h5 k this]; exact a2⟩
  · obtain ⟨c, f, hh⟩ := h.wt k t e
    by_cases this : k = b
    · subst this; exact htt c t f hh
    · exact ⟨c, f, by rw [h5 k this]; exact hh⟩

end Go.Proofs.Ytafncdbkbmaifaa.Ab

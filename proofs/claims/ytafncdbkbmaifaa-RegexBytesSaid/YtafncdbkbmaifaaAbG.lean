/- Lists as rows of cells; sums that fit. Condition: the table of types agrees with the program's. -/
import Derived.Test.YtafncdbkbmaifaaAbE
set_option linter.unusedVariables false
set_option linter.unusedSimpArgs false
namespace Go.Proofs.Ytafncdbkbmaifaa.Ab

def encs {α : Type} (e : α → List A) (l : List α) : List A := l.flatMap e
theorem encs_drop {α : Type} {e : α → List A} {s : Nat} (hs : ∀ x, (e x).length = s) : ∀ (l : List α) (i : Nat), (encs e l).drop (i * s) = encs e (l.drop i)
  | l, 0 => by simp
  | [], i + 1 => by simp [encs]
  | x :: l, i + 1 => by
    have := encs_drop hs l i
    simp only [encs, List.flatMap_cons, List.drop_succ_cons] at this ⊢
    rw [Nat.succ_mul, Nat.add_comm, ← List.drop_drop, show (e x ++ l.flatMap e).drop s = l.flatMap e from by rw [← hs x, List.drop_left]]
    exact this
theorem encs_at {α : Type} {e : α → List A} {s : Nat} (hs : ∀ x, (e x).length = s) {l : List α} {i : Nat} {x : α} (hi : l[i]? = some x) : e x <+: (encs e l).drop (i * s) := by
  rw [encs_drop hs]
  have : l.drop i = x :: l.drop (i + 1) := by
    obtain ⟨h1, h2⟩ := List.getElem?_eq_some_iff.1 hi
    rw [← h2]; exact List.drop_eq_getElem_cons h1
  rw [this]
  simp [encs]
theorem wrap64_small {n : Int} (h0 : -9223372036854775808 ≤ n) (h1 : n ≤ 9223372036854775807) : IntKind.i64.wrap n = n := by
  rw [IntKind.wrap_i64]; omega


section
variable {P : Program} {T : List TI} {N : Nat} {ops : Array Oper} {rest : List Oper} {o : Oper} {Q : Exit → St → Prop} {E F : Env} {M : List Ob}
theorem aops_end {next : St → Prop} {st : St} (h : next st) : AOps P N ops [] (thenA next Q) st := aops_nil h
theorem then_n {next : St → Prop} {st : St} (h : next st) : thenA next Q .normal st := h
theorem block_n {id : Nat} {st : St} (h : Q .normal st) : inBlockA id Q .normal st := h
theorem exit_then {next : St → Prop} {st : St} {i : Nat} (h : Q (.exit i) st) : thenA next Q (.exit i) st := h
theorem exit_here {st : St} {i : Nat} (h : Q .normal st) : inBlockA i Q (.exit i) st := by simpa [inBlockA] using h
theorem exit_out {st : St} {i id : Nat} (hb : Nat.beq i id = false) (h : Q (.exit i) st) : inBlockA id Q (.exit i) st := by simp only [inBlockA, hb, cond_false]; exact h
theorem ret_then {next : St → Prop} {st : St} (h : Q .ret st) : thenA next Q .ret st := h
theorem ret_block {id : Nat} {st : St} (h : Q .ret st) : inBlockA id Q .ret st := h

/-- E tells all that E' does. -/
def subE : Env → Env → Prop
  | [], _ => True
  | (t, x) :: r, E => get E t = x ∧ subE r E
theorem subE_get {E : Env} : ∀ {E' : Env}, subE E' E → ∀ t, get E' t = .any ∨ get E' t = get E t
  | [], _, t => .inl rfl
  | (s, x) :: r, ⟨h1, h2⟩, t => by
    simp only [get]
    cases hb : Nat.beq s t with
    | true =>
      obtain rfl := Nat.eq_of_beq_eq_true hb
      exact .inr h1.symm
    | false => exact subE_get h2 t
theorem inv_sub {K : Ctx} {G : Gh} {E E' : Env} {M : List Ob} {a : Act} {w : World} (h : subE E' E) (hi : Inv K N G ⟨E, M⟩ a w) : Inv K N G ⟨E', M⟩ a w :=
  inv_E hi fun t v hr => by
    rcases subE_get h t with e | e
    · rw [e]; trivial
    · rw [e]; exact hr
/-- What is not asked for any more is forgotten. -/
theorem acode_sub {c : Code} (E' : Env) (h : subE E' E) (hc : ACode P N c Q ⟨E', M⟩) : ACode P N c Q ⟨E, M⟩ :=
  acode_weaken (fun K G a w hi => ⟨G, inv_sub h hi⟩) hc
theorem aops_sub {l : List Oper} (E' : Env) (h : subE E' E) (hc : AOps P N ops l Q ⟨E', M⟩) : AOps P N ops l Q ⟨E, M⟩ :=
  aops_weaken (fun K G a w hi => ⟨G, inv_sub h hi⟩) hc

/-- A loop: a family of states. -/
theorem acode_loopS {ι : Type} {c : Code} (S : ι → Env) (L : ι → List Ob) (m : ι → Nat) (I : ι → Prop) (i0 : ι) (h0 : I i0) (hE : subE (S i0) E) (hM : M = L i0)
    (round : ∀ i, I i → ACode P N c (thenA (fun s => ∃ j, I j ∧ m j < m i ∧ subE (S j) s.E ∧ s.M = L j) Q) ⟨S i, L i⟩) : ACode P N (.loop c) Q ⟨E, M⟩ := by
  subst hM
  refine acode_sub (S i0) hE ?_
  refine acode_weaken (st' := ⟨S i0, L i0⟩) (fun K G a w hi => ⟨G, hi⟩) ?_
  intro K G a w hi
  refine wp_loop_ghost (fun n a w => ∃ i G, I i ∧ m i = n ∧ Inv K N G ⟨S i, L i⟩ a w) (m i0) ⟨i0, G, h0, rfl, hi⟩ ?_
  rintro n a w ⟨i, G, hI, rfl, hi⟩
  refine wp_mono (round i hI K G a w hi) ?_
  rintro e a' w' ⟨G', ⟨E', M'⟩, q, i'⟩
  cases e with
  | normal =>
    obtain ⟨j, hj, hm, hs, hM⟩ := q
    simp only at hs hM
    subst hM
    exact ⟨m j, hm, j, G', hj, rfl, inv_sub hs i'⟩
  | _ => exact ⟨G', ⟨E', M'⟩, q, i'⟩

theorem aops_put {l : List Oper} {dst : Option Tmp} {d : Nat} {x : A} (hd : dst = some d) (h : AOps P N ops l Q ⟨(d, x) :: E, M⟩) : AOps P N ops l Q ⟨put E dst x, M⟩ := by subst hd; exact h
theorem seqT_put {l : List Oper} {dst : Option Tmp} {d n : Nat} {x : A} (hd : dst = some d) (h : SeqT P N ops Q M ((d, x) :: E) n l) : SeqT P N ops Q M (put E dst x) n l := by subst hd; exact h

/-- The same value, told by its head. -/
def headed : Option A → Option A
  | none => none
  | some .any => some .any
  | some (.bool b) => some (.bool b)
  | some (.int k n) => some (.int k n)
  | some (.str s) => some (.str s)
  | some .nils => some .nils
  | some .nilp => some .nilp
  | some .nilf => some .nilf
  | some (.pp cs) => some (.pp cs)
  | some (.cp cs) => some (.cp cs)
  | some (.tref b t) => some (.tref b t)
  | some (.town t ob n cap) => some (.town t ob n cap)
  | some (.ref b off) => some (.ref b off)
  | some (.psl n cs) => some (.psl n cs)
  | some (.own ob n cap) => some (.own ob n cap)
  | some (.fn f cap) => some (.fn f cap)
  | some (.agg cs) => some (.agg cs)
  | some (.tup cs) => some (.tup cs)
  | some (.mp ks) => some (.mp ks)
  | some (.mr b) => some (.mr b)
theorem headed_eq (x : Option A) : headed x = x := by
  cases x with
  | none => rfl
  | some y => cases y <;> rfl
theorem aops_p (hT : TOk P T) {x : A} {d : Nat} (h : headed (aval T E o.op) = some x) (hg : guardOn ops o E = some true) (hd : o.dst = some d) (hN : Nat.blt d N = true)
    (next : AOps P N ops rest Q ⟨(d, x) :: E, M⟩) : AOps P N ops (o :: rest) Q ⟨E, M⟩ := by
  rw [headed_eq] at h
  refine aops_pure hT h hg (by rw [hd]; exact hN) ?_
  rw [hd]; exact next
theorem aops_a (hT : TOk P T) {n : Int} {d : Nat} (h : headed (aval T E o.op) = some (.int .i64 (IntKind.i64.wrap n))) (h0 : -9223372036854775808 ≤ n) (h1 : n ≤ 9223372036854775807) (hg : guardOn ops o E = some true) (hd : o.dst = some d) (hN : Nat.blt d N = true)
    (next : AOps P N ops rest Q ⟨(d, .int .i64 n) :: E, M⟩) : AOps P N ops (o :: rest) Q ⟨E, M⟩ := by
  rw [wrap64_small h0 h1] at h
  exact aops_p hT h hg hd hN next
theorem aops_o {d : Nat} (hg : guardOn ops o E = some false) (hd : o.dst = some d) (hN : Nat.blt d N = true) (next : AOps P N ops rest Q ⟨(d, .tup []) :: E, M⟩) : AOps P N ops (o :: rest) Q ⟨E, M⟩ := by
  refine aops_off hg (by rw [hd]; exact hN) ?_
  rw [hd]; exact next
theorem seqT_p (hT : TOk P T) {l : List Oper} {n : Nat} {x : A} {d : Nat} (h : headed (aval T F o.op) = some x) (hg : guardOn ops o F = some true) (hd : o.dst = some d) (hN : Nat.blt d N = true)
    (next : SeqT P N ops Q M ((d, x) :: F) n l) : SeqT P N ops Q M F (n + 1) (o :: l) := by
  rw [headed_eq] at h
  refine SeqT.cons (yields_pure hT h hg (by rw [hd]; exact hN)) ?_
  rw [hd]; exact next
theorem seqT_a (hT : TOk P T) {l : List Oper} {n : Nat} {z : Int} {d : Nat} (h : headed (aval T F o.op) = some (.int .i64 (IntKind.i64.wrap z))) (h0 : -9223372036854775808 ≤ z) (h1 : z ≤ 9223372036854775807) (hg : guardOn ops o F = some true) (hd : o.dst = some d) (hN : Nat.blt d N = true)
    (next : SeqT P N ops Q M ((d, .int .i64 z) :: F) n l) : SeqT P N ops Q M F (n + 1) (o :: l) := by
  rw [wrap64_small h0 h1] at h
  exact seqT_p hT h hg hd hN next
theorem seqT_o {l : List Oper} {n : Nat} {d : Nat} (hg : guardOn ops o F = some false) (hd : o.dst = some d) (hN : Nat.blt d N = true) (next : SeqT P N ops Q M ((d, .tup []) :: F) n l) : SeqT P N ops Q M F (n + 1) (o :: l) := by
  refine SeqT.cons (yields_off hg (by rw [hd]; exact hN)) ?_
  rw [hd]; exact next

/-- A sum that fits. -/
theorem aops_arith (hT : TOk P T) {n : Int} (h : aval T E o.op = some (.int .i64 (IntKind.i64.wrap n))) (h0 : -9223372036854775808 ≤ n) (h1 : n ≤ 9223372036854775807) (hg : guardOn ops o E = some true) (hd : dstOk N o.dst = true)
    (next : AOps P N ops rest Q ⟨put E o.dst (.int .i64 n), M⟩) : AOps P N ops (o :: rest) Q ⟨E, M⟩ :=
  aops_as hT _ h (by rw [wrap64_small h0 h1]) hg hd next
theorem yields_arith (hT : TOk P T) {n : Int} (h : aval T F o.op = some (.int .i64 (IntKind.i64.wrap n))) (h0 : -9223372036854775808 ≤ n) (h1 : n ≤ 9223372036854775807) (hg : guardOn ops o F = some true) (hd : dstOk N o.dst = true) : Yields P N ops o (.int .i64 n) F M :=
  yields_as hT _ h (by rw [wrap64_small h0 h1]) hg hd
end
end Go.Proofs.Ytafncdbkbmaifaa.Ab

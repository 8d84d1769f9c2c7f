/- Rules that take both cases of a comparison as it is made. No condition. -/
import Derived.Test.YtafncdbkbmaifaaAbJ
set_option linter.unusedVariables false
set_option linter.unusedSimpArgs false
namespace Go.Proofs.Ytafncdbkbmaifaa.Ab
section
variable {P : Program} {T : List TI} {N : Nat} {ops : Array Oper} {rest : List Oper} {o : Oper} {Q : Exit → St → Prop} {E F : Env} {M : List Ob}

theorem aops_pd (hT : TOk P T) {p : Prop} [Decidable p] {d : Nat} (h : headed (aval T E o.op) = some (.bool (decide p))) (hg : guardOn ops o E = some true) (hd : o.dst = some d) (hN : Nat.blt d N = true)
    (h1 : p → AOps P N ops rest Q ⟨(d, .bool true) :: E, M⟩) (h0 : ¬ p → AOps P N ops rest Q ⟨(d, .bool false) :: E, M⟩) : AOps P N ops (o :: rest) Q ⟨E, M⟩ := by
  refine aops_p hT h hg hd hN ?_
  by_cases hp : p
  · rw [decide_eq_true hp]; exact h1 hp
  · rw [decide_eq_false hp]; exact h0 hp
theorem aops_pe (hT : TOk P T) {x y : Int} {d : Nat} (h : headed (aval T E o.op) = some (.bool (x == y))) (hg : guardOn ops o E = some true) (hd : o.dst = some d) (hN : Nat.blt d N = true)
    (h1 : x = y → AOps P N ops rest Q ⟨(d, .bool true) :: E, M⟩) (h0 : x ≠ y → AOps P N ops rest Q ⟨(d, .bool false) :: E, M⟩) : AOps P N ops (o :: rest) Q ⟨E, M⟩ := by
  refine aops_p hT h hg hd hN ?_
  by_cases hp : x = y
  · rw [show (x == y) = true from by simpa using hp]; exact h1 hp
  · rw [show (x == y) = false from by simpa using hp]; exact h0 hp
theorem aops_pn (hT : TOk P T) {x y : Int} {d : Nat} (h : headed (aval T E o.op) = some (.bool (x != y))) (hg : guardOn ops o E = some true) (hd : o.dst = some d) (hN : Nat.blt d N = true)
    (h1 : x ≠ y → AOps P N ops rest Q ⟨(d, .bool true) :: E, M⟩) (h0 : x = y → AOps P N ops rest Q ⟨(d, .bool false) :: E, M⟩) : AOps P N ops (o :: rest) Q ⟨E, M⟩ := by
  refine aops_p hT h hg hd hN ?_
  by_cases hp : x = y
  · rw [show (x != y) = false from by simpa using hp]; exact h0 hp
  · rw [show (x != y) = true from by simpa using hp]; exact h1 hp
theorem seqT_pd (hT : TOk P T) {l : List Oper} {n : Nat} {p : Prop} [Decidable p] {d : Nat} (h : headed (aval T F o.op) = some (.bool (decide p))) (hg : guardOn ops o F = some true) (hd : o.dst = some d) (hN : Nat.blt d N = true)
    (h1 : p → SeqT P N ops Q M ((d, .bool true) :: F) n l) (h0 : ¬ p → SeqT P N ops Q M ((d, .bool false) :: F) n l) : SeqT P N ops Q M F (n + 1) (o :: l) := by
  refine seqT_p hT h hg hd hN ?_
  by_cases hp : p
  · rw [decide_eq_true hp]; exact h1 hp
  · rw [decide_eq_false hp]; exact h0 hp
theorem seqT_pe (hT : TOk P T) {l : List Oper} {n : Nat} {x y : Int} {d : Nat} (h : headed (aval T F o.op) = some (.bool (x == y))) (hg : guardOn ops o F = some true) (hd : o.dst = some d) (hN : Nat.blt d N = true)
    (h1 : x = y → SeqT P N ops Q M ((d, .bool true) :: F) n l) (h0 : x ≠ y → SeqT P N ops Q M ((d, .bool false) :: F) n l) : SeqT P N ops Q M F (n + 1) (o :: l) := by
  refine seqT_p hT h hg hd hN ?_
  by_cases hp : x = y
  · rw [show (x == y) = true from by simpa using hp]; exact h1 hp
  · rw [show (x == y) = false from by simpa using hp]; exact h0 hp
theorem seqT_pn (hT : TOk P T) {l : List Oper} {n : Nat} {x y : Int} {d : Nat} (h : headed (aval T F o.op) = some (.bool (x != y))) (hg : guardOn ops o F = some true) (hd : o.dst = some d) (hN : Nat.blt d N = true)
    (h1 : x ≠ y → SeqT P N ops Q M ((d, .bool true) :: F) n l) (h0 : x = y → SeqT P N ops Q M ((d, .bool false) :: F) n l) : SeqT P N ops Q M F (n + 1) (o :: l) := by
  refine seqT_p hT h hg hd hN ?_
  by_cases hp : x = y
  · rw [show (x != y) = false from by simpa using hp]; exact h0 hp
  · rw [show (x != y) = true from by simpa using hp]; exact h1 hp
theorem acode_it {t : Tmp} {x y : Code} {st : St} (hb : get st.E t = .bool true) (h1 : ACode P N x Q st) : ACode P N (.cond (.tmp t) x y) Q st := acode_cond hb (fun _ => h1) (fun h => by cases h)
theorem acode_if {t : Tmp} {x y : Code} {st : St} (hb : get st.E t = .bool false) (h1 : ACode P N y Q st) : ACode P N (.cond (.tmp t) x y) Q st := acode_cond hb (fun h => by cases h) (fun _ => h1)
theorem acode_id {t : Tmp} {x y : Code} {st : St} {p : Prop} [Decidable p] (hb : get st.E t = .bool (decide p)) (h1 : p → ACode P N x Q st) (h0 : ¬ p → ACode P N y Q st) : ACode P N (.cond (.tmp t) x y) Q st :=
  acode_cond hb (fun h => h1 (of_decide_eq_true h)) (fun h => h0 (of_decide_eq_false h))
/-- A call whose answer is a truth value: both cases. -/
theorem aops_callb {p : Prop} [Decidable p] {d : Nat} {g : Operand} {args : Array Operand} {tys : Array TypeId} {f : FuncId} {cap as : List A} {fn : Func} (hf : P.funcs[f]? = some fn) (ho : o.op = .call { callee := .value g, args, argTypes := tys }) (hgv : opA E g = .fn f cap)
    (hfn : callable fn = true) (has : args.toList.map (opA E) ++ cap = as) (hc : ACalls P f as M (fun r M' => r = .bool (decide p) ∧ M' = M)) (hg : guardOn ops o E = some true) (hd : o.dst = some d) (hN : Nat.blt d N = true)
    (h1 : p → AOps P N ops rest Q ⟨(d, .bool true) :: E, M⟩) (h0 : ¬ p → AOps P N ops rest Q ⟨(d, .bool false) :: E, M⟩) : AOps P N ops (o :: rest) Q ⟨E, M⟩ := by
  refine aops_callx hf ho hgv hfn has hc hg hd hN ?_
  by_cases hp : p
  · rw [decide_eq_true hp]; exact h1 hp
  · rw [decide_eq_false hp]; exact h0 hp
theorem seqT_callb {l : List Oper} {n : Nat} {p : Prop} [Decidable p] {d : Nat} {g : Operand} {args : Array Operand} {tys : Array TypeId} {f : FuncId} {cap as : List A} {fn : Func} (hf : P.funcs[f]? = some fn) (ho : o.op = .call { callee := .value g, args, argTypes := tys }) (hgv : opA F g = .fn f cap)
    (hfn : callable fn = true) (has : args.toList.map (opA F) ++ cap = as) (hc : ACalls P f as M (fun r M' => r = .bool (decide p) ∧ M' = M)) (hg : guardOn ops o F = some true) (hd : o.dst = some d) (hN : Nat.blt d N = true)
    (h1 : p → SeqT P N ops Q M ((d, .bool true) :: F) n l) (h0 : ¬ p → SeqT P N ops Q M ((d, .bool false) :: F) n l) : SeqT P N ops Q M F (n + 1) (o :: l) := by
  refine seqT_call _ hf ho hgv hfn has hc hg hd hN ?_
  by_cases hp : p
  · rw [decide_eq_true hp]; exact h1 hp
  · rw [decide_eq_false hp]; exact h0 hp
/-! ### truth values compared -/
theorem equalIn_bool {t : Nat} (h : P.underlying t = some .bool) (d : Nat) (a b : Bool) (w : World) : (Op.equalIn (d + 1) t (.bool a) (.bool b)).run P w = .ok (a == b) w := by
  rw [Op.equalIn]
  simp [run_und h]
theorem eqb_run {t : Nat} (h : P.underlying t = some .bool) (a b : Bool) (w : World) : (binOp .eql t (.bool a) (.bool b)).run P w = .ok (.bool (a == b)) w := by
  have := equalIn_bool h 9999 a b w
  have e : Op.maxDepth = 9999 + 1 := rfl
  simp only [binOp, Op.equal, e]
  simp [this]
theorem aops_eqb (hT : TOk P T) {t t' d : Nat} {x y : Operand} {a b : Bool} (ho : o.op = .binOp .eql t x y t') (ht : kindOf T t = some .bool) (hx : opA E x = .bool a) (hy : opA E y = .bool b) (hg : guardOn ops o E = some true) (hd : o.dst = some d) (hN : Nat.blt d N = true)
    (next : AOps P N ops rest Q ⟨(d, .bool (a == b)) :: E, M⟩) : AOps P N ops (o :: rest) Q ⟨E, M⟩ := by
  refine aops_val hg (by rw [hd]; exact hN) (.bool (a == b)) M (fun K G av w hi => ?_) (by rw [hd]; exact next)
  have hrx := opA_rep hi x
  have hry := opA_rep hi y
  rw [hx] at hrx; rw [hy] at hry
  simp only [Rep] at hrx hry
  refine ⟨.bool (a == b), w, G, ?_, hi.ok, G.le_refl, rfl⟩
  simp only [execOp, ho, hrx, hry, Sem.run_bind, eqGuard_run (P := P) (w := w) (op := .eql) (t := t) (x := x) (y := y) (u := .bool a) (v := .bool b) (.inr (.inr (.inl ⟨_, rfl⟩))), eqb_run (kindOf_bool hT ht), Result.andThen_ok]
  rfl
/-! ### a constant place of an array -/
theorem aops_ixa (hT : TOk P T) {t n e d : Nat} {ei : TI} {x ix : Operand} {y : A} {k : IntKind} {i : Int} (ho : o.op = .indexAddr t x ix) (hs : arrayOf T t = some (n, e, ei)) (hix : opA E ix = .int k i)
    (h0 : 0 ≤ i ∧ i < n) (hy : headed (match opA E x with | .pp cs => some (A.pp (cs.drop (i.toNat * ei.size))) | .ref b off => some (.ref b (off + i.toNat * ei.size)) | _ => none) = some y) (hg : guardOn ops o E = some true) (hd : o.dst = some d) (hN : Nat.blt d N = true)
    (next : AOps P N ops rest Q ⟨(d, y) :: E, M⟩) : AOps P N ops (o :: rest) Q ⟨E, M⟩ := by
  rw [headed_eq] at hy
  refine aops_index_arr hT ho hs hix h0.1 h0.2 hy hg (by rw [hd]; exact hN) ?_
  rw [hd]; exact next
theorem seqT_ixa (hT : TOk P T) {l : List Oper} {m : Nat} {t n e d : Nat} {ei : TI} {x ix : Operand} {y : A} {k : IntKind} {i : Int} (ho : o.op = .indexAddr t x ix) (hs : arrayOf T t = some (n, e, ei)) (hix : opA F ix = .int k i)
    (h0 : 0 ≤ i ∧ i < n) (hy : headed (match opA F x with | .pp cs => some (A.pp (cs.drop (i.toNat * ei.size))) | .ref b off => some (.ref b (off + i.toNat * ei.size)) | _ => none) = some y) (hg : guardOn ops o F = some true) (hd : o.dst = some d) (hN : Nat.blt d N = true)
    (next : SeqT P N ops Q M ((d, y) :: F) m l) : SeqT P N ops Q M F (m + 1) (o :: l) := by
  rw [headed_eq] at hy
  exact seqT_y (yields_index_arr hT ho hs hix h0.1 h0.2 hy hg (by rw [hd]; exact hN)) hd next
/-- An element of a frozen slice. -/
theorem aops_ix (hT : TOk P T) (pre : List A) {t e d : Nat} {ei : TI} {x ix : Operand} {n : Nat} {cs : List A} {k : IntKind} {i : Int} (ho : o.op = .indexAddr t x ix) (hs : sliceOf T t = some (e, ei)) (hx : opA E x = .psl n cs) (hix : opA E ix = .int k i)
    (h0 : 0 ≤ i) (h1 : i < n) (hne : pre ≠ []) (hp : pre <+: cs.drop (i.toNat * ei.size)) (hg : guardOn ops o E = some true) (hd : o.dst = some d) (hN : Nat.blt d N = true) (next : AOps P N ops rest Q ⟨(d, .pp pre) :: E, M⟩) : AOps P N ops (o :: rest) Q ⟨E, M⟩ := by
  refine aops_index hT pre ho hs hx hix h0 h1 hne hp hg (by rw [hd]; exact hN) ?_
  rw [hd]; exact next
theorem seqT_ix (hT : TOk P T) (pre : List A) {l : List Oper} {m : Nat} {t e d : Nat} {ei : TI} {x ix : Operand} {n : Nat} {cs : List A} {k : IntKind} {i : Int} (ho : o.op = .indexAddr t x ix) (hs : sliceOf T t = some (e, ei)) (hx : opA F x = .psl n cs) (hix : opA F ix = .int k i)
    (h0 : 0 ≤ i) (h1 : i < n) (hne : pre ≠ []) (hp : pre <+: cs.drop (i.toNat * ei.size)) (hg : guardOn ops o F = some true) (hd : o.dst = some d) (hN : Nat.blt d N = true) (next : SeqT P N ops Q M ((d, .pp pre) :: F) m l) : SeqT P N ops Q M F (m + 1) (o :: l) :=
  seqT_y (yields_index hT pre ho hs hx hix h0 h1 hne hp hg (by rw [hd]; exact hN)) hd next
end
end Go.Proofs.Ytafncdbkbmaifaa.Ab

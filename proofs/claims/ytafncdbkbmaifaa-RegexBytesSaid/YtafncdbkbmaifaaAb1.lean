/- The walk over abstract values: states, what a piece of code and a call come to, the rules of control. No condition. -/
import Derived.Test.YtafncdbkbmaifaaAb0
set_option linter.unusedVariables false
set_option linter.unusedSimpArgs false
namespace Go.Proofs.Ytafncdbkbmaifaa.Ab

abbrev Env := List (Nat × A)
def get : Env → Nat → A
  | [], _ => .any
  | (s, x) :: r, t => bif Nat.beq s t then x else get r t
def put (E : Env) (d : Option Tmp) (x : A) : Env := match d with | some d => (d, x) :: E | none => E
structure St where
  E : Env
  M : List Ob

structure Inv (K : Ctx) (N : Nat) (G : Gh) (st : St) (a : Act) (w : World) : Prop where
  ok : Ok K G st.M w
  sz : a.tmps.size = N
  df : a.defers = []
  ev : ∀ t, Rep G (get st.E t) (a.tmps.getD t undef)

def lift (K : Ctx) (N : Nat) (Q : Exit → St → Prop) : Exit → Act → World → Prop := fun e a w => ∃ G st, Q e st ∧ Inv K N G st a w

def ACode (P : Program) (N : Nat) (c : Code) (Q : Exit → St → Prop) (st : St) : Prop := ∀ K G a w, Inv K N G st a w → c.wp P (lift K N Q) a w
def AOps (P : Program) (N : Nat) (ops : Array Oper) (l : List Oper) (Q : Exit → St → Prop) (st : St) : Prop := ∀ K G a w, Inv K N G st a w → wpList P ops (lift K N Q) l a w

def keys (M : List Ob) : List Nat := M.filterMap (·.b)
def ACalls (P : Program) (f : FuncId) (args : List A) (M : List Ob) (R : A → List Ob → Prop) : Prop :=
  ∀ G w vs, Ok ⟨w, keys M, G⟩ G M w → RepL G args vs → Calls P f vs.toArray w fun e w' => ∃ v r M' G', e = .returned v ∧ Rep G' r v ∧ Ok ⟨w, keys M, G⟩ G' M' w' ∧ R r M'

section control
variable {P : Program} {N : Nat} {Q Q' : Exit → St → Prop} {st st' : St}

theorem ACode.mono {c : Code} (h : ACode P N c Q st) (hq : ∀ e s, Q e s → Q' e s) : ACode P N c Q' st :=
  fun K G a w hi => wp_mono (h K G a w hi) fun e a w ⟨G, s, q, i⟩ => ⟨G, s, hq _ _ q, i⟩
theorem ACalls.mono {f : FuncId} {args : List A} {M : List Ob} {R R' : A → List Ob → Prop} (h : ACalls P f args M R) (hr : ∀ r M', R r M' → R' r M') : ACalls P f args M R' :=
  fun G w vs ho hl => (h G w vs ho hl).mono fun e w' ⟨v, r, M', G', e1, e2, e3, e4⟩ => ⟨v, r, M', G', e1, e2, e3, hr _ _ e4⟩

theorem acode_weaken {c : Code} (hw : ∀ K G a w, Inv K N G st a w → ∃ G', Inv K N G' st' a w) (h : ACode P N c Q st') : ACode P N c Q st :=
  fun K G a w hi => let ⟨G', hi'⟩ := hw K G a w hi; h K G' a w hi'
theorem aops_weaken {ops : Array Oper} {l : List Oper} (hw : ∀ K G a w, Inv K N G st a w → ∃ G', Inv K N G' st' a w) (h : AOps P N ops l Q st') : AOps P N ops l Q st :=
  fun K G a w hi => let ⟨G', hi'⟩ := hw K G a w hi; h K G' a w hi'

theorem acode_skip (h : Q .normal st) : ACode P N .skip Q st := fun K G a w hi => wp_skip ⟨G, st, h, hi⟩
theorem acode_exit {id : Nat} (h : Q (.exit id) st) : ACode P N (.exit id) Q st := fun K G a w hi => wp_exit ⟨G, st, h, hi⟩
theorem acode_ret (h : Q .ret st) : ACode P N .ret Q st := fun K G a w hi => wp_ret ⟨G, st, h, hi⟩

def thenA (next : St → Prop) (Q : Exit → St → Prop) : Exit → St → Prop
  | .normal, s => next s
  | e, s => Q e s
theorem acode_seq {x y : Code} (h : ACode P N x (thenA (ACode P N y Q) Q) st) : ACode P N (.seq x y) Q st := by
  intro K G a w hi
  refine wp_seq (wp_mono (h K G a w hi) ?_)
  rintro e a' w' ⟨G', s, q, i⟩
  cases e with
  | normal => exact q K G' a' w' i
  | _ => exact ⟨G', s, q, i⟩

theorem acode_cond {t : Tmp} {x y : Code} {b : Bool} (hb : get st.E t = .bool b) (h1 : b = true → ACode P N x Q st) (h0 : b = false → ACode P N y Q st) : ACode P N (.cond (.tmp t) x y) Q st := by
  intro K G a w hi
  have he := hi.ev t
  rw [hb] at he
  simp only [Rep] at he
  refine wp_cond_split (t := b) he (fun hb => h1 hb K G a w hi) (fun hb => h0 hb K G a w hi)

def inBlockA (id : Nat) (Q : Exit → St → Prop) : Exit → St → Prop
  | .exit i, s => bif Nat.beq i id then Q .normal s else Q (.exit i) s
  | e, s => Q e s
theorem acode_block {id : Nat} {c : Code} (h : ACode P N c (inBlockA id Q) st) : ACode P N (.block id c) Q st := by
  intro K G a w hi
  refine wp_block (wp_mono (h K G a w hi) ?_)
  rintro e a' w' ⟨G', s, q, i⟩
  cases e with
  | exit j =>
    simp only [Exit.inBlock, inBlockA] at q ⊢
    by_cases hj : j = id
    · subst hj
      simp at q
      rw [if_pos rfl]
      exact ⟨G', s, q, i⟩
    · rw [if_neg hj]
      have : Nat.beq j id = false := by
        cases hb : Nat.beq j id with
        | false => rfl
        | true => exact absurd (Nat.eq_of_beq_eq_true hb) hj
      rw [this] at q
      exact ⟨G', s, q, i⟩
  | _ => exact ⟨G', s, q, i⟩

theorem acode_loop {c : Code} (I : Nat → St → Prop) (n0 : Nat) (h0 : I n0 st)
    (round : ∀ n s, I n s → ACode P N c (thenA (fun s' => ∃ n', n' < n ∧ I n' s') Q) s) : ACode P N (.loop c) Q st := by
  intro K G a w hi
  refine wp_loop_ghost (fun n a w => ∃ G s, I n s ∧ Inv K N G s a w) n0 ⟨G, st, h0, hi⟩ ?_
  rintro n a w ⟨G, s, hI, hi⟩
  refine wp_mono (round n s hI K G a w hi) ?_
  rintro e a' w' ⟨G', s', q, i⟩
  cases e with
  | normal =>
    obtain ⟨n', hn, hI'⟩ := q
    exact ⟨n', hn, G', s', hI', i⟩
  | _ => exact ⟨G', s', q, i⟩

theorem acode_region {id : Nat} {l : List Oper} (h : AOps P N l.toArray l Q st) : ACode P N (.region id l.toArray false) Q st :=
  fun K G a w hi => wp_region_lit (h K G a w hi)

theorem aops_nil {ops : Array Oper} (h : Q .normal st) : AOps P N ops [] Q st := fun K G a w hi => wpList_nil ⟨G, st, h, hi⟩
end control

/-! ### Guards, and where an operation's value goes -/
def guardOn (ops : Array Oper) (o : Oper) (E : Env) : Option Bool :=
  match o.guard with
  | none => some true
  | some (j, want) =>
    match (ops[j]?).bind (·.dst) with
    | none => none
    | some d => match get E d with
      | .bool b => some (b == want)
      | .tup [] => some false
      | _ => none
def dstOk (N : Nat) (d : Option Tmp) : Bool := match d with | none => true | some d => Nat.blt d N

theorem guard_spec {K : Ctx} {N : Nat} {G : Gh} {st : St} {a : Act} {w : World} (hi : Inv K N G st a w) {ops : Array Oper} {o : Oper} {g : Bool} (h : guardOn ops o st.E = some g) :
    Region.wanted o (yielded ops a.tmps) = g := by
  unfold guardOn at h
  unfold Region.wanted
  split at h
  · rename_i hg; simp [hg]; simpa using h
  · rename_i j want hg
    rw [hg]
    split at h
    · simp at h
    · rename_i d hd
      have he := hi.ev d
      split at h
      · rename_i b hb
        rw [hb] at he
        simp only [Rep] at he
        have h2 : a.tmps[d]? = some (.bool b) := by
          rw [Array.getD_eq_getD_getElem?] at he
          cases hx : a.tmps[d]? with
          | none => rw [hx] at he; simp [undef] at he
          | some v => rw [hx] at he; simp at he; rw [he]
        have hy : yielded ops a.tmps j = some b := by
          unfold yielded
          rw [hd]
          simp [h2]
        simp only [hy]
        have := Option.some.inj h
        subst this
        cases b <;> cases want <;> rfl
      · rename_i hb
        rw [hb] at he
        obtain ⟨us, hu, hl⟩ := he
        simp only [RepL] at hl
        subst hl
        have hy : yielded ops a.tmps j = none := by
          unfold yielded
          rw [hd]
          rw [Array.getD_eq_getD_getElem?] at hu
          cases hx : a.tmps[d]? with
          | none => simp [hx]
          | some v => rw [hx] at hu; simp at hu; simp [hx, hu]
        simp only [hy]
        have := Option.some.inj h
        subst this
        rfl
      · simp at h

theorem get_put {E : Env} {d : Option Tmp} {x : A} (t : Nat) : get (put E d x) t = if d = some t then x else get E t := by
  cases d with
  | none => simp [put]
  | some d =>
    simp only [put, get]
    by_cases h : d = t
    · subst h; simp
    · have : Nat.beq d t = false := by
        cases hb : Nat.beq d t with
        | false => rfl
        | true => exact absurd (Nat.eq_of_beq_eq_true hb) h
      simp [this, h]

theorem Act.getD_put (a : Act) (d : Option Tmp) (v : Value) (t : Nat) (hd : dstOk a.tmps.size d = true) : (a.put d v).tmps.getD t undef = if d = some t then v else a.tmps.getD t undef := by
  cases d with
  | none => simp [Act.put]
  | some d =>
    have hlt : d < a.tmps.size := by simpa [dstOk] using hd
    simp only [Act.put, Array.getD_eq_getD_getElem?]
    by_cases h : d = t
    · subst h; simp [Array.getElem?_setIfInBounds_self_of_lt hlt]
    · simp [Array.getElem?_setIfInBounds_ne h, h]

theorem Inv.put {K : Ctx} {N : Nat} {G G' : Gh} {E : Env} {M M' : List Ob} {a : Act} {w w' : World} (hi : Inv K N G ⟨E, M⟩ a w) (hle : G.le G') (ho : Ok K G' M' w') {d : Option Tmp} (hd : dstOk N d = true) {x : A} {v : Value} (hx : Rep G' x v) :
    Inv K N G' ⟨Ab.put E d x, M'⟩ (a.put d v) w' := by
  refine ⟨ho, ?_, ?_, ?_⟩
  · cases d <;> simp [Act.put, hi.sz]
  · cases d <;> simp [Act.put, hi.df]
  · intro t
    rw [Act.getD_put a d v t (by rw [hi.sz]; exact hd), get_put]
    split
    · exact hx
    · exact (hi.ev t).mono hle

section steps
variable {P : Program} {N : Nat} {ops : Array Oper} {rest : List Oper} {o : Oper} {Q : Exit → St → Prop} {E : Env} {M : List Ob}

/-- An operation that ends in a value: told by a relation. -/
theorem aops_rel (hg : guardOn ops o E = some true) (hd : dstOk N o.dst = true) (R : A → List Ob → Prop)
    (h : ∀ K G a w, Inv K N G ⟨E, M⟩ a w → ∃ v w' G' x M', (execOp a.eval o).run P w = .ok (.value v) w' ∧ Ok K G' M' w' ∧ G.le G' ∧ Rep G' x v ∧ R x M')
    (next : ∀ x M', R x M' → AOps P N ops rest Q ⟨put E o.dst x, M'⟩) : AOps P N ops (o :: rest) Q ⟨E, M⟩ := by
  intro K G a w hi
  refine wpList_step fun Kn hK => ?_
  rw [guard_spec hi hg, if_pos rfl]
  obtain ⟨v, w', G', x, M', hrun, ho, hle, hx, hR⟩ := h K G a w hi
  unfold Oper.wp
  rw [hrun, Oper.upon_value]
  exact hK _ _ (next x M' hR K G' _ _ (hi.put hle ho hd hx))

/-- An operation that ends in a value: told. -/
theorem aops_val (hg : guardOn ops o E = some true) (hd : dstOk N o.dst = true) (x : A) (M' : List Ob)
    (h : ∀ K G a w, Inv K N G ⟨E, M⟩ a w → ∃ v w' G', (execOp a.eval o).run P w = .ok (.value v) w' ∧ Ok K G' M' w' ∧ G.le G' ∧ Rep G' x v)
    (next : AOps P N ops rest Q ⟨put E o.dst x, M'⟩) : AOps P N ops (o :: rest) Q ⟨E, M⟩ :=
  aops_rel hg hd (fun y L => y = x ∧ L = M') (fun K G a w hi => let ⟨v, w', G', h1, h2, h3, h4⟩ := h K G a w hi; ⟨v, w', G', x, M', h1, h2, h3, h4, rfl, rfl⟩)
    (fun y L ⟨e1, e2⟩ => by subst e1; subst e2; exact next)

/-- An operation that is only done. -/
theorem aops_done (hg : guardOn ops o E = some true) (hd : dstOk N o.dst = true) (M' : List Ob)
    (h : ∀ K G a w, Inv K N G ⟨E, M⟩ a w → ∃ w' G', (execOp a.eval o).run P w = .ok .skip w' ∧ Ok K G' M' w' ∧ G.le G')
    (next : AOps P N ops rest Q ⟨put E o.dst .any, M'⟩) : AOps P N ops (o :: rest) Q ⟨E, M⟩ := by
  intro K G a w hi
  refine wpList_step fun Kn hK => ?_
  rw [guard_spec hi hg, if_pos rfl]
  obtain ⟨w', G', hrun, ho, hle⟩ := h K G a w hi
  unfold Oper.wp
  rw [hrun, Oper.upon_skip]
  exact hK _ _ (next K G' _ _ (hi.put hle ho hd trivial))

/-- An operation that is not done. -/
theorem aops_off (hg : guardOn ops o E = some false) (hd : dstOk N o.dst = true) (next : AOps P N ops rest Q ⟨put E o.dst (.tup []), M⟩) : AOps P N ops (o :: rest) Q ⟨E, M⟩ := by
  intro K G a w hi
  refine wpList_step fun Kn hK => ?_
  rw [guard_spec hi hg, if_neg (by simp)]
  exact hK _ _ (next K G _ _ (hi.put G.le_refl hi.ok hd ⟨[], rfl, rfl⟩))

/-- What a call of a function leaves, seen from its caller. -/
theorem Ok.back {K : Ctx} {G G' : Gh} {M M' : List Ob} {w w' : World} (h : Ok K G M w) (h' : Ok ⟨w, keys M, G⟩ G' M' w') : Ok K G' M' w' := by
  refine ⟨Gh.le_trans h.g h'.g, h'.os.trans h.os, h'.tape.trans h.tape, h'.output.trans h.output, Nat.le_trans h.size h'.size, ?_, h'.fz, h'.ow, h'.vn, h'.un, ?_, h'.nd, fun b ks e => ⟨(h'.mz b ks e).1, fun hb => (h.mz b ks ((h'.mz b ks e).2 (Nat.lt_of_lt_of_le hb h.size))).2 hb⟩, h'.um, h'.wt⟩
  · intro k hk ho
    rw [h'.fr k (Nat.lt_of_lt_of_le hk h.size) ?_]
    · exact h.fr k hk ho
    · intro hm
      obtain ⟨o, hom, hb⟩ := List.mem_filterMap.1 hm
      rcases h.kb o hom k hb with hx | hx
      · exact ho hx
      · omega
  · intro o hom b hb
    rcases h'.kb o hom b hb with hx | hx
    · obtain ⟨o', hom', hb'⟩ := List.mem_filterMap.1 hx
      exact h.kb o' hom' b hb'
    · exact .inr (Nat.le_trans h.size hx)
theorem Ok.enter {K : Ctx} {G : Gh} {M : List Ob} {w : World} (h : Ok K G M w) : Ok ⟨w, keys M, G⟩ G M w :=
  ⟨Gh.le_refl _, rfl, rfl, rfl, Nat.le_refl _, fun _ _ _ => rfl, h.fz, h.ow, h.vn, h.un, fun o ho b hb => .inl (List.mem_filterMap.2 ⟨o, ho, hb⟩), h.nd, fun b ks e => ⟨(h.mz b ks e).1, fun _ => e⟩, h.um, h.wt⟩

/-- A call that enters function f with arguments that are told. -/
theorem aops_enter {f : FuncId} {args : List A} {R : A → List Ob → Prop} (hg : guardOn ops o E = some true) (hd : dstOk N o.dst = true)
    (h : ∀ K G a w, Inv K N G ⟨E, M⟩ a w → ∃ vs : List Value, (execOp a.eval o).run P w = .ok (.enter f vs.toArray) w ∧ RepL G args vs)
    (hc : ACalls P f args M R) (next : ∀ x M', R x M' → AOps P N ops rest Q ⟨put E o.dst x, M'⟩) : AOps P N ops (o :: rest) Q ⟨E, M⟩ := by
  intro K G a w hi
  refine wpList_step fun Kn hK => ?_
  rw [guard_spec hi hg, if_pos rfl]
  obtain ⟨vs, hrun, hl⟩ := h K G a w hi
  unfold Oper.wp
  rw [hrun, Oper.upon_enter]
  refine (hc G w vs hi.ok.enter hl).mono ?_
  rintro e w' ⟨v, r, M', G', rfl, hr, ho, hR⟩
  exact hK _ _ (next r M' hR K G' _ _ (hi.put ho.g (hi.ok.back ho) hd hr))
end steps

/-! ### A function's contract out of its code -/
def resSem (tmps : Array Value) : ResultVar → Sem Value
  | .tmp t => pure (tmps.getD t undef)
  | .cell a t => do loadVar t (← asAddr (tmps.getD a undef))

theorem run_results0 {P : Program} {fn : Func} {tmps : Array Value} {w : World} (h : fn.results = #[]) : (results fn tmps).run P w = .ok (.tuple #[]) w := by
  simp [results, h]
theorem run_results1 {P : Program} {fn : Func} {tmps : Array Value} {w : World} {r1 : ResultVar} {v1 : Value} (h : fn.results = #[r1]) (h1 : (resSem tmps r1).run P w = .ok v1 w) : (results fn tmps).run P w = .ok v1 w := by
  cases r1 <;> simp [resSem] at h1 <;> simp [results, h, h1]
theorem andThen_cont {α β γ : Type} {x : Result α} {f : α → World → Result β} {v : β} {w : World} (h : x.andThen f = .ok v w) (g : β → World → Result γ) : (x.andThen fun a w' => (f a w').andThen g) = g v w := by
  cases x with
  | ok a u => simp only [Result.andThen_ok] at h ⊢; rw [h]; rfl
  | halt e u => simp at h
theorem run_results2 {P : Program} {fn : Func} {tmps : Array Value} {w : World} {r1 r2 : ResultVar} {v1 v2 : Value} (h : fn.results = #[r1, r2]) (h1 : (resSem tmps r1).run P w = .ok v1 w) (h2 : (resSem tmps r2).run P w = .ok v2 w) :
    (results fn tmps).run P w = .ok (.tuple #[v1, v2]) w := by
  cases r1 <;> cases r2 <;> simp [resSem] at h1 h2 <;> first
    | (simp [results, h, h1, h2]; done)
    | (have k2 := fun g => andThen_cont (γ := Value) h2 g; simp [results, h, h1, k2]; done)
    | (have k1 := fun g => andThen_cont (γ := Value) h1 g; simp [results, h, h2, k1]; done)
    | (have k1 := fun g => andThen_cont (γ := Value) h1 g; have k2 := fun g => andThen_cont (γ := Value) h2 g; simp [results, h, k1, k2]; done)
theorem run_results3 {P : Program} {fn : Func} {tmps : Array Value} {w : World} {t1 t2 t3 : Tmp} (h : fn.results = #[.tmp t1, .tmp t2, .tmp t3]) :
    (results fn tmps).run P w = .ok (.tuple #[tmps.getD t1 undef, tmps.getD t2 undef, tmps.getD t3 undef]) w := by
  simp [results, h]
theorem run_results3c {P : Program} {fn : Func} {tmps : Array Value} {w : World} {r1 : ResultVar} {v1 : Value} {t2 t3 : Tmp} (h : fn.results = #[r1, .tmp t2, .tmp t3]) (h1 : (resSem tmps r1).run P w = .ok v1 w) :
    (results fn tmps).run P w = .ok (.tuple #[v1, tmps.getD t2 undef, tmps.getD t3 undef]) w := by
  cases r1 <;> simp [resSem] at h1 <;> first
    | (simp [results, h, h1]; done)
    | (have k1 := fun g => andThen_cont (γ := Value) h1 g; simp [results, h, k1]; done)

/-- What a result's variable holds. -/
def ResOf (P : Program) (N : Nat) (st : St) (rv : ResultVar) (x : A) : Prop :=
  ∀ K G a w, Inv K N G st a w → ∃ v, (resSem a.tmps rv).run P w = .ok v w ∧ Rep G x v
theorem resOf_tmp {P : Program} {N : Nat} {st : St} {t : Tmp} {x : A} (h : get st.E t = x) : ResOf P N st (.tmp t) x :=
  fun K G a w hi => ⟨a.tmps.getD t undef, rfl, by rw [← h]; exact hi.ev t⟩

def Returns (P : Program) (N : Nat) (rs : List ResultVar) (R : A → List Ob → Prop) (st : St) : Prop :=
  ∃ r, R r st.M ∧ match rs with
    | [] => r = .tup []
    | [r1] => ResOf P N st r1 r
    | [r1, r2] => ∃ x1 x2, r = .tup [x1, x2] ∧ ResOf P N st r1 x1 ∧ ResOf P N st r2 x2
    | [r1, .tmp t2, .tmp t3] => ∃ x1, r = .tup [x1, get st.E t2, get st.E t3] ∧ ResOf P N st r1 x1
    | _ => False

theorem Returns.run {P : Program} {N : Nat} {fn : Func} {R : A → List Ob → Prop} {st : St} {K : Ctx} {G : Gh} {a : Act} {w : World} (h : Returns P N fn.results.toList R st) (hi : Inv K N G st a w) :
    ∃ v r, (results fn a.tmps).run P w = .ok v w ∧ Rep G r v ∧ R r st.M := by
  obtain ⟨r, hR, h⟩ := h
  split at h
  · rename_i e
    subst h
    exact ⟨_, .tup [], run_results0 (by rw [← Array.toArray_toList (xs := fn.results), e]), (show Rep G (.tup []) _ from ⟨[], rfl, rfl⟩), hR⟩
  · rename_i r1 e
    obtain ⟨v, h1, h2⟩ := h K G a w hi
    exact ⟨v, r, run_results1 (by rw [← Array.toArray_toList (xs := fn.results), e]) h1, h2, hR⟩
  · rename_i r1 r2 e
    obtain ⟨x1, x2, rfl, h1, h2⟩ := h
    obtain ⟨v1, g1, g2⟩ := h1 K G a w hi
    obtain ⟨v2, g3, g4⟩ := h2 K G a w hi
    exact ⟨_, .tup [x1, x2], run_results2 (by rw [← Array.toArray_toList (xs := fn.results), e]) g1 g3, (show Rep G (.tup [x1, x2]) _ from ⟨[v1, v2], rfl, .cons g2 (.cons g4 .nil)⟩), hR⟩
  · rename_i r1 t2 t3 e
    obtain ⟨x1, rfl, h1⟩ := h
    obtain ⟨v1, g1, g2⟩ := h1 K G a w hi
    exact ⟨_, .tup [x1, get st.E t2, get st.E t3], run_results3c (by rw [← Array.toArray_toList (xs := fn.results), e]) g1, (show Rep G (.tup [x1, get st.E t2, get st.E t3]) _ from ⟨[v1, _, _], rfl, .cons g2 (.cons (hi.ev t2) (.cons (hi.ev t3) .nil))⟩), hR⟩
  · exact h.elim

def envFrom : Nat → List A → Env
  | _, [] => []
  | i, x :: xs => (i, x) :: envFrom (i + 1) xs

theorem get_envFrom : ∀ (xs : List A) (i t : Nat), get (envFrom i xs) t = if i ≤ t then xs.getD (t - i) .any else .any
  | [], i, t => by simp [envFrom, get]
  | x :: xs, i, t => by
    simp only [envFrom, get]
    by_cases h : i = t
    · subst h; simp
    · have : Nat.beq i t = false := by
        cases hb : Nat.beq i t with
        | false => rfl
        | true => exact absurd (Nat.eq_of_beq_eq_true hb) h
      rw [this, cond_false, get_envFrom xs (i + 1) t]
      by_cases h2 : i ≤ t
      · rw [if_pos h2, if_pos (by omega), show t - i = (t - (i + 1)) + 1 from by omega]
        simp
      · rw [if_neg h2, if_neg (by omega)]

theorem acalls_of_code {P : Program} {f : FuncId} {fn : Func} {c : Code} {args : List A} {M : List Ob} {R : A → List Ob → Prop} (N : Nat)
    (hf : P.funcs[f]? = some fn) (hb : fn.body = some c) (hN : fn.ntmps = N) (hn : Nat.ble args.length N = true)
    (h : ACode P N c (fun e s => match e with | .ret | .normal => Returns P N fn.results.toList R s | _ => False) ⟨envFrom 0 args, M⟩) : ACalls P f args M R := by
  intro G w vs ho hl
  subst hN
  have hn : args.length ≤ fn.ntmps := Nat.le_of_ble_eq_true hn
  have hlen := hl.length
  refine calls_of_wp hf hb (wp_mono (h ⟨w, keys M, G⟩ G _ w ⟨ho, ?_, rfl, ?_⟩) ?_)
  · simp; omega
  · intro t
    show Rep G (get (envFrom 0 args) t) _
    rw [get_envFrom, if_pos (Nat.zero_le _), Nat.sub_zero]
    by_cases ht : t < args.length
    · obtain ⟨v, hv, hr⟩ := hl.at t (List.getElem?_eq_getElem ht)
      have e1 : args.getD t .any = args[t] := by simp [ht]
      rw [e1]
      have hlt : t < vs.length := by omega
      have e2 : vs[t] = v := by rw [List.getElem?_eq_getElem hlt] at hv; exact Option.some.inj hv
      simp [Array.getElem?_append, hlt, e2, hr]
    · have e1 : args.getD t .any = .any := by simp [List.getElem?_eq_none (Nat.le_of_not_lt ht)]
      rw [e1]
      trivial
  · rintro e a' w' ⟨G', s, q, i⟩
    have fin : Returns P fn.ntmps fn.results.toList R s → a'.defers = [] ∧ ∃ v, (results fn a'.tmps).run P w' = .ok v w' ∧ ∃ v_1 r M' G', Ending.returned v = .returned v_1 ∧ Rep G' r v_1 ∧ Ok ⟨w, keys M, G⟩ G' M' w' ∧ R r M' := by
      intro hr
      obtain ⟨v, r, h1, h2, h3⟩ := hr.run i
      exact ⟨i.df, v, h1, v, r, s.M, G', rfl, h2, i.ok, h3⟩
    cases e with
    | normal => exact fin q
    | ret => exact fin q
    | _ => exact q.elim

end Go.Proofs.Ytafncdbkbmaifaa.Ab

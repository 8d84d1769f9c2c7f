/- Objects told otherwise: nil slices within them as one's own. No condition. -/
import Derived.Test.YtafncdbkbmaifaaAbO
set_option linter.unusedVariables false
set_option linter.unusedSimpArgs false
namespace Go.Proofs.Ytafncdbkbmaifaa.Ab
section
variable {P : Program} {T : List TI} {N : Nat} {ops : Array Oper} {rest : List Oper} {o : Oper} {Q : Exit → St → Prop} {E F : Env} {M : List Ob}
theorem Ok.cast {K : Ctx} {G : Gh} {M M' : List Ob} {w : World} (h : Ok K G M w) (hs : ∀ o' ∈ M', (o'.b = none ∧ o'.cs = [] ∧ o'.room = 0) ∨ ∃ o ∈ M, o.b = o'.b ∧ o'.room = o.room ∧ (∀ vs, RepL G o.cs vs → RepL G o'.cs vs) ∧ (o.b = none → o'.cs = [])) (hn : (M'.filterMap (·.b)).Nodup) : Ok K G M' w := by
  refine ⟨h.g, h.os, h.tape, h.output, h.size, h.fr, h.fz, fun o' ho b hb => ?_, fun o' ho hb => ?_, fun o' ho b hb => ?_, fun o' ho b hb => ?_, hn, h.mz, h.um, h.wt⟩
  · rcases hs o' ho with ⟨h1, _⟩ | ⟨o, h1, h2, h3, h4, _⟩
    · rw [hb] at h1; cases h1
    · obtain ⟨vs, sp, t, a1, a2, a3⟩ := h.ow o h1 b (h2.trans hb)
      exact ⟨vs, sp, t, a1, h4 vs a2, by rw [h3]; exact a3⟩
  · rcases hs o' ho with ⟨_, h1, h2⟩ | ⟨o, h1, h2, h3, h4, h5⟩
    · exact ⟨h1, h2⟩
    · obtain ⟨a1, a2⟩ := h.vn o h1 (h2.trans hb)
      exact ⟨h5 (h2.trans hb), by rw [h3]; exact a2⟩
  · rcases hs o' ho with ⟨h1, _⟩ | ⟨o, h1, h2, _⟩
    · rw [hb] at h1; cases h1
    · exact h.un o h1 b (h2.trans hb)
  · rcases hs o' ho with ⟨h1, _⟩ | ⟨o, h1, h2, _⟩
    · rw [hb] at h1; cases h1
    · exact h.kb o h1 b (h2.trans hb)
theorem repL_set_same {G : Gh} {cs : List A} {vs : List Value} {i : Nat} {c c' : A} (h : RepL G cs vs) (hc : cs[i]? = some c) (hcc : ∀ v, Rep G c v → Rep G c' v) : RepL G (cs.set i c') vs := by
  obtain ⟨v, hv, hr⟩ := h.at i hc
  have := h.set i (hcc v hr)
  have e : vs.set i v = vs := by
    obtain ⟨h1, h2⟩ := List.getElem?_eq_some_iff.1 hv
    subst h2
    exact List.set_getElem_self h1
  rwa [e] at this

theorem ok_adoptF {K : Ctx} {G : Gh} {w : World} (i : Nat) {b room : Nat} {cs : List A} (h : cs[i]? = some .nils) (hok : Ok K G (⟨some b, room, cs⟩ :: M) w) : Ok K G (⟨some b, room, cs.set i (.own none 0 0)⟩ :: ⟨none, 0, []⟩ :: M) w := by
  refine hok.cast (fun o' ho => ?_) ?_
  · simp only [List.mem_cons] at ho
    rcases ho with rfl | rfl | ho
    · exact .inr ⟨⟨some b, room, cs⟩, List.mem_cons_self .., rfl, rfl, fun vs hv => repL_set_same hv h (fun v hr => by simp only [Rep] at hr ⊢; exact ⟨hr, trivial, trivial⟩), fun h => by cases h⟩
    · exact .inl ⟨rfl, rfl, rfl⟩
    · exact .inr ⟨o', by simp [ho], rfl, rfl, fun vs hv => hv, fun hb => (hok.vn o' (by simp [ho]) hb).1⟩
  · simpa [List.filterMap_cons] using hok.nd
/-- A nil slice in a field of the object at the front is one's own from now on. -/
theorem aops_adoptF {l : List Oper} (i : Nat) {b room : Nat} {cs cs' : List A} (h : cs[i]? = some .nils) (hcs : normL (cs.set i (.own none 0 0)) = some cs') (next : AOps P N ops l Q ⟨E, ⟨some b, room, cs'⟩ :: ⟨none, 0, []⟩ :: M⟩) : AOps P N ops l Q ⟨E, ⟨some b, room, cs⟩ :: M⟩ := by
  rw [normL_eq] at hcs; cases hcs
  exact aops_weaken (st' := ⟨E, ⟨some b, room, cs.set i (.own none 0 0)⟩ :: ⟨none, 0, []⟩ :: M⟩) (fun K G a w hi => ⟨G, ok_adoptF i h hi.ok, hi.sz, hi.df, hi.ev⟩) next
theorem acode_adoptF {c : Code} (i : Nat) {b room : Nat} {cs cs' : List A} (h : cs[i]? = some .nils) (hcs : normL (cs.set i (.own none 0 0)) = some cs') (next : ACode P N c Q ⟨E, ⟨some b, room, cs'⟩ :: ⟨none, 0, []⟩ :: M⟩) : ACode P N c Q ⟨E, ⟨some b, room, cs⟩ :: M⟩ := by
  rw [normL_eq] at hcs; cases hcs
  exact acode_weaken (st' := ⟨E, ⟨some b, room, cs.set i (.own none 0 0)⟩ :: ⟨none, 0, []⟩ :: M⟩) (fun K G a w hi => ⟨G, ok_adoptF i h hi.ok, hi.sz, hi.df, hi.ev⟩) next
theorem ok_swap {K : Ctx} {G : Gh} {w : World} {a b : Ob} (hok : Ok K G (a :: b :: M) w) : Ok K G (b :: a :: M) w := by
  refine hok.sub (fun o ho => by simp only [List.mem_cons] at ho ⊢; rcases ho with h | h | h <;> simp [h]) ?_
  have := hok.nd
  cases a with | mk ab ar ac => cases b with | mk bb br bc =>
  cases ab <;> cases bb <;> simp [List.filterMap_cons] at this ⊢
  · exact this
  · exact this
  · exact this
  · obtain ⟨⟨h1, h2⟩, h3, h4⟩ := this
    exact ⟨⟨fun e => h1 e.symm, h3⟩, h2, h4⟩
theorem aops_swap {l : List Oper} {a b : Ob} (next : AOps P N ops l Q ⟨E, b :: a :: M⟩) : AOps P N ops l Q ⟨E, a :: b :: M⟩ :=
  aops_weaken (st' := ⟨E, b :: a :: M⟩) (fun K G _ w hi => ⟨G, ok_swap hi.ok, hi.sz, hi.df, hi.ev⟩) next
theorem ok_swap1 {K : Ctx} {G : Gh} {w : World} {a b c : Ob} (hok : Ok K G (a :: b :: c :: M) w) : Ok K G (a :: c :: b :: M) w := by
  refine hok.sub (fun o ho => by simp only [List.mem_cons] at ho ⊢; rcases ho with h | h | h | h <;> simp [h]) ?_
  have := hok.nd
  cases a with | mk ab ar ac => cases b with | mk bb br bc => cases c with | mk cb cr cc =>
  cases ab <;> cases bb <;> cases cb <;> simp [List.filterMap_cons] at this ⊢ <;> first
    | exact this
    | (obtain ⟨⟨h1, h2⟩, h3, h4⟩ := this; exact ⟨⟨fun e => h1 e.symm, h3⟩, h2, h4⟩)
    | (obtain ⟨⟨h0, h0', h0''⟩, ⟨h1, h2⟩, h3, h4⟩ := this; exact ⟨⟨h0', h0, h0''⟩, ⟨fun e => h1 e.symm, h3⟩, h2, h4⟩)
    | (obtain ⟨⟨h0, h0''⟩, h3, h4⟩ := this; exact ⟨⟨h0, h0''⟩, h3, h4⟩)
theorem acode_swap1 {cd : Code} {a b c : Ob} (next : ACode P N cd Q ⟨E, a :: c :: b :: M⟩) : ACode P N cd Q ⟨E, a :: b :: c :: M⟩ :=
  acode_weaken (st' := ⟨E, a :: c :: b :: M⟩) (fun K G _ w hi => ⟨G, ok_swap1 hi.ok, hi.sz, hi.df, hi.ev⟩) next
/-- Two that lie side by side, however deep. -/
theorem aops_dropL {l : List Oper} : ∀ (L : List Ob), AOps P N ops l Q ⟨E, M⟩ → AOps P N ops l Q ⟨E, L ++ M⟩
  | [], h => h
  | _ :: L, h => aops_drop0 (aops_dropL L h)
theorem acode_dropL {c : Code} : ∀ (L : List Ob), ACode P N c Q ⟨E, M⟩ → ACode P N c Q ⟨E, L ++ M⟩
  | [], h => h
  | _ :: L, h => acode_drop0 (acode_dropL L h)
/-- A store into the third object. -/
theorem aops_stn2 (hT : TOk P T) {o0 o1 : Ob} {t : Nat} {p x : Operand} {b off : Nat} {i : TI} {y : A} {room : Nat} {cs cs' : List A} (ho : o.op = .store t p x) (hp : opA E p = .ref b off) (hx : headed (some (opA E x)) = some y) (hk : known T t = some i)
    (hy : (Nat.beq y.cs.length i.size && cellsOk y) = true) (hoff : Nat.ble (off + i.size) cs.length = true) (hcs : normL (cs.take off ++ (y.cs ++ cs.drop (off + i.size))) = some cs')
    (hg : guardOn ops o E = some true) (hd : o.dst = none) (next : AOps P N ops rest Q ⟨E, o0 :: o1 :: ⟨some b, room, cs'⟩ :: M⟩) : AOps P N ops (o :: rest) Q ⟨E, o0 :: o1 :: ⟨some b, room, cs⟩ :: M⟩ := by
  rw [normL_eq] at hcs; cases hcs
  rw [headed_eq] at hx
  refine aops_store hT 2 ho hp (Option.some.inj hx) hk rfl hy (Nat.le_of_ble_eq_true hoff) _ rfl hg (by rw [hd]; rfl) ?_
  rw [hd]; exact next
/-- A store into any object, its cells told. -/
theorem aops_stk (hT : TOk P T) (k : Nat) {t : Nat} {p x : Operand} {b off : Nat} {i : TI} {y : A} {room : Nat} {cs : List A} (cs' : List A) (M' : List Ob) (ho : o.op = .store t p x) (hp : opA E p = .ref b off) (hx : opA E x = y) (hk : known T t = some i)
    (hM : M[k]? = some ⟨some b, room, cs⟩) (hy : (Nat.beq y.cs.length i.size && cellsOk y) = true) (hoff : off + i.size ≤ cs.length) (hcs : cs.take off ++ (y.cs ++ cs.drop (off + i.size)) = cs') (hM' : M.set k ⟨some b, room, cs'⟩ = M')
    (hg : guardOn ops o E = some true) (hd : o.dst = none) (next : AOps P N ops rest Q ⟨E, M'⟩) : AOps P N ops (o :: rest) Q ⟨E, M⟩ := by
  refine aops_store hT k ho hp hx hk hM hy hoff cs' hcs hg (by rw [hd]; rfl) ?_
  rw [hM', hd]; exact next
/-! ### division of what is not below nothing -/
theorem div_small {a b : Int} (ha : 0 ≤ a) (ha' : a ≤ 9223372036854775807) (hb : 0 < b) : -9223372036854775808 ≤ a / b ∧ a / b ≤ 9223372036854775807 := by
  have h1 := Int.ediv_nonneg ha (Int.le_of_lt hb)
  have h2 := Int.ediv_le_self b ha
  omega
theorem mod_small {a b : Int} (ha : 0 ≤ a) (ha' : a ≤ 9223372036854775807) (hb : 0 < b) : -9223372036854775808 ≤ a % b ∧ a % b ≤ 9223372036854775807 := by
  have h1 := Int.emod_nonneg a (b := b) (by omega)
  have h2 : a % b ≤ a := by
    have := Int.emod_add_mul_ediv a b
    have h3 := Int.mul_nonneg (Int.le_of_lt hb) (Int.ediv_nonneg ha (Int.le_of_lt hb))
    omega
  omega
theorem aops_quo {d t t' : Nat} {x y : Operand} {a b : Int} (ho : o.op = .binOp .quo t x y t') (hx : opA E x = .int .i64 a) (hy : opA E y = .int .i64 b) (ha : 0 ≤ a) (ha' : a ≤ 9223372036854775807) (hb : 0 < b) (hg : guardOn ops o E = some true) (hd : o.dst = some d) (hN : Nat.blt d N = true)
    (next : AOps P N ops rest Q ⟨(d, .int .i64 (a / b)) :: E, M⟩) : AOps P N ops (o :: rest) Q ⟨E, M⟩ := by
  refine aops_val hg (by rw [hd]; exact hN) (.int .i64 (a / b)) M (fun K G av w hi => ?_) (by rw [hd]; exact next)
  have hrx := opA_rep hi x
  have hry := opA_rep hi y
  rw [hx] at hrx; rw [hy] at hry
  simp only [Rep] at hrx hry
  obtain ⟨d0, d1⟩ := div_small ha ha' hb
  refine ⟨.int .i64 (a / b), w, G, ?_, hi.ok, G.le_refl, rfl⟩
  have e1 : (binOp .quo t (.int .i64 a) (.int .i64 b)).run P w = .ok (.int .i64 (a / b)) w := by
    have hb0 : ¬ b = 0 := by omega
    simp [binOp, Op.intDiv, hb0, Int.tdiv_eq_ediv_of_nonneg ha, wrap64_small d0 d1]
  simp only [execOp, ho, hrx, hry, Sem.run_bind, eqGuard_run (P := P) (w := w) (op := .quo) (t := t) (x := x) (y := y) (u := .int .i64 a) (v := .int .i64 b) (.inl ⟨_, _, rfl⟩), e1, Result.andThen_ok]
  rfl
theorem aops_rem {d t t' : Nat} {x y : Operand} {a b : Int} (ho : o.op = .binOp .rem t x y t') (hx : opA E x = .int .i64 a) (hy : opA E y = .int .i64 b) (ha : 0 ≤ a) (ha' : a ≤ 9223372036854775807) (hb : 0 < b) (hg : guardOn ops o E = some true) (hd : o.dst = some d) (hN : Nat.blt d N = true)
    (next : AOps P N ops rest Q ⟨(d, .int .i64 (a % b)) :: E, M⟩) : AOps P N ops (o :: rest) Q ⟨E, M⟩ := by
  refine aops_val hg (by rw [hd]; exact hN) (.int .i64 (a % b)) M (fun K G av w hi => ?_) (by rw [hd]; exact next)
  have hrx := opA_rep hi x
  have hry := opA_rep hi y
  rw [hx] at hrx; rw [hy] at hry
  simp only [Rep] at hrx hry
  obtain ⟨d0, d1⟩ := mod_small ha ha' hb
  refine ⟨.int .i64 (a % b), w, G, ?_, hi.ok, G.le_refl, rfl⟩
  have e1 : (binOp .rem t (.int .i64 a) (.int .i64 b)).run P w = .ok (.int .i64 (a % b)) w := by
    have hb0 : ¬ b = 0 := by omega
    simp [binOp, Op.intDiv, hb0, Int.tmod_eq_emod_of_nonneg ha]
  simp only [execOp, ho, hrx, hry, Sem.run_bind, eqGuard_run (P := P) (w := w) (op := .rem) (t := t) (x := x) (y := y) (u := .int .i64 a) (v := .int .i64 b) (.inl ⟨_, _, rfl⟩), e1, Result.andThen_ok]
  rfl
end
end Go.Proofs.Ytafncdbkbmaifaa.Ab

/- Make, calls, what is handed over, equality, text out of bytes: rules of the walk. Condition: the table of types agrees with the program's. -/
import Derived.Test.YtafncdbkbmaifaaAb5
import Derived.Laws.BytesArg
set_option linter.unusedVariables false
set_option linter.unusedSimpArgs false
namespace Go.Proofs.Ytafncdbkbmaifaa.Ab
section
variable {P : Program} {T : List TI} {N : Nat} {ops : Array Oper} {rest : List Oper} {o : Oper} {Q : Exit → St → Prop} {E : Env} {M : List Ob}

/-! ### make -/
theorem made_cells {z : Array Value} {n s : Nat} (hs : z.size = s) : (madeCells z (n * s)).toList = (List.replicate n z.toList).flatten := by
  subst hs
  by_cases h : n * z.size = 0
  · rw [h]
    rcases Nat.mul_eq_zero.1 h with rfl | h
    · simp [madeCells]
    · have : z.toList = [] := List.eq_nil_of_length_eq_zero (by simpa using h)
      simp [madeCells, this]
  · exact zeros_cells h

theorem make_run (hT : TOk P T) {t e : Nat} {ei : TI} (hs : sliceOf T t = some (e, ei)) (hz : ei.zero.length = ei.size) {kl kc : IntKind} {n : Nat} (hb : n * ei.bytes ≤ 281474976710656) (hn : n ≤ 140737488355328) (w : World) :
    ∃ us : List Value, us = (List.replicate n ei.zero).flatten ∧ (Instr.makeSlice t (.int kl n) (.int kc n)).run P w = .ok (.slice (some ⟨w.heap.size, 0, none⟩) n n) (w.alloc (.cells us.toArray e)) := by
  obtain ⟨hu, hg, _⟩ := sliceOf_spec hT hs
  obtain ⟨info, z, hi1, hi2, hi3, hi4, hi5, _⟩ := hg.info
  have hb' : (info.bytes : Int) * (n : Int) ≤ 281474976710656 := by
    rw [hi3]
    have h : ((ei.bytes * n : Nat) : Int) ≤ 281474976710656 := by rw [Nat.mul_comm]; omega
    rwa [Int.natCast_mul] at h
  have hr := run_make (P := P) w t e info z hu hi1 hi4 kl kc n n (by omega) (Int.le_refl _) hb' (by omega)
  simp only [Int.toNat_natCast] at hr
  refine ⟨_, rfl, ?_⟩
  have e1 : (List.replicate n ei.zero).flatten.toArray = madeCells z.cells (n * ei.size) := by
    apply Array.toList_inj.1
    rw [made_cells (by rw [← hz, ← hi5]; simp), hi5]
  rw [hr, hi2, e1]

theorem map_zeros (z : List Value) (n : Nat) : ((List.replicate n z).flatten).map ofZ = zerosA (z.map ofZ) n := by
  induction n with
  | zero => rfl
  | succ n ih => simp only [zerosA, List.replicate_succ, List.flatten_cons, List.map_append] at ih ⊢; rw [ih]

/-- make([]T, n). -/
theorem aops_make (hT : TOk P T) {t e : Nat} {ei : TI} {l c : Operand} {kl kc : IntKind} {x : Int} (n : Nat) (ho : o.op = .makeSlice t l c) (hs : sliceOf T t = some (e, ei)) (hl : opA E l = .int kl x) (hc : opA E c = .int kc x) (hx : x = n)
    (hz : Nat.beq ei.zero.length ei.size = true) (hb : n * ei.bytes ≤ 281474976710656) (hn : n ≤ 140737488355328) (hg : guardOn ops o E = some true) (hd : dstOk N o.dst = true)
    (next : ∀ b, AOps P N ops rest Q ⟨put E o.dst (.own (some b) n n), M ++ [⟨some b, n * ei.size, zerosA (ei.zero.map ofZ) n⟩]⟩) : AOps P N ops (o :: rest) Q ⟨E, M⟩ := by
  subst hx
  have hz := Nat.eq_of_beq_eq_true hz
  refine aops_rel hg hd (fun y L => ∃ b, y = .own (some b) n n ∧ L = M ++ [⟨some b, n * ei.size, zerosA (ei.zero.map ofZ) n⟩]) (fun K G a w hi => ?_) (fun y L ⟨b, e1, e2⟩ => by subst e1; subst e2; exact next b)
  have hrl := opA_rep hi l
  have hrc := opA_rep hi c
  rw [hl] at hrl; rw [hc] at hrc; simp only [Rep] at hrl hrc
  obtain ⟨us, hus, hrun⟩ := make_run (P := P) hT hs hz (kl := kl) (kc := kc) hb hn w
  have hlen : us.length = n * ei.size := by rw [hus]; simp [hz]
  have hok := hi.ok.alloc_own (zerosA (ei.zero.map ofZ) n) us [] e (n * ei.size) (by rw [← map_zeros, ← hus]; exact ofZ_repL G us) (by simp [hlen])
  simp only [List.append_nil] at hok
  refine ⟨.slice (some ⟨w.heap.size, 0, none⟩) n n, _, G, _, _, ?_, hok, G.le_refl, (show Rep G (.own (some w.heap.size) n n) _ from rfl), _, rfl, rfl⟩
  simp only [execOp, ho, hrl, hrc, Sem.run_bind, hrun, Result.andThen_ok]
  rfl

/-! ### Calls -/
def callable (fn : Func) : Bool := fn.body.isSome && !(fn.name == "runtime.NumGoroutine")
theorem callFunc_run {f : FuncId} {fn : Func} (hf : P.funcs[f]? = some fn) (hc : callable fn = true) (args : Array Value) (w : World) : (callFunc f args).run P w = .ok (.enter f args) w := by
  simp only [callable, Bool.and_eq_true, Bool.not_eq_true'] at hc
  obtain ⟨c, hb⟩ := Option.isSome_iff_exists.1 hc.1
  have hn : ¬ fn.name = "runtime.NumGoroutine" := by simpa using hc.2
  simp [callFunc, hf, hn, hb]

theorem repL_ops {K : Ctx} {G : Gh} {a : Act} {w : World} (hi : Inv K N G ⟨E, M⟩ a w) : ∀ l : List Operand, RepL G (l.map (opA E)) (l.map a.eval)
  | [] => rfl
  | x :: l => .cons (opA_rep hi x) (repL_ops hi l)

/-- A call of a function, or of a closure, that is told. -/
theorem aops_call {g : Operand} {args : Array Operand} {tys : Array TypeId} {f : FuncId} {cap as : List A} {fn : Func} {R : A → List Ob → Prop} (hf : P.funcs[f]? = some fn) (ho : o.op = .call { callee := .value g, args, argTypes := tys }) (hgv : opA E g = .fn f cap)
    (hfn : callable fn = true) (has : args.toList.map (opA E) ++ cap = as) (hc : ACalls P f as M R) (hg : guardOn ops o E = some true) (hd : dstOk N o.dst = true)
    (next : ∀ x M', R x M' → AOps P N ops rest Q ⟨put E o.dst x, M'⟩) : AOps P N ops (o :: rest) Q ⟨E, M⟩ := by
  subst has
  refine aops_enter hg hd (fun K G a w hi => ?_) hc next
  have hr := opA_rep hi g
  rw [hgv] at hr
  obtain ⟨vs, hv, hl⟩ := hr
  refine ⟨args.toList.map a.eval ++ vs, ?_, (repL_ops hi _).append hl⟩
  have e1 : args.map a.eval ++ vs.toArray = (args.toList.map a.eval ++ vs).toArray := by apply Array.toList_inj.1; simp
  simp only [execOp, ho, resolve, Deferred.ofValue, hv, Sem.run_bind, Sem.run_pure, Result.andThen_ok, invoke, Array.empty_append, callFunc_run hf hfn, e1]

/-- Arguments may be told with less. -/
theorem aops_call_as {g : Operand} {args : Array Operand} {tys : Array TypeId} {f : FuncId} {cap as : List A} {fn : Func} {R : A → List Ob → Prop} (as' : List A) (hf : P.funcs[f]? = some fn) (ho : o.op = .call { callee := .value g, args, argTypes := tys }) (hgv : opA E g = .fn f cap)
    (hfn : callable fn = true) (has : args.toList.map (opA E) ++ cap = as) (hw : ∀ G vs, RepL G as vs → RepL G as' vs) (hc : ACalls P f as' M R) (hg : guardOn ops o E = some true) (hd : dstOk N o.dst = true)
    (next : ∀ x M', R x M' → AOps P N ops rest Q ⟨put E o.dst x, M'⟩) : AOps P N ops (o :: rest) Q ⟨E, M⟩ :=
  aops_call hf ho hgv hfn has (fun G w vs hok hl => hc G w vs hok (hw G vs hl)) hg hd next

theorem nils_psl {G : Gh} {v : Value} (h : Rep G .nils v) : Rep G (.psl 0 []) v := by
  simp only [Rep] at h
  subst h
  exact ⟨none, 0, rfl, Nat.le_refl _, by simp, [], rfl, .inl rfl⟩

/-! ### What is handed over -/
/-- The state's temporaries told otherwise. -/
theorem inv_E {K : Ctx} {G : Gh} {E E' : Env} {M : List Ob} {a : Act} {w : World} (hi : Inv K N G ⟨E, M⟩ a w) (h : ∀ t v, Rep G (get E t) v → Rep G (get E' t) v) : Inv K N G ⟨E', M⟩ a w :=
  ⟨hi.ok, hi.sz, hi.df, fun t => h t _ (hi.ev t)⟩

/-- A nil slice is one's own, and nobody's. -/
theorem inv_adopt {K : Ctx} {G : Gh} {a : Act} {w : World} {t : Nat} (hi : Inv K N G ⟨E, M⟩ a w) (h : get E t = .nils) : Inv K N G ⟨(t, .own none 0 0) :: E, M ++ [⟨none, 0, []⟩]⟩ a w := by
  have k := hi.ok
  refine ⟨⟨k.g, k.os, k.tape, k.output, k.size, k.fr, k.fz, ?_, ?_, ?_, ?_, ?_, k.mz, k.um, k.wt⟩, hi.sz, hi.df, ?_⟩
  · intro o ho b hb
    rcases List.mem_append.1 ho with ho | ho
    · exact k.ow o ho b hb
    · simp at ho; subst ho; simp at hb
  · intro o ho hb
    rcases List.mem_append.1 ho with ho | ho
    · exact k.vn o ho hb
    · simp at ho; subst ho; simp
  · intro o ho b hb
    rcases List.mem_append.1 ho with ho | ho
    · exact k.un o ho b hb
    · simp at ho; subst ho; simp at hb
  · intro o ho b hb
    rcases List.mem_append.1 ho with ho | ho
    · exact k.kb o ho b hb
    · simp at ho; subst ho; simp at hb
  · rw [List.filterMap_append]; simpa using k.nd
  · intro s
    simp only [get]
    by_cases e : t = s
    · subst e
      have := hi.ev t
      simp only at this
      rw [h] at this
      simp only [Rep] at this
      rw [show Nat.beq t t = true from by simp, cond_true]
      exact ⟨this, rfl, rfl⟩
    · have hb : Nat.beq t s = false := by
        cases hb : Nat.beq t s with
        | false => rfl
        | true => exact absurd (Nat.eq_of_beq_eq_true hb) e
      rw [hb]
      exact hi.ev s

theorem ok_nodup_erase (M : List Ob) (k : Nat) (h : (M.filterMap (·.b)).Nodup) : ((M.eraseIdx k).filterMap (·.b)).Nodup :=
  h.sublist ((List.eraseIdx_sublist M k).filterMap _)

/-- One's own slice is frozen: it's read from now on, and no more written. -/
theorem ok_publish {K : Ctx} {G : Gh} {w : World} (h : Ok K G M w) {k : Nat} {ob : Option Nat} {room : Nat} {cs : List A} (hM : M[k]? = some ⟨ob, room, cs⟩) :
    ∃ G', G.le G' ∧ Ok K G' (M.eraseIdx k) w ∧ (∀ b, ob = some b → ∃ vs, RepL G' cs vs ∧ At G' b 0 vs ∧ vs.length ≤ room) ∧ (ob = none → cs = [] ∧ room = 0) ∧ G'.U = G.U := by
  have hmem := List.mem_of_getElem? hM
  have hsub : ∀ o ∈ M.eraseIdx k, o ∈ M := fun o ho => (List.eraseIdx_sublist M k).subset ho
  cases ob with
  | none => exact ⟨G, G.le_refl, h.sub hsub (ok_nodup_erase M k h.nd), fun b hb => by simp at hb, fun _ => h.vn _ hmem rfl, rfl⟩
  | some b =>
    obtain ⟨vs, sp, t, hh, hl, hr⟩ := h.ow _ hmem b rfl
    have hz := h.un _ hmem b rfl
    have hle := Gh.freeze_le (vs := vs) hz
    -- no other object is of this block
    have other : ∀ o ∈ M.eraseIdx k, ∀ b', o.b = some b' → b' ≠ b := by
      intro o ho b' hb' e
      subst e
      have key : ∀ (M : List Ob) (k : Nat), M[k]? = some ⟨some b', room, cs⟩ → o ∈ M.eraseIdx k → (M.filterMap (·.b)).Nodup → False := by
        intro M
        induction M with
        | nil => intro k hk; simp at hk
        | cons x M ih =>
          intro k hk ho hnd
          cases k with
          | zero =>
            simp at hk ho
            subst hk
            simp only [List.filterMap_cons, List.nodup_cons] at hnd
            exact hnd.1 (List.mem_filterMap.2 ⟨o, ho, hb'⟩)
          | succ k =>
            simp at hk ho
            have hnd' : (M.filterMap (·.b)).Nodup := by
              cases hx : x.b with
              | none => simpa [List.filterMap_cons, hx] using hnd
              | some y => simp only [List.filterMap_cons, hx, List.nodup_cons] at hnd; exact hnd.2
            rcases ho with rfl | ho
            · simp only [List.filterMap_cons, hb', List.nodup_cons] at hnd
              exact hnd.1 (List.mem_filterMap.2 ⟨_, List.mem_of_getElem? hk, rfl⟩)
            · exact ih k hk ho hnd'
      exact key M k hM ho h.nd
    refine ⟨G.freeze b vs, hle, ⟨Gh.le_trans h.g hle, h.os, h.tape, h.output, h.size, h.fr, ?_, ?_, fun o ho => h.vn o (hsub o ho), ?_, fun o ho => h.kb o (hsub o ho), ok_nodup_erase M k h.nd, h.mz, fun c hu => ?_, h.wt⟩, fun b' hb' => ?_, fun e => by simp at e, rfl⟩
    · intro c hc
      by_cases e : c = b
      · subst e
        exact ⟨_, t, (0, 0), hh, by simp [Gh.freeze]⟩
      · simp only [Gh.freeze, if_neg e] at hc
        obtain ⟨c', t', f, h1, h2⟩ := h.fz c hc
        exact ⟨c', t', f, h1, by simpa [Gh.freeze, e] using h2⟩
    · intro o ho b' hb'
      obtain ⟨us, sp', t', h1, h2, h3⟩ := h.ow o (hsub o ho) b' hb'
      exact ⟨us, sp', t', h1, h2.mono hle _ _, h3⟩
    · intro o ho b' hb'
      simp [Gh.freeze, other o ho b' hb', h.un o (hsub o ho) b' hb']
    · obtain ⟨h1, h2⟩ := h.um c hu
      refine ⟨fun e => h1 ?_, h2⟩
      have := hle.1 c
      rw [e] at this
      exact List.prefix_nil.1 this
    · obtain rfl := Option.some.inj hb'
      exact ⟨vs, hl.mono hle _ _, Gh.at_freeze G _ _, by simp only at hr; omega⟩

theorem inv_publish {K : Ctx} {G : Gh} {a : Act} {w : World} (hi : Inv K N G ⟨E, M⟩ a w) {k t : Nat} {ob : Option Nat} {n cap room sz : Nat} {cs : List A} (h : get E t = .own ob n cap) (hM : M[k]? = some ⟨ob, room, cs⟩) (hr : room = cap * sz) (hcs : cs.length = n * sz) (hsz : 0 < sz) :
    ∃ G', Inv K N G' ⟨(t, .psl n cs) :: E, M.eraseIdx k⟩ a w := by
  obtain ⟨G', hle, hok, hb, hn, _⟩ := ok_publish hi.ok hM
  refine ⟨G', hok, hi.sz, hi.df, fun s => ?_⟩
  simp only [get]
  by_cases e : t = s
  · subst e
    have hev := hi.ev t
    simp only at hev
    rw [h] at hev
    have : Nat.beq t t = true := by simp
    rw [this, cond_true]
    cases ob with
    | none =>
      obtain ⟨hv, rfl, rfl⟩ := hev
      obtain ⟨rfl, _⟩ := hn rfl
      exact ⟨none, 0, hv, Nat.le_refl _, by simp, [], rfl, .inl rfl⟩
    | some b =>
      simp only [Rep] at hev
      obtain ⟨vs, hl, hat, hle'⟩ := hb b rfl
      have hlen := hl.length
      refine ⟨_, cap, hev, Nat.le_of_mul_le_mul_right (show n * sz ≤ cap * sz by omega) hsz, by simp, vs, hl, .inr ⟨b, 0, rfl, hat⟩⟩
  · have hb : Nat.beq t s = false := by
      cases hb : Nat.beq t s with
      | false => rfl
      | true => exact absurd (Nat.eq_of_beq_eq_true hb) e
    rw [hb]
    exact (hi.ev s).mono hle

/-- An object of which nobody speaks is forgotten. -/
theorem inv_drop {K : Ctx} {G : Gh} {a : Act} {w : World} (hi : Inv K N G ⟨E, M⟩ a w) (k : Nat) : Inv K N G ⟨E, M.eraseIdx k⟩ a w :=
  ⟨hi.ok.sub (fun o ho => (List.eraseIdx_sublist M k).subset ho) (ok_nodup_erase M k hi.ok.nd), hi.sz, hi.df, hi.ev⟩
theorem inv_take {K : Ctx} {G : Gh} {a : Act} {w : World} (hi : Inv K N G ⟨E, M⟩ a w) (k : Nat) : Inv K N G ⟨E, M.take k⟩ a w :=
  ⟨hi.ok.sub (fun o ho => (List.take_sublist k M).subset ho) (hi.ok.nd.sublist ((List.take_sublist k M).filterMap _)), hi.sz, hi.df, hi.ev⟩

/-- A variable of one's own (a struct's) is frozen; pointers to it are kept as told. -/
theorem inv_publish_ref {K : Ctx} {G : Gh} {a : Act} {w : World} (hi : Inv K N G ⟨E, M⟩ a w) {k t : Nat} {b room : Nat} {cs : List A} (h : get E t = .ref b 0) (hM : M[k]? = some ⟨some b, room, cs⟩) :
    ∃ G', Inv K N G' ⟨(t, .pp cs) :: E, M.eraseIdx k⟩ a w := by
  obtain ⟨G', hle, hok, hb, hn, _⟩ := ok_publish hi.ok hM
  refine ⟨G', hok, hi.sz, hi.df, fun s => ?_⟩
  simp only [get]
  by_cases e : t = s
  · subst e
    have hev := hi.ev t
    simp only at hev
    rw [h] at hev
    simp only [Rep] at hev
    have : Nat.beq t t = true := by simp
    rw [this, cond_true]
    obtain ⟨vs, hl, hat, _⟩ := hb b rfl
    exact ⟨b, 0, vs, hev, hat, hl⟩
  · have hb : Nat.beq t s = false := by
      cases hb : Nat.beq t s with
      | false => rfl
      | true => exact absurd (Nat.eq_of_beq_eq_true hb) e
    rw [hb]
    exact (hi.ev s).mono hle

/-! ### A result out of a variable of one's own, or of a frozen one -/
theorem resOf_own (hT : TOk P T) {st : St} {at_ : Tmp} {t : Nat} {i : TI} {b off k room : Nat} {cs : List A} {y : A} (h : get st.E at_ = .ref b off) (hk : known T t = some i) (hM : st.M[k]? = some ⟨some b, room, cs⟩)
    (hy : (bif i.k.isAgg then (bif Nat.ble (off + i.size) cs.length then some (A.agg ((cs.drop off).take i.size)) else none) else cs[off]?) = some y) : ResOf P N st (.cell at_ t) y := by
  intro K G a w hi
  obtain ⟨k1, k2⟩ := known_spec hk
  have hgt := hT.get k1 k2
  have hr := hi.ev at_
  rw [h] at hr
  simp only [Rep] at hr
  obtain ⟨vs, hl, hcell⟩ := hi.ok.ocell (List.mem_of_getElem? hM) rfl
  have hlen := hl.length
  simp only at hlen
  cases ha : i.k.isAgg with
  | true =>
    rw [ha, cond_true] at hy
    cases hb : Nat.ble (off + i.size) cs.length with
    | false => rw [hb] at hy; simp at hy
    | true =>
      rw [hb] at hy
      simp at hy
      subst hy
      have hle := Nat.le_of_ble_eq_true hb
      have hv := loadVar_run (P := P) (w := w) hgt (b := b) (off := off) (vs := (vs.drop off).take i.size) (by simp; omega) (fun j v hj => by
        have hlt := (List.getElem?_eq_some_iff.1 hj).1
        rw [List.getElem?_take_of_lt (by simp at hlt; omega), List.getElem?_drop] at hj
        exact hcell _ _ hj)
      rw [if_pos ha] at hv
      refine ⟨_, ?_, ⟨_, rfl, (hl.drop off).take _⟩⟩
      simp only [resSem, hr, asAddr, Sem.run_bind, Sem.run_pure, Result.andThen_ok, hv]
  | false =>
    rw [ha, cond_false] at hy
    obtain ⟨v, hv, hrv⟩ := hl.at off hy
    have hc := hcell off v hv
    refine ⟨v, ?_, hrv⟩
    simp only [resSem, hr, asAddr, Sem.run_bind, Sem.run_pure, Result.andThen_ok]
    simp [loadVar, run_isAgg hgt, ha, run_load, hc]
end
end Go.Proofs.Ytafncdbkbmaifaa.Ab

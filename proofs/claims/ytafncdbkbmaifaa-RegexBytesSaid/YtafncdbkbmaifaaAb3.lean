/- The plain operations: soundness, operation by operation. Condition: the table of types agrees with the program's. -/
import Derived.Test.YtafncdbkbmaifaaAb2
set_option linter.unusedVariables false
set_option linter.unusedSimpArgs false
namespace Go.Proofs.Ytafncdbkbmaifaa.Ab
section sound
variable {P : Program} {T : List TI} {K : Ctx} {N : Nat} {G : Gh} {E : Env} {M : List Ob} {a : Act} {w : World}

theorem fill_seg {off : Nat} : ∀ (vs : List Value) (k : Nat) (cells : Array Value), off + k + vs.length ≤ cells.size →
    ((vs.zipIdx k).foldl (fun cs x => cs.setIfInBounds (off + x.2) x.1) cells).toList = cells.toList.take (off + k) ++ (vs ++ cells.toList.drop (off + k + vs.length))
  | [], k, cells, _ => by simp
  | v :: vs, k, cells, h => by
    simp only [List.zipIdx_cons, List.foldl_cons]
    have h' : off + (k + 1) + vs.length ≤ (cells.setIfInBounds (off + k) v).size := by simp at h ⊢; omega
    rw [fill_seg vs (k + 1) _ h']
    have e := list_seg_step cells.toList (off + k) v vs (by simp at h ⊢; omega)
    simpa [Array.toList_setIfInBounds, Nat.add_assoc, Nat.add_comm 1] using e

theorem fill_run {place : Nat → Option (Nat × Nat)} : ∀ (ps : List (Nat × A)) (qs : List (Nat × Value)) (cells : List A) (vs : Array Value) (r : List A),
    qs.length = ps.length → (∀ (k : Nat) (p : Nat × A) (q : Nat × Value), ps[k]? = some p → qs[k]? = some q → p.1 = q.1 ∧ Rep G p.2 q.2) → RepL G cells vs.toList → fillA place cells ps = some r →
    ∃ us, Instr.fill place vs qs = some us ∧ RepL G r us.toList
  | [], [], cells, vs, r, _, _, hl, h => by
    simp [fillA] at h
    subst h
    exact ⟨vs, rfl, hl⟩
  | [], _ :: _, _, _, _, h, _, _, _ => by simp at h
  | _ :: _, [], _, _, _, h, _, _, _ => by simp at h
  | (i, x) :: ps, (i', v) :: qs, cells, vs, r, hlen, hpq, hl, h => by
    have h0 := hpq 0 (i, x) (i', v) rfl rfl
    simp at h0
    obtain ⟨rfl, hx⟩ := h0
    simp only [fillA] at h
    simp only [Instr.fill]
    cases hp : place i with
    | none => simp [hp] at h
    | some p =>
      obtain ⟨off, size⟩ := p
      simp only [hp] at h ⊢
      cases hb : (Nat.beq x.cs.length size && Nat.ble (off + size) cells.length && cellsOk x) with
      | false => rw [hb] at h; simp at h
      | true =>
        rw [hb] at h
        simp only [cond_true] at h
        simp only [Bool.and_eq_true] at hb
        obtain ⟨⟨h1, h2⟩, h3⟩ := hb
        have h1 := Nat.eq_of_beq_eq_true h1
        have h2 := Nat.le_of_ble_eq_true h2
        obtain ⟨hc, _⟩ := cs_rep hx h3
        have hcl := hc.length
        have hvl := hl.length
        simp at hcl hvl
        have hsz : ¬ (v.cells.size ≠ size ∨ off + v.cells.size > vs.size) := by omega
        have hsz2 : (decide (v.cells.size ≠ size) || decide (off + v.cells.size > vs.size)) = false := by simp; omega
        rw [if_neg (by simpa using hsz)]
        refine fill_run ps qs _ _ r (by simpa using hlen) (fun k p q h1 h2 => hpq (k + 1) p q (by simpa using h1) (by simpa using h2)) ?_ h
        have e := fill_seg (off := off) v.cells.toList 0 vs (by simp; omega)
        simp only [Nat.add_zero, Array.length_toList] at e
        have e' : (Array.foldl (fun cs x => cs.setIfInBounds (off + x.2) x.1) vs v.cells.zipIdx).toList = vs.toList.take off ++ (v.cells.toList ++ vs.toList.drop (off + v.cells.size)) := by
          rw [← e, ← Array.foldl_toList, Array.toList_zipIdx]
        rw [e', show off + v.cells.size = off + size from by omega]
        exact (hl.take off).append (hc.append (hl.drop _))

theorem und_struct {t s b : Nat} {z : List Value} {fs : List (Nat × Nat)} (h : TG P t ⟨.struct fs, s, b, z⟩) : ∃ gs : Array Field, P.underlying t = some (.struct gs) ∧ gs.toList.map (fun f => (f.offset, f.type)) = fs := by
  obtain ⟨d, h1, h2⟩ := h.und
  cases d <;> simp [tkOf] at h2
  rename_i gs
  exact ⟨gs, h1, h2⟩
theorem und_array {t n e s b : Nat} {z : List Value} (h : TG P t ⟨.array n e, s, b, z⟩) : P.underlying t = some (.array n e) := by
  obtain ⟨d, h1, h2⟩ := h.und
  cases d <;> simp [tkOf] at h2
  rw [h1, h2.1, h2.2]
theorem und_slice {t e : Nat} {i : TI} (h : TG P t i) (hk : i.k = .slice e) : P.underlying t = some (.slice e) := by
  obtain ⟨d, h1, h2⟩ := h.und
  rw [hk] at h2
  cases d <;> simp [tkOf] at h2
  rw [h1, h2]
theorem und_int {t : Nat} {e : IntKind} {i : TI} (h : TG P t i) (hk : i.k = .int e) : P.underlying t = some (.int e) := by
  obtain ⟨d, h1, h2⟩ := h.und
  rw [hk] at h2
  cases d <;> simp [tkOf] at h2
  rw [h1, h2]
theorem und_string {t : Nat} {i : TI} (h : TG P t i) (hk : i.k = .string) : P.underlying t = some .string := by
  obtain ⟨d, h1, h2⟩ := h.und
  rw [hk] at h2
  cases d <;> simp [tkOf] at h2
  exact h1

theorem run_zero {t : Nat} {i : TI} (h : TG P t i) : ∃ z, (zeroValue t).run P w = .ok z w ∧ z.cells.toList = i.zero := by
  obtain ⟨info, z, h1, h2, h3, h4, h5, _⟩ := h.info
  exact ⟨z, by simp [zeroValue, run_info h1, h4], h5⟩

theorem mapM_all {α β : Type} (g : α → Sem β) (val : α → β) : ∀ (l : List α), (∀ x ∈ l, (g x).run P w = .ok (val x) w) → (l.mapM g).run P w = .ok (l.map val) w
  | [], _ => by simp
  | x :: l, h => by
    have h0 := h x (by simp)
    have ih := mapM_all g val l (fun y hy => h y (by simp [hy]))
    simp only [List.mapM_cons, Sem.run_bind, h0, Result.andThen_ok, ih, List.map_cons]
    rfl

theorem parts_zip {parts : Array (Nat × Operand)} (hi : Inv K N G ⟨E, M⟩ a w) :
    ((parts.map fun (i, x) => (i, a.eval x)).toList).length = (parts.toList.map fun (i, x) => (i, opA E x)).length ∧
    ∀ (k : Nat) (p : Nat × A) (q : Nat × Value), (parts.toList.map fun (i, x) => (i, opA E x))[k]? = some p → ((parts.map fun (i, x) => (i, a.eval x)).toList)[k]? = some q → p.1 = q.1 ∧ Rep G p.2 q.2 := by
  refine ⟨by simp, fun k p q hp hq => ?_⟩
  simp only [Array.toList_map, List.getElem?_map] at hp hq
  cases hk : parts.toList[k]? with
  | none => simp [hk] at hp
  | some y =>
    obtain ⟨i, x⟩ := y
    simp only [hk, Option.map_some, Option.some.injEq] at hp hq
    subst hp; subst hq
    exact ⟨rfl, opA_rep hi x⟩


theorem allPlaces_run (hT : TOk P T) {gs : Array Field} {fs : List (Nat × Nat)} (he : gs.toList.map (fun f => (f.offset, f.type)) = fs) {pl : List (Nat × Nat)} (h : allPlaces T fs = some pl) (g : Field → Sem (Nat × Nat))
    (hgf : ∀ x s, (sizeOf x.type).run P w = .ok s w → (g x).run P w = .ok (x.offset, s) w) : (gs.mapM g).run P w = .ok pl.toArray w := by
  rw [Array.mapM_eq_mapM_toList]
  have key : ∀ (l : List Field) (pl : List (Nat × Nat)), allPlaces T (l.map fun f => (f.offset, f.type)) = some pl → (l.mapM g).run P w = .ok pl w := by
    intro l
    induction l with
    | nil => intro pl h; simp [allPlaces] at h; subst h; simp
    | cons x l ih =>
      intro pl h
      simp only [List.map_cons, allPlaces] at h
      split at h
      · rename_i i l' hi hl'
        simp at h
        subst h
        obtain ⟨h1, h2⟩ := known_spec hi
        have h0 := hgf x _ (run_size (hT.get h1 h2))
        simp only [List.mapM_cons, Sem.run_bind, h0, Result.andThen_ok, ih l' hl']
        rfl
      · simp at h
  rw [← he] at h
  have := key _ _ h
  simp only [Sem.run_map, this, Result.andThen_ok]

theorem build_run (hT : TOk P T) {t : Nat} {parts : Array (Nat × Operand)} {r : A} (h : aval T E (.build t parts) = some r) (hi : Inv K N G ⟨E, M⟩ a w) :
    ∃ v, (Instr.build t (parts.map fun (i, x) => (i, a.eval x))).run P w = .ok v w ∧ Rep G r v := by
  obtain ⟨hlen, hpq⟩ := parts_zip (parts := parts) hi
  simp only [aval] at h
  split at h
  · rename_i fs s b zero hti
    have hg := hT.get hti (by simp)
    obtain ⟨gs, hu, hgs⟩ := und_struct hg
    obtain ⟨z, hz, hzc⟩ := run_zero (w := w) hg
    split at h
    · rename_i pl hpl
      simp only [Option.map_eq_some_iff] at h
      obtain ⟨cs, hf, rfl⟩ := h
      obtain ⟨us, h1, h2⟩ := fill_run (G := G) _ _ _ z.cells _ hlen hpq (by rw [hzc]; exact ofZ_repL G _) hf
      refine ⟨.agg us, ?_, ⟨us.toList, by simp, h2⟩⟩
      have h1' : Instr.fill (fun x => pl.toArray[x]?) z.cells (parts.map fun (i, x) => (i, a.eval x)).toList = some us := by simpa using h1
      have hm := allPlaces_run (w := w) hT hgs hpl (fun f => do pure (f.offset, ← sizeOf f.type)) (fun x s hs => by simp [hs])
      simp only [Instr.build, Sem.run_bind, hz, Result.andThen_ok, run_und hu, hm, h1', Sem.run_pure]
    · simp at h
  · rename_i n e s b zero hti
    have hg := hT.get hti (by simp)
    have hu := und_array hg
    obtain ⟨z, hz, hzc⟩ := run_zero (w := w) hg
    split at h
    · rename_i ei hei
      obtain ⟨e1, e2⟩ := known_spec hei
      simp only [Option.map_eq_some_iff] at h
      obtain ⟨cs, hf, rfl⟩ := h
      obtain ⟨us, h1, h2⟩ := fill_run (G := G) _ _ _ z.cells _ hlen hpq (by rw [hzc]; exact ofZ_repL G _) hf
      refine ⟨.agg us, ?_, ⟨us.toList, by simp, h2⟩⟩
      simp only [Instr.build, Sem.run_bind, hz, Result.andThen_ok, run_und hu, run_size (hT.get e1 e2), h1, Sem.run_pure]
    · simp at h
  · simp at h

theorem und_struct_field {gs : Array Field} {fs : List (Nat × Nat)} (he : gs.toList.map (fun f => (f.offset, f.type)) = fs) {f off t : Nat} (h : fs[f]? = some (off, t)) : ∃ x, gs[f]? = some x ∧ x.offset = off ∧ x.type = t := by
  subst he
  rw [List.getElem?_map] at h
  cases hx : gs.toList[f]? with
  | none => simp [hx] at h
  | some x =>
    simp [hx] at h
    exact ⟨x, by simpa using hx, h.1, h.2⟩

theorem part_run {t : Nat} {i : TI} (hg : TG P t i) {cs : List A} {vs : List Value} (hl : RepL G cs vs) {off : Nat} {r : A}
    (h : (bif i.k.isAgg then some (.agg ((cs.drop off).take i.size)) else cs[off]?) = some r) : ∃ v, (part t vs.toArray off).run P w = .ok v w ∧ Rep G r v := by
  cases ha : i.k.isAgg with
  | true =>
    rw [ha] at h
    simp at h
    subst h
    refine ⟨.agg ((vs.drop off).take i.size).toArray, ?_, ⟨_, rfl, (hl.drop off).take _⟩⟩
    simp only [part, Sem.run_bind, run_isAgg hg, ha, Result.andThen_ok, if_true, run_size hg, Sem.run_pure]
    congr 2
    simp [List.extract_eq_take_drop]
  | false =>
    rw [ha] at h
    simp at h
    obtain ⟨v, hv, hr⟩ := hl.at off h
    exact ⟨v, by simp [part, run_isAgg hg, ha, hv], hr⟩

theorem min_run {at_ : Array TypeId} {ty : TypeId} {k k' : IntKind} {x y : Int} : (Builtin.min_ at_ ty #[.int k x, .int k' y]).run P w = .ok (.int k (if y < x then y else x)) w := by
  simp [Builtin.min_, Builtin.min2]
theorem max_run {at_ : Array TypeId} {ty : TypeId} {k k' : IntKind} {x y : Int} : (Builtin.max_ at_ ty #[.int k x, .int k' y]).run P w = .ok (.int k (if y > x then y else x)) w := by
  simp [Builtin.max_, Builtin.max2]

theorem map_inv2 {args : Array Operand} {x y : A} (h : args.toList.map (opA E) = [x, y]) : ∃ p q, args = #[p, q] ∧ opA E p = x ∧ opA E q = y := by
  obtain ⟨l⟩ := args
  match l, h with
  | [p, q], h => simp at h; exact ⟨p, q, rfl, h.1, h.2⟩

theorem call_builtin_run {b : Builtin} {args : Array Operand} {tys : Array TypeId} {o : Oper} (ho : o.op = .call { callee := .builtin b, args, argTypes := tys }) {v : Value} {w' : World}
    (h : (builtin b tys o.type (args.map fun | .const _ => true | _ => false) (args.map a.eval)).run P w = .ok (.value v) w') : (execOp a.eval o).run P w = .ok (.value v) w' := by
  simp only [execOp, ho, resolve, Sem.run_bind, Sem.run_pure, Result.andThen_ok, invoke]
  exact h

theorem aval_sound (hT : TOk P T) {o : Oper} {r : A} (h : aval T E o.op = some r) (hi : Inv K N G ⟨E, M⟩ a w) : ∃ v, (execOp a.eval o).run P w = .ok (.value v) w ∧ Rep G r v := by
  cases hop : o.op with
  | move x =>
    rw [hop] at h; simp only [aval, Option.some.injEq] at h; subst h
    exact ⟨_, by simp only [execOp, hop]; rfl, opA_rep hi x⟩
  | assign x =>
    rw [hop] at h; simp only [aval, Option.some.injEq] at h; subst h
    exact ⟨_, by simp only [execOp, hop]; rfl, opA_rep hi x⟩
  | pick c x y =>
    rw [hop] at h; simp only [aval] at h
    split at h
    · rename_i t ht
      simp only [Option.some.injEq] at h; subst h
      have hc := opA_rep hi c
      rw [ht] at hc; simp only [Rep] at hc
      refine ⟨if t then a.eval x else a.eval y, by simp [execOp, hop, hc, asBool], ?_⟩
      cases t
      · simpa using opA_rep hi y
      · simpa using opA_rep hi x
    · simp at h
  | build t parts =>
    rw [hop] at h
    obtain ⟨v, h1, h2⟩ := build_run hT h hi
    exact ⟨v, by simp only [execOp, hop, Sem.run_bind, h1, Result.andThen_ok]; rfl, h2⟩
  | load t x =>
    rw [hop] at h
    obtain ⟨v, h1, h2⟩ := loadAt_run hT h hi
    exact ⟨v, by simp only [execOp, hop, Sem.run_bind, h1, Result.andThen_ok]; rfl, h2⟩
  | nilCheck x =>
    rw [hop] at h; simp only [aval] at h
    have hx := asP_rep (opA_rep hi x)
    split at h
    · rename_i cs hc
      simp only [Option.some.injEq] at h; subst h
      rw [hc] at hx
      have hx' := hx
      obtain ⟨b, off, vs, hv, _⟩ := hx'
      exact ⟨a.eval x, by simp only [execOp, hop, hv]; rfl, hx⟩
    · rename_i b off hc
      simp only [Option.some.injEq] at h; subst h
      rw [hc] at hx
      have hv := hx
      simp only [Rep] at hv
      exact ⟨a.eval x, by simp only [execOp, hop, hv]; rfl, hx⟩
    · simp at h
  | binOp op t x y yt =>
    rw [hop] at h; simp only [aval] at h
    obtain ⟨v, h1, h2⟩ := binA_run (P := P) (w := w) h (opA_rep hi x) (opA_rep hi y) t x y
    refine ⟨v, ?_, h2⟩
    simp only [Sem.run_bind] at h1
    simp only [execOp, hop, Sem.run_bind, h1, Result.andThen_ok]; rfl
  | unOp op t x =>
    rw [hop] at h
    have hx := opA_rep hi x
    cases op with
    | not =>
      simp only [aval] at h
      split at h
      · rename_i b hb
        simp only [Option.some.injEq] at h; subst h
        rw [hb] at hx; simp only [Rep] at hx
        exact ⟨.bool !b, by simp [execOp, hop, hx, Op.unary], rfl⟩
      · simp at h
    | neg =>
      simp only [aval] at h
      split at h
      · rename_i k n hb
        simp only [Option.some.injEq] at h; subst h
        rw [hb] at hx; simp only [Rep] at hx
        exact ⟨.int k (k.wrap (0 - n)), by simp [execOp, hop, hx, Op.unary, Op.intArith], rfl⟩
      · simp at h
    | _ => simp [aval] at h
  | convert s d x =>
    rw [hop] at h; simp only [aval] at h
    have hx := opA_rep hi x
    split at h
    · rename_i k _ _ _ n hs hd hb
      simp only [Option.some.injEq] at h; subst h
      rw [hb] at hx; simp only [Rep] at hx
      obtain ⟨s1, s2⟩ := known_spec hs
      obtain ⟨d1, d2⟩ := known_spec hd
      obtain ⟨ds, hs1, hs2⟩ := (hT.get s1 s2).und
      have hd1 := und_int (hT.get d1 d2) rfl
      refine ⟨.int _ (IntKind.wrap _ n), ?_, rfl⟩
      simp only [execOp, hop, hx, convert, Sem.run_bind, run_und hs1, run_und hd1, Result.andThen_ok, Conv.intToInt, Sem.run_pure]
    · rename_i s' hs hd hb
      simp only [Option.some.injEq] at h; subst h
      rw [hb] at hx; simp only [Rep] at hx
      obtain ⟨s1, s2⟩ := known_spec hs
      obtain ⟨d1, d2⟩ := known_spec hd
      obtain ⟨ds, hs1, hs2⟩ := (hT.get s1 s2).und
      have hd1 := und_string (hT.get d1 d2) rfl
      refine ⟨.string s', ?_, rfl⟩
      simp only [execOp, hop, hx, convert, Sem.run_bind, run_und hs1, run_und hd1, Result.andThen_ok, Sem.run_pure]
    · simp at h
  | makeFunc fn first cap =>
    rw [hop] at h
    cases fn with
    | func f =>
      simp only [aval] at h
      cases hb : Nat.beq first.size 0 with
      | false => rw [hb] at h; simp at h
      | true =>
        rw [hb] at h; simp only [cond_true, Option.some.injEq] at h; subst h
        have hz := Nat.eq_of_beq_eq_true hb
        have hz' : first = #[] := Array.eq_empty_of_size_eq_zero hz
        subst hz'
        refine ⟨.func (.func f) #[] (cap.map a.eval), ?_, ⟨(cap.toList.map a.eval), by rw [← Array.toList_map, Array.toArray_toList], ?_⟩⟩
        · simp only [execOp, hop, Instr.makeFunc, Sem.run_bind, Sem.run_pure, Result.andThen_ok]
          rw [show (#[] : Array Operand).map a.eval = #[] from by simp]
        · have : ∀ l : List Operand, RepL G (l.map (opA E)) (l.map a.eval) := by
            intro l
            induction l with
            | nil => rfl
            | cons x l ih => exact .cons (opA_rep hi x) ih
          exact this _
    | _ => simp [aval] at h
  | fieldAddr s x f =>
    rw [hop] at h; simp only [aval] at h
    have hx := asP_rep (opA_rep hi x)
    split at h
    · rename_i fs _ _ _ hti
      have hg := hT.get hti (by simp)
      obtain ⟨gs, hu, hgs⟩ := und_struct hg
      split at h
      · rename_i off t hf
        obtain ⟨fld, hfld, rfl, rfl⟩ := und_struct_field hgs hf
        split at h
        · rename_i i hki
          obtain ⟨k1, k2⟩ := known_spec hki
          have hgi := hT.get k1 k2
          cases hb : Nat.beq i.size 0 with
          | true => rw [hb] at h; simp at h
          | false =>
            rw [hb] at h; simp only [cond_false] at h
            have hne : ¬ i.size = 0 := by
              intro e; rw [e] at hb; simp at hb
            have run : ∀ b o, (Instr.fieldAt s (.pointer (some ⟨b, o, none⟩)) f).run P w = .ok (.pointer (some ⟨b, o + fld.offset, none⟩)) w := by
              intro b o
              simp only [Instr.fieldAt, Sem.run_bind, run_und hu, Result.andThen_ok, hfld, Instr.sureAddr, Sem.run_pure, fieldPlace, run_size hgi, if_neg hne, addr_add]
            split at h
            · rename_i cs hc
              simp only [Option.some.injEq] at h; subst h
              rw [hc] at hx
              obtain ⟨b, o, vs, hv, hat, hl⟩ := hx
              refine ⟨.pointer (some ⟨b, o + fld.offset, none⟩), ?_, ⟨b, o + fld.offset, vs.drop fld.offset, rfl, ?_, hl.drop _⟩⟩
              · simp only [execOp, hop, hv, Sem.run_bind, run, Result.andThen_ok]; rfl
              · obtain ⟨u, hu'⟩ := hat
                by_cases hle : fld.offset ≤ vs.length
                · refine ⟨u, ?_⟩
                  rw [← List.drop_drop, ← hu', List.drop_append_of_le_length hle]
                · rw [List.drop_eq_nil_of_le (by omega)]; exact List.nil_prefix
            · rename_i b o hc
              simp only [Option.some.injEq] at h; subst h
              rw [hc] at hx; simp only [Rep] at hx
              exact ⟨_, by simp only [execOp, hop, hx, Sem.run_bind, run, Result.andThen_ok]; rfl, rfl⟩
            · simp at h
        · simp at h
      · simp at h
    · simp at h
  | field s x f =>
    rw [hop] at h; simp only [aval] at h
    have hx := opA_rep hi x
    split at h
    · rename_i fs _ _ _ hti
      have hg := hT.get hti (by simp)
      obtain ⟨gs, hu, hgs⟩ := und_struct hg
      split at h
      · rename_i off t hf
        obtain ⟨fld, hfld, rfl, rfl⟩ := und_struct_field hgs hf
        split at h
        · rename_i i cs hki hc
          obtain ⟨k1, k2⟩ := known_spec hki
          have hgi := hT.get k1 k2
          rw [hc] at hx
          obtain ⟨vs, hv, hl⟩ := hx
          obtain ⟨v, h1, h2⟩ := part_run (P := P) (w := w) hgi hl h
          exact ⟨v, by simp only [execOp, hop, hv, Instr.field, Sem.run_bind, run_und hu, Result.andThen_ok, hfld, asAgg, Sem.run_pure, h1], h2⟩
        · simp at h
      · simp at h
    · simp at h
  | extract x i =>
    rw [hop] at h; simp only [aval] at h
    have hx := opA_rep hi x
    split at h
    · rename_i cs hc
      rw [hc] at hx
      obtain ⟨vs, hv, hl⟩ := hx
      obtain ⟨v, h1, h2⟩ := hl.at i h
      exact ⟨v, by simp [execOp, hop, hv, Instr.extract, h1], h2⟩
    · simp at h
  | call c =>
    rw [hop] at h
    obtain ⟨callee, args, tys⟩ := c
    cases callee with
    | builtin b =>
      cases b with
      | len =>
        simp only [aval] at h
        split at h
        · rename_i x ti hargs hty
          have ha : args = #[x] := by rw [← Array.toArray_toList (xs := args), hargs]
          subst ha
          have hx := opA_rep hi x
          obtain ⟨t0, ht0, hty⟩ := Option.bind_eq_some_iff.1 hty
          obtain ⟨k1, k2⟩ := known_spec hty
          have hg := hT.get k1 k2
          have fin : ∀ v, (Builtin.len_ tys o.type #[a.eval x]).run P w = .ok v w → (execOp a.eval o).run P w = .ok (.value v) w := by
            intro v hv
            exact call_builtin_run hop (by simp [builtin, hv])
          split at h
          · rename_i e n cs hk hc
            simp only [Option.some.injEq] at h; subst h
            rw [hc] at hx
            obtain ⟨ad, cap, hv, _⟩ := hx
            exact ⟨.int .i64 n, fin _ (by simp [Builtin.len_, ht0, run_und (und_slice hg hk), hv, goInt]), rfl⟩
          · rename_i e ob n cap hk hc
            simp only [Option.some.injEq] at h; subst h
            rw [hc] at hx
            cases ob with
            | none =>
              obtain ⟨hv, rfl, _⟩ := hx
              exact ⟨.int .i64 (0 : Nat), fin _ (by simp [Builtin.len_, ht0, run_und (und_slice hg hk), hv, goInt]), rfl⟩
            | some b =>
              simp only [Rep] at hx
              exact ⟨.int .i64 n, fin _ (by simp [Builtin.len_, ht0, run_und (und_slice hg hk), hx, goInt]), rfl⟩
          · rename_i e hk hc
            simp only [Option.some.injEq] at h; subst h
            rw [hc] at hx; simp only [Rep] at hx
            exact ⟨.int .i64 0, fin _ (by simp [Builtin.len_, ht0, run_und (und_slice hg hk), hx, goInt]), rfl⟩
          · rename_i s hk hc
            simp only [Option.some.injEq] at h; subst h
            rw [hc] at hx; simp only [Rep] at hx
            exact ⟨.int .i64 s.size, fin _ (by simp [Builtin.len_, ht0, run_und (und_string hg hk), hx, goInt]), rfl⟩
          · simp at h
        · simp at h
      | min =>
        simp only [aval] at h
        split at h
        · rename_i k x k' y hm
          simp only [Option.some.injEq] at h; subst h
          obtain ⟨p, q, rfl, h1, h2⟩ := map_inv2 hm
          have hp := opA_rep hi p; have hq := opA_rep hi q
          rw [h1] at hp; rw [h2] at hq; simp only [Rep] at hp hq
          exact ⟨_, call_builtin_run hop (by simp [builtin, hp, hq, min_run]), rfl⟩
        · simp at h
      | max =>
        simp only [aval] at h
        split at h
        · rename_i k x k' y hm
          simp only [Option.some.injEq] at h; subst h
          obtain ⟨p, q, rfl, h1, h2⟩ := map_inv2 hm
          have hp := opA_rep hi p; have hq := opA_rep hi q
          rw [h1] at hp; rw [h2] at hq; simp only [Rep] at hp hq
          exact ⟨_, call_builtin_run hop (by simp [builtin, hp, hq, max_run]), rfl⟩
        · simp at h
      | _ => simp [aval] at h
    | _ => simp [aval] at h
  | _ => rw [hop] at h; simp [aval] at h

end sound
end Go.Proofs.Ytafncdbkbmaifaa.Ab

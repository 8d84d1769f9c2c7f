/- What only yields a value, at whatever temporaries hold what it looks at: the plain operations, indexes, calls. Condition: the table of types agrees with the program's. -/
import Derived.Test.YtafncdbkbmaifaaAbD
set_option linter.unusedVariables false
set_option linter.unusedSimpArgs false
namespace Go.Proofs.Ytafncdbkbmaifaa.Ab
section
variable {P : Program} {T : List TI} {N : Nat} {ops : Array Oper} {rest : List Oper} {o : Oper} {Q : Exit → St → Prop} {E F : Env} {M : List Ob}

theorem agree_op (h : ∀ t ∈ o.looksAt ops, get E t = get F t) {x : Operand} (hx : x ∈ o.op.operands) : opA E x = opA F x := by
  cases x with
  | tmp t =>
    refine h t (List.mem_append_left _ ?_)
    rw [List.mem_filterMap]
    exact ⟨.tmp t, by simpa using hx, rfl⟩
  | _ => rfl
theorem agree_guard (h : ∀ t ∈ o.looksAt ops, get E t = get F t) : guardOn ops o E = guardOn ops o F := by
  unfold guardOn
  cases hg : o.guard with
  | none => rfl
  | some p =>
    obtain ⟨j, want⟩ := p
    simp only
    cases hd : (ops[j]?).bind (·.dst) with
    | none => rfl
    | some d =>
      have : get E d = get F d := h d (List.mem_append_right _ (by simp [hg, hd]))
      simp only [this]

theorem map_congr_ops {args : Array Operand} (h : ∀ x ∈ args, opA E x = opA F x) : args.toList.map (opA E) = args.toList.map (opA F) :=
  List.map_congr_left fun x hx => h x (by simpa using hx)
theorem parts_congr {parts : Array (Nat × Operand)} (h : ∀ x ∈ (parts.toList.map (·.2)).toArray, opA E x = opA F x) : (parts.toList.map fun (i, x) => (i, opA E x)) = (parts.toList.map fun (i, x) => (i, opA F x)) :=
  List.map_congr_left fun p hp => by
    obtain ⟨i, x⟩ := p
    simp only [h x (by simp; exact ⟨i, by simpa using hp⟩)]

theorem aval_congr {o : Op} (h : ∀ x ∈ o.operands, opA E x = opA F x) : aval T E o = aval T F o := by
  cases o with
  | move x => simp only [aval, h x (by simp [Op.operands])]
  | assign x => simp only [aval, h x (by simp [Op.operands])]
  | pick c a b => simp only [aval, h c (by simp [Op.operands]), h a (by simp [Op.operands]), h b (by simp [Op.operands])]
  | build t parts => simp only [aval, parts_congr (E := E) (F := F) h]
  | load t x => simp only [aval, h x (by simp [Op.operands])]
  | nilCheck x => simp only [aval, h x (by simp [Op.operands])]
  | binOp op t x y yt => simp only [aval, h x (by simp [Op.operands]), h y (by simp [Op.operands])]
  | unOp op t x => cases op <;> simp only [aval, h x (by simp [Op.operands])]
  | convert s d x => simp only [aval, h x (by simp [Op.operands])]
  | makeFunc fn first cap =>
    cases fn with
    | func f => simp only [aval, map_congr_ops (E := E) (F := F) (args := cap) (fun x hx => h x (by simp [Op.operands, hx]))]
    | _ => simp only [aval]
  | fieldAddr s x f => simp only [aval, h x (by simp [Op.operands])]
  | field s x f => simp only [aval, h x (by simp [Op.operands])]
  | extract x i => simp only [aval, h x (by simp [Op.operands])]
  | call c =>
    obtain ⟨callee, args, tys⟩ := c
    have ha : ∀ x ∈ args, opA E x = opA F x := fun x hx => h x (by simp [Op.operands, Call.operands, hx])
    cases callee with
    | builtin b =>
      cases b with
      | len =>
        simp only [aval]
        split
        · rename_i x ti hargs hty
          have : x ∈ args := by
            have : x ∈ args.toList := by rw [hargs]; simp
            simpa using this
          rw [ha x this]
        · rfl
      | min => simp only [aval, map_congr_ops (E := E) (F := F) ha]
      | max => simp only [aval, map_congr_ops (E := E) (F := F) ha]
      | _ => simp only [aval]
    | _ => simp only [aval]
  | _ => simp only [aval]

theorem yields_pure (hT : TOk P T) {x : A} (h : aval T F o.op = some x) (hg : guardOn ops o F = some true) (hd : dstOk N o.dst = true) : Yields P N ops o x F M :=
  fun E hE rest Q next => aops_pure hT ((aval_congr fun x hx => agree_op hE hx).trans h) ((agree_guard hE).trans hg) hd next
theorem yields_as (hT : TOk P T) {x : A} (y : A) (h : aval T F o.op = some x) (hxy : x = y) (hg : guardOn ops o F = some true) (hd : dstOk N o.dst = true) : Yields P N ops o y F M := by
  subst hxy; exact yields_pure hT h hg hd
theorem yields_off (hg : guardOn ops o F = some false) (hd : dstOk N o.dst = true) : Yields P N ops o (.tup []) F M :=
  fun E hE rest Q next => aops_off ((agree_guard hE).trans hg) hd next
theorem yields_index (hT : TOk P T) {t e : Nat} {ei : TI} {x ix : Operand} {n : Nat} {cs : List A} {k : IntKind} {i : Int} (pre : List A) (ho : o.op = .indexAddr t x ix) (hs : sliceOf T t = some (e, ei)) (hx : opA F x = .psl n cs) (hix : opA F ix = .int k i)
    (h0 : 0 ≤ i) (h1 : i < n) (hne : pre ≠ []) (hp : pre <+: cs.drop (i.toNat * ei.size)) (hg : guardOn ops o F = some true) (hd : dstOk N o.dst = true) : Yields P N ops o (.pp pre) F M :=
  fun E hE rest Q next => aops_index hT pre ho hs ((agree_op hE (by rw [ho]; simp [Op.operands])).trans hx) ((agree_op hE (by rw [ho]; simp [Op.operands])).trans hix) h0 h1 hne hp ((agree_guard hE).trans hg) hd next
theorem yields_index_own (hT : TOk P T) {t e : Nat} {ei : TI} {x ix : Operand} {b n cap : Nat} {k : IntKind} {i : Int} (ho : o.op = .indexAddr t x ix) (hs : sliceOf T t = some (e, ei)) (hx : opA F x = .own (some b) n cap) (hix : opA F ix = .int k i)
    (h0 : 0 ≤ i) (h1 : i < n) (hg : guardOn ops o F = some true) (hd : dstOk N o.dst = true) : Yields P N ops o (.ref b (i.toNat * ei.size)) F M :=
  fun E hE rest Q next => aops_index_own hT ho hs ((agree_op hE (by rw [ho]; simp [Op.operands])).trans hx) ((agree_op hE (by rw [ho]; simp [Op.operands])).trans hix) h0 h1 ((agree_guard hE).trans hg) hd next
theorem yields_index_arr (hT : TOk P T) {t n e : Nat} {ei : TI} {x ix : Operand} {y : A} {k : IntKind} {i : Int} (ho : o.op = .indexAddr t x ix) (hs : arrayOf T t = some (n, e, ei)) (hix : opA F ix = .int k i)
    (h0 : 0 ≤ i) (h1 : i < n) (hy : (match opA F x with | .pp cs => some (A.pp (cs.drop (i.toNat * ei.size))) | .ref b off => some (.ref b (off + i.toNat * ei.size)) | _ => none) = some y) (hg : guardOn ops o F = some true) (hd : dstOk N o.dst = true) : Yields P N ops o y F M :=
  fun E hE rest Q next => aops_index_arr hT ho hs ((agree_op hE (by rw [ho]; simp [Op.operands])).trans hix) h0 h1 (by rw [agree_op hE (x := x) (by rw [ho]; simp [Op.operands])]; exact hy) ((agree_guard hE).trans hg) hd next
theorem yields_load_own (hT : TOk P T) {t : Nat} {x : Operand} {b off : Nat} {i : TI} {y : A} (k : Nat) {room : Nat} {cs : List A} (ho : o.op = .load t x) (hx : opA F x = .ref b off) (hk : known T t = some i)
    (hM : M[k]? = some ⟨some b, room, cs⟩) (hy : (bif i.k.isAgg then (bif Nat.ble (off + i.size) cs.length then some (A.agg ((cs.drop off).take i.size)) else none) else cs[off]?) = some y)
    (hg : guardOn ops o F = some true) (hd : dstOk N o.dst = true) : Yields P N ops o y F M :=
  fun E hE rest Q next => aops_load_own hT k ho ((agree_op hE (by rw [ho]; simp [Op.operands])).trans hx) hk hM hy ((agree_guard hE).trans hg) hd next
theorem yields_slice (hT : TOk P T) {t e : Nat} {ei : TI} {x : Operand} {lo hi' : Option Operand} {n : Nat} {cs : List A} {l h' : Int} (ho : o.op = .slice t x lo hi' none) (hs : sliceOf T t = some (e, ei)) (hx : opA F x = .psl n cs)
    (hl : loOf F lo = some l) (hh : hiOf F n hi' = some h') (h0 : 0 ≤ l) (h1 : l ≤ h') (h2 : h' ≤ n) (n' : Nat) (cs' : List A) (hn' : n' = h'.toNat - l.toNat) (hcs : cs.length = n * ei.size) (hcs' : (cs.drop (l.toNat * ei.size)).take (n' * ei.size) = cs')
    (hg : guardOn ops o F = some true) (hd : dstOk N o.dst = true) : Yields P N ops o (.psl n' cs') F M := by
  intro E hE rest Q next
  have el : loOf E lo = loOf F lo := by
    cases lo with
    | none => rfl
    | some y => simp only [loOf]; rw [agree_op hE (x := y) (by rw [ho]; simp [Op.operands])]
  have eh : hiOf E n hi' = hiOf F n hi' := by
    cases hi' with
    | none => rfl
    | some y => simp only [hiOf]; rw [agree_op hE (x := y) (by rw [ho]; simp [Op.operands])]
  exact aops_slice hT ho hs ((agree_op hE (by rw [ho]; simp [Op.operands])).trans hx) (el.trans hl) (eh.trans hh) h0 h1 h2 n' cs' hn' hcs hcs' ((agree_guard hE).trans hg) hd next
theorem yields_call {g : Operand} {args : Array Operand} {tys : Array TypeId} {f : FuncId} {cap as : List A} {fn : Func} (x : A) (hf : P.funcs[f]? = some fn) (ho : o.op = .call { callee := .value g, args, argTypes := tys }) (hgv : opA F g = .fn f cap)
    (hfn : callable fn = true) (has : args.toList.map (opA F) ++ cap = as) (hc : ACalls P f as M (fun r M' => r = x ∧ M' = M)) (hg : guardOn ops o F = some true) (hd : dstOk N o.dst = true) : Yields P N ops o x F M := by
  intro E hE rest Q next
  refine aops_call hf ho ((agree_op hE (by rw [ho]; simp [Op.operands, Call.operands])).trans hgv) hfn (by rw [map_congr_ops (E := E) (F := F) (fun y hy => agree_op hE (by rw [ho]; simp [Op.operands, Call.operands, hy]))]; exact has) hc ((agree_guard hE).trans hg) hd ?_
  rintro y M' ⟨rfl, rfl⟩
  exact next
theorem yields_lit (hT : TOk P T) {t len e : Nat} {ei : TI} {parts : Array (Nat × Operand)} {r : List A} (ho : o.op = .buildSlice t len parts) (hs : sliceOf T t = some (e, ei)) (hsz : (Nat.blt 0 (len * ei.size) && Nat.ble (len * ei.size) 16777216 && Nat.beq ei.zero.length ei.size) = true)
    (hf : fillA (fun i => some (i * ei.size, ei.size)) (zerosA (ei.zero.map ofZ) len) (parts.toList.map fun (i, x) => (i, opA F x)) = some r) (hg : guardOn ops o F = some true) (hd : dstOk N o.dst = true) : Yields P N ops o (.psl len r) F M := by
  intro E hE rest Q next
  refine aops_lit hT ho hs hsz ?_ ((agree_guard hE).trans hg) hd next
  rw [parts_congr (E := E) (F := F) (fun y hy => agree_op hE (by rw [ho]; exact hy))]
  exact hf
theorem yields_text (hT : TOk P T) {src dst e : Nat} {x : Operand} {n : Nat} {xs : List Int} (ho : o.op = .convert src dst x) (hs : kindOf T src = some (.slice e)) (he : kindOf T e = some (.int .u8)) (hds : kindOf T dst = some .string) (hx : opA F x = .psl n (u8s xs)) (hn : xs.length = n)
    (hg : guardOn ops o F = some true) (hd : dstOk N o.dst = true) : Yields P N ops o (.str (strOfNums xs)) F M :=
  fun E hE rest Q next => aops_text hT ho hs he hds ((agree_op hE (by rw [ho]; simp [Op.operands])).trans hx) hn ((agree_guard hE).trans hg) hd next

/-- The first n operations only yield, each at what those ahead of it have left; then the others. -/
inductive SeqT (P : Program) (N : Nat) (ops : Array Oper) (Q : Exit → St → Prop) (M : List Ob) : Env → Nat → List Oper → Prop where
  | done {F : Env} {l : List Oper} (h : AOps P N ops l Q ⟨F, M⟩) : SeqT P N ops Q M F 0 l
  | cons {F : Env} {n : Nat} {o : Oper} {l : List Oper} {x : A} (h : Yields P N ops o x F M) (t : SeqT P N ops Q M (put F o.dst x) n l) : SeqT P N ops Q M F (n + 1) (o :: l)

theorem Yields.to {x : A} {F' : Env} (h : Yields P N ops o x F M) (hF : ∀ t ∈ o.looksAt ops, get F' t = get F t) : Yields P N ops o x F' M :=
  fun E hE => h E fun t ht => (hE t ht).trans (hF t ht)

theorem SeqT.split {n : Nat} {l : List Oper} (h : SeqT P N ops Q M E n l) : ∃ (vals : List A) (Fs : Nat → Env), vals.length = n ∧ Fs 0 = E ∧ (∀ i o, i < n → l[i]? = some o → Fs (i + 1) = put (Fs i) o.dst (vals.getD i .any) ∧ Yields P N ops o (vals.getD i .any) (Fs i) M) ∧ AOps P N ops (l.drop n) Q ⟨Fs n, M⟩ := by
  induction h with
  | @done F l h => exact ⟨[], fun _ => F, rfl, rfl, fun i o hi => by omega, h⟩
  | @cons F n o l x h t ih =>
    obtain ⟨vals, Fs, h1, h2, h3, h4⟩ := ih
    refine ⟨x :: vals, fun i => match i with | 0 => F | i + 1 => Fs i, by simp [h1], rfl, fun i o' hi ho => ?_, h4⟩
    cases i with
    | zero =>
      simp at ho
      subst ho
      exact ⟨by simp [h2], by simpa using h⟩
    | succ i =>
      simp at ho
      simpa using h3 i o' (by omega) ho

theorem acode_drawT {id : Nat} {l : List Oper} (n : Nat) (hm : P.follows .mixedOrders = true) (hB : drawB l.toArray n = true)
    (hseq : Region.seqB .any l.toArray (l.drop n).length n (((List.range l.length).map fun i => Nat.blt i n).toArray) = true)
    (h : SeqT P N l.toArray Q M E n l) : ACode P N (.region id l.toArray true) Q ⟨E, M⟩ := by
  obtain ⟨vals, Fs, hlen, h0, hs, ht⟩ := h.split
  have hB' := hB
  simp only [drawB, Bool.and_eq_true] at hB'
  obtain ⟨⟨⟨hn, hlook⟩, hdst⟩, _⟩ := hB'
  have hn : n ≤ l.length := by simpa using Nat.le_of_ble_eq_true hn
  have hdst' : ∀ t i j, i < n → j < n → dstAt l.toArray i = some t → dstAt l.toArray j = some t → i = j := by
    intro t i j h1 h2 e1 e2
    have := List.all_eq_true.1 (List.all_eq_true.1 hdst i (List.mem_range.2 h1)) j (List.mem_range.2 h2)
    unfold dstAt at e1 e2
    rw [e1] at this
    simp only [Bool.or_eq_true] at this
    rcases this with h | h
    · exact Nat.eq_of_beq_eq_true h
    · rw [e2] at h; simp at h
  have key : ∀ m, m ≤ n → Fs m = envS l.toArray vals (Array.replicate l.length true) m E := by
    intro m
    induction m with
    | zero => intro _; exact h0
    | succ m ih =>
      intro hm
      obtain ⟨o, ho⟩ : ∃ o, l[m]? = some o := ⟨l[m]'(by omega), List.getElem?_eq_getElem (by omega)⟩
      rw [(hs m o (by omega) ho).1, ih (by omega)]
      have hb : (Array.replicate l.length true).getD m false = true := by simp [show m < l.length by omega]
      have hd : dstAt l.toArray m = o.dst := by simp [dstAt, ho]
      simp only [envS, hb, cond_true, hd]
  refine acode_draw n vals (Fs n) hm hB hseq (key n (Nat.le_refl _)).symm (fun i o hi ho => ((hs i o hi ho).2).to fun t htl => ?_) ht
  rw [key n (Nat.le_refl _), key i (by omega)]
  obtain ⟨p1, p2⟩ := envS_get (ops := l.toArray) vals (Array.replicate l.length true) E t n (fun i j => hdst' t i j)
  obtain ⟨q1, q2⟩ := envS_get (ops := l.toArray) vals (Array.replicate l.length true) E t i (fun a b ha hb => hdst' t a b (by omega) (by omega))
  have hl1 := List.all_eq_true.1 hlook i (List.mem_range.2 hi)
  have hoi : l.toArray[i]? = some o := by simpa using ho
  rw [hoi] at hl1
  simp only [Option.map_some, Option.getD_some, Bool.and_eq_true] at hl1
  have hl2 := List.all_eq_true.1 hl1.2 t htl
  by_cases hex : ∃ j, j < n ∧ dstAt l.toArray j = some t
  · obtain ⟨j, hj, hdj⟩ := hex
    have h3 := List.all_eq_true.1 hl2 j (List.mem_range.2 hj)
    have hdj' := hdj
    unfold dstAt at hdj'
    rw [hdj'] at h3
    simp only [beq_self_eq_true, Bool.not_true, Bool.false_or] at h3
    obtain ⟨oj, hoj, e, he, hbind, hon⟩ := Region.waitsFor_spec h3
    have : oj = o := Option.some.inj (hoj.symm.trans hoi)
    subst this
    have h4 := Array.all_eq_true'.1 hl1.1 e he
    rw [hbind] at h4
    simp only [Bool.not_true, Bool.false_or] at h4
    have hji : j < i := by rw [← hon]; simpa using h4
    rw [p1 j hj hdj (by simp [show j < l.length by omega]), q1 j hji hdj (by simp [show j < l.length by omega])]
  · rw [p2 (fun j h1 h2 => absurd ⟨j, h1, h2⟩ hex), q2 (fun j h1 h2 => absurd ⟨j, by omega, h2⟩ hex)]
end
end Go.Proofs.Ytafncdbkbmaifaa.Ab

/- Rules over objects that stand at the front of the list; freezing; cases. No condition. -/
import Derived.Test.YtafncdbkbmaifaaAbG
set_option linter.unusedVariables false
set_option linter.unusedSimpArgs false
namespace Go.Proofs.Ytafncdbkbmaifaa.Ab
section
variable {P : Program} {T : List TI} {N : Nat} {ops : Array Oper} {rest : List Oper} {o : Oper} {Q : Exit → St → Prop} {E F : Env} {M : List Ob}

theorem nodup_front {o' : Ob} (h : ((M ++ [o']).filterMap (·.b)).Nodup) : ((o' :: M).filterMap (·.b)).Nodup := by
  have e : (o' :: M).filterMap (·.b) = [o'].filterMap (·.b) ++ M.filterMap (·.b) := by rw [← List.filterMap_append]; rfl
  rw [e]
  rw [List.filterMap_append] at h
  rw [List.nodup_append] at h ⊢
  exact ⟨h.2.1, h.1, fun a ha b hb e => h.2.2 b hb a ha e.symm⟩
theorem ok_front {K : Ctx} {G : Gh} {w : World} {o' : Ob} (h : Ok K G (M ++ [o']) w) : Ok K G (o' :: M) w :=
  h.sub (fun x hx => by simp at hx ⊢; rcases hx with h | h <;> simp [h]) (nodup_front h.nd)
theorem inv_front {K : Ctx} {G : Gh} {a : Act} {w : World} {o' : Ob} (hi : Inv K N G ⟨E, M ++ [o']⟩ a w) : Inv K N G ⟨E, o' :: M⟩ a w := ⟨ok_front hi.ok, hi.sz, hi.df, hi.ev⟩
theorem aops_front {o' : Ob} {l : List Oper} (h : AOps P N ops l Q ⟨E, o' :: M⟩) : AOps P N ops l Q ⟨E, M ++ [o']⟩ := aops_weaken (fun K G a w hi => ⟨G, inv_front hi⟩) h
theorem aops_M {l : List Oper} {M' : List Ob} (e : M = M') (h : AOps P N ops l Q ⟨E, M'⟩) : AOps P N ops l Q ⟨E, M⟩ := by subst e; exact h
theorem acode_M {c : Code} {M' : List Ob} (e : M = M') (h : ACode P N c Q ⟨E, M'⟩) : ACode P N c Q ⟨E, M⟩ := by subst e; exact h

theorem aops_endb {id : Nat} {st : St} (h : Q .normal st) : AOps P N ops [] (inBlockA id Q) st := aops_nil h

/-! ### Operations upon an object near the front -/
/-- A list told by all of its spine. -/
def normL : List A → Option (List A)
  | [] => some []
  | x :: r => match normL r with
    | some r' => some (x :: r')
    | none => none
theorem normL_eq : ∀ (l : List A), normL l = some l
  | [] => rfl
  | x :: r => by simp [normL, normL_eq r]
theorem aops_alloc (hT : TOk P T) {e d : Nat} {i : TI} (ho : o.op = .alloc e) (hk : known T e = some i) (hg : guardOn ops o E = some true) (hd : o.dst = some d) (hN : Nat.blt d N = true)
    {cs : List A} (hcs : normL (i.zero.map ofZ) = some cs) (next : ∀ b, AOps P N ops rest Q ⟨(d, .ref b 0) :: E, ⟨some b, i.zero.length, cs⟩ :: M⟩) : AOps P N ops (o :: rest) Q ⟨E, M⟩ := by
  rw [normL_eq] at hcs
  obtain rfl := Option.some.inj hcs
  refine aops_alloc_own hT ho hk hg (by rw [hd]; exact hN) fun b => aops_front ?_
  rw [hd]; exact next b
theorem aops_boxo {e d : Nat} {x : Operand} {y : A} (ho : o.op = .box e x) (hx : headed (some (opA E x)) = some y) (hc : cellsOk y = true) (hg : guardOn ops o E = some true) (hd : o.dst = some d) (hN : Nat.blt d N = true)
    {cs : List A} (hcs : normL y.cs = some cs) (next : ∀ b, AOps P N ops rest Q ⟨(d, .ref b 0) :: E, ⟨some b, cs.length, cs⟩ :: M⟩) : AOps P N ops (o :: rest) Q ⟨E, M⟩ := by
  rw [headed_eq] at hx
  rw [normL_eq] at hcs
  obtain rfl := Option.some.inj hcs
  refine aops_box_own ho (Option.some.inj hx) hc hg (by rw [hd]; exact hN) fun b => aops_front ?_
  rw [hd]; exact next b
theorem aops_boxf {e d : Nat} {x : Operand} {y : A} (ho : o.op = .box e x) (hx : headed (some (opA E x)) = some y) (hc : cellsOk y = true) (hg : guardOn ops o E = some true) (hd : o.dst = some d) (hN : Nat.blt d N = true)
    {cs : List A} (hcs : normL y.cs = some cs) (next : AOps P N ops rest Q ⟨(d, .pp cs) :: E, M⟩) : AOps P N ops (o :: rest) Q ⟨E, M⟩ := by
  rw [headed_eq] at hx
  rw [normL_eq] at hcs
  obtain rfl := Option.some.inj hcs
  refine aops_box ho (Option.some.inj hx) hc hg (by rw [hd]; exact hN) ?_
  rw [hd]; exact next
theorem aops_ld (hT : TOk P T) (k : Nat) {t d : Nat} {x : Operand} {b off : Nat} {i : TI} {y : A} {room : Nat} {cs : List A} (ho : o.op = .load t x) (hx : opA E x = .ref b off) (hk : known T t = some i)
    (hM : M[k]? = some ⟨some b, room, cs⟩) (hy : headed (bif i.k.isAgg then (bif Nat.ble (off + i.size) cs.length then some (A.agg ((cs.drop off).take i.size)) else none) else cs[off]?) = some y)
    (hg : guardOn ops o E = some true) (hd : o.dst = some d) (hN : Nat.blt d N = true) (next : AOps P N ops rest Q ⟨(d, y) :: E, M⟩) : AOps P N ops (o :: rest) Q ⟨E, M⟩ := by
  rw [headed_eq] at hy
  refine aops_load_own hT k ho hx hk hM hy hg (by rw [hd]; exact hN) ?_
  rw [hd]; exact next
theorem aops_st (hT : TOk P T) {t : Nat} {p x : Operand} {b off : Nat} {i : TI} {y : A} {room : Nat} {cs : List A} (ho : o.op = .store t p x) (hp : opA E p = .ref b off) (hx : headed (some (opA E x)) = some y) (hk : known T t = some i)
    (hy : (Nat.beq y.cs.length i.size && cellsOk y) = true) (hoff : Nat.ble (off + i.size) cs.length = true)
    (hg : guardOn ops o E = some true) (hd : o.dst = none) (next : AOps P N ops rest Q ⟨E, ⟨some b, room, cs.take off ++ (y.cs ++ cs.drop (off + i.size))⟩ :: M⟩) : AOps P N ops (o :: rest) Q ⟨E, ⟨some b, room, cs⟩ :: M⟩ := by
  rw [headed_eq] at hx
  refine aops_store hT 0 ho hp (Option.some.inj hx) hk rfl hy (Nat.le_of_ble_eq_true hoff) _ rfl hg (by rw [hd]; rfl) ?_
  rw [hd]; exact next
theorem aops_st1 (hT : TOk P T) {o0 : Ob} {t : Nat} {p x : Operand} {b off : Nat} {i : TI} {y : A} {room : Nat} {cs : List A} (ho : o.op = .store t p x) (hp : opA E p = .ref b off) (hx : headed (some (opA E x)) = some y) (hk : known T t = some i)
    (hy : (Nat.beq y.cs.length i.size && cellsOk y) = true) (hoff : Nat.ble (off + i.size) cs.length = true)
    (hg : guardOn ops o E = some true) (hd : o.dst = none) (next : AOps P N ops rest Q ⟨E, o0 :: ⟨some b, room, cs.take off ++ (y.cs ++ cs.drop (off + i.size))⟩ :: M⟩) : AOps P N ops (o :: rest) Q ⟨E, o0 :: ⟨some b, room, cs⟩ :: M⟩ := by
  rw [headed_eq] at hx
  refine aops_store hT 1 ho hp (Option.some.inj hx) hk rfl hy (Nat.le_of_ble_eq_true hoff) _ rfl hg (by rw [hd]; rfl) ?_
  rw [hd]; exact next
theorem aops_stn (hT : TOk P T) {t : Nat} {p x : Operand} {b off : Nat} {i : TI} {y : A} {room : Nat} {cs cs' : List A} (ho : o.op = .store t p x) (hp : opA E p = .ref b off) (hx : headed (some (opA E x)) = some y) (hk : known T t = some i)
    (hy : (Nat.beq y.cs.length i.size && cellsOk y) = true) (hoff : Nat.ble (off + i.size) cs.length = true) (hcs : normL (cs.take off ++ (y.cs ++ cs.drop (off + i.size))) = some cs')
    (hg : guardOn ops o E = some true) (hd : o.dst = none) (next : AOps P N ops rest Q ⟨E, ⟨some b, room, cs'⟩ :: M⟩) : AOps P N ops (o :: rest) Q ⟨E, ⟨some b, room, cs⟩ :: M⟩ := by
  rw [normL_eq] at hcs
  obtain rfl := Option.some.inj hcs
  exact aops_st hT ho hp hx hk hy hoff hg hd next
theorem aops_stn1 (hT : TOk P T) {o0 : Ob} {t : Nat} {p x : Operand} {b off : Nat} {i : TI} {y : A} {room : Nat} {cs cs' : List A} (ho : o.op = .store t p x) (hp : opA E p = .ref b off) (hx : headed (some (opA E x)) = some y) (hk : known T t = some i)
    (hy : (Nat.beq y.cs.length i.size && cellsOk y) = true) (hoff : Nat.ble (off + i.size) cs.length = true) (hcs : normL (cs.take off ++ (y.cs ++ cs.drop (off + i.size))) = some cs')
    (hg : guardOn ops o E = some true) (hd : o.dst = none) (next : AOps P N ops rest Q ⟨E, o0 :: ⟨some b, room, cs'⟩ :: M⟩) : AOps P N ops (o :: rest) Q ⟨E, o0 :: ⟨some b, room, cs⟩ :: M⟩ := by
  rw [normL_eq] at hcs
  obtain rfl := Option.some.inj hcs
  exact aops_st1 hT ho hp hx hk hy hoff hg hd next
theorem seqT_ld (hT : TOk P T) (k : Nat) {l : List Oper} {n : Nat} {t d : Nat} {x : Operand} {b off : Nat} {i : TI} {y : A} {room : Nat} {cs : List A} (ho : o.op = .load t x) (hx : opA F x = .ref b off) (hk : known T t = some i)
    (hM : M[k]? = some ⟨some b, room, cs⟩) (hy : headed (bif i.k.isAgg then (bif Nat.ble (off + i.size) cs.length then some (A.agg ((cs.drop off).take i.size)) else none) else cs[off]?) = some y)
    (hg : guardOn ops o F = some true) (hd : o.dst = some d) (hN : Nat.blt d N = true) (next : SeqT P N ops Q M ((d, y) :: F) n l) : SeqT P N ops Q M F (n + 1) (o :: l) := by
  rw [headed_eq] at hy
  refine SeqT.cons (yields_load_own hT k ho hx hk hM hy hg (by rw [hd]; exact hN)) ?_
  rw [hd]; exact next

/-! ### Freezing -/
theorem aops_publish {l : List Oper} (t k : Nat) {ob : Option Nat} {n cap room : Nat} {cs : List A} (sz : Nat) (h : get E t = .own ob n cap) (hM : M[k]? = some ⟨ob, room, cs⟩) (hr : room = cap * sz) (hcs : cs.length = n * sz) (hsz : 0 < sz)
    (next : AOps P N ops l Q ⟨(t, .psl n cs) :: E, M.eraseIdx k⟩) : AOps P N ops l Q ⟨E, M⟩ := aops_weaken (fun K G a w hi => inv_publish hi h hM hr hcs hsz) next
theorem acode_publish {c : Code} (t k : Nat) {ob : Option Nat} {n cap room : Nat} {cs : List A} (sz : Nat) (h : get E t = .own ob n cap) (hM : M[k]? = some ⟨ob, room, cs⟩) (hr : room = cap * sz) (hcs : cs.length = n * sz) (hsz : 0 < sz)
    (next : ACode P N c Q ⟨(t, .psl n cs) :: E, M.eraseIdx k⟩) : ACode P N c Q ⟨E, M⟩ := acode_weaken (fun K G a w hi => inv_publish hi h hM hr hcs hsz) next
theorem acode_drop {c : Code} (k : Nat) (next : ACode P N c Q ⟨E, M.eraseIdx k⟩) : ACode P N c Q ⟨E, M⟩ := acode_weaken (fun K G a w hi => ⟨G, inv_drop hi k⟩) next
theorem aops_drop {l : List Oper} (k : Nat) (next : AOps P N ops l Q ⟨E, M.eraseIdx k⟩) : AOps P N ops l Q ⟨E, M⟩ := aops_weaken (fun K G a w hi => ⟨G, inv_drop hi k⟩) next
theorem acode_pub0 {c : Code} (t : Nat) {ob : Option Nat} {n cap room : Nat} {cs : List A} (sz : Nat) (h : get E t = .own ob n cap) (hr : room = cap * sz) (hcs : cs.length = n * sz) (hsz : Nat.blt 0 sz = true)
    (next : ACode P N c Q ⟨(t, .psl n cs) :: E, M⟩) : ACode P N c Q ⟨E, ⟨ob, room, cs⟩ :: M⟩ := acode_publish t 0 sz h rfl hr hcs (by simpa using hsz) next
theorem aops_pub0 {l : List Oper} (t : Nat) {ob : Option Nat} {n cap room : Nat} {cs : List A} (sz : Nat) (h : get E t = .own ob n cap) (hr : room = cap * sz) (hcs : cs.length = n * sz) (hsz : Nat.blt 0 sz = true)
    (next : AOps P N ops l Q ⟨(t, .psl n cs) :: E, M⟩) : AOps P N ops l Q ⟨E, ⟨ob, room, cs⟩ :: M⟩ := aops_publish t 0 sz h rfl hr hcs (by simpa using hsz) next
theorem acode_drop0 {c : Code} {o0 : Ob} (next : ACode P N c Q ⟨E, M⟩) : ACode P N c Q ⟨E, o0 :: M⟩ := acode_drop 0 next
theorem aops_drop0 {l : List Oper} {o0 : Ob} (next : AOps P N ops l Q ⟨E, M⟩) : AOps P N ops l Q ⟨E, o0 :: M⟩ := aops_drop 0 next

/-- append to nil, frozen at once. -/
theorem aops_appf (hT : TOk P T) {t e d : Nat} {ei : TI} {s x : Operand} {m : Nat} {ds : List A} (ho : o.op = .call { callee := .builtin .append, args := #[s, x], argTypes := #[t, t] }) (hs : sliceOf T t = some (e, ei))
    (hsv : opA E s = .nils) (hx : opA E x = .psl m ds ∨ opA E x = .nils ∧ m = 0 ∧ ds = []) (hds : ds.length = m * ei.size) (hcell : ds.all A.isCell = true)
    (hz : (Nat.beq ei.zero.length ei.size && Nat.blt 0 ei.size) = true) (hbytes : m * ei.bytes ≤ 140737488355328) (hlen : m ≤ 140737488355328) (hg : guardOn ops o E = some true) (hd : o.dst = some d) (hN : Nat.blt d N = true)
    (next : AOps P N ops rest Q ⟨(d, .psl m ds) :: E, M⟩) : AOps P N ops (o :: rest) Q ⟨E, M⟩ := by
  refine aops_append_nil hT ho hs hsv hx hds hcell hz hbytes hlen hg (by rw [hd]; exact hN) fun ob' cap' => aops_front ?_
  simp only [Bool.and_eq_true] at hz
  rw [hd]
  refine aops_pub0 d ei.size (by simp [put, get]) rfl hds hz.2 ?_
  refine aops_weaken (fun K G a w hi => ⟨G, inv_E hi fun s v hr => ?_⟩) next
  simp only [get, put] at hr ⊢
  cases hb : Nat.beq d s <;> rw [hb] at hr <;> exact hr
theorem yields_appf (hT : TOk P T) {t e : Nat} {ei : TI} {s x : Operand} {m d : Nat} {ds : List A} (ho : o.op = .call { callee := .builtin .append, args := #[s, x], argTypes := #[t, t] }) (hs : sliceOf T t = some (e, ei))
    (hsv : opA F s = .nils) (hx : opA F x = .psl m ds) (hds : ds.length = m * ei.size) (hcell : ds.all A.isCell = true)
    (hz : (Nat.beq ei.zero.length ei.size && Nat.blt 0 ei.size) = true) (hbytes : m * ei.bytes ≤ 140737488355328) (hlen : m ≤ 140737488355328) (hg : guardOn ops o F = some true) (hd : o.dst = some d) (hN : Nat.blt d N = true) : Yields P N ops o (.psl m ds) F M := by
  intro E hE rest Q next
  rw [hd] at next
  exact aops_appf hT ho hs ((agree_op hE (by rw [ho]; simp [Op.operands, Call.operands])).trans hsv) (.inl ((agree_op hE (by rw [ho]; simp [Op.operands, Call.operands])).trans hx)) hds hcell hz hbytes hlen ((agree_guard hE).trans hg) hd hN next

/-- A slice of no cells. -/
theorem buildSlice0_run (hT : TOk P T) {t e : Nat} {ei : TI} (hs : sliceOf T t = some (e, ei)) (w : World) : (Instr.buildSlice t 0 #[]).run P w = .ok (.slice (some ⟨w.heap.size, 0, none⟩) 0 0) (w.alloc (.cells #[] e)) := by
  obtain ⟨hu, hg, _⟩ := sliceOf_spec hT hs
  have n1 : ¬ (0 * ei.size > 2 ^ 24) := by omega
  have n2 : 0 * ei.size = 0 := by omega
  simp only [Instr.buildSlice, Sem.run_bind, run_und hu, Result.andThen_ok, run_size hg, if_neg n1, if_pos n2, Sem.run_pure]
  simp only [Instr.fill, n2, run_newRow']
  have e0 : ∀ f : Nat → Value, Array.map f (Array.range 0) = #[] := fun f => Array.eq_empty_of_size_eq_zero (by simp)
  simp only [Instr.fill, e0, Sem.run_bind, run_newRow', Result.andThen_ok, Sem.run_pure]
theorem aops_empty (hT : TOk P T) {t e d : Nat} {ei : TI} (ho : o.op = .buildSlice t 0 #[]) (hs : sliceOf T t = some (e, ei)) (hg : guardOn ops o E = some true) (hd : o.dst = some d) (hN : Nat.blt d N = true)
    (next : ∀ b, AOps P N ops rest Q ⟨(d, .own (some b) 0 0) :: E, ⟨some b, 0 * ei.size, []⟩ :: M⟩) : AOps P N ops (o :: rest) Q ⟨E, M⟩ := by
  refine aops_rel hg (by rw [hd]; exact hN) (fun z L => ∃ b, z = .own (some b) 0 0 ∧ L = M ++ [⟨some b, 0 * ei.size, []⟩]) (fun K G a w hi => ?_) (fun z L ⟨b, e1, e2⟩ => by subst e1; subst e2; rw [hd]; exact aops_front (next b))
  have hok := hi.ok.alloc_own [] [] [] e (0 * ei.size) (by trivial) (by simp)
  refine ⟨.slice (some ⟨w.heap.size, 0, none⟩) 0 0, _, G, .own (some w.heap.size) 0 0, _, ?_, hok, G.le_refl, ?_, _, rfl, rfl⟩
  · simp only [execOp, ho, Sem.run_bind, Array.map_empty, buildSlice0_run hT hs, Result.andThen_ok]; rfl
  · rfl

/-- append upon the object at the front. -/
theorem aops_app0 (hT : TOk P T) {t e d : Nat} {ei : TI} {s x : Operand} {ob : Option Nat} {n cap m : Nat} {room : Nat} {cs ds : List A} (ho : o.op = .call { callee := .builtin .append, args := #[s, x], argTypes := #[t, t] }) (hs : sliceOf T t = some (e, ei))
    (hsv : opA E s = .own ob n cap) (hx : opA E x = .psl m ds) (hroom : room = cap * ei.size) (hcs : cs.length = n * ei.size) (hds : ds.length = m * ei.size) (hcell : ds.all A.isCell = true)
    (hz : (Nat.beq ei.zero.length ei.size && Nat.blt 0 ei.size) = true) (hbytes : (n + m) * ei.bytes ≤ 140737488355328) (hlen : n + m ≤ 140737488355328) (hg : guardOn ops o E = some true) (hd : o.dst = some d) (hN : Nat.blt d N = true)
    (next : ∀ ob' cap', AOps P N ops rest Q ⟨(d, .own ob' (n + m) cap') :: E, ⟨ob', cap' * ei.size, cs ++ ds⟩ :: M⟩) : AOps P N ops (o :: rest) Q ⟨E, ⟨ob, room, cs⟩ :: M⟩ := by
  refine aops_append hT 0 ho hs hsv (.inl hx) rfl hroom hcs hds hcell hz hbytes hlen hg (by rw [hd]; exact hN) fun ob' cap' => ?_
  rw [hd]; exact next ob' cap'

/-- A contract with a slice of one's own gives one with a frozen one. -/
def OwnR (sz n : Nat) (cs : List A) (M : List Ob) : A → List Ob → Prop := fun r M' => ∃ ob cap, r = .own ob n cap ∧ M' = ⟨ob, cap * sz, cs⟩ :: M
theorem acalls_frozen {f : FuncId} {args : List A} {sz n : Nat} {cs : List A} (hcs : cs.length = n * sz) (hsz : 0 < sz) (h : ACalls P f args M (OwnR sz n cs M)) : ACalls P f args M (fun r M' => r = .psl n cs ∧ M' = M) := by
  intro G w vs ho hl
  refine (h G w vs ho hl).mono ?_
  rintro e w' ⟨v, r, M', G', rfl, hr, hok, ob, cap, rfl, rfl⟩
  obtain ⟨G2, hle, hok2, hb, hn, _⟩ := ok_publish hok (k := 0) rfl
  refine ⟨v, .psl n cs, M, G2, rfl, ?_, hok2, rfl, rfl⟩
  cases ob with
  | none =>
    obtain ⟨rfl, rfl, rfl⟩ := hr
    obtain ⟨rfl, _⟩ := hn rfl
    exact ⟨none, 0, rfl, Nat.le_refl _, by simp, [], rfl, .inl rfl⟩
  | some b =>
    simp only [Rep] at hr
    obtain ⟨us, hl', hat, hle'⟩ := hb b rfl
    have hlen := hl'.length
    exact ⟨_, cap, hr, Nat.le_of_mul_le_mul_right (show n * sz ≤ cap * sz by omega) hsz, by simp, us, hl', .inr ⟨b, 0, rfl, hat⟩⟩

/-! ### Cases -/
theorem aops_case {l : List Oper} (t : Nat) {b : Bool} (h : get E t = .bool b) (h1 : b = true → AOps P N ops l Q ⟨(t, .bool true) :: E, M⟩) (h0 : b = false → AOps P N ops l Q ⟨(t, .bool false) :: E, M⟩) : AOps P N ops l Q ⟨E, M⟩ := by
  have key : AOps P N ops l Q ⟨(t, .bool b) :: E, M⟩ := by
    cases b with
    | true => exact h1 rfl
    | false => exact h0 rfl
  refine aops_weaken (fun K G a w hi => ⟨G, inv_E hi fun s v hr => ?_⟩) key
  simp only [get]
  cases hb : Nat.beq t s with
  | true => obtain rfl := Nat.eq_of_beq_eq_true hb; rw [cond_true, ← h]; exact hr
  | false => exact hr
/-- One operation that gives a truth value, and both cases. -/
theorem seqT_b (hT : TOk P T) {l : List Oper} {n : Nat} {b : Bool} {d : Nat} (h : headed (aval T F o.op) = some (.bool b)) (hg : guardOn ops o F = some true) (hd : o.dst = some d) (hN : Nat.blt d N = true)
    (h1 : b = true → SeqT P N ops Q M ((d, .bool true) :: F) n l) (h0 : b = false → SeqT P N ops Q M ((d, .bool false) :: F) n l) : SeqT P N ops Q M F (n + 1) (o :: l) := by
  refine seqT_p hT h hg hd hN ?_
  cases b with
  | true => exact h1 rfl
  | false => exact h0 rfl
theorem seqT_y {l : List Oper} {n d : Nat} {x : A} (h : Yields P N ops o x F M) (hd : o.dst = some d) (next : SeqT P N ops Q M ((d, x) :: F) n l) : SeqT P N ops Q M F (n + 1) (o :: l) := by
  refine SeqT.cons h ?_
  rw [hd]; exact next
theorem seqT_call {l : List Oper} {n d : Nat} {g : Operand} {args : Array Operand} {tys : Array TypeId} {f : FuncId} {cap as : List A} {fn : Func} (x : A) (hf : P.funcs[f]? = some fn) (ho : o.op = .call { callee := .value g, args, argTypes := tys }) (hgv : opA F g = .fn f cap)
    (hfn : callable fn = true) (has : args.toList.map (opA F) ++ cap = as) (hc : ACalls P f as M (fun r M' => r = x ∧ M' = M)) (hg : guardOn ops o F = some true) (hd : o.dst = some d) (hN : Nat.blt d N = true)
    (next : SeqT P N ops Q M ((d, x) :: F) n l) : SeqT P N ops Q M F (n + 1) (o :: l) := seqT_y (yields_call x hf ho hgv hfn has hc hg (by rw [hd]; exact hN)) hd next
theorem aops_callx {d : Nat} {g : Operand} {args : Array Operand} {tys : Array TypeId} {f : FuncId} {cap as : List A} {fn : Func} {x : A} (hf : P.funcs[f]? = some fn) (ho : o.op = .call { callee := .value g, args, argTypes := tys }) (hgv : opA E g = .fn f cap)
    (hfn : callable fn = true) (has : args.toList.map (opA E) ++ cap = as) (hc : ACalls P f as M (fun r M' => r = x ∧ M' = M)) (hg : guardOn ops o E = some true) (hd : o.dst = some d) (hN : Nat.blt d N = true)
    (next : AOps P N ops rest Q ⟨(d, x) :: E, M⟩) : AOps P N ops (o :: rest) Q ⟨E, M⟩ := by
  refine aops_call hf ho hgv hfn has hc hg (by rw [hd]; exact hN) ?_
  rintro y M' ⟨rfl, rfl⟩
  rw [hd]; exact next
theorem resOf_nils {st : St} {t : Tmp} (h : get st.E t = .nils) : ResOf P N st (.tmp t) (.psl 0 []) := by
  intro K G a w hi
  obtain ⟨v, h1, h2⟩ := resOf_tmp (P := P) h K G a w hi
  exact ⟨v, h1, nils_psl h2⟩
end
end Go.Proofs.Ytafncdbkbmaifaa.Ab

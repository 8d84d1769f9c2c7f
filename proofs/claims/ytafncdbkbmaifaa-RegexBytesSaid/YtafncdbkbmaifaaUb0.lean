/- What package strings' Builder does: pointers to blocks whose type is known, bytes of one's own that become a text. No condition. -/
import Derived.Test.YtafncdbkbmaifaaAc0
import Derived.Test.YtafncdbkbmaifaaAbW
import Derived.Test.YtafncdbkbmaifaaAbY
import Derived.Lib.Builder
import Derived.Lib.UnsafeStr
set_option linter.unusedVariables false
set_option linter.unusedSimpArgs false
namespace Go.Proofs.Ytafncdbkbmaifaa.Ab
section
variable {P : Program} {T : List TI} {N : Nat} {ops : Array Oper} {rest : List Oper} {o : Oper} {Q : Exit → St → Prop} {R : Pst} {E F : Env} {M : List Ob} {st : St} {b : Nat} {es : Array MapEntry} {cl : Nat}
theorem heap_new (w : World) (o : Obj) : (w.alloc o).heap[w.heap.size]? = some o := by
  show (w.heap.push o)[w.heap.size]? = _
  simp
/-- A variable of one's own, its block's type known. -/
theorem aops_boxT {e d : Nat} {x : Operand} {y : A} (ho : o.op = .box e x) (hx : headed (some (opA E x)) = some y) (hc : cellsOk y = true) (hg : guardOn ops o E = some true) (hd : o.dst = some d) (hN : Nat.blt d N = true)
    {cs : List A} (hcs : normL y.cs = some cs) (next : ∀ b, AOps P N ops rest Q ⟨(d, .tref b e) :: E, ⟨some b, cs.length, cs⟩ :: M⟩) : AOps P N ops (o :: rest) Q ⟨E, M⟩ := by
  rw [headed_eq] at hx
  rw [normL_eq] at hcs
  obtain rfl := Option.some.inj hcs
  obtain rfl := Option.some.inj hx
  refine aops_rel hg (by rw [hd]; exact hN) (fun z L => ∃ b, z = .tref b e ∧ L = M ++ [⟨some b, (opA E x).cs.length, (opA E x).cs⟩]) (fun K G a w hi => ?_) (fun z L ⟨b, e1, e2⟩ => by subst e1; subst e2; rw [hd]; exact aops_front (next b))
  have hr := opA_rep hi x
  obtain ⟨hl, _⟩ := cs_rep hr hc
  have hok := hi.ok.alloc_own (opA E x).cs (a.eval x).cells.toList [] e (opA E x).cs.length hl (by have := hl.length; simpa using this)
  let G2 : Gh := ⟨G.Z, G.Y, G.U, fun k => if k = w.heap.size then some e else G.W k⟩
  have hle : G.le G2 := ⟨fun _ => List.prefix_refl _, fun _ _ h => h, fun _ h => h, fun j t h => by
    have : j ≠ w.heap.size := Nat.ne_of_lt (hi.ok.wlt h)
    show (if j = w.heap.size then some e else G.W j) = some t
    rw [if_neg this]; exact h⟩
  have hok2 : Ok K G2 (M ++ [⟨some w.heap.size, (opA E x).cs.length, (opA E x).cs⟩]) (w.alloc (.cells ((a.eval x).cells.toList ++ []).toArray e)) := by
    refine ⟨Gh.le_trans hok.g hle, hok.os, hok.tape, hok.output, hok.size, hok.fr, hok.fz, fun o ho b hb => ?_, hok.vn, hok.un, hok.kb, hok.nd, hok.mz, hok.um, fun j t hj => ?_⟩
    · obtain ⟨us, sp, t, a1, a2, a3⟩ := hok.ow o ho b hb
      exact ⟨us, sp, t, a1, a2.mono hle, a3⟩
    · have hj : (if j = w.heap.size then some e else G.W j) = some t := hj
      split at hj
      · rename_i h1
        cases hj; subst h1
        exact ⟨_, _, heap_new w _⟩
      · exact hok.wt j t hj
  refine ⟨.pointer (some ⟨w.heap.size, 0, none⟩), _, G2, _, _, ?_, hok2, hle, (show Rep G2 (.tref w.heap.size e) _ from ⟨rfl, if_pos rfl⟩), _, rfl, rfl⟩
  simp only [execOp, ho, Instr.box, newVar, Sem.run_bind, run_newRow', Result.andThen_ok, Array.toArray_toList, List.append_nil]; rfl
/-- A pointer to a block of a known type is a pointer to that block. -/
theorem inv_tsoft {K : Ctx} {G : Gh} {a : Act} {w : World} (hi : Inv K N G ⟨E, M⟩ a w) {t b e : Nat} (h : get E t = .tref b e) : Inv K N G ⟨(t, .ref b 0) :: E, M⟩ a w := by
  refine inv_E hi fun s v hv => ?_
  simp only [get]
  cases hb : Nat.beq t s with
  | true =>
    obtain rfl := Nat.eq_of_beq_eq_true hb
    rw [h] at hv
    exact hv.1
  | false => exact hv
theorem aops_tsoft {l : List Oper} (t : Nat) {b e : Nat} (h : get E t = .tref b e) (next : AOps P N ops l Q ⟨(t, .ref b 0) :: E, M⟩) : AOps P N ops l Q ⟨E, M⟩ :=
  aops_weaken (fun K G a w hi => ⟨G, inv_tsoft hi h⟩) next
theorem inv_osoft {K : Ctx} {G : Gh} {a : Act} {w : World} (hi : Inv K N G ⟨E, M⟩ a w) {t e n cap : Nat} {ob : Option Nat} (h : get E t = .town e ob n cap) : Inv K N G ⟨(t, .own ob n cap) :: E, M⟩ a w := by
  refine inv_E hi fun s v hv => ?_
  simp only [get]
  cases hb : Nat.beq t s with
  | true =>
    obtain rfl := Nat.eq_of_beq_eq_true hb
    rw [h] at hv
    exact hv.1
  | false => exact hv
/-- Where a pointer's field at its very beginning lies. -/
theorem aops_tf0 (hT : TOk P T) {s f d n b e : Nat} (ho : o.op = .fieldAddr s (.tmp n) f) (hx : get E n = .tref b e) (hv : aval T ((n, .ref b 0) :: E) (.fieldAddr s (.tmp n) f) = some (.ref b 0)) (hg : guardOn ops o E = some true) (hd : o.dst = some d) (hN : Nat.blt d N = true)
    (next : AOps P N ops rest Q ⟨(d, .tref b e) :: E, M⟩) : AOps P N ops (o :: rest) Q ⟨E, M⟩ := by
  refine aops_val hg (by rw [hd]; exact hN) (.tref b e) M (fun K G a w hi => ?_) (by rw [hd]; exact next)
  have hi2 := inv_tsoft hi hx
  obtain ⟨v, h1, h2⟩ := aval_sound (o := o) hT (by rw [ho]; exact hv) hi2
  have h3 := hi.ev n
  simp only at h3
  rw [hx] at h3
  exact ⟨v, w, G, h1, hi.ok, G.le_refl, h2, h3.2⟩
theorem aops_tnil {d b e : Nat} {x : Operand} (ho : o.op = .nilCheck x) (hx : opA E x = .tref b e) (hg : guardOn ops o E = some true) (hd : o.dst = some d) (hN : Nat.blt d N = true)
    (next : AOps P N ops rest Q ⟨(d, .tref b e) :: E, M⟩) : AOps P N ops (o :: rest) Q ⟨E, M⟩ := by
  refine aops_val hg (by rw [hd]; exact hN) (.tref b e) M (fun K G a w hi => ?_) (by rw [hd]; exact next)
  have hr := opA_rep hi x
  rw [hx] at hr
  exact ⟨a.eval x, w, G, by simp only [execOp, ho, hr.1]; rfl, hi.ok, G.le_refl, hr⟩
/-- What is known of a block of one's own. -/
theorem own_shape {K : Ctx} {G : Gh} {w : World} (hok : Ok K G M w) {k b room e : Nat} {cs : List A} (hM : M[k]? = some ⟨some b, room, cs⟩) (hw : G.W b = some e) : w.shape? b = some (e, room) := by
  obtain ⟨vs, sp, t, h1, h2, h3⟩ := hok.ow _ (List.mem_of_getElem? hM) b rfl
  obtain ⟨c, f, h4⟩ := hok.wt b e hw
  rw [h1] at h4
  cases h4
  simp only at h3
  simp [World.shape?, h1, h3]
/-- To unsafe.Pointer and back. -/
theorem aops_tou (hT : TOk P T) {d b e src dst t : Nat} {ti : TI} {x : Operand} {room : Nat} {cs : List A} (k : Nat) (ho : o.op = .convert src dst x) (hs : kindOf T src = some (.ptr t)) (hdst : P.underlying dst = some .unsafePointer) (ht : known T t = some ti) (hj : Nat.blt 0 ti.size = true) (hx : opA E x = .tref b e)
    (hM : M[k]? = some ⟨some b, room, cs⟩) (hr0 : 0 < room) (hg : guardOn ops o E = some true) (hd : o.dst = some d) (hN : Nat.blt d N = true)
    (next : AOps P N ops rest Q ⟨(d, .tref b e) :: E, M⟩) : AOps P N ops (o :: rest) Q ⟨E, M⟩ := by
  refine aops_val hg (by rw [hd]; exact hN) (.tref b e) M (fun K G a w hi => ?_) (by rw [hd]; exact next)
  have hr := opA_rep hi x
  rw [hx] at hr
  obtain ⟨k1, k2⟩ := known_spec ht
  obtain ⟨info, z, hi1, hi2, _⟩ := (hT.get k1 k2).info
  have hj : 0 < ti.size := by simpa using hj
  have h1 := Lib.run_to_unsafe (P := P) w (src := src) (dst := dst) ⟨b, 0, none⟩ (kindOf_ptr hT hs) hdst hi1 (by omega) (own_shape hi.ok hM hr.2) hr0
  exact ⟨.pointer (some ⟨b, 0, none⟩), w, G, by simp only [execOp, ho, hr.1, Sem.run_bind, h1, Result.andThen_ok]; rfl, hi.ok, G.le_refl, rfl, hr.2⟩
theorem aops_fromu (hT : TOk P T) {d b e src dst u : Nat} {ti : TI} {x : Operand} {room : Nat} {cs : List A} (k : Nat) (ho : o.op = .convert src dst x) (hs : P.underlying src = some .unsafePointer) (hdst : kindOf T dst = some (.ptr u)) (ht : known T u = some ti) (hx : opA E x = .tref b e)
    (hM : M[k]? = some ⟨some b, room, cs⟩) (hl : liesAt P P.depth e (room / P.cellsOf e) 0 u 1 = true) (hg : guardOn ops o E = some true) (hd : o.dst = some d) (hN : Nat.blt d N = true)
    (next : AOps P N ops rest Q ⟨(d, .tref b e) :: E, M⟩) : AOps P N ops (o :: rest) Q ⟨E, M⟩ := by
  refine aops_val hg (by rw [hd]; exact hN) (.tref b e) M (fun K G a w hi => ?_) (by rw [hd]; exact next)
  have hr := opA_rep hi x
  rw [hx] at hr
  obtain ⟨k1, k2⟩ := known_spec ht
  obtain ⟨info, z, hi1, hi2, _⟩ := (hT.get k1 k2).info
  have h1 := Lib.run_from_unsafe (P := P) w (src := src) (dst := dst) (⟨b, 0, none⟩ : Addr) hs (kindOf_ptr hT hdst) hi1 (own_shape hi.ok hM hr.2) hl
  exact ⟨.pointer (some ⟨b, 0, none⟩), w, G, by simp only [execOp, ho, hr.1, Sem.run_bind, h1, Result.andThen_ok]; rfl, hi.ok, G.le_refl, rfl, hr.2⟩
theorem aops_noesc {g : Operand} {d : Nat} {x : Operand} {tys : Array TypeId} {f : FuncId} {fn : Func} {b e : Nat} (hf : P.funcs[f]? = some fn) (ho : o.op = .call { callee := .value g, args := #[x], argTypes := tys }) (hgv : opA E g = .fn f [])
    (hname : (fn.name == "runtime.NumGoroutine") = false) (hb : fn.body.isNone = true) (hn : Extern.findNext fn = none) (he : Extern.find fn = some Extern.AbiNoEscape.same)
    (hx : opA E x = .tref b e) (hg : guardOn ops o E = some true) (hd : o.dst = some d) (hN : Nat.blt d N = true)
    (next : AOps P N ops rest Q ⟨(d, .tref b e) :: E, M⟩) : AOps P N ops (o :: rest) Q ⟨E, M⟩ := by
  refine aops_val hg (by rw [hd]; exact hN) (.tref b e) M (fun K G a w hi => ?_) (by rw [hd]; exact next)
  have hrg := opA_rep hi g
  rw [hgv] at hrg
  obtain ⟨gs, hgv', hgl⟩ := hrg
  have hgs : gs = [] := by simpa [RepL] using hgl
  subst hgs
  have hrx := opA_rep hi x
  rw [hx] at hrx
  refine ⟨.pointer (some ⟨b, 0, none⟩), w, G, ?_, hi.ok, G.le_refl, rfl, hrx.2⟩
  have e1 : (#[x] : Array Operand).map a.eval ++ (#[] : Array Value) = #[.pointer (some ⟨b, 0, none⟩)] := by simp [hrx.1]
  simp only [execOp, ho, resolve, Deferred.ofValue, hgv', Sem.run_bind, Sem.run_pure, Result.andThen_ok, invoke, Array.empty_append]
  simp only [e1, run_callFunc_extern hf hname hb hn he, Lib.run_noEscape, Result.andThen_ok]
/-- A pointer held against itself. -/
theorem aops_tne (hT : TOk P T) {t t' e d b e1 : Nat} {ti : TI} {x y : Operand} (ho : o.op = .binOp .neq t x y t') (ht : kindOf T t = some (.ptr e)) (hti : known T e = some ti) (hx : opA E x = .tref b e1) (hy : opA E y = .tref b e1) (hg : guardOn ops o E = some true) (hd : o.dst = some d) (hN : Nat.blt d N = true)
    (next : AOps P N ops rest Q ⟨(d, .bool false) :: E, M⟩) : AOps P N ops (o :: rest) Q ⟨E, M⟩ := by
  refine aops_val hg (by rw [hd]; exact hN) (.bool false) M (fun K G av w hi => ?_) (by rw [hd]; exact next)
  have hrx := opA_rep hi x
  have hry := opA_rep hi y
  rw [hx] at hrx; rw [hy] at hry
  obtain ⟨k1, k2⟩ := known_spec hti
  obtain ⟨info, z, hi1, hi2, _⟩ := (hT.get k1 k2).info
  have h1 := Lib.run_neq_ptr_same (P := P) w (tp := t) (⟨b, 0, none⟩ : Addr) (kindOf_ptr hT ht) hi1
  refine ⟨.bool false, w, G, ?_, hi.ok, G.le_refl, rfl⟩
  simp only [execOp, ho, hrx.1, hry.1, Sem.run_bind, eqGuard_run (P := P) (w := w) (op := .neq) (t := t) (x := x) (y := y) (u := .pointer (some ⟨b, 0, none⟩)) (v := .pointer (some ⟨b, 0, none⟩)) (.inr (.inr (.inr ⟨_, rfl⟩))), h1, Result.andThen_ok]
  rfl
/-- A pointer of one's own is not nil. -/
theorem aops_tz (hT : TOk P T) {t t' e d b e1 : Nat} {x : Operand} (ho : o.op = .binOp .eql t x (.const (.pointer none)) t') (ht : kindOf T t = some (.ptr e)) (hx : opA E x = .tref b e1) (hg : guardOn ops o E = some true) (hd : o.dst = some d) (hN : Nat.blt d N = true)
    (next : AOps P N ops rest Q ⟨(d, .bool false) :: E, M⟩) : AOps P N ops (o :: rest) Q ⟨E, M⟩ := by
  refine aops_val hg (by rw [hd]; exact hN) (.bool false) M (fun K G av w hi => ?_) (by rw [hd]; exact next)
  have hrx := opA_rep hi x
  rw [hx] at hrx
  refine ⟨.bool false, w, G, ?_, hi.ok, G.le_refl, rfl⟩
  have h1 : (binOp .eql t (.pointer (some ⟨b, 0, none⟩)) (.pointer none)).run P w = .ok (.bool false) w := by
    have h : ∀ d : Nat, (Op.equalIn (d + 1) t (.pointer (some ⟨b, 0, none⟩)) (.pointer none)).run P w = .ok false w := fun d => by
      rw [Op.equalIn]; simp [run_und (kindOf_ptr hT ht)]
    have h2 := h 9999
    have e' : Op.maxDepth = 9999 + 1 := rfl
    simp only [binOp, Op.equal, e']
    simp [h2]
  have e2 : av.eval (.const (.pointer none)) = .pointer none := rfl
  simp only [execOp, ho, hrx.1, e2, Sem.run_bind, eqGuard_run (P := P) (w := w) (op := .eql) (t := t) (x := x) (y := .const (.pointer none)) (u := .pointer (some ⟨b, 0, none⟩)) (v := .pointer none) (.inr (.inr (.inr ⟨_, rfl⟩))), h1, Result.andThen_ok]
  rfl
theorem aops_nz (hT : TOk P T) {t t' e d : Nat} {x : Operand} (ho : o.op = .binOp .eql t x (.const (.pointer none)) t') (ht : kindOf T t = some (.ptr e)) (hx : opA E x = .nilp) (hg : guardOn ops o E = some true) (hd : o.dst = some d) (hN : Nat.blt d N = true)
    (next : AOps P N ops rest Q ⟨(d, .bool true) :: E, M⟩) : AOps P N ops (o :: rest) Q ⟨E, M⟩ := by
  refine aops_val hg (by rw [hd]; exact hN) (.bool true) M (fun K G av w hi => ?_) (by rw [hd]; exact next)
  have hrx := opA_rep hi x
  rw [hx] at hrx
  simp only [Rep] at hrx
  refine ⟨.bool true, w, G, ?_, hi.ok, G.le_refl, rfl⟩
  have h1 : (binOp .eql t (.pointer none) (.pointer none)).run P w = .ok (.bool true) w := by
    have h : ∀ d : Nat, (Op.equalIn (d + 1) t (.pointer none) (.pointer none)).run P w = .ok true w := fun d => by
      rw [Op.equalIn]; simp [run_und (kindOf_ptr hT ht)]
    have h2 := h 9999
    have e' : Op.maxDepth = 9999 + 1 := rfl
    simp only [binOp, Op.equal, e']
    simp [h2]
  have e2 : av.eval (.const (.pointer none)) = .pointer none := rfl
  simp only [execOp, ho, hrx, e2, Sem.run_bind, eqGuard_run (P := P) (w := w) (op := .eql) (t := t) (x := x) (y := .const (.pointer none)) (u := .pointer none) (v := .pointer none) (.inr (.inr (.inr ⟨_, rfl⟩))), h1, Result.andThen_ok]
  rfl
/-- Nothing of one's own becomes a slice of a known type's block. -/
theorem aops_adoptT {l : List Oper} (i e : Nat) {b room : Nat} {cs : List A} (h : cs[i]? = some .nils) {cs' : List A} (hcs : normL (cs.set i (.town e none 0 0)) = some cs') (next : AOps P N ops l Q ⟨E, ⟨some b, room, cs'⟩ :: ⟨none, 0, []⟩ :: M⟩) : AOps P N ops l Q ⟨E, ⟨some b, room, cs⟩ :: M⟩ := by
  rw [normL_eq] at hcs; cases hcs
  refine aops_weaken (st' := ⟨E, ⟨some b, room, cs.set i (.town e none 0 0)⟩ :: ⟨none, 0, []⟩ :: M⟩) (fun K G a w hi => ⟨G, ?_, hi.sz, hi.df, hi.ev⟩) next
  have hok := hi.ok
  refine hok.cast (fun o' ho => ?_) ?_
  · simp only [List.mem_cons] at ho
    rcases ho with rfl | rfl | ho
    · exact .inr ⟨⟨some b, room, cs⟩, List.mem_cons_self .., rfl, rfl, fun vs hv => repL_set_same hv h (fun v hr => by simp only [Rep] at hr ⊢; exact ⟨⟨hr, trivial, trivial⟩, fun b e => by cases e⟩), fun h => by cases h⟩
    · exact .inl ⟨rfl, rfl, rfl⟩
    · exact .inr ⟨o', by simp [ho], rfl, rfl, fun vs hv => hv, fun hb => (hok.vn o' (by simp [ho]) hb).1⟩
  · simpa [List.filterMap_cons] using hok.nd
/-- append to such a slice. -/
theorem aops_appT (hT : TOk P T) {t e : Nat} {ei : TI} {s x : Operand} {ob : Option Nat} {n cap room m d : Nat} {cs ds : List A} (k : Nat) (ho : o.op = .call { callee := .builtin .append, args := #[s, x], argTypes := #[t, t] }) (hs : sliceOf T t = some (e, ei))
    (hsv : opA E s = .town e ob n cap) (hx : opA E x = .psl m ds ∨ opA E x = .nils ∧ m = 0 ∧ ds = []) (hM : M[k]? = some ⟨ob, room, cs⟩) (hroom : room = cap * ei.size) (hcs : cs.length = n * ei.size) (hds : ds.length = m * ei.size) (hcell : ds.all A.isCell = true)
    (hz : (Nat.beq ei.zero.length ei.size && Nat.blt 0 ei.size) = true) (hbytes : (n + m) * ei.bytes ≤ 140737488355328) (hlen : n + m ≤ 140737488355328) (hg : guardOn ops o E = some true) (hd : o.dst = some d) (hN : Nat.blt d N = true)
    (next : ∀ ob' cap', AOps P N ops rest Q ⟨(d, .town e ob' (n + m) cap') :: E, M.set k ⟨ob', cap' * ei.size, cs ++ ds⟩⟩) : AOps P N ops (o :: rest) Q ⟨E, M⟩ := by
  subst hroom
  simp only [Bool.and_eq_true] at hz
  have hz1 := Nat.eq_of_beq_eq_true hz.1
  have hz2 : 0 < ei.size := by simpa using hz.2
  refine aops_rel hg (by rw [hd]; exact hN) (fun y L => ∃ ob' cap', y = .town e ob' (n + m) cap' ∧ L = M.set k ⟨ob', cap' * ei.size, cs ++ ds⟩) (fun K G a w hi => ?_) (fun y L ⟨ob', cap', e1, e2⟩ => by subst e1; subst e2; rw [hd]; exact next ob' cap')
  have hm : ds ≠ [] ∨ m = 0 := by
    by_cases h : ds = []
    · right
      subst h
      have h0 : m * ei.size = 0 := by rw [← hds]; rfl
      rcases Nat.mul_eq_zero.1 h0 with h | h
      · exact h
      · omega
    · exact .inl h
  obtain ⟨ad, c, vs, hv, hl, had⟩ := srcOf hi hx hm
  have hrs := opA_rep hi s
  rw [hsv] at hrs
  obtain ⟨ob', cap', v', w', hrun, h1, h2, h3⟩ := append_run (P := P) (c := c) hT hs o.type hi.ok hM hcs hz1 hz2 (v := a.eval s) hrs.1 hl hds hcell had hbytes hlen
  have ht : ∀ j, ob' = some j → ∃ cs' f, w'.heap[j]? = some (.cells cs' e f) := fun j hj => by
    rcases h3 j hj with h4 | h4
    · exact h2.wt j e (hrs.2 j h4)
    · exact h4
  let G2 : Gh := ⟨G.Z, G.Y, G.U, fun j => if ob' = some j then some e else G.W j⟩
  have hle : G.le G2 := ⟨fun _ => List.prefix_refl _, fun _ _ h => h, fun _ h => h, fun j t' h => by
    show (if ob' = some j then some e else G.W j) = some t'
    split
    · rename_i h5
      obtain ⟨c1, f1, e1⟩ := ht j h5
      obtain ⟨c2, f2, e2⟩ := h2.wt j t' h
      rw [e1] at e2
      cases e2
      rfl
    · exact h⟩
  have hok2 : Ok K G2 (M.set k ⟨ob', cap' * ei.size, cs ++ ds⟩) w' := by
    refine ⟨Gh.le_trans h2.g hle, h2.os, h2.tape, h2.output, h2.size, h2.fr, h2.fz, fun o ho b hb => ?_, h2.vn, h2.un, h2.kb, h2.nd, h2.mz, h2.um, fun j t' hj => ?_⟩
    · obtain ⟨us, sp, t, a1, a2, a3⟩ := h2.ow o ho b hb
      exact ⟨us, sp, t, a1, a2.mono hle, a3⟩
    · have hj : (if ob' = some j then some e else G.W j) = some t' := hj
      split at hj
      · rename_i h5
        cases hj
        exact ht j h5
      · exact h2.wt j t' hj
  refine ⟨v', w', G2, _, _, ?_, hok2, hle, (show Rep G2 (.town e ob' (n + m) cap') v' from ⟨h1, fun j hj => if_pos hj⟩), _, _, rfl, rfl⟩
  exact call_builtin_run ho (by simp [builtin, hv, hrun])
/-- Where such a slice's first element lies, and how long it is. -/
theorem aops_sdT {d t e c n cap : Nat} {x : Operand} (ho : o.op = .call { callee := .builtin .unsafeSliceData, args := #[x], argTypes := #[t] }) (hx : opA E x = .town e (some c) n cap) (h0 : cap ≠ 0) (hg : guardOn ops o E = some true) (hd : o.dst = some d) (hN : Nat.blt d N = true)
    (next : AOps P N ops rest Q ⟨(d, .tref c e) :: E, M⟩) : AOps P N ops (o :: rest) Q ⟨E, M⟩ := by
  refine aops_val hg (by rw [hd]; exact hN) (.tref c e) M (fun K G a w hi => ?_) (by rw [hd]; exact next)
  have hr := opA_rep hi x
  rw [hx] at hr
  have h1 : a.eval x = .slice (some ⟨c, 0, none⟩) n cap := hr.1
  exact ⟨.pointer (some ⟨c, 0, none⟩), w, G, call_builtin_run ho (by simp [builtin, h1, Lib.run_unsafeSliceData_row (P := P) w _ _ _ _ _ h0]), hi.ok, G.le_refl, rfl, hr.2 c rfl⟩
theorem aops_lenT (hT : TOk P T) {d i e n cap : Nat} {ob : Option Nat} (hv : ∀ E, aval T ((i, .own ob n cap) :: E) o.op = some (.int .i64 n)) (hx : get E i = .town e ob n cap) (hg : guardOn ops o E = some true) (hd : o.dst = some d) (hN : Nat.blt d N = true)
    (next : AOps P N ops rest Q ⟨(d, .int .i64 n) :: E, M⟩) : AOps P N ops (o :: rest) Q ⟨E, M⟩ := by
  refine aops_val hg (by rw [hd]; exact hN) (.int .i64 n) M (fun K G a w hi => ?_) (by rw [hd]; exact next)
  obtain ⟨v, h1, h2⟩ := aval_sound (o := o) hT (hv E) (inv_osoft hi hx)
  exact ⟨v, w, G, h1, hi.ok, G.le_refl, h2⟩
theorem seqO_lenT (hT : TOk P T) {kp : List Ob} {al : List Nat} {q m : Nat} {ll : List Oper} {d i e n cap : Nat} {ob : Option Nat} {tys : Array TypeId} (hi : al.contains q = false) (ho : o.op = .call { callee := .builtin .len, args := #[.tmp i], argTypes := tys }) (hv : ∀ E, aval T ((i, .own ob n cap) :: E) o.op = some (.int .i64 n)) (hx : opA F (.tmp i) = .town e ob n cap) (hg : guardOn ops o F = some true) (hd : o.dst = some d) (hN : Nat.blt d N = true)
    (next : SeqO P N ops Q kp al (q + 1) ((d, .int .i64 n) :: F) M m ll) : SeqO P N ops Q kp al q F M (m + 1) (o :: ll) :=
  seqO_y hi (fun M' E hE rest Q next => by
    rw [hd] at next
    exact aops_lenT hT hv ((agree_op hE (by rw [ho]; simp [Op.operands, Call.operands])).trans hx) ((agree_guard hE).trans hg) hd hN next) hd next
theorem seqO_sdT {kp : List Ob} {al : List Nat} {q m : Nat} {ll : List Oper} {d t e c n cap : Nat} {x : Operand} (hi : al.contains q = false) (ho : o.op = .call { callee := .builtin .unsafeSliceData, args := #[x], argTypes := #[t] }) (hx : opA F x = .town e (some c) n cap) (h0 : cap ≠ 0) (hg : guardOn ops o F = some true) (hd : o.dst = some d) (hN : Nat.blt d N = true)
    (next : SeqO P N ops Q kp al (q + 1) ((d, .tref c e) :: F) M m ll) : SeqO P N ops Q kp al q F M (m + 1) (o :: ll) :=
  seqO_y hi (fun M' E hE rest Q next => by
    rw [hd] at next
    exact aops_sdT ho ((agree_op hE (by rw [ho]; simp [Op.operands, Call.operands])).trans hx) h0 ((agree_guard hE).trans hg) hd hN next) hd next
theorem erase_ne {b room : Nat} {cs : List A} : ∀ (M : List Ob) (k : Nat), M[k]? = some ⟨some b, room, cs⟩ → (M.filterMap (·.b)).Nodup → ∀ o ∈ M.eraseIdx k, o.b ≠ some b
  | [], k, h, _, _, _ => by simp at h
  | y :: M, 0, h, hnd, o, ho => by
    simp at h ho
    subst h
    intro hb
    simp only [List.filterMap_cons, List.nodup_cons] at hnd
    exact hnd.1 (List.mem_filterMap.2 ⟨o, ho, hb⟩)
  | y :: M, k + 1, h, hnd, o, ho => by
    simp at h ho
    have hnd' : (M.filterMap (·.b)).Nodup := by
      cases hx : y.b with
      | none => simpa [List.filterMap_cons, hx] using hnd
      | some z => simp only [List.filterMap_cons, hx, List.nodup_cons] at hnd; exact hnd.2
    rcases ho with rfl | ho
    · intro hb
      simp only [List.filterMap_cons, hb, List.nodup_cons] at hnd
      exact hnd.1 (List.mem_filterMap.2 ⟨_, List.mem_of_getElem? h, rfl⟩)
    · exact erase_ne M k h hnd' o ho
/-- Bytes of one's own become a text, and are nobody's any more. -/
theorem aops_ustr {pt it d c e room : Nat} {p n : Operand} {l : List Int} (k : Nat) (ho : o.op = .call { callee := .builtin .unsafeString, args := #[p, n], argTypes := #[pt, it] }) (hp : P.underlying pt = some (.pointer e)) (hc : P.cellsOf e = 1) (hx : opA E p = .tref c e) (hn : opA E n = .int .i64 l.length) (h0 : l ≠ []) (hl : ∀ x ∈ l, 0 ≤ x ∧ x ≤ 255) (h63 : l.length ≤ 1000000)
    (hM : M[k]? = some ⟨some c, room, u8s l⟩) (hg : guardOn ops o E = some true) (hd : o.dst = some d) (hN : Nat.blt d N = true) (next : AOps P N ops rest Q ⟨(d, .str (strOfNums l)) :: E, M.eraseIdx k⟩) : AOps P N ops (o :: rest) Q ⟨E, M⟩ := by
  refine aops_val hg (by rw [hd]; exact hN) (.str (strOfNums l)) (M.eraseIdx k) (fun K G a w hi => ?_) (by rw [hd]; exact next)
  have hr := opA_rep hi p
  have hrn := opA_rep hi n
  rw [hx] at hr; rw [hn] at hrn
  simp only [Rep] at hr hrn
  have hmem := List.mem_of_getElem? hM
  obtain ⟨vs, sp, t, h1, h2, h3⟩ := hi.ok.ow _ hmem c rfl
  have hvs := u8s_rep h2
  simp only at h3
  have hsh := own_shape hi.ok hM hr.2
  have hok' := ok_freeze (hi.ok.sub (fun o ho => (List.eraseIdx_sublist M k).subset ho) (ok_nodup_erase M k hi.ok.nd)) (ad := ⟨c, 0, none⟩) l.length (hi.ok.kb _ hmem c rfl) (erase_ne M k hM hi.ok.nd) (fun h => (hi.ok.um c h).1 (hi.ok.un _ hmem c rfl))
  let lb : List UInt8 := l.map fun x => x.toNat.toUInt8
  have hlb : lb.length = l.length := by simp [lb]
  have hvl : vs.length = l.length := by rw [hvs]; simp
  have hb0 : lb ≠ [] := fun h => h0 (List.eq_nil_of_length_eq_zero (by rw [← hlb, h]; rfl))
  have hrun := Lib.run_unsafeString_row (P := P) w pt it o.type e hp hc c room hsh lb hb0 (by omega) (by omega) (fun j x hj => by
    have hjl : j < l.length := by have := (List.getElem?_eq_some_iff.1 hj).1; omega
    have e1 : x = (l[j]).toNat.toUInt8 := by
      have : lb[j]? = some ((l[j]).toNat.toUInt8) := by simp [lb, List.getElem?_eq_getElem hjl]
      rw [this] at hj; exact (Option.some.inj hj).symm
    have hb := hl l[j] (List.getElem_mem hjl)
    have e2 : ((x.toNat : Nat) : Int) = l[j] := by
      rw [e1]
      have : (l[j]).toNat.toUInt8.toNat = (l[j]).toNat := by
        simp only [Nat.toUInt8, UInt8.toNat_ofNat']
        omega
      rw [this]; omega
    rw [addr_add, e2]
    have hvj : (vs ++ sp)[j]? = some (.int .u8 l[j]) := by
      rw [hvs, List.getElem?_append_left (by simpa using hjl)]
      simp [List.getElem?_eq_getElem hjl]
    simp [World.cell?, h1, hvj])
  rw [hlb] at hrun
  refine ⟨.string (strOfNums l), w.freeze ⟨c, 0, none⟩ l.length, G, ?_, hok', G.le_refl, rfl⟩
  exact call_builtin_run ho (by simp only [builtin]; simp [hr.1, hrn, hrun]; rfl)
theorem seqO_ustr {kp : List Ob} {al : List Nat} {q m : Nat} {ll : List Oper} {pt it d c e room : Nat} {p n : Operand} {l : List Int} (k : Nat) (hi : al.contains q = true) (ho : o.op = .call { callee := .builtin .unsafeString, args := #[p, n], argTypes := #[pt, it] }) (hp : P.underlying pt = some (.pointer e)) (hc : P.cellsOf e = 1) (hx : opA F p = .tref c e) (hn : opA F n = .int .i64 l.length) (h0 : l ≠ []) (hl : ∀ x ∈ l, 0 ≤ x ∧ x ≤ 255) (h63 : l.length ≤ 1000000)
    (hM : M[k]? = some ⟨some c, room, u8s l⟩) (hkp : ∀ o ∈ kp, o ∈ M.eraseIdx k) (hg : guardOn ops o F = some true) (hd : o.dst = some d) (hN : Nat.blt d N = true)
    (next : SeqO P N ops Q kp al (q + 1) ((d, .str (strOfNums l)) :: F) (M.eraseIdx k) m ll) : SeqO P N ops Q kp al q F M (m + 1) (o :: ll) := by
  refine SeqO.make (x := fun _ => .str (strOfNums l)) (M2 := fun _ => M.eraseIdx k) hi (fun E hE rest Q next => ?_) (fun z o ho => hkp o ho) fun b => ?_
  · refine aops_ustr k ho hp hc ((agree_op hE (by rw [ho]; simp [Op.operands, Call.operands])).trans hx) ((agree_op hE (by rw [ho]; simp [Op.operands, Call.operands])).trans hn) h0 hl h63 hM ((agree_guard hE).trans hg) hd hN ?_
    have := next []
    rwa [hd] at this
  · rw [hd]; exact next
/-- A slice of one's own that is not empty has a block, and room. -/
theorem acode_someM {c : Code} {k room cap sz : Nat} {ob : Option Nat} {cs : List A} (hM : M[k]? = some ⟨ob, room, cs⟩) (hne : cs ≠ []) (hr : room = cap * sz) (next : ∀ b, ob = some b → cap ≠ 0 → ACode P N c Q ⟨E, M⟩) : ACode P N c Q ⟨E, M⟩ := by
  intro K G a w hi
  have hmem := List.mem_of_getElem? hM
  cases ob with
  | none => exact absurd (hi.ok.vn _ hmem rfl).1 hne
  | some b =>
    obtain ⟨vs, sp, t, h1, h2, h3⟩ := hi.ok.ow _ hmem b rfl
    refine next b rfl ?_ K G a w hi
    rintro rfl
    simp only at h3
    have := h2.length
    have : vs = [] := List.eq_nil_of_length_eq_zero (by omega)
    rw [this] at h2
    have := h2.length
    exact hne (List.eq_nil_of_length_eq_zero (by simpa using this.symm))
theorem acode_tsoft {c : Code} (t : Nat) {b e : Nat} (h : get E t = .tref b e) (next : ACode P N c Q ⟨(t, .ref b 0) :: E, M⟩) : ACode P N c Q ⟨E, M⟩ :=
  acode_weaken (fun K G a w hi => ⟨G, inv_tsoft hi h⟩) next
/-- A new entry of a map of numbers. -/
theorem hops_ins (hT : TOk P T) {t kt et : Nat} {xm xk xv : Operand} {k : Int} {s : ByteArray} (ho : o.op = .insert t xm xk xv) (ht : kindOf T t = some (.map kt et)) (hkt : kindOf T kt = some (.int .i64)) (hm : opA E xm = .mr b) (hk : opA E xk = .int .i64 k) (hv : opA E xv = .str s)
    (hf : Instr.findNow (.int .i64) (.int .i64 k) es.toList 0 = some none) (hg : guardOn ops o E = some true) (hd : o.dst = none)
    (next : HOps P N ops rest R b (es.push ⟨.int .i64 k, .string s, cl⟩) (cl + 1) ⟨E, M⟩) : HOps P N ops (o :: rest) R b es cl ⟨E, M⟩ := by
  intro K G a w hi
  have r1 := opA_rep hi.i xm
  have r2 := opA_rep hi.i xk
  have r3 := opA_rep hi.i xv
  rw [hm] at r1; rw [hk] at r2; rw [hv] at r3
  simp only [Rep] at r1 r2 r3
  have hmap : P.underlying t = some (.map kt et) := by
    obtain ⟨ti, hti, hk⟩ := Option.map_eq_some_iff.1 ht
    obtain ⟨k1, k2⟩ := known_spec hti
    exact und_map (hT.get k1 k2) hk
  have hrun : (Instr.mapUpdate t (.map (some b)) (.int .i64 k) (.string s)).run P w = .ok () { w with heap := w.heap.setIfInBounds b (.map (es.push ⟨.int .i64 k, .string s, cl⟩) (cl + 1)) } := by
    unfold Instr.mapUpdate
    simp only [Sem.run_bind, run_underlying hmap, Result.andThen_ok, MapKept.run_getObj_map hi.m, Sem.run_pure]
    have hc : (Instr.checkKey false 10000 kt (.int .i64 k)).run P w = .ok () w := by
      rw [show (10000 : Nat) = 9999 + 1 from rfl, Instr.checkKey]
      simp [run_und (kindOf_int hT hkt)]
    have hfk : (Instr.findKey kt (.int .i64 k) es.toList).run P w = .ok none w := by
      unfold Instr.findKey
      simp only [Sem.run_bind, run_und (kindOf_int hT hkt), Result.andThen_ok, hf, Sem.run_pure]
    rw [hc]
    simp only [Result.andThen_ok, hfk, Sem.run_bind, MapKept.run_setObj_map _ hi.m]
  have hr : (execOp a.eval o).run P w = .ok .skip { w with heap := w.heap.setIfInBounds b (.map (es.push ⟨.int .i64 k, .string s, cl⟩) (cl + 1)) } := by
    simp only [execOp, ho, r1, r2, r3, Sem.run_bind, hrun, Result.andThen_ok]
    rfl
  refine wpList_step fun Kn hK => ?_
  have hw : Region.wanted o (yielded ops a.tmps) = true := guard_spec hi.i hg
  rw [if_pos hw]
  unfold Oper.wp
  rw [hr]
  simp only [Oper.upon]
  rw [hd]
  exact hK _ _ (next K G a _ (hi.setm _ _))
end
end Go.Proofs.Ytafncdbkbmaifaa.Ab

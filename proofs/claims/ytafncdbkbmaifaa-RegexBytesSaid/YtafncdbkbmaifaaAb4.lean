/- The operations that look at memory or make some: rules of the walk. Condition: the table of types agrees with the program's. -/
import Derived.Test.YtafncdbkbmaifaaAb3
set_option linter.unusedVariables false
set_option linter.unusedSimpArgs false
namespace Go.Proofs.Ytafncdbkbmaifaa.Ab

def sliceOf (T : List TI) (t : Nat) : Option (Nat × TI) := match known T t with
  | some ⟨.slice e, _, _, _⟩ => match known T e with
    | some ei => some (e, ei)
    | none => none
  | _ => none
theorem sliceOf_spec {P : Program} {T : List TI} (hT : TOk P T) {t e : Nat} {ei : TI} (h : sliceOf T t = some (e, ei)) : P.underlying t = some (.slice e) ∧ TG P e ei ∧ ei.k ≠ .other := by
  unfold sliceOf at h
  split at h
  · rename_i e' _ _ _ hk
    obtain ⟨k1, k2⟩ := known_spec hk
    split at h
    · rename_i ei' hei
      obtain ⟨e1, e2⟩ := known_spec hei
      simp at h
      obtain ⟨rfl, rfl⟩ := h
      exact ⟨und_slice (hT.get k1 k2) rfl, hT.get e1 e2, e2⟩
    · simp at h
  · simp at h
def arrayOf (T : List TI) (t : Nat) : Option (Nat × Nat × TI) := match known T t with
  | some ⟨.array n e, _, _, _⟩ => match known T e with
    | some ei => some (n, e, ei)
    | none => none
  | _ => none
theorem arrayOf_spec {P : Program} {T : List TI} (hT : TOk P T) {t n e : Nat} {ei : TI} (h : arrayOf T t = some (n, e, ei)) : P.underlying t = some (.array n e) ∧ TG P e ei ∧ ei.k ≠ .other := by
  unfold arrayOf at h
  split at h
  · rename_i n' e' _ _ _ hk
    obtain ⟨k1, k2⟩ := known_spec hk
    split at h
    · rename_i ei' hei
      obtain ⟨e1, e2⟩ := known_spec hei
      simp at h
      obtain ⟨rfl, rfl, rfl⟩ := h
      exact ⟨und_array (hT.get k1 k2), hT.get e1 e2, e2⟩
    · simp at h
  · simp at h

section
variable {P : Program} {T : List TI} {N : Nat} {ops : Array Oper} {rest : List Oper} {o : Oper} {Q : Exit → St → Prop} {E : Env} {M : List Ob}

theorem aops_pure (hT : TOk P T) {x : A} (h : aval T E o.op = some x) (hg : guardOn ops o E = some true) (hd : dstOk N o.dst = true)
    (next : AOps P N ops rest Q ⟨put E o.dst x, M⟩) : AOps P N ops (o :: rest) Q ⟨E, M⟩ :=
  aops_val hg hd x M (fun K G a w hi => let ⟨v, h1, h2⟩ := aval_sound hT h hi; ⟨v, w, G, h1, hi.ok, G.le_refl, h2⟩) next

/-- The same, the value told otherwise. -/
theorem aops_as (hT : TOk P T) {x : A} (y : A) (h : aval T E o.op = some x) (hxy : x = y) (hg : guardOn ops o E = some true) (hd : dstOk N o.dst = true)
    (next : AOps P N ops rest Q ⟨put E o.dst y, M⟩) : AOps P N ops (o :: rest) Q ⟨E, M⟩ := by subst hxy; exact aops_pure hT h hg hd next

theorem run_newRow' (w : World) (e : TypeId) (c : Array Value) : (newRow e c).run P w = .ok ⟨w.heap.size, 0, none⟩ (w.alloc (.cells c e)) := rfl
/-! ### Boxes -/
theorem aops_box {e : Nat} {x : Operand} {y : A} (ho : o.op = .box e x) (hx : opA E x = y) (hc : cellsOk y = true) (hg : guardOn ops o E = some true) (hd : dstOk N o.dst = true)
    (next : AOps P N ops rest Q ⟨put E o.dst (.pp y.cs), M⟩) : AOps P N ops (o :: rest) Q ⟨E, M⟩ := by
  refine aops_val hg hd (.pp y.cs) M (fun K G a w hi => ?_) next
  have hr := opA_rep hi x
  rw [hx] at hr
  obtain ⟨hl, _⟩ := cs_rep hr hc
  obtain ⟨hz, hok⟩ := hi.ok.alloc_frozen (a.eval x).cells.toList e
  refine ⟨.pointer (some ⟨w.heap.size, 0, none⟩), _, _, ?_, hok, Gh.freeze_le hz, ⟨w.heap.size, 0, _, rfl, Gh.at_freeze G _ _, hl.mono (Gh.freeze_le hz) _ _⟩⟩
  simp only [execOp, ho, Instr.box, newVar, Sem.run_bind, run_newRow', Result.andThen_ok, Array.toArray_toList, List.append_nil]; rfl

theorem aops_box_own {e : Nat} {x : Operand} {y : A} (ho : o.op = .box e x) (hx : opA E x = y) (hc : cellsOk y = true) (hg : guardOn ops o E = some true) (hd : dstOk N o.dst = true)
    (next : ∀ b, AOps P N ops rest Q ⟨put E o.dst (.ref b 0), M ++ [⟨some b, y.cs.length, y.cs⟩]⟩) : AOps P N ops (o :: rest) Q ⟨E, M⟩ := by
  refine aops_rel hg hd (fun z L => ∃ b, z = .ref b 0 ∧ L = M ++ [⟨some b, y.cs.length, y.cs⟩]) (fun K G a w hi => ?_) (fun z L ⟨b, e1, e2⟩ => by subst e1; subst e2; exact next b)
  have hr := opA_rep hi x
  rw [hx] at hr
  obtain ⟨hl, _⟩ := cs_rep hr hc
  have hok := hi.ok.alloc_own y.cs (a.eval x).cells.toList [] e y.cs.length hl (by have := hl.length; simpa using this)
  refine ⟨.pointer (some ⟨w.heap.size, 0, none⟩), _, G, _, _, ?_, hok, G.le_refl, (show Rep G (.ref w.heap.size 0) _ from rfl), _, rfl, rfl⟩
  simp only [execOp, ho, Instr.box, newVar, Sem.run_bind, run_newRow', Result.andThen_ok, Array.toArray_toList, List.append_nil]; rfl

theorem aops_alloc_own (hT : TOk P T) {e : Nat} {i : TI} (ho : o.op = .alloc e) (hk : known T e = some i) (hg : guardOn ops o E = some true) (hd : dstOk N o.dst = true)
    (next : ∀ b, AOps P N ops rest Q ⟨put E o.dst (.ref b 0), M ++ [⟨some b, i.zero.length, i.zero.map ofZ⟩]⟩) : AOps P N ops (o :: rest) Q ⟨E, M⟩ := by
  refine aops_rel hg hd (fun z L => ∃ b, z = .ref b 0 ∧ L = M ++ [⟨some b, i.zero.length, i.zero.map ofZ⟩]) (fun K G a w hi => ?_) (fun z L ⟨b, e1, e2⟩ => by subst e1; subst e2; exact next b)
  obtain ⟨k1, k2⟩ := known_spec hk
  obtain ⟨z, hz, hzc⟩ := run_zero (w := w) (hT.get k1 k2)
  have hok := hi.ok.alloc_own (i.zero.map ofZ) z.cells.toList [] e i.zero.length (by rw [hzc]; exact ofZ_repL G _) (by rw [hzc]; simp)
  refine ⟨.pointer (some ⟨w.heap.size, 0, none⟩), _, G, _, _, ?_, hok, G.le_refl, (show Rep G (.ref w.heap.size 0) _ from rfl), _, rfl, rfl⟩
  simp only [execOp, ho, Instr.alloc, Sem.run_bind, hz, newVar, run_newRow', Result.andThen_ok, Array.toArray_toList, List.append_nil]; rfl

/-! ### Slice literals -/
def zerosA (z : List A) (n : Nat) : List A := (List.replicate n z).flatten
theorem zeros_cells {zero : Array Value} {n : Nat} (hn : n * zero.size ≠ 0) : ((Array.range (n * zero.size)).map (zero[· % zero.size]!)).toList = (List.replicate n zero.toList).flatten := by
  have hz : 0 < zero.size := Nat.pos_of_ne_zero (fun h => hn (by simp [h]))
  have key : ∀ n, (List.range (n * zero.size)).map (fun i => zero[i % zero.size]!) = (List.replicate n zero.toList).flatten := by
    intro n
    induction n with
    | zero => simp
    | succ n ih =>
      rw [Nat.succ_mul, List.range_add, List.map_append, ih, List.replicate_succ', List.flatten_append]
      congr 1
      simp only [List.flatten_cons, List.flatten_nil, List.append_nil, List.map_map]
      apply List.ext_getElem
      · simp
      · intro i h1 h2
        simp at h1
        simp [Nat.add_mod, Nat.mod_eq_of_lt h1, h1]
  simpa using key n

theorem repL_flatten {G : Gh} {z : List A} {vs : List Value} (h : RepL G z vs) : ∀ n, RepL G (zerosA z n) (List.replicate n vs).flatten
  | 0 => rfl
  | n + 1 => by simp only [zerosA, List.replicate_succ, List.flatten_cons]; exact h.append (repL_flatten h n)

theorem buildSlice_run (hT : TOk P T) {t len e : Nat} {ei : TI} {parts : Array (Nat × Operand)} {r : List A} {K : Ctx} {G : Gh} {a : Act} {w : World} (hs : sliceOf T t = some (e, ei)) (hsz : 0 < len * ei.size ∧ len * ei.size ≤ 16777216)
    (hz : ei.zero.length = ei.size) (hf : fillA (fun i => some (i * ei.size, ei.size)) (zerosA (ei.zero.map ofZ) len) (parts.toList.map fun (i, x) => (i, opA E x)) = some r) (hi : Inv K N G ⟨E, M⟩ a w) :
    ∃ us : Array Value, RepL G r us.toList ∧ (Instr.buildSlice t len (parts.map fun (i, x) => (i, a.eval x))).run P w = .ok (.slice (some ⟨w.heap.size, 0, none⟩) len len) (w.alloc (.cells us e)) := by
  obtain ⟨hu, hg, _⟩ := sliceOf_spec hT hs
  obtain ⟨hlen, hpq⟩ := parts_zip (parts := parts) hi
  obtain ⟨z, hz0, hzc⟩ := run_zero (w := w) hg
  have hzs : z.cells.size = ei.size := by rw [← hz, ← hzc]; simp
  have hcells : RepL G (zerosA (ei.zero.map ofZ) len) ((Array.range (len * ei.size)).map (z.cells[· % z.cells.size]!)).toList := by
    rw [← hzs, zeros_cells (by rw [hzs]; omega), hzc]
    exact repL_flatten (ofZ_repL G _) len
  obtain ⟨us, h1, h2⟩ := fill_run (G := G) _ _ _ _ _ hlen hpq hcells hf
  refine ⟨us, h2, ?_⟩
  have n1 : ¬ (len * ei.size > 2 ^ 24) := by omega
  have n2 : ¬ (len * ei.size = 0) := by omega
  simp only [Instr.buildSlice, Sem.run_bind, run_und hu, Result.andThen_ok, run_size hg, if_neg n1, if_neg n2, hz0, Sem.run_pure, h1]
  simp only [run_newRow', Result.andThen_ok]

theorem aops_lit (hT : TOk P T) {t len e : Nat} {ei : TI} {parts : Array (Nat × Operand)} {r : List A} (ho : o.op = .buildSlice t len parts) (hs : sliceOf T t = some (e, ei)) (hsz : (Nat.blt 0 (len * ei.size) && Nat.ble (len * ei.size) 16777216 && Nat.beq ei.zero.length ei.size) = true)
    (hf : fillA (fun i => some (i * ei.size, ei.size)) (zerosA (ei.zero.map ofZ) len) (parts.toList.map fun (i, x) => (i, opA E x)) = some r) (hg : guardOn ops o E = some true) (hd : dstOk N o.dst = true)
    (next : AOps P N ops rest Q ⟨put E o.dst (.psl len r), M⟩) : AOps P N ops (o :: rest) Q ⟨E, M⟩ := by
  refine aops_val hg hd (.psl len r) M (fun K G a w hi => ?_) next
  simp only [Bool.and_eq_true] at hsz
  have h1 : 0 < len * ei.size := by simpa using hsz.1.1
  obtain ⟨us, hl, hrun⟩ := buildSlice_run hT hs ⟨h1, Nat.le_of_ble_eq_true hsz.1.2⟩ (Nat.eq_of_beq_eq_true hsz.2) hf hi
  obtain ⟨hz, hok⟩ := hi.ok.alloc_frozen us.toList e
  rw [Array.toArray_toList] at hok
  refine ⟨_, _, _, ?_, hok, Gh.freeze_le hz, ⟨some ⟨w.heap.size, 0, none⟩, len, rfl, Nat.le_refl _, by simp, us.toList, hl.mono (Gh.freeze_le hz) _ _, .inr ⟨_, _, rfl, Gh.at_freeze G _ _⟩⟩⟩
  simp only [execOp, ho, Sem.run_bind, hrun, Result.andThen_ok]
  rfl

theorem aops_lit_own (hT : TOk P T) {t len e : Nat} {ei : TI} {parts : Array (Nat × Operand)} {r : List A} (ho : o.op = .buildSlice t len parts) (hs : sliceOf T t = some (e, ei)) (hsz : (Nat.blt 0 (len * ei.size) && Nat.ble (len * ei.size) 16777216 && Nat.beq ei.zero.length ei.size) = true)
    (hf : fillA (fun i => some (i * ei.size, ei.size)) (zerosA (ei.zero.map ofZ) len) (parts.toList.map fun (i, x) => (i, opA E x)) = some r) (hg : guardOn ops o E = some true) (hd : dstOk N o.dst = true)
    (next : ∀ b, AOps P N ops rest Q ⟨put E o.dst (.own (some b) len len), M ++ [⟨some b, r.length, r⟩]⟩) : AOps P N ops (o :: rest) Q ⟨E, M⟩ := by
  refine aops_rel hg hd (fun z L => ∃ b, z = .own (some b) len len ∧ L = M ++ [⟨some b, r.length, r⟩]) (fun K G a w hi => ?_) (fun z L ⟨b, e1, e2⟩ => by subst e1; subst e2; exact next b)
  simp only [Bool.and_eq_true] at hsz
  have h1 : 0 < len * ei.size := by simpa using hsz.1.1
  obtain ⟨us, hl, hrun⟩ := buildSlice_run hT hs ⟨h1, Nat.le_of_ble_eq_true hsz.1.2⟩ (Nat.eq_of_beq_eq_true hsz.2) hf hi
  have hok := hi.ok.alloc_own r us.toList [] e r.length hl (by simpa using hl.length)
  simp only [List.append_nil, Array.toArray_toList] at hok
  refine ⟨.slice (some ⟨w.heap.size, 0, none⟩) len len, _, G, .own (some w.heap.size) len len, _, ?_, hok, G.le_refl, ?_, _, rfl, rfl⟩
  · simp only [execOp, ho, Sem.run_bind, hrun, Result.andThen_ok]; rfl
  · rfl

/-! ### Objects: a load, a store -/
theorem aops_load_own (hT : TOk P T) {t : Nat} {x : Operand} {b off : Nat} {i : TI} {y : A} (k : Nat) {room : Nat} {cs : List A} (ho : o.op = .load t x) (hx : opA E x = .ref b off) (hk : known T t = some i)
    (hM : M[k]? = some ⟨some b, room, cs⟩) (hy : (bif i.k.isAgg then (bif Nat.ble (off + i.size) cs.length then some (A.agg ((cs.drop off).take i.size)) else none) else cs[off]?) = some y)
    (hg : guardOn ops o E = some true) (hd : dstOk N o.dst = true) (next : AOps P N ops rest Q ⟨put E o.dst y, M⟩) : AOps P N ops (o :: rest) Q ⟨E, M⟩ := by
  refine aops_val hg hd y M (fun K G a w hi => ?_) next
  obtain ⟨k1, k2⟩ := known_spec hk
  have hgt := hT.get k1 k2
  have hr := opA_rep hi x
  rw [hx] at hr
  simp only [Rep] at hr
  obtain ⟨vs, hl, hcell⟩ := hi.ok.ocell (List.mem_of_getElem? hM) rfl
  have step : (Instr.loadAt t (.pointer (some ⟨b, off, none⟩))).run P w = (loadVar t ⟨b, off, none⟩).run P w := by simp [Instr.loadAt, Instr.sureAddr]
  have hlen := hl.length
  simp only at hlen
  cases ha : i.k.isAgg with
  | true =>
    rw [ha, cond_true] at hy
    cases hb : Nat.ble (off + i.size) cs.length with
    | false => rw [hb] at hy; simp at hy
    | true =>
      rw [hb] at hy
      simp at hy
      subst hy
      have hle := Nat.le_of_ble_eq_true hb
      have hv := loadVar_run (P := P) (w := w) hgt (b := b) (off := off) (vs := (vs.drop off).take i.size) (by simp; omega) (fun j v hj => by
        have hlt := (List.getElem?_eq_some_iff.1 hj).1
        rw [List.getElem?_take_of_lt (by simp at hlt; omega), List.getElem?_drop] at hj
        exact hcell _ _ hj)
      rw [if_pos ha] at hv
      refine ⟨_, w, G, ?_, hi.ok, G.le_refl, ⟨_, rfl, (hl.drop off).take _⟩⟩
      simp only [execOp, ho, hr, Sem.run_bind, step, hv, Result.andThen_ok]
      rfl
  | false =>
    rw [ha, cond_false] at hy
    obtain ⟨v, hv, hrv⟩ := hl.at off hy
    have hc := hcell off v hv
    refine ⟨v, w, G, ?_, hi.ok, G.le_refl, hrv⟩
    simp [execOp, ho, hr, step, loadVar, run_isAgg hgt, ha, run_load, hc]

theorem setRow_facts (w : World) (b : Nat) (c : Array Value) : (w.setRow b c).os = w.os ∧ (w.setRow b c).tape = w.tape ∧ (w.setRow b c).output = w.output ∧ (w.setRow b c).heap.size = w.heap.size ∧ ∀ k, k ≠ b → (w.setRow b c).heap[k]? = w.heap[k]? := by
  refine ⟨rfl, rfl, rfl, by simp [World.setRow], fun k hk => ?_⟩
  simp only [World.setRow, Array.getElem?_modify]
  rw [if_neg (by omega)]

theorem aops_store (hT : TOk P T) {t : Nat} {p x : Operand} {b off : Nat} {i : TI} {y : A} (k : Nat) {room : Nat} {cs : List A} (ho : o.op = .store t p x) (hp : opA E p = .ref b off) (hx : opA E x = y) (hk : known T t = some i)
    (hM : M[k]? = some ⟨some b, room, cs⟩) (hy : (Nat.beq y.cs.length i.size && cellsOk y) = true) (hoff : off + i.size ≤ cs.length) (cs' : List A) (hcs : cs.take off ++ (y.cs ++ cs.drop (off + i.size)) = cs')
    (hg : guardOn ops o E = some true) (hd : dstOk N o.dst = true) (next : AOps P N ops rest Q ⟨put E o.dst .any, M.set k ⟨some b, room, cs'⟩⟩) : AOps P N ops (o :: rest) Q ⟨E, M⟩ := by
  refine aops_done hg hd _ (fun K G a w hi => ?_) next
  subst hcs
  obtain ⟨k1, k2⟩ := known_spec hk
  have hgt := hT.get k1 k2
  have hrp := opA_rep hi p
  rw [hp] at hrp
  simp only [Rep] at hrp
  have hrx := opA_rep hi x
  rw [hx] at hrx
  simp only [Bool.and_eq_true] at hy
  obtain ⟨hl, h1c⟩ := cs_rep hrx hy.2
  have hylen := Nat.eq_of_beq_eq_true hy.1
  have hvl := hl.length
  simp at hvl
  obtain ⟨vs, sp, t', hh, hlv, hroom⟩ := hi.ok.ow _ (List.mem_of_getElem? hM) b rfl
  have hlen := hlv.length
  simp only at hlen hlv hroom
  have hsize : (a.eval x).cells.size = i.size := by omega
  have hst := run_storeCells_at (P := P) b off t' (a.eval x).cells.toList 0 (vs ++ sp).toArray w hh (by simp; omega) h1c
  simp only [Nat.add_zero, Array.length_toList] at hst
  have e1 : ((vs ++ sp).toArray.toList.take off ++ (a.eval x).cells.toList ++ (vs ++ sp).toArray.toList.drop (off + (a.eval x).cells.size)).toArray = ((vs.take off ++ ((a.eval x).cells.toList ++ vs.drop (off + i.size))) ++ sp).toArray := by
    simp only [List.toList_toArray, hsize]
    rw [List.take_append_of_le_length (by omega), List.drop_append_of_le_length (by omega)]
    simp
  rw [e1] at hst
  refine ⟨w.setRow b _, G, ?_, hi.ok.update hM rfl _ (setRow_facts w b _) ⟨_, sp, t', setRow_heap w b _ _ t' _ hh, (hlv.take off).append (hl.append (hlv.drop _)), ?_⟩ (fun c t f e => by rw [hh] at e; cases e; exact ⟨_, _, setRow_heap w b _ _ t' _ hh⟩), G.le_refl⟩
  · simp only [execOp, ho, hrp, Instr.storeAt, Instr.sureAddr, storeVar, Sem.run_bind, Sem.run_pure, Result.andThen_ok, run_size hgt]
    rw [if_neg (by simp [hsize])]
    simp only [hst, Result.andThen_ok]
  · simp; omega


/-! ### An index, a slice of a slice -/
theorem index_run (hT : TOk P T) {t e : Nat} {ei : TI} (hs : sliceOf T t = some (e, ei)) {b off n cap : Nat} {k : IntKind} {i : Int} (h0 : 0 ≤ i) (h1 : i < n) (w : World) :
    (Instr.indexAt t (.slice (some ⟨b, off, none⟩) n cap) (.int k i)).run P w = .ok (.pointer (some ⟨b, off + i.toNat * ei.size, none⟩)) w := by
  obtain ⟨hu, hg, _⟩ := sliceOf_spec hT hs
  simp only [Instr.indexAt, asIntOf, Sem.run_bind, Sem.run_pure, Result.andThen_ok, run_und hu]
  rw [if_pos ⟨h0, h1⟩]
  simp only [Sem.run_bind, run_size hg, Result.andThen_ok, Sem.run_pure, addr_add]

theorem aops_index (hT : TOk P T) {t e : Nat} {ei : TI} {x ix : Operand} {n : Nat} {cs : List A} {k : IntKind} {i : Int} (pre : List A) (ho : o.op = .indexAddr t x ix) (hs : sliceOf T t = some (e, ei)) (hx : opA E x = .psl n cs) (hix : opA E ix = .int k i)
    (h0 : 0 ≤ i) (h1 : i < n) (hne : pre ≠ []) (hp : pre <+: cs.drop (i.toNat * ei.size)) (hg : guardOn ops o E = some true) (hd : dstOk N o.dst = true)
    (next : AOps P N ops rest Q ⟨put E o.dst (.pp pre), M⟩) : AOps P N ops (o :: rest) Q ⟨E, M⟩ := by
  refine aops_val hg hd _ M (fun K G a w hi => ?_) next
  have hr := opA_rep hi x
  rw [hx] at hr
  have hri := opA_rep hi ix
  rw [hix] at hri
  simp only [Rep] at hri
  obtain ⟨ad, cap, hv, hn, hnn, vs, hl, hz⟩ := hr
  rcases hz with rfl | ⟨b, off, rfl, hat⟩
  · simp at hp; exact absurd hp hne
  · refine ⟨.pointer (some ⟨b, off + i.toNat * ei.size, none⟩), w, G, ?_, hi.ok, G.le_refl, ?_⟩
    · simp only [execOp, ho, hv, hri, Sem.run_bind, index_run hT hs h0 h1, Result.andThen_ok]
      rfl
    · obtain ⟨u, hu⟩ := hp
      have hd := hl.drop (i.toNat * ei.size)
      rw [← hu] at hd
      obtain ⟨v1, v2, e1, r1, r2⟩ := hd.append_inv
      refine ⟨b, off + i.toNat * ei.size, v1, rfl, ?_, r1⟩
      obtain ⟨u', hu'⟩ := hat
      by_cases hle : i.toNat * ei.size ≤ vs.length
      · refine ⟨v2 ++ u', ?_⟩
        rw [← List.drop_drop, ← hu', List.drop_append_of_le_length hle, e1, List.append_assoc]
      · rw [List.drop_eq_nil_of_le (by omega)] at e1
        simp at e1
        rw [e1.1]
        exact List.nil_prefix

/-- The address of an element of one's own slice. -/
theorem aops_index_own (hT : TOk P T) {t e : Nat} {ei : TI} {x ix : Operand} {b n cap : Nat} {k : IntKind} {i : Int} (ho : o.op = .indexAddr t x ix) (hs : sliceOf T t = some (e, ei)) (hx : opA E x = .own (some b) n cap) (hix : opA E ix = .int k i)
    (h0 : 0 ≤ i) (h1 : i < n) (hg : guardOn ops o E = some true) (hd : dstOk N o.dst = true)
    (next : AOps P N ops rest Q ⟨put E o.dst (.ref b (i.toNat * ei.size)), M⟩) : AOps P N ops (o :: rest) Q ⟨E, M⟩ := by
  refine aops_val hg hd _ M (fun K G a w hi => ?_) next
  have hr := opA_rep hi x
  rw [hx] at hr
  have hri := opA_rep hi ix
  rw [hix] at hri
  simp only [Rep] at hri hr
  refine ⟨.pointer (some ⟨b, 0 + i.toNat * ei.size, none⟩), w, G, ?_, hi.ok, G.le_refl, ?_⟩
  · simp only [execOp, ho, hr, hri, Sem.run_bind, index_run hT hs h0 h1, Result.andThen_ok]
    rfl
  · simp [Rep]

/-- An index into an array at an address. -/
theorem aops_index_arr (hT : TOk P T) {t n e : Nat} {ei : TI} {x ix : Operand} {y : A} {k : IntKind} {i : Int} (ho : o.op = .indexAddr t x ix) (hs : arrayOf T t = some (n, e, ei)) (hix : opA E ix = .int k i)
    (h0 : 0 ≤ i) (h1 : i < n) (hy : (match opA E x with | .pp cs => some (A.pp (cs.drop (i.toNat * ei.size))) | .ref b off => some (.ref b (off + i.toNat * ei.size)) | _ => none) = some y) (hg : guardOn ops o E = some true) (hd : dstOk N o.dst = true)
    (next : AOps P N ops rest Q ⟨put E o.dst y, M⟩) : AOps P N ops (o :: rest) Q ⟨E, M⟩ := by
  refine aops_val hg hd _ M (fun K G a w hi => ?_) next
  have hr := opA_rep hi x
  have hri := opA_rep hi ix
  rw [hix] at hri
  simp only [Rep] at hri
  obtain ⟨hu, hgt, _⟩ := arrayOf_spec hT hs
  have run : ∀ b off, (Instr.indexAt t (.pointer (some ⟨b, off, none⟩)) (.int k i)).run P w = .ok (.pointer (some ⟨b, off + i.toNat * ei.size, none⟩)) w := by
    intro b off
    simp only [Instr.indexAt, asIntOf, Sem.run_bind, Sem.run_pure, Result.andThen_ok, run_und hu, Instr.sureAddr]
    rw [if_pos ⟨h0, h1⟩]
    simp only [Sem.run_bind, run_size hgt, Result.andThen_ok, Sem.run_pure, addr_add]
  split at hy
  · rename_i cs hc
    simp only [Option.some.injEq] at hy; subst hy
    rw [hc] at hr
    obtain ⟨b, off, vs, hv, hat, hl⟩ := hr
    refine ⟨.pointer (some ⟨b, off + i.toNat * ei.size, none⟩), w, G, ?_, hi.ok, G.le_refl, ⟨b, off + i.toNat * ei.size, vs.drop (i.toNat * ei.size), rfl, ?_, hl.drop _⟩⟩
    · simp only [execOp, ho, hv, hri, Sem.run_bind, run, Result.andThen_ok]
      rfl
    · obtain ⟨u, hu'⟩ := hat
      by_cases hle : i.toNat * ei.size ≤ vs.length
      · refine ⟨u, ?_⟩
        rw [← List.drop_drop, ← hu', List.drop_append_of_le_length hle]
      · rw [List.drop_eq_nil_of_le (by omega)]; exact List.nil_prefix
  · rename_i b off hc
    simp only [Option.some.injEq] at hy; subst hy
    rw [hc] at hr
    simp only [Rep] at hr
    refine ⟨.pointer (some ⟨b, off + i.toNat * ei.size, none⟩), w, G, ?_, hi.ok, G.le_refl, rfl⟩
    simp only [execOp, ho, hr, hri, Sem.run_bind, run, Result.andThen_ok]
    rfl
  · simp at hy

/-- An index into an array's value. -/
theorem aops_index_val (hT : TOk P T) {t n e : Nat} {ei : TI} {x ix : Operand} {y : A} {cs : List A} {k : IntKind} {i : Int} (ho : o.op = .index t x ix) (hs : arrayOf T t = some (n, e, ei)) (hx : opA E x = .agg cs) (hix : opA E ix = .int k i)
    (h0 : 0 ≤ i) (h1 : i < n) (hy : (bif ei.k.isAgg then some (.agg ((cs.drop (i.toNat * ei.size)).take ei.size)) else cs[i.toNat * ei.size]?) = some y) (hg : guardOn ops o E = some true) (hd : dstOk N o.dst = true)
    (next : AOps P N ops rest Q ⟨put E o.dst y, M⟩) : AOps P N ops (o :: rest) Q ⟨E, M⟩ := by
  refine aops_val hg hd _ M (fun K G a w hi => ?_) next
  have hr := opA_rep hi x
  rw [hx] at hr
  have hri := opA_rep hi ix
  rw [hix] at hri
  simp only [Rep] at hri
  obtain ⟨hu, hgt, _⟩ := arrayOf_spec hT hs
  obtain ⟨vs, hv, hl⟩ := hr
  obtain ⟨v, r1, r2⟩ := part_run (P := P) (w := w) hgt hl hy
  refine ⟨v, w, G, ?_, hi.ok, G.le_refl, r2⟩
  simp only [execOp, ho, hv, hri, Instr.index, asIntOf, Sem.run_bind, Sem.run_pure, Result.andThen_ok, run_und hu]
  rw [if_pos ⟨h0, h1⟩]
  simp only [Sem.run_bind, run_size hgt, Result.andThen_ok, r1]

/-- A byte of a string. -/
theorem aops_index_str (hT : TOk P T) {t : Nat} {x ix : Operand} {s : ByteArray} {k : IntKind} {i : Int} (ho : o.op = .index t x ix) (hs : (known T t).map (·.k) = some .string) (hx : opA E x = .str s) (hix : opA E ix = .int k i)
    (h0 : 0 ≤ i) (h1 : i.toNat < s.size) (hg : guardOn ops o E = some true) (hd : dstOk N o.dst = true)
    (next : AOps P N ops rest Q ⟨put E o.dst (.int .u8 ((s[i.toNat]'h1).toNat : Int)), M⟩) : AOps P N ops (o :: rest) Q ⟨E, M⟩ := by
  refine aops_val hg hd _ M (fun K G a w hi => ?_) next
  have hr := opA_rep hi x
  rw [hx] at hr
  have hri := opA_rep hi ix
  rw [hix] at hri
  simp only [Rep] at hri hr
  obtain ⟨ti, hti, hk⟩ := Option.map_eq_some_iff.1 hs
  obtain ⟨k1, k2⟩ := known_spec hti
  have hu := und_string (hT.get k1 k2) hk
  refine ⟨.int .u8 ((s[i.toNat]'h1).toNat : Int), w, G, ?_, hi.ok, G.le_refl, rfl⟩
  have hb : (if 0 ≤ i then s[i.toNat]? else none) = some (s[i.toNat]'h1) := by rw [if_pos h0]; simp [h1]
  simp only [execOp, ho, hr, hri, Instr.index, asIntOf, Sem.run_bind, Sem.run_pure, Result.andThen_ok, run_und hu, hb]

theorem bound_run {k : IntKind} {i : Int} {y : Nat} {c : BoundsCode} (h0 : 0 ≤ i) (h1 : i ≤ y) (w : World) : (Instr.sliceBound (.int k i) y c).run P w = .ok i.toNat w := by
  simp only [Instr.sliceBound, asIntOf, Sem.run_bind, Sem.run_pure, Result.andThen_ok]
  rw [if_pos ⟨h0, h1⟩]
  rfl

/-- x[lo:hi] of what is frozen. -/
def loOf (E : Env) : Option Operand → Option Int
  | none => some 0
  | some x => match opA E x with | .int _ i => some i | _ => none
def hiOf (E : Env) (n : Nat) : Option Operand → Option Int
  | none => some n
  | some x => match opA E x with | .int _ i => some i | _ => none
theorem lo_run {lo : Option Operand} {l : Int} {K : Ctx} {G : Gh} {a : Act} {w : World} (hi : Inv K N G ⟨E, M⟩ a w) (h : loOf E lo = some l) {y : Nat} (h0 : 0 ≤ l) (h1 : l ≤ y) {c : BoundsCode} :
    (match lo.map a.eval with | some v => Instr.sliceBound v y c | none => pure 0 : Sem Nat).run P w = .ok l.toNat w := by
  cases lo with
  | none => simp [loOf] at h; subst h; rfl
  | some x =>
    simp only [loOf] at h
    have hr := opA_rep hi x
    split at h
    · rename_i k i hx
      simp at h; subst h
      rw [hx] at hr; simp only [Rep] at hr
      simp only [Option.map_some, hr]
      exact bound_run h0 h1 w
    · simp at h
theorem hi_run {hi' : Option Operand} {n : Nat} {h' : Int} {K : Ctx} {G : Gh} {a : Act} {w : World} (hi : Inv K N G ⟨E, M⟩ a w) (h : hiOf E n hi' = some h') {y : Nat} (h0 : 0 ≤ h') (h1 : h' ≤ y) {c : BoundsCode} :
    (match hi'.map a.eval with | some v => Instr.sliceBound v y c | none => pure n : Sem Nat).run P w = .ok h'.toNat w := by
  cases hi' with
  | none => simp [hiOf] at h; subst h; simp
  | some x =>
    simp only [hiOf] at h
    have hr := opA_rep hi x
    split at h
    · rename_i k i hx
      simp at h; subst h
      rw [hx] at hr; simp only [Rep] at hr
      simp only [Option.map_some, hr]
      exact bound_run h0 h1 w
    · simp at h

theorem aops_slice (hT : TOk P T) {t e : Nat} {ei : TI} {x : Operand} {lo hi' : Option Operand} {n : Nat} {cs : List A} {l h' : Int} (ho : o.op = .slice t x lo hi' none) (hs : sliceOf T t = some (e, ei)) (hx : opA E x = .psl n cs)
    (hl : loOf E lo = some l) (hh : hiOf E n hi' = some h') (h0 : 0 ≤ l) (h1 : l ≤ h') (h2 : h' ≤ n) (n' : Nat) (cs' : List A) (hn' : n' = h'.toNat - l.toNat) (hcs : cs.length = n * ei.size) (hcs' : (cs.drop (l.toNat * ei.size)).take (n' * ei.size) = cs')
    (hg : guardOn ops o E = some true) (hd : dstOk N o.dst = true)
    (next : AOps P N ops rest Q ⟨put E o.dst (.psl n' cs'), M⟩) : AOps P N ops (o :: rest) Q ⟨E, M⟩ := by
  refine aops_val hg hd _ M (fun K G a w hi => ?_) next
  subst hcs'
  have hr := opA_rep hi x
  rw [hx] at hr
  obtain ⟨ad, cap, hv, hn, hnn, vs, hlv, hz⟩ := hr
  obtain ⟨hu, hgt, _⟩ := sliceOf_spec hT hs
  have hm : ∀ y, P.underlying t = some (.slice y) → True := fun _ _ => trivial
  refine ⟨.slice (if cap = l.toNat then ad else ad.map (·.add (l.toNat * ei.size))) (h'.toNat - l.toNat) (cap - l.toNat), w, G, ?_, hi.ok, G.le_refl, ?_⟩
  · have hb : (Instr.sliceBounds true n cap (lo.map a.eval) (hi'.map a.eval) none).run P w = .ok (l.toNat, h'.toNat, cap) w := by
      have e1 := hi_run (P := P) (w := w) hi hh (y := cap) (by omega) (by omega) (c := .sliceAcap)
      have e2 := lo_run (P := P) (w := w) hi hl (y := h'.toNat) h0 (by omega) (c := .sliceB)
      unfold Instr.sliceBounds
      cases lo <;> cases hi' <;> simp at e1 e2 <;> simp [e1, e2]
    simp only [execOp, ho, hv, Instr.sliceAt, Sem.run_bind, run_und hu, Result.andThen_ok, Instr.slice, Option.map_none, hb, run_size hgt, Sem.run_pure]
  · rw [← hn']
    refine ⟨_, _, rfl, by omega, ?_, (vs.drop (l.toNat * ei.size)).take (n' * ei.size), (hlv.drop _).take _, ?_⟩
    · intro hc
      rw [if_neg (by omega)]
      have := hnn (by omega)
      cases ad <;> simp_all
    · rcases hz with rfl | ⟨b, off, rfl, hat⟩
      · left; simp
      · by_cases hc : cap = l.toNat
        · left
          have : n' = 0 := by omega
          subst this; simp
        · right
          rw [if_neg hc]
          refine ⟨b, off + l.toNat * ei.size, by simp [addr_add], ?_⟩
          obtain ⟨u, hu'⟩ := hat
          have hlen := hlv.length
          refine List.IsPrefix.trans (List.take_prefix _ _) ?_
          by_cases hle : l.toNat * ei.size ≤ vs.length
          · refine ⟨u, ?_⟩
            rw [← List.drop_drop, ← hu', List.drop_append_of_le_length hle]
          · rw [List.drop_eq_nil_of_le (by omega)]; exact List.nil_prefix
end
end Go.Proofs.Ytafncdbkbmaifaa.Ab

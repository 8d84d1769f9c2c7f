/- More rules: objects in another order; append to one's own within a drawn region. No condition. -/
import Derived.Test.YtafncdbkbmaifaaAbR
import Derived.Test.YtafncdbkbmaifaaAbP
set_option linter.unusedVariables false
set_option linter.unusedSimpArgs false
namespace Go.Proofs.Ytafncdbkbmaifaa.Ab
section
variable {P : Program} {T : List TI} {N : Nat} {ops : Array Oper} {rest : List Oper} {o : Oper} {Q : Exit → St → Prop} {E F : Env} {M : List Ob}
theorem ok_perm {K : Ctx} {G : Gh} {w : World} {M' : List Ob} (hp : M.Perm M') (hok : Ok K G M w) : Ok K G M' w :=
  hok.sub (fun o ho => hp.mem_iff.2 ho) ((hp.filterMap _).nodup_iff.1 hok.nd)
theorem aops_perm {l : List Oper} (M' : List Ob) (hp : M.Perm M') (next : AOps P N ops l Q ⟨E, M'⟩) : AOps P N ops l Q ⟨E, M⟩ :=
  aops_weaken (st' := ⟨E, M'⟩) (fun K G _ w hi => ⟨G, ok_perm hp hi.ok, hi.sz, hi.df, hi.ev⟩) next
theorem acode_perm {c : Code} (M' : List Ob) (hp : M.Perm M') (next : ACode P N c Q ⟨E, M'⟩) : ACode P N c Q ⟨E, M⟩ :=
  acode_weaken (st' := ⟨E, M'⟩) (fun K G _ w hi => ⟨G, ok_perm hp hi.ok, hi.sz, hi.df, hi.ev⟩) next

def obZ (z : List Nat) : Option Nat := bif Nat.beq (z.headD 0) 0 then none else some (z.getD 1 0)
def capZ (z : List Nat) : Nat := z.getD 2 0
theorem z_of (ob : Option Nat) (cap : Nat) : ∃ z, obZ z = ob ∧ capZ z = cap := by
  cases ob with
  | none => exact ⟨[0, 0, cap], rfl, rfl⟩
  | some b => exact ⟨[1, b, cap], rfl, rfl⟩
/-- append to one's own, in a drawn region. -/
theorem seqO_app (hT : TOk P T) {kp : List Ob} {al : List Nat} {i : Nat} {ll : List Oper} {mm : Nat} {t e d : Nat} {ei : TI} {s x : Operand} {ob : Option Nat} {n cap room m : Nat} {cs ds : List A} (k : Nat) (hi : al.contains i = true) (ho : o.op = .call { callee := .builtin .append, args := #[s, x], argTypes := #[t, t] }) (hs : sliceOf T t = some (e, ei))
    (hsv : opA F s = .own ob n cap) (hx : opA F x = .psl m ds ∨ opA F x = .nils ∧ m = 0 ∧ ds = []) (hM : M[k]? = some ⟨ob, room, cs⟩) (hroom : room = cap * ei.size) (hcs : cs.length = n * ei.size) (hds : ds.length = m * ei.size) (hcell : ds.all A.isCell = true)
    (hz : (Nat.beq ei.zero.length ei.size && Nat.blt 0 ei.size) = true) (hbytes : (n + m) * ei.bytes ≤ 140737488355328) (hlen : n + m ≤ 140737488355328) (hkp : ∀ y, ∀ o ∈ kp, o ∈ M.set k y) (hg : guardOn ops o F = some true) (hd : o.dst = some d) (hN : Nat.blt d N = true)
    (next : ∀ ob' cap', SeqO P N ops Q kp al (i + 1) ((d, .own ob' (n + m) cap') :: F) (M.set k ⟨ob', cap' * ei.size, cs ++ ds⟩) mm ll) : SeqO P N ops Q kp al i F M (mm + 1) (o :: ll) := by
  refine SeqO.make (x := fun z => .own (obZ z) (n + m) (capZ z)) (M2 := fun z => M.set k ⟨obZ z, capZ z * ei.size, cs ++ ds⟩) hi (fun E hE rest Q next => ?_) (fun z o ho => hkp _ o ho) fun z => ?_
  · have e1 : ∀ y ∈ o.op.operands, opA E y = opA F y := fun y hy => agree_op hE hy
    have ex : opA E x = opA F x := e1 x (by rw [ho]; simp [Op.operands, Call.operands])
    refine aops_append hT k ho hs ((e1 s (by rw [ho]; simp [Op.operands, Call.operands])).trans hsv) (by rw [ex]; exact hx) hM hroom hcs hds hcell hz hbytes hlen ((agree_guard hE).trans hg) (by rw [hd]; exact hN) fun ob' cap' => ?_
    obtain ⟨z, rfl, rfl⟩ := z_of ob' cap'
    exact next z
  · rw [hd]; exact next _ _
theorem yields_mkf (hT : TOk P T) {t e : Nat} {ei : TI} {l c : Operand} {kl kc : IntKind} {x : Int} (n : Nat) (ho : o.op = .makeSlice t l c) (hs : sliceOf T t = some (e, ei)) (hl : opA F l = .int kl x) (hc : opA F c = .int kc x) (hx : x = n)
    (hz : (Nat.beq ei.zero.length ei.size && Nat.blt 0 ei.size) = true) (hb : n * ei.bytes ≤ 281474976710656) (hn : n ≤ 140737488355328) (hg : guardOn ops o F = some true) {d : Nat} (hd : o.dst = some d) (hN : Nat.blt d N = true) : Yields P N ops o (.psl n (zerosA (ei.zero.map ofZ) n)) F M := by
  intro E hE rest Q next
  rw [hd] at next
  exact aops_mkf hT n ho hs ((agree_op hE (by rw [ho]; simp [Op.operands])).trans hl) ((agree_op hE (by rw [ho]; simp [Op.operands])).trans hc) hx hz hb hn ((agree_guard hE).trans hg) hd hN next
theorem seqO_mkf (hT : TOk P T) {kp : List Ob} {al : List Nat} {i : Nat} {ll : List Oper} {m : Nat} {t e d : Nat} {ei : TI} {l c : Operand} {kl kc : IntKind} {x : Int} (n : Nat) (hi : al.contains i = false) (ho : o.op = .makeSlice t l c) (hs : sliceOf T t = some (e, ei)) (hl : opA F l = .int kl x) (hc : opA F c = .int kc x) (hx : x = n)
    (hz : (Nat.beq ei.zero.length ei.size && Nat.blt 0 ei.size) = true) (hb : n * ei.bytes ≤ 281474976710656) (hn : n ≤ 140737488355328) (hg : guardOn ops o F = some true) (hd : o.dst = some d) (hN : Nat.blt d N = true)
    (next : SeqO P N ops Q kp al (i + 1) ((d, .psl n (zerosA (ei.zero.map ofZ) n)) :: F) M m ll) : SeqO P N ops Q kp al i F M (m + 1) (o :: ll) :=
  seqO_y hi (fun M' => yields_mkf hT n ho hs hl hc hx hz hb hn hg hd hN) hd next
theorem seqO_lit (hT : TOk P T) {kp : List Ob} {al : List Nat} {i : Nat} {ll : List Oper} {m d : Nat} {t len e : Nat} {ei : TI} {parts : Array (Nat × Operand)} {r r' : List A} (hi : al.contains i = false) (ho : o.op = .buildSlice t len parts) (hs : sliceOf T t = some (e, ei)) (hsz : (Nat.blt 0 (len * ei.size) && Nat.ble (len * ei.size) 16777216 && Nat.beq ei.zero.length ei.size) = true)
    (hf : fillA (fun i => some (i * ei.size, ei.size)) (zerosA (ei.zero.map ofZ) len) (parts.toList.map fun (i, x) => (i, opA F x)) = some r) (hr : normL r = some r') (hg : guardOn ops o F = some true) (hd : o.dst = some d) (hN : Nat.blt d N = true)
    (next : SeqO P N ops Q kp al (i + 1) ((d, .psl len r') :: F) M m ll) : SeqO P N ops Q kp al i F M (m + 1) (o :: ll) := by
  rw [normL_eq] at hr; cases hr
  exact seqO_y hi (fun M' => yields_lit hT ho hs hsz hf hg (by rw [hd]; exact hN)) hd next
theorem seqT_litn (hT : TOk P T) {ll : List Oper} {m d : Nat} {t len e : Nat} {ei : TI} {parts : Array (Nat × Operand)} {r r' : List A} (ho : o.op = .buildSlice t len parts) (hs : sliceOf T t = some (e, ei)) (hsz : (Nat.blt 0 (len * ei.size) && Nat.ble (len * ei.size) 16777216 && Nat.beq ei.zero.length ei.size) = true)
    (hf : fillA (fun i => some (i * ei.size, ei.size)) (zerosA (ei.zero.map ofZ) len) (parts.toList.map fun (i, x) => (i, opA F x)) = some r) (hr : normL r = some r') (hg : guardOn ops o F = some true) (hd : o.dst = some d) (hN : Nat.blt d N = true)
    (next : SeqT P N ops Q M ((d, .psl len r') :: F) m ll) : SeqT P N ops Q M F (m + 1) (o :: ll) := by
  rw [normL_eq] at hr; cases hr
  exact seqT_y (yields_lit hT ho hs hsz hf hg (by rw [hd]; exact hN)) hd next
/-- Rows of cells, each told otherwise. -/
theorem VwL.map {M : List Ob} {α : Type} {f g : α → List A} : ∀ {l : List α}, (∀ x ∈ l, VwL M (f x) (g x)) → VwL M (encs f l) (encs g l)
  | [], _ => .nil
  | x :: l, h => by
    simp only [encs, List.flatMap_cons]
    exact (h x (by simp)).app (VwL.map fun y hy => h y (by simp [hy]))
theorem aops_swap1 {l : List Oper} {a b c : Ob} (next : AOps P N ops l Q ⟨E, a :: c :: b :: M⟩) : AOps P N ops l Q ⟨E, a :: b :: c :: M⟩ :=
  aops_weaken (st' := ⟨E, a :: c :: b :: M⟩) (fun K G _ w hi => ⟨G, ok_swap1 hi.ok, hi.sz, hi.df, hi.ev⟩) next
/-- One's own slice that is not empty has a block. -/
theorem aops_somed {l : List Oper} (t : Nat) {ob : Option Nat} {n cap : Nat} (h : get E t = .own ob n cap) (hn : 0 < n) (next : ∀ b, ob = some b → AOps P N ops l Q ⟨E, M⟩) : AOps P N ops l Q ⟨E, M⟩ := by
  intro K G a w hi
  cases ob with
  | some b => exact next b rfl K G a w hi
  | none =>
    have hr := hi.ev t
    simp only at hr
    rw [h] at hr
    obtain ⟨_, h0, _⟩ := hr
    omega
theorem acode_somed {c : Code} (t : Nat) {ob : Option Nat} {n cap : Nat} (h : get E t = .own ob n cap) (hn : 0 < n) (next : ∀ b, ob = some b → ACode P N c Q ⟨E, M⟩) : ACode P N c Q ⟨E, M⟩ := by
  intro K G a w hi
  cases ob with
  | some b => exact next b rfl K G a w hi
  | none =>
    have hr := hi.ev t
    simp only at hr
    rw [h] at hr
    obtain ⟨_, h0, _⟩ := hr
    omega
/-! ### rows of cells -/
theorem encs_get {α : Type} {e : α → List A} {s : Nat} (hs : ∀ x, (e x).length = s) : ∀ (l : List α) (i r : Nat) (x : α), l[i]? = some x → r < s → (encs e l)[i * s + r]? = (e x)[r]?
  | [], i, r, x, h, _ => by simp at h
  | y :: l, 0, r, x, h, hr => by
    simp at h; subst h
    simp only [encs, List.flatMap_cons, Nat.zero_mul, Nat.zero_add]
    rw [List.getElem?_append_left (by rw [hs]; exact hr)]
  | y :: l, i + 1, r, x, h, hr => by
    simp at h
    simp only [encs, List.flatMap_cons]
    rw [List.getElem?_append_right (by rw [hs, Nat.add_mul]; omega), hs, show (i + 1) * s + r - s = i * s + r from by rw [Nat.add_mul]; omega]
    exact encs_get hs l i r x h hr
theorem encs_map {α β : Type} (e : β → List A) (g : α → β) (l : List α) : encs e (l.map g) = encs (fun x => e (g x)) l := by simp [encs, List.flatMap_map]
/-- One cell of a row's item laid otherwise. -/
theorem encs_put {α : Type} {e e' : α → List A} {s : Nat} (hs : ∀ x, (e x).length = s) {r : Nat} {y : A} (hr : r < s) : ∀ (l : List α) (i : Nat) (x : α), l[i]? = some x → (∀ j z, j ≠ i → l[j]? = some z → e' z = e z) → e' x = (e x).set r y → (encs e l).take (i * s + r) ++ ([y] ++ (encs e l).drop (i * s + r + 1)) = encs e' l
  | [], i, x, h, _, _ => by simp at h
  | z :: l, 0, x, h, ho, hx => by
    simp at h; subst h
    have he : ∀ z' ∈ l, e' z' = e z' := fun z' hz => by
      obtain ⟨j, hj, rfl⟩ := List.getElem_of_mem hz
      exact ho (j + 1) _ (by omega) (by simp [hj])
    have e1 : encs e' l = encs e l := by
      simp only [encs]
      rw [List.flatMap_def, List.flatMap_def, List.map_congr_left he]
    simp only [encs, List.flatMap_cons, Nat.zero_mul, Nat.zero_add] at e1 ⊢
    rw [e1, hx, List.take_append_of_le_length (by rw [hs]; omega), List.drop_append_of_le_length (by rw [hs]; omega), List.set_eq_take_append_cons_drop, if_pos (by rw [hs]; exact hr)]
    simp
  | z :: l, i + 1, x, h, ho, hx => by
    simp at h
    have h1 := encs_put hs hr l i x h (fun j z' hj hz => ho (j + 1) z' (by omega) (by simpa using hz)) hx
    have h2 : e' z = e z := ho 0 z (by omega) rfl
    simp only [encs, List.flatMap_cons] at h1 ⊢
    rw [← h1, h2, show (i + 1) * s + r = s + (i * s + r) from by rw [Nat.add_mul]; omega]
    rw [List.take_append, List.take_of_length_le (by rw [hs]; omega), hs, Nat.add_sub_cancel_left, Nat.add_assoc, List.drop_append, List.drop_eq_nil_of_le (by rw [hs]; omega), hs, Nat.add_sub_cancel_left]
    simp
/-- A frozen literal, its cells told plainly. -/
theorem aops_litn (hT : TOk P T) {d : Nat} {t len e : Nat} {ei : TI} {parts : Array (Nat × Operand)} {r : List A} (ho : o.op = .buildSlice t len parts) (hs : sliceOf T t = some (e, ei)) (hsz : (Nat.blt 0 (len * ei.size) && Nat.ble (len * ei.size) 16777216 && Nat.beq ei.zero.length ei.size) = true)
    (hf : (fillA (fun i => some (i * ei.size, ei.size)) (zerosA (ei.zero.map ofZ) len) (parts.toList.map fun (i, x) => (i, opA E x))).bind normL = some r) (hg : guardOn ops o E = some true) (hd : o.dst = some d) (hN : Nat.blt d N = true)
    (next : AOps P N ops rest Q ⟨(d, .psl len r) :: E, M⟩) : AOps P N ops (o :: rest) Q ⟨E, M⟩ := by
  have hf' : fillA (fun i => some (i * ei.size, ei.size)) (zerosA (ei.zero.map ofZ) len) (parts.toList.map fun (i, x) => (i, opA E x)) = some r := by
    rw [Option.bind_eq_some_iff] at hf
    obtain ⟨r', h1, h2⟩ := hf
    rw [normL_eq] at h2
    cases h2; exact h1
  exact aops_litf hT ho hs hsz hf' hg hd hN next
end
end Go.Proofs.Ytafncdbkbmaifaa.Ab

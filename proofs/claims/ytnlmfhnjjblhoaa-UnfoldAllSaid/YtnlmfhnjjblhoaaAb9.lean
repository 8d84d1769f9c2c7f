/- Where ways meet again in one of many states; calls that change objects in drawn regions. No condition. -/
import Derived.Test.YtnlmfhnjjblhoaaAb8
import Derived.Test.YtnlmfhnjjblhoaaAbQ
set_option linter.unusedVariables false
set_option linter.unusedSimpArgs false
namespace Go.Proofs.Ytnlmfhnjjblhoaa.Ab
section
variable {P : Program} {T : List TI} {N : Nat} {ops : Array Oper} {rest : List Oper} {o : Oper} {Q : Exit → St → Prop} {E F : Env} {M : List Ob}
/-- Where ways meet again: one of a family of states. -/
theorem acode_joinI {ι : Type} {c y : Code} {Q2 : Exit → St → Prop} {st : St} (S : ι → Env) (L : ι → List Ob) (I : ι → Prop) (hx : ACode P N c (thenA (fun s => ∃ i, I i ∧ subE (S i) s.E ∧ s.M = L i) Q) st) (hy : ∀ i, I i → ACode P N y Q2 ⟨S i, L i⟩) : ACode P N c (thenA (ACode P N y Q2) Q) st := by
  refine hx.mono ?_
  rintro e ⟨E1, M1⟩ h
  cases e with
  | normal =>
    obtain ⟨i, h0, h1, h2⟩ := h
    simp only at h1 h2
    subst h2
    exact acode_sub (S i) h1 (hy i h0)
  | _ => exact h
/-- Numbers out of a natural one. -/
def decI (n : Nat) : Int := if n % 2 = 0 then ((n / 2 : Nat) : Int) else -(((n / 2 : Nat) : Int)) - 1
theorem decI_surj (i : Int) : ∃ n, decI n = i := by
  by_cases h : 0 ≤ i
  · refine ⟨2 * i.toNat, ?_⟩
    unfold decI
    rw [if_pos (by omega), Nat.mul_div_cancel_left _ (by decide)]
    omega
  · refine ⟨2 * (-i - 1).toNat + 1, ?_⟩
    unfold decI
    rw [if_neg (by omega)]
    omega
theorem decL_surj (l : List Int) : ∃ z : List Nat, z.map decI = l := by
  induction l with
  | nil => exact ⟨[], rfl⟩
  | cons i l ih =>
    obtain ⟨z, rfl⟩ := ih
    obtain ⟨n, rfl⟩ := decI_surj i
    exact ⟨n :: z, rfl⟩
/-- A row of numbers of which something holds, by a row of natural ones. -/
theorem decP (p : List Int → Prop) {l0 : List Int} (h0 : p l0) : ∃ d : List Nat → List Int, (∀ z, p (d z)) ∧ ∀ l, p l → ∃ z, d z = l := by
  classical
  refine ⟨fun z => if p (z.map decI) then z.map decI else l0, fun z => ?_, fun l hl => ?_⟩
  · show p (if _ then _ else _)
    split
    · assumption
    · exact h0
  · obtain ⟨z, rfl⟩ := decL_surj l
    exact ⟨z, if_pos hl⟩
/-- A call that changes objects, in a drawn region. -/
theorem seqO_callw {kp : List Ob} {al : List Nat} {i : Nat} {ll : List Oper} {n d : Nat} {g : Operand} {args : Array Operand} {tys : Array TypeId} {f : FuncId} {cap as : List A} {fn : Func} (x : List Nat → A) (M2 : List Nat → List Ob) (hi : al.contains i = true) (hf : P.funcs[f]? = some fn) (ho : o.op = .call { callee := .value g, args, argTypes := tys }) (hgv : opA F g = .fn f cap)
    (hfn : callable fn = true) (has : args.toList.map (opA F) ++ cap = as) (hc : ACalls P f as M (fun r M' => ∃ z, r = x z ∧ M' = M2 z)) (hkp : ∀ z, ∀ o ∈ kp, o ∈ M2 z) (hg : guardOn ops o F = some true) (hd : o.dst = some d) (hN : Nat.blt d N = true)
    (next : ∀ z, SeqO P N ops Q kp al (i + 1) ((d, x z) :: F) (M2 z) n ll) : SeqO P N ops Q kp al i F M (n + 1) (o :: ll) := by
  refine SeqO.make (x := x) (M2 := M2) hi (fun E hE rest Q next => ?_) hkp fun b => ?_
  · refine aops_call hf ho ((agree_op hE (by rw [ho]; simp [Op.operands, Call.operands])).trans hgv) hfn (by rw [map_congr_ops (E := E) (F := F) (fun y hy => agree_op hE (by rw [ho]; simp [Op.operands, Call.operands, hy]))]; exact has) hc ((agree_guard hE).trans hg) (by rw [hd]; exact hN) ?_
    rintro y M' ⟨z, rfl, rfl⟩
    exact next z
  · rw [hd]; exact next b
theorem yields_quo {t t' : Nat} {x y : Operand} {a b : Int} (ho : o.op = .binOp .quo t x y t') (hx : opA F x = .int .i64 a) (hy : opA F y = .int .i64 b) (ha : 0 ≤ a) (ha' : a ≤ 9223372036854775807) (hb : 0 < b) (hg : guardOn ops o F = some true) {d : Nat} (hd : o.dst = some d) (hN : Nat.blt d N = true) : Yields P N ops o (.int .i64 (a / b)) F M := by
  intro E hE rest Q next
  rw [hd] at next
  exact aops_quo ho ((agree_op hE (by rw [ho]; simp [Op.operands])).trans hx) ((agree_op hE (by rw [ho]; simp [Op.operands])).trans hy) ha ha' hb ((agree_guard hE).trans hg) hd hN next
theorem seqO_quo {kp : List Ob} {al : List Nat} {i : Nat} {ll : List Oper} {m : Nat} {d t t' : Nat} {x y : Operand} {a b : Int} (hi : al.contains i = false) (ho : o.op = .binOp .quo t x y t') (hx : opA F x = .int .i64 a) (hy : opA F y = .int .i64 b) (ha : 0 ≤ a) (ha' : a ≤ 9223372036854775807) (hb : 0 < b) (hg : guardOn ops o F = some true) (hd : o.dst = some d) (hN : Nat.blt d N = true)
    (next : SeqO P N ops Q kp al (i + 1) ((d, .int .i64 (a / b)) :: F) M m ll) : SeqO P N ops Q kp al i F M (m + 1) (o :: ll) :=
  seqO_y hi (fun M' => yields_quo ho hx hy ha ha' hb hg hd hN) hd next
/-- A nil argument, taken as one's own slice of nothing. -/
theorem acalls_nil0 {f : FuncId} {xs ys : List A} {R : A → List Ob → Prop} (h : ∀ (G : Gh) vs, RepL G xs vs → RepL G ys vs) (hc : ACalls P f ys (⟨none, 0, []⟩ :: M) R) : ACalls P f xs M R := by
  intro G w vs hok hl
  refine hc G w vs ?_ (h G vs hl)
  refine ⟨hok.g, hok.os, hok.tape, hok.output, hok.size, hok.fr, hok.fz, ?_, ?_, ?_, ?_, hok.nd, hok.mz⟩
  · intro o ho b hb
    rcases List.mem_cons.1 ho with rfl | ho
    · cases hb
    · exact hok.ow o ho b hb
  · intro o ho hb
    rcases List.mem_cons.1 ho with rfl | ho
    · exact ⟨rfl, rfl⟩
    · exact hok.vn o ho hb
  · intro o ho b hb
    rcases List.mem_cons.1 ho with rfl | ho
    · cases hb
    · exact hok.un o ho b hb
  · intro o ho b hb
    rcases List.mem_cons.1 ho with rfl | ho
    · cases hb
    · exact hok.kb o ho b hb
theorem rep_nils_own (G : Gh) {v : Value} (h : Rep G .nils v) : Rep G (.own none 0 0) v := by
  simp only [Rep] at h ⊢; exact ⟨h, trivial, trivial⟩
/-- A temporary's nil slices told as empty ones. -/
theorem aops_softt {l : List Oper} (t : Nat) {y : A} (h : soft (get E t) = y) (next : AOps P N ops l Q ⟨(t, y) :: E, M⟩) : AOps P N ops l Q ⟨E, M⟩ :=
  aops_weaken (st' := ⟨(t, y) :: E, M⟩) (fun K G a w hi => ⟨G, inv_E hi fun s v hv => by
    simp only [get]
    cases hb : Nat.beq t s with
    | true =>
      obtain rfl := Nat.eq_of_beq_eq_true hb
      rw [← h]; exact soft_rep _ _ hv
    | false => exact hv⟩) next
end
end Go.Proofs.Ytnlmfhnjjblhoaa.Ab

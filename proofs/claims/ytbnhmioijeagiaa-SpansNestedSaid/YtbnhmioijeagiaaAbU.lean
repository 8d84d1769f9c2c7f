/- Structs of numbers held against each other. No condition. -/
import Derived.Test.YtbnhmioijeagiaaAbT
import Derived.Laws.StructEq
set_option linter.unusedVariables false
set_option linter.unusedSimpArgs false
namespace Go.Proofs.Ytbnhmioijeagiaa.Ab
section
variable {P : Program} {T : List TI} {N : Nat} {ops : Array Oper} {rest : List Oper} {o : Oper} {Q : Exit → St → Prop} {E F : Env} {M : List Ob}
theorem ints_repL (G : Gh) : ∀ l : List Int, RepL G (ints l) (l.map (Value.int .i64))
  | [] => rfl
  | x :: l => ⟨_, _, rfl, rfl, ints_repL G l⟩
theorem ints_val {G : Gh} : ∀ {l : List Int} {vs : List Value}, RepL G (ints l) vs → vs = l.map (Value.int .i64)
  | [], _, h => h
  | x :: l, _, h => by
    obtain ⟨v, vs', rfl, h1, h2⟩ := h
    simp only [Rep] at h1
    rw [h1, ints_val h2]; rfl
theorem part_int {e : Nat} {ei : TI} (he : TG P e ei) (hk : ei.k = .int .i64) {l : List Int} {k : Nat} {x : Int} (h : l[k]? = some x) (w : World) : (part e (l.map (Value.int .i64)).toArray k).run P w = .ok (.int .i64 x) w := by
  obtain ⟨v, h1, h2⟩ := part_run (w := w) he (ints_repL ⟨fun _ => []⟩ l) (off := k) (r := .int .i64 x) (by rw [hk]; exact ints_get h)
  simp only [Rep] at h2
  rw [h1, h2]
theorem eqFields_ints {e : Nat} {ei : TI} (he : TG P e ei) (hk : ei.k = .int .i64) (xs ys : List Int) (d : Nat) (w : World) : ∀ (gs : List Field) (k : Nat), gs.map (fun f => (f.offset, f.type)) = (List.range' k gs.length).map (fun i => (i, e)) → (∀ f ∈ gs, f.name ≠ "_") → k + gs.length = xs.length → k + gs.length = ys.length →
    (Op.eqFields (d + 1) (xs.map (Value.int .i64)).toArray (ys.map (Value.int .i64)).toArray gs).run P w = .ok (xs.drop k == ys.drop k) w
  | [], k, _, _, hx, hy => by
    simp only [List.length_nil, Nat.add_zero] at hx hy
    simp only [Op.eqFields, Sem.run_pure]
    rw [List.drop_eq_nil_of_le (by omega), List.drop_eq_nil_of_le (by omega)]; rfl
  | f :: gs, k, hm, hn, hx, hy => by
    simp only [List.length_cons, List.range'_succ, List.map_cons, List.cons.injEq, Prod.mk.injEq] at hm hx hy
    obtain ⟨⟨ho, ht⟩, hm⟩ := hm
    have h1 : xs[k]? = some (xs[k]'(by omega)) := List.getElem?_eq_getElem (by omega)
    have h2 : ys[k]? = some (ys[k]'(by omega)) := List.getElem?_eq_getElem (by omega)
    have ih := eqFields_ints he hk xs ys d w gs (k + 1) hm (fun f hf => hn f (by simp [hf])) (by omega) (by omega)
    have hu := und_int he hk
    rw [List.drop_eq_getElem_cons (show k < xs.length by omega), List.drop_eq_getElem_cons (show k < ys.length by omega)]
    simp only [Op.eqFields, if_pos (hn f (by simp)), Sem.run_bind, ho, ht, part_int he hk h1, part_int he hk h2, Result.andThen_ok, run_equalIn_int w d e .i64 .i64 _ _ hu]
    rw [List.cons_beq_cons]
    cases hb : (xs[k]'(by omega) == ys[k]'(by omega)) with
    | true => simp only [Bool.not_true, Bool.false_eq_true, if_false, Bool.true_and]; exact ih
    | false => simp
def eqstB (P : Program) (t : Nat) : Bool := (P.fieldsOf t).all (fun f => f.name != "_") && !P.stoodInHeld t && !P.eqGuardType P.depth t
theorem aops_eqst (hT : TOk P T) {t t' d e : Nat} {x y : Operand} (l m : List Int) (ho : o.op = .binOp .eql t x y t') (ht : kindOf T t = some (.struct ((List.range' 0 l.length).map fun i => (i, e)))) (he : kindOf T e = some (.int .i64)) (hB : eqstB P t = true) (hx : opA E x = .agg (ints l)) (hy : opA E y = .agg (ints m)) (hlm : l.length = m.length) (hg : guardOn ops o E = some true) (hd : o.dst = some d) (hN : Nat.blt d N = true)
    (next : AOps P N ops rest Q ⟨(d, .bool (l == m)) :: E, M⟩) : AOps P N ops (o :: rest) Q ⟨E, M⟩ := by
  refine aops_val hg (by rw [hd]; exact hN) (.bool (l == m)) M (fun K G av w hi => ?_) (by rw [hd]; exact next)
  have hrx := opA_rep hi x
  have hry := opA_rep hi y
  rw [hx] at hrx; rw [hy] at hry
  obtain ⟨vx, ex, rx⟩ := hrx
  obtain ⟨vy, ey, ry⟩ := hry
  have e1 := ints_val rx
  have e2 := ints_val ry
  subst e1; subst e2
  simp only [eqstB, Bool.and_eq_true, Bool.not_eq_true'] at hB
  obtain ⟨⟨b1, b2⟩, b3⟩ := hB
  obtain ⟨ti, hti, hk⟩ := Option.map_eq_some_iff.1 ht
  obtain ⟨k1, k2⟩ := known_spec hti
  obtain ⟨tk, ts, tb, tz⟩ := ti
  simp only at hk
  subst hk
  obtain ⟨gs, hu, hgs⟩ := und_struct (hT.get k1 k2)
  have hfo : P.fieldsOf t = gs := by simp [Program.fieldsOf, hu]
  obtain ⟨ei, hei, hke⟩ := Option.map_eq_some_iff.1 he
  obtain ⟨k3, k4⟩ := known_spec hei
  have hlen : gs.toList.length = l.length := by have := congrArg List.length hgs; simpa using this
  have hF := eqFields_ints (hT.get k3 k4) hke l m 9998 w gs.toList 0 (by rw [hlen]; exact hgs) (fun f hf => by
    have := Array.all_eq_true_iff_forall_mem.1 b1 f (by rw [hfo]; exact Array.mem_toList_iff.1 hf)
    simpa using this) (by omega) (by omega)
  refine ⟨.bool (l == m), w, G, ?_, hi.ok, G.le_refl, rfl⟩
  have hq : (binOp .eql t (.agg (l.map (Value.int .i64)).toArray) (.agg (m.map (Value.int .i64)).toArray)).run P w = .ok (.bool (l == m)) w := by
    rw [run_eql_struct, run_equalIn_agg w 9999 t _ _ (by rw [hfo]; exact hu) b2, hfo, hF]
    rfl
  simp only [execOp, ho, ex, ey, Sem.run_bind, run_eqGuard_agg w .eql t x y _ _ b3, hq, Result.andThen_ok]
  rfl
end
end Go.Proofs.Ytbnhmioijeagiaa.Ab

/- Arrays of numbers held against themselves. No condition. -/
import Derived.Test.YtafncdbkbmaifaaRegQ
import Derived.Laws.StructEq
set_option linter.unusedVariables false
set_option linter.unusedSimpArgs false
namespace Go.Proofs.Ytafncdbkbmaifaa.Ab
section
variable {P : Program} {T : List TI} {N : Nat} {ops : Array Oper} {rest : List Oper} {o : Oper} {Q : Exit → St → Prop} {E F : Env} {M : List Ob}
theorem kints_val {k : IntKind} {G : Gh} : ∀ {l : List Int} {vs : List Value}, RepL G (l.map (A.int k)) vs → vs = l.map (Value.int k)
  | [], _, h => h
  | x :: l, _, h => by
    obtain ⟨v, vs', rfl, h1, h2⟩ := h
    simp only [Rep] at h1
    rw [h1, kints_val h2]; rfl
theorem run_equalIn_same (w : World) (d : Nat) (t e : TypeId) (n : Nat) (k : IntKind) (ht : P.underlying t = some (.array n e)) (he : P.underlying e = some (.int k)) (hsz : ∀ w, (sizeOf e).run P w = .ok 1 w) (xs : List Int) (hx : xs.length = n) :
    (Op.equalIn (d + 2) t (.agg (xs.map (Value.int k)).toArray) (.agg (xs.map (Value.int k)).toArray)).run P w = .ok true w := by
  rw [Op.equalIn]
  simp only [Sem.run_bind, run_underlying ht, Result.andThen_ok, hsz, Std.Legacy.Range.forIn_eq_forIn_range', Std.Legacy.Range.size, Nat.sub_zero, Nat.add_sub_cancel, Nat.div_one]
  have hl : ∀ i ∈ List.range' 0 n 1, i < n := fun i hi => by simpa using (List.mem_range'_1.1 hi).2
  generalize List.range' 0 n 1 = l at hl ⊢
  induction l with
  | nil => simp
  | cons i l ih =>
    have hi : i < n := hl i (by simp)
    have px : (part e (xs.map (Value.int k)).toArray (i * 1)).run P w = .ok (Value.int k (xs.getD i 0)) w := by
      simp [part, isAgg, run_underlying he, List.getD, List.getElem?_eq_getElem (show i < xs.length by omega)]
    have pe : (Op.equalIn (d + 1) e (Value.int k (xs.getD i 0)) (Value.int k (xs.getD i 0))).run P w = .ok true w := by
      rw [run_equalIn_int w d e k k _ _ he]
      simp
    simp only [List.forIn_cons, Sem.run_bind, px, pe, Result.andThen_ok, Bool.not_true, Bool.false_eq_true, if_false, Sem.run_pure]
    exact ih fun j hj => hl j (by simp [hj])
/-- An array of numbers is not other than itself. -/
theorem aops_nea (hT : TOk P T) {t t' d e n : Nat} {x y : Operand} {k : IntKind} (l : List Int) (ho : o.op = .binOp .neq t x y t') (ht : kindOf T t = some (.array n e)) (he : kindOf T e = some (.int k)) (hsz : (known T e).map (·.size) = some 1) (hB : P.eqGuardType P.depth t = false) (hx : opA E x = .agg (l.map (A.int k))) (hy : opA E y = .agg (l.map (A.int k))) (hl : l.length = n) (hg : guardOn ops o E = some true) (hd : o.dst = some d) (hN : Nat.blt d N = true)
    (next : AOps P N ops rest Q ⟨(d, .bool false) :: E, M⟩) : AOps P N ops (o :: rest) Q ⟨E, M⟩ := by
  refine aops_val hg (by rw [hd]; exact hN) (.bool false) M (fun K G av w hi => ?_) (by rw [hd]; exact next)
  have hrx := opA_rep hi x
  have hry := opA_rep hi y
  rw [hx] at hrx; rw [hy] at hry
  obtain ⟨vx, ex, rx⟩ := hrx
  obtain ⟨vy, ey, ry⟩ := hry
  have e1 := kints_val rx
  have e2 := kints_val ry
  subst e1; subst e2
  obtain ⟨ti, hti, hk⟩ := Option.map_eq_some_iff.1 ht
  obtain ⟨k1, k2⟩ := known_spec hti
  obtain ⟨tk, ts, tb, tz⟩ := ti
  simp only at hk
  subst hk
  have hu := und_array (hT.get k1 k2)
  obtain ⟨ei, hei, hke⟩ := Option.map_eq_some_iff.1 he
  obtain ⟨k3, k4⟩ := known_spec hei
  have hui := und_int (hT.get k3 k4) hke
  refine ⟨.bool false, w, G, ?_, hi.ok, G.le_refl, rfl⟩
  have hq : (binOp .neq t (.agg (l.map (Value.int k)).toArray) (.agg (l.map (Value.int k)).toArray)).run P w = .ok (.bool false) w := by
    rw [run_neq_struct, run_equalIn_same w 9998 t e n k hu hui (fun w => ?_) l hl]
    · rfl
    · have h1 := run_size (w := w) (hT.get k3 k4)
      rw [hei] at hsz
      rw [h1]
      simp only [Option.map_some, Option.some.injEq] at hsz
      rw [hsz]
  simp only [execOp, ho, ex, ey, Sem.run_bind, run_eqGuard_agg w .neq t x y _ _ hB, hq, Result.andThen_ok]
  rfl
end
end Go.Proofs.Ytafncdbkbmaifaa.Ab

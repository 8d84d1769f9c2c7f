/- Maps that say yes to rows of numbers: held against a row. No condition. -/
import Derived.Test.YtafncdbkbmaifaaAbV
import Derived.Test.YtafncdbkbmaifaaAbP
import Derived.Laws.StructEq
import Derived.WideKeyRuns
import Derived.MapKept
set_option linter.unusedVariables false
set_option linter.unusedSimpArgs false
namespace Go.Proofs.Ytafncdbkbmaifaa.Ab
section
variable {P : Program} {T : List TI} {N : Nat} {ops : Array Oper} {rest : List Oper} {o : Oper} {Q : Exit → St → Prop} {E F : Env} {M : List Ob}
theorem run_eqInts (w : World) (d : Nat) (t e : TypeId) (n : Nat) (k : IntKind) (ht : P.underlying t = some (.array n e)) (he : P.underlying e = some (.int k)) (hsz : ∀ w, (sizeOf e).run P w = .ok 1 w) (xs ys : List Int) (hx : xs.length = n) (hy : ys.length = n) :
    (Op.equalIn (d + 2) t (.agg (xs.map (Value.int k)).toArray) (.agg (ys.map (Value.int k)).toArray)).run P w = .ok (decide (xs = ys)) w := by
  have hd : decide (xs = ys) = decide (∀ i ∈ List.range' 0 n 1, xs.getD i 0 = ys.getD i 0) := by
    congr 1
    rw [eq_iff_iff]
    constructor
    · rintro rfl i _; rfl
    · intro h
      refine List.ext_getElem (by omega) fun i h1 h2 => ?_
      have := h i (by rw [List.mem_range'_1]; omega)
      simpa [List.getD, List.getElem?_eq_getElem h1, List.getElem?_eq_getElem h2] using this
  rw [hd, Op.equalIn]
  simp only [Sem.run_bind, run_underlying ht, Result.andThen_ok, hsz, Std.Legacy.Range.forIn_eq_forIn_range', Std.Legacy.Range.size, Nat.sub_zero, Nat.add_sub_cancel, Nat.div_one]
  have hl : ∀ i ∈ List.range' 0 n 1, i < n := fun i hi => by simpa using (List.mem_range'_1.1 hi).2
  generalize List.range' 0 n 1 = l at hl ⊢
  induction l with
  | nil => simp
  | cons i l ih =>
    have hi : i < n := hl i (by simp)
    have px : ∀ zs : List Int, zs.length = n → (part e (zs.map (Value.int k)).toArray (i * 1)).run P w = .ok (Value.int k (zs.getD i 0)) w := fun zs hz => by
      simp [part, isAgg, run_underlying he, List.getD, List.getElem?_eq_getElem (show i < zs.length by omega)]
    have pe : (Op.equalIn (d + 1) e (Value.int k (xs.getD i 0)) (Value.int k (ys.getD i 0))).run P w = .ok (decide (xs.getD i 0 = ys.getD i 0)) w := by
      rw [run_equalIn_int w d e k k _ _ he]
      simp
      rfl
    simp only [List.forIn_cons, Sem.run_bind, px xs hx, px ys hy, pe, Result.andThen_ok]
    by_cases h : xs.getD i 0 = ys.getD i 0
    · simp only [h, decide_true, Bool.not_true, Bool.false_eq_true, if_false, Sem.run_pure, List.mem_cons, forall_eq_or_imp, true_and]
      exact ih fun j hj => hl j (by simp [hj])
    · have : ¬ ∀ j ∈ i :: l, xs.getD j 0 = ys.getD j 0 := fun hh => h (hh i (by simp))
      simp only [h, decide_false, Bool.not_false, if_true, Sem.run_pure, Result.andThen_ok, this]
theorem run_checkInts (w : World) (em : Bool) (m : Nat) (t e : TypeId) (n : Nat) (k : IntKind) (ht : P.underlying t = some (.array n e)) (he : P.underlying e = some (.int k)) (hsz : ∀ w, (sizeOf e).run P w = .ok 1 w) (xs : List Int) (hx : xs.length = n) :
    (Instr.checkKey em (m + 2) t (.agg (xs.map (Value.int k)).toArray)).run P w = .ok () w := by
  rw [Instr.checkKey]
  simp only [Sem.run_bind, run_underlying ht, Result.andThen_ok, hsz, Std.Legacy.Range.forIn_eq_forIn_range', Std.Legacy.Range.size, Nat.sub_zero, Nat.add_sub_cancel, Nat.div_one]
  have hl : ∀ i ∈ List.range' 0 n 1, i < n := fun i hi => by simpa using (List.mem_range'_1.1 hi).2
  generalize List.range' 0 n 1 = l at hl ⊢
  induction l with
  | nil => simp
  | cons i l ih =>
    have hi : i < n := hl i (by simp)
    have px : (part e (xs.map (Value.int k)).toArray (i * 1)).run P w = .ok (Value.int k (xs.getD i 0)) w := by
      simp [part, isAgg, run_underlying he, List.getD, List.getElem?_eq_getElem (show i < xs.length by omega)]
    have pc : (Instr.checkKey em (m + 1) e (Value.int k (xs.getD i 0))).run P w = .ok () w := by
      simp [Instr.checkKey, run_underlying he]
    simp only [List.forIn_cons, Sem.run_bind, hsz, px, pc, Result.andThen_ok, Sem.run_pure] at ih ⊢
    exact ih fun j hj => hl j (by simp [hj])

theorem keyView_keyV (k : List Int) : keyView (keyV k) = some k := by
  simp only [keyView, keyV]
  induction k with
  | nil => rfl
  | cons x k ih =>
    simp only [List.map_cons, List.mapM_cons, intView]
    rw [ih]; rfl
theorem keyView_inv {v : Value} {k : List Int} (h : keyView v = some k) : v = keyV k := by
  cases v with
  | agg cs =>
    simp only [keyView] at h
    have : ∀ (l : List Value) (k : List Int), l.mapM intView = some k → l = k.map (Value.int .i64) := by
      intro l
      induction l with
      | nil => intro k hk; simp at hk; subst hk; rfl
      | cons v l ih =>
        intro k hk
        simp only [List.mapM_cons] at hk
        cases hv : intView v with
        | none => simp [hv] at hk
        | some x =>
          cases hl : l.mapM intView with
          | none => simp [hv, hl] at hk
          | some ks =>
            simp [hv, hl] at hk
            subst hk
            have : v = .int .i64 x := by
              unfold intView at hv
              split at hv
              · simp at hv; subst hv; rfl
              · cases hv
            rw [this, ih ks hl]; rfl
    have := this _ _ h
    unfold keyV
    rw [← this]
  | _ => simp [keyView] at h
structure KeyT (P : Program) (kt : Nat) (n : Nat) : Prop where
  e : ∃ e, P.underlying kt = some (.array n e) ∧ P.underlying e = some (.int .i64) ∧ ∀ w, (sizeOf e).run P w = .ok 1 w
theorem run_askInts (w : World) {kt n : Nat} (hk : KeyT P kt n) (k : List Int) (hl : k.length = n) : ∀ (es : List MapEntry) (ks : List (List Int)) (i : Nat), mapView es = some ks → (∀ x ∈ ks, x.length = n) →
    (k ∈ ks ∧ ∃ j e, (Instr.findAsking kt (keyV k) es i).run P w = .ok (some (i + j, .bool true)) w ∧ es[j]? = some e ∧ e.key = keyV k) ∨ (k ∉ ks ∧ (Instr.findAsking kt (keyV k) es i).run P w = .ok none w)
  | [], ks, i, h, _ => by
    simp only [mapView, Option.some.injEq] at h
    subst h
    exact .inr ⟨by simp, by simp [Instr.findAsking]⟩
  | e :: es, ks, i, h, hn => by
    obtain ⟨et, h1, h2, h3⟩ := hk.e
    simp only [mapView] at h
    split at h
    · rename_i k1 hv hb
      cases hm : mapView es with
      | none => simp [hm] at h
      | some ks' =>
        simp only [hm, Option.map_some, Option.some.injEq] at h
        subst h
        have ek := keyView_inv hv
        have eq : (Op.equal kt (keyV k) e.key).run P w = .ok (decide (k = k1)) w := by
          rw [ek]
          exact run_eqInts w 9998 kt et n .i64 h1 h2 h3 k k1 hl (hn k1 (by simp))
        by_cases hkk : k = k1
        · refine .inl ⟨by simp [hkk], 0, e, ?_, rfl, by rw [ek, hkk]⟩
          subst hkk
          simp [Instr.findAsking, eq, hb]
        · rcases run_askInts w hk k hl es ks' (i + 1) hm (fun x hx => hn x (by simp [hx])) with ⟨a1, j, e', a2, a3, a4⟩ | ⟨a1, a2⟩
          · exact .inl ⟨by simp [a1], j + 1, e', by simp [Instr.findAsking, eq, hkk, a2, Nat.add_assoc, Nat.add_comm 1 j], by simpa using a3, a4⟩
          · exact .inr ⟨by simp [hkk, a1], by simp [Instr.findAsking, eq, hkk, a2]⟩
    · cases h
theorem und_map {t k e : Nat} {i : TI} (h : TG P t i) (hk : i.k = .map k e) : P.underlying t = some (.map k e) := by
  obtain ⟨d, h1, h2⟩ := h.und
  rw [hk] at h2
  cases d <;> simp [tkOf] at h2
  rw [h1, h2.1, h2.2]
/-- What the table says of a map's type: from rows of n numbers to truth values. -/
def mapT (T : List TI) (t n : Nat) : Bool := match kindOf T t with
  | some (.map k e) => (match kindOf T k with
    | some (.array m x) => Nat.beq m n && (match known T x with | some ⟨.int .i64, 1, _, _⟩ => true | _ => false)
    | _ => false) && (match known T e with | some ⟨.bool, _, _, [.bool false]⟩ => true | _ => false)
  | _ => false
theorem mapT_spec (hT : TOk P T) {t n : Nat} (h : mapT T t n = true) : ∃ k e, P.underlying t = some (.map k e) ∧ KeyT P k n ∧ (∀ w, (zeroValue e).run P w = .ok (.bool false) w) ∧ ∃ x, P.underlying k = some (.array n x) := by
  unfold mapT at h
  split at h
  · rename_i k e hk
    rw [Bool.and_eq_true] at h
    obtain ⟨ha, hb⟩ := h
    split at ha
    · rename_i m x hkm
      rw [Bool.and_eq_true] at ha
      obtain ⟨h1, h2⟩ := ha
      obtain rfl := Nat.eq_of_beq_eq_true h1
      split at h2
      · rename_i bb zz hx
        split at hb
        · rename_i s1 b1 he
          obtain ⟨ti, hti, hkk⟩ := Option.map_eq_some_iff.1 hk
          obtain ⟨k1, k2⟩ := known_spec hti
          obtain ⟨tj, htj, hkj⟩ := Option.map_eq_some_iff.1 hkm
          obtain ⟨k3, k4⟩ := known_spec htj
          obtain ⟨k5, k6⟩ := known_spec hx
          obtain ⟨k7, k8⟩ := known_spec he
          have hu := und_map (hT.get k1 k2) hkk
          have ha : P.underlying k = some (.array m x) := by
            obtain ⟨d, d1, d2⟩ := (hT.get k3 k4).und
            rw [hkj] at d2
            cases d <;> simp [tkOf] at d2
            rw [d1, d2.1, d2.2]
          refine ⟨k, e, hu, ⟨x, ha, und_int (hT.get k5 k6) rfl, fun w => run_size (hT.get k5 k6)⟩, fun w => ?_, x, ha⟩
          obtain ⟨info, z, i1, i2, i3, i4, i5, i6, i7⟩ := (hT.get k7 k8).info
          obtain ⟨v, v1, v2⟩ := i7 rfl
          simp at v1
          subst v1; subst v2
          obtain ⟨z', z1, z2⟩ := run_zero (P := P) (w := w) (hT.get k7 k8)
          have : (zeroValue e).run P w = .ok (.bool false) w := by
            simp [zeroValue, run_info i1, i4]
          exact this
        · cases hb
      · cases h2
    · cases ha
  · cases h
theorem ints_value {G : Gh} : ∀ {l : List Int} {vs : List Value}, RepL G (ints l) vs → vs = l.map (Value.int .i64)
  | [], _, h => h
  | x :: l, _, h => by
    obtain ⟨v, vs', rfl, h1, h2⟩ := h
    simp only [Rep] at h1
    rw [h1, ints_value h2]; rfl
theorem look_run (hT : TOk P T) {t n : Nat} (ht : mapT T t n = true) {w : World} {b : Nat} {es : Array MapEntry} {c : Nat} (hb : w.heap[b]? = some (.map es c)) {ks : List (List Int)} (hv : mapView es.toList = some ks) (hn : ∀ x ∈ ks, x.length = n) (k : List Int) (hk : k.length = n) :
    (Instr.lookup t (.map (some b)) (keyV k) false).run P w = .ok (.bool (decide (k ∈ ks))) w := by
  obtain ⟨kt, et, h1, h2, h3, x, h4⟩ := mapT_spec hT ht
  obtain ⟨e, h5, h6, h7⟩ := id h2.e
  have hc := run_checkInts (P := P) w es.isEmpty 9998 kt e n .i64 h5 h6 h7 k hk
  have hf := run_findKey_eq (P := P) w (k := kt) (by rw [h4]) (keyV k) es.toList
  unfold Instr.lookup
  rcases run_askInts w h2 k hk es.toList ks 0 hv hn with ⟨a1, j, e', a2, a3, a4⟩ | ⟨a1, a2⟩
  · simp only [Sem.run_bind, run_underlying h1, Result.andThen_ok, MapKept.run_getObj_map hb, Sem.run_pure]
    rw [show (Instr.checkKey es.isEmpty 10000 kt (keyV k)).run P w = .ok () w from hc]
    simp only [Result.andThen_ok, hf, a2, Sem.run_pure, a1, decide_true]
    rfl
  · simp only [Sem.run_bind, run_underlying h1, Result.andThen_ok, MapKept.run_getObj_map hb, Sem.run_pure]
    rw [show (Instr.checkKey es.isEmpty 10000 kt (keyV k)).run P w = .ok () w from hc]
    simp only [Result.andThen_ok, hf, a2, Sem.run_pure, Sem.run_bind, h3, a1, decide_false]
    rfl
/-- A row of numbers held against a frozen map. -/
theorem aops_look (hT : TOk P T) {t n d : Nat} {x ix : Operand} {ks : List (List Int)} {k : List Int} (ho : o.op = .lookup t x ix false) (ht : mapT T t n = true) (hx : opA E x = .mp ks) (hix : opA E ix = .agg (ints k)) (hn : ∀ x ∈ ks, x.length = n) (hk : k.length = n)
    (hg : guardOn ops o E = some true) (hd : o.dst = some d) (hN : Nat.blt d N = true) (next : AOps P N ops rest Q ⟨(d, .bool (decide (k ∈ ks))) :: E, M⟩) : AOps P N ops (o :: rest) Q ⟨E, M⟩ := by
  refine aops_val hg (by rw [hd]; exact hN) (.bool (decide (k ∈ ks))) M (fun K G av w hi => ?_) (by rw [hd]; exact next)
  have hrx := opA_rep hi x
  have hry := opA_rep hi ix
  rw [hx] at hrx; rw [hix] at hry
  obtain ⟨b, ex, hy⟩ := hrx
  obtain ⟨vs, ey, hl⟩ := hry
  have e2 := ints_value hl
  subst e2
  obtain ⟨es, c, m1, m2⟩ := (hi.ok.mz b ks hy).1
  refine ⟨_, w, G, ?_, hi.ok, G.le_refl, rfl⟩
  have := look_run hT ht m1 m2 hn k hk
  simp only [execOp, ho, ex, ey, Sem.run_bind, show (Value.agg (List.map (Value.int IntKind.i64) k).toArray) = keyV k from rfl, this, Result.andThen_ok]
  rfl
theorem yields_look (hT : TOk P T) {t n : Nat} {x ix : Operand} {ks : List (List Int)} {k : List Int} (ho : o.op = .lookup t x ix false) (ht : mapT T t n = true) (hx : opA F x = .mp ks) (hix : opA F ix = .agg (ints k)) (hn : ∀ x ∈ ks, x.length = n) (hk : k.length = n)
    (hg : guardOn ops o F = some true) (hd : dstOk N o.dst = true) : Yields P N ops o (.bool (decide (k ∈ ks))) F M := by
  intro E hE rest Q next
  have hox : ∀ y ∈ o.op.operands, opA E y = opA F y := fun y hy => agree_op hE hy
  rw [ho] at hox
  have hx' : opA E x = .mp ks := by rw [hox x (by simp [Op.operands]), hx]
  have hix' : opA E ix = .agg (ints k) := by rw [hox ix (by simp [Op.operands]), hix]
  refine aops_val (by rw [agree_guard hE]; exact hg) hd (.bool (decide (k ∈ ks))) M (fun K G av w hi => ?_) next
  have hrx := opA_rep hi x
  have hry := opA_rep hi ix
  rw [hx'] at hrx; rw [hix'] at hry
  obtain ⟨b, ex, hy⟩ := hrx
  obtain ⟨vs, ey, hl⟩ := hry
  have e2 := ints_value hl
  subst e2
  obtain ⟨es, c, m1, m2⟩ := (hi.ok.mz b ks hy).1
  refine ⟨_, w, G, ?_, hi.ok, G.le_refl, rfl⟩
  have := look_run hT ht m1 m2 hn k hk
  simp only [execOp, ho, ex, ey, Sem.run_bind, show (Value.agg (List.map (Value.int IntKind.i64) k).toArray) = keyV k from rfl, this, Result.andThen_ok]
  rfl
end
end Go.Proofs.Ytafncdbkbmaifaa.Ab

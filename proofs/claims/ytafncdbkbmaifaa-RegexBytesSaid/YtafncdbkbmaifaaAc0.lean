/- Pointers to frozen variables whose block bears no mark: they are held against each other. No condition. -/
import Derived.Test.YtafncdbkbmaifaaAbV
import Derived.Test.YtafncdbkbmaifaaAbI
import Derived.LaidEqlPtr
set_option linter.unusedVariables false
set_option linter.unusedSimpArgs false
namespace Go.Proofs.Ytafncdbkbmaifaa.Ab
section
variable {P : Program} {T : List TI} {N : Nat} {ops : Array Oper} {rest : List Oper} {o : Oper} {Q : Exit → St → Prop} {E F : Env} {M : List Ob}
/-- A struct of one's own is frozen, and it is kept that its block bears no mark. -/
theorem inv_publish_cp {K : Ctx} {G : Gh} {a : Act} {w : World} (hi : Inv K N G ⟨E, M⟩ a w) {k t : Nat} {b room : Nat} {cs : List A} (h : get E t = .ref b 0) (hM : M[k]? = some ⟨some b, room, cs⟩) (hne : cs ≠ []) :
    ∃ G', Inv K N G' ⟨(t, .cp cs) :: E, M.eraseIdx k⟩ a w := by
  obtain ⟨G', hle, hok, hb, hn, hU⟩ := ok_publish hi.ok hM
  obtain ⟨vs, hl, hat, hlen⟩ := hb b rfl
  obtain ⟨us, sp, t', hh, _⟩ := hi.ok.ow _ (List.mem_of_getElem? hM) b rfl
  let G2 : Gh := ⟨G'.Z, G'.Y, fun j => j = b ∨ G'.U j, G'.W⟩
  have hle2 : G'.le G2 := ⟨fun _ => List.prefix_refl _, fun _ _ e => e, fun _ e => .inr e, fun _ _ e => e⟩
  have hzb : G'.Z b ≠ [] := by
    intro e
    obtain ⟨u, hu⟩ := hat
    rw [e] at hu
    simp at hu
    have := hl.length
    rw [hu.1] at this
    exact hne (List.eq_nil_of_length_eq_zero (by simpa using this.symm))
  refine ⟨G2, ⟨Gh.le_trans hok.g hle2, hok.os, hok.tape, hok.output, hok.size, hok.fr, hok.fz, fun o ho b' hb' => ?_, hok.vn, hok.un, hok.kb, hok.nd, hok.mz, fun j hj => ?_, hok.wt⟩, hi.sz, hi.df, fun s => ?_⟩
  · obtain ⟨us, sp, t, a1, a2, a3⟩ := hok.ow o ho b' hb'
    exact ⟨us, sp, t, a1, a2.mono hle2, a3⟩
  · rcases hj with rfl | hj
    · exact ⟨hzb, _, t', hh⟩
    · exact hok.um j hj
  · simp only [get]
    by_cases e : t = s
    · subst e
      have hev := hi.ev t
      simp only at hev
      rw [h] at hev
      simp only [Rep] at hev
      have : Nat.beq t t = true := by simp
      rw [this, cond_true]
      exact ⟨b, 0, vs, hev, hat, RepL.mono hle2 _ _ hl, .inl rfl⟩
    · have hb : Nat.beq t s = false := by
        cases hb : Nat.beq t s with
        | false => rfl
        | true => exact absurd (Nat.eq_of_beq_eq_true hb) e
      rw [hb]
      exact (hi.ev s).mono (Gh.le_trans hle hle2)
theorem acode_pubcp0 {c : Code} (t : Nat) {b room : Nat} {cs : List A} (h : get E t = .ref b 0) (hne : cs ≠ []) (next : ACode P N c Q ⟨(t, .cp cs) :: E, M⟩) : ACode P N c Q ⟨E, ⟨some b, room, cs⟩ :: M⟩ :=
  acode_weaken (fun K G a w hi => inv_publish_cp hi h (k := 0) rfl hne) next
theorem aops_pubcp0 {l : List Oper} (t : Nat) {b room : Nat} {cs : List A} (h : get E t = .ref b 0) (hne : cs ≠ []) (next : AOps P N ops l Q ⟨(t, .cp cs) :: E, M⟩) : AOps P N ops l Q ⟨E, ⟨some b, room, cs⟩ :: M⟩ :=
  aops_weaken (fun K G a w hi => inv_publish_cp hi h (k := 0) rfl hne) next
/-- The same cells may lie at both. -/
def SameC (xs ys : List A) : Prop := ∃ (G : Gh) (vs : List Value), RepL G xs vs ∧ RepL G ys vs
/-- Two such pointers are held against each other: where they are one, the same cells are told of. -/
theorem peq_run {K : Ctx} {G : Gh} {w : World} {t e : Nat} {ei : TypeInfo} {xs ys : List A} {u v : Value} (hok : Ok K G M w) (hu : P.underlying t = some (.pointer e)) (he : P.info? e = some ei) (hsz : ei.size ≠ 0) (hl : xs.length = ys.length) (hx : Rep G (.cp xs) u) (hy : Rep G (.cp ys) v) :
    ∃ b, (binOp .eql t u v).run P w = .ok (.bool b) w ∧ (b = true → SameC xs ys) := by
  simp only [Rep] at hx hy
  obtain ⟨b, off, vs, rfl, ha, h1, h2⟩ := hx
  obtain ⟨c, off', vs', rfl, ha', h1', h2'⟩ := hy
  by_cases hne : (⟨b, off, none⟩ : Addr) = ⟨c, off', none⟩
  · simp only [Addr.mk.injEq, and_true] at hne
    obtain ⟨rfl, rfl⟩ := hne
    refine ⟨true, run_eql_ptr_same w _ hu he, fun _ => ⟨G, vs, h1, ?_⟩⟩
    have : vs = vs' := by
      have e1 := h1.length
      have e2 := h1'.length
      exact List.IsPrefix.eq_of_length (List.prefix_of_prefix_length_le ha ha' (by omega)) (by omega)
    rw [this]; exact h1'
  · obtain ⟨_, c1, t1, e1⟩ := hok.um b h2
    obtain ⟨_, c2, t2, e2⟩ := hok.um c h2'
    exact ⟨false, run_eql_ptr_other w hu he hsz hne e1 e2, fun h => by cases h⟩
theorem aops_peq (hT : TOk P T) {t t' e d : Nat} {ei : TI} {x y : Operand} {xs ys : List A} (ho : o.op = .binOp .eql t x y t') (ht : kindOf T t = some (.ptr e)) (he : known T e = some ei) (hsz : Nat.blt 0 ei.size = true) (hx : opA E x = .cp xs) (hy : opA E y = .cp ys) (hl : xs.length = ys.length)
    (hg : guardOn ops o E = some true) (hd : o.dst = some d) (hN : Nat.blt d N = true) (next : ∀ b, (b = true → SameC xs ys) → AOps P N ops rest Q ⟨(d, .bool b) :: E, M⟩) : AOps P N ops (o :: rest) Q ⟨E, M⟩ := by
  refine aops_rel hg (by rw [hd]; exact hN) (fun y L => ∃ b, y = .bool b ∧ (b = true → SameC xs ys) ∧ L = M) (fun K G av w hi => ?_) ?_
  · have hrx := opA_rep hi x
    have hry := opA_rep hi y
    rw [hx] at hrx; rw [hy] at hry
    obtain ⟨k1, k2⟩ := known_spec he
    obtain ⟨info, z, hi1, hi2, _⟩ := (hT.get k1 k2).info
    have hsz : 0 < ei.size := by simpa using hsz
    obtain ⟨b, hrun, hb⟩ := peq_run hi.ok (kindOf_ptr hT ht) hi1 (by omega) hl hrx hry
    refine ⟨.bool b, w, G, .bool b, M, ?_, hi.ok, G.le_refl, rfl, b, rfl, hb, rfl⟩
    obtain ⟨b1, off, vs, e1, _⟩ := hrx
    rw [e1] at hrun
    simp only [execOp, ho, e1, Sem.run_bind, eqGuard_run (P := P) (w := w) (op := .eql) (t := t) (x := x) (y := y) (u := .pointer (some ⟨b1, off, none⟩)) (v := av.eval y) (.inr (.inr (.inr ⟨_, rfl⟩))), hrun, Result.andThen_ok]
    rfl
  · rintro y L ⟨b, rfl, hb, rfl⟩
    rw [hd]
    exact next b hb
end
end Go.Proofs.Ytafncdbkbmaifaa.Ab

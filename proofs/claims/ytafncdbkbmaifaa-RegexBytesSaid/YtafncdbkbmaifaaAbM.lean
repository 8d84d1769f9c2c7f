/- A slice of one's own that stands in a struct's value is frozen there; make of a frozen slice. No condition. -/
import Derived.Test.YtafncdbkbmaifaaAbL
set_option linter.unusedVariables false
set_option linter.unusedSimpArgs false
namespace Go.Proofs.Ytafncdbkbmaifaa.Ab
section
variable {P : Program} {T : List TI} {N : Nat} {ops : Array Oper} {rest : List Oper} {o : Oper} {Q : Exit → St → Prop} {E F : Env} {M : List Ob}

mutual
/-- The same, but that one's own slice of block b is told as frozen. -/
inductive Wk (b n cap : Nat) (cs : List A) : A → A → Prop where
  | refl (x : A) : Wk b n cap cs x x
  | own : Wk b n cap cs (.own (some b) n cap) (.psl n cs)
  | agg {xs ys : List A} (h : WkL b n cap cs xs ys) : Wk b n cap cs (.agg xs) (.agg ys)
inductive WkL (b n cap : Nat) (cs : List A) : List A → List A → Prop where
  | nil : WkL b n cap cs [] []
  | cons {x y : A} {xs ys : List A} (h : Wk b n cap cs x y) (t : WkL b n cap cs xs ys) : WkL b n cap cs (x :: xs) (y :: ys)
end
mutual
theorem wk_rep {G : Gh} {b n cap : Nat} {cs : List A} (hp : Rep G (.psl n cs) (.slice (some ⟨b, 0, none⟩) n cap)) : ∀ (x y : A) (v : Value), Wk b n cap cs x y → Rep G x v → Rep G y v
  | _, _, v, .refl x, h => h
  | _, _, v, .own, h => by
    simp only [Rep] at h
    rw [h]; exact hp
  | _, _, v, .agg hl, h => by
    obtain ⟨vs, e, hl'⟩ := h
    exact ⟨vs, e, wkL_rep hp _ _ vs hl hl'⟩
theorem wkL_rep {G : Gh} {b n cap : Nat} {cs : List A} (hp : Rep G (.psl n cs) (.slice (some ⟨b, 0, none⟩) n cap)) : ∀ (xs ys : List A) (vs : List Value), WkL b n cap cs xs ys → RepL G xs vs → RepL G ys vs
  | _, _, vs, .nil, h => h
  | _, _, vs, .cons h1 h2, h => by
    obtain ⟨v, vs', e, h3, h4⟩ := h
    exact ⟨v, vs', e, wk_rep hp _ _ v h1 h3, wkL_rep hp _ _ vs' h2 h4⟩
end
theorem inv_publish_wk {K : Ctx} {G : Gh} {a : Act} {w : World} (hi : Inv K N G ⟨E, M⟩ a w) {k t b n cap room sz : Nat} {cs : List A} {x y : A} (h : get E t = x) (hM : M[k]? = some ⟨some b, room, cs⟩) (hr : room = cap * sz) (hcs : cs.length = n * sz) (hsz : 0 < sz) (hw : Wk b n cap cs x y) :
    ∃ G', Inv K N G' ⟨(t, y) :: E, M.eraseIdx k⟩ a w := by
  obtain ⟨G', hle, hok, hb, hn, _⟩ := ok_publish hi.ok hM
  obtain ⟨vs, hl, hat, hle'⟩ := hb b rfl
  have hlen := hl.length
  have hp : Rep G' (.psl n cs) (.slice (some ⟨b, 0, none⟩) n cap) := ⟨_, cap, rfl, Nat.le_of_mul_le_mul_right (show n * sz ≤ cap * sz by omega) hsz, by simp, vs, hl, .inr ⟨b, 0, rfl, hat⟩⟩
  refine ⟨G', hok, hi.sz, hi.df, fun s => ?_⟩
  simp only [get]
  cases hb : Nat.beq t s with
  | true =>
    obtain rfl := Nat.eq_of_beq_eq_true hb
    rw [cond_true]
    have hev := (hi.ev t).mono hle
    simp only at hev
    rw [h] at hev
    exact wk_rep hp _ _ _ hw hev
  | false =>
    rw [cond_false]
    exact (hi.ev s).mono hle
theorem aops_pubwk {l : List Oper} (t k : Nat) {b n cap room : Nat} {cs : List A} {x : A} (y : A) (sz : Nat) (h : get E t = x) (hM : M[k]? = some ⟨some b, room, cs⟩) (hr : room = cap * sz) (hcs : cs.length = n * sz) (hsz : 0 < sz) (hw : Wk b n cap cs x y)
    (next : AOps P N ops l Q ⟨(t, y) :: E, M.eraseIdx k⟩) : AOps P N ops l Q ⟨E, M⟩ := aops_weaken (fun K G a w hi => inv_publish_wk hi h hM hr hcs hsz hw) next

/-- make([]T, n), frozen at once. -/
theorem aops_mkf (hT : TOk P T) {t e d : Nat} {ei : TI} {l c : Operand} {kl kc : IntKind} {x : Int} (n : Nat) (ho : o.op = .makeSlice t l c) (hs : sliceOf T t = some (e, ei)) (hl : opA E l = .int kl x) (hc : opA E c = .int kc x) (hx : x = n)
    (hz : (Nat.beq ei.zero.length ei.size && Nat.blt 0 ei.size) = true) (hb : n * ei.bytes ≤ 281474976710656) (hn : n ≤ 140737488355328) (hg : guardOn ops o E = some true) (hd : o.dst = some d) (hN : Nat.blt d N = true)
    (next : AOps P N ops rest Q ⟨(d, .psl n (zerosA (ei.zero.map ofZ) n)) :: E, M⟩) : AOps P N ops (o :: rest) Q ⟨E, M⟩ := by
  simp only [Bool.and_eq_true] at hz
  refine aops_mk hT n ho hs hl hc hx hz.1 hb hn hg hd hN fun b => ?_
  have hz1 := Nat.eq_of_beq_eq_true hz.1
  refine aops_pub0 (n := n) (cap := n) d ei.size (by simp [get]) rfl (by simp [zerosA, hz1]) hz.2 ?_
  refine aops_weaken (fun K G a w hi => ⟨G, inv_E hi fun s v hr => ?_⟩) next
  simp only [get] at hr ⊢
  cases hb : Nat.beq d s <;> rw [hb] at hr <;> exact hr
theorem seqT_mkf (hT : TOk P T) {ll : List Oper} {m : Nat} {t e d : Nat} {ei : TI} {l c : Operand} {kl kc : IntKind} {x : Int} (n : Nat) (ho : o.op = .makeSlice t l c) (hs : sliceOf T t = some (e, ei)) (hl : opA F l = .int kl x) (hc : opA F c = .int kc x) (hx : x = n)
    (hz : (Nat.beq ei.zero.length ei.size && Nat.blt 0 ei.size) = true) (hb : n * ei.bytes ≤ 281474976710656) (hn : n ≤ 140737488355328) (hg : guardOn ops o F = some true) (hd : o.dst = some d) (hN : Nat.blt d N = true)
    (next : SeqT P N ops Q M ((d, .psl n (zerosA (ei.zero.map ofZ) n)) :: F) m ll) : SeqT P N ops Q M F (m + 1) (o :: ll) := by
  refine seqT_y (fun E hE rest Q next => ?_) hd next
  rw [hd] at next
  exact aops_mkf hT n ho hs ((agree_op hE (by rw [ho]; simp [Op.operands])).trans hl) ((agree_op hE (by rw [ho]; simp [Op.operands])).trans hc) hx hz hb hn ((agree_guard hE).trans hg) hd hN next
/-! ### answers that are closed -/
theorem aops_pbt (hT : TOk P T) {p : Prop} [Decidable p] {d : Nat} (h : headed (aval T E o.op) = some (.bool (decide p))) (hp : p) (hg : guardOn ops o E = some true) (hd : o.dst = some d) (hN : Nat.blt d N = true) (next : AOps P N ops rest Q ⟨(d, .bool true) :: E, M⟩) : AOps P N ops (o :: rest) Q ⟨E, M⟩ :=
  aops_pd hT h hg hd hN (fun _ => next) (fun h => absurd hp h)
theorem aops_pbf (hT : TOk P T) {p : Prop} [Decidable p] {d : Nat} (h : headed (aval T E o.op) = some (.bool (decide p))) (hp : ¬ p) (hg : guardOn ops o E = some true) (hd : o.dst = some d) (hN : Nat.blt d N = true) (next : AOps P N ops rest Q ⟨(d, .bool false) :: E, M⟩) : AOps P N ops (o :: rest) Q ⟨E, M⟩ :=
  aops_pd hT h hg hd hN (fun h => absurd h hp) (fun _ => next)
theorem aops_pet (hT : TOk P T) {x y : Int} {d : Nat} (h : headed (aval T E o.op) = some (.bool (x == y))) (hp : x = y) (hg : guardOn ops o E = some true) (hd : o.dst = some d) (hN : Nat.blt d N = true) (next : AOps P N ops rest Q ⟨(d, .bool true) :: E, M⟩) : AOps P N ops (o :: rest) Q ⟨E, M⟩ :=
  aops_pe hT h hg hd hN (fun _ => next) (fun h => absurd hp h)
theorem aops_pef (hT : TOk P T) {x y : Int} {d : Nat} (h : headed (aval T E o.op) = some (.bool (x == y))) (hp : x ≠ y) (hg : guardOn ops o E = some true) (hd : o.dst = some d) (hN : Nat.blt d N = true) (next : AOps P N ops rest Q ⟨(d, .bool false) :: E, M⟩) : AOps P N ops (o :: rest) Q ⟨E, M⟩ :=
  aops_pe hT h hg hd hN (fun h => absurd h hp) (fun _ => next)
end
end Go.Proofs.Ytafncdbkbmaifaa.Ab

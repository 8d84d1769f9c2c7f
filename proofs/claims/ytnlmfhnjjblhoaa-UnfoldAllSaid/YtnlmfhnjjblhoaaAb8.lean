/- Objects of one's own frozen, and what others tell of them. No condition. -/
import Derived.Test.YtnlmfhnjjblhoaaAbV
set_option linter.unusedVariables false
set_option linter.unusedSimpArgs false
namespace Go.Proofs.Ytnlmfhnjjblhoaa.Ab
theorem perm3 {a b c : Ob} {M : List Ob} : (a :: b :: c :: M).Perm (c :: a :: b :: M) := List.perm_middle (l₁ := [a, b])
/-- The same objects, V's told as frozen ones in their cells. -/
inductive VwM (V : List Ob) : List Ob → List Ob → Prop where
  | nil : VwM V [] []
  | same {o : Ob} {M M' : List Ob} (t : VwM V M M') : VwM V (o :: M) (o :: M')
  | cons {b : Option Nat} {room : Nat} {cs ds : List A} {M M' : List Ob} (h : VwL V cs ds) (hn : b = none → ds = []) (t : VwM V M M') : VwM V (⟨b, room, cs⟩ :: M) (⟨b, room, ds⟩ :: M')
theorem VwM.rfl' {V : List Ob} : ∀ (M : List Ob), VwM V M M
  | [] => .nil
  | _ :: M => .same (VwM.rfl' M)
theorem VwM.mem {V : List Ob} : ∀ {M M' : List Ob}, VwM V M M' → ∀ o' ∈ M', ∃ o ∈ M, o.b = o'.b ∧ o.room = o'.room ∧ VwL V o.cs o'.cs ∧ (o.b = none → o'.cs = o.cs ∨ o'.cs = [])
  | _, _, .nil, o', h => by cases h
  | _, _, .same t, o', h => by
    cases h with
    | head => exact ⟨_, List.mem_cons_self .., rfl, rfl, VwL.rfl' _, fun _ => .inl rfl⟩
    | tail _ h => obtain ⟨o, a, b⟩ := t.mem o' h; exact ⟨o, List.mem_cons_of_mem _ a, b⟩
  | _, _, .cons hl hn t, o', h => by
    cases h with
    | head => exact ⟨_, List.mem_cons_self .., rfl, rfl, hl, fun e => .inr (hn e)⟩
    | tail _ h => obtain ⟨o, a, b⟩ := t.mem o' h; exact ⟨o, List.mem_cons_of_mem _ a, b⟩
theorem VwM.keys {V : List Ob} : ∀ {M M' : List Ob}, VwM V M M' → M'.filterMap (·.b) = M.filterMap (·.b)
  | _, _, .nil => rfl
  | _, _, .same t => by simp [List.filterMap_cons, t.keys]
  | _, _, .cons _ _ t => by simp [List.filterMap_cons, t.keys]
section
variable {P : Program} {T : List TI} {N : Nat} {ops : Array Oper} {rest : List Oper} {o : Oper} {Q : Exit → St → Prop} {E F : Env} {M : List Ob}
theorem inv_freezeVM {K : Ctx} {G : Gh} {a : Act} {w : World} {V M' : List Ob} {E' : Env} (hi : Inv K N G ⟨E, V ++ M⟩ a w) (hE : VwE V E E') (hMM : VwM V M M') : ∃ G', Inv K N G' ⟨E', M'⟩ a w := by
  classical
  have hok := hi.ok
  have hnd := hok.nd
  rw [List.filterMap_append, List.nodup_append] at hnd
  obtain ⟨ndV, ndM, dis⟩ := hnd
  let G1 : Gh := ⟨fun b => if b ∈ keys V then (G0 w).Z b else G.Z b, G.Y⟩
  have z1 : ∀ b, b ∈ keys V → G1.Z b = (G0 w).Z b := fun b h => if_pos h
  have z2 : ∀ b, b ∉ keys V → G1.Z b = G.Z b := fun b h => if_neg h
  have hle : G.le G1 := by
    refine ⟨fun b => ?_, fun b ks e => e⟩
    by_cases hb : b ∈ keys V
    · rw [z1 b hb]; exact (g_le_G0 hok).1 b
    · rw [z2 b hb]; exact List.prefix_refl _
  have hat : ∀ b room cs, (⟨some b, room, cs⟩ : Ob) ∈ V → ∃ vs, RepL G cs vs ∧ vs.length ≤ room ∧ At G1 b 0 vs := by
    intro b room cs hm
    obtain ⟨us, a1, a2, a3⟩ := own_at hok (List.mem_append_left _ hm)
    refine ⟨us, a1, a2, ?_⟩
    unfold At at a3 ⊢
    rw [z1 b (mem_keys.2 ⟨_, hm, rfl⟩)]; exact a3
  refine ⟨G1, ⟨Gh.le_trans hok.g hle, hok.os, hok.tape, hok.output, hok.size, hok.fr, fun b hb => ?_, fun o' ho' b hb => ?_, fun o' ho' hb => ?_, fun o' ho' b hb => ?_, fun o' ho' b hb => ?_, by rw [hMM.keys]; exact ndM, hok.mz⟩, hi.sz, hi.df, fun t => ?_⟩
  · by_cases hm : b ∈ keys V
    · rw [z1 b hm] at hb ⊢; exact (ok_init w).fz b hb
    · rw [z2 b hm] at hb ⊢; exact hok.fz b hb
  · obtain ⟨o, ho, e1, e2, e3, _⟩ := hMM.mem o' ho'
    obtain ⟨us, sp, t, a1, a2, a3⟩ := hok.ow o (List.mem_append_right _ ho) b (e1.trans hb)
    exact ⟨us, sp, t, a1, vwgL_rep hle hat _ _ _ e3 a2, by rw [← e2]; exact a3⟩
  · obtain ⟨o, ho, e1, e2, e3, e4⟩ := hMM.mem o' ho'
    obtain ⟨a1, a2⟩ := hok.vn o (List.mem_append_right _ ho) (e1.trans hb)
    refine ⟨?_, by rw [← e2]; exact a2⟩
    rcases e4 (e1.trans hb) with e | e
    · rw [e, a1]
    · exact e
  · obtain ⟨o, ho, e1, e2, e3, _⟩ := hMM.mem o' ho'
    have hn : b ∉ keys V := fun h => dis b h b (List.mem_filterMap.2 ⟨o, ho, e1.trans hb⟩) rfl
    rw [z2 b hn]; exact hok.un o (List.mem_append_right _ ho) b (e1.trans hb)
  · obtain ⟨o, ho, e1, e2, e3, _⟩ := hMM.mem o' ho'
    exact hok.kb o (List.mem_append_right _ ho) b (e1.trans hb)
  · rcases hE.get t with h | h
    · rw [h]; trivial
    · exact vwgL_rep hle hat [_] [_] [_] (.cons h .nil) ⟨_, _, rfl, hi.ev t, rfl⟩ |>.elim fun v ⟨vs, e, h1, h2⟩ => by
        simp only [List.cons.injEq] at e
        rw [e.1]; exact h1
/-- All the objects of V are frozen from now on, in the others' cells too. -/
theorem acode_freezeVM {c : Code} (V M' : List Ob) (E' : Env) (hE : VwE V E E') (hM : VwM V M M') (next : ACode P N c Q ⟨E', M'⟩) : ACode P N c Q ⟨E, V ++ M⟩ :=
  acode_weaken (fun K G a w hi => inv_freezeVM hi hE hM) next
theorem aops_freezeVM {l : List Oper} (V M' : List Ob) (E' : Env) (hE : VwE V E E') (hM : VwM V M M') (next : AOps P N ops l Q ⟨E', M'⟩) : AOps P N ops l Q ⟨E, V ++ M⟩ :=
  aops_weaken (fun K G a w hi => inv_freezeVM hi hE hM) next
theorem VwL.set {V : List Ob} : ∀ {xs : List A} (i : Nat) {x y : A}, xs[i]? = some x → Vw V x y → VwL V xs (xs.set i y)
  | [], i, x, y, h, _ => by simp at h
  | z :: xs, 0, x, y, h, hv => by simp at h; subst h; exact .cons hv (VwL.rfl' xs)
  | z :: xs, i + 1, x, y, h, hv => .cons (.refl z) (VwL.set i (by simpa using h) hv)
/-- Arguments told with less. -/
theorem acalls_arg {f : FuncId} {xs ys : List A} {R : A → List Ob → Prop} (hv : VwL [] xs ys) (hc : ACalls P f ys M R) : ACalls P f xs M R :=
  fun G w vs hok hl => hc G w vs hok (vwgL_rep G.le_refl (fun _ _ _ h => by cases h) _ _ _ hv hl)
/-- The answer told otherwise: nil slices as empty ones. -/
theorem acalls_res {f : FuncId} {xs : List A} {R R' : A → List Ob → Prop} (hc : ACalls P f xs M R) (hr : ∀ r M', R r M' → ∃ r', Vw [] r r' ∧ R' r' M') : ACalls P f xs M R' :=
  fun G w vs hok hl => (hc G w vs hok hl).mono fun e w' ⟨v, r, M', G', e1, e2, e3, e4⟩ => by
    obtain ⟨r', h1, h2⟩ := hr _ _ e4
    obtain ⟨v', vs', e5, h3, _⟩ := vwgL_rep G'.le_refl (fun _ _ _ h => by cases h) [r] [r'] [v] (.cons h1 .nil) ⟨v, [], rfl, e2, rfl⟩
    simp only [List.cons.injEq] at e5
    exact ⟨v, r', M', G', e1, e5.1 ▸ h3, e3, h2⟩
end
end Go.Proofs.Ytnlmfhnjjblhoaa.Ab

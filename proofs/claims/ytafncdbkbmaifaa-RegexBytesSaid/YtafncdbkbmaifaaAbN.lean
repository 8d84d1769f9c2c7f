/- A call of a function that speaks of frozen data, made with one's own: while it runs all that lies there is as good as frozen, for it changes nothing of it. No condition. -/
import Derived.Test.YtafncdbkbmaifaaAbF
import Derived.Test.YtafncdbkbmaifaaAbM
set_option linter.unusedVariables false
set_option linter.unusedSimpArgs false
namespace Go.Proofs.Ytafncdbkbmaifaa.Ab
mutual
/-- The same value, one's own objects (those of M) told as frozen ones. -/
inductive Vw (M : List Ob) : A → A → Prop where
  | refl (x : A) : Vw M x x
  | own {b n cap room sz : Nat} {cs ds : List A} (h : (⟨some b, room, cs⟩ : Ob) ∈ M) (hr : room = cap * sz) (hcs : cs.length = n * sz) (hsz : 0 < sz) (hl : VwL M cs ds) : Vw M (.own (some b) n cap) (.psl n ds)
  | none : Vw M (.own none 0 0) (.psl 0 [])
  | nils : Vw M .nils (.psl 0 [])
  | ref {b room : Nat} {cs ds : List A} (h : (⟨some b, room, cs⟩ : Ob) ∈ M) (hl : VwL M cs ds) : Vw M (.ref b 0) (.pp ds)
  | agg {xs ys : List A} (h : VwL M xs ys) : Vw M (.agg xs) (.agg ys)
  | refc {b room : Nat} {cs ds : List A} (h : (⟨some b, room, cs⟩ : Ob) ∈ M) (hne : cs ≠ []) (hl : VwL M cs ds) : Vw M (.ref b 0) (.cp ds)
  | soft {xs ys : List A} (h : VwL M xs ys) : Vw M (.cp xs) (.pp ys)
  | psl {n : Nat} {xs ys : List A} (h : VwL M xs ys) : Vw M (.psl n xs) (.psl n ys)
inductive VwL (M : List Ob) : List A → List A → Prop where
  | nil : VwL M [] []
  | cons {x y : A} {xs ys : List A} (h : Vw M x y) (t : VwL M xs ys) : VwL M (x :: xs) (y :: ys)
end
theorem VwL.rfl' {M : List Ob} : ∀ (xs : List A), VwL M xs xs
  | [] => .nil
  | x :: xs => .cons (.refl x) (VwL.rfl' xs)
theorem VwL.app {M : List Ob} : ∀ {xs ys us vs : List A}, VwL M xs ys → VwL M us vs → VwL M (xs ++ us) (ys ++ vs)
  | _, _, _, _, .nil, h => h
  | _, _, _, _, .cons h t, h' => .cons h (VwL.app t h')
theorem VwL.nil_of {M : List Ob} {ys : List A} (h : VwL M [] ys) : ys = [] := by cases h; rfl
theorem g_le_G0 {K : Ctx} {G : Gh} {M : List Ob} {w : World} (h : Ok K G M w) : G.le (G0 w) := by
  refine ⟨fun b => ?_, fun b ks e => ?_, fun b hu => ?_, fun b t e => ?_⟩
  · by_cases hz : G.Z b = []
    · rw [hz]; exact List.nil_prefix
    · obtain ⟨c, t, f, h1, h2⟩ := h.fz b hz
      simp only [G0, h1]
      exact h2
  · obtain ⟨es, c, h1, h2⟩ := (h.mz b ks e).1
    simp only [G0, h1]
    exact h2
  · obtain ⟨h1, c, t, h2⟩ := h.um b hu
    obtain ⟨c', t', f, h3, h4⟩ := h.fz b h1
    rw [h2] at h3
    cases h3
    refine ⟨c, t, h2, fun e => h1 ?_⟩
    rw [e] at h4
    exact List.prefix_nil.1 h4
  · obtain ⟨c, f, hh⟩ := h.wt b t e
    simp only [G0, hh]
section
variable {K : Ctx} {G : Gh} {M : List Ob} {w : World}
theorem own_at (hok : Ok K G M w) {b room : Nat} {cs : List A} (h : (⟨some b, room, cs⟩ : Ob) ∈ M) : ∃ vs, RepL G cs vs ∧ vs.length ≤ room ∧ At (G0 w) b 0 vs ∧ (cs ≠ [] → (G0 w).U b) := by
  obtain ⟨vs, sp, t, h1, h2, h3⟩ := hok.ow _ h b rfl
  refine ⟨vs, h2, by simp only at h3; omega, ?_, fun hne => ⟨_, t, h1, fun e => hne ?_⟩⟩
  rotate_left
  · have hvs : vs = [] := by
      have : vs ++ sp = [] := e
      exact (List.append_eq_nil_iff.1 this).1
    have := h2.length
    rw [hvs] at this
    exact List.eq_nil_of_length_eq_zero (by simpa using this.symm)
  simp only [At, G0, h1, List.drop_zero]
  exact List.prefix_append _ _
mutual
theorem vw_rep (hok : Ok K G M w) : ∀ (x y : A) (v : Value), Vw M x y → Rep G x v → Rep (G0 w) y v
  | _, _, v, .refl x, h => h.mono (g_le_G0 hok) x v
  | _, _, v, .own hm hr hcs hsz hl, h => by
    simp only [Rep] at h
    obtain ⟨vs, h2, h3, h4, h5⟩ := own_at hok hm
    have hlen := h2.length
    refine ⟨_, _, h, Nat.le_of_mul_le_mul_right (a := _) (b := _) ?_ hsz, by simp, vs, vwL_rep hok _ _ vs hl h2, .inr ⟨_, 0, rfl, h4⟩⟩
    omega
  | _, _, v, .none, h => by
    obtain ⟨rfl, _, _⟩ := h
    exact ⟨Option.none, 0, rfl, Nat.le_refl _, by simp, [], rfl, .inl rfl⟩
  | _, _, v, .nils, h => nils_psl h
  | _, _, v, .ref hm hl, h => by
    simp only [Rep] at h
    obtain ⟨vs, h2, h3, h4, h5⟩ := own_at hok hm
    exact ⟨_, 0, vs, h, h4, vwL_rep hok _ _ vs hl h2⟩
  | _, _, v, .refc hm hne hl, h => by
    simp only [Rep] at h
    obtain ⟨vs, h2, h3, h4, h5⟩ := own_at hok hm
    exact ⟨_, 0, vs, h, h4, vwL_rep hok _ _ vs hl h2, h5 hne⟩
  | _, _, v, .soft hl, h => by
    simp only [Rep] at h
    obtain ⟨b, off, vs, e, ha, h2, _⟩ := h
    exact ⟨b, off, vs, e, ha.mono (g_le_G0 hok), vwL_rep hok _ _ vs hl h2⟩
  | _, _, v, .agg hl, h => by
    obtain ⟨vs, e, hl'⟩ := h
    exact ⟨vs, e, vwL_rep hok _ _ vs hl hl'⟩
  | _, _, v, .psl hl, h => by
    obtain ⟨a, cap, e, hn, h0, vs, hl', hz⟩ := h
    refine ⟨a, cap, e, hn, h0, vs, vwL_rep hok _ _ vs hl hl', ?_⟩
    rcases hz with rfl | ⟨b, off, e1, hat⟩
    · exact .inl hl.nil_of
    · exact .inr ⟨b, off, e1, hat.mono (g_le_G0 hok)⟩
theorem vwL_rep (hok : Ok K G M w) : ∀ (xs ys : List A) (vs : List Value), VwL M xs ys → RepL G xs vs → RepL (G0 w) ys vs
  | _, _, vs, .nil, h => h
  | _, _, vs, .cons h1 h2, h => by
    obtain ⟨v, vs', e, h3, h4⟩ := h
    exact ⟨v, vs', e, vw_rep hok _ _ v h1 h3, vwL_rep hok _ _ vs' h2 h4⟩
end
end
mutual
/-- A value that holds no place. -/
def plainA : A → Bool
  | .bool _ | .int _ _ | .str _ | .nils | .nilp | .nilf => true
  | .agg cs => plainL cs
  | .tup cs => plainL cs
  | _ => false
def plainL : List A → Bool
  | [] => true
  | x :: xs => plainA x && plainL xs
end
mutual
theorem plain_rep {G G' : Gh} : ∀ (x : A) (v : Value), plainA x = true → Rep G x v → Rep G' x v
  | .bool _, v, _, h | .int _ _, v, _, h | .str _, v, _, h | .nils, v, _, h | .nilp, v, _, h | .nilf, v, _, h => h
  | .agg cs, v, hp, h => by
    obtain ⟨vs, e, hl⟩ := h
    exact ⟨vs, e, plainL_rep cs vs (by simpa only [plainA] using hp) hl⟩
  | .tup cs, v, hp, h => by
    obtain ⟨vs, e, hl⟩ := h
    exact ⟨vs, e, plainL_rep cs vs (by simpa only [plainA] using hp) hl⟩
  | .any, _, hp, _ | .pp _, _, hp, _ | .cp _, _, hp, _ | .tref _ _, _, hp, _ | .town _ _ _ _, _, hp, _ | .ref _ _, _, hp, _ | .psl _ _, _, hp, _ | .own _ _ _, _, hp, _ | .fn _ _, _, hp, _ | .mp _, _, hp, _ | .mr _, _, hp, _ => by simp [plainA] at hp
theorem plainL_rep {G G' : Gh} : ∀ (xs : List A) (vs : List Value), plainL xs = true → RepL G xs vs → RepL G' xs vs
  | [], vs, _, h => h
  | x :: xs, vs, hp, h => by
    simp only [plainL, Bool.and_eq_true] at hp
    obtain ⟨v, vs', e, h1, h2⟩ := h
    exact ⟨v, vs', e, plain_rep x v hp.1 h1, plainL_rep xs vs' hp.2 h2⟩
end
/-- All that lay there lies there still: so what was told of it holds. -/
theorem Ok.still {K : Ctx} {G G' : Gh} {M M' : List Ob} {w w' : World} {g0 : Gh} (h : Ok K G M w) (h' : Ok ⟨w, [], g0⟩ G' M' w') : Ok K G M w' := by
  have hh : ∀ k, k < w.heap.size → w'.heap[k]? = w.heap[k]? := fun k hk => h'.fr k hk (by simp)
  refine ⟨h.g, h'.os.trans h.os, h'.tape.trans h.tape, h'.output.trans h.output, Nat.le_trans h.size h'.size, fun k hk hn => ?_, fun b hb => ?_, fun o ho b hb => ?_, h.vn, h.un, h.kb, h.nd, fun b ks e => ?_, fun b hu => ?_, fun b t e => ?_⟩
  · rw [hh k (Nat.lt_of_lt_of_le hk h.size)]; exact h.fr k hk hn
  · rw [hh b (h.zlt hb)]; exact h.fz b hb
  · rw [hh b (h.lt ho hb)]; exact h.ow o ho b hb
  · rw [hh b (h.ylt e)]; exact h.mz b ks e
  · rw [hh b (h.zlt (h.um b hu).1)]; exact h.um b hu
  · rw [hh b (h.wlt e)]; exact h.wt b t e
/-- A contract of frozen data, kept for one's own: what it answers holds no place. -/
theorem acalls_view {P : Program} {f : FuncId} {as bs : List A} {M : List Ob} {x : A} (hv : VwL M as bs) (hc : ACalls P f bs [] (fun r M' => r = x ∧ M' = [])) (hx : plainA x = true) : ACalls P f as M (fun r M' => r = x ∧ M' = M) := by
  intro G w vs hok hl
  refine (hc (G0 w) w vs (ok_init w) (vwL_rep hok _ _ _ hv hl)).mono ?_
  rintro e w' ⟨v, r, M', G', rfl, hr, ho, rfl, rfl⟩
  exact ⟨v, r, M, G, rfl, plain_rep _ _ hx hr, hok.still ho, rfl, rfl⟩
/-- The same for any plain answer. -/
theorem acalls_viewR {P : Program} {f : FuncId} {as bs : List A} {M : List Ob} {R : A → Prop} (hv : VwL M as bs) (hc : ACalls P f bs [] (fun r _ => R r)) (hx : ∀ x, R x → plainA x = true) : ACalls P f as M (fun r M' => R r ∧ M' = M) := by
  intro G w vs hok hl
  refine (hc (G0 w) w vs (ok_init w) (vwL_rep hok _ _ _ hv hl)).mono ?_
  rintro e w' ⟨v, r, M', G', rfl, hr, ho, hR⟩
  exact ⟨v, r, M, G, rfl, plain_rep _ _ (hx r hR) hr, hok.still ho, hR, rfl⟩
end Go.Proofs.Ytafncdbkbmaifaa.Ab

/- Calls that change some of one's own while all the rest is as good as frozen; much frozen at once. No condition. -/
import Derived.Test.YtafncdbkbmaifaaAbN
import Derived.Test.YtafncdbkbmaifaaAbT
set_option linter.unusedVariables false
set_option linter.unusedSimpArgs false
namespace Go.Proofs.Ytafncdbkbmaifaa.Ab
section
variable {G G2 : Gh} {V : List Ob}
mutual
theorem vwg_rep (hle : G.le G2) (hat : ∀ b room cs, (⟨some b, room, cs⟩ : Ob) ∈ V → ∃ vs, RepL G cs vs ∧ vs.length ≤ room ∧ At G2 b 0 vs ∧ (cs ≠ [] → G2.U b)) : ∀ (x y : A) (v : Value), Vw V x y → Rep G x v → Rep G2 y v
  | _, _, v, .refl x, h => h.mono hle x v
  | _, _, v, .own hm hr hcs hsz hl, h => by
    simp only [Rep] at h
    obtain ⟨vs, h2, h3, h4, h5⟩ := hat _ _ _ hm
    have hlen := h2.length
    refine ⟨_, _, h, Nat.le_of_mul_le_mul_right (a := _) (b := _) ?_ hsz, by simp, vs, vwgL_rep hle hat _ _ vs hl h2, .inr ⟨_, 0, rfl, h4⟩⟩
    omega
  | _, _, v, .none, h => by
    obtain ⟨rfl, _, _⟩ := h
    exact ⟨Option.none, 0, rfl, Nat.le_refl _, by simp, [], rfl, .inl rfl⟩
  | _, _, v, .nils, h => nils_psl h
  | _, _, v, .ref hm hl, h => by
    simp only [Rep] at h
    obtain ⟨vs, h2, h3, h4, h5⟩ := hat _ _ _ hm
    exact ⟨_, 0, vs, h, h4, vwgL_rep hle hat _ _ vs hl h2⟩
  | _, _, v, .refc hm hne hl, h => by
    simp only [Rep] at h
    obtain ⟨vs, h2, h3, h4, h5⟩ := hat _ _ _ hm
    exact ⟨_, 0, vs, h, h4, vwgL_rep hle hat _ _ vs hl h2, h5 hne⟩
  | _, _, v, .soft hl, h => by
    simp only [Rep] at h
    obtain ⟨b, off, vs, e, ha, h2, _⟩ := h
    exact ⟨b, off, vs, e, ha.mono hle, vwgL_rep hle hat _ _ vs hl h2⟩
  | _, _, v, .agg hl, h => by
    obtain ⟨vs, e, hl'⟩ := h
    exact ⟨vs, e, vwgL_rep hle hat _ _ vs hl hl'⟩
  | _, _, v, .psl hl, h => by
    obtain ⟨a, cap, e, hn, h0, vs, hl', hz⟩ := h
    refine ⟨a, cap, e, hn, h0, vs, vwgL_rep hle hat _ _ vs hl hl', ?_⟩
    rcases hz with rfl | ⟨b, off, e1, hat'⟩
    · exact .inl hl.nil_of
    · exact .inr ⟨b, off, e1, hat'.mono hle⟩
theorem vwgL_rep (hle : G.le G2) (hat : ∀ b room cs, (⟨some b, room, cs⟩ : Ob) ∈ V → ∃ vs, RepL G cs vs ∧ vs.length ≤ room ∧ At G2 b 0 vs ∧ (cs ≠ [] → G2.U b)) : ∀ (xs ys : List A) (vs : List Value), VwL V xs ys → RepL G xs vs → RepL G2 ys vs
  | _, _, vs, .nil, h => h
  | _, _, vs, .cons h1 h2, h => by
    obtain ⟨v, vs', e, h3, h4⟩ := h
    exact ⟨v, vs', e, vwg_rep hle hat _ _ v h1 h3, vwgL_rep hle hat _ _ vs' h2 h4⟩
end
end
mutual
/-- A value that tells of nothing frozen. -/
def looseA : A → Bool
  | .any | .bool _ | .int _ _ | .str _ | .nils | .nilp | .nilf | .ref _ _ | .own _ _ _ | .mr _ => true
  | .agg cs => looseL cs
  | .tup cs => looseL cs
  | _ => false
def looseL : List A → Bool
  | [] => true
  | x :: xs => looseA x && looseL xs
end
mutual
theorem loose_rep {G G' : Gh} : ∀ (x : A) (v : Value), looseA x = true → Rep G x v → Rep G' x v
  | .any, v, _, h | .bool _, v, _, h | .int _ _, v, _, h | .str _, v, _, h | .nils, v, _, h | .nilp, v, _, h | .nilf, v, _, h | .ref _ _, v, _, h | .mr _, v, _, h => h
  | .own none _ _, v, _, h | .own (some _) _ _, v, _, h => h
  | .agg cs, v, hp, h => by
    obtain ⟨vs, e, hl⟩ := h
    exact ⟨vs, e, looseL_rep cs vs (by simpa only [looseA] using hp) hl⟩
  | .tup cs, v, hp, h => by
    obtain ⟨vs, e, hl⟩ := h
    exact ⟨vs, e, looseL_rep cs vs (by simpa only [looseA] using hp) hl⟩
  | .pp _, _, hp, _ | .cp _, _, hp, _ | .tref _ _, _, hp, _ | .town _ _ _ _, _, hp, _ | .psl _ _, _, hp, _ | .fn _ _, _, hp, _ | .mp _, _, hp, _ => by simp [looseA] at hp
theorem looseL_rep {G G' : Gh} : ∀ (xs : List A) (vs : List Value), looseL xs = true → RepL G xs vs → RepL G' xs vs
  | [], vs, _, h => h
  | x :: xs, vs, hp, h => by
    simp only [looseL, Bool.and_eq_true] at hp
    obtain ⟨v, vs', e, h1, h2⟩ := h
    exact ⟨v, vs', e, loose_rep x v hp.1 h1, looseL_rep xs vs' hp.2 h2⟩
end
theorem mem_keys {M : List Ob} {b : Nat} : b ∈ keys M ↔ ∃ o ∈ M, o.b = some b := List.mem_filterMap
theorem keys_app (M N : List Ob) : keys (M ++ N) = keys M ++ keys N := List.filterMap_append ..
/-- A call that changes W alone, V as good as frozen. -/
theorem acalls_part {P : Program} {f : FuncId} {as bs : List A} {V W : List Ob} {R : A → List Ob → Prop} (hv : VwL V as bs) (hc : ACalls P f bs W R) (hx : ∀ x M', R x M' → looseA x = true ∧ ∀ o ∈ M', looseL o.cs = true) :
    ACalls P f as (W ++ V) (fun r M' => ∃ M1, R r M1 ∧ M' = M1 ++ V) := by
  classical
  intro G w vs hok hl
  have hnd := hok.nd
  rw [List.filterMap_append, List.nodup_append] at hnd
  obtain ⟨ndW, ndV, dis⟩ := hnd
  let G1 : Gh := ⟨fun b => if b ∈ keys W then [] else (G0 w).Z b, (G0 w).Y, fun b => b ∉ keys W ∧ (G0 w).U b, (G0 w).W⟩
  have z1 : ∀ b, b ∈ keys W → G1.Z b = [] := fun b h => if_pos h
  have z2 : ∀ b, b ∉ keys W → G1.Z b = (G0 w).Z b := fun b h => if_neg h
  have hle : G.le G1 := by
    refine ⟨fun b => ?_, (g_le_G0 hok).2.1, fun b hu => ⟨fun hb => ?_, (g_le_G0 hok).2.2.1 b hu⟩, (g_le_G0 hok).2.2.2⟩
    rotate_left
    · obtain ⟨o, ho, hob⟩ := mem_keys.1 hb
      exact (hok.um b hu).1 (hok.un o (List.mem_append_left _ ho) b hob)
    by_cases hb : b ∈ keys W
    · obtain ⟨o, ho, hob⟩ := mem_keys.1 hb
      rw [hok.un o (List.mem_append_left _ ho) b hob]; exact List.nil_prefix
    · rw [z2 b hb]; exact (g_le_G0 hok).1 b
  have notW : ∀ o ∈ V, ∀ b, o.b = some b → b ∉ keys W := fun o ho b hb hm => dis b hm b (List.mem_filterMap.2 ⟨o, ho, hb⟩) rfl
  have hok1 : Ok ⟨w, keys W, G1⟩ G1 W w := by
    refine ⟨Gh.le_refl _, rfl, rfl, rfl, Nat.le_refl _, fun _ _ _ => rfl, fun b hb => ?_, fun o ho b hb => ?_, fun o ho => hok.vn o (List.mem_append_left _ ho), fun o ho b hb => z1 b (mem_keys.2 ⟨o, ho, hb⟩), fun o ho b hb => .inl (mem_keys.2 ⟨o, ho, hb⟩), ndW, (ok_init w).mz, fun b hu => ⟨by rw [z2 b hu.1]; exact ((ok_init w).um b hu.2).1, ((ok_init w).um b hu.2).2⟩, (ok_init w).wt⟩
    · by_cases hm : b ∈ keys W
      · exact absurd (z1 b hm) hb
      · rw [z2 b hm] at hb ⊢
        exact (ok_init w).fz b hb
    · obtain ⟨us, sp, t, a1, a2, a3⟩ := hok.ow o (List.mem_append_left _ ho) b hb
      exact ⟨us, sp, t, a1, a2.mono hle, a3⟩
  have hat : ∀ b room cs, (⟨some b, room, cs⟩ : Ob) ∈ V → ∃ vs, RepL G cs vs ∧ vs.length ≤ room ∧ At G1 b 0 vs ∧ (cs ≠ [] → G1.U b) := by
    intro b room cs hm
    obtain ⟨us, a1, a2, a3, a4⟩ := own_at hok (List.mem_append_right _ hm)
    refine ⟨us, a1, a2, ?_, fun hne => ⟨notW _ hm b rfl, a4 hne⟩⟩
    unfold At at a3 ⊢
    rw [z2 b (notW _ hm b rfl)]; exact a3
  refine (hc G1 w vs hok1 (vwgL_rep hle hat _ _ _ hv hl)).mono ?_
  rintro e w' ⟨v, r, M', G', rfl, hr, ho, hR⟩
  obtain ⟨l1, l2⟩ := hx _ _ hR
  refine ⟨v, r, M' ++ V, G, rfl, loose_rep _ _ l1 hr, ?_, M', hR, rfl⟩
  have hh : ∀ k, k < w.heap.size → k ∉ keys W → w'.heap[k]? = w.heap[k]? := fun k hk hn => ho.fr k hk hn
  have zW : ∀ b, G.Z b ≠ [] → b ∉ keys W := by
    intro b hb hm
    obtain ⟨o, ho, hob⟩ := mem_keys.1 hm
    exact hb (hok.un o (List.mem_append_left _ ho) b hob)
  refine ⟨Gh.le_refl _, ho.os, ho.tape, ho.output, ho.size, fun k hk hn => ?_, fun b hb => ?_, fun o hm b hb => ?_, fun o hm hb => ?_, fun o hm b hb => ?_, fun o hm b hb => ?_, ?_, fun b ks e => ?_, fun b hu => ?_, fun b t e => ?_⟩
  · exact hh k hk (fun h => hn (by show k ∈ keys (W ++ V); rw [keys_app]; exact List.mem_append_left _ h))
  · rw [hh b (hok.zlt hb) (zW b hb)]; exact hok.fz b hb
  · rcases List.mem_append.1 hm with h | h
    · obtain ⟨us, sp, t, a1, a2, a3⟩ := ho.ow o h b hb
      exact ⟨us, sp, t, a1, looseL_rep _ _ (l2 o h) a2, a3⟩
    · rw [hh b (hok.lt (List.mem_append_right _ h) hb) (notW o h b hb)]; exact hok.ow o (List.mem_append_right _ h) b hb
  · rcases List.mem_append.1 hm with h | h
    · exact ho.vn o h hb
    · exact hok.vn o (List.mem_append_right _ h) hb
  · rcases List.mem_append.1 hm with h | h
    · rcases ho.kb o h b hb with h2 | h2
      · obtain ⟨o2, ho2, hob2⟩ := mem_keys.1 h2
        exact hok.un o2 (List.mem_append_left _ ho2) b hob2
      · apply Classical.byContradiction
        intro hz
        exact absurd (hok.zlt hz) (Nat.not_lt.2 h2)
    · exact hok.un o (List.mem_append_right _ h) b hb
  · rcases List.mem_append.1 hm with h | h
    · rcases ho.kb o h b hb with h2 | h2
      · exact .inl (by show b ∈ keys (W ++ V); rw [keys_app]; exact List.mem_append_left _ h2)
      · exact .inr h2
    · exact .inl (by show b ∈ keys (W ++ V); rw [keys_app]; exact List.mem_append_right _ (mem_keys.2 ⟨o, h, hb⟩))
  · rw [List.filterMap_append, List.nodup_append]
    refine ⟨ho.nd, ndV, fun a ha b hb e => ?_⟩
    subst e
    obtain ⟨o, h, hob⟩ := List.mem_filterMap.1 ha
    obtain ⟨o2, h2, hob2⟩ := List.mem_filterMap.1 hb
    rcases ho.kb o h a hob with h3 | h3
    · exact notW o2 h2 a hob2 h3
    · exact absurd (hok.lt (List.mem_append_right _ h2) hob2) (Nat.not_lt.2 h3)
  · have hn : b ∉ keys W := fun hm => by
      obtain ⟨o, ho, hob⟩ := mem_keys.1 hm
      obtain ⟨us, sp, t, a1, _⟩ := hok.ow o (List.mem_append_left _ ho) b hob
      obtain ⟨es, c, a2, _⟩ := (hok.mz b ks e).1
      rw [a1] at a2; cases a2
    rw [hh b (hok.ylt e) hn]; exact hok.mz b ks e
  · have h1 := (hok.um b hu).1
    rw [hh b (hok.zlt h1) (zW b h1)]; exact hok.um b hu
  · exact ho.wt b t (ho.g.2.2.2 b t (hle.2.2.2 b t e))
/-- The objects in another order. -/
theorem acalls_perm {P : Program} {f : FuncId} {as : List A} {M M2 : List Ob} {R R' : A → List Ob → Prop} (hp : M2.Perm M) (hc : ACalls P f as M R) (hR : ∀ r M', R r M' → ∃ M'', M'.Perm M'' ∧ R' r M'') : ACalls P f as M2 R' := by
  intro G w vs hok hl
  have hk : ∀ k, k ∈ keys M2 ↔ k ∈ keys M := fun k => (hp.filterMap _).mem_iff
  refine (hc G w vs ?_ hl).mono ?_
  · have h := ok_perm hp hok
    exact ⟨h.g, h.os, h.tape, h.output, h.size, fun k h1 h2 => h.fr k h1 (fun h3 => h2 ((hk k).1 h3)), h.fz, h.ow, h.vn, h.un, fun o ho b hb => (h.kb o ho b hb).imp (hk b).1 id, h.nd, h.mz, h.um, h.wt⟩
  · rintro e w' ⟨v, r, M', G', rfl, hr, h, h2⟩
    obtain ⟨M'', p, h3⟩ := hR _ _ h2
    refine ⟨v, r, M'', G', rfl, hr, ok_perm p ?_, h3⟩
    exact ⟨h.g, h.os, h.tape, h.output, h.size, fun k h1 h2 => h.fr k h1 (fun h3 => h2 ((hk k).2 h3)), h.fz, h.ow, h.vn, h.un, fun o ho b hb => (h.kb o ho b hb).imp (hk b).2 id, h.nd, h.mz, h.um, h.wt⟩
/-- What is told of some temporaries, V's objects told as frozen ones. -/
def VwE (V : List Ob) (E : Env) : Env → Prop
  | [] => True
  | (t, x) :: r => Vw V (get E t) x ∧ VwE V E r
theorem VwE.get {V : List Ob} {E : Env} : ∀ {E' : Env}, VwE V E E' → ∀ t, Ab.get E' t = .any ∨ Vw V (Ab.get E t) (Ab.get E' t)
  | [], _, t => .inl rfl
  | (s, x) :: r, ⟨h1, h2⟩, t => by
    simp only [Ab.get]
    cases hb : Nat.beq s t with
    | true =>
      obtain rfl := Nat.eq_of_beq_eq_true hb
      exact .inr h1
    | false => exact VwE.get h2 t
section
variable {P : Program} {T : List TI} {N : Nat} {ops : Array Oper} {rest : List Oper} {o : Oper} {Q : Exit → St → Prop} {E F : Env} {M : List Ob}
theorem inv_freezeV {K : Ctx} {G : Gh} {a : Act} {w : World} {V : List Ob} {E' : Env} (hi : Inv K N G ⟨E, V ++ M⟩ a w) (hE : VwE V E E') : ∃ G', Inv K N G' ⟨E', M⟩ a w := by
  classical
  have hok := hi.ok
  have hnd := hok.nd
  rw [List.filterMap_append, List.nodup_append] at hnd
  obtain ⟨ndV, ndM, dis⟩ := hnd
  let G1 : Gh := ⟨fun b => if b ∈ keys V then (G0 w).Z b else G.Z b, G.Y, fun b => G.U b ∨ b ∈ keys V ∧ (G0 w).U b, G.W⟩
  have z1 : ∀ b, b ∈ keys V → G1.Z b = (G0 w).Z b := fun b h => if_pos h
  have z2 : ∀ b, b ∉ keys V → G1.Z b = G.Z b := fun b h => if_neg h
  have hle : G.le G1 := by
    refine ⟨fun b => ?_, fun b ks e => e, fun b h => .inl h, fun b t h => h⟩
    by_cases hb : b ∈ keys V
    · rw [z1 b hb]; exact (g_le_G0 hok).1 b
    · rw [z2 b hb]; exact List.prefix_refl _
  have hat : ∀ b room cs, (⟨some b, room, cs⟩ : Ob) ∈ V → ∃ vs, RepL G cs vs ∧ vs.length ≤ room ∧ At G1 b 0 vs ∧ (cs ≠ [] → G1.U b) := by
    intro b room cs hm
    obtain ⟨us, a1, a2, a3, a4⟩ := own_at hok (List.mem_append_left _ hm)
    refine ⟨us, a1, a2, ?_, fun hne => .inr ⟨mem_keys.2 ⟨_, hm, rfl⟩, a4 hne⟩⟩
    unfold At at a3 ⊢
    rw [z1 b (mem_keys.2 ⟨_, hm, rfl⟩)]; exact a3
  refine ⟨G1, ⟨Gh.le_trans hok.g hle, hok.os, hok.tape, hok.output, hok.size, hok.fr, fun b hb => ?_, fun o ho b hb => ?_, fun o ho => hok.vn o (List.mem_append_right _ ho), fun o ho b hb => ?_, fun o ho => hok.kb o (List.mem_append_right _ ho), ndM, hok.mz, fun b hb => ?_, hok.wt⟩, hi.sz, hi.df, fun t => ?_⟩
  · by_cases hm : b ∈ keys V
    · rw [z1 b hm] at hb ⊢; exact (ok_init w).fz b hb
    · rw [z2 b hm] at hb ⊢; exact hok.fz b hb
  · obtain ⟨us, sp, t, a1, a2, a3⟩ := hok.ow o (List.mem_append_right _ ho) b hb
    exact ⟨us, sp, t, a1, a2.mono hle, a3⟩
  · have hn : b ∉ keys V := fun h => dis b h b (List.mem_filterMap.2 ⟨o, ho, hb⟩) rfl
    rw [z2 b hn]; exact hok.un o (List.mem_append_right _ ho) b hb
  · rcases hb with hb | ⟨hb, c, t, h1, h2⟩
    · obtain ⟨h1, h2⟩ := hok.um b hb
      refine ⟨fun e => h1 ?_, h2⟩
      have := hle.1 b
      rw [e] at this
      exact List.prefix_nil.1 this
    · refine ⟨?_, c, t, h1⟩
      rw [z1 b hb]
      simp only [G0, h1]
      exact h2
  · rcases hE.get t with h | h
    · rw [h]; trivial
    · exact vwg_rep hle hat _ _ _ h (hi.ev t)
/-- All the objects of V are frozen from now on. -/
theorem acode_freezeV {c : Code} (V : List Ob) (E' : Env) (hE : VwE V E E') (next : ACode P N c Q ⟨E', M⟩) : ACode P N c Q ⟨E, V ++ M⟩ :=
  acode_weaken (fun K G a w hi => inv_freezeV hi hE) next
theorem aops_freezeV {l : List Oper} (V : List Ob) (E' : Env) (hE : VwE V E E') (next : AOps P N ops l Q ⟨E', M⟩) : AOps P N ops l Q ⟨E, V ++ M⟩ :=
  aops_weaken (fun K G a w hi => inv_freezeV hi hE) next
end
end Go.Proofs.Ytafncdbkbmaifaa.Ab

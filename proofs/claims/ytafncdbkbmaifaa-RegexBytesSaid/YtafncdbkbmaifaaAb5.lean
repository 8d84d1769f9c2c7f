/- Append, make, calls, what is handed over: rules of the walk. Condition: the table of types agrees with the program's. -/
import Derived.Test.YtafncdbkbmaifaaAb4
set_option linter.unusedVariables false
set_option linter.unusedSimpArgs false
namespace Go.Proofs.Ytafncdbkbmaifaa.Ab

theorem nodup_set {o' : Ob} : ∀ (M : List Ob) (k : Nat), (M.filterMap (·.b)).Nodup → (∀ b, o'.b = some b → b ∉ M.filterMap (·.b)) → ((M.set k o').filterMap (·.b)).Nodup
  | [], k, _, _ => by simp
  | x :: M, 0, h, hn => by
    simp only [List.set_cons_zero]
    have h1 : (M.filterMap (·.b)).Nodup := by
      cases hx : x.b with
      | none => simpa [List.filterMap_cons, hx] using h
      | some y => simp only [List.filterMap_cons, hx, List.nodup_cons] at h; exact h.2
    cases ho : o'.b with
    | none => simpa [List.filterMap_cons, ho] using h1
    | some y =>
      simp only [List.filterMap_cons, ho, List.nodup_cons]
      refine ⟨fun hm => hn y ho ?_, h1⟩
      cases hx : x.b with
      | none => simpa [List.filterMap_cons, hx] using hm
      | some z => simp only [List.filterMap_cons, hx]; exact List.mem_cons_of_mem _ hm
  | x :: M, k + 1, h, hn => by
    simp only [List.set_cons_succ]
    cases hx : x.b with
    | none =>
      have h' : (M.filterMap (·.b)).Nodup := by simpa [List.filterMap_cons, hx] using h
      have := nodup_set M k h' (fun b hb => by have := hn b hb; simpa [List.filterMap_cons, hx] using this)
      simpa [List.filterMap_cons, hx] using this
    | some y =>
      simp only [List.filterMap_cons, hx, List.nodup_cons] at h ⊢
      have ih := nodup_set M k h.2 (fun b hb => by have := hn b hb; simp only [List.filterMap_cons, hx, List.mem_cons, not_or] at this; exact this.2)
      refine ⟨fun hm => ?_, ih⟩
      obtain ⟨z, hz, hzb⟩ := List.mem_filterMap.1 hm
      rcases List.mem_or_eq_of_mem_set hz with hz | rfl
      · exact h.1 (List.mem_filterMap.2 ⟨z, hz, hzb⟩)
      · have hnn := hn y hzb
        simp [List.filterMap_cons, hx] at hnn

theorem Ok.sub {K : Ctx} {G : Gh} {M M' : List Ob} {w : World} (h : Ok K G M w) (hs : ∀ o ∈ M', o ∈ M) (hn : (M'.filterMap (·.b)).Nodup) : Ok K G M' w :=
  ⟨h.g, h.os, h.tape, h.output, h.size, h.fr, h.fz, fun o ho => h.ow o (hs o ho), fun o ho => h.vn o (hs o ho), fun o ho => h.un o (hs o ho), fun o ho => h.kb o (hs o ho), hn, h.mz, h.um, h.wt⟩

theorem Ok.replace {K : Ctx} {G : Gh} {M : List Ob} {o' : Ob} {w : World} (h : Ok K G (M ++ [o']) w) (k : Nat) : Ok K G (M.set k o') w := by
  refine h.sub (fun o ho => ?_) ?_
  · rcases List.mem_or_eq_of_mem_set ho with hm | rfl
    · exact List.mem_append_left _ hm
    · simp
  · have hn := h.nd
    rw [List.filterMap_append, List.nodup_append] at hn
    refine nodup_set M k hn.1 (fun b hb hm => ?_)
    exact hn.2.2 b hm b (by simp [hb]) rfl

section
variable {P : Program} {T : List TI} {N : Nat} {ops : Array Oper} {rest : List Oper} {o : Oper} {Q : Exit → St → Prop} {E : Env} {M : List Ob}

theorem isCell_all {G : Gh} : ∀ {cs : List A} {vs : List Value}, RepL G cs vs → cs.all A.isCell = true → ∀ u ∈ vs, u.oneCell' = true
  | [], vs, h, _, u, hu => by simp [RepL] at h; subst h; simp at hu
  | c :: cs, vs, h, hc, u, hu => by
    obtain ⟨v, vs', rfl, h1, h2⟩ := h
    simp at hc
    rcases List.mem_cons.1 hu with rfl | hu
    · exact (h1.oneCell hc.1).2
    · exact isCell_all h2 (by simpa using hc.2) u hu

/-- What is appended: its cells. -/
theorem srcOf {K : Ctx} {G : Gh} {a : Act} {w : World} (hi : Inv K N G ⟨E, M⟩ a w) {x : Operand} {m : Nat} {ds : List A} (hx : opA E x = .psl m ds ∨ opA E x = .nils ∧ m = 0 ∧ ds = []) (hm : ds ≠ [] ∨ m = 0) :
    ∃ ad c vs, a.eval x = .slice ad m c ∧ RepL G ds vs ∧ (m ≠ 0 → ∃ b off, ad = some ⟨b, off, none⟩ ∧ ∀ j u, vs[j]? = some u → w.cell? ((⟨b, off, none⟩ : Addr).add j) = some u) := by
  have hr := opA_rep hi x
  rcases hx with hx | ⟨hx, rfl, rfl⟩
  · rw [hx] at hr
    obtain ⟨ad, cap, hv, _, _, vs, hl, hz⟩ := hr
    refine ⟨ad, cap, vs, hv, hl, fun hm0 => ?_⟩
    rcases hz with rfl | ⟨b, off, rfl, hat⟩
    · rcases hm with hm | hm
      · exact absurd rfl hm
      · exact absurd hm hm0
    · exact ⟨b, off, rfl, fun j u hj => by rw [addr_add]; exact hi.ok.cell hat hj⟩
  · rw [hx] at hr
    simp only [Rep] at hr
    exact ⟨none, 0, [], hr, rfl, fun h => absurd rfl h⟩

theorem heap_pushed (w : World) (o : Obj) : (w.drew.alloc o).heap[w.heap.size]? = some o := by
  show (w.heap.push o)[w.heap.size]? = _
  simp
theorem append_run (hT : TOk P T) {t e : Nat} {ei : TI} (hs : sliceOf T t = some (e, ei)) (ty : TypeId) {K : Ctx} {G : Gh} {w : World} (hok : Ok K G M w) {k : Nat} {ob : Option Nat} {n cap : Nat} {cs : List A}
    (hM : M[k]? = some ⟨ob, cap * ei.size, cs⟩) (hcs : cs.length = n * ei.size) (hz : ei.zero.length = ei.size) (hpos : 0 < ei.size) {v : Value} (hv : Rep G (.own ob n cap) v) {m c : Nat} {ad : Option Addr} {ds : List A} {vs : List Value}
    (hl : RepL G ds vs) (hds : ds.length = m * ei.size) (hcell : ds.all A.isCell = true) (had : m ≠ 0 → ∃ b off, ad = some ⟨b, off, none⟩ ∧ ∀ j u, vs[j]? = some u → w.cell? ((⟨b, off, none⟩ : Addr).add j) = some u)
    (hbytes : (n + m) * ei.bytes ≤ 140737488355328) (hlen : n + m ≤ 140737488355328) :
    ∃ ob' cap' v' w', (Builtin.append_ #[t, t] ty #[v, .slice ad m c]).run P w = .ok v' w' ∧ Rep G (.own ob' (n + m) cap') v' ∧ Ok K G (M.set k ⟨ob', cap' * ei.size, cs ++ ds⟩) w' ∧ ∀ b, ob' = some b → ob = some b ∨ ∃ cs' f, w'.heap[b]? = some (.cells cs' e f) := by
  obtain ⟨hu, hg, _⟩ := sliceOf_spec hT hs
  obtain ⟨info, z, hi1, hi2, hi3, hi4, hi5, _⟩ := hg.info
  have hzc : z.cells.size = ei.size := by rw [← hz, ← hi5]; simp
  have hvl := hl.length
  have hmem := List.mem_of_getElem? hM
  have hklt : k < M.length := (List.getElem?_eq_some_iff.1 hM).1
  by_cases hm : m = 0
  · subst hm
    have hds0 : ds = [] := List.eq_nil_of_length_eq_zero (by simpa using hds)
    subst hds0
    have hself : M.set k ⟨ob, cap * ei.size, cs ++ []⟩ = M := by
      rw [List.append_nil]
      obtain ⟨_, e1⟩ := List.getElem?_eq_some_iff.1 hM
      rw [← e1]; exact List.set_getElem_self hklt
    cases ob with
    | none =>
      obtain ⟨rfl, rfl, rfl⟩ := hv
      refine ⟨none, 0, .slice none 0 0, w, ?_, ⟨rfl, rfl, rfl⟩, by rw [hself]; exact hok, fun b h => by cases h⟩
      cases ad <;> simp [Builtin.append_, run_und hu, sizeOf, run_info hi1, Builtin.lenOf, Builtin.firstCells, loadCells, loadCellsFrom]
    | some b =>
      simp only [Rep] at hv
      subst hv
      obtain ⟨us, sp, t', hh, hlu, hroom⟩ := hok.ow _ hmem b rfl
      have hul := hlu.length
      simp only at hul hroom
      have hnc : n ≤ cap := Nat.le_of_mul_le_mul_right (show n * ei.size ≤ cap * ei.size by omega) hpos
      refine ⟨some b, cap, .slice (some ⟨b, 0, none⟩) n cap, w, ?_, rfl, by rw [hself]; exact hok, fun b h => .inl h⟩
      cases ad <;> simp [Builtin.append_, run_und hu, sizeOf, run_info hi1, Builtin.lenOf, Builtin.firstCells, loadCells, loadCellsFrom, hnc, storeCells]
  · obtain ⟨sb, so, rfl, hnews⟩ := had hm
    have hvs : vs.length = m * info.size := by rw [hi2]; omega
    have h1 := isCell_all hl hcell
    have bz : ∀ n, (Builtin.zeroCells z.cells n).toList.length = n * ei.size := fun n => by rw [Array.length_toList, size_zeroCells, hzc]
    cases ob with
    | none =>
      obtain ⟨rfl, rfl, rfl⟩ := hv
      have hcs0 : cs = [] := List.eq_nil_of_length_eq_zero (by simpa using hcs)
      subst hcs0
      have hr := run_append_nil (P := P) w t ty e info z hu hi1 hi4 ⟨sb, so, none⟩ m c vs hvs hnews (by omega) (by omega) (by rw [hi3]; simp only [Nat.zero_add] at hbytes; omega)
      have hge := grownCap_ge w m 0 e
      have hok' := (hok.drew.alloc_own ds vs (Builtin.zeroCells z.cells (grownCap w m 0 e - m)).toList e (grownCap w m 0 e * ei.size) hl (by
        rw [bz, hvl, hds, ← Nat.add_mul]; congr 1; omega)).replace k
      refine ⟨some w.heap.size, grownCap w m 0 e, _, _, hr, by simp [Rep], ?_, fun b h => by cases h; exact .inr ⟨_, _, heap_pushed w _⟩⟩
      have e1 : (vs ++ (Builtin.zeroCells z.cells (grownCap w m 0 e - m)).toList).toArray = vs.toArray ++ Builtin.zeroCells z.cells (grownCap w m 0 e - m) := by
        apply Array.toList_inj.1; simp
      rw [e1] at hok'
      simpa using hok'
    | some b =>
      simp only [Rep] at hv
      subst hv
      obtain ⟨us, sp, t', hh, hlu, hroom⟩ := hok.ow _ hmem b rfl
      have hul := hlu.length
      simp only at hul hroom hlu
      by_cases hfit : n + m ≤ cap
      · have hle : (n + m) * ei.size ≤ cap * ei.size := Nat.mul_le_mul_right _ hfit
        rw [Nat.add_mul] at hle
        have hst := run_storeCells_at (P := P) b (n * ei.size) t' vs 0 (us ++ sp).toArray w hh (by simp; omega) h1
        simp only [Nat.add_zero] at hst
        have hf := run_firstCells_some (P := P) w ei.size m ⟨sb, so, none⟩ m c vs (by omega) hnews
        have e1 : ((us ++ sp).toArray.toList.take (n * ei.size) ++ vs ++ (us ++ sp).toArray.toList.drop (n * ei.size + vs.length)).toArray = ((us ++ vs) ++ sp.drop vs.length).toArray := by
          simp only [List.toList_toArray]
          rw [List.take_append_of_le_length (by omega), List.take_of_length_le (by omega), show n * ei.size + vs.length = us.length + vs.length from by omega, List.drop_length_add_append]
        rw [e1] at hst
        refine ⟨some b, cap, .slice (some ⟨b, 0, none⟩) (n + m) cap, w.setRow b _, ?_, rfl, hok.update hM rfl _ (setRow_facts w b _) ⟨_, sp.drop vs.length, t', setRow_heap w b _ _ t' _ hh, hlu.append hl, ?_⟩ (fun c t f e => by rw [hh] at e; cases e; exact ⟨_, _, setRow_heap w b _ _ t' _ hh⟩), fun b h => .inl h⟩
        · simp [Builtin.append_, run_und hu, sizeOf, run_info hi1, hi2, Builtin.lenOf, hfit, hf, addr_add, hst]
        · simp; omega
      · have hold : ∀ j v, us[j]? = some v → w.cell? ((⟨b, 0, none⟩ : Addr).add j) = some v := by
          intro j v hj
          have hlt : j < us.length := (List.getElem?_eq_some_iff.1 hj).1
          rw [addr_add]
          simp [World.cell?, hh, List.getElem?_append_left hlt, hj]
        have hr := run_append_grow (P := P) w t ty e info z hu hi1 hi4 ⟨b, 0, none⟩ n cap us (by rw [hi2]; omega) hold ⟨sb, so, none⟩ m c vs hvs hnews (by omega) (by omega) (by rw [hi3]; exact growslice_fits (by omega) hbytes)
        have hge := grownCap_ge w (n + m) cap e
        have hok' := (hok.drew.alloc_own (cs ++ ds) (us ++ vs) (Builtin.zeroCells z.cells (grownCap w (n + m) cap e - (n + m))).toList e (grownCap w (n + m) cap e * ei.size) (hlu.append hl) (by
          rw [bz, List.length_append, hvl, hul, hds, hcs, ← Nat.add_mul, ← Nat.add_mul]; congr 1; omega)).replace k
        refine ⟨some w.heap.size, grownCap w (n + m) cap e, _, _, hr, by simp [Rep], ?_, fun b h => by cases h; exact .inr ⟨_, _, heap_pushed w _⟩⟩
        have e1 : (us ++ vs ++ (Builtin.zeroCells z.cells (grownCap w (n + m) cap e - (n + m))).toList).toArray = us.toArray ++ vs.toArray ++ Builtin.zeroCells z.cells (grownCap w (n + m) cap e - (n + m)) := by
          apply Array.toList_inj.1; simp
        rw [e1] at hok'
        simpa using hok'

/-- append to one's own slice. -/
theorem aops_append (hT : TOk P T) {t e : Nat} {ei : TI} {s x : Operand} {ob : Option Nat} {n cap room m : Nat} {cs ds : List A} (k : Nat) (ho : o.op = .call { callee := .builtin .append, args := #[s, x], argTypes := #[t, t] }) (hs : sliceOf T t = some (e, ei))
    (hsv : opA E s = .own ob n cap) (hx : opA E x = .psl m ds ∨ opA E x = .nils ∧ m = 0 ∧ ds = []) (hM : M[k]? = some ⟨ob, room, cs⟩) (hroom : room = cap * ei.size) (hcs : cs.length = n * ei.size) (hds : ds.length = m * ei.size) (hcell : ds.all A.isCell = true)
    (hz : (Nat.beq ei.zero.length ei.size && Nat.blt 0 ei.size) = true) (hbytes : (n + m) * ei.bytes ≤ 140737488355328) (hlen : n + m ≤ 140737488355328) (hg : guardOn ops o E = some true) (hd : dstOk N o.dst = true)
    (next : ∀ ob' cap', AOps P N ops rest Q ⟨put E o.dst (.own ob' (n + m) cap'), M.set k ⟨ob', cap' * ei.size, cs ++ ds⟩⟩) : AOps P N ops (o :: rest) Q ⟨E, M⟩ := by
  subst hroom
  simp only [Bool.and_eq_true] at hz
  have hz1 := Nat.eq_of_beq_eq_true hz.1
  have hz2 : 0 < ei.size := by simpa using hz.2
  refine aops_rel hg hd (fun y L => ∃ ob' cap', y = .own ob' (n + m) cap' ∧ L = M.set k ⟨ob', cap' * ei.size, cs ++ ds⟩) (fun K G a w hi => ?_) (fun y L ⟨ob', cap', e1, e2⟩ => by subst e1; subst e2; exact next ob' cap')
  have hm : ds ≠ [] ∨ m = 0 := by
    by_cases h : ds = []
    · right
      subst h
      have h0 : m * ei.size = 0 := by rw [← hds]; rfl
      rcases Nat.mul_eq_zero.1 h0 with h | h
      · exact h
      · omega
    · exact .inl h
  obtain ⟨ad, c, vs, hv, hl, had⟩ := srcOf hi hx hm
  have hrs := opA_rep hi s
  rw [hsv] at hrs
  obtain ⟨ob', cap', v', w', hrun, h1, h2, _⟩ := append_run (P := P) (c := c) hT hs o.type hi.ok hM hcs hz1 hz2 hrs hl hds hcell had hbytes hlen
  refine ⟨v', w', G, _, _, ?_, h2, G.le_refl, h1, _, _, rfl, rfl⟩
  exact call_builtin_run ho (by simp [builtin, hv, hrun])

/-- append to nil. -/
theorem aops_append_nil (hT : TOk P T) {t e : Nat} {ei : TI} {s x : Operand} {m : Nat} {ds : List A} (ho : o.op = .call { callee := .builtin .append, args := #[s, x], argTypes := #[t, t] }) (hs : sliceOf T t = some (e, ei))
    (hsv : opA E s = .nils) (hx : opA E x = .psl m ds ∨ opA E x = .nils ∧ m = 0 ∧ ds = []) (hds : ds.length = m * ei.size) (hcell : ds.all A.isCell = true)
    (hz : (Nat.beq ei.zero.length ei.size && Nat.blt 0 ei.size) = true) (hbytes : m * ei.bytes ≤ 140737488355328) (hlen : m ≤ 140737488355328) (hg : guardOn ops o E = some true) (hd : dstOk N o.dst = true)
    (next : ∀ ob' cap', AOps P N ops rest Q ⟨put E o.dst (.own ob' m cap'), M ++ [⟨ob', cap' * ei.size, ds⟩]⟩) : AOps P N ops (o :: rest) Q ⟨E, M⟩ := by
  simp only [Bool.and_eq_true] at hz
  have hz1 := Nat.eq_of_beq_eq_true hz.1
  have hz2 : 0 < ei.size := by simpa using hz.2
  refine aops_rel hg hd (fun y L => ∃ ob' cap', y = .own ob' m cap' ∧ L = M ++ [⟨ob', cap' * ei.size, ds⟩]) (fun K G a w hi => ?_) (fun y L ⟨ob', cap', e1, e2⟩ => by subst e1; subst e2; exact next ob' cap')
  have hm : ds ≠ [] ∨ m = 0 := by
    by_cases h : ds = []
    · right
      subst h
      have h0 : m * ei.size = 0 := by rw [← hds]; rfl
      rcases Nat.mul_eq_zero.1 h0 with h | h
      · exact h
      · omega
    · exact .inl h
  obtain ⟨ad, c, vs, hv, hl, had⟩ := srcOf hi hx hm
  have hrs := opA_rep hi s
  rw [hsv] at hrs
  simp only [Rep] at hrs
  have hok0 : Ok K G (M ++ [⟨none, 0 * ei.size, []⟩]) w := by
    have h := hi.ok
    refine ⟨h.g, h.os, h.tape, h.output, h.size, h.fr, h.fz, ?_, ?_, ?_, ?_, ?_, h.mz, h.um, h.wt⟩
    · intro o ho b hb
      rcases List.mem_append.1 ho with ho | ho
      · exact h.ow o ho b hb
      · simp at ho; subst ho; simp at hb
    · intro o ho hb
      rcases List.mem_append.1 ho with ho | ho
      · exact h.vn o ho hb
      · simp at ho; subst ho; simp
    · intro o ho b hb
      rcases List.mem_append.1 ho with ho | ho
      · exact h.un o ho b hb
      · simp at ho; subst ho; simp at hb
    · intro o ho b hb
      rcases List.mem_append.1 ho with ho | ho
      · exact h.kb o ho b hb
      · simp at ho; subst ho; simp at hb
    · rw [List.filterMap_append]; simpa using h.nd
  obtain ⟨ob', cap', v', w', hrun, h1, h2, _⟩ := append_run (P := P) (c := c) hT hs o.type hok0 (k := M.length) (ob := none) (n := 0) (cap := 0) (cs := []) (by simp) (by simp) hz1 hz2 (v := a.eval s) ⟨hrs, rfl, rfl⟩ hl hds hcell had (by simpa using hbytes) (by simpa using hlen)
  have h2 : Ok K G (M ++ [⟨ob', cap' * ei.size, ds⟩]) w' := by simpa using h2
  refine ⟨v', w', G, _, _, ?_, h2, G.le_refl, by simpa using h1, _, _, rfl, rfl⟩
  exact call_builtin_run ho (by simp [builtin, hv, hrun])
end
end Go.Proofs.Ytafncdbkbmaifaa.Ab

/- Nil, text out of bytes, structs held against each other, cuts of one's own slice, regions whose order is drawn: rules of the walk. Condition: the table of types agrees with the program's. -/
import Derived.Test.YtafncdbkbmaifaaAb6
set_option linter.unusedVariables false
set_option linter.unusedSimpArgs false
namespace Go.Proofs.Ytafncdbkbmaifaa.Ab
section
variable {P : Program} {T : List TI} {N : Nat} {ops : Array Oper} {rest : List Oper} {o : Oper} {Q : Exit → St → Prop} {E : Env} {M : List Ob}

def kindOf (T : List TI) (t : Nat) : Option TK := (known T t).map (·.k)
theorem kindOf_slice (hT : TOk P T) {t e : Nat} (h : kindOf T t = some (.slice e)) : P.underlying t = some (.slice e) := by
  obtain ⟨ti, hti, hk⟩ := Option.map_eq_some_iff.1 h
  obtain ⟨k1, k2⟩ := known_spec hti
  exact und_slice (hT.get k1 k2) hk
theorem kindOf_string (hT : TOk P T) {t : Nat} (h : kindOf T t = some .string) : P.underlying t = some .string := by
  obtain ⟨ti, hti, hk⟩ := Option.map_eq_some_iff.1 h
  obtain ⟨k1, k2⟩ := known_spec hti
  exact und_string (hT.get k1 k2) hk
theorem kindOf_int (hT : TOk P T) {t : Nat} {k : IntKind} (h : kindOf T t = some (.int k)) : P.underlying t = some (.int k) := by
  obtain ⟨ti, hti, hk⟩ := Option.map_eq_some_iff.1 h
  obtain ⟨k1, k2⟩ := known_spec hti
  exact und_int (hT.get k1 k2) hk
theorem kindOf_bool (hT : TOk P T) {t : Nat} (h : kindOf T t = some .bool) : P.underlying t = some .bool := by
  obtain ⟨ti, hti, hk⟩ := Option.map_eq_some_iff.1 h
  obtain ⟨k1, k2⟩ := known_spec hti
  obtain ⟨d, h1, h2⟩ := (hT.get k1 k2).und
  rw [hk] at h2
  cases d <;> simp [tkOf] at h2
  exact h1
theorem kindOf_ptr (hT : TOk P T) {t e : Nat} (h : kindOf T t = some (.ptr e)) : P.underlying t = some (.pointer e) := by
  obtain ⟨ti, hti, hk⟩ := Option.map_eq_some_iff.1 h
  obtain ⟨k1, k2⟩ := known_spec hti
  obtain ⟨d, h1, h2⟩ := (hT.get k1 k2).und
  rw [hk] at h2
  cases d <;> simp [tkOf] at h2
  rw [h1, h2]

theorem eqGuard_slice {op : BinOp} {t : TypeId} {x y : Operand} {ad : Option Addr} {n c : Nat} {v : Value} (w : World) : (eqGuard op t x y (.slice ad n c) v).run P w = .ok () w := by
  unfold eqGuard
  by_cases ho : (!(op matches .eql | .neq)) = true <;> simp [ho]

theorem eql_nil_run (hT : TOk P T) {t e : Nat} (ht : kindOf T t = some (.slice e)) {ad : Option Addr} {n c : Nat} (w : World) : (binOp .eql t (.slice ad n c) (.slice none 0 0)).run P w = .ok (.bool ad.isNone) w := by
  have hu := kindOf_slice hT ht
  have e1 : Op.equal t (.slice ad n c) (.slice none 0 0) = Op.equalIn (9999 + 1) t (.slice ad n c) (.slice none 0 0) := rfl
  have e2 : (Op.equalIn (9999 + 1) t (.slice ad n c) (.slice none 0 0)).run P w = .ok ad.isNone w := by
    unfold Op.equalIn
    rw [Sem.run_bind, run_und hu, Result.andThen_ok]
    cases ad <;> rfl
  have e3 : binOp .eql t (.slice ad n c) (.slice none 0 0) = (do pure (.bool (← Op.equal t (.slice ad n c) (.slice none 0 0)))) := rfl
  rw [e3, Sem.run_bind, e1, e2]
  rfl

/-- A slice against nil. -/
theorem aops_eql_nil (hT : TOk P T) {t t' e : Nat} {x : Operand} {n : Nat} {cs : List A} (ho : o.op = .binOp .eql t x (.const (.slice none 0 0)) t') (ht : kindOf T t = some (.slice e)) (hx : opA E x = .psl n cs)
    (hg : guardOn ops o E = some true) (hd : dstOk N o.dst = true) (next : ∀ b : Bool, (b = true → n = 0) → AOps P N ops rest Q ⟨put E o.dst (.bool b), M⟩) : AOps P N ops (o :: rest) Q ⟨E, M⟩ := by
  refine aops_rel hg hd (fun y L => (∃ b : Bool, y = .bool b ∧ (b = true → n = 0)) ∧ L = M) (fun K G a w hi => ?_) (fun y L ⟨⟨b, e1, e2⟩, e3⟩ => by subst e1; subst e3; exact next b e2)
  have hr := opA_rep hi x
  rw [hx] at hr
  obtain ⟨ad, cap, hv, hn, hnn, _⟩ := hr
  have hu := kindOf_slice hT ht
  refine ⟨.bool ad.isNone, w, G, .bool ad.isNone, M, ?_, hi.ok, G.le_refl, rfl, ⟨_, rfl, fun h => ?_⟩, rfl⟩
  · have e1 : a.eval (.const (.slice none 0 0)) = .slice none 0 0 := rfl
    simp only [execOp, ho, hv, e1, Sem.run_bind, eqGuard_slice, eql_nil_run hT ht, Result.andThen_ok]
    rfl
  · have : ad = none := by cases ad <;> simp_all
    by_cases hc : 0 < cap
    · exact absurd this (hnn hc)
    · omega
theorem aops_eql_nil_nil (hT : TOk P T) {t t' e : Nat} {x : Operand} (ho : o.op = .binOp .eql t x (.const (.slice none 0 0)) t') (ht : kindOf T t = some (.slice e)) (hx : opA E x = .nils)
    (hg : guardOn ops o E = some true) (hd : dstOk N o.dst = true) (next : AOps P N ops rest Q ⟨put E o.dst (.bool true), M⟩) : AOps P N ops (o :: rest) Q ⟨E, M⟩ := by
  refine aops_val hg hd (.bool true) M (fun K G a w hi => ?_) next
  have hr := opA_rep hi x
  rw [hx] at hr
  simp only [Rep] at hr
  have hu := kindOf_slice hT ht
  have e1 : a.eval (.const (.slice none 0 0)) = .slice none 0 0 := rfl
  exact ⟨.bool true, w, G, by simp only [execOp, ho, hr, e1, Sem.run_bind, eqGuard_slice, eql_nil_run hT ht, Result.andThen_ok]; rfl, hi.ok, G.le_refl, rfl⟩

/-! ### cap -/
theorem aops_cap_nil (hT : TOk P T) {t e : Nat} {x : Operand} (ho : o.op = .call { callee := .builtin .cap, args := #[x], argTypes := #[t] }) (ht : kindOf T t = some (.slice e)) (hx : opA E x = .nils)
    (hg : guardOn ops o E = some true) (hd : dstOk N o.dst = true) (next : AOps P N ops rest Q ⟨put E o.dst (.int .i64 0), M⟩) : AOps P N ops (o :: rest) Q ⟨E, M⟩ := by
  refine aops_val hg hd _ M (fun K G a w hi => ?_) next
  have hr := opA_rep hi x
  rw [hx] at hr
  simp only [Rep] at hr
  have hu := kindOf_slice hT ht
  exact ⟨.int .i64 0, w, G, call_builtin_run ho (by simp [builtin, Builtin.cap_, hr, run_und hu, goInt]), hi.ok, G.le_refl, rfl⟩

/-- nil[:0]. -/
theorem aops_slice_nil (hT : TOk P T) {t e : Nat} {ei : TI} {x h : Operand} {k : IntKind} (ho : o.op = .slice t x none (some h) none) (hs : sliceOf T t = some (e, ei)) (hx : opA E x = .nils) (hh : opA E h = .int k 0)
    (hg : guardOn ops o E = some true) (hd : dstOk N o.dst = true) (next : AOps P N ops rest Q ⟨put E o.dst .nils, M⟩) : AOps P N ops (o :: rest) Q ⟨E, M⟩ := by
  refine aops_val hg hd _ M (fun K G a w hi => ?_) next
  have hr := opA_rep hi x
  have hrh := opA_rep hi h
  rw [hx] at hr; rw [hh] at hrh
  simp only [Rep] at hr hrh
  obtain ⟨hu, hgt, _⟩ := sliceOf_spec hT hs
  refine ⟨.slice none 0 0, w, G, ?_, hi.ok, G.le_refl, rfl⟩
  simp [execOp, ho, hr, hrh, Instr.sliceAt, run_und hu, Instr.slice, Instr.sliceBounds, bound_run, run_size hgt]

/-- x[:h] of one's own slice: the rest of its cells is forgotten. -/
theorem aops_slice_own (hT : TOk P T) {t e : Nat} {ei : TI} {x h : Operand} {kk : IntKind} {i : Int} {ob : Option Nat} {n cap room : Nat} {cs : List A} (k : Nat) (ho : o.op = .slice t x none (some h) none) (hs : sliceOf T t = some (e, ei)) (hx : opA E x = .own ob n cap) (hh : opA E h = .int kk i)
    (h0 : 0 ≤ i) (h1 : i ≤ n) (hnc : n ≤ cap) (hM : M[k]? = some ⟨ob, room, cs⟩) (n' : Nat) (hn' : n' = i.toNat) (cs' : List A) (hcs' : cs.take (n' * ei.size) = cs') (hg : guardOn ops o E = some true) (hd : dstOk N o.dst = true)
    (next : AOps P N ops rest Q ⟨put E o.dst (.own ob n' cap), M.set k ⟨ob, room, cs'⟩⟩) : AOps P N ops (o :: rest) Q ⟨E, M⟩ := by
  refine aops_val hg hd _ _ (fun K G a w hi => ?_) next
  subst hn'; subst hcs'
  have hr := opA_rep hi x
  have hrh := opA_rep hi h
  rw [hx] at hr; rw [hh] at hrh
  simp only [Rep] at hrh
  obtain ⟨hu, hgt, _⟩ := sliceOf_spec hT hs
  have hok : Ok K G (M.set k ⟨ob, room, cs.take (i.toNat * ei.size)⟩) w := by
    have hk := hi.ok
    have hmem := List.mem_of_getElem? hM
    have hlt : k < M.length := (List.getElem?_eq_some_iff.1 hM).1
    cases ob with
    | none =>
      obtain ⟨e1, _⟩ := hk.vn _ hmem rfl
      simp only at e1
      subst e1
      have : M.set k ⟨none, room, List.take (i.toNat * ei.size) []⟩ = M := by
        obtain ⟨_, e2⟩ := List.getElem?_eq_some_iff.1 hM
        rw [List.take_nil, ← e2]; exact List.set_getElem_self hlt
      rw [this]; exact hk
    | some b =>
      obtain ⟨vs, sp, t', hh, hl, hroom⟩ := hk.ow _ hmem b rfl
      refine hk.update hM rfl _ ⟨rfl, rfl, rfl, rfl, fun _ _ => rfl⟩ ⟨vs.take (i.toNat * ei.size), vs.drop (i.toNat * ei.size) ++ sp, t', ?_, hl.take _, ?_⟩ (fun c t f e => ⟨c, f, e⟩)
      · rw [← List.append_assoc, List.take_append_drop]; exact hh
      · simp at hroom ⊢; omega
  have hic : i ≤ cap := by omega
  cases ob with
  | none =>
    obtain ⟨hv, rfl, rfl⟩ := hr
    have hi0 : i = 0 := by omega
    subst hi0
    refine ⟨.slice none 0 0, w, G, ?_, hok, G.le_refl, ⟨rfl, rfl, rfl⟩⟩
    simp [execOp, ho, hv, hrh, Instr.sliceAt, run_und hu, Instr.slice, Instr.sliceBounds, bound_run, run_size hgt]
  | some b =>
    simp only [Rep] at hr
    refine ⟨.slice (some ⟨b, 0, none⟩) i.toNat cap, w, G, ?_, hok, G.le_refl, rfl⟩
    have e2 : (if cap = 0 then (some ⟨b, 0, none⟩ : Option Addr) else some (Addr.add ⟨b, 0, none⟩ (0 * ei.size))) = some ⟨b, 0, none⟩ := by simp [addr_add]
    simp only [execOp, ho, hr, hrh, Instr.sliceAt, Sem.run_bind, run_und hu, Result.andThen_ok, Instr.slice, Instr.sliceBounds, Option.map_none, Option.map_some, Sem.run_pure, bound_run h0 hic, run_size hgt]
    simp [addr_add]

/-! ### Text out of bytes, bytes that are a text's -/
def u8s (xs : List Int) : List A := xs.map (A.int .u8)
theorem u8s_rep {G : Gh} : ∀ {xs : List Int} {vs : List Value}, RepL G (u8s xs) vs → vs = xs.map (Value.int .u8)
  | [], vs, h => by simpa [u8s, RepL] using h
  | x :: xs, vs, h => by
    obtain ⟨v, vs', rfl, h1, h2⟩ := h
    simp only [Rep] at h1
    rw [h1, u8s_rep (xs := xs) h2]; rfl
theorem strOfNums_nil : strOfNums [] = ByteArray.empty := rfl
theorem aops_text (hT : TOk P T) {src dst e : Nat} {x : Operand} {n : Nat} {xs : List Int} (ho : o.op = .convert src dst x) (hs : kindOf T src = some (.slice e)) (he : kindOf T e = some (.int .u8)) (hds : kindOf T dst = some .string) (hx : opA E x = .psl n (u8s xs)) (hn : xs.length = n)
    (hg : guardOn ops o E = some true) (hd : dstOk N o.dst = true) (next : AOps P N ops rest Q ⟨put E o.dst (.str (strOfNums xs)), M⟩) : AOps P N ops (o :: rest) Q ⟨E, M⟩ := by
  refine aops_val hg hd _ M (fun K G a w hi => ?_) next
  have hr := opA_rep hi x
  rw [hx] at hr
  obtain ⟨ad, cap, hv, _, _, vs, hl, hz⟩ := hr
  have hvs := u8s_rep hl
  have us := kindOf_slice hT hs
  have ue := kindOf_int hT he
  have ud := kindOf_string hT hds
  have key : (convert src dst (.slice ad n cap)).run P w = .ok (.string (strOfNums xs)) w := by
    rcases hz with h0 | ⟨b, off, rfl, hat⟩
    · have hx0 : xs = [] := by cases xs <;> simp_all [u8s]
      subst hx0
      simp at hn
      subst hn
      cases ad with
      | none => rw [strOfNums_nil]; exact run_convert_bytes_nil (P := P) w src e us ue 0 cap dst ud
      | some p =>
        obtain ⟨pb, po, ps⟩ := p
        have := run_convert_bytes_string (P := P) w src dst e (some ⟨pb, po, ps⟩) 0 cap us ue ud
        rw [this, strOfNums_nil]
        rfl
    · refine run_convert_bytes_arg w src e us ue b off n cap xs hn (fun i hi' => ?_) dst ud
      refine hi.ok.cell hat ?_
      rw [hvs]
      simp [List.getElem?_eq_getElem (show i < xs.length by omega)]
  exact ⟨_, w, G, by simp [execOp, ho, hv, key], hi.ok, G.le_refl, rfl⟩

theorem aops_text_nil (hT : TOk P T) {src dst e : Nat} {x : Operand} (ho : o.op = .convert src dst x) (hs : kindOf T src = some (.slice e)) (he : kindOf T e = some (.int .u8)) (hds : kindOf T dst = some .string) (hx : opA E x = .nils)
    (hg : guardOn ops o E = some true) (hd : dstOk N o.dst = true) (next : AOps P N ops rest Q ⟨put E o.dst (.str (strOfNums [])), M⟩) : AOps P N ops (o :: rest) Q ⟨E, M⟩ := by
  refine aops_val hg hd _ M (fun K G a w hi => ?_) next
  have hr := opA_rep hi x
  rw [hx] at hr
  simp only [Rep] at hr
  have key := run_convert_bytes_nil (P := P) w src e (kindOf_slice hT hs) (kindOf_int hT he) 0 0 dst (kindOf_string hT hds)
  exact ⟨.string (strOfNums []), w, G, by simp only [execOp, ho, hr, Sem.run_bind, key, Result.andThen_ok]; rfl, hi.ok, G.le_refl, rfl⟩

theorem ok_freeze {K : Ctx} {G : Gh} {w : World} (h : Ok K G M w) {ad : Addr} (m : Nat) (hb : ad.block ∈ K.own0 ∨ K.w0.heap.size ≤ ad.block) (hne : ∀ o ∈ M, o.b ≠ some ad.block) (hu : ¬ G.U ad.block) : Ok K G M (w.freeze ad m) := by
  by_cases hm : m = 0
  · simpa [World.freeze, hm] using h
  have hsz : (w.freeze ad m).heap.size = w.heap.size := by simp [World.freeze, hm]
  have hk : ∀ k, k ≠ ad.block → (w.freeze ad m).heap[k]? = w.heap[k]? := by
    intro k hk
    simp only [World.freeze, if_neg hm, Array.getElem?_modify]
    rw [if_neg (by omega)]
  have hc : ∀ c t f, w.heap[ad.block]? = some (.cells c t f) → ∃ f', (w.freeze ad m).heap[ad.block]? = some (.cells c t f') := by
    intro c t f hh
    obtain ⟨lo, hi⟩ := f
    simp only [World.freeze, if_neg hm, Array.getElem?_modify, if_true, hh, Option.map_some]
    exact ⟨_, rfl⟩
  refine ⟨h.g, ?_, ?_, ?_, by rw [hsz]; exact h.size, ?_, ?_, ?_, h.vn, h.un, h.kb, h.nd, ?_, ?_, ?_⟩
  · simp [World.freeze, hm, h.os]
  · simp [World.freeze, hm, h.tape]
  · simp [World.freeze, hm, h.output]
  · intro k hlt ho
    rw [hk k ?_]
    · exact h.fr k hlt ho
    · rintro rfl
      rcases hb with hb | hb
      · exact ho hb
      · omega
  · intro b hb
    obtain ⟨c, t, f, hh, hp⟩ := h.fz b hb
    by_cases e : b = ad.block
    · subst e
      obtain ⟨f', hf⟩ := hc c t f hh
      exact ⟨c, t, f', hf, hp⟩
    · exact ⟨c, t, f, by rw [hk b e]; exact hh, hp⟩
  · intro o ho b hb
    obtain ⟨vs, sp, t, hh, hr⟩ := h.ow o ho b hb
    refine ⟨vs, sp, t, ?_, hr⟩
    rw [hk b ?_]
    · exact hh
    · rintro rfl
      exact hne o ho hb
  · intro b ks e
    obtain ⟨⟨es, c, hh, hv⟩, h0⟩ := h.mz b ks e
    refine ⟨⟨es, c, ?_, hv⟩, h0⟩
    by_cases e2 : b = ad.block
    · subst e2
      simp only [World.freeze, if_neg hm, Array.getElem?_modify, if_true, hh, Option.map_some]
    · rw [hk b e2]; exact hh
  · intro b hb'
    obtain ⟨h1, c, t, h2⟩ := h.um b hb'
    exact ⟨h1, c, t, by rw [hk b (fun e => hu (e ▸ hb'))]; exact h2⟩
  · intro b t e
    obtain ⟨c, f, hh⟩ := h.wt b t e
    by_cases e2 : b = ad.block
    · subst e2
      obtain ⟨f', hf⟩ := hc c t f hh
      exact ⟨c, f', hf⟩
    · exact ⟨c, f, by rw [hk b e2]; exact hh⟩

/-- []byte("..") of a constant: one's own literal becomes a text's bytes: frozen. -/
theorem aops_stringish (hT : TOk P T) {t e : Nat} {x : Operand} {b n cap room : Nat} {cs : List A} (k : Nat) (ho : o.op = .convert t t x) (hs : kindOf T t = some (.slice e)) (he : kindOf T e = some (.int .u8)) (hx : opA E x = .own (some b) n cap) (hM : M[k]? = some ⟨some b, room, cs⟩)
    (hr : room = cap) (hcs : cs.length = n) (hnd : ((M.eraseIdx k).all fun o => decide (o.b ≠ some b)) = true ∨ True) (hg : guardOn ops o E = some true) (hd : dstOk N o.dst = true)
    (next : AOps P N ops rest Q ⟨put E o.dst (.psl n cs), M.eraseIdx k⟩) : AOps P N ops (o :: rest) Q ⟨E, M⟩ := by
  refine aops_val hg hd _ _ (fun K G a w hi => ?_) next
  have hrx := opA_rep hi x
  rw [hx] at hrx
  simp only [Rep] at hrx
  obtain ⟨G', hle, hok, hb, _, hU⟩ := ok_publish hi.ok hM
  obtain ⟨vs, hl, hat, hlen⟩ := hb b rfl
  have hmem := List.mem_of_getElem? hM
  obtain ⟨us, sp, t', hh, _, hroom⟩ := hi.ok.ow _ hmem b rfl
  simp only at hroom
  have us1 := kindOf_slice hT hs
  have ue := kindOf_int hT he
  have hvl := hl.length
  have hne : ∀ o ∈ M.eraseIdx k, o.b ≠ some b := by
    intro o ho' hb'
    have hz := hok.un o ho' b hb'
    by_cases hn0 : cs = []
    · -- an empty literal: its block is told by its number alone
      have hnd := hi.ok.nd
      have key : ∀ (M : List Ob) (k : Nat), M[k]? = some ⟨some b, room, cs⟩ → o ∈ M.eraseIdx k → (M.filterMap (·.b)).Nodup → False := by
        intro M
        induction M with
        | nil => intro k hk; simp at hk
        | cons y M ih =>
          intro k hk ho hnd
          cases k with
          | zero =>
            simp at hk ho
            subst hk
            simp only [List.filterMap_cons, List.nodup_cons] at hnd
            exact hnd.1 (List.mem_filterMap.2 ⟨o, ho, hb'⟩)
          | succ k =>
            simp at hk ho
            have hnd' : (M.filterMap (·.b)).Nodup := by
              cases hx : y.b with
              | none => simpa [List.filterMap_cons, hx] using hnd
              | some z => simp only [List.filterMap_cons, hx, List.nodup_cons] at hnd; exact hnd.2
            rcases ho with rfl | ho
            · simp only [List.filterMap_cons, hb', List.nodup_cons] at hnd
              exact hnd.1 (List.mem_filterMap.2 ⟨_, List.mem_of_getElem? hk, rfl⟩)
            · exact ih k hk ho hnd'
      exact key M k hM ho' hnd
    · obtain ⟨u, hu⟩ := hat
      rw [hz] at hu
      simp at hu
      rw [hu.1] at hvl
      exact hn0 (List.eq_nil_of_length_eq_zero (by simpa using hvl.symm))
  have hok' := ok_freeze hok (ad := ⟨b, (us ++ sp).length, none⟩) 1 (hi.ok.kb _ hmem b rfl) hne (by show ¬ G'.U b; rw [hU]; exact fun h => (hi.ok.um b h).1 (hi.ok.un _ hmem b rfl))
  refine ⟨.slice (some ⟨b, 0, none⟩) n cap, w.freeze ⟨b, (us ++ sp).length, none⟩ 1, G', ?_, hok', hle, ⟨_, cap, rfl, by omega, by simp, vs, hl, .inr ⟨b, 0, rfl, hat⟩⟩⟩
  have hshape : (shape b).run P w = .ok (some (t', (us ++ sp).length)) w := by simp [shape, Sem.run, World.shape?, hh]
  simp [execOp, ho, hrx, convert, run_und us1, run_und ue, markStringish, hshape, freeze, Sem.run]
end
end Go.Proofs.Ytafncdbkbmaifaa.Ab

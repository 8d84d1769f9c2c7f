/- Rules: append of zeros upon nil, a nil slice taken as one's own. No condition. -/
import Derived.Test.YtafncdbkbmaifaaAbH
import Derived.Lib.AppendZeros
set_option linter.unusedVariables false
set_option linter.unusedSimpArgs false
namespace Go.Proofs.Ytafncdbkbmaifaa.Ab
section
variable {P : Program} {T : List TI} {N : Nat} {ops : Array Oper} {rest : List Oper} {o : Oper} {Q : Exit → St → Prop} {E F : Env} {M : List Ob}

theorem aops_adopt {l : List Oper} (t : Nat) (sz : Nat) (h : get E t = .nils) (next : AOps P N ops l Q ⟨(t, .own none 0 0) :: E, ⟨none, 0 * sz, []⟩ :: M⟩) : AOps P N ops l Q ⟨E, M⟩ :=
  aops_weaken (fun K G a w hi => ⟨G, by have := inv_front (inv_adopt hi h); rwa [Nat.zero_mul]⟩) next
theorem acode_adopt {c : Code} (t : Nat) (sz : Nat) (h : get E t = .nils) (next : ACode P N c Q ⟨(t, .own none 0 0) :: E, ⟨none, 0 * sz, []⟩ :: M⟩) : ACode P N c Q ⟨E, M⟩ :=
  acode_weaken (fun K G a w hi => ⟨G, by have := inv_front (inv_adopt hi h); rwa [Nat.zero_mul]⟩) next

/-- append(nil, make([]T, n)...). -/
theorem aops_zeros_nil (hT : TOk P T) {t tn e d : Nat} {ei : TI} {s x : Operand} {k kn : IntKind} {i : Int} (n : Nat) (ho : o.op = .call { callee := .builtin .append, args := #[s, x], argTypes := #[t, tn] }) (hs : sliceOf T t = some (e, ei)) (hn : kindOf T tn = some (.int kn))
    (hsv : opA E s = .nils) (hx : opA E x = .int k i) (hin : i = n) (h0 : 0 < n) (hz : (Nat.beq ei.zero.length ei.size && Nat.blt 0 ei.size) = true) (hbytes : n * ei.bytes ≤ 140737488355328) (hlen : n ≤ 140737488355328)
    (hg : guardOn ops o E = some true) (hd : o.dst = some d) (hN : Nat.blt d N = true)
    (next : ∀ b cap', n ≤ cap' → AOps P N ops rest Q ⟨(d, .own (some b) n cap') :: E, ⟨some b, cap' * ei.size, zerosA (ei.zero.map ofZ) n⟩ :: M⟩) : AOps P N ops (o :: rest) Q ⟨E, M⟩ := by
  subst hin
  simp only [Bool.and_eq_true] at hz
  have hz1 := Nat.eq_of_beq_eq_true hz.1
  have hz2 : 0 < ei.size := by simpa using hz.2
  refine aops_rel hg (by rw [hd]; exact hN) (fun y L => ∃ b cap', n ≤ cap' ∧ y = .own (some b) n cap' ∧ L = M ++ [⟨some b, cap' * ei.size, zerosA (ei.zero.map ofZ) n⟩]) (fun K G a w hi => ?_) (fun y L ⟨b, cap', e0, e1, e2⟩ => by subst e1; subst e2; rw [hd]; exact aops_front (next b cap' e0))
  obtain ⟨hu, hg', _⟩ := sliceOf_spec hT hs
  obtain ⟨info, z, hi1, hi2, hi3, hi4, hi5, _⟩ := hg'.info
  have hrs := opA_rep hi s
  have hrx := opA_rep hi x
  rw [hsv] at hrs; rw [hx] at hrx
  simp only [Rep] at hrs hrx
  have hzc : z.cells.size = ei.size := by rw [← hz1, ← hi5]; simp
  have hge := grownCap_ge w n 0 e
  have hrun := Lib.run_append_nil_zeros (P := P) w t tn o.type e info z k kn hu (kindOf_int hT hn) hi1 hi4 n h0 (by omega) (by omega) (by rw [hi3]; omega)
  have bz : ∀ n, (Builtin.zeroCells z.cells n).toList.length = n * ei.size := fun n => by rw [Array.length_toList, size_zeroCells, hzc]
  have e2 : (Builtin.zeroCells z.cells n).toList = (List.replicate n ei.zero).flatten := by
    by_cases hnz : n * z.cells.size = 0
    · rcases Nat.mul_eq_zero.1 hnz with h | h
      · omega
      · omega
    · have := zeros_cells (zero := z.cells) hnz
      rw [hi5] at this
      exact this
  have hok := hi.ok.drew.alloc_own (zerosA (ei.zero.map ofZ) n) (Builtin.zeroCells z.cells n).toList (Builtin.zeroCells z.cells (grownCap w n 0 e - n)).toList e (grownCap w n 0 e * ei.size) (by rw [e2, ← map_zeros]; exact ofZ_repL G _) (by rw [bz, bz, ← Nat.add_mul]; congr 1; omega)
  refine ⟨.slice (some ⟨w.heap.size, 0, none⟩) n (grownCap w n 0 e), _, G, .own (some w.heap.size) n (grownCap w n 0 e), _, ?_, hok, G.le_refl, rfl, _, _, hge, rfl, rfl⟩
  have e1 : ((Builtin.zeroCells z.cells n).toList ++ (Builtin.zeroCells z.cells (grownCap w n 0 e - n)).toList).toArray = Builtin.zeroCells z.cells n ++ Builtin.zeroCells z.cells (grownCap w n 0 e - n) := by apply Array.toList_inj.1; simp
  rw [e1]
  exact call_builtin_run ho (by simp [builtin, hrs, hrx, hrun])

/-- x[:h] of the slice at the front. -/
theorem aops_cut0 (hT : TOk P T) {t e d : Nat} {ei : TI} {x h : Operand} {kk : IntKind} {i : Int} {ob : Option Nat} {n cap room : Nat} {cs : List A} (ho : o.op = .slice t x none (some h) none) (hs : sliceOf T t = some (e, ei)) (hx : opA E x = .own ob n cap) (hh : opA E h = .int kk i)
    (h0 : 0 ≤ i) (h1 : i ≤ n) (hnc : n ≤ cap) (n' : Nat) (hn' : n' = i.toNat) (cs' : List A) (hcs' : cs.take (n' * ei.size) = cs') (hg : guardOn ops o E = some true) (hd : o.dst = some d) (hN : Nat.blt d N = true)
    (next : AOps P N ops rest Q ⟨(d, .own ob n' cap) :: E, ⟨ob, room, cs'⟩ :: M⟩) : AOps P N ops (o :: rest) Q ⟨E, ⟨ob, room, cs⟩ :: M⟩ := by
  refine aops_slice_own hT 0 ho hs hx hh h0 h1 hnc rfl n' hn' cs' hcs' hg (by rw [hd]; exact hN) ?_
  rw [hd]; exact next

/-! ### max and min, as such -/
theorem max_if (a b : Int) : (if b > a then b else a) = max a b := by
  by_cases h : b > a
  · rw [if_pos h]; omega
  · rw [if_neg h]; omega
theorem min_if (a b : Int) : (if b < a then b else a) = min a b := by
  by_cases h : b < a
  · rw [if_pos h]; omega
  · rw [if_neg h]; omega
theorem aops_max (hT : TOk P T) {d : Nat} {x y : Operand} {tys : Array TypeId} {k k' : IntKind} {a b : Int} (ho : o.op = .call { callee := .builtin .max, args := #[x, y], argTypes := tys }) (hx : opA E x = .int k a) (hy : opA E y = .int k' b)
    (hg : guardOn ops o E = some true) (hd : o.dst = some d) (hN : Nat.blt d N = true) (next : AOps P N ops rest Q ⟨(d, .int k (max a b)) :: E, M⟩) : AOps P N ops (o :: rest) Q ⟨E, M⟩ := by
  refine aops_pure hT (x := .int k (max a b)) (by rw [ho]; simp only [aval, List.map, hx, hy]; rw [max_if]) hg (by rw [hd]; exact hN) ?_
  rw [hd]; exact next
theorem aops_min (hT : TOk P T) {d : Nat} {x y : Operand} {tys : Array TypeId} {k k' : IntKind} {a b : Int} (ho : o.op = .call { callee := .builtin .min, args := #[x, y], argTypes := tys }) (hx : opA E x = .int k a) (hy : opA E y = .int k' b)
    (hg : guardOn ops o E = some true) (hd : o.dst = some d) (hN : Nat.blt d N = true) (next : AOps P N ops rest Q ⟨(d, .int k (min a b)) :: E, M⟩) : AOps P N ops (o :: rest) Q ⟨E, M⟩ := by
  refine aops_pure hT (x := .int k (min a b)) (by rw [ho]; simp only [aval, List.map, hx, hy]; rw [min_if]) hg (by rw [hd]; exact hN) ?_
  rw [hd]; exact next
theorem seqT_max (hT : TOk P T) {l : List Oper} {n d : Nat} {x y : Operand} {tys : Array TypeId} {k k' : IntKind} {a b : Int} (ho : o.op = .call { callee := .builtin .max, args := #[x, y], argTypes := tys }) (hx : opA F x = .int k a) (hy : opA F y = .int k' b)
    (hg : guardOn ops o F = some true) (hd : o.dst = some d) (hN : Nat.blt d N = true) (next : SeqT P N ops Q M ((d, .int k (max a b)) :: F) n l) : SeqT P N ops Q M F (n + 1) (o :: l) := by
  refine seqT_y (yields_pure hT (x := .int k (max a b)) (by rw [ho]; simp only [aval, List.map, hx, hy]; rw [max_if]) hg (by rw [hd]; exact hN)) hd next
theorem seqT_min (hT : TOk P T) {l : List Oper} {n d : Nat} {x y : Operand} {tys : Array TypeId} {k k' : IntKind} {a b : Int} (ho : o.op = .call { callee := .builtin .min, args := #[x, y], argTypes := tys }) (hx : opA F x = .int k a) (hy : opA F y = .int k' b)
    (hg : guardOn ops o F = some true) (hd : o.dst = some d) (hN : Nat.blt d N = true) (next : SeqT P N ops Q M ((d, .int k (min a b)) :: F) n l) : SeqT P N ops Q M F (n + 1) (o :: l) := by
  refine seqT_y (yields_pure hT (x := .int k (min a b)) (by rw [ho]; simp only [aval, List.map, hx, hy]; rw [min_if]) hg (by rw [hd]; exact hN)) hd next

/-! ### A result out of a frozen variable -/
theorem acode_pubref0 {c : Code} (t : Nat) {b room : Nat} {cs : List A} (h : get E t = .ref b 0) (next : ACode P N c Q ⟨(t, .pp cs) :: E, M⟩) : ACode P N c Q ⟨E, ⟨some b, room, cs⟩ :: M⟩ :=
  acode_weaken (fun K G a w hi => inv_publish_ref (k := 0) hi h rfl) next
theorem aops_pubref0 {l : List Oper} (t : Nat) {b room : Nat} {cs : List A} (h : get E t = .ref b 0) (next : AOps P N ops l Q ⟨(t, .pp cs) :: E, M⟩) : AOps P N ops l Q ⟨E, ⟨some b, room, cs⟩ :: M⟩ :=
  aops_weaken (fun K G a w hi => inv_publish_ref (k := 0) hi h rfl) next
theorem resOf_pp (hT : TOk P T) {st : St} {at_ : Tmp} {t : Nat} {i : TI} {cs : List A} {y : A} (h : get st.E at_ = .pp cs) (hk : known T t = some i)
    (hy : (bif i.k.isAgg then (bif Nat.ble i.size cs.length then some (A.agg (cs.take i.size)) else none) else cs.head?) = some y) : ResOf P N st (.cell at_ t) y := by
  intro K G a w hi
  obtain ⟨k1, k2⟩ := known_spec hk
  have hgt := hT.get k1 k2
  have hr := hi.ev at_
  rw [h] at hr
  obtain ⟨b, off, vs, hv, hat, hl⟩ := hr
  have hlen := hl.length
  have hcell : ∀ i v, vs[i]? = some v → w.cell? ⟨b, off + i, none⟩ = some v := fun i v hi' => hi.ok.cell hat hi'
  cases ha : i.k.isAgg with
  | true =>
    rw [ha, cond_true] at hy
    cases hb : Nat.ble i.size cs.length with
    | false => rw [hb] at hy; simp at hy
    | true =>
      rw [hb] at hy
      simp at hy
      subst hy
      have hle := Nat.le_of_ble_eq_true hb
      have hv' := loadVar_run (P := P) (w := w) hgt (b := b) (off := off) (vs := vs.take i.size) (by simp; omega) (fun j v hj => by
        have hlt := (List.getElem?_eq_some_iff.1 hj).1
        rw [List.getElem?_take_of_lt (by simp at hlt; omega)] at hj
        exact hcell _ _ hj)
      rw [if_pos ha] at hv'
      refine ⟨_, ?_, ⟨_, rfl, hl.take _⟩⟩
      simp only [resSem, hv, asAddr, Sem.run_bind, Sem.run_pure, Result.andThen_ok, hv']
  | false =>
    rw [ha, cond_false] at hy
    rw [List.head?_eq_getElem?] at hy
    obtain ⟨v, hv', hrv⟩ := hl.at 0 hy
    have hc := hcell 0 v hv'
    rw [Nat.add_zero] at hc
    refine ⟨v, ?_, hrv⟩
    simp only [resSem, hv, asAddr, Sem.run_bind, Sem.run_pure, Result.andThen_ok]
    simp [loadVar, run_isAgg hgt, ha, run_load, hc]

theorem seqT_slc (hT : TOk P T) {ll : List Oper} {m d : Nat} (n' : Nat) (cs' : List A) {t e : Nat} {ei : TI} {x : Operand} {lo hi' : Option Operand} {n : Nat} {cs : List A} {l h' : Int} (ho : o.op = .slice t x lo hi' none) (hs : sliceOf T t = some (e, ei)) (hx : opA F x = .psl n cs)
    (hl : loOf F lo = some l) (hh : hiOf F n hi' = some h') (h0 : 0 ≤ l) (h1 : l ≤ h') (h2 : h' ≤ n) (hn' : n' = h'.toNat - l.toNat) (hcs : cs.length = n * ei.size) (hcs' : (cs.drop (l.toNat * ei.size)).take (n' * ei.size) = cs')
    (hg : guardOn ops o F = some true) (hd : o.dst = some d) (hN : Nat.blt d N = true) (next : SeqT P N ops Q M ((d, .psl n' cs') :: F) m ll) : SeqT P N ops Q M F (m + 1) (o :: ll) :=
  seqT_y (yields_slice hT ho hs hx hl hh h0 h1 h2 n' cs' hn' hcs hcs' hg (by rw [hd]; exact hN)) hd next
theorem aops_slc (hT : TOk P T) {d : Nat} (n' : Nat) (cs' : List A) {t e : Nat} {ei : TI} {x : Operand} {lo hi' : Option Operand} {n : Nat} {cs : List A} {l h' : Int} (ho : o.op = .slice t x lo hi' none) (hs : sliceOf T t = some (e, ei)) (hx : opA E x = .psl n cs)
    (hl : loOf E lo = some l) (hh : hiOf E n hi' = some h') (h0 : 0 ≤ l) (h1 : l ≤ h') (h2 : h' ≤ n) (hn' : n' = h'.toNat - l.toNat) (hcs : cs.length = n * ei.size) (hcs' : (cs.drop (l.toNat * ei.size)).take (n' * ei.size) = cs')
    (hg : guardOn ops o E = some true) (hd : o.dst = some d) (hN : Nat.blt d N = true) (next : AOps P N ops rest Q ⟨(d, .psl n' cs') :: E, M⟩) : AOps P N ops (o :: rest) Q ⟨E, M⟩ := by
  refine aops_slice hT ho hs hx hl hh h0 h1 h2 n' cs' hn' hcs hcs' hg (by rw [hd]; exact hN) ?_
  rw [hd]; exact next
theorem seqT_lit (hT : TOk P T) {l : List Oper} {m d : Nat} {t len e : Nat} {ei : TI} {parts : Array (Nat × Operand)} {r : List A} (ho : o.op = .buildSlice t len parts) (hs : sliceOf T t = some (e, ei)) (hsz : (Nat.blt 0 (len * ei.size) && Nat.ble (len * ei.size) 16777216 && Nat.beq ei.zero.length ei.size) = true)
    (hf : fillA (fun i => some (i * ei.size, ei.size)) (zerosA (ei.zero.map ofZ) len) (parts.toList.map fun (i, x) => (i, opA F x)) = some r) (hg : guardOn ops o F = some true) (hd : o.dst = some d) (hN : Nat.blt d N = true)
    (next : SeqT P N ops Q M ((d, .psl len r) :: F) m l) : SeqT P N ops Q M F (m + 1) (o :: l) := seqT_y (yields_lit hT ho hs hsz hf hg (by rw [hd]; exact hN)) hd next
theorem aops_litf (hT : TOk P T) {d : Nat} {t len e : Nat} {ei : TI} {parts : Array (Nat × Operand)} {r : List A} (ho : o.op = .buildSlice t len parts) (hs : sliceOf T t = some (e, ei)) (hsz : (Nat.blt 0 (len * ei.size) && Nat.ble (len * ei.size) 16777216 && Nat.beq ei.zero.length ei.size) = true)
    (hf : fillA (fun i => some (i * ei.size, ei.size)) (zerosA (ei.zero.map ofZ) len) (parts.toList.map fun (i, x) => (i, opA E x)) = some r) (hg : guardOn ops o E = some true) (hd : o.dst = some d) (hN : Nat.blt d N = true)
    (next : AOps P N ops rest Q ⟨(d, .psl len r) :: E, M⟩) : AOps P N ops (o :: rest) Q ⟨E, M⟩ := by
  refine aops_lit hT ho hs hsz hf hg (by rw [hd]; exact hN) ?_
  rw [hd]; exact next
theorem seqT_text (hT : TOk P T) {l : List Oper} {m d : Nat} {src dst e : Nat} {x : Operand} {n : Nat} {xs : List Int} (ho : o.op = .convert src dst x) (hs : kindOf T src = some (.slice e)) (he : kindOf T e = some (.int .u8)) (hds : kindOf T dst = some .string) (hx : opA F x = .psl n (u8s xs)) (hn : xs.length = n)
    (hg : guardOn ops o F = some true) (hd : o.dst = some d) (hN : Nat.blt d N = true) (next : SeqT P N ops Q M ((d, .str (strOfNums xs)) :: F) m l) : SeqT P N ops Q M F (m + 1) (o :: l) := seqT_y (yields_text hT ho hs he hds hx hn hg (by rw [hd]; exact hN)) hd next
theorem aops_txt (hT : TOk P T) {d : Nat} {src dst e : Nat} {x : Operand} {n : Nat} {xs : List Int} (ho : o.op = .convert src dst x) (hs : kindOf T src = some (.slice e)) (he : kindOf T e = some (.int .u8)) (hds : kindOf T dst = some .string) (hx : opA E x = .psl n (u8s xs)) (hn : xs.length = n)
    (hg : guardOn ops o E = some true) (hd : o.dst = some d) (hN : Nat.blt d N = true) (next : AOps P N ops rest Q ⟨(d, .str (strOfNums xs)) :: E, M⟩) : AOps P N ops (o :: rest) Q ⟨E, M⟩ := by
  refine aops_text hT ho hs he hds hx hn hg (by rw [hd]; exact hN) ?_
  rw [hd]; exact next
theorem seqT_appf (hT : TOk P T) {l : List Oper} {mm : Nat} {t e : Nat} {ei : TI} {s x : Operand} {m d : Nat} {ds : List A} (ho : o.op = .call { callee := .builtin .append, args := #[s, x], argTypes := #[t, t] }) (hs : sliceOf T t = some (e, ei))
    (hsv : opA F s = .nils) (hx : opA F x = .psl m ds) (hds : ds.length = m * ei.size) (hcell : ds.all A.isCell = true)
    (hz : (Nat.beq ei.zero.length ei.size && Nat.blt 0 ei.size) = true) (hbytes : m * ei.bytes ≤ 140737488355328) (hlen : m ≤ 140737488355328) (hg : guardOn ops o F = some true) (hd : o.dst = some d) (hN : Nat.blt d N = true)
    (next : SeqT P N ops Q M ((d, .psl m ds) :: F) mm l) : SeqT P N ops Q M F (mm + 1) (o :: l) := seqT_y (yields_appf hT ho hs hsv hx hds hcell hz hbytes hlen hg hd hN) hd next

/-- Where ways meet again: what is known of all of them. -/
theorem acode_join {c y : Code} {Q2 : Exit → St → Prop} {st : St} (E' : Env) (M' : List Ob) (hx : ACode P N c (thenA (fun s => subE E' s.E ∧ s.M = M') Q) st) (hy : ACode P N y Q2 ⟨E', M'⟩) : ACode P N c (thenA (ACode P N y Q2) Q) st := by
  refine hx.mono ?_
  rintro e ⟨E1, M1⟩ h
  cases e with
  | normal =>
    obtain ⟨h1, h2⟩ := h
    simp only at h1 h2
    subst h2
    exact acode_sub E' h1 hy
  | _ => exact h

/-- append upon nil: one's own slice, at the front. -/
theorem aops_appn (hT : TOk P T) {t e d : Nat} {ei : TI} {s x : Operand} {m : Nat} {ds : List A} (ho : o.op = .call { callee := .builtin .append, args := #[s, x], argTypes := #[t, t] }) (hs : sliceOf T t = some (e, ei))
    (hsv : opA E s = .nils) (hx : opA E x = .psl m ds) (hds : ds.length = m * ei.size) (hcell : ds.all A.isCell = true)
    (hz : (Nat.beq ei.zero.length ei.size && Nat.blt 0 ei.size) = true) (hbytes : m * ei.bytes ≤ 140737488355328) (hlen : m ≤ 140737488355328) (hg : guardOn ops o E = some true) (hd : o.dst = some d) (hN : Nat.blt d N = true)
    (next : ∀ ob' cap', AOps P N ops rest Q ⟨(d, .own ob' m cap') :: E, ⟨ob', cap' * ei.size, ds⟩ :: M⟩) : AOps P N ops (o :: rest) Q ⟨E, M⟩ := by
  refine aops_append_nil hT ho hs hsv (.inl hx) hds hcell hz hbytes hlen hg (by rw [hd]; exact hN) fun ob' cap' => aops_front ?_
  rw [hd]; exact next ob' cap'

theorem wpList_mono' {ops : Array Oper} {Q1 Q2 : Exit → Act → World → Prop} (hq : ∀ e a w, Q1 e a w → Q2 e a w) : ∀ (l : List Oper) (a : Act) (w : World), wpList P ops Q1 l a w → wpList P ops Q2 l a w
  | [], a, w, h => hq _ _ _ h
  | o :: rest, a, w, h => by
    have ih := wpList_mono' (ops := ops) hq rest
    have hlo : LetsOut Q1 → LetsOut Q2 := fun ⟨a0, w0, h0⟩ => ⟨a0, w0, hq _ _ _ h0⟩
    simp only [wpList] at h ⊢
    split at h
    · rename_i hw
      rw [if_pos hw]
      rcases h with h | ⟨h1, h2⟩
      · refine .inl ?_
        unfold Oper.wp at h ⊢
        generalize (execOp a.eval o).run P w = r at h ⊢
        cases r with
        | ok n w' =>
          cases n <;> simp only [Oper.upon] at h ⊢ <;> first
            | exact ih _ _ h
            | exact h
            | (refine Calls.mono h (fun e w'' he => ?_)
               cases e with
               | returned v => exact ih _ _ he
               | panicked ch => exact hq _ _ _ he
               | outgrown => exact hlo he)
            | exact Rows.mono h (fun _ _ he => ih _ _ he)
        | halt e w' =>
          cases e <;> simp only [Oper.upon] at h ⊢
          exact hq _ _ _ h
      · exact .inr ⟨h1, hlo h2⟩
    · rename_i hw
      rw [if_neg hw]
      exact ih _ _ h
theorem AOps.mono {ops : Array Oper} {Q' : Exit → St → Prop} {l : List Oper} {st : St} (h : AOps P N ops l Q st) (hq : ∀ e s, Q e s → Q' e s) : AOps P N ops l Q' st := by
  intro K G a w hi
  refine wpList_mono' ?_ _ _ _ (h K G a w hi)
  rintro e a' w' ⟨G', s, q, i⟩
  exact ⟨G', s, hq _ _ q, i⟩
theorem aops_join {l : List Oper} {y : Code} {Q2 : Exit → St → Prop} {st : St} (E' : Env) (M' : List Ob) (hx : AOps P N ops l (thenA (fun s => subE E' s.E ∧ s.M = M') Q) st) (hy : ACode P N y Q2 ⟨E', M'⟩) : AOps P N ops l (thenA (ACode P N y Q2) Q) st := by
  refine hx.mono ?_
  rintro e ⟨E1, M1⟩ h
  cases e with
  | normal =>
    obtain ⟨h1, h2⟩ := h
    simp only at h1 h2
    subst h2
    exact acode_sub E' h1 hy
  | _ => exact h

/-- A literal of one's own, at the front. -/
theorem aops_lito (hT : TOk P T) {d : Nat} {t len e : Nat} {ei : TI} {parts : Array (Nat × Operand)} {r : List A} (ho : o.op = .buildSlice t len parts) (hs : sliceOf T t = some (e, ei)) (hsz : (Nat.blt 0 (len * ei.size) && Nat.ble (len * ei.size) 16777216 && Nat.beq ei.zero.length ei.size) = true)
    (hf : (fillA (fun i => some (i * ei.size, ei.size)) (zerosA (ei.zero.map ofZ) len) (parts.toList.map fun (i, x) => (i, opA E x))).bind normL = some r) (hg : guardOn ops o E = some true) (hd : o.dst = some d) (hN : Nat.blt d N = true)
    (next : ∀ b, AOps P N ops rest Q ⟨(d, .own (some b) len len) :: E, ⟨some b, r.length, r⟩ :: M⟩) : AOps P N ops (o :: rest) Q ⟨E, M⟩ := by
  have hf' : fillA (fun i => some (i * ei.size, ei.size)) (zerosA (ei.zero.map ofZ) len) (parts.toList.map fun (i, x) => (i, opA E x)) = some r := by
    rw [Option.bind_eq_some_iff] at hf
    obtain ⟨r', h1, h2⟩ := hf
    rw [normL_eq] at h2
    rw [h1, h2]
  refine aops_lit_own hT ho hs hsz hf' hg (by rw [hd]; exact hN) fun b => aops_front ?_
  rw [hd]; exact next b
/-- []byte of a constant text: the literal ahead is frozen. -/
theorem aops_bytes (hT : TOk P T) {t e d : Nat} {x : Operand} {b n cap room : Nat} {cs : List A} (ho : o.op = .convert t t x) (hs : kindOf T t = some (.slice e)) (he : kindOf T e = some (.int .u8)) (hx : opA E x = .own (some b) n cap)
    (hr : room = cap) (hcs : cs.length = n) (hg : guardOn ops o E = some true) (hd : o.dst = some d) (hN : Nat.blt d N = true)
    (next : AOps P N ops rest Q ⟨(d, .psl n cs) :: E, M⟩) : AOps P N ops (o :: rest) Q ⟨E, ⟨some b, room, cs⟩ :: M⟩ := by
  refine aops_stringish hT 0 ho hs he hx rfl hr hcs (.inr trivial) hg (by rw [hd]; exact hN) ?_
  rw [hd]; exact next
end
end Go.Proofs.Ytafncdbkbmaifaa.Ab

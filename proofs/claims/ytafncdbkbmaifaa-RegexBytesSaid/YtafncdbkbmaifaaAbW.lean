/- A new map while it is filled: the walk beside it, and its freezing. No condition. -/
import Derived.Test.YtafncdbkbmaifaaAbZ
set_option linter.unusedVariables false
set_option linter.unusedSimpArgs false
namespace Go.Proofs.Ytafncdbkbmaifaa.Ab
/-- The invariant, and one new map of one's own besides. -/
structure InvM (K : Ctx) (N : Nat) (G : Gh) (st : St) (a : Act) (w : World) (b : Nat) (es : Array MapEntry) (c : Nat) : Prop where
  i : Inv K N G st a w
  m : w.heap[b]? = some (.map es c)
  nw : K.w0.heap.size ≤ b
  y : G.Y b = none
abbrev Pst := Ctx → Exit → Act → World → Prop
def GCode (P : Program) (N : Nat) (c : Code) (R : Pst) (st : St) : Prop := ∀ K G a w, Inv K N G st a w → c.wp P (R K) a w
def GOps (P : Program) (N : Nat) (ops : Array Oper) (l : List Oper) (R : Pst) (st : St) : Prop := ∀ K G a w, Inv K N G st a w → wpList P ops (R K) l a w
def HCode (P : Program) (N : Nat) (c : Code) (R : Pst) (b : Nat) (es : Array MapEntry) (cl : Nat) (st : St) : Prop := ∀ K G a w, InvM K N G st a w b es cl → c.wp P (R K) a w
def HOps (P : Program) (N : Nat) (ops : Array Oper) (l : List Oper) (R : Pst) (b : Nat) (es : Array MapEntry) (cl : Nat) (st : St) : Prop := ∀ K G a w, InvM K N G st a w b es cl → wpList P ops (R K) l a w
section
variable {P : Program} {T : List TI} {N : Nat} {ops : Array Oper} {rest : List Oper} {o : Oper} {Q : Exit → St → Prop} {R : Pst} {E F : Env} {M : List Ob} {st st' : St} {b : Nat} {es : Array MapEntry} {cl : Nat} {x y : Code}
def toR (N : Nat) (Q : Exit → St → Prop) : Pst := fun K => lift K N Q
def thenR (P : Program) (y : Code) (R : Pst) : Pst := fun K => Exit.then (y.wp P (R K)) (R K)
def blockR (id : Nat) (R : Pst) : Pst := fun K => Exit.inBlock id (R K)
theorem acode_of_g (h : GCode P N x (toR N Q) st) : ACode P N x Q st := h
theorem gcode_of_a (h : ACode P N x Q st) : GCode P N x (toR N Q) st := h
theorem aops_of_g {l : List Oper} (h : GOps P N ops l (toR N Q) st) : AOps P N ops l Q st := h
theorem gops_of_a {l : List Oper} (h : AOps P N ops l Q st) : GOps P N ops l (toR N Q) st := h
theorem gcode_seq (h : GCode P N x (thenR P y R) st) : GCode P N (.seq x y) R st := fun K G a w hi => wp_seq (h K G a w hi)
theorem hcode_seq (h : HCode P N x (thenR P y R) b es cl st) : HCode P N (.seq x y) R b es cl st := fun K G a w hi => wp_seq (h K G a w hi)
theorem hcode_block {id : Nat} (h : HCode P N x (blockR id R) b es cl st) : HCode P N (.block id x) R b es cl st := fun K G a w hi => wp_block (h K G a w hi)
theorem gcode_region {id : Nat} {l : List Oper} (h : GOps P N l.toArray l R st) : GCode P N (.region id l.toArray false) R st := fun K G a w hi => wp_region_lit (h K G a w hi)
theorem hcode_region {id : Nat} {l : List Oper} (h : HOps P N l.toArray l R b es cl st) : HCode P N (.region id l.toArray false) R b es cl st := fun K G a w hi => wp_region_lit (h K G a w hi)
theorem gops_end (h : GCode P N y R st) : GOps P N ops [] (thenR P y R) st := fun K G a w hi => wpList_nil (h K G a w hi)
theorem hops_end (h : HCode P N y R b es cl st) : HOps P N ops [] (thenR P y R) b es cl st := fun K G a w hi => wpList_nil (h K G a w hi)
theorem hcode_skip (h : HCode P N y R b es cl st) : HCode P N .skip (thenR P y R) b es cl st := fun K G a w hi => wp_skip (h K G a w hi)
/-- A part that is walked as ever. -/
theorem gcode_a (h : ACode P N x (fun e s => e = .normal ∧ GCode P N y R s) st) : GCode P N x (thenR P y R) st := fun K G a w hi => by
  refine wp_mono (h K G a w hi) ?_
  rintro e a' w' ⟨G', s, ⟨rfl, next⟩, i⟩
  exact next K G' a' w' i
/-- What another walk leaves, beside the map. -/
theorem InvM.back {K : Ctx} {G G' : Gh} {a a' : Act} {w w' : World} (h : InvM K N G st a w b es cl) (h' : Inv ⟨w, keys st.M, G⟩ N G' st' a' w') : InvM K N G' st' a' w' b es cl := by
  have hlt : b < w.heap.size := (Array.getElem?_eq_some_iff.1 h.m).1
  have hn : b ∉ keys st.M := fun hm => by
    obtain ⟨o, ho, hob⟩ := List.mem_filterMap.1 hm
    obtain ⟨us, sp, t, a1, _⟩ := h.i.ok.ow o ho b hob
    rw [h.m] at a1; cases a1
  refine ⟨⟨h.i.ok.back h'.ok, h'.sz, h'.df, h'.ev⟩, by rw [h'.ok.fr b hlt hn]; exact h.m, h.nw, ?_⟩
  cases hy : G'.Y b with
  | none => rfl
  | some ks =>
    have := (h'.ok.mz b ks hy).2 hlt
    rw [h.y] at this; cases this
theorem InvM.enter {K : Ctx} {G : Gh} {a : Act} {w : World} (h : InvM K N G st a w b es cl) : Inv ⟨w, keys st.M, G⟩ N G st a w := ⟨h.i.ok.enter, h.i.sz, h.i.df, h.i.ev⟩
theorem hcode_a (h : ACode P N x (fun e s => e = .normal ∧ HCode P N y R b es cl s) st) : HCode P N x (thenR P y R) b es cl st := fun K G a w hi => by
  refine wp_mono (h _ G a w hi.enter) ?_
  rintro e a' w' ⟨G', s, ⟨rfl, next⟩, i⟩
  exact next K G' a' w' (hi.back i)
theorem wpList_cons_of {Q1 Q2 : Exit → Act → World → Prop} {l : List Oper} {a : Act} {w : World} (h : wpList P ops Q1 [o] a w) (h1 : ∀ a w, Q1 .normal a w → wpList P ops Q2 l a w) (h2 : ∀ e a w, Q1 e a w → e = .normal) : wpList P ops Q2 (o :: l) a w := by
  have hlo : LetsOut Q1 → LetsOut Q2 := fun ⟨a0, w0, h0⟩ => by have := h2 _ _ _ h0; cases this
  simp only [wpList] at h ⊢
  split at h
  · rename_i hw
    rw [if_pos hw]
    rcases h with h | ⟨h3, h4⟩
    · refine .inl ?_
      unfold Oper.wp at h ⊢
      generalize (execOp a.eval o).run P w = r at h ⊢
      cases r with
      | ok n w' =>
        cases n <;> simp only [Oper.upon] at h ⊢ <;> first
          | exact h1 _ _ h
          | exact h
          | (refine Calls.mono h (fun e w'' he => ?_)
             cases e with
             | returned v => exact h1 _ _ he
             | panicked ch => have := h2 _ _ _ he; cases this
             | outgrown => exact hlo he)
          | exact Rows.mono h (fun _ _ he => h1 _ _ he)
      | halt e w' =>
        cases e <;> simp only [Oper.upon] at h ⊢
        have := h2 _ _ _ h; cases this
    · exact .inr ⟨h3, hlo h4⟩
  · rename_i hw
    rw [if_neg hw]
    exact h1 _ _ h
theorem gops_a {l : List Oper} (h : AOps P N ops [o] (fun e s => e = .normal ∧ GOps P N ops l R s) st) : GOps P N ops (o :: l) R st := fun K G a w hi =>
  wpList_cons_of (h K G a w hi) (by rintro a' w' ⟨G', s, ⟨_, next⟩, i⟩; exact next K G' a' w' i) (by rintro e a' w' ⟨G', s, ⟨rfl, _⟩, i⟩; rfl)
theorem hops_a {l : List Oper} (h : AOps P N ops [o] (fun e s => e = .normal ∧ HOps P N ops l R b es cl s) st) : HOps P N ops (o :: l) R b es cl st := fun K G a w hi =>
  wpList_cons_of (h _ G a w hi.enter) (by rintro a' w' ⟨G', s, ⟨_, next⟩, i⟩; exact next K G' a' w' (hi.back i)) (by rintro e a' w' ⟨G', s, ⟨rfl, _⟩, i⟩; rfl)
theorem hcode_cond {t : Tmp} {p : Prop} [Decidable p] (hb : get st.E t = .bool (decide p)) (h1 : p → HCode P N x R b es cl st) (h0 : ¬ p → HCode P N y R b es cl st) : HCode P N (.cond (.tmp t) x y) R b es cl st := fun K G a w hi => by
  have he := hi.i.ev t
  rw [hb] at he
  simp only [Rep] at he
  exact wp_cond_split (t := decide p) he (fun hb => h1 (of_decide_eq_true hb) K G a w hi) (fun hb => h0 (of_decide_eq_false hb) K G a w hi)
theorem hcode_exit {id : Nat} (h : ∀ K G a w, InvM K N G st a w b es cl → R K (.exit id) a w) : HCode P N (.exit id) R b es cl st := fun K G a w hi => wp_exit (h K G a w hi)
theorem hcode_loop {ι : Type} {c : Code} (S : ι → Env) (L : ι → List Ob) (X : ι → Array MapEntry × Nat) (m : ι → Nat) (I : ι → Prop) (i0 : ι) (h0 : I i0) (hE : subE (S i0) E) (hM : M = L i0) (hX : X i0 = (es, cl))
    (round : ∀ i, I i → HCode P N c (fun K => Exit.then (fun a w => ∃ j G E', I j ∧ m j < m i ∧ subE (S j) E' ∧ InvM K N G ⟨E', L j⟩ a w b (X j).1 (X j).2) (R K)) b (X i).1 (X i).2 ⟨S i, L i⟩) : HCode P N (.loop c) R b es cl ⟨E, M⟩ := by
  subst hM
  intro K G a w hi
  have hsub : ∀ {G : Gh} {a : Act} {w : World} {E E' : Env} {M : List Ob} {es cl}, subE E' E → InvM K N G ⟨E, M⟩ a w b es cl → InvM K N G ⟨E', M⟩ a w b es cl := fun h hi => ⟨inv_sub h hi.i, hi.m, hi.nw, hi.y⟩
  refine wp_loop_ghost (fun n a w => ∃ i G, I i ∧ m i = n ∧ InvM K N G ⟨S i, L i⟩ a w b (X i).1 (X i).2) (m i0) ⟨i0, G, h0, rfl, by rw [hX]; exact hsub hE hi⟩ ?_
  rintro n a w ⟨i, G, hI, rfl, hi⟩
  refine wp_mono (round i hI K G a w hi) ?_
  intro e a' w' h
  cases e with
  | normal =>
    obtain ⟨j, G', E', hj, hm, hs, hi'⟩ := h
    exact ⟨m j, hm, j, G', hj, rfl, hsub hs hi'⟩
  | _ => exact h
/-- A new map. -/
theorem gops_make {t d : Nat} (ho : o.op = .makeMap t none) (hg : guardOn ops o E = some true) (hd : o.dst = some d) (hN : Nat.blt d N = true)
    (next : ∀ b, HOps P N ops rest R b #[] 0 ⟨(d, .mr b) :: E, M⟩) : GOps P N ops (o :: rest) R ⟨E, M⟩ := by
  intro K G a w hi
  have hok : Ok K G M (w.alloc (.map #[] 0)) := by
    have k := hi.ok
    have ha : ∀ j, j < w.heap.size → (w.alloc (.map #[] 0)).heap[j]? = w.heap[j]? := (MapKept.heap_alloc w _).2
    refine ⟨k.g, k.os, k.tape, k.output, Nat.le_trans k.size (by simp), fun j h1 h2 => ?_, fun j hz => ?_, fun o ho j hj => ?_, k.vn, k.un, k.kb, k.nd, fun j ks e => ?_, fun j hu => ?_, fun j t' e => ?_⟩
    · rw [ha j (Nat.lt_of_lt_of_le h1 k.size)]; exact k.fr j h1 h2
    · rw [ha j (k.zlt hz)]; exact k.fz j hz
    · rw [ha j (k.lt ho hj)]; exact k.ow o ho j hj
    · rw [ha j (k.ylt e)]; exact k.mz j ks e
    · rw [ha j (k.zlt (k.um j hu).1)]; exact k.um j hu
    · rw [ha j (k.wlt e)]; exact k.wt j t' e
  have hy : G.Y w.heap.size = none := by
    cases hy : G.Y w.heap.size with
    | none => rfl
    | some ks => exact absurd (hi.ok.ylt hy) (Nat.lt_irrefl _)
  have hrun : (execOp a.eval o).run P w = .ok (.value (.map (some w.heap.size))) (w.alloc (.map #[] 0)) := by
    simp [execOp, ho, Instr.makeMap]
  refine wpList_step fun Kn hK => ?_
  have hw : Region.wanted o (yielded ops a.tmps) = true := guard_spec hi hg
  rw [if_pos hw]
  unfold Oper.wp
  rw [hrun]
  simp only [Oper.upon]
  refine hK _ _ (next w.heap.size K G _ _ ⟨?_, (MapKept.heap_alloc w _).1, hi.ok.size, hy⟩)
  have := hi.put (G.le_refl) hok (d := o.dst) (by rw [hd]; exact hN) (x := .mr w.heap.size) (v := .map (some w.heap.size)) rfl
  rw [hd] at this ⊢
  exact this
theorem mapView_push {es : Array MapEntry} {ks : List (List Int)} {k : List Int} {c : Nat} (h : mapView es.toList = some ks) : mapView (es.push ⟨keyV k, .bool true, c⟩).toList = some (ks ++ [k]) := by
  rw [Array.toList_push]
  generalize es.toList = l at h ⊢
  induction l generalizing ks with
  | nil => simp [mapView] at h; subst h; simp [mapView, keyView_keyV]
  | cons e l ih =>
    simp only [mapView, List.cons_append] at h ⊢
    split at h
    · rename_i k1 h1 h2
      cases hm : mapView l with
      | none => simp [hm] at h
      | some ks' =>
        simp only [hm, Option.map_some, Option.some.injEq] at h
        subst h
        simp [ih hm]
    · cases h
theorem mapView_set {k : List Int} : ∀ {l : List MapEntry} {ks : List (List Int)} {j : Nat} {e : MapEntry}, mapView l = some ks → l[j]? = some e → e.key = keyV k → mapView (l.modify j fun e => { e with key := keyV k, val := .bool true }) = some ks
  | [], ks, j, e, h, hj, _ => by simp at hj
  | e0 :: l, ks, j, e, h, hj, he => by
    simp only [mapView] at h
    split at h
    · rename_i k1 h1 h2
      cases hm : mapView l with
      | none => simp [hm] at h
      | some ks' =>
        simp only [hm, Option.map_some, Option.some.injEq] at h
        subst h
        cases j with
        | zero =>
          simp at hj; subst hj
          have : k1 = k := by rw [he, keyView_keyV] at h1; exact (Option.some.inj h1).symm
          simp [mapView, keyView_keyV, hm, this]
        | succ j =>
          simp at hj
          have := mapView_set hm hj he
          simp [mapView, h1, h2, this]
    · cases h
theorem setObj_facts {w : World} {b : Nat} {o o' : Obj} (hb : w.heap[b]? = some o) : ({ w with heap := w.heap.setIfInBounds b o' } : World).heap[b]? = some o' ∧ ∀ k, k ≠ b → ({ w with heap := w.heap.setIfInBounds b o' } : World).heap[k]? = w.heap[k]? := MapKept.heap_set hb
theorem InvM.setm {K : Ctx} {G : Gh} {a : Act} {w : World} (h : InvM K N G st a w b es cl) (es' : Array MapEntry) (cl' : Nat) : InvM K N G st a { w with heap := w.heap.setIfInBounds b (.map es' cl') } b es' cl' := by
  obtain ⟨h1, h2⟩ := setObj_facts (o' := .map es' cl') h.m
  have k := h.i.ok
  have nb : ∀ o ∈ st.M, o.b ≠ some b := fun o ho hob => by
    obtain ⟨us, sp, t, a1, _⟩ := k.ow o ho b hob
    rw [h.m] at a1; cases a1
  refine ⟨⟨⟨k.g, k.os, k.tape, k.output, by simpa using k.size, fun j h3 h4 => ?_, fun j hz => ?_, fun o ho j hj => ?_, k.vn, k.un, k.kb, k.nd, fun j ks e => ?_, fun j hu => ?_, fun j t e => ?_⟩, h.i.sz, h.i.df, h.i.ev⟩, h1, h.nw, h.y⟩
  · rw [h2 j (by have := h.nw; omega)]; exact k.fr j h3 h4
  · rw [h2 j (by rintro rfl; obtain ⟨c, t, f, a1, _⟩ := k.fz j hz; rw [h.m] at a1; cases a1)]; exact k.fz j hz
  · rw [h2 j (by rintro rfl; exact nb o ho hj)]; exact k.ow o ho j hj
  · rw [h2 j (by rintro rfl; rw [h.y] at e; cases e)]; exact k.mz j ks e
  · rw [h2 j (by rintro rfl; obtain ⟨_, c, t, a1⟩ := k.um j hu; rw [h.m] at a1; cases a1)]; exact k.um j hu
  · rw [h2 j (by rintro rfl; obtain ⟨c, f, a1⟩ := k.wt j t e; rw [h.m] at a1; cases a1)]; exact k.wt j t e
theorem sameBits_ints (n : Nat) (k : List Int) : Instr.sameBits (n + 2) (keyV k) (keyV k) = true := by
  simp only [keyV, Instr.sameBits, Bool.and_eq_true, beq_self_eq_true, true_and, List.all_eq_true, List.toList_toArray]
  rintro ⟨u, v⟩ h
  have : u = v ∧ ∃ z, u = Value.int .i64 z := by
    obtain ⟨i, hi⟩ := List.getElem?_of_mem h
    rw [List.getElem?_zip_eq_some] at hi
    obtain ⟨h1, h2⟩ := hi
    rw [h1] at h2
    obtain ⟨z, hz, rfl⟩ := List.mem_map.1 (List.mem_of_getElem? h1)
    exact ⟨Option.some.inj h2, z, rfl⟩
  obtain ⟨rfl, z, rfl⟩ := this
  simp [Instr.sameBits]
/-- A row of numbers is said yes to. -/
theorem hops_upd (hT : TOk P T) {t n : Nat} {xm xk xv : Operand} {ks : List (List Int)} {k : List Int} (ho : o.op = .mapUpdate t xm xk xv) (ht : mapT T t n = true) (hm : opA E xm = .mr b) (hk : opA E xk = .agg (ints k)) (hv : opA E xv = .bool true)
    (hes : mapView es.toList = some ks) (hn : ∀ x ∈ ks, x.length = n) (hkn : k.length = n) (hg : guardOn ops o E = some true) (hd : o.dst = none)
    (next : ∀ es' cl', mapView es'.toList = some (if k ∈ ks then ks else ks ++ [k]) → HOps P N ops rest R b es' cl' ⟨E, M⟩) : HOps P N ops (o :: rest) R b es cl ⟨E, M⟩ := by
  intro K G a w hi
  have r1 := opA_rep hi.i xm
  have r2 := opA_rep hi.i xk
  have r3 := opA_rep hi.i xv
  rw [hm] at r1; rw [hk] at r2; rw [hv] at r3
  simp only [Rep] at r1 r3
  obtain ⟨vs, e2, hl⟩ := r2
  have e3 := ints_value hl
  subst e3
  obtain ⟨kt, et, h1, h2, h3, x, h4⟩ := mapT_spec hT ht
  obtain ⟨e, h5, h6, h7⟩ := id h2.e
  have hc := run_checkInts (P := P) w false 9998 kt e n .i64 h5 h6 h7 k hkn
  have hf := run_findKey_eq (P := P) w (k := kt) (by rw [h4]) (keyV k) es.toList
  have done : ∀ es' cl', (Instr.mapUpdate t (.map (some b)) (keyV k) (.bool true)).run P w = .ok () { w with heap := w.heap.setIfInBounds b (.map es' cl') } → mapView es'.toList = some (if k ∈ ks then ks else ks ++ [k]) → wpList P ops (R K) (o :: rest) a w := by
    intro es' cl' hrun a1
    have hr : (execOp a.eval o).run P w = .ok .skip { w with heap := w.heap.setIfInBounds b (.map es' cl') } := by
      simp only [execOp, ho, r1, e2, r3, Sem.run_bind, show (Value.agg (List.map (Value.int IntKind.i64) k).toArray) = keyV k from rfl, hrun, Result.andThen_ok]
      rfl
    refine wpList_step fun Kn hK => ?_
    have hw : Region.wanted o (yielded ops a.tmps) = true := guard_spec hi.i hg
    rw [if_pos hw]
    unfold Oper.wp
    rw [hr]
    simp only [Oper.upon]
    rw [hd]
    exact hK _ _ (next es' cl' a1 K G a _ (hi.setm es' cl'))
  rcases run_askInts w h2 k hkn es.toList ks 0 hes hn with ⟨a1, j, e', a2, a3, a4⟩ | ⟨a1, a2⟩
  · refine done (es.modify j fun e => { e with key := keyV k, val := .bool true }) cl ?_ ?_
    · unfold Instr.mapUpdate
      simp only [Sem.run_bind, run_underlying h1, Result.andThen_ok, MapKept.run_getObj_map hi.m, Sem.run_pure]
      rw [show (Instr.checkKey false 10000 kt (keyV k)).run P w = .ok () w from hc]
      have ej : es[j]? = some e' := by simpa using a3
      simp only [Result.andThen_ok, hf, a2, Nat.zero_add, ej, Option.map_some, Option.getD_some, a4, Instr.keyThatStays, sameBits_ints 9998 k, if_true, Sem.run_pure, Sem.run_bind, MapKept.run_setObj_map _ hi.m]
    · rw [if_pos a1]
      have ej : es[j]? = some e' := by simpa using a3
      have := mapView_set hes (by simpa using ej) a4
      rw [Array.toList_modify]
      exact this
  · refine done (es.push ⟨keyV k, .bool true, cl⟩) (cl + 1) ?_ (by rw [if_neg a1]; exact mapView_push hes)
    unfold Instr.mapUpdate
    simp only [Sem.run_bind, run_underlying h1, Result.andThen_ok, MapKept.run_getObj_map hi.m, Sem.run_pure]
    rw [show (Instr.checkKey false 10000 kt (keyV k)).run P w = .ok () w from hc]
    simp only [Result.andThen_ok, hf, a2, Sem.run_bind, MapKept.run_setObj_map _ hi.m]
/-- The map is read alone from now on. -/
theorem hcode_freeze {t : Nat} {ks : List (List Int)} (hes : mapView es.toList = some ks) (ht : get E t = .mr b) (next : GCode P N x R ⟨(t, .mp ks) :: E, M⟩) : HCode P N x R b es cl ⟨E, M⟩ := by
  intro K G a w hi
  let G' : Gh := ⟨G.Z, fun j => if j = b then some ks else G.Y j, G.U, G.W⟩
  have yb : G'.Y b = some ks := if_pos rfl
  have yo : ∀ j, j ≠ b → G'.Y j = G.Y j := fun j h => if_neg h
  have hle : G.le G' := ⟨fun _ => List.prefix_refl _, fun j l e => by
    by_cases h : j = b
    · subst h; rw [hi.y] at e; cases e
    · rw [yo j h]; exact e, fun _ h => h, fun _ _ h => h⟩
  have k := hi.i.ok
  refine next K G' a w ⟨⟨Gh.le_trans k.g hle, k.os, k.tape, k.output, k.size, k.fr, k.fz, fun o ho j hj => ?_, k.vn, k.un, k.kb, k.nd, fun j l e => ?_, k.um, k.wt⟩, hi.i.sz, hi.i.df, fun s => ?_⟩
  · obtain ⟨us, sp, t, a1, a2, a3⟩ := k.ow o ho j hj
    exact ⟨us, sp, t, a1, a2.mono hle, a3⟩
  · by_cases h : j = b
    · subst h
      rw [yb] at e; cases e
      exact ⟨⟨es, cl, hi.m, hes⟩, fun hlt => by have := hi.nw; omega⟩
    · rw [yo j h] at e; exact k.mz j l e
  · simp only [get]
    cases hs : Nat.beq t s with
    | true =>
      obtain rfl := Nat.eq_of_beq_eq_true hs
      have := hi.i.ev t
      rw [ht] at this
      exact ⟨b, this, yb⟩
    | false => exact (hi.i.ev s).mono hle _ _
theorem hops_endb {id : Nat} (h : HCode P N y R b es cl st) : HOps P N ops [] (blockR id (thenR P y R)) b es cl st := fun K G a w hi => wpList_nil (h K G a w hi)
theorem hops_fin (h : ∀ K G a w, InvM K N G st a w b es cl → R K .normal a w) : HOps P N ops [] R b es cl st := fun K G a w hi => wpList_nil (h K G a w hi)
/-- Out of a loop in a block, and on behind it. -/
theorem hcode_exit_on {id : Nat} {Z : Ctx → Act → World → Prop} {y' : Code} (h : HCode P N y R b es cl st) : HCode P N (.exit id) (thenR P y' (fun K => Exit.then (Z K) (blockR id (thenR P y R) K))) b es cl st := fun K G a w hi => by
  refine wp_exit ?_
  show (if id = id then _ else _)
  rw [if_pos rfl]
  exact h K G a w hi
/-- The map is nobody's any more. -/
theorem hops_forget {l : List Oper} (next : GOps P N ops l R st) : HOps P N ops l R b es cl st := fun K G a w hi => next K G a w hi.i
end
end Go.Proofs.Ytafncdbkbmaifaa.Ab

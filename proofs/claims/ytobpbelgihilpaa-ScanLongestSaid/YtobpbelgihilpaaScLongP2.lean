/- Texts of this proof, one behind the other (AbO, AbQ, AbR, AbP, AbS, AbT, AbV, AbY, Reg4, Reg5, Reg6, Reg7, Reg8, Reg9, RegA, RegB, RegC, RegD, RegE, RegF, RegG, RegK, RegL, RegM, RegN, RegO, RegP, RegQ, RegR, RegS, RegT, PzH, Ab8, Ab9, AbU, Cu1, Cu2, Neb, Gn1, PzA). No condition. -/
import Derived.Test.YtobpbelgihilpaaScLongP1
import Derived.Laws.Externs
import Derived.Laws.Strings
import Derived.Laws.Runes
import Derived.Laws.StructEq
/- Regions whose order is drawn, of which some operations make something of one's own. No condition. -/
set_option linter.unusedVariables false
set_option linter.unusedSimpArgs false
namespace Go.Proofs.Ytobpbelgihilpaa.Ab
section
variable {P : Program} {T : List TI} {N : Nat} {ops : Array Oper} {rest : List Oper} {o : Oper} {Q : Exit → St → Prop} {E F : Env} {M : List Ob}

/-- k waits for j, be it by others between. -/
def waitsT (ops : Array Oper) : Nat → Nat → Nat → Bool
  | 0, _, _ => false
  | f + 1, k, j => Region.waitsFor .any ops k j || (List.range k).any fun m => Region.waitsFor .any ops k m && waitsT ops f m j
/-- An operation that makes an object: what it yields hangs on the block. -/
def Makes (P : Program) (N : Nat) (ops : Array Oper) (o : Oper) (x : List Nat → A) (M2 : List Nat → List Ob) (F : Env) (M : List Ob) : Prop :=
  ∀ E, (∀ t ∈ o.looksAt ops, get E t = get F t) → ∀ (rest : List Oper) (Q : Exit → St → Prop), (∀ b, AOps P N ops rest Q ⟨put E o.dst (x b), M2 b⟩) → AOps P N ops (o :: rest) Q ⟨E, M⟩
/-- kp: objects that stay as they are, whatever the region does.  -/
inductive SeqO (P : Program) (N : Nat) (ops : Array Oper) (Q : Exit → St → Prop) (kp : List Ob) (al : List Nat) : Nat → Env → List Ob → Nat → List Oper → Prop where
  | done {i : Nat} {F : Env} {M : List Ob} {l : List Oper} (h : AOps P N ops l Q ⟨F, M⟩) : SeqO P N ops Q kp al i F M 0 l
  | cons {i : Nat} {F : Env} {M : List Ob} {n : Nat} {o : Oper} {l : List Oper} {x : A} (hi : al.contains i = false) (h : ∀ M', (M' = M ∨ (∀ o ∈ kp, o ∈ M') ∧ ∃ j ∈ al, i < j) → Yields P N ops o x F M') (t : SeqO P N ops Q kp al (i + 1) (put F o.dst x) M n l) : SeqO P N ops Q kp al i F M (n + 1) (o :: l)
  | make {i : Nat} {F : Env} {M : List Ob} {n : Nat} {o : Oper} {l : List Oper} {x : List Nat → A} {M2 : List Nat → List Ob} (hi : al.contains i = true) (h : Makes P N ops o x M2 F M) (hk : ∀ z, ∀ o ∈ kp, o ∈ M2 z) (t : ∀ b, SeqO P N ops Q kp al (i + 1) (put F o.dst (x b)) (M2 b) n l) : SeqO P N ops Q kp al i F M (n + 1) (o :: l)

structure SplitO (P : Program) (N : Nat) (ops : Array Oper) (Q : Exit → St → Prop) (kp : List Ob) (al : List Nat) (i : Nat) (E : Env) (M : List Ob) (n : Nat) (l : List Oper) (vals : (Nat → List Nat) → Nat → A) (Fs : (Nat → List Nat) → Nat → Env) (Ms : (Nat → List Nat) → Nat → List Ob) : Prop where
  f0 : ∀ β, Fs β 0 = E
  m0 : ∀ β, Ms β 0 = M
  fb : ∀ β β' k, (∀ j, j < k → β j = β' j) → Fs β k = Fs β' k ∧ Ms β k = Ms β' k
  vb : ∀ β β' k, (∀ j, j ≤ k → β j = β' j) → vals β k = vals β' k
  step : ∀ k o, k < n → l[k]? = some o → ∀ β, Fs β (k + 1) = put (Fs β k) o.dst (vals β k) ∧
    ((al.contains (i + k) = false ∧ Ms β (k + 1) = Ms β k ∧ ∀ M', (M' = Ms β k ∨ (∀ o ∈ kp, o ∈ M') ∧ ∃ j ∈ al, i + k < j) → Yields P N ops o (vals β k) (Fs β k) M') ∨
     (al.contains (i + k) = true ∧ (∀ o ∈ kp, o ∈ Ms β (k + 1)) ∧ ∀ E, (∀ t ∈ o.looksAt ops, get E t = get (Fs β k) t) → ∀ (rest : List Oper) (Q : Exit → St → Prop), (∀ b, AOps P N ops rest Q ⟨put E o.dst (vals (fun j => if j = k then b else β j) k), Ms (fun j => if j = k then b else β j) (k + 1)⟩) → AOps P N ops (o :: rest) Q ⟨E, Ms β k⟩))
  last : ∀ β, AOps P N ops (l.drop n) Q ⟨Fs β n, Ms β n⟩

theorem SeqO.split {kp : List Ob} {al : List Nat} {i n : Nat} {l : List Oper} (h : SeqO P N ops Q kp al i E M n l) : ∃ vals Fs Ms, SplitO P N ops Q kp al i E M n l vals Fs Ms := by
  induction h with
  | @done i F M l h => exact ⟨fun _ _ => .any, fun _ _ => F, fun _ _ => M, fun _ => rfl, fun _ => rfl, fun _ _ _ _ => ⟨rfl, rfl⟩, fun _ _ _ _ => rfl, fun k o hk => by omega, fun _ => h⟩
  | @cons i F M n o l x hi h t ih =>
    obtain ⟨vals, Fs, Ms, s⟩ := ih
    refine ⟨fun β k => match k with | 0 => x | k + 1 => vals (fun j => β (j + 1)) k, fun β k => match k with | 0 => F | k + 1 => Fs (fun j => β (j + 1)) k, fun β k => match k with | 0 => M | k + 1 => Ms (fun j => β (j + 1)) k, fun _ => rfl, fun _ => rfl, fun β β' k hk => ?_, fun β β' k hk => ?_, fun k o' hk ho β => ?_, fun β => ?_⟩
    · cases k with
      | zero => exact ⟨rfl, rfl⟩
      | succ k => exact s.fb _ _ k fun j hj => hk (j + 1) (by omega)
    · cases k with
      | zero => rfl
      | succ k => exact s.vb _ _ k fun j hj => hk (j + 1) (by omega)
    · cases k with
      | zero =>
        simp at ho
        subst ho
        refine ⟨by simp only; rw [s.f0], .inl ⟨by simpa using hi, by simp only; rw [s.m0], fun M' hp => h M' (by simpa using hp)⟩⟩
      | succ k =>
        simp at ho
        obtain ⟨h1, h2⟩ := s.step k o' (by omega) ho fun j => β (j + 1)
        refine ⟨h1, ?_⟩
        rw [show i + (k + 1) = i + 1 + k from by omega]
        refine h2.imp id fun ⟨a1, a2, a3⟩ => ⟨a1, a2, fun E hE rest Q next => a3 E hE rest Q fun b => ?_⟩
        have := next b
        have e : (fun j => (fun j => if j = k + 1 then b else β j) (j + 1)) = fun j => if j = k then b else β (j + 1) := by funext j; simp
        simp only at this
        rw [← e]
        exact this
    · exact s.last _
  | @make i F M n o l x M2 hi h hkeep t ih =>
    obtain ⟨vals, ih⟩ := Classical.axiomOfChoice ih
    obtain ⟨Fs, ih⟩ := Classical.axiomOfChoice ih
    obtain ⟨Ms, s⟩ := Classical.axiomOfChoice ih
    refine ⟨fun β k => match k with | 0 => x (β 0) | k + 1 => vals (β 0) (fun j => β (j + 1)) k, fun β k => match k with | 0 => F | k + 1 => Fs (β 0) (fun j => β (j + 1)) k, fun β k => match k with | 0 => M | k + 1 => Ms (β 0) (fun j => β (j + 1)) k, fun _ => rfl, fun _ => rfl, fun β β' k hk => ?_, fun β β' k hk => ?_, fun k o' hk ho β => ?_, fun β => ?_⟩
    · cases k with
      | zero => exact ⟨rfl, rfl⟩
      | succ k => simp only; rw [hk 0 (by omega)]; exact (s _).fb _ _ k fun j hj => hk (j + 1) (by omega)
    · cases k with
      | zero => simp only; rw [hk 0 (by omega)]
      | succ k => simp only; rw [hk 0 (by omega)]; exact (s _).vb _ _ k fun j hj => hk (j + 1) (by omega)
    · cases k with
      | zero =>
        simp at ho
        subst ho
        refine ⟨by simp only; rw [(s _).f0], .inr ⟨by simpa using hi, by simp only; rw [(s _).m0]; exact hkeep _, fun E hE rest Q next => h E hE rest Q fun b => ?_⟩⟩
        have := next b
        simp only [if_true] at this
        rw [(s _).m0] at this
        exact this
      | succ k =>
        simp at ho
        obtain ⟨h1, h2⟩ := (s (β 0)).step k o' (by omega) ho fun j => β (j + 1)
        refine ⟨h1, ?_⟩
        rw [show i + (k + 1) = i + 1 + k from by omega]
        refine h2.imp id fun ⟨a1, a2, a3⟩ => ⟨a1, a2, fun E hE rest Q next => a3 E hE rest Q fun b => ?_⟩
        have := next b
        have e : (fun j => (fun j => if j = k + 1 then b else β j) (j + 1)) = fun j => if j = k then b else β (j + 1) := by funext j; simp
        simp only at this
        rw [← e]
        simpa using this
    · exact (s _).last _

theorem waitsT_listed {ops : Array Oper} {listed : Array Bool} (hcl : ∀ k j, listed.getD k false = true → Region.waitsFor .any ops k j = true → listed.getD j false = true) :
    ∀ (f k j : Nat), listed.getD k false = true → waitsT ops f k j = true → listed.getD j false = true
  | 0, _, _, _, h => by cases h
  | f + 1, k, j, hk, h => by
    simp only [waitsT, Bool.or_eq_true, List.any_eq_true, Bool.and_eq_true] at h
    rcases h with h | ⟨m, _, h1, h2⟩
    · exact hcl k j hk h
    · exact waitsT_listed hcl f m j (hcl k m hk h1) h2
/-- What one that is ready waits for is listed. -/
theorem waitsT_ready {ops : Array Oper} {listed : Array Bool} (hcl : ∀ k j, listed.getD k false = true → Region.waitsFor .any ops k j = true → listed.getD j false = true) {k : Nat} (hr : ∀ j, Region.waitsFor .any ops k j = true → listed.getD j false = true) :
    ∀ (f j : Nat), waitsT ops f k j = true → listed.getD j false = true
  | 0, _, h => by cases h
  | f + 1, j, h => by
    simp only [waitsT, Bool.or_eq_true, List.any_eq_true, Bool.and_eq_true] at h
    rcases h with h | ⟨m, _, h1, h2⟩
    · exact hr j h
    · exact waitsT_listed hcl f m j (hr m h1) h2

theorem getD_map_range (f : Nat → A) (n i : Nat) (h : i < n) : ((List.range n).map f).getD i .any = f i := by
  rw [List.getD_eq_getElem?_getD, List.getElem?_map, List.getElem?_range h]; rfl

/-! ### the rules of such a region: what only yields whatever else lies there, and what makes something -/
theorem seqO_y {kp : List Ob} {al : List Nat} {i : Nat} {l : List Oper} {n d : Nat} {x : A} (hi : al.contains i = false) (h : ∀ M', Yields P N ops o x F M') (hd : o.dst = some d) (next : SeqO P N ops Q kp al (i + 1) ((d, x) :: F) M n l) : SeqO P N ops Q kp al i F M (n + 1) (o :: l) := by
  refine SeqO.cons hi (fun M' _ => h M') ?_
  rw [hd]; exact next
theorem seqO_p (hT : TOk P T) {kp : List Ob} {al : List Nat} {i : Nat} {l : List Oper} {n : Nat} {x : A} {d : Nat} (hi : al.contains i = false) (h : headed (aval T F o.op) = some x) (hg : guardOn ops o F = some true) (hd : o.dst = some d) (hN : Nat.blt d N = true)
    (next : SeqO P N ops Q kp al (i + 1) ((d, x) :: F) M n l) : SeqO P N ops Q kp al i F M (n + 1) (o :: l) :=
  seqO_y hi (fun M' => yields_pure hT (by rw [← headed_eq (aval T F o.op)]; exact h) hg (by rw [hd]; exact hN)) hd next
theorem seqO_ix (hT : TOk P T) (pre : List A) {kp : List Ob} {al : List Nat} {q : Nat} {l : List Oper} {m : Nat} {t e d : Nat} {ei : TI} {x ix : Operand} {n : Nat} {cs : List A} {k : IntKind} {i : Int} (hi : al.contains q = false) (ho : o.op = .indexAddr t x ix) (hs : sliceOf T t = some (e, ei)) (hx : opA F x = .psl n cs) (hix : opA F ix = .int k i)
    (h0 : 0 ≤ i) (h1 : i < n) (hne : pre ≠ []) (hp : pre <+: cs.drop (i.toNat * ei.size)) (hg : guardOn ops o F = some true) (hd : o.dst = some d) (hN : Nat.blt d N = true)
    (next : SeqO P N ops Q kp al (q + 1) ((d, .pp pre) :: F) M m l) : SeqO P N ops Q kp al q F M (m + 1) (o :: l) :=
  seqO_y hi (fun M' => yields_index hT pre ho hs hx hix h0 h1 hne hp hg (by rw [hd]; exact hN)) hd next
theorem seqO_ixo (hT : TOk P T) {kp : List Ob} {al : List Nat} {q : Nat} {l : List Oper} {m : Nat} {t e d : Nat} {ei : TI} {x ix : Operand} {b n cap : Nat} {k : IntKind} {i : Int} (hi : al.contains q = false) (ho : o.op = .indexAddr t x ix) (hs : sliceOf T t = some (e, ei)) (hx : opA F x = .own (some b) n cap) (hix : opA F ix = .int k i)
    (h0 : 0 ≤ i) (h1 : i < n) (hg : guardOn ops o F = some true) (hd : o.dst = some d) (hN : Nat.blt d N = true)
    (next : SeqO P N ops Q kp al (q + 1) ((d, .ref b (i.toNat * ei.size)) :: F) M m l) : SeqO P N ops Q kp al q F M (m + 1) (o :: l) :=
  seqO_y hi (fun M' => yields_index_own hT ho hs hx hix h0 h1 hg (by rw [hd]; exact hN)) hd next
theorem seqT_ixo (hT : TOk P T) {l : List Oper} {m : Nat} {t e d : Nat} {ei : TI} {x ix : Operand} {b n cap : Nat} {k : IntKind} {i : Int} (ho : o.op = .indexAddr t x ix) (hs : sliceOf T t = some (e, ei)) (hx : opA F x = .own (some b) n cap) (hix : opA F ix = .int k i)
    (h0 : 0 ≤ i) (h1 : i < n) (hg : guardOn ops o F = some true) (hd : o.dst = some d) (hN : Nat.blt d N = true)
    (next : SeqT P N ops Q M ((d, .ref b (i.toNat * ei.size)) :: F) m l) : SeqT P N ops Q M F (m + 1) (o :: l) :=
  SeqT.cons (yields_index_own hT ho hs hx hix h0 h1 hg (by rw [hd]; exact hN)) (by rw [hd]; exact next)
/-- A load from one's own: it lies there whatever else does. -/
theorem seqO_ld (hT : TOk P T) (k : Nat) {kp : List Ob} {al : List Nat} {q : Nat} {l : List Oper} {n : Nat} {t d : Nat} {x : Operand} {b off : Nat} {i : TI} {y : A} {room : Nat} {cs : List A} (hi : al.contains q = false) (ho : o.op = .load t x) (hx : opA F x = .ref b off) (hk : known T t = some i)
    (hM : kp[k]? = some ⟨some b, room, cs⟩) (hkp : ∀ o ∈ kp, o ∈ M) (hy : headed (bif i.k.isAgg then (bif Nat.ble (off + i.size) cs.length then some (A.agg ((cs.drop off).take i.size)) else none) else cs[off]?) = some y)
    (hg : guardOn ops o F = some true) (hd : o.dst = some d) (hN : Nat.blt d N = true) (next : SeqO P N ops Q kp al (q + 1) ((d, y) :: F) M n l) : SeqO P N ops Q kp al q F M (n + 1) (o :: l) := by
  have hmem := List.mem_of_getElem? hM
  refine SeqO.cons (x := y) hi (fun M' hp => ?_) ?_
  · have hmem' : (⟨some b, room, cs⟩ : Ob) ∈ M' := by
      rcases hp with rfl | ⟨hp, _⟩
      · exact hkp _ hmem
      · exact hp _ hmem
    obtain ⟨k', hk', e⟩ := List.getElem_of_mem hmem'
    exact yields_load_own hT k' ho hx hk (by rw [List.getElem?_eq_getElem hk', e]) (by rw [← headed_eq (bif i.k.isAgg then _ else _)]; exact hy) hg (by rw [hd]; exact hN)
  rw [hd]; exact next
theorem seqO_call {kp : List Ob} {al : List Nat} {i : Nat} {l : List Oper} {n d : Nat} {g : Operand} {args : Array Operand} {tys : Array TypeId} {f : FuncId} {cap aS : List A} {fn : Func} (x : A) (hi : al.contains i = false) (hf : P.funcs[f]? = some fn) (ho : o.op = .call { callee := .value g, args, argTypes := tys }) (hgv : opA F g = .fn f cap)
    (hfn : callable fn = true) (has : args.toList.map (opA F) ++ cap = aS) (hc : ∀ M', ACalls P f aS M' (fun r M'' => r = x ∧ M'' = M')) (hg : guardOn ops o F = some true) (hd : o.dst = some d) (hN : Nat.blt d N = true)
    (next : SeqO P N ops Q kp al (i + 1) ((d, x) :: F) M n l) : SeqO P N ops Q kp al i F M (n + 1) (o :: l) :=
  seqO_y hi (fun M' => yields_call x hf ho hgv hfn has (hc M') hg (by rw [hd]; exact hN)) hd next
end
end Go.Proofs.Ytobpbelgihilpaa.Ab
/- Objects told otherwise: nil slices within them as one's own. No condition. -/
set_option linter.unusedVariables false
set_option linter.unusedSimpArgs false
namespace Go.Proofs.Ytobpbelgihilpaa.Ab
section
variable {P : Program} {T : List TI} {N : Nat} {ops : Array Oper} {rest : List Oper} {o : Oper} {Q : Exit → St → Prop} {E F : Env} {M : List Ob}
theorem Ok.cast {K : Ctx} {G : Gh} {M M' : List Ob} {w : World} (h : Ok K G M w) (hs : ∀ o' ∈ M', (o'.b = none ∧ o'.cs = [] ∧ o'.room = 0) ∨ ∃ o ∈ M, o.b = o'.b ∧ o'.room = o.room ∧ (∀ vs, RepL G o.cs vs → RepL G o'.cs vs) ∧ (o.b = none → o'.cs = [])) (hn : (M'.filterMap (·.b)).Nodup) : Ok K G M' w := by
  refine ⟨h.g, h.os, h.tape, h.output, h.size, h.fr, h.fz, fun o' ho b hb => ?_, fun o' ho hb => ?_, fun o' ho b hb => ?_, fun o' ho b hb => ?_, hn, h.mz, h.um, h.wt⟩
  · rcases hs o' ho with ⟨h1, _⟩ | ⟨o, h1, h2, h3, h4, _⟩
    · rw [hb] at h1; cases h1
    · obtain ⟨vs, sp, t, a1, a2, a3⟩ := h.ow o h1 b (h2.trans hb)
      exact ⟨vs, sp, t, a1, h4 vs a2, by rw [h3]; exact a3⟩
  · rcases hs o' ho with ⟨_, h1, h2⟩ | ⟨o, h1, h2, h3, h4, h5⟩
    · exact ⟨h1, h2⟩
    · obtain ⟨a1, a2⟩ := h.vn o h1 (h2.trans hb)
      exact ⟨h5 (h2.trans hb), by rw [h3]; exact a2⟩
  · rcases hs o' ho with ⟨h1, _⟩ | ⟨o, h1, h2, _⟩
    · rw [hb] at h1; cases h1
    · exact h.un o h1 b (h2.trans hb)
  · rcases hs o' ho with ⟨h1, _⟩ | ⟨o, h1, h2, _⟩
    · rw [hb] at h1; cases h1
    · exact h.kb o h1 b (h2.trans hb)
theorem repL_set_same {G : Gh} {cs : List A} {vs : List Value} {i : Nat} {c c' : A} (h : RepL G cs vs) (hc : cs[i]? = some c) (hcc : ∀ v, Rep G c v → Rep G c' v) : RepL G (cs.set i c') vs := by
  obtain ⟨v, hv, hr⟩ := h.at i hc
  have := h.set i (hcc v hr)
  have e : vs.set i v = vs := by
    obtain ⟨h1, h2⟩ := List.getElem?_eq_some_iff.1 hv
    subst h2
    exact List.set_getElem_self h1
  rwa [e] at this

theorem ok_adoptF {K : Ctx} {G : Gh} {w : World} (i : Nat) {b room : Nat} {cs : List A} (h : cs[i]? = some .nils) (hok : Ok K G (⟨some b, room, cs⟩ :: M) w) : Ok K G (⟨some b, room, cs.set i (.own none 0 0)⟩ :: ⟨none, 0, []⟩ :: M) w := by
  refine hok.cast (fun o' ho => ?_) ?_
  · simp only [List.mem_cons] at ho
    rcases ho with rfl | rfl | ho
    · exact .inr ⟨⟨some b, room, cs⟩, List.mem_cons_self .., rfl, rfl, fun vs hv => repL_set_same hv h (fun v hr => by simp only [Rep] at hr ⊢; exact ⟨hr, trivial, trivial⟩), fun h => by cases h⟩
    · exact .inl ⟨rfl, rfl, rfl⟩
    · exact .inr ⟨o', by simp [ho], rfl, rfl, fun vs hv => hv, fun hb => (hok.vn o' (by simp [ho]) hb).1⟩
  · simpa [List.filterMap_cons] using hok.nd
/-- A nil slice in a field of the object at the front is one's own from now on. -/
theorem aops_adoptF {l : List Oper} (i : Nat) {b room : Nat} {cs cs' : List A} (h : cs[i]? = some .nils) (hcs : normL (cs.set i (.own none 0 0)) = some cs') (next : AOps P N ops l Q ⟨E, ⟨some b, room, cs'⟩ :: ⟨none, 0, []⟩ :: M⟩) : AOps P N ops l Q ⟨E, ⟨some b, room, cs⟩ :: M⟩ := by
  rw [normL_eq] at hcs; cases hcs
  exact aops_weaken (st' := ⟨E, ⟨some b, room, cs.set i (.own none 0 0)⟩ :: ⟨none, 0, []⟩ :: M⟩) (fun K G a w hi => ⟨G, ok_adoptF i h hi.ok, hi.sz, hi.df, hi.ev⟩) next
theorem acode_dropL {c : Code} : ∀ (L : List Ob), ACode P N c Q ⟨E, M⟩ → ACode P N c Q ⟨E, L ++ M⟩
  | [], h => h
  | _ :: L, h => acode_drop0 (acode_dropL L h)
/-- A store into any object, its cells told. -/
theorem aops_stk (hT : TOk P T) (k : Nat) {t : Nat} {p x : Operand} {b off : Nat} {i : TI} {y : A} {room : Nat} {cs : List A} (cs' : List A) (M' : List Ob) (ho : o.op = .store t p x) (hp : opA E p = .ref b off) (hx : opA E x = y) (hk : known T t = some i)
    (hM : M[k]? = some ⟨some b, room, cs⟩) (hy : (Nat.beq y.cs.length i.size && cellsOk y) = true) (hoff : off + i.size ≤ cs.length) (hcs : cs.take off ++ (y.cs ++ cs.drop (off + i.size)) = cs') (hM' : M.set k ⟨some b, room, cs'⟩ = M')
    (hg : guardOn ops o E = some true) (hd : o.dst = none) (next : AOps P N ops rest Q ⟨E, M'⟩) : AOps P N ops (o :: rest) Q ⟨E, M⟩ := by
  refine aops_store hT k ho hp hx hk hM hy hoff cs' hcs hg (by rw [hd]; rfl) ?_
  rw [hM', hd]; exact next
/-! ### division of what is not below nothing -/
end
end Go.Proofs.Ytobpbelgihilpaa.Ab
/- Regions whose order is drawn, looked at in an order of one's own. No condition. -/
set_option linter.unusedVariables false
set_option linter.unusedSimpArgs false
namespace Go.Proofs.Ytobpbelgihilpaa.Ab
section
variable {P : Program} {T : List TI} {N : Nat} {ops : Array Oper} {rest : List Oper} {o : Oper} {Q : Exit → St → Prop} {E F : Env} {M : List Ob}
def pickL (l : List Oper) : List Nat → Option (List Oper)
  | [] => some []
  | j :: js => match l[j]?, pickL l js with
    | some o, some r => some (o :: r)
    | _, _ => none
theorem pickL_at {l : List Oper} : ∀ {js : List Nat} {r : List Oper}, pickL l js = some r → r.length = js.length ∧ ∀ p : Nat, r[p]? = (js[p]?).bind fun (j : Nat) => l[j]?
  | [], r, h => by simp [pickL] at h; subst h; simp
  | j :: js, r, h => by
    simp only [pickL] at h
    split at h
    · rename_i o r' h1 h2
      cases h
      obtain ⟨i1, i2⟩ := pickL_at h2
      refine ⟨by simp [i1], fun p => ?_⟩
      cases p with
      | zero => simp [h1]
      | succ p => simpa using i2 p
    · cases h
/-- The form of such a region; js: the order of the first n; al: the places in it of those that make something. -/
def drawP (ops : Array Oper) (js al : List Nat) (n : Nat) : Bool :=
  Nat.ble n ops.size && Nat.beq js.length n &&
  ((List.range n).all fun i => ((ops[i]?).map fun o => (o.after.all fun e => !Region.binds .any e || Nat.blt e.on i) && (o.looksAt ops).all fun t => (List.range n).all fun j => !((ops[j]?).bind (·.dst) == some t) || (Region.waitsFor .any ops i j || Region.waitsFor .any ops j i)).getD false) &&
  ((List.range n).all fun i => (List.range n).all fun j => Nat.beq i j || (match (ops[i]?).bind (·.dst) with | some d => !((ops[j]?).bind (·.dst) == some d) | none => true)) &&
  ((List.range ops.size).all fun k => Nat.blt k n || (List.range n).all fun j => waitsT ops 12 k j) &&
  (al.all fun p => (List.range n).all fun q => Nat.ble q p || waitsT ops 12 (js.getD q 0) (js.getD p 0)) &&
  ((List.range n).all fun i => js.contains i) &&
  (js.all fun i => Nat.blt i n) &&
  ((List.range n).all fun p => (List.range n).all fun q => Nat.blt q p || !Region.waitsFor .any ops (js.getD p 0) (js.getD q 0)) &&
  ((List.range n).all fun p => (List.range n).all fun q => Nat.beq p q || !Nat.beq (js.getD p 0) (js.getD q 0))

theorem splitO_get {kp : List Ob} {al : List Nat} {n : Nat} {l : List Oper} {vals : (Nat → List Nat) → Nat → A} {Fs : (Nat → List Nat) → Nat → Env} {Ms : (Nat → List Nat) → Nat → List Ob} (s : SplitO P N ops Q kp al 0 E M n l vals Fs Ms) (hn : n ≤ l.length) (β : Nat → List Nat) (t : Nat) (hdst : ∀ i j, i < n → j < n → dstAt l.toArray i = some t → dstAt l.toArray j = some t → i = j) :
    ∀ k, k ≤ n → (∀ j, j < k → dstAt l.toArray j = some t → get (Fs β k) t = vals β j) ∧ ((∀ j, j < k → dstAt l.toArray j ≠ some t) → get (Fs β k) t = get E t) := by
  intro k
  induction k with
  | zero => intro _; exact ⟨fun j hj => by omega, fun _ => by rw [s.f0]⟩
  | succ k ih =>
    intro hk
    obtain ⟨i1, i2⟩ := ih (by omega)
    obtain ⟨o, ho⟩ : ∃ o, l[k]? = some o := ⟨l[k]'(by omega), List.getElem?_eq_getElem (by omega)⟩
    have hd : dstAt l.toArray k = o.dst := by simp [dstAt, ho]
    rw [(s.step k o (by omega) ho β).1, get_put]
    refine ⟨fun j hj hdj => ?_, fun hno => ?_⟩
    · by_cases hjk : j = k
      · subst hjk; rw [if_pos (hd ▸ hdj)]
      · have : o.dst ≠ some t := fun e => hjk (hdst j k (by omega) (by omega) hdj (hd.trans e))
        rw [if_neg this]; exact i1 j (by omega) hdj
    · rw [if_neg (hd ▸ hno k (by omega))]
      exact i2 fun j hj => hno j (by omega)
theorem splitO_grow {kp : List Ob} {al : List Nat} {n : Nat} {l : List Oper} {vals : (Nat → List Nat) → Nat → A} {Fs : (Nat → List Nat) → Nat → Env} {Ms : (Nat → List Nat) → Nat → List Ob} (s : SplitO P N ops Q kp al 0 E M n l vals Fs Ms) (hn : n ≤ l.length) (β : Nat → List Nat) (i : Nat) : ∀ d, i + d ≤ n → (Ms β (i + d) = Ms β i ∨ ∀ o ∈ kp, o ∈ Ms β (i + d)) ∧ ((∀ k, i ≤ k → k < i + d → al.contains k = false) → Ms β (i + d) = Ms β i)
  | 0, _ => ⟨.inl rfl, fun _ => rfl⟩
  | d + 1, h => by
    obtain ⟨h1, h2⟩ := splitO_grow s hn β i d (by omega)
    obtain ⟨o, ho⟩ : ∃ o, l[i + d]? = some o := ⟨l[i + d]'(by omega), List.getElem?_eq_getElem (by omega)⟩
    rcases (s.step (i + d) o (by omega) ho β).2 with ⟨a1, a2, _⟩ | ⟨a1, a2, _⟩
    · rw [show i + (d + 1) = i + d + 1 from rfl, a2]
      exact ⟨h1, fun hk => h2 fun k h0 h1 => hk k h0 (by omega)⟩
    · rw [show i + (d + 1) = i + d + 1 from rfl]
      refine ⟨.inr a2, fun hk => ?_⟩
      have := hk (i + d) (by omega) (by omega)
      rw [Nat.zero_add] at a1
      rw [a1] at this; cases this

theorem any_drawP {l l' : List Oper} (kp : List Ob) (n : Nat) (js al : List Nat) (hm : P.follows .mixedOrders = true) (hB : drawP l.toArray js al n = true)
    (hseq : Region.seqB .any l.toArray (l.drop n).length n (((List.range l.length).map fun i => Nat.blt i n).toArray) = true)
    (hl' : pickL l (js ++ (List.range l.length).drop n) = some l')
    (h : SeqO P N l.toArray Q kp al 0 E M n l') : ∀ K G a w, Inv K N G ⟨E, M⟩ a w → wpAny P .any l.toArray (lift K N Q) l.toArray.size (Array.replicate l.toArray.size false) a w.drew := by
  obtain ⟨vals, Fs, Ms, s⟩ := h.split
  intro K G a w hi
  have hi' : Inv K N G ⟨E, M⟩ a w.drew := ⟨hi.ok.drew, hi.sz, hi.df, hi.ev⟩
  change wpAny P .any l.toArray (lift K N Q) l.toArray.size (Array.replicate l.toArray.size false) a w.drew
  simp only [drawP, Bool.and_eq_true] at hB
  obtain ⟨⟨⟨⟨⟨⟨⟨⟨⟨hn, hjn⟩, hlook⟩, hdst⟩, htail⟩, hal⟩, hcov⟩, hjlt⟩, hord⟩, hinj⟩ := hB
  have hn : n ≤ l.length := by simpa using Nat.le_of_ble_eq_true hn
  have hjn : js.length = n := Nat.eq_of_beq_eq_true hjn
  obtain ⟨hll, hlat⟩ := pickL_at hl'
  have hll : l'.length = l.length := by rw [hll]; simp; omega
  -- the places
  have hcov' : ∀ i, i < n → ∃ p, p < n ∧ js.getD p 0 = i := by
    intro i hi
    have := List.all_eq_true.1 hcov i (List.mem_range.2 hi)
    have hm : i ∈ js := by simpa using this
    obtain ⟨p, hp, e⟩ := List.getElem_of_mem hm
    exact ⟨p, by omega, by rw [List.getD_eq_getElem?_getD, List.getElem?_eq_getElem hp, e]; rfl⟩
  have hjlt' : ∀ p, p < n → js.getD p 0 < n := by
    intro p hp
    have hp' : p < js.length := by omega
    have := List.all_eq_true.1 hjlt js[p] (List.getElem_mem hp')
    rw [List.getD_eq_getElem?_getD, List.getElem?_eq_getElem hp']
    simpa using this
  have hinj' : ∀ p q, p < n → q < n → js.getD p 0 = js.getD q 0 → p = q := by
    intro p q hp hq e
    have := List.all_eq_true.1 (List.all_eq_true.1 hinj p (List.mem_range.2 hp)) q (List.mem_range.2 hq)
    simp only [Bool.or_eq_true, Bool.not_eq_true'] at this
    rcases this with h | h
    · exact Nat.eq_of_beq_eq_true h
    · rw [e] at h; simp at h
  have hord' : ∀ p q, p < n → q < n → Region.waitsFor .any l.toArray (js.getD p 0) (js.getD q 0) = true → q < p := by
    intro p q hp hq e
    have := List.all_eq_true.1 (List.all_eq_true.1 hord p (List.mem_range.2 hp)) q (List.mem_range.2 hq)
    simp only [Bool.or_eq_true, Bool.not_eq_true'] at this
    rcases this with h | h
    · simpa using h
    · rw [e] at h; cases h
  have hat : ∀ p, p < n → l'[p]? = l[js.getD p 0]? := by
    intro p hp
    rw [hlat p, List.getElem?_append_left (by omega), List.getD_eq_getElem?_getD, List.getElem?_eq_getElem (show p < js.length by omega)]
    rfl
  have hdropEq : l'.drop n = l.drop n := by
    apply List.ext_getElem?
    intro p
    rw [List.getElem?_drop, List.getElem?_drop, hlat (n + p), List.getElem?_append_right (by omega), hjn, Nat.add_sub_cancel_left, List.getElem?_drop]
    by_cases h : n + p < l.length
    · rw [List.getElem?_range h]; rfl
    · rw [List.getElem?_eq_none (by simp; omega), List.getElem?_eq_none (by omega)]; rfl
  have hdat : ∀ p, p < n → dstAt l'.toArray p = dstAt l.toArray (js.getD p 0) := by
    intro p hp
    simp [dstAt, hat p hp]
  have hdst' : ∀ t i j, i < n → j < n → dstAt l.toArray i = some t → dstAt l.toArray j = some t → i = j := by
    intro t i j h1 h2 e1 e2
    have := List.all_eq_true.1 (List.all_eq_true.1 hdst i (List.mem_range.2 h1)) j (List.mem_range.2 h2)
    unfold dstAt at e1 e2
    rw [e1] at this
    simp only [Bool.or_eq_true] at this
    rcases this with h | h
    · exact Nat.eq_of_beq_eq_true h
    · rw [e2] at h; simp at h
  have hdstP : ∀ t p q, p < n → q < n → dstAt l'.toArray p = some t → dstAt l'.toArray q = some t → p = q := by
    intro t p q h1 h2 e1 e2
    rw [hdat p h1] at e1; rw [hdat q h2] at e2
    exact hinj' p q h1 h2 (hdst' t _ _ (hjlt' p h1) (hjlt' q h2) e1 e2)
  have hal' : ∀ p q, al.contains p = true → p < q → q < n → waitsT l.toArray 12 (js.getD q 0) (js.getD p 0) = true := by
    intro i j hc hij hj
    have h1 := List.all_eq_true.1 (List.all_eq_true.1 hal i (by simpa using hc)) j (List.mem_range.2 hj)
    simp only [Bool.or_eq_true] at h1
    rcases h1 with h1 | h1
    · have := Nat.le_of_ble_eq_true h1; omega
    · exact h1
  let pos : Nat → Nat := fun i => js.idxOf i
  have hpos : ∀ i, i < n → pos i < n ∧ js.getD (pos i) 0 = i := by
    intro i hi
    have hm : i ∈ js := by simpa using List.all_eq_true.1 hcov i (List.mem_range.2 hi)
    have h1 : js.idxOf i < js.length := List.idxOf_lt_length_of_mem hm
    have h2 : js.idxOf i < n := by omega
    refine ⟨h2, ?_⟩
    show js.getD (js.idxOf i) 0 = i
    rw [List.getD_eq_getElem?_getD, List.getElem?_eq_getElem h1, List.getElem_idxOf]; rfl
  let V : (Nat → List Nat) → List A := fun β => (List.range n).map fun i => vals β (pos i)
  have hV : ∀ β i, i < n → (V β).getD i .any = vals β (pos i) := fun β i hi => getD_map_range _ _ _ hi
  have body : ∀ (c : Nat) (listed : Array Bool), todo listed n = c → listed.size = l.length → (∀ k, n ≤ k → listed.getD k false = false) →
      (∀ k j, listed.getD k false = true → Region.waitsFor .any l.toArray k j = true → listed.getD j false = true) →
      ∀ (β : Nat → List Nat) (top : Nat), top ≤ n → (∀ p, p < top → al.contains p = true → listed.getD (js.getD p 0) false = true) → (∀ p, top ≤ p → p < n → al.contains p = true → listed.getD (js.getD p 0) false = false) →
      ∀ G a w, Inv K N G ⟨envS l.toArray (V β) listed n E, Ms β top⟩ a w →
      wpAny P .any l.toArray (lift K N Q) (c + (l.length - n)) listed a w := by
    intro c
    induction c with
    | zero =>
      intro listed hc hsz hno hcl β top htn ht1 ht2 G a w hi
      have hall : ∀ i, i < n → listed.getD i false = true := by
        intro i hin
        have : i ∉ (List.range n).filter fun i => !listed.getD i false := by
          have h0 := List.eq_nil_of_length_eq_zero hc
          rw [h0]; simp
        simp [hin] at this
        cases hb : listed.getD i false with
        | true => rfl
        | false => rw [Array.getD_eq_getD_getElem?] at hb; simp [hb] at this
      have he : listed = ((List.range l.length).map fun i => Nat.blt i n).toArray := by
        apply Array.ext (by simp [hsz])
        intro i h1 h2
        have e1 : listed.getD i false = listed[i] := by simp [h1]
        by_cases hin : i < n
        · have := hall i hin
          rw [e1] at this
          rw [this]; simp [hin]
        · have := hno i (by omega)
          rw [e1] at this
          rw [this]
          have : Nat.blt i n = false := by cases hb : Nat.blt i n with | false => rfl | true => exact absurd (by simpa using hb) hin
          simp [this]
      have hM : Ms β n = Ms β top := by
        obtain ⟨d, rfl⟩ : ∃ d, n = top + d := ⟨n - top, by omega⟩
        refine (splitO_grow s (by omega) β top d (Nat.le_refl _)).2 fun k h0 h1 => ?_
        cases hb : al.contains k with
        | false => rfl
        | true => have := ht2 k h0 h1 hb; rw [hall _ (hjlt' k h1)] at this; cases this
      have hi2 : Inv K N G ⟨Fs β n, Ms β n⟩ a w := by
        rw [hM]
        refine inv_E hi (fun t v hr => ?_)
        have hg : get (envS l.toArray (V β) listed n E) t = get (Fs β n) t := by
          obtain ⟨p1, p2⟩ := envS_get (ops := l.toArray) (V β) listed E t n (fun i j => hdst' t i j)
          obtain ⟨q1, q2⟩ := splitO_get s (by omega) β t (fun i j => hdstP t i j) n (Nat.le_refl _)
          by_cases hex : ∃ i, i < n ∧ dstAt l.toArray i = some t
          · obtain ⟨i, h1, h2⟩ := hex
            obtain ⟨k1, k2⟩ := hpos i h1
            rw [p1 i h1 h2 (hall i h1), q1 (pos i) k1 (by rw [hdat _ k1, k2]; exact h2), hV β i h1]
          · rw [p2 (fun i h1 h2 => absurd ⟨i, h1, h2⟩ hex), q2 (fun i h1 h2 => absurd ⟨_, hjlt' i h1, by rw [← hdat i h1]; exact h2⟩ hex)]
        rw [← hg]; exact hr
      have := wpAny_of_seq (P := P) (Q' := lift K N Q) (l.drop n) n listed a w (fun j => by simp) (by rw [he]; exact hseq) (hdropEq ▸ s.last β K G a w hi2)
      rw [Nat.zero_add, show l.length - n = (l.drop n).length from by simp]
      exact this
    | succ c ih =>
      intro listed hc hsz hno hcl β top htn ht1 ht2 G a w hi
      rw [Nat.succ_add]
      obtain ⟨i0, hi0, hmin⟩ : ∃ i, (i < n ∧ listed.getD i false = false) ∧ ∀ j, j < i → ¬ (j < n ∧ listed.getD j false = false) := by
        have hne : ((List.range n).filter fun i => !listed.getD i false) ≠ [] := by
          intro h; unfold todo at hc; rw [h] at hc; simp at hc
        obtain ⟨i, hmem⟩ := List.exists_mem_of_ne_nil _ hne
        simp only [List.mem_filter, List.mem_range, Bool.not_eq_true'] at hmem
        have : ∀ m i, i ≤ m → (i < n ∧ listed.getD i false = false) → ∃ i, (i < n ∧ listed.getD i false = false) ∧ ∀ j, j < i → ¬ (j < n ∧ listed.getD j false = false) := by
          intro m
          induction m with
          | zero => intro i him hp; exact ⟨i, hp, fun j hj => by omega⟩
          | succ m ihm =>
            intro i him hp
            by_cases hj : ∃ j, j < i ∧ (j < n ∧ listed.getD j false = false)
            · obtain ⟨j, h1, h2⟩ := hj
              exact ihm j (by omega) h2
            · exact ⟨i, hp, fun j hj' hp' => hj ⟨j, hj', hp'⟩⟩
        exact this i i (Nat.le_refl _) hmem
      have hready0 : i0 ∈ Region.ready .any l.toArray listed := by
        have hoi : ∃ o, l[i0]? = some o := ⟨l[i0]'(by omega), List.getElem?_eq_getElem (by omega)⟩
        obtain ⟨oi, hoi⟩ := hoi
        refine mem_ready.2 ⟨getD_in (by omega) hi0.2, oi, by simpa using hoi, fun e he hb => ?_⟩
        have h1 := List.all_eq_true.1 hlook i0 (List.mem_range.2 hi0.1)
        have h2 : (l.toArray[i0]?) = some oi := by simpa using hoi
        rw [h2] at h1
        simp only [Option.map_some, Option.getD_some, Bool.and_eq_true] at h1
        have h3 := Array.all_eq_true'.1 h1.1 e he
        simp only [Bool.or_eq_true, Bool.not_eq_true'] at h3
        rcases h3 with h3 | h3
        · rw [hb] at h3; cases h3
        · have hlt : e.on < i0 := by simpa using h3
          have := hmin e.on hlt
          cases hx : listed.getD e.on false with
          | true => rfl
          | false => exact absurd ⟨by omega, hx⟩ this
      refine ⟨fun h => (by rw [h] at hready0; cases hready0), fun i hir => ?_⟩
      obtain ⟨hun, oi, hoi, hall⟩ := mem_ready.1 hir
      have hoi' : l[i]? = some oi := by simpa using hoi
      have hil : i < l.length := (List.getElem?_eq_some_iff.1 hoi').1
      have hun' := getD_both hun
      have hrd : ∀ j, Region.waitsFor .any l.toArray i j = true → listed.getD j false = true := by
        intro j hw
        obtain ⟨oj, hoj, e, he, hbind, hon⟩ := Region.waitsFor_spec hw
        have : oj = oi := Option.some.inj (hoj.symm.trans hoi)
        subst this
        have h3 := hall e he hbind
        rwa [hon] at h3
      have hrdT := fun f j h => waitsT_ready hcl hrd f j h
      have hin : i < n := by
        apply Classical.byContradiction
        intro hge
        have h1 := List.all_eq_true.1 htail i (List.mem_range.2 (by simpa using hil))
        have hb : Nat.blt i n = false := by cases hb : Nat.blt i n with | false => rfl | true => exact absurd (by simpa using hb) hge
        rw [hb, Bool.false_or] at h1
        have h2 := List.all_eq_true.1 h1 i0 (List.mem_range.2 hi0.1)
        have := hrdT _ _ h2
        rw [hi0.2] at this
        cases this
      obtain ⟨hpn, hpi⟩ := hpos i hin
      have hop : l'[pos i]? = some oi := by rw [hat _ hpn, hpi]; exact hoi'
      have hlk := List.all_eq_true.1 hlook i (List.mem_range.2 hin)
      rw [hoi] at hlk
      simp only [Option.map_some, Option.getD_some, Bool.and_eq_true] at hlk
      have hE : ∀ t ∈ oi.looksAt l.toArray, get (envS l.toArray (V β) listed n E) t = get (Fs β (pos i)) t := by
        intro t ht
        have h2 := List.all_eq_true.1 hlk.2 t ht
        obtain ⟨p1, p2⟩ := envS_get (ops := l.toArray) (V β) listed E t n (fun i j => hdst' t i j)
        obtain ⟨q1, q2⟩ := splitO_get s (by omega) β t (fun i j => hdstP t i j) (pos i) (by omega)
        by_cases hex : ∃ j, j < n ∧ dstAt l.toArray j = some t
        · obtain ⟨j, hj, hdj⟩ := hex
          have h3 := List.all_eq_true.1 h2 j (List.mem_range.2 hj)
          have hdj' := hdj
          unfold dstAt at hdj'
          rw [hdj'] at h3
          simp only [beq_self_eq_true, Bool.not_true, Bool.false_or, Bool.or_eq_true] at h3
          obtain ⟨k1, k2⟩ := hpos j hj
          rcases h3 with h3 | h3
          · have hlj := hrd j h3
            have hji : pos j < pos i := hord' (pos i) (pos j) hpn k1 (by rw [hpi, k2]; exact h3)
            rw [p1 j hj hdj hlj, q1 (pos j) hji (by rw [hdat _ k1, k2]; exact hdj), hV β j hj]
          · have hlj : listed.getD j false = false := by
              cases hb : listed.getD j false with
              | false => rfl
              | true =>
                have := hcl j i hb h3
                rw [hun'] at this; cases this
            have hij : pos i < pos j := hord' (pos j) (pos i) k1 hpn (by rw [hpi, k2]; exact h3)
            have uniq : ∀ k, k < n → dstAt l.toArray k = some t → k = j := fun k hk hdk => hdst' t k j hk hj hdk hdj
            rw [p2 (fun k hk hdk => by rw [uniq k hk hdk]; exact hlj), q2 (fun p hp hdp => by
              have hp' : p < n := by omega
              rw [hdat p hp'] at hdp
              have e1 := uniq _ (hjlt' p hp') hdp
              have e2 : p = pos j := hinj' p (pos j) hp' k1 (by rw [e1, k2])
              omega)]
        · rw [p2 (fun j h1 h2 => absurd ⟨j, h1, h2⟩ hex), q2 (fun j h1 h2 => absurd ⟨_, hjlt' j (by omega), by rw [← hdat j (by omega)]; exact h2⟩ hex)]
      have hdi : dstAt l.toArray i = oi.dst := by simp [dstAt, hoi']
      have hbetw : ∀ k, top ≤ k → k < pos i → al.contains k = false := by
        intro k h0 h1
        cases hb : al.contains k with
        | false => rfl
        | true =>
          have h2 := hrdT 12 (js.getD k 0) (by have := hal' k (pos i) hb h1 hpn; rwa [hpi] at this)
          rw [ht2 k h0 (by omega) hb] at h2
          cases h2
      have hcl' : ∀ k j, (listed.setIfInBounds i true).getD k false = true → Region.waitsFor .any l.toArray k j = true → (listed.setIfInBounds i true).getD j false = true := by
        intro k j hk hw
        rw [getD_set' _ _ _ (by omega)] at hk ⊢
        split
        · rfl
        · by_cases hik : i = k
          · subst hik; exact hrd j hw
          · rw [if_neg hik] at hk; exact hcl k j hk hw
      have hno' : ∀ k, n ≤ k → (listed.setIfInBounds i true).getD k false = false := fun k hk => by rw [getD_set' _ _ _ (by omega), if_neg (by omega)]; exact hno k hk
      have htodo' : todo (listed.setIfInBounds i true) n = c := by have := todo_set listed n i hin (by omega) hun'; omega
      have henv : ∀ (W : List A) (t : Nat), (∀ j, j < n → listed.getD j false = true → W.getD j .any = (V β).getD j .any) → get (envS l.toArray W (listed.setIfInBounds i true) n E) t = get (put (envS l.toArray (V β) listed n E) oi.dst (W.getD i .any)) t := by
        intro W t hW
        rw [get_put']
        obtain ⟨p1, p2⟩ := envS_get (ops := l.toArray) (V β) listed E t n (fun i j => hdst' t i j)
        obtain ⟨q1, q2⟩ := envS_get (ops := l.toArray) W (listed.setIfInBounds i true) E t n (fun i j => hdst' t i j)
        by_cases hdt : oi.dst = some t
        · rw [if_pos hdt]
          exact q1 i hin (hdi.trans hdt) (by rw [getD_set' _ _ _ (by omega), if_pos rfl])
        · rw [if_neg hdt]
          by_cases hex : ∃ j, j < n ∧ dstAt l.toArray j = some t
          · obtain ⟨j, hj, hdj⟩ := hex
            have hji : i ≠ j := by rintro rfl; exact hdt (hdi.symm.trans hdj)
            cases hlj : listed.getD j false with
            | true => rw [p1 j hj hdj hlj, q1 j hj hdj (by rw [getD_set' _ _ _ (by omega), if_neg hji]; exact hlj), hW j hj hlj]
            | false =>
              have uniq : ∀ k, k < n → dstAt l.toArray k = some t → k = j := fun k hk hdk => hdst' t k j hk hj hdk hdj
              rw [p2 (fun k hk hdk => by rw [uniq k hk hdk]; exact hlj), q2 (fun k hk hdk => by rw [uniq k hk hdk, getD_set' _ _ _ (by omega), if_neg hji]; exact hlj)]
          · rw [p2 (fun j h1 h2 => absurd ⟨j, h1, h2⟩ hex), q2 (fun j h1 h2 => absurd ⟨j, h1, h2⟩ hex)]
      unfold wpOp
      rw [hoi]
      rcases (s.step (pos i) oi hpn hop β).2 with ⟨a1, a2, hy⟩ | ⟨a1, a2, hy⟩
      · rw [Nat.zero_add] at a1
        have hpe : Ms β top = Ms β (pos i) ∨ (∀ o ∈ kp, o ∈ Ms β top) ∧ ∃ j ∈ al, 0 + pos i < j := by
          by_cases hti : top ≤ pos i
          · obtain ⟨d, hd⟩ : ∃ d, pos i = top + d := ⟨pos i - top, by omega⟩
            have := (splitO_grow s (by omega) β top d (by omega)).2 fun k h0 h1 => hbetw k h0 (by omega)
            exact .inl (by rw [hd, this])
          · obtain ⟨d, rfl⟩ : ∃ d, top = pos i + d := ⟨top - pos i, by omega⟩
            obtain ⟨h1, h2⟩ := splitO_grow s (by omega) β (pos i) d htn
            by_cases hsome : ∃ k, pos i ≤ k ∧ k < pos i + d ∧ al.contains k = true
            · obtain ⟨k, k1, k2, k3⟩ := hsome
              have hne : k ≠ pos i := by rintro rfl; rw [a1] at k3; cases k3
              exact h1.imp (fun e => e) fun h1 => ⟨h1, k, by simpa using k3, by omega⟩
            · exact .inl (h2 fun k k1 k2 => by
                cases hb : al.contains k with
                | false => rfl
                | true => exact absurd ⟨k, k1, k2, hb⟩ hsome)
        have hstep := fun Kn hKn => ((hy _ hpe).wp (K := K) hE hi (Kn := Kn) (Q' := lift K N Q) hKn)
        have fin : ∀ G' a' w', Inv K N G' ⟨put (envS l.toArray (V β) listed n E) oi.dst (vals β (pos i)), Ms β top⟩ a' w' → wpAny P .any l.toArray (lift K N Q) (c + (l.length - n)) (listed.setIfInBounds i true) a' w' := by
          intro G' a' w' hi'
          refine ih (listed.setIfInBounds i true) htodo' (by simp [hsz]) hno' hcl' β top htn (fun k hk hc => ?_) (fun k hk hkn hc => ?_) G' a' w' ?_
          · rw [getD_set' _ _ _ (by omega)]; split; rfl; exact ht1 k hk hc
          · have : i ≠ js.getD k 0 := by
              intro e
              have : pos i = k := hinj' _ _ hpn hkn (by rw [hpi]; exact e)
              rw [this] at a1; rw [a1] at hc; cases hc
            rw [getD_set' _ _ _ (by omega), if_neg this]; exact ht2 k hk hkn hc
          · refine inv_E hi' (fun t v hr => ?_)
            rw [henv (V β) t fun _ _ _ => rfl, hV β i hin]; exact hr
        have := hstep _ fin
        split at this
        · rename_i hw; simp only [hw, if_true]; exact .inl this
        · rename_i hw; simp only [hw]; exact this
      · rw [Nat.zero_add] at a1
        have hti : top ≤ pos i := by
          apply Classical.byContradiction
          intro h
          have := ht1 (pos i) (by omega) a1
          rw [hpi, hun'] at this; cases this
        have hMi : Ms β top = Ms β (pos i) := by
          obtain ⟨d, hd⟩ : ∃ d, pos i = top + d := ⟨pos i - top, by omega⟩
          have := (splitO_grow s (by omega) β top d (by omega)).2 fun k h0 h1 => hbetw k h0 (by omega)
          rw [hd, this]
        rw [hMi] at hi
        have hgoal : ∀ b G' a' w', Inv K N G' ⟨put (envS l.toArray (V β) listed n E) oi.dst (vals (fun j => if j = pos i then b else β j) (pos i)), Ms (fun j => if j = pos i then b else β j) (pos i + 1)⟩ a' w' → wpAny P .any l.toArray (lift K N Q) (c + (l.length - n)) (listed.setIfInBounds i true) a' w' := by
          intro b G' a' w' hi'
          refine ih (listed.setIfInBounds i true) htodo' (by simp [hsz]) hno' hcl' (fun j => if j = pos i then b else β j) (pos i + 1) (by omega) (fun k hk hc => ?_) (fun k hk hkn hc => ?_) G' a' w' ?_
          · rw [getD_set' _ _ _ (by omega)]
            by_cases hik : i = js.getD k 0
            · rw [if_pos hik]
            · rw [if_neg hik]
              by_cases hkt : k < top
              · exact ht1 k hkt hc
              · have : k ≠ pos i := by rintro rfl; exact hik hpi.symm
                rw [hbetw k (by omega) (by omega)] at hc; cases hc
          · have : i ≠ js.getD k 0 := by
              intro e
              have : pos i = k := hinj' _ _ hpn hkn (by rw [hpi]; exact e)
              omega
            rw [getD_set' _ _ _ (by omega), if_neg this]; exact ht2 k (by omega) hkn hc
          · refine inv_E hi' (fun t v hr => ?_)
            rw [henv (V fun j => if j = pos i then b else β j) t fun j hj hlj => ?_, hV _ i hin]
            · exact hr
            · rw [hV _ j hj, hV _ j hj]
              obtain ⟨k1, k2⟩ := hpos j hj
              refine s.vb _ _ (pos j) fun m hm => ?_
              by_cases hmi : m = pos i
              · subst hmi
                exfalso
                by_cases hjm : pos j = pos i
                · have : j = i := by rw [← k2, ← hpi, hjm]
                  subst this; rw [hun'] at hlj; cases hlj
                · have h2 := waitsT_listed hcl 12 j i hlj (by have := hal' (pos i) (pos j) a1 (by omega) k1; rwa [k2, hpi] at this)
                  rw [hun'] at h2; cases h2
              · simp only [if_neg hmi]
        have h1 := hy _ hE [] (fun e st => e = .normal ∧ ∃ b, st = ⟨put (envS l.toArray (V β) listed n E) oi.dst (vals (fun j => if j = pos i then b else β j) (pos i)), Ms (fun j => if j = pos i then b else β j) (pos i + 1)⟩) (fun b => aops_nil ⟨rfl, b, rfl⟩) K G a w hi
        have hnil : ∀ a' w', wpList P l.toArray (lift K N fun e st => e = .normal ∧ ∃ b, st = ⟨put (envS l.toArray (V β) listed n E) oi.dst (vals (fun j => if j = pos i then b else β j) (pos i)), Ms (fun j => if j = pos i then b else β j) (pos i + 1)⟩) [] a' w' → wpAny P .any l.toArray (lift K N Q) (c + (l.length - n)) (listed.setIfInBounds i true) a' w' := by
          rintro a' w' ⟨G', st, ⟨_, b, rfl⟩, hi'⟩
          exact hgoal b G' a' w' hi'
        simp only [wpList] at h1
        split at h1
        · rename_i hw
          simp only [hw, if_true]
          rcases h1 with h1 | ⟨_, a0, w0, G', st, ⟨he, _⟩, _⟩
          · refine .inl ?_
            unfold Oper.wp at h1 ⊢
            generalize (execOp a.eval oi).run P w = r at h1 ⊢
            cases r with
            | ok n w' =>
              cases n <;> simp only [Oper.upon] at h1 ⊢ <;> first
                | exact hnil _ _ h1
                | exact h1
                | (refine Calls.mono h1 (fun e w'' he => ?_)
                   cases e with
                   | returned v => exact hnil _ _ he
                   | panicked ch => obtain ⟨G', s, ⟨he, _⟩, _⟩ := he; cases he
                   | outgrown => obtain ⟨a0, w0, G', s, ⟨he, _⟩, _⟩ := he; cases he)
                | exact Rows.mono h1 (fun _ _ he => hnil _ _ he)
            | halt e w' =>
              cases e <;> simp only [Oper.upon] at h1 ⊢
              obtain ⟨G', st, ⟨he, _⟩, _⟩ := h1
              cases he
          · cases he
        · rename_i hw
          simp only [hw]
          exact hnil _ _ h1
  have hinit : Inv K N G ⟨envS l.toArray (V fun _ => []) (Array.replicate l.length false) n E, Ms (fun _ => []) 0⟩ a w.drew := by
    rw [s.m0]
    refine inv_E hi' (fun t v hr => ?_)
    obtain ⟨_, p2⟩ := envS_get (ops := l.toArray) (V fun _ => []) (Array.replicate l.length false) E t n (fun i j => hdst' t i j)
    rw [p2 (fun i _ _ => getD_replicate_false _ _)]
    exact hr
  have htodo : todo (Array.replicate l.length false) n = n := by
    simp only [todo]
    rw [List.filter_eq_self.2 (fun i _ => by rw [getD_replicate_false]; rfl)]
    simp
  have := body n (Array.replicate l.length false) htodo (by simp) (fun k _ => getD_replicate_false _ _) (fun k j hk => by rw [getD_replicate_false] at hk; cases hk) (fun _ => []) 0 (Nat.zero_le _) (fun k hk => by omega) (fun k _ _ _ => getD_replicate_false _ _) G a w.drew hinit
  simpa [show n + (l.length - n) = l.length from by omega] using this
theorem acode_drawP {id : Nat} {l l' : List Oper} (kp : List Ob) (n : Nat) (js al : List Nat) (hm : P.follows .mixedOrders = true) (hB : drawP l.toArray js al n = true)
    (hseq : Region.seqB .any l.toArray (l.drop n).length n (((List.range l.length).map fun i => Nat.blt i n).toArray) = true)
    (hl' : pickL l (js ++ (List.range l.length).drop n) = some l')
    (h : SeqO P N l.toArray Q kp al 0 E M n l') : ACode P N (.region id l.toArray true) Q ⟨E, M⟩ :=
  fun K G a w hi => wp_region_any hm (any_drawP kp n js al hm hB hseq hl' h K G a w hi)
end
end Go.Proofs.Ytobpbelgihilpaa.Ab
/- Rows of numbers as cells; truths. No condition. -/
set_option linter.unusedVariables false
set_option linter.unusedSimpArgs false
namespace Go.Proofs.Ytobpbelgihilpaa.Ab
def ints (l : List Int) : List A := l.map (A.int .i64)
def rng (n : Int) : Prop := -9223372036854775808 ≤ n ∧ n ≤ 9223372036854775807
theorem ints_at {l : List Int} {j : Int} {x : Int} (h : l[j.toNat]? = some x) : [A.int .i64 x] <+: (ints l).drop (j.toNat * 1) := by
  rw [Nat.mul_one]
  have hlt : j.toNat < l.length := (List.getElem?_eq_some_iff.1 h).1
  rw [List.drop_eq_getElem_cons (by simpa [ints] using hlt)]
  have h2 : (ints l)[j.toNat]? = some (.int .i64 x) := by simp [ints, h]
  rw [List.getElem?_eq_some_iff] at h2
  obtain ⟨h3, h4⟩ := h2
  rw [h4]
  exact ⟨(ints l).drop (j.toNat + 1), rfl⟩
theorem bt {p : Prop} [Decidable p] (h : p) : A.bool true = A.bool (decide p) := by rw [decide_eq_true h]
theorem bf {p : Prop} [Decidable p] (h : ¬ p) : A.bool false = A.bool (decide p) := by rw [decide_eq_false h]
theorem ints_len (l : List Int) : (ints l).length = l.length := by simp [ints]
theorem ints_app (l m : List Int) : ints (l ++ m) = ints l ++ ints m := by simp [ints]
theorem ints_zeros (n : Nat) : zerosA [A.int .i64 0] n = ints (List.replicate n 0) := by rw [zerosA_one]; simp [ints]
/-- A row's number, as the cell is loaded. -/
theorem ints_get {l : List Int} {j : Nat} {x : Int} (h : l[j]? = some x) : (ints l)[j]? = some (A.int .i64 x) := by simp [ints, h]
theorem ints_set {l : List Int} {j : Nat} (h : j < l.length) (x : Int) : (ints l).take j ++ ([A.int .i64 x] ++ (ints l).drop (j + 1)) = ints (l.set j x) := by
  rw [List.set_eq_take_append_cons_drop, if_pos h]; simp [ints]
theorem ints_set1 {l : List Int} {j : Nat} (h : j < l.length) (x : Int) : (ints l).take (j * 1) ++ ([A.int .i64 x] ++ (ints l).drop (j * 1 + 1)) = ints (l.set j x) := by
  rw [Nat.mul_one]; exact ints_set h x
theorem encs_len {α : Type} {e : α → List A} {s : Nat} (hs : ∀ x, (e x).length = s) (l : List α) : (encs e l).length = l.length * s := by
  induction l with
  | nil => simp [encs]
  | cons x l ih => simp only [encs, List.flatMap_cons, List.length_append, hs, List.length_cons] at *; rw [ih, Nat.add_mul]; omega
theorem encs_app {α : Type} (e : α → List A) (l m : List α) : encs e (l ++ m) = encs e l ++ encs e m := by simp [encs]
theorem encs_cell {α : Type} {e : α → List A} (h : ∀ x, (e x).all A.isCell = true) (l : List α) : (encs e l).all A.isCell = true := by
  induction l with
  | nil => rfl
  | cons x l ih => simp only [encs, List.flatMap_cons, List.all_append, h, Bool.true_and] at *; exact ih
end Go.Proofs.Ytobpbelgihilpaa.Ab
/- More rules: objects in another order; append to one's own within a drawn region. No condition. -/
set_option linter.unusedVariables false
set_option linter.unusedSimpArgs false
namespace Go.Proofs.Ytobpbelgihilpaa.Ab
section
variable {P : Program} {T : List TI} {N : Nat} {ops : Array Oper} {rest : List Oper} {o : Oper} {Q : Exit → St → Prop} {E F : Env} {M : List Ob}
theorem ok_perm {K : Ctx} {G : Gh} {w : World} {M' : List Ob} (hp : M.Perm M') (hok : Ok K G M w) : Ok K G M' w :=
  hok.sub (fun o ho => hp.mem_iff.2 ho) ((hp.filterMap _).nodup_iff.1 hok.nd)
theorem aops_perm {l : List Oper} (M' : List Ob) (hp : M.Perm M') (next : AOps P N ops l Q ⟨E, M'⟩) : AOps P N ops l Q ⟨E, M⟩ :=
  aops_weaken (st' := ⟨E, M'⟩) (fun K G _ w hi => ⟨G, ok_perm hp hi.ok, hi.sz, hi.df, hi.ev⟩) next
theorem acode_perm {c : Code} (M' : List Ob) (hp : M.Perm M') (next : ACode P N c Q ⟨E, M'⟩) : ACode P N c Q ⟨E, M⟩ :=
  acode_weaken (st' := ⟨E, M'⟩) (fun K G _ w hi => ⟨G, ok_perm hp hi.ok, hi.sz, hi.df, hi.ev⟩) next

def obZ (z : List Nat) : Option Nat := bif Nat.beq (z.headD 0) 0 then none else some (z.getD 1 0)
def capZ (z : List Nat) : Nat := z.getD 2 0
theorem z_of (ob : Option Nat) (cap : Nat) : ∃ z, obZ z = ob ∧ capZ z = cap := by
  cases ob with
  | none => exact ⟨[0, 0, cap], rfl, rfl⟩
  | some b => exact ⟨[1, b, cap], rfl, rfl⟩
/-- append to one's own, in a drawn region. -/
theorem seqO_app (hT : TOk P T) {kp : List Ob} {al : List Nat} {i : Nat} {ll : List Oper} {mm : Nat} {t e d : Nat} {ei : TI} {s x : Operand} {ob : Option Nat} {n cap room m : Nat} {cs ds : List A} (k : Nat) (hi : al.contains i = true) (ho : o.op = .call { callee := .builtin .append, args := #[s, x], argTypes := #[t, t] }) (hs : sliceOf T t = some (e, ei))
    (hsv : opA F s = .own ob n cap) (hx : opA F x = .psl m ds ∨ opA F x = .nils ∧ m = 0 ∧ ds = []) (hM : M[k]? = some ⟨ob, room, cs⟩) (hroom : room = cap * ei.size) (hcs : cs.length = n * ei.size) (hds : ds.length = m * ei.size) (hcell : ds.all A.isCell = true)
    (hz : (Nat.beq ei.zero.length ei.size && Nat.blt 0 ei.size) = true) (hbytes : (n + m) * ei.bytes ≤ 140737488355328) (hlen : n + m ≤ 140737488355328) (hkp : ∀ y, ∀ o ∈ kp, o ∈ M.set k y) (hg : guardOn ops o F = some true) (hd : o.dst = some d) (hN : Nat.blt d N = true)
    (next : ∀ ob' cap', SeqO P N ops Q kp al (i + 1) ((d, .own ob' (n + m) cap') :: F) (M.set k ⟨ob', cap' * ei.size, cs ++ ds⟩) mm ll) : SeqO P N ops Q kp al i F M (mm + 1) (o :: ll) := by
  refine SeqO.make (x := fun z => .own (obZ z) (n + m) (capZ z)) (M2 := fun z => M.set k ⟨obZ z, capZ z * ei.size, cs ++ ds⟩) hi (fun E hE rest Q next => ?_) (fun z o ho => hkp _ o ho) fun z => ?_
  · have e1 : ∀ y ∈ o.op.operands, opA E y = opA F y := fun y hy => agree_op hE hy
    have ex : opA E x = opA F x := e1 x (by rw [ho]; simp [Op.operands, Call.operands])
    refine aops_append hT k ho hs ((e1 s (by rw [ho]; simp [Op.operands, Call.operands])).trans hsv) (by rw [ex]; exact hx) hM hroom hcs hds hcell hz hbytes hlen ((agree_guard hE).trans hg) (by rw [hd]; exact hN) fun ob' cap' => ?_
    obtain ⟨z, rfl, rfl⟩ := z_of ob' cap'
    exact next z
  · rw [hd]; exact next _ _
theorem seqO_lit (hT : TOk P T) {kp : List Ob} {al : List Nat} {i : Nat} {ll : List Oper} {m d : Nat} {t len e : Nat} {ei : TI} {parts : Array (Nat × Operand)} {r r' : List A} (hi : al.contains i = false) (ho : o.op = .buildSlice t len parts) (hs : sliceOf T t = some (e, ei)) (hsz : (Nat.blt 0 (len * ei.size) && Nat.ble (len * ei.size) 16777216 && Nat.beq ei.zero.length ei.size) = true)
    (hf : fillA (fun i => some (i * ei.size, ei.size)) (zerosA (ei.zero.map ofZ) len) (parts.toList.map fun (i, x) => (i, opA F x)) = some r) (hr : normL r = some r') (hg : guardOn ops o F = some true) (hd : o.dst = some d) (hN : Nat.blt d N = true)
    (next : SeqO P N ops Q kp al (i + 1) ((d, .psl len r') :: F) M m ll) : SeqO P N ops Q kp al i F M (m + 1) (o :: ll) := by
  rw [normL_eq] at hr; cases hr
  exact seqO_y hi (fun M' => yields_lit hT ho hs hsz hf hg (by rw [hd]; exact hN)) hd next
/-- Rows of cells, each told otherwise. -/
theorem VwL.map {M : List Ob} {α : Type} {f g : α → List A} : ∀ {l : List α}, (∀ x ∈ l, VwL M (f x) (g x)) → VwL M (encs f l) (encs g l)
  | [], _ => .nil
  | x :: l, h => by
    simp only [encs, List.flatMap_cons]
    exact (h x (by simp)).app (VwL.map fun y hy => h y (by simp [hy]))
/-- One's own slice that is not empty has a block. -/
theorem aops_somed {l : List Oper} (t : Nat) {ob : Option Nat} {n cap : Nat} (h : get E t = .own ob n cap) (hn : 0 < n) (next : ∀ b, ob = some b → AOps P N ops l Q ⟨E, M⟩) : AOps P N ops l Q ⟨E, M⟩ := by
  intro K G a w hi
  cases ob with
  | some b => exact next b rfl K G a w hi
  | none =>
    have hr := hi.ev t
    simp only at hr
    rw [h] at hr
    obtain ⟨_, h0, _⟩ := hr
    omega
/-! ### rows of cells -/
/-- A frozen literal, its cells told plainly. -/
theorem aops_litn (hT : TOk P T) {d : Nat} {t len e : Nat} {ei : TI} {parts : Array (Nat × Operand)} {r : List A} (ho : o.op = .buildSlice t len parts) (hs : sliceOf T t = some (e, ei)) (hsz : (Nat.blt 0 (len * ei.size) && Nat.ble (len * ei.size) 16777216 && Nat.beq ei.zero.length ei.size) = true)
    (hf : (fillA (fun i => some (i * ei.size, ei.size)) (zerosA (ei.zero.map ofZ) len) (parts.toList.map fun (i, x) => (i, opA E x))).bind normL = some r) (hg : guardOn ops o E = some true) (hd : o.dst = some d) (hN : Nat.blt d N = true)
    (next : AOps P N ops rest Q ⟨(d, .psl len r) :: E, M⟩) : AOps P N ops (o :: rest) Q ⟨E, M⟩ := by
  have hf' : fillA (fun i => some (i * ei.size, ei.size)) (zerosA (ei.zero.map ofZ) len) (parts.toList.map fun (i, x) => (i, opA E x)) = some r := by
    rw [Option.bind_eq_some_iff] at hf
    obtain ⟨r', h1, h2⟩ := hf
    rw [normL_eq] at h2
    cases h2; exact h1
  exact aops_litf hT ho hs hsz hf' hg hd hN next
end
end Go.Proofs.Ytobpbelgihilpaa.Ab
/- More rules: one's own slice within an object. No condition. -/
set_option linter.unusedVariables false
set_option linter.unusedSimpArgs false
namespace Go.Proofs.Ytobpbelgihilpaa.Ab
section
variable {P : Program} {T : List TI} {N : Nat} {ops : Array Oper} {rest : List Oper} {o : Oper} {Q : Exit → St → Prop} {E F : Env} {M : List Ob}
theorem somed_inv {K : Ctx} {G : Gh} {a : Act} {w : World} (hi : Inv K N G ⟨E, M⟩ a w) (k j : Nat) {b room : Nat} {cs : List A} {ob : Option Nat} {n cap : Nat} (hM : M[k]? = some ⟨some b, room, cs⟩) (hc : cs[j]? = some (.own ob n cap)) (hn : 0 < n) : ∃ b', ob = some b' := by
  cases ob with
  | some b => exact ⟨b, rfl⟩
  | none =>
    obtain ⟨vs, sp, t, _, h2, _⟩ := hi.ok.ow _ (List.mem_of_getElem? hM) b rfl
    obtain ⟨v, _, hr⟩ := h2.at j hc
    obtain ⟨_, h0, _⟩ := hr
    omega
/-- One's own slice in an object's field, not empty, has a block. -/
theorem aops_somedM {l : List Oper} (k j : Nat) {b room : Nat} {cs : List A} {ob : Option Nat} {n cap : Nat} (hM : M[k]? = some ⟨some b, room, cs⟩) (hc : cs[j]? = some (.own ob n cap)) (hn : 0 < n) (next : ∀ b, ob = some b → AOps P N ops l Q ⟨E, M⟩) : AOps P N ops l Q ⟨E, M⟩ := by
  intro K G a w hi
  obtain ⟨b', h⟩ := somed_inv hi k j hM hc hn
  exact next b' h K G a w hi
theorem acode_somedM {c : Code} (k j : Nat) {b room : Nat} {cs : List A} {ob : Option Nat} {n cap : Nat} (hM : M[k]? = some ⟨some b, room, cs⟩) (hc : cs[j]? = some (.own ob n cap)) (hn : 0 < n) (next : ∀ b, ob = some b → ACode P N c Q ⟨E, M⟩) : ACode P N c Q ⟨E, M⟩ := by
  intro K G a w hi
  obtain ⟨b', h⟩ := somed_inv hi k j hM hc hn
  exact next b' h K G a w hi
end
end Go.Proofs.Ytobpbelgihilpaa.Ab
/- Calls that change some of one's own while all the rest is as good as frozen; much frozen at once. No condition. -/
set_option linter.unusedVariables false
set_option linter.unusedSimpArgs false
namespace Go.Proofs.Ytobpbelgihilpaa.Ab
section
variable {G G2 : Gh} {V : List Ob}
mutual
theorem vwg_rep (hle : G.le G2) (hat : ∀ b room cs, (⟨some b, room, cs⟩ : Ob) ∈ V → ∃ vs, RepL G cs vs ∧ vs.length ≤ room ∧ At G2 b 0 vs ∧ (cs ≠ [] → G2.U b)) : ∀ (x y : A) (v : Value), Vw V x y → Rep G x v → Rep G2 y v
  | _, _, v, .refl x, h => h.mono hle x v
  | _, _, v, .own hm hr hcs hsz hl, h => by
    simp only [Rep] at h
    obtain ⟨vs, h2, h3, h4, h5⟩ := hat _ _ _ hm
    have hlen := h2.length
    refine ⟨_, _, h, Nat.le_of_mul_le_mul_right (a := _) (b := _) ?_ hsz, by simp, vs, vwgL_rep hle hat _ _ vs hl h2, .inr ⟨_, 0, rfl, h4⟩⟩
    omega
  | _, _, v, .none, h => by
    obtain ⟨rfl, _, _⟩ := h
    exact ⟨Option.none, 0, rfl, Nat.le_refl _, by simp, [], rfl, .inl rfl⟩
  | _, _, v, .nils, h => nils_psl h
  | _, _, v, .ref hm hl, h => by
    simp only [Rep] at h
    obtain ⟨vs, h2, h3, h4, h5⟩ := hat _ _ _ hm
    exact ⟨_, 0, vs, h, h4, vwgL_rep hle hat _ _ vs hl h2⟩
  | _, _, v, .refc hm hne hl, h => by
    simp only [Rep] at h
    obtain ⟨vs, h2, h3, h4, h5⟩ := hat _ _ _ hm
    exact ⟨_, 0, vs, h, h4, vwgL_rep hle hat _ _ vs hl h2, h5 hne⟩
  | _, _, v, .soft hl, h => by
    simp only [Rep] at h
    obtain ⟨b, off, vs, e, ha, h2, _⟩ := h
    exact ⟨b, off, vs, e, ha.mono hle, vwgL_rep hle hat _ _ vs hl h2⟩
  | _, _, v, .agg hl, h => by
    obtain ⟨vs, e, hl'⟩ := h
    exact ⟨vs, e, vwgL_rep hle hat _ _ vs hl hl'⟩
  | _, _, v, .psl hl, h => by
    obtain ⟨a, cap, e, hn, h0, vs, hl', hz⟩ := h
    refine ⟨a, cap, e, hn, h0, vs, vwgL_rep hle hat _ _ vs hl hl', ?_⟩
    rcases hz with rfl | ⟨b, off, e1, hat'⟩
    · exact .inl hl.nil_of
    · exact .inr ⟨b, off, e1, hat'.mono hle⟩
theorem vwgL_rep (hle : G.le G2) (hat : ∀ b room cs, (⟨some b, room, cs⟩ : Ob) ∈ V → ∃ vs, RepL G cs vs ∧ vs.length ≤ room ∧ At G2 b 0 vs ∧ (cs ≠ [] → G2.U b)) : ∀ (xs ys : List A) (vs : List Value), VwL V xs ys → RepL G xs vs → RepL G2 ys vs
  | _, _, vs, .nil, h => h
  | _, _, vs, .cons h1 h2, h => by
    obtain ⟨v, vs', e, h3, h4⟩ := h
    exact ⟨v, vs', e, vwg_rep hle hat _ _ v h1 h3, vwgL_rep hle hat _ _ vs' h2 h4⟩
end
end
mutual
/-- A value that tells of nothing frozen. -/
def looseA : A → Bool
  | .any | .bool _ | .int _ _ | .str _ | .nils | .nilp | .nilf | .ref _ _ | .own _ _ _ | .mr _ => true
  | .agg cs => looseL cs
  | .tup cs => looseL cs
  | _ => false
def looseL : List A → Bool
  | [] => true
  | x :: xs => looseA x && looseL xs
end
mutual
theorem loose_rep {G G' : Gh} : ∀ (x : A) (v : Value), looseA x = true → Rep G x v → Rep G' x v
  | .any, v, _, h | .bool _, v, _, h | .int _ _, v, _, h | .str _, v, _, h | .nils, v, _, h | .nilp, v, _, h | .nilf, v, _, h | .ref _ _, v, _, h | .mr _, v, _, h => h
  | .own none _ _, v, _, h | .own (some _) _ _, v, _, h => h
  | .agg cs, v, hp, h => by
    obtain ⟨vs, e, hl⟩ := h
    exact ⟨vs, e, looseL_rep cs vs (by simpa only [looseA] using hp) hl⟩
  | .tup cs, v, hp, h => by
    obtain ⟨vs, e, hl⟩ := h
    exact ⟨vs, e, looseL_rep cs vs (by simpa only [looseA] using hp) hl⟩
  | .pp _, _, hp, _ | .cp _, _, hp, _ | .tref _ _, _, hp, _ | .town _ _ _ _, _, hp, _ | .psl _ _, _, hp, _ | .fn _ _, _, hp, _ | .mp _, _, hp, _ | .yld _, _, hp, _ => by simp [looseA] at hp
theorem looseL_rep {G G' : Gh} : ∀ (xs : List A) (vs : List Value), looseL xs = true → RepL G xs vs → RepL G' xs vs
  | [], vs, _, h => h
  | x :: xs, vs, hp, h => by
    simp only [looseL, Bool.and_eq_true] at hp
    obtain ⟨v, vs', e, h1, h2⟩ := h
    exact ⟨v, vs', e, loose_rep x v hp.1 h1, looseL_rep xs vs' hp.2 h2⟩
end
theorem mem_keys {M : List Ob} {b : Nat} : b ∈ keys M ↔ ∃ o ∈ M, o.b = some b := List.mem_filterMap
theorem keys_app (M N : List Ob) : keys (M ++ N) = keys M ++ keys N := List.filterMap_append ..
/-- A call that changes W alone, V as good as frozen. -/
theorem acalls_part {P : Program} {f : FuncId} {aS bs : List A} {V W : List Ob} {R : A → List Ob → Prop} (hv : VwL V aS bs) (hc : ACalls P f bs W R) (hx : ∀ x M', R x M' → looseA x = true ∧ ∀ o ∈ M', looseL o.cs = true) :
    ACalls P f aS (W ++ V) (fun r M' => ∃ M1, R r M1 ∧ M' = M1 ++ V) := by
  classical
  intro G w vs hok hl
  have hnd := hok.nd
  rw [List.filterMap_append, List.nodup_append] at hnd
  obtain ⟨ndW, ndV, dis⟩ := hnd
  let G1 : Gh := ⟨fun b => if b ∈ keys W then [] else (G0 w).Z b, (G0 w).Y, fun b => b ∉ keys W ∧ (G0 w).U b, (G0 w).W⟩
  have z1 : ∀ b, b ∈ keys W → G1.Z b = [] := fun b h => if_pos h
  have z2 : ∀ b, b ∉ keys W → G1.Z b = (G0 w).Z b := fun b h => if_neg h
  have hle : G.le G1 := by
    refine ⟨fun b => ?_, (g_le_G0 hok).2.1, fun b hu => ⟨fun hb => ?_, (g_le_G0 hok).2.2.1 b hu⟩, (g_le_G0 hok).2.2.2⟩
    rotate_left
    · obtain ⟨o, ho, hob⟩ := mem_keys.1 hb
      exact (hok.um b hu).1 (hok.un o (List.mem_append_left _ ho) b hob)
    by_cases hb : b ∈ keys W
    · obtain ⟨o, ho, hob⟩ := mem_keys.1 hb
      rw [hok.un o (List.mem_append_left _ ho) b hob]; exact List.nil_prefix
    · rw [z2 b hb]; exact (g_le_G0 hok).1 b
  have notW : ∀ o ∈ V, ∀ b, o.b = some b → b ∉ keys W := fun o ho b hb hm => dis b hm b (List.mem_filterMap.2 ⟨o, ho, hb⟩) rfl
  have hok1 : Ok ⟨w, keys W, G1⟩ G1 W w := by
    refine ⟨Gh.le_refl _, rfl, rfl, rfl, Nat.le_refl _, fun _ _ _ => rfl, fun b hb => ?_, fun o ho b hb => ?_, fun o ho => hok.vn o (List.mem_append_left _ ho), fun o ho b hb => z1 b (mem_keys.2 ⟨o, ho, hb⟩), fun o ho b hb => .inl (mem_keys.2 ⟨o, ho, hb⟩), ndW, (ok_init w).mz, fun b hu => ⟨by rw [z2 b hu.1]; exact ((ok_init w).um b hu.2).1, ((ok_init w).um b hu.2).2⟩, (ok_init w).wt⟩
    · by_cases hm : b ∈ keys W
      · exact absurd (z1 b hm) hb
      · rw [z2 b hm] at hb ⊢
        exact (ok_init w).fz b hb
    · obtain ⟨us, sp, t, a1, a2, a3⟩ := hok.ow o (List.mem_append_left _ ho) b hb
      exact ⟨us, sp, t, a1, a2.mono hle, a3⟩
  have hat : ∀ b room cs, (⟨some b, room, cs⟩ : Ob) ∈ V → ∃ vs, RepL G cs vs ∧ vs.length ≤ room ∧ At G1 b 0 vs ∧ (cs ≠ [] → G1.U b) := by
    intro b room cs hm
    obtain ⟨us, a1, a2, a3, a4⟩ := own_at hok (List.mem_append_right _ hm)
    refine ⟨us, a1, a2, ?_, fun hne => ⟨notW _ hm b rfl, a4 hne⟩⟩
    unfold At at a3 ⊢
    rw [z2 b (notW _ hm b rfl)]; exact a3
  refine (hc G1 w vs hok1 (vwgL_rep hle hat _ _ _ hv hl)).mono ?_
  rintro e w' ⟨v, r, M', G', rfl, hr, ho, hR⟩
  obtain ⟨l1, l2⟩ := hx _ _ hR
  refine ⟨v, r, M' ++ V, G, rfl, loose_rep _ _ l1 hr, ?_, M', hR, rfl⟩
  have hh : ∀ k, k < w.heap.size → k ∉ keys W → w'.heap[k]? = w.heap[k]? := fun k hk hn => ho.fr k hk hn
  have zW : ∀ b, G.Z b ≠ [] → b ∉ keys W := by
    intro b hb hm
    obtain ⟨o, ho, hob⟩ := mem_keys.1 hm
    exact hb (hok.un o (List.mem_append_left _ ho) b hob)
  refine ⟨Gh.le_refl _, ho.os, ho.tape, ho.output, ho.size, fun k hk hn => ?_, fun b hb => ?_, fun o hm b hb => ?_, fun o hm hb => ?_, fun o hm b hb => ?_, fun o hm b hb => ?_, ?_, fun b ks e => ?_, fun b hu => ?_, fun b t e => ?_⟩
  · exact hh k hk (fun h => hn (by show k ∈ keys (W ++ V); rw [keys_app]; exact List.mem_append_left _ h))
  · rw [hh b (hok.zlt hb) (zW b hb)]; exact hok.fz b hb
  · rcases List.mem_append.1 hm with h | h
    · obtain ⟨us, sp, t, a1, a2, a3⟩ := ho.ow o h b hb
      exact ⟨us, sp, t, a1, looseL_rep _ _ (l2 o h) a2, a3⟩
    · rw [hh b (hok.lt (List.mem_append_right _ h) hb) (notW o h b hb)]; exact hok.ow o (List.mem_append_right _ h) b hb
  · rcases List.mem_append.1 hm with h | h
    · exact ho.vn o h hb
    · exact hok.vn o (List.mem_append_right _ h) hb
  · rcases List.mem_append.1 hm with h | h
    · rcases ho.kb o h b hb with h2 | h2
      · obtain ⟨o2, ho2, hob2⟩ := mem_keys.1 h2
        exact hok.un o2 (List.mem_append_left _ ho2) b hob2
      · apply Classical.byContradiction
        intro hz
        exact absurd (hok.zlt hz) (Nat.not_lt.2 h2)
    · exact hok.un o (List.mem_append_right _ h) b hb
  · rcases List.mem_append.1 hm with h | h
    · rcases ho.kb o h b hb with h2 | h2
      · exact .inl (by show b ∈ keys (W ++ V); rw [keys_app]; exact List.mem_append_left _ h2)
      · exact .inr h2
    · exact .inl (by show b ∈ keys (W ++ V); rw [keys_app]; exact List.mem_append_right _ (mem_keys.2 ⟨o, h, hb⟩))
  · rw [List.filterMap_append, List.nodup_append]
    refine ⟨ho.nd, ndV, fun a ha b hb e => ?_⟩
    subst e
    obtain ⟨o, h, hob⟩ := List.mem_filterMap.1 ha
    obtain ⟨o2, h2, hob2⟩ := List.mem_filterMap.1 hb
    rcases ho.kb o h a hob with h3 | h3
    · exact notW o2 h2 a hob2 h3
    · exact absurd (hok.lt (List.mem_append_right _ h2) hob2) (Nat.not_lt.2 h3)
  · have hn : b ∉ keys W := fun hm => by
      obtain ⟨o, ho, hob⟩ := mem_keys.1 hm
      obtain ⟨us, sp, t, a1, _⟩ := hok.ow o (List.mem_append_left _ ho) b hob
      obtain ⟨es, c, a2, _⟩ := (hok.mz b ks e).1
      rw [a1] at a2; cases a2
    rw [hh b (hok.ylt e) hn]; exact hok.mz b ks e
  · have h1 := (hok.um b hu).1
    rw [hh b (hok.zlt h1) (zW b h1)]; exact hok.um b hu
  · exact ho.wt b t (ho.g.2.2.2 b t (hle.2.2.2 b t e))
/-- The objects in another order. -/
theorem acalls_perm {P : Program} {f : FuncId} {aS : List A} {M M2 : List Ob} {R R' : A → List Ob → Prop} (hp : M2.Perm M) (hc : ACalls P f aS M R) (hR : ∀ r M', R r M' → ∃ M'', M'.Perm M'' ∧ R' r M'') : ACalls P f aS M2 R' := by
  intro G w vs hok hl
  have hk : ∀ k, k ∈ keys M2 ↔ k ∈ keys M := fun k => (hp.filterMap _).mem_iff
  refine (hc G w vs ?_ hl).mono ?_
  · have h := ok_perm hp hok
    exact ⟨h.g, h.os, h.tape, h.output, h.size, fun k h1 h2 => h.fr k h1 (fun h3 => h2 ((hk k).1 h3)), h.fz, h.ow, h.vn, h.un, fun o ho b hb => (h.kb o ho b hb).imp (hk b).1 id, h.nd, h.mz, h.um, h.wt⟩
  · rintro e w' ⟨v, r, M', G', rfl, hr, h, h2⟩
    obtain ⟨M'', p, h3⟩ := hR _ _ h2
    refine ⟨v, r, M'', G', rfl, hr, ok_perm p ?_, h3⟩
    exact ⟨h.g, h.os, h.tape, h.output, h.size, fun k h1 h2 => h.fr k h1 (fun h3 => h2 ((hk k).2 h3)), h.fz, h.ow, h.vn, h.un, fun o ho b hb => (h.kb o ho b hb).imp (hk b).2 id, h.nd, h.mz, h.um, h.wt⟩
/-- What is told of some temporaries, V's objects told as frozen ones. -/
def VwE (V : List Ob) (E : Env) : Env → Prop
  | [] => True
  | (t, x) :: r => Vw V (get E t) x ∧ VwE V E r
theorem VwE.get {V : List Ob} {E : Env} : ∀ {E' : Env}, VwE V E E' → ∀ t, Ab.get E' t = .any ∨ Vw V (Ab.get E t) (Ab.get E' t)
  | [], _, t => .inl rfl
  | (s, x) :: r, ⟨h1, h2⟩, t => by
    simp only [Ab.get]
    cases hb : Nat.beq s t with
    | true =>
      obtain rfl := Nat.eq_of_beq_eq_true hb
      exact .inr h1
    | false => exact VwE.get h2 t
section
variable {P : Program} {T : List TI} {N : Nat} {ops : Array Oper} {rest : List Oper} {o : Oper} {Q : Exit → St → Prop} {E F : Env} {M : List Ob}
theorem inv_freezeV {K : Ctx} {G : Gh} {a : Act} {w : World} {V : List Ob} {E' : Env} (hi : Inv K N G ⟨E, V ++ M⟩ a w) (hE : VwE V E E') : ∃ G', Inv K N G' ⟨E', M⟩ a w := by
  classical
  have hok := hi.ok
  have hnd := hok.nd
  rw [List.filterMap_append, List.nodup_append] at hnd
  obtain ⟨ndV, ndM, dis⟩ := hnd
  let G1 : Gh := ⟨fun b => if b ∈ keys V then (G0 w).Z b else G.Z b, G.Y, fun b => G.U b ∨ b ∈ keys V ∧ (G0 w).U b, G.W⟩
  have z1 : ∀ b, b ∈ keys V → G1.Z b = (G0 w).Z b := fun b h => if_pos h
  have z2 : ∀ b, b ∉ keys V → G1.Z b = G.Z b := fun b h => if_neg h
  have hle : G.le G1 := by
    refine ⟨fun b => ?_, fun b ks e => e, fun b h => .inl h, fun b t h => h⟩
    by_cases hb : b ∈ keys V
    · rw [z1 b hb]; exact (g_le_G0 hok).1 b
    · rw [z2 b hb]; exact List.prefix_refl _
  have hat : ∀ b room cs, (⟨some b, room, cs⟩ : Ob) ∈ V → ∃ vs, RepL G cs vs ∧ vs.length ≤ room ∧ At G1 b 0 vs ∧ (cs ≠ [] → G1.U b) := by
    intro b room cs hm
    obtain ⟨us, a1, a2, a3, a4⟩ := own_at hok (List.mem_append_left _ hm)
    refine ⟨us, a1, a2, ?_, fun hne => .inr ⟨mem_keys.2 ⟨_, hm, rfl⟩, a4 hne⟩⟩
    unfold At at a3 ⊢
    rw [z1 b (mem_keys.2 ⟨_, hm, rfl⟩)]; exact a3
  refine ⟨G1, ⟨Gh.le_trans hok.g hle, hok.os, hok.tape, hok.output, hok.size, hok.fr, fun b hb => ?_, fun o ho b hb => ?_, fun o ho => hok.vn o (List.mem_append_right _ ho), fun o ho b hb => ?_, fun o ho => hok.kb o (List.mem_append_right _ ho), ndM, hok.mz, fun b hb => ?_, hok.wt⟩, hi.sz, hi.df, fun t => ?_⟩
  · by_cases hm : b ∈ keys V
    · rw [z1 b hm] at hb ⊢; exact (ok_init w).fz b hb
    · rw [z2 b hm] at hb ⊢; exact hok.fz b hb
  · obtain ⟨us, sp, t, a1, a2, a3⟩ := hok.ow o (List.mem_append_right _ ho) b hb
    exact ⟨us, sp, t, a1, a2.mono hle, a3⟩
  · have hn : b ∉ keys V := fun h => dis b h b (List.mem_filterMap.2 ⟨o, ho, hb⟩) rfl
    rw [z2 b hn]; exact hok.un o (List.mem_append_right _ ho) b hb
  · rcases hb with hb | ⟨hb, c, t, h1, h2⟩
    · obtain ⟨h1, h2⟩ := hok.um b hb
      refine ⟨fun e => h1 ?_, h2⟩
      have := hle.1 b
      rw [e] at this
      exact List.prefix_nil.1 this
    · refine ⟨?_, c, t, h1⟩
      rw [z1 b hb]
      simp only [G0, h1]
      exact h2
  · rcases hE.get t with h | h
    · rw [h]; trivial
    · exact vwg_rep hle hat _ _ _ h (hi.ev t)
/-- All the objects of V are frozen from now on. -/
theorem acode_freezeV {c : Code} (V : List Ob) (E' : Env) (hE : VwE V E E') (next : ACode P N c Q ⟨E', M⟩) : ACode P N c Q ⟨E, V ++ M⟩ :=
  acode_weaken (fun K G a w hi => inv_freezeV hi hE) next
end
end Go.Proofs.Ytobpbelgihilpaa.Ab
/- Bytes of texts, shifts, bits, where a byte stands in a text; a store in a drawn region. No condition. -/
set_option linter.unusedVariables false
set_option linter.unusedSimpArgs false
namespace Go.Proofs.Ytobpbelgihilpaa.Ab
section
variable {P : Program} {T : List TI} {N : Nat} {ops : Array Oper} {rest : List Oper} {o : Oper} {Q : Exit → St → Prop} {E F : Env} {M : List Ob}
theorem str_at {s : List Int} {i : Nat} {c : Int} (hc : s[i]? = some c) (hb : 0 ≤ c ∧ c ≤ 255) (h : i < (strOfNums s).size) : (((strOfNums s)[i]'h).toNat : Int) = c := by
  have e : (strOfNums s)[i]'h = UInt8.ofNat c.toNat := by
    have h3 : (strOfNums s).data.toList[i]? = some (UInt8.ofNat c.toNat) := by rw [strOfNums_data, List.getElem?_map, hc]; rfl
    obtain ⟨h4, h5⟩ := List.getElem?_eq_some_iff.1 h3
    rw [← h5]; rfl
  rw [e]
  simp [UInt8.toNat_ofNat]
  omega
/-- A byte of a text. -/
theorem aops_idxs (hT : TOk P T) {t d : Nat} {x ix : Operand} {s : List Int} {k : IntKind} {i : Int} (c : Int) (ho : o.op = .index t x ix) (ht : kindOf T t = some .string) (hx : opA E x = .str (strOfNums s)) (hix : opA E ix = .int k i) (h0 : 0 ≤ i) (hc : s[i.toNat]? = some c) (hb : 0 ≤ c ∧ c ≤ 255)
    (hg : guardOn ops o E = some true) (hd : o.dst = some d) (hN : Nat.blt d N = true) (next : AOps P N ops rest Q ⟨(d, .int .u8 c) :: E, M⟩) : AOps P N ops (o :: rest) Q ⟨E, M⟩ := by
  refine aops_val hg (by rw [hd]; exact hN) (.int .u8 c) M (fun K G av w hi => ?_) (by rw [hd]; exact next)
  have hrx := opA_rep hi x
  have hri := opA_rep hi ix
  rw [hx] at hrx; rw [hix] at hri
  simp only [Rep] at hrx hri
  have hlt : i.toNat < s.length := (List.getElem?_eq_some_iff.1 hc).1
  have hsz : (strOfNums s).size = s.length := strOfNums_size s
  have hrun := run_index_string (P := P) w t (strOfNums s) k i (kindOf_string hT ht)
  rw [dif_pos ⟨h0, by omega⟩, str_at hc hb] at hrun
  exact ⟨.int .u8 c, w, G, by simp only [execOp, ho, hrx, hri, Sem.run_bind, hrun, Result.andThen_ok]; rfl, hi.ok, G.le_refl, rfl⟩
theorem seqT_idxs (hT : TOk P T) {l : List Oper} {n : Nat} {t d : Nat} {x ix : Operand} {s : List Int} {k : IntKind} {i : Int} (c : Int) (ho : o.op = .index t x ix) (ht : kindOf T t = some .string) (hx : opA F x = .str (strOfNums s)) (hix : opA F ix = .int k i) (h0 : 0 ≤ i) (hc : s[i.toNat]? = some c) (hb : 0 ≤ c ∧ c ≤ 255)
    (hg : guardOn ops o F = some true) (hd : o.dst = some d) (hN : Nat.blt d N = true) (next : SeqT P N ops Q M ((d, .int .u8 c) :: F) n l) : SeqT P N ops Q M F (n + 1) (o :: l) := by
  refine seqT_y (x := .int .u8 c) (fun E hE rest Q next => ?_) hd next
  refine aops_idxs hT c ho ht ((agree_op hE (by rw [ho]; simp [Op.operands])).trans hx) ((agree_op hE (by rw [ho]; simp [Op.operands])).trans hix) h0 hc hb ((agree_guard hE).trans hg) hd hN ?_
  rwa [hd] at next

/-! ### shifts and bits of words -/
theorem u64_wrap {n : Int} (h0 : 0 ≤ n) (h1 : n < 18446744073709551616) : IntKind.u64.wrap n = n := by
  have : IntKind.u64.wrap n = n % 18446744073709551616 := by unfold IntKind.wrap; rfl
  rw [this]; omega
theorem shift_run {op : BinOp} {k k' : IntKind} {a b : Int} {r : Int} (hb : 0 ≤ b) (hop : (op = .shl ∧ r = k.wrap (a * 2 ^ (min b.toNat k.bits))) ∨ (op = .shr ∧ r = a.fdiv (2 ^ (min b.toNat k.bits)))) (t : Nat) (w : World) : (binOp op t (.int k a) (.int k' b)).run P w = .ok (.int k r) w := by
  have hb' : ¬ b < 0 := by omega
  rcases hop with ⟨rfl, rfl⟩ | ⟨rfl, rfl⟩ <;> simp [binOp, Op.shift, hb']
theorem aops_shift {op : BinOp} {t t' d : Nat} {x y : Operand} {k k' : IntKind} {a b : Int} (r : Int) (ho : o.op = .binOp op t x y t') (hx : opA E x = .int k a) (hy : opA E y = .int k' b) (hb : 0 ≤ b) (hop : (op = .shl ∧ r = k.wrap (a * 2 ^ (min b.toNat k.bits))) ∨ (op = .shr ∧ r = a.fdiv (2 ^ (min b.toNat k.bits))))
    (hg : guardOn ops o E = some true) (hd : o.dst = some d) (hN : Nat.blt d N = true) (next : AOps P N ops rest Q ⟨(d, .int k r) :: E, M⟩) : AOps P N ops (o :: rest) Q ⟨E, M⟩ := by
  refine aops_val hg (by rw [hd]; exact hN) (.int k r) M (fun K G av w hi => ?_) (by rw [hd]; exact next)
  have hrx := opA_rep hi x
  have hry := opA_rep hi y
  rw [hx] at hrx; rw [hy] at hry
  simp only [Rep] at hrx hry
  refine ⟨.int k r, w, G, ?_, hi.ok, G.le_refl, rfl⟩
  have h1 : (eqGuard op t x y (.int k a) (.int k' b)).run P w = .ok () w := eqGuard_run (.inl ⟨_, _, rfl⟩)
  simp only [execOp, ho, hrx, hry, Sem.run_bind, h1, shift_run hb hop, Result.andThen_ok]
  rfl
theorem or64 {x y : Nat} (hx : x < 2 ^ 64) (hy : y < 2 ^ 64) : IntKind.u64.wrap ((BitVec.ofInt IntKind.u64.bits x ||| BitVec.ofInt IntKind.u64.bits y).toNat) = ((x ||| y : Nat) : Int) := by
  have e : (BitVec.ofInt IntKind.u64.bits x ||| BitVec.ofInt IntKind.u64.bits y).toNat = x ||| y := by
    rw [BitVec.toNat_or]
    show (BitVec.ofInt 64 x).toNat ||| (BitVec.ofInt 64 y).toNat = _
    have h1 : (BitVec.ofInt 64 (x : Int)).toNat = x := by simp; omega
    have h2 : (BitVec.ofInt 64 (y : Int)).toNat = y := by simp; omega
    rw [h1, h2]
  rw [e]
  have := Nat.or_lt_two_pow hx hy
  exact u64_wrap (by omega) (by omega)
theorem and64 {x y : Nat} (hx : x < 2 ^ 64) (hy : y < 2 ^ 64) : IntKind.u64.wrap ((BitVec.ofInt IntKind.u64.bits x &&& BitVec.ofInt IntKind.u64.bits y).toNat) = ((x &&& y : Nat) : Int) := by
  have e : (BitVec.ofInt IntKind.u64.bits x &&& BitVec.ofInt IntKind.u64.bits y).toNat = x &&& y := by
    rw [BitVec.toNat_and]
    show (BitVec.ofInt 64 x).toNat &&& (BitVec.ofInt 64 y).toNat = _
    have h1 : (BitVec.ofInt 64 (x : Int)).toNat = x := by simp; omega
    have h2 : (BitVec.ofInt 64 (y : Int)).toNat = y := by simp; omega
    rw [h1, h2]
  rw [e]
  have : x &&& y ≤ x := Nat.and_le_left
  exact u64_wrap (by omega) (by omega)
/-- The other bits of a word. -/
theorem aops_compl {t d : Nat} {x : Operand} {a : Nat} (ho : o.op = .unOp .xor t x) (hx : opA E x = .int .u64 a) (ha : a < 2 ^ 64) (hg : guardOn ops o E = some true) (hd : o.dst = some d) (hN : Nat.blt d N = true)
    (next : AOps P N ops rest Q ⟨(d, .int .u64 ((a ^^^ (2 ^ 64 - 1) : Nat) : Int)) :: E, M⟩) : AOps P N ops (o :: rest) Q ⟨E, M⟩ := by
  refine aops_val hg (by rw [hd]; exact hN) (.int .u64 ((a ^^^ (2 ^ 64 - 1) : Nat) : Int)) M (fun K G av w hi => ?_) (by rw [hd]; exact next)
  have hrx := opA_rep hi x
  rw [hx] at hrx
  simp only [Rep] at hrx
  have e : IntKind.u64.wrap ((BitVec.ofInt IntKind.u64.bits IntKind.u64.max ^^^ BitVec.ofInt IntKind.u64.bits (a : Int)).toNat) = ((a ^^^ (2 ^ 64 - 1) : Nat) : Int) := by
    have e1 : (BitVec.ofInt IntKind.u64.bits IntKind.u64.max ^^^ BitVec.ofInt IntKind.u64.bits (a : Int)).toNat = a ^^^ (2 ^ 64 - 1) := by
      rw [BitVec.toNat_xor]
      show (BitVec.ofInt 64 IntKind.u64.max).toNat ^^^ (BitVec.ofInt 64 (a : Int)).toNat = _
      have h1 : (BitVec.ofInt 64 IntKind.u64.max).toNat = 2 ^ 64 - 1 := by decide +kernel
      have h2 : (BitVec.ofInt 64 (a : Int)).toNat = a := by simp; omega
      rw [h1, h2, Nat.xor_comm]
    rw [e1]
    have := Nat.xor_lt_two_pow ha (show 2 ^ 64 - 1 < 2 ^ 64 by decide)
    exact u64_wrap (by omega) (by omega)
  refine ⟨.int .u64 ((a ^^^ (2 ^ 64 - 1) : Nat) : Int), w, G, ?_, hi.ok, G.le_refl, rfl⟩
  have hrun : (Op.unary .xor (.int .u64 (a : Int))).run P w = .ok (.int .u64 ((a ^^^ (2 ^ 64 - 1) : Nat) : Int)) w := by
    rw [← e]; rfl
  simp only [execOp, ho, hrx, Sem.run_bind, hrun, Result.andThen_ok]
  rfl
/-! ### a store in a drawn region -/
theorem seqO_st (hT : TOk P T) {kp : List Ob} {al : List Nat} {q : Nat} {ll : List Oper} {n : Nat} (k : Nat) {t : Nat} {p x : Operand} {b off : Nat} {i : TI} {y : A} {room : Nat} {cs : List A} (cs' : List A) (M' : List Ob) (hi : al.contains q = true) (ho : o.op = .store t p x) (hp : opA F p = .ref b off) (hx : opA F x = y) (hk : known T t = some i)
    (hM : M[k]? = some ⟨some b, room, cs⟩) (hy : (Nat.beq y.cs.length i.size && cellsOk y) = true) (hoff : off + i.size ≤ cs.length) (hcs : cs.take off ++ (y.cs ++ cs.drop (off + i.size)) = cs') (hM' : M.set k ⟨some b, room, cs'⟩ = M') (hkp : ∀ o ∈ kp, o ∈ M')
    (hg : guardOn ops o F = some true) (hd : o.dst = none) (next : SeqO P N ops Q kp al (q + 1) F M' n ll) : SeqO P N ops Q kp al q F M (n + 1) (o :: ll) := by
  refine SeqO.make (x := fun _ => .any) (M2 := fun _ => M') hi (fun E hE rest Q next => ?_) (fun z o ho => hkp o ho) fun b => ?_
  · refine aops_stk hT k cs' M' ho ((agree_op hE (by rw [ho]; simp [Op.operands])).trans hp) ((agree_op hE (by rw [ho]; simp [Op.operands])).trans hx) hk hM hy hoff hcs hM' ((agree_guard hE).trans hg) hd ?_
    have := next []
    rw [hd] at this
    exact this
  · rw [hd]; exact next

/-! ### one object among others -/
theorem acalls_mid {f : FuncId} {xs : List A} {L : List Ob} {o : Ob} {R : A → Ob → Prop} (hc : ∀ M, ACalls P f xs (o :: M) (fun r M' => ∃ o', R r o' ∧ M' = o' :: M)) : ACalls P f xs (L ++ (o :: M)) (fun r M' => ∃ o', R r o' ∧ M' = L ++ (o' :: M)) := by
  refine acalls_perm (M := o :: (L ++ M)) List.perm_middle (hc (L ++ M)) ?_
  rintro r M' ⟨o', h1, rfl⟩
  exact ⟨_, List.perm_middle.symm, o', h1, rfl⟩
/-- A literal of one. -/
theorem aops_lit1 (hT : TOk P T) {d : Nat} {t e : Nat} {ei : TI} {x : Operand} {y : A} (ho : o.op = .buildSlice t 1 #[(0, x)]) (hs : sliceOf T t = some (e, ei)) (hsz : (Nat.blt 0 (1 * ei.size) && Nat.ble (1 * ei.size) 16777216 && Nat.beq ei.zero.length ei.size) = true)
    (hx : opA E x = y) (hy : (Nat.beq y.cs.length ei.size && cellsOk y) = true) (hg : guardOn ops o E = some true) (hd : o.dst = some d) (hN : Nat.blt d N = true) (next : AOps P N ops rest Q ⟨(d, .psl 1 y.cs) :: E, M⟩) : AOps P N ops (o :: rest) Q ⟨E, M⟩ := by
  refine aops_lit hT (r := y.cs) ho hs hsz ?_ hg (by rw [hd]; exact hN) (by rw [hd]; exact next)
  simp only [Bool.and_eq_true] at hsz hy
  have hz := Nat.eq_of_beq_eq_true hsz.2
  have hl := Nat.eq_of_beq_eq_true hy.1
  have hzl : (zerosA (ei.zero.map ofZ) 1).length = ei.size := by simp [zerosA, hz]
  simp only [List.map_cons, List.map_nil, fillA, hx, Nat.zero_mul, hl, hzl, hy.2, Nat.zero_add]
  simp only [Nat.beq_refl, Nat.ble_self_eq_true, Bool.and_self, cond_true, List.take_zero, List.nil_append, fillA]
  rw [List.drop_of_length_le (by omega), List.append_nil]
end
end Go.Proofs.Ytobpbelgihilpaa.Ab
/- Chapter 3's reader: sets, single bytes, items: the walk. No condition. -/
set_option linter.unusedVariables false
set_option linter.unusedSimpArgs false
namespace Go.Proofs.Ytobpbelgihilpaa.Ab
section
variable {P : Program} {T : List TI} {N : Nat} {ops : Array Oper} {rest : List Oper} {o : Oper} {Q : Exit → St → Prop} {E F : Env} {M : List Ob}
theorem aops_ldagg (hT : TOk P T) {t d : Nat} {x : Operand} {cs : List A} {i : TI} (ho : o.op = .load t x) (hx : opA E x = .pp cs) (hk : known T t = some i) (ha : i.k.isAgg = true) (hl : cs.length = i.size) (hg : guardOn ops o E = some true) (hd : o.dst = some d) (hN : Nat.blt d N = true)
    (next : AOps P N ops rest Q ⟨(d, .agg cs) :: E, M⟩) : AOps P N ops (o :: rest) Q ⟨E, M⟩ := by
  refine aops_p hT (x := .agg cs) ?_ hg hd hN next
  rw [headed_eq, ho]
  simp only [aval, hk, hx, A.asP, ha, cond_true]
  rw [show Nat.ble i.size cs.length = true by rw [hl]; exact Nat.ble_self_eq_true _, cond_true, ← hl, List.take_length]
theorem ld_agg {cs : List A} {n : Nat} (h : cs.length = n) : headed (bif true then (bif Nat.ble (0 + n) cs.length then some (A.agg ((cs.drop 0).take n)) else none) else cs[0]?) = some (.agg cs) := by
  rw [headed_eq, cond_true, show Nat.ble (0 + n) cs.length = true by rw [h, Nat.zero_add]; exact Nat.ble_self_eq_true _, cond_true, List.drop_zero, ← h, List.take_length]
theorem sto_all {old cs : List A} {n : Nat} (h : old.length = n) : old.take 0 ++ (cs ++ old.drop (0 + n)) = cs := by
  rw [Nat.zero_add, ← h, List.drop_length]; simp
theorem pp_all {cs : List A} {n : Nat} (h : cs.length = n) : (bif true then (bif Nat.ble n cs.length then some (A.agg (cs.take n)) else none) else cs.head?) = some (.agg cs) := by
  rw [cond_true, show Nat.ble n cs.length = true by rw [h]; exact Nat.ble_self_eq_true _, cond_true, ← h, List.take_length]
end
attribute [local irreducible] thenA inBlockA ACode AOps put IntKind.wrap

/-! ### sets -/
def wordsA (S : Nat) : List A := [.int .u64 (wordOf S 0 : Nat), .int .u64 (wordOf S 1 : Nat), .int .u64 (wordOf S 2 : Nat), .int .u64 (wordOf S 3 : Nat)]
theorem four {n : Nat} (h : n < 4) : n = 0 ∨ n = 1 ∨ n = 2 ∨ n = 3 := by omega
theorem words_at {S : Nat} {j : Int} {i : Nat} (hj : j.toNat = i) (hi : i < 4) : (wordsA S)[0 + j.toNat * 1]? = some (.int .u64 (wordOf S i : Nat)) := by
  rw [hj, Nat.zero_add, Nat.mul_one]
  rcases four hi with rfl | rfl | rfl | rfl <;> rfl
theorem words_pp {S : Nat} {j : Int} {i : Nat} (hj : j.toNat = i) (hi : i < 4) : ((wordsA S).drop (j.toNat * 1)).head? = some (.int .u64 (wordOf S i : Nat)) := by
  rw [hj, Nat.mul_one]
  rcases four hi with rfl | rfl | rfl | rfl <;> rfl
theorem words_add {S c : Nat} {j : Int} (hc : c < 256) (hj : j.toNat = c / 64) : (wordsA S).take (0 + j.toNat * 1) ++ ([A.int .u64 ((wordOf S (c / 64) ||| 2 ^ (c % 64) : Nat) : Int)] ++ (wordsA S).drop (0 + j.toNat * 1 + 1)) = wordsA (setAdd S c) := by
  rw [hj, Nat.zero_add, Nat.mul_one]
  have hi : c / 64 < 4 := by omega
  unfold wordsA
  simp only [word_add]
  rcases four hi with h | h | h | h <;> rw [h] <;> simp
theorem shl_one {c : Nat} : IntKind.u64.wrap (1 * 2 ^ (min (((c : Int) % 64).toNat) IntKind.u64.bits)) = ((2 ^ (c % 64) : Nat) : Int) := by
  have h1 : min (((c : Int) % 64).toNat) IntKind.u64.bits = c % 64 := by
    have : IntKind.u64.bits = 64 := rfl
    rw [this]; omega
  rw [h1, Int.one_mul]
  have h2 : 2 ^ (c % 64) < 2 ^ 64 := Nat.pow_lt_pow_right (by omega) (by omega)
  have h3 : ((2 : Int) ^ (c % 64)) = ((2 ^ (c % 64) : Nat) : Int) := by simp
  rw [h3]
  generalize 2 ^ (c % 64) = m at *
  exact u64_wrap (by omega) (by omega)
def halfN (S i k : Nat) : Nat := if k < i then wordOf S k ^^^ (2 ^ 64 - 1) else wordOf S k
def halfA (S i : Nat) : List A := [.int .u64 (halfN S i 0 : Nat), .int .u64 (halfN S i 1 : Nat), .int .u64 (halfN S i 2 : Nat), .int .u64 (halfN S i 3 : Nat)]
theorem half_zero (S : Nat) : halfA S 0 = wordsA S := by simp [halfA, halfN, wordsA]
theorem half_four (S : Nat) : halfA S 4 = wordsA (setNot S) := by
  unfold halfA wordsA halfN
  simp only [word_not (S := S) (show 0 < 4 by omega), word_not (S := S) (show 1 < 4 by omega), word_not (S := S) (show 2 < 4 by omega), word_not (S := S) (show 3 < 4 by omega)]
  simp
theorem half_at {S i : Nat} {j : Int} (hj : j.toNat = i) (hi : i < 4) : (halfA S i)[0 + j.toNat * 1]? = some (.int .u64 (wordOf S i : Nat)) := by
  rw [hj, Nat.zero_add, Nat.mul_one]
  rcases four hi with rfl | rfl | rfl | rfl <;> simp [halfA, halfN]
theorem half_set {S i : Nat} {j : Int} (hj : j.toNat = i) (hi : i < 4) : (halfA S i).take (0 + j.toNat * 1) ++ ([A.int .u64 ((wordOf S i ^^^ (2 ^ 64 - 1) : Nat) : Int)] ++ (halfA S i).drop (0 + j.toNat * 1 + 1)) = halfA S (i + 1) := by
  rw [hj, Nat.zero_add, Nat.mul_one]
  rcases four hi with rfl | rfl | rfl | rfl <;> simp [halfA, halfN]
/-! ### patterns -/
mutual
def reC : RE → List A
  | .mk o s k => [.int .i64 o, .int .u64 (wordOf s 0 : Nat), .int .u64 (wordOf s 1 : Nat), .int .u64 (wordOf s 2 : Nat), .int .u64 (wordOf s 3 : Nat), (match k with | [] => .nils | x :: l => .psl (l.length + 1) (reC x ++ reL l))]
def reL : List RE → List A
  | [] => []
  | x :: l => reC x ++ reL l
end
theorem reC_len (x : RE) : (reC x).length = 6 := by
  cases x with
  | mk o s k => cases k <;> simp [reC]
theorem reC_cell (x : RE) : (reC x).all A.isCell = true := by
  cases x with
  | mk o s k => cases k <;> simp [reC, A.isCell]
theorem reC_ok (x : RE) : (Nat.beq (A.agg (reC x)).cs.length 6 && cellsOk (.agg (reC x))) = true := by
  show (Nat.beq (reC x).length 6 && (reC x).all A.isCell) = true
  rw [reC_len, reC_cell]; rfl
theorem reL_enc : ∀ l : List RE, reL l = encs reC l
  | [] => by rw [reL]; rfl
  | x :: l => by rw [reL, reL_enc l]; rfl
theorem reC_kids (o : Int) (s : Nat) {k : List RE} (h : k ≠ []) : reC (.mk o s k) = [.int .i64 o, .int .u64 (wordOf s 0 : Nat), .int .u64 (wordOf s 1 : Nat), .int .u64 (wordOf s 2 : Nat), .int .u64 (wordOf s 3 : Nat), .psl k.length (encs reC k)] := by
  cases k with
  | nil => exact absurd rfl h
  | cons x l => rw [reC, ← reL_enc, reL]; rfl
theorem reC_set (S : Nat) : reC (reSet S) = [.int .i64 1, .int .u64 (wordOf S 0 : Nat), .int .u64 (wordOf S 1 : Nat), .int .u64 (wordOf S 2 : Nat), .int .u64 (wordOf S 3 : Nat), .nils] := by unfold reSet; rw [reC]
theorem reC_none : reC reNone = [.int .i64 0, .int .u64 0, .int .u64 0, .int .u64 0, .int .u64 0, .nils] := by unfold reNone; rw [reC]; rfl
end Go.Proofs.Ytobpbelgihilpaa.Ab
/- Chapter 3's reader: single bytes, items, sets: the walk. No condition. -/
set_option linter.unusedVariables false
set_option linter.unusedSimpArgs false
namespace Go.Proofs.Ytobpbelgihilpaa.Ab
section
variable {P : Program} {N : Nat} {ops : Array Oper} {rest : List Oper} {o : Oper} {Q : Exit → St → Prop} {E : Env} {M : List Ob}
/-- A call that leaves the objects as told. -/
theorem aops_callr {d : Nat} {g : Operand} {args : Array Operand} {tys : Array TypeId} {f : FuncId} {cap xs : List A} {fn : Func} {ans : A} {M2 : List Ob} (hf : P.funcs[f]? = some fn) (ho : o.op = .call { callee := .value g, args, argTypes := tys }) (hgv : opA E g = .fn f cap)
    (hfn : callable fn = true) (has : args.toList.map (opA E) ++ cap = xs) (hc : ACalls P f xs M (fun x M' => x = ans ∧ M' = M2)) (hg : guardOn ops o E = some true) (hd : o.dst = some d) (hN : Nat.blt d N = true)
    (next : AOps P N ops rest Q ⟨(d, ans) :: E, M2⟩) : AOps P N ops (o :: rest) Q ⟨E, M⟩ := by
  refine aops_call hf ho hgv hfn has hc hg (by rw [hd]; exact hN) ?_
  rintro x M' ⟨rfl, rfl⟩
  rw [hd]; exact next
end
attribute [local irreducible] thenA inBlockA ACode AOps put IntKind.wrap

def rdO (rb : Nat) (s : List Int) (r : Rd) : Ob := ⟨some rb, 4, [.str (strOfNums s), .int .i64 r.at_, .int .i64 r.e, .int .i64 r.w]⟩
def byteS (s : List Int) : Prop := (∀ x ∈ s, 0 ≤ x ∧ x ≤ 255) ∧ s.length ≤ 1000
/-- A call upon a reader. -/
def RC (f : FuncId) (xs : List A) (s : List Int) (rb : Nat) (r r' : Rd) (ans : A) : Prop := ∀ M, ACalls Try.prog f (.ref rb 0 :: xs) (rdO rb s r :: M) (fun x M' => x = ans ∧ M' = rdO rb s r' :: M)
theorem RC.mid {f : FuncId} {xs : List A} {s : List Int} {rb : Nat} {r r' : Rd} {ans : A} (h : RC f xs s rb r r' ans) (L M : List Ob) : ACalls Try.prog f (.ref rb 0 :: xs) (L ++ (rdO rb s r :: M)) (fun x M' => x = ans ∧ M' = L ++ (rdO rb s r' :: M)) := by
  refine (acalls_mid (R := fun x o' => x = ans ∧ o' = rdO rb s r') (fun M => (h M).mono ?_)).mono ?_
  · rintro x M' ⟨rfl, rfl⟩; exact ⟨_, ⟨rfl, rfl⟩, rfl⟩
  · rintro x M' ⟨o', ⟨rfl, rfl⟩, rfl⟩; exact ⟨rfl, rfl⟩
theorem str_len {s : List Int} : ((strOfNums s).size : Int) = s.length := by rw [strOfNums_size]
theorem is_lt {s : List Int} {r : Rd} {c : Int} (h : r.is s c = true) : r.e = 0 ∧ r.at_ < s.length ∧ s[r.at_]? = some c := by
  unfold Rd.is at h
  simp only [Bool.and_eq_true, decide_eq_true_eq] at h
  obtain ⟨h1, h2⟩ := h
  cases hx : s[r.at_]? with
  | none => rw [hx] at h2; cases h2
  | some x =>
    rw [hx] at h2
    simp at h2
    exact ⟨h1, (List.getElem?_eq_some_iff.1 hx).1, by rw [h2]⟩
theorem any_ok {s : List Int} {r : Rd} (hat : r.at_ ≤ s.length) : (r.any s).2.at_ ≤ s.length := by
  unfold Rd.any
  split
  · split
    · rename_i x hx
      have := (List.getElem?_eq_some_iff.1 hx).1
      show r.at_ + 1 ≤ _; omega
    · unfold Rd.fail; split <;> exact hat
  · exact hat
theorem any_rng {s : List Int} (hs : byteS s) {r : Rd} : 0 ≤ (r.any s).1 ∧ (r.any s).1 ≤ 255 := by
  unfold Rd.any
  split
  · split
    · rename_i x hx; exact hs.1 x (List.mem_of_getElem? hx)
    · simp
  · simp
theorem fail_ok {s : List Int} {r : Rd} {e : Int} (hat : r.at_ ≤ s.length) : (r.fail e).at_ ≤ s.length := by unfold Rd.fail; split <;> exact hat
theorem next_ok {s : List Int} {r : Rd} {c : Int} (h : r.is s c = true) : r.next.at_ ≤ s.length := by have := (is_lt h).2.1; show r.at_ + 1 ≤ _; omega
theorem member_ok {s : List Int} {r : Rd} (hat : r.at_ ≤ s.length) : (r.member s).2.at_ ≤ s.length := by
  unfold Rd.member
  split
  · rename_i h; exact any_ok (next_ok h)
  · split
    · exact any_ok (fail_ok hat)
    · exact any_ok hat
end Go.Proofs.Ytobpbelgihilpaa.Ab
/- Chapter 3's reader: items and sets: the walk. No condition. -/
set_option linter.unusedVariables false
set_option linter.unusedSimpArgs false
namespace Go.Proofs.Ytobpbelgihilpaa.Ab
attribute [local irreducible] thenA inBlockA ACode AOps put IntKind.wrap

theorem range_snoc : ∀ (n S a : Nat), addRange S (n + 1) a = setAdd (addRange S n a) (a + n)
  | 0, S, a => rfl
  | n + 1, S, a => by
    rw [addRange, range_snoc n (setAdd S a) (a + 1), addRange, show a + 1 + n = a + (n + 1) by omega]
/-- The far end of an item, and the reader behind it. -/
def itemB (s : List Int) (a : Int) (r1 : Rd) : Int × Rd := if r1.between s then (if ((r1.next.member s).2.e = 0 ∧ (r1.next.member s).1 < a) then ((r1.next.member s).1, Rd.fail ⟨r1.next.at_, (r1.next.member s).2.e, (r1.next.member s).2.w⟩ 2) else r1.next.member s) else (a, r1)
theorem item_eq (s : List Int) (S : Nat) (r : Rd) : r.item s S = (if (itemB s (r.member s).1 (r.member s).2).2.e = 0 then addRange S ((itemB s (r.member s).1 (r.member s).2).1 + 1 - (r.member s).1).toNat (r.member s).1.toNat else S, (itemB s (r.member s).1 (r.member s).2).2) := by
  unfold Rd.item itemB
  rfl
theorem between_ok {s : List Int} {r : Rd} (h : r.between s = true) : r.is s 45 = true := by
  unfold Rd.between at h
  simp only [Bool.and_eq_true] at h
  exact h.1
theorem itemB_ok {s : List Int} {a : Int} {r1 : Rd} (hat : r1.at_ ≤ s.length) : (itemB s a r1).2.at_ ≤ s.length := by
  unfold itemB
  split
  · rename_i h
    have h1 := next_ok (between_ok h)
    split
    · exact fail_ok h1
    · exact member_ok h1
  · exact hat
theorem item_ok {s : List Int} {S : Nat} {r : Rd} (hat : r.at_ ≤ s.length) : (r.item s S).2.at_ ≤ s.length := by
  rw [item_eq]; exact itemB_ok (member_ok hat)
end Go.Proofs.Ytobpbelgihilpaa.Ab
/- Chapter 3's reader: a set within brackets: the walk. No condition. -/
set_option linter.unusedVariables false
set_option linter.unusedSimpArgs false
namespace Go.Proofs.Ytobpbelgihilpaa.Ab
attribute [local irreducible] thenA inBlockA ACode AOps put IntKind.wrap

def clsS (ot : Bool) (S : Nat) : Nat := if ot = true then setNot S else S
end Go.Proofs.Ytobpbelgihilpaa.Ab
/- Chapter 3's reader: how it goes on, in plain terms; fuel; literals of one pattern. No condition. -/
set_option linter.unusedVariables false
set_option linter.unusedSimpArgs false
namespace Go.Proofs.Ytobpbelgihilpaa.Ab
/-! ### the reader goes on -/
def RLe (s : List Int) (r r' : Rd) : Prop := r'.at_ ≤ s.length ∧ (r'.e = 0 → r.e = 0 ∧ r.at_ ≤ r'.at_)
def RLt (s : List Int) (r r' : Rd) : Prop := r'.at_ ≤ s.length ∧ (r'.e = 0 → r.e = 0 ∧ r.at_ < r'.at_)
theorem RLe.refl {s : List Int} {r : Rd} (h : r.at_ ≤ s.length) : RLe s r r := ⟨h, fun h => ⟨h, Nat.le_refl _⟩⟩
theorem RLt.le {s : List Int} {r r' : Rd} (h : RLt s r r') : RLe s r r' := ⟨h.1, fun e => ⟨(h.2 e).1, Nat.le_of_lt (h.2 e).2⟩⟩
theorem RLe.trans {s : List Int} {a b c : Rd} (h : RLe s a b) (g : RLe s b c) : RLe s a c := ⟨g.1, fun e => ⟨(h.2 (g.2 e).1).1, Nat.le_trans (h.2 (g.2 e).1).2 (g.2 e).2⟩⟩
theorem RLt.trans_le {s : List Int} {a b c : Rd} (h : RLt s a b) (g : RLe s b c) : RLt s a c := ⟨g.1, fun e => ⟨(h.2 (g.2 e).1).1, Nat.lt_of_lt_of_le (h.2 (g.2 e).1).2 (g.2 e).2⟩⟩
theorem RLe.trans_lt {s : List Int} {a b c : Rd} (h : RLe s a b) (g : RLt s b c) : RLt s a c := ⟨g.1, fun e => ⟨(h.2 (g.2 e).1).1, Nat.lt_of_le_of_lt (h.2 (g.2 e).1).2 (g.2 e).2⟩⟩
theorem fail_le {s : List Int} {r : Rd} {e : Int} (h : r.at_ ≤ s.length) : RLe s r (r.fail e) := by
  unfold Rd.fail
  split
  · rename_i h0; exact ⟨h, fun _ => ⟨h0, Nat.le_refl _⟩⟩
  · exact .refl h
theorem next_lt {s : List Int} {r : Rd} {c : Int} (h : r.is s c = true) : RLt s r r.next := ⟨next_ok h, fun _ => ⟨(is_lt h).1, Nat.lt_succ_self _⟩⟩
theorem any_lt {s : List Int} {r : Rd} (h : r.at_ ≤ s.length) : RLt s r (r.any s).2 := by
  refine ⟨any_ok h, ?_⟩
  unfold Rd.any
  split
  · rename_i h0
    split
    · exact fun _ => ⟨h0, Nat.lt_succ_self _⟩
    · intro h2
      unfold Rd.fail at h2
      rw [if_pos h0] at h2
      exact absurd h2 (by simp)
  · rename_i h0; exact fun h2 => absurd h2 h0
theorem member_lt {s : List Int} {r : Rd} (h : r.at_ ≤ s.length) : RLt s r (r.member s).2 := by
  unfold Rd.member
  split
  · rename_i h2; exact (next_lt h2).trans_le (any_lt (next_ok h2)).le
  · split
    · exact (fail_le h).trans_lt (any_lt (fail_ok h))
    · exact any_lt h
theorem itemB_le {s : List Int} {a : Int} {r1 : Rd} (h : r1.at_ ≤ s.length) : RLe s r1 (itemB s a r1).2 := by
  refine ⟨itemB_ok h, ?_⟩
  unfold itemB
  split
  · rename_i hb
    have h1 := next_lt (between_ok hb)
    have h2 := h1.trans_le (member_lt (next_ok (between_ok hb))).le
    split
    · rename_i hc
      intro h3
      unfold Rd.fail at h3
      rw [if_pos hc.1] at h3
      exact absurd h3 (by simp)
    · exact h2.le.2
  · exact (RLe.refl h).2
theorem item_lt {s : List Int} {S : Nat} {r : Rd} (h : r.at_ ≤ s.length) : RLt s r (r.item s S).2 := by
  rw [item_eq]
  exact (member_lt h).trans_le (itemB_le (member_ok h))
theorem classL_le {s : List Int} : ∀ (f S : Nat) (r : Rd), r.at_ ≤ s.length → RLe s r (classL s f S r).2
  | 0, S, r, h => .refl h
  | f + 1, S, r, h => by
    rw [classL]
    split
    · exact .refl h
    · split
      · rename_i h2; exact (next_lt h2).le
      · exact (item_lt (S := S) h).le.trans (classL_le f _ _ (item_ok (S := S) h))
theorem class_lt {s : List Int} {r : Rd} (h : r.at_ ≤ s.length) : RLt s r (r.class_ s).2 := by
  have hcl : (r.class_ s).2 = (classL s (s.length + 1) ((if r.is s 94 = true then r.next else r).item s 0).1 ((if r.is s 94 = true then r.next else r).item s 0).2).2 := rfl
  rw [hcl]
  have h1 : RLe s r (if r.is s 94 = true then r.next else r) := by
    split
    · rename_i h2; exact (next_lt h2).le
    · exact .refl h
  exact (h1.trans_lt (item_lt (S := 0) h1.1)).trans_le (classL_le _ _ _ (item_ok (S := 0) h1.1))
def notSp (s : List Int) (r : Rd) : Rd := if (match s[r.at_]? with | some x => specials.contains x | none => false) = true then r.fail 2 else r
theorem notSp_le {s : List Int} {r : Rd} (h : r.at_ ≤ s.length) : RLe s r (notSp s r) := by
  unfold notSp
  generalize (match s[r.at_]? with | some x => specials.contains x | none => false) = q
  split
  · exact fail_le h
  · exact .refl h
/-- An atom, its parts told. -/
theorem atom_eq (s : List Int) (f d : Nat) (r : Rd) : atomF s (f + 1) d r = if r.is s 40 = true then (if 20 ≤ d then (reNone, r.fail 4) else ((altF s f (d + 1) r.next).1, if (altF s f (d + 1) r.next).2.is s 41 = true then (altF s f (d + 1) r.next).2.next else (altF s f (d + 1) r.next).2.fail 2)) else if r.is s 46 = true then (reSet setDot, r.next) else if r.is s 92 = true then (reOne (r.next.any s).1, (r.next.any s).2) else if r.is s 91 = true then r.next.class_ s else (reOne ((notSp s r).any s).1, ((notSp s r).any s).2) := by
  rw [atomF]; rfl
theorem part_eq (s : List Int) (f d : Nat) (r : Rd) : partP s (f + 1) d r = repF s (s.length + 1) (atomF s f d r).1 (atomF s f d r).2 := by rw [partP]
theorem seqL_eq (s : List Int) (f d : Nat) (l : List RE) (r : Rd) : seqL s (f + 1) d l r = if r.e = 0 ∧ r.at_ < s.length ∧ r.is s 124 = false ∧ r.is s 41 = false then seqL s f d (l ++ [(partP s f d r).1]) (partP s f d r).2 else (l, r) := by rw [seqL]
theorem seqF_eq (s : List Int) (f d : Nat) (r : Rd) : seqF s (f + 1) d r = (reMany 2 (seqL s f d [] r).1, (seqL s f d [] r).2) := by rw [seqF]
theorem altL_eq (s : List Int) (f d : Nat) (l : List RE) (r : Rd) : altL s (f + 1) d l r = if r.is s 124 = true then altL s f d (l ++ [(seqF s f d r.next).1]) (seqF s f d r.next).2 else (l, r) := by rw [altL]
theorem altF_eq (s : List Int) (f d : Nat) (r : Rd) : altF s (f + 1) d r = (reMany 3 (altL s f d [(seqF s f d r).1] (seqF s f d r).2).1, (altL s f d [(seqF s f d r).1] (seqF s f d r).2).2) := by rw [altF]
theorem rep_le {s : List Int} : ∀ (f : Nat) (x : RE) (r : Rd), r.at_ ≤ s.length → RLe s r (repF s f x r).2
  | 0, x, r, h => .refl h
  | f + 1, x, r, h => by
    rw [repF]
    split
    · rename_i h2; exact (next_lt h2).le.trans (rep_le f _ _ (next_ok h2))
    · split
      · rename_i h2; exact (next_lt h2).le.trans (rep_le f _ _ (next_ok h2))
      · split
        · rename_i h2; exact (next_lt h2).le.trans (rep_le f _ _ (next_ok h2))
        · exact .refl h
structure ReaderLe (s : List Int) (f : Nat) : Prop where
  atom : ∀ d r, r.at_ ≤ s.length → RLe s r (atomF s f d r).2 ∧ (0 < f → RLt s r (atomF s f d r).2)
  part : ∀ d r, r.at_ ≤ s.length → RLe s r (partP s f d r).2 ∧ (1 < f → RLt s r (partP s f d r).2)
  seqL : ∀ d l r, r.at_ ≤ s.length → RLe s r (seqL s f d l r).2
  seq : ∀ d r, r.at_ ≤ s.length → RLe s r (seqF s f d r).2
  altL : ∀ d l r, r.at_ ≤ s.length → RLe s r (altL s f d l r).2
  alt : ∀ d r, r.at_ ≤ s.length → RLe s r (altF s f d r).2
theorem reader_le (s : List Int) : ∀ f, ReaderLe s f
  | 0 => ⟨fun d r h => ⟨by rw [atomF]; exact .refl h, fun h => absurd h (by omega)⟩, fun d r h => ⟨by rw [partP]; exact .refl h, fun h => absurd h (by omega)⟩, fun d l r h => by rw [seqL]; exact .refl h, fun d r h => by rw [seqF]; exact .refl h, fun d l r h => by rw [altL]; exact .refl h, fun d r h => by rw [altF]; exact .refl h⟩
  | f + 1 => by
    have ih := reader_le s f
    have ha : ∀ d r, r.at_ ≤ s.length → RLt s r (atomF s (f + 1) d r).2 := by
      intro d r h
      rw [atom_eq]
      split
      · rename_i h40
        split
        · refine ⟨fail_ok h, fun h2 => ?_⟩
          have := (is_lt h40).1
          simp only [Rd.fail, this, if_true] at h2
          exact absurd h2 (by simp)
        · have h1 := (next_lt h40).trans_le (ih.alt (d + 1) r.next (next_ok h40))
          simp only
          split
          · rename_i h41; exact h1.trans_le (next_lt h41).le
          · exact h1.trans_le (fail_le h1.1)
      · split
        · rename_i h2; exact next_lt h2
        · split
          · rename_i h2; exact (next_lt h2).trans_le (any_lt (next_ok h2)).le
          · split
            · rename_i h2; exact (next_lt h2).trans_le (class_lt (next_ok h2)).le
            · exact (notSp_le h).trans_lt (any_lt (notSp_le h).1)
    refine ⟨fun d r h => ⟨(ha d r h).le, fun _ => ha d r h⟩, fun d r h => ?_, fun d l r h => ?_, fun d r h => ?_, fun d l r h => ?_, fun d r h => ?_⟩
    · rw [part_eq]
      have h1 := ih.atom d r h
      exact ⟨h1.1.trans (rep_le _ _ _ h1.1.1), fun h2 => (h1.2 (by omega)).trans_le (rep_le _ _ _ h1.1.1)⟩
    · rw [seqL_eq]
      split
      · have h1 := (ih.part d r h).1
        exact h1.trans (ih.seqL _ _ _ h1.1)
      · exact .refl h
    · rw [seqF_eq]; exact ih.seqL _ _ _ h
    · rw [altL_eq]
      split
      · rename_i h2
        have h1 := (next_lt h2).le.trans (ih.seq d r.next (next_ok h2))
        exact h1.trans (ih.altL _ _ _ h1.1)
      · exact .refl h
    · rw [altF_eq]
      have h1 := ih.seq d r h
      exact h1.trans (ih.altL _ _ _ h1.1)
/-! ### fuel -/
def need (s : List Int) (r : Rd) : Nat := if r.e = 0 then 6 * (s.length - r.at_) else 0
theorem need_le {s : List Int} {r r' : Rd} (h : RLe s r r') : need s r' ≤ need s r := by
  unfold need
  by_cases e : r'.e = 0
  · obtain ⟨e0, h1⟩ := h.2 e
    rw [if_pos e, if_pos e0]; omega
  · rw [if_neg e]; omega
theorem need_lt {s : List Int} {r r' : Rd} (h : RLt s r r') (h0 : r.e = 0) (h1 : r.at_ < s.length) : need s r' + 6 ≤ need s r := by
  unfold need
  have h2 := h.1
  rw [if_pos h0]
  by_cases e : r'.e = 0
  · obtain ⟨e0, h1⟩ := h.2 e
    rw [if_pos e]; omega
  · rw [if_neg e]; omega
/-! ### literals of one pattern -/
section
variable {P : Program} {T : List TI} {N : Nat} {ops : Array Oper} {rest : List Oper} {o : Oper} {Q : Exit → St → Prop} {E F : Env} {M : List Ob}
theorem aops_lito1 (hT : TOk P T) {d : Nat} {t e : Nat} {ei : TI} {x : Operand} {y : A} (ho : o.op = .buildSlice t 1 #[(0, x)]) (hs : sliceOf T t = some (e, ei)) (hsz : (Nat.blt 0 (1 * ei.size) && Nat.ble (1 * ei.size) 16777216 && Nat.beq ei.zero.length ei.size) = true)
    (hx : opA E x = y) (hy : (Nat.beq y.cs.length ei.size && cellsOk y) = true) (hn : normL y.cs = some y.cs) (hg : guardOn ops o E = some true) (hd : o.dst = some d) (hN : Nat.blt d N = true) (next : ∀ b, AOps P N ops rest Q ⟨(d, .own (some b) 1 1) :: E, ⟨some b, 1 * ei.size, y.cs⟩ :: M⟩) : AOps P N ops (o :: rest) Q ⟨E, M⟩ := by
  have hl := Nat.eq_of_beq_eq_true (by simp only [Bool.and_eq_true] at hy; exact hy.1)
  refine aops_lito hT (r := y.cs) ho hs hsz ?_ hg hd hN (fun b => by rw [hl]; have := next b; rwa [Nat.one_mul] at this)
  simp only [Bool.and_eq_true] at hsz hy
  have hz := Nat.eq_of_beq_eq_true hsz.2
  have hzl : (zerosA (ei.zero.map ofZ) 1).length = ei.size := by simp [zerosA, hz]
  simp only [List.map_cons, List.map_nil, fillA, hx, Nat.zero_mul, hl, hzl, hy.2, Nat.zero_add]
  simp only [Nat.beq_refl, Nat.ble_self_eq_true, Bool.and_self, cond_true, List.take_zero, List.nil_append, fillA]
  rw [List.drop_of_length_le (by omega), List.append_nil, Option.bind_some, hn]
end
theorem reC_snoc (l : List RE) (x : RE) : encs reC (l ++ [x]) = encs reC l ++ reC x := by simp [encs]
theorem reC_enc (l : List RE) : (encs reC l).length = l.length * 6 := by rw [encs_len reC_len]
end Go.Proofs.Ytobpbelgihilpaa.Ab
/- Chapter 3's reader: parts, rows, choices: the walk. No condition. -/
set_option linter.unusedVariables false
set_option linter.unusedSimpArgs false
namespace Go.Proofs.Ytobpbelgihilpaa.Ab
attribute [local irreducible] thenA inBlockA ACode AOps put IntKind.wrap
def zeroRE : List A := [.int .i64 0, .int .u64 0, .int .u64 0, .int .u64 0, .int .u64 0, .nils]
end Go.Proofs.Ytobpbelgihilpaa.Ab
/- Chapter 3's reader: rows and parts: the walk. No condition. -/
set_option linter.unusedVariables false
set_option linter.unusedSimpArgs false
namespace Go.Proofs.Ytobpbelgihilpaa.Ab
attribute [local irreducible] thenA inBlockA ACode AOps put IntKind.wrap
/-- Does a row of parts go on? -/
def goesOn (s : List Int) (r : Rd) : Prop := r.e = 0 ∧ r.at_ < s.length ∧ r.is s 124 = false ∧ r.is s 41 = false
instance (s : List Int) (r : Rd) : Decidable (goesOn s r) := inferInstanceAs (Decidable (_ ∧ _))
end Go.Proofs.Ytobpbelgihilpaa.Ab
/- Chapter 3's reader: a part and what stands behind it: the walk. No condition. -/
set_option linter.unusedVariables false
set_option linter.unusedSimpArgs false
namespace Go.Proofs.Ytobpbelgihilpaa.Ab
attribute [local irreducible] thenA inBlockA ACode AOps put IntKind.wrap
theorem reC_one (o : Int) (x : RE) : reC (.mk o 0 [x]) = [.int .i64 o, .int .u64 0, .int .u64 0, .int .u64 0, .int .u64 0, .psl 1 (reC x)] := by
  rw [reC_kids o 0 (by simp)]
  simp [encs, wordOf]
end Go.Proofs.Ytobpbelgihilpaa.Ab
/- Chapter 3's reader: an atom: the walk. No condition. -/
set_option linter.unusedVariables false
set_option linter.unusedSimpArgs false
namespace Go.Proofs.Ytobpbelgihilpaa.Ab
attribute [local irreducible] thenA inBlockA ACode AOps put IntKind.wrap
end Go.Proofs.Ytobpbelgihilpaa.Ab
/- Chapter 3's reader: an atom: the walk. No condition. -/
set_option linter.unusedVariables false
set_option linter.unusedSimpArgs false
namespace Go.Proofs.Ytobpbelgihilpaa.Ab
attribute [local irreducible] thenA inBlockA ACode AOps put IntKind.wrap
end Go.Proofs.Ytobpbelgihilpaa.Ab
/- Chapter 3's reader, all together, and how a pattern is read: the walk. No condition. -/
set_option linter.unusedVariables false
set_option linter.unusedSimpArgs false
namespace Go.Proofs.Ytobpbelgihilpaa.Ab
attribute [local irreducible] thenA inBlockA ACode AOps put IntKind.wrap
end Go.Proofs.Ytobpbelgihilpaa.Ab
/- Chapter 3: whether the program answers at all; which bytes a set has: the walk, the law. No condition. -/
set_option linter.unusedVariables false
set_option linter.unusedSimpArgs false
namespace Go.Proofs.Ytobpbelgihilpaa.Ab
attribute [local irreducible] thenA inBlockA ACode AOps put IntKind.wrap
end Go.Proofs.Ytobpbelgihilpaa.Ab
/- Chapter 3: which bytes a set has, by the reference; the law RegexHas. No condition. -/
set_option linter.unusedVariables false
set_option linter.unusedSimpArgs false
namespace Go.Proofs.Ytobpbelgihilpaa.Ab
theorem and63n : ∀ n : Fin 256, IntKind.u64.wrap (IntKind.u8.wrap ((BitVec.ofInt IntKind.u8.bits (n.val : Int) &&& BitVec.ofInt IntKind.u8.bits 63).toNat)) = ((n.val % 64 : Nat) : Int) := by decide +kernel
theorem and63 {c : Nat} (hc : c < 256) : IntKind.u64.wrap (IntKind.u8.wrap ((BitVec.ofInt IntKind.u8.bits (c : Int) &&& BitVec.ofInt IntKind.u8.bits 63).toNat)) = ((c % 64 : Nat) : Int) := and63n ⟨c, hc⟩
theorem shr6n : ∀ n : Fin 256, ((n.val / 64 : Nat) : Int) = (n.val : Int).fdiv (2 ^ (min (6 : Int).toNat IntKind.u8.bits)) := by decide +kernel
attribute [local irreducible] thenA inBlockA ACode AOps put IntKind.wrap
theorem refHas_calls {c S : Nat} (hc : c < 256) (M : List Ob) : ACalls Try.prog 21 [.agg (wordsA S), .int .u8 c] M (fun r M' => r = .bool (S.testBit c) ∧ M' = M) := by
  have hw := word_lt S (c / 64)
  have hm : min (((c % 64 : Nat) : Int).toNat) IntKind.u64.bits = c % 64 := by
    have : IntKind.u64.bits = 64 := rfl
    rw [this]; omega
  have hsh : ((wordOf S (c / 64) / 2 ^ (c % 64) : Nat) : Int) = ((wordOf S (c / 64) : Nat) : Int).fdiv (2 ^ (min (((c % 64 : Nat) : Int).toNat) IntKind.u64.bits)) := by
    rw [hm]
    have h3 : ((2 : Int) ^ (c % 64)) = ((2 ^ (c % 64) : Nat) : Int) := by simp
    rw [h3, Int.fdiv_eq_ediv_of_nonneg _ (Int.natCast_nonneg _)]
    rfl
  have hq : wordOf S (c / 64) / 2 ^ (c % 64) < 2 ^ 64 := Nat.lt_of_le_of_lt (Nat.div_le_self _ _) hw
  have hand : IntKind.u64.wrap ((BitVec.ofInt IntKind.u64.bits ((wordOf S (c / 64) / 2 ^ (c % 64) : Nat) : Int) &&& BitVec.ofInt IntKind.u64.bits 1).toNat) = (((S.testBit c).toNat : Nat) : Int) := by
    have := and64 hq (show 1 < 2 ^ 64 by decide)
    rw [Nat.and_one_is_mod, has_bit] at this
    exact this
  refine acalls_of_code 15 Try.func21 rfl rfl rfl ?_
  repeat (first | refine acode_seq ?_ | refine acode_region ?_)
  refine aops_boxf rfl rfl rfl rfl rfl rfl rfl ?_
  repeat (first | refine aops_end ?_ | refine aops_p tok rfl rfl rfl rfl ?_ | refine acode_seq ?_ | refine acode_region ?_)
  refine aops_shift (((c / 64 : Nat) : Int)) rfl rfl rfl (by omega) (.inr ⟨rfl, shr6n ⟨c, hc⟩⟩) rfl rfl rfl ?_
  refine aops_ixa tok rfl rfl rfl ⟨by omega, by omega⟩ rfl rfl rfl rfl ?_
  refine aops_p tok (x := .int .u64 (wordOf S (c / 64) : Nat)) (by rw [headed_eq]; exact words_pp (by omega) (by omega)) rfl rfl rfl ?_
  repeat (refine aops_p tok rfl rfl rfl rfl ?_)
  rw [and63 hc]
  refine aops_shift (((wordOf S (c / 64) / 2 ^ (c % 64) : Nat) : Int)) rfl rfl rfl (by omega) (.inr ⟨rfl, hsh⟩) rfl rfl rfl ?_
  refine aops_p tok rfl rfl rfl rfl ?_
  rw [hand]
  cases hb : S.testBit c with
  | true =>
    repeat (first | refine aops_end ?_ | refine aops_p tok rfl rfl rfl rfl ?_)
    refine acode_ret ?_
    skip
    exact ⟨_, ⟨rfl, rfl⟩, resOf_tmp rfl⟩
  | false =>
    repeat (first | refine aops_end ?_ | refine aops_p tok rfl rfl rfl rfl ?_)
    refine acode_ret ?_
    skip
    exact ⟨_, ⟨rfl, rfl⟩, resOf_tmp rfl⟩
end Go.Proofs.Ytobpbelgihilpaa.Ab
/- Chapter 3's reference reader: single bytes, sets: the walk. No condition. -/
set_option linter.unusedVariables false
set_option linter.unusedSimpArgs false
namespace Go.Proofs.Ytobpbelgihilpaa.Ab
/-! ### in plain terms -/
/-- Does that byte come, whether it failed or not? -/
def Rd.isR (s : List Int) (r : Rd) (c : Int) : Bool := match s[r.at_]? with | some x => decide (x = c) | none => false
def Rd.failAt (r : Rd) (e : Int) (a : Nat) : Rd := if r.e = 0 then ⟨r.at_, e, a⟩ else r
theorem isR_is {s : List Int} {r : Rd} {c : Int} (h : r.e = 0) : r.isR s c = r.is s c := by unfold Rd.isR Rd.is; rw [decide_eq_true h, Bool.true_and]; rfl
theorem failAt_fail {r : Rd} {e : Int} : r.failAt e r.at_ = r.fail e := rfl
attribute [local irreducible] thenA inBlockA ACode AOps put IntKind.wrap
theorem over_rc (rb : Nat) {s : List Int} (hl : s.length ≤ 1000) {r : Rd} (hat : r.at_ ≤ 2000) : RC 11 [] s rb r r (.bool (decide (s.length ≤ r.at_))) := by
  intro M
  have hsz := str_len (s := s)
  refine acalls_of_code 13 Try.func11 rfl rfl rfl ?_
  repeat (first | refine aops_end ?_ | refine aops_p tok rfl rfl rfl rfl ?_ | refine acode_seq ?_ | refine acode_region ?_)
  by_cases h : s.length ≤ r.at_
  · rw [decide_eq_true h]
    refine acode_drawT 10 mixed (by kernel_rfl) (by kernel_rfl) ?_
    repeat (first | refine seqT_p tok rfl rfl rfl rfl ?_ | refine seqT_ld tok 0 rfl rfl rfl rfl rfl rfl rfl rfl ?_)
    rw [show decide (((r.at_ : Nat) : Int) ≥ ((strOfNums s).size : Int)) = true from decide_eq_true (by omega)]
    refine SeqT.done ?_
    repeat (first | refine aops_end ?_ | refine aops_p tok rfl rfl rfl rfl ?_)
    refine acode_ret ?_
    skip
    exact ⟨_, ⟨rfl, rfl⟩, resOf_tmp rfl⟩
  · rw [decide_eq_false h]
    refine acode_drawT 10 mixed (by kernel_rfl) (by kernel_rfl) ?_
    repeat (first | refine seqT_p tok rfl rfl rfl rfl ?_ | refine seqT_ld tok 0 rfl rfl rfl rfl rfl rfl rfl rfl ?_)
    rw [show decide (((r.at_ : Nat) : Int) ≥ ((strOfNums s).size : Int)) = false from decide_eq_false (by omega)]
    refine SeqT.done ?_
    repeat (first | refine aops_end ?_ | refine aops_p tok rfl rfl rfl rfl ?_)
    refine acode_ret ?_
    skip
    exact ⟨_, ⟨rfl, rfl⟩, resOf_tmp rfl⟩
theorem failAt_rc (rb : Nat) (s : List Int) (r : Rd) (e : Int) (a : Nat) : RC 12 [.int .i64 e, .int .i64 a] s rb r (r.failAt e a) (.tup []) := by
  intro M
  refine acalls_of_code 19 Try.func12 rfl rfl rfl ?_
  by_cases h : r.e = 0
  · have hr : r.failAt e a = ⟨r.at_, e, a⟩ := by unfold Rd.failAt; rw [if_pos h]
    rw [hr]
    repeat' (first | refine aops_end ?_ | refine aops_pbt tok rfl (by first | omega | decide) rfl rfl rfl ?_ | refine aops_p tok rfl rfl rfl rfl ?_ | refine acode_it rfl ?_ | refine aops_ld tok 0 rfl rfl rfl rfl rfl rfl rfl rfl ?_ | refine aops_stn tok rfl rfl rfl rfl rfl rfl rfl rfl rfl ?_ | refine acode_seq ?_ | refine acode_region ?_)
    all_goals try (exfalso; omega)
    refine aops_nil ?_
    exact ⟨.tup [], ⟨rfl, rfl⟩, rfl⟩
  · have hr : r.failAt e a = r := by unfold Rd.failAt; rw [if_neg h]
    rw [hr]
    repeat' (first | refine aops_end ?_ | refine aops_pbf tok rfl (by first | omega | decide) rfl rfl rfl ?_ | refine aops_p tok rfl rfl rfl rfl ?_ | refine acode_if rfl ?_ | refine aops_ld tok 0 rfl rfl rfl rfl rfl rfl rfl rfl ?_ | refine acode_seq ?_ | refine acode_region ?_ | refine acode_skip ?_)
    all_goals try (exfalso; omega)
    exact ⟨.tup [], ⟨rfl, rfl⟩, rfl⟩
set_option maxHeartbeats 2000000 in
theorem isR_rc {s : List Int} (hs : byteS s) (rb : Nat) {r : Rd} (hat : r.at_ ≤ 2000) (c : Int) : RC 24 [.int .u8 c] s rb r r (.bool (r.isR s c)) := by
  intro M
  have hov := over_rc rb hs.2 hat M
  obtain ⟨hb, hl⟩ := hs
  have hsz := str_len (s := s)
  refine acalls_of_code 21 Try.func24 rfl rfl rfl ?_
  repeat (first | refine aops_end ?_ | refine aops_p tok rfl rfl rfl rfl ?_ | refine acode_seq ?_ | refine acode_region ?_)
  by_cases hlt : r.at_ < s.length
  · obtain ⟨x, hx⟩ : ∃ x, s[r.at_]? = some x := ⟨s[r.at_], List.getElem?_eq_getElem hlt⟩
    have hR : r.isR s c = decide (x = c) := by simp [Rd.isR, hx]
    rw [decide_eq_false (by omega)] at hov
    rw [hR]
    refine acode_drawT 16 mixed (by kernel_rfl) (by kernel_rfl) ?_
    repeat (refine seqT_p tok rfl rfl rfl rfl ?_)
    refine seqT_call _ Try.func11 rfl rfl rfl rfl hov rfl rfl rfl ?_
    repeat (first | refine seqT_p tok rfl rfl rfl rfl ?_ | refine seqT_ld tok 0 rfl rfl rfl rfl rfl rfl rfl rfl ?_)
    refine seqT_idxs tok x rfl rfl rfl rfl (by omega) (by simpa using hx) (hb x (List.mem_of_getElem? hx)) rfl rfl rfl ?_
    repeat' (first | (refine seqT_pd tok rfl rfl rfl rfl ?_ ?_ <;> intro e_) | refine seqT_p tok rfl rfl rfl rfl ?_)
    · refine SeqT.done ?_
      repeat (first | refine aops_end ?_ | refine aops_p tok rfl rfl rfl rfl ?_)
      refine acode_ret ?_
      skip
      exact ⟨.bool (decide (x = c)), ⟨rfl, rfl⟩, resOf_tmp (bt e_)⟩
    · refine SeqT.done ?_
      repeat (first | refine aops_end ?_ | refine aops_p tok rfl rfl rfl rfl ?_)
      refine acode_ret ?_
      skip
      exact ⟨.bool (decide (x = c)), ⟨rfl, rfl⟩, resOf_tmp (bf e_)⟩
  · have hR : r.isR s c = false := by simp [Rd.isR, List.getElem?_eq_none (show s.length ≤ r.at_ by omega)]
    rw [decide_eq_true (by omega)] at hov
    rw [hR]
    refine acode_drawT 16 mixed (by kernel_rfl) (by kernel_rfl) ?_
    repeat (refine seqT_p tok rfl rfl rfl rfl ?_)
    refine seqT_call _ Try.func11 rfl rfl rfl rfl hov rfl rfl rfl ?_
    repeat (first | refine seqT_o rfl rfl rfl ?_ | refine seqT_p tok rfl rfl rfl rfl ?_)
    refine SeqT.done ?_
    repeat (first | refine aops_end ?_ | refine aops_p tok rfl rfl rfl rfl ?_)
    refine acode_ret ?_
    skip
    exact ⟨_, ⟨rfl, rfl⟩, resOf_tmp rfl⟩
theorem special_calls {c : Int} (M : List Ob) : ACalls Try.prog 40 [.int .u8 c] M (fun r M' => r = .bool (specials.contains c) ∧ M' = M) := by
  have hc : specials.contains c = decide (c = 124 ∨ c = 42 ∨ c = 43 ∨ c = 63 ∨ c = 40 ∨ c = 41 ∨ c = 91 ∨ c = 93) := by
    simp [specials]
  rw [hc]
  refine acalls_of_code 33 Try.func40 rfl rfl rfl ?_
  repeat' (first | refine aops_end ?_ | refine aops_o rfl rfl rfl ?_ | (refine aops_pd tok rfl rfl rfl rfl ?_ ?_ <;> intro e_) | refine aops_p tok rfl rfl rfl rfl ?_ | refine acode_seq ?_ | refine acode_region ?_)
  all_goals
    refine acode_ret ?_
    skip
    exact ⟨.bool (decide (c = 124 ∨ c = 42 ∨ c = 43 ∨ c = 63 ∨ c = 40 ∨ c = 41 ∨ c = 91 ∨ c = 93)), ⟨rfl, rfl⟩, resOf_tmp (by first | exact bt (by omega) | exact bf (by omega))⟩
theorem with_calls {c S : Nat} (hc : c < 256) (M : List Ob) : ACalls Try.prog 41 [.agg (wordsA S), .int .u8 c] M (fun r M' => r = .agg (wordsA (setAdd S c)) ∧ M' = M) := by
  have hj : ((c / 64 : Nat) : Int).toNat = c / 64 := by omega
  have hw := word_lt S (c / 64)
  have h2 : 2 ^ (c % 64) < 2 ^ 64 := Nat.pow_lt_pow_right (by omega) (by omega)
  have hshl : ((2 ^ (c % 64) : Nat) : Int) = IntKind.u64.wrap (1 * 2 ^ (min (((c % 64 : Nat) : Int).toNat) IntKind.u64.bits)) := (shl_one (c := c)).symm
  refine acalls_of_code 18 Try.func41 rfl rfl rfl ?_
  repeat (first | refine acode_seq ?_ | refine acode_region ?_)
  refine aops_boxo rfl rfl rfl rfl rfl rfl rfl fun b2 => ?_
  refine aops_alloc tok rfl rfl rfl rfl rfl rfl fun b4 => ?_
  repeat (first | refine aops_end ?_ | refine aops_p tok rfl rfl rfl rfl ?_ | refine acode_seq ?_ | refine acode_region ?_)
  refine aops_shift (((c / 64 : Nat) : Int)) rfl rfl rfl (by omega) (.inr ⟨rfl, shr6n ⟨c, hc⟩⟩) rfl rfl rfl ?_
  repeat (refine aops_p tok rfl rfl rfl rfl ?_)
  refine aops_shift (((c / 64 : Nat) : Int)) rfl rfl rfl (by omega) (.inr ⟨rfl, shr6n ⟨c, hc⟩⟩) rfl rfl rfl ?_
  refine aops_ixa tok rfl rfl rfl ⟨by omega, by omega⟩ rfl rfl rfl rfl ?_
  refine aops_ld tok 1 (y := .int .u64 (wordOf S (c / 64) : Nat)) rfl rfl rfl rfl (by rw [headed_eq]; exact words_at hj (by omega)) rfl rfl rfl ?_
  repeat (refine aops_p tok rfl rfl rfl rfl ?_)
  rw [and63 hc]
  refine aops_shift _ rfl rfl rfl (by omega) (.inl ⟨rfl, hshl⟩) rfl rfl rfl ?_
  refine aops_p tok rfl rfl rfl rfl ?_
  rw [or64 hw h2]
  refine aops_ixa tok rfl rfl rfl ⟨by omega, by omega⟩ rfl rfl rfl rfl ?_
  refine aops_stk tok 1 (wordsA (setAdd S c)) _ rfl rfl rfl rfl rfl rfl (by show 0 + ((c / 64 : Nat) : Int).toNat * 1 + 1 ≤ 4; omega) (words_add hc hj) rfl rfl rfl ?_
  repeat (first | refine aops_end ?_ | refine aops_ld tok 1 rfl rfl rfl rfl rfl rfl rfl rfl ?_ | refine aops_stn tok rfl rfl rfl rfl rfl rfl rfl rfl rfl ?_ | refine acode_seq ?_ | refine acode_region ?_)
  refine acode_pubref0 4 rfl ?_
  refine acode_drop0 ?_
  refine acode_ret ?_
  skip
  exact ⟨.agg (wordsA (setAdd S c)), ⟨rfl, rfl⟩, resOf_pp tok rfl rfl rfl⟩
theorem oneR_calls {c : Nat} (hc : c < 256) (M : List Ob) : ACalls Try.prog 38 [.int .u8 c] M (fun r M' => r = .agg (reC (reOne c)) ∧ M' = M) := by
  have e : reOne (c : Int) = reSet (setAdd 0 c) := by unfold reOne; rw [Int.toNat_natCast]
  rw [e, reC_set]
  refine acalls_of_code 8 Try.func38 rfl rfl rfl ?_
  repeat (first | refine acode_seq ?_ | refine acode_region ?_)
  refine aops_alloc tok rfl rfl rfl rfl rfl rfl fun b0 => ?_
  repeat (first | refine aops_end ?_ | refine acode_seq ?_ | refine acode_region ?_)
  refine aops_alloc tok rfl rfl rfl rfl rfl rfl fun b1 => ?_
  repeat (first | refine aops_end ?_ | refine aops_p tok rfl rfl rfl rfl ?_ | refine aops_ld tok 0 rfl rfl rfl rfl rfl rfl rfl rfl ?_ | refine acode_seq ?_ | refine acode_region ?_)
  refine aops_callx Try.func41 rfl rfl rfl rfl (with_calls (c := c) (S := 0) hc _) rfl rfl rfl ?_
  repeat (first | refine aops_end ?_ | refine aops_p tok rfl rfl rfl rfl ?_ | refine aops_stn1 tok rfl rfl rfl rfl rfl rfl rfl rfl rfl ?_)
  refine acode_drop0 ?_
  refine acode_pubref0 2 rfl ?_
  refine acode_ret ?_
  skip
  exact ⟨_, ⟨rfl, rfl⟩, resOf_pp tok rfl rfl rfl⟩
def dotN : Nat → Nat
  | 0 => 0
  | n + 1 => if n = 10 then dotN n else setAdd (dotN n) n
theorem dotN_all : dotN 256 = setDot := by decide +kernel
theorem u8_idK {i : Nat} (h : i < 256) : IntKind.u8.wrap (i : Int) = i := by
  have : IntKind.u8.wrap (i : Int) = (i : Int) % 256 := by
    unfold IntKind.wrap
    rfl
  rw [this]; omega
set_option maxRecDepth 20000 in
theorem dotR_calls (M : List Ob) : ACalls Try.prog 37 [] M (fun r M' => r = .agg (wordsA setDot) ∧ M' = M) := by
  refine acalls_of_code 14 Try.func37 rfl rfl rfl ?_
  repeat (first | refine acode_seq ?_ | refine acode_region ?_)
  refine aops_alloc tok rfl rfl rfl rfl rfl rfl fun b0 => ?_
  repeat (first | refine aops_end ?_ | refine acode_seq ?_ | refine acode_region ?_)
  refine aops_alloc tok rfl rfl rfl rfl rfl rfl fun b1 => ?_
  repeat (first | refine aops_end ?_ | refine aops_p tok rfl rfl rfl rfl ?_ | refine acode_seq ?_ | refine acode_region ?_ | refine acode_block ?_)
  refine acode_loopS (ι := Nat) (fun i => [(0, .ref b0 0), (1, .ref b1 0), (2, .int .i64 i)]) (fun i => ⟨some b1, 4, wordsA (dotN i)⟩ :: ⟨some b0, 4, wordsA 0⟩ :: M) (fun i => 256 - i) (fun i => i ≤ 256) 0 (by omega) ⟨rfl, rfl, rfl, trivial⟩ rfl ?_
  intro i hi
  by_cases hlt : i < 256
  · have hw := u8_idK hlt
    by_cases h10 : i = 10
    · have hd : dotN (i + 1) = dotN i := by rw [dotN, if_pos h10]
      repeat' (first | refine aops_end ?_ | refine aops_a tok rfl (by omega) (by omega) rfl rfl rfl ?_ | refine aops_pbt tok rfl (by first | omega | decide) rfl rfl rfl ?_ | (refine aops_pn tok rfl rfl rfl rfl ?_ ?_ <;> intro e_) | refine aops_p tok rfl rfl rfl rfl ?_ | refine acode_it rfl ?_ | refine acode_if rfl ?_ | refine aops_ld tok 0 rfl rfl rfl rfl rfl rfl rfl rfl ?_ | refine acode_seq ?_ | refine acode_region ?_ | refine acode_block ?_ | refine acode_skip ?_ | refine then_n ?_ | refine block_n ?_)
      all_goals try (exfalso; omega)
      exact ⟨i + 1, by omega, by omega, ⟨rfl, rfl, by rw [h10]; rfl, trivial⟩, by rw [hd]⟩
    · have hd : dotN (i + 1) = setAdd (dotN i) i := by rw [dotN, if_neg h10]
      have hwc := fun M => with_calls (c := i) (S := dotN i) hlt M
      repeat' (first | refine aops_end ?_ | refine aops_a tok rfl (by omega) (by omega) rfl rfl rfl ?_ | refine aops_pbt tok rfl (by first | omega | decide) rfl rfl rfl ?_ | (refine aops_pn tok rfl rfl rfl rfl ?_ ?_ <;> intro e_) | refine aops_p tok rfl rfl rfl rfl ?_ | refine acode_it rfl ?_ | refine acode_if rfl ?_ | refine aops_ld tok 0 rfl rfl rfl rfl rfl rfl rfl rfl ?_ | refine acode_seq ?_ | refine acode_region ?_ | refine acode_block ?_ | refine acode_skip ?_ | refine then_n ?_ | refine block_n ?_)
      all_goals try (exfalso; omega)
      rw [hw]
      refine aops_callx Try.func41 rfl rfl rfl rfl (hwc _) rfl rfl rfl ?_
      refine aops_sto tok (wordsA (setAdd (dotN i) i)) rfl rfl rfl rfl rfl (Nat.le_refl 4) rfl rfl rfl ?_
      repeat (first | refine aops_end ?_ | refine aops_endb ?_ | refine aops_a tok rfl (by omega) (by omega) rfl rfl rfl ?_ | refine aops_p tok rfl rfl rfl rfl ?_ | refine acode_region ?_ | refine then_n ?_)
      exact ⟨i + 1, by omega, by omega, ⟨rfl, rfl, rfl, trivial⟩, by rw [hd]⟩
  · have : i = 256 := by omega
    subst this
    rw [dotN_all]
    repeat' (first | refine aops_end ?_ | refine aops_pbf tok rfl (by first | omega | decide) rfl rfl rfl ?_ | refine aops_p tok rfl rfl rfl rfl ?_ | refine acode_if rfl ?_ | refine acode_seq ?_ | refine acode_region ?_)
    all_goals try (exfalso; omega)
    refine acode_exit ?_
    repeat (first | refine exit_then ?_ | refine exit_here ?_ | refine then_n ?_)
    repeat (first | refine aops_end ?_ | refine aops_ld tok 0 rfl rfl rfl rfl rfl rfl rfl rfl ?_ | refine aops_stn1 tok rfl rfl rfl rfl rfl rfl rfl rfl rfl ?_ | refine acode_seq ?_ | refine acode_region ?_)
    refine acode_drop0 ?_
    refine acode_pubref0 0 rfl ?_
    refine acode_ret ?_
    skip
    exact ⟨.agg (wordsA setDot), ⟨rfl, rfl⟩, resOf_pp tok rfl rfl rfl⟩
end Go.Proofs.Ytobpbelgihilpaa.Ab
/- Chapter 3's reference reader: a byte of a set; joins of many. No condition. -/
set_option linter.unusedVariables false
set_option linter.unusedSimpArgs false
namespace Go.Proofs.Ytobpbelgihilpaa.Ab
section
variable {P : Program} {N : Nat} {Q : Exit → St → Prop}
/-- What comes after, whatever of many states it is reached in. -/
theorem acode_joinI {ι : Type} {c y : Code} {Q2 : Exit → St → Prop} {st : St} (E' : ι → Env) (M' : ι → List Ob) (I : ι → Prop) (hx : ACode P N c (thenA (fun s => ∃ i, I i ∧ subE (E' i) s.E ∧ s.M = M' i) Q) st) (hy : ∀ i, I i → ACode P N y Q2 ⟨E' i, M' i⟩) : ACode P N c (thenA (ACode P N y Q2) Q) st := by
  refine hx.mono ?_
  rintro e ⟨E1, M1⟩ h
  cases e with
  | normal =>
    obtain ⟨i, hi, h1, h2⟩ := h
    simp only at h1 h2
    subst h2
    exact acode_sub (E' i) h1 (hy i hi)
  | _ => exact h
end
def Rd.byteP (s : List Int) (r : Rd) : Int × Rd := (if r.is s 92 = true then r.next else r).any s
theorem byteP_member {s : List Int} {r : Rd} (h : r.is s 93 = false) : r.byteP s = r.member s := by
  unfold Rd.byteP Rd.member
  rw [if_neg (c := r.is s 93 = true) (by rw [h]; simp)]
  split <;> rfl
theorem byteP_ok {s : List Int} {r : Rd} (h : r.at_ ≤ s.length) : RLt s r (r.byteP s).2 := by
  unfold Rd.byteP
  split
  · rename_i h2; exact (next_lt h2).trans_le (any_lt (next_ok h2)).le
  · exact any_lt h
theorem byteP_nat {s : List Int} (hs : byteS s) (r : Rd) : ∃ n : Nat, n < 256 ∧ (r.byteP s).1 = (n : Int) := by
  obtain ⟨h0, h1⟩ := any_rng hs (r := if r.is s 92 = true then r.next else r)
  obtain ⟨n, hn⟩ := Int.eq_ofNat_of_zero_le h0
  exact ⟨n, by omega, hn⟩
attribute [local irreducible] thenA inBlockA ACode AOps put IntKind.wrap
set_option maxHeartbeats 2000000 in
theorem byte1_rc {s : List Int} (hs : byteS s) (rb : Nat) {r : Rd} (he : r.e = 0) (hat : r.at_ ≤ s.length) : RC 42 [] s rb r (r.byteP s).2 (.int .u8 (r.byteP s).1) := by
  intro M
  have hl := hs.2
  have hi := isR_rc hs rb (show r.at_ ≤ 2000 by omega) 92 M
  rw [isR_is he] at hi
  have hsz := str_len (s := s)
  refine acalls_of_code 37 Try.func42 rfl rfl rfl ?_
  refine acode_seq ?_
  refine acode_region ?_
  repeat (refine aops_p tok rfl rfl rfl rfl ?_)
  refine aops_end ?_
  refine acode_seq ?_
  refine acode_seq ?_
  refine acode_region ?_
  repeat (refine aops_p tok rfl rfl rfl rfl ?_)
  refine aops_callx Try.func24 rfl rfl rfl rfl hi rfl rfl rfl ?_
  refine aops_end ?_
  unfold Rd.byteP
  have hr1 : (if r.is s 92 = true then r.next else r).at_ ≤ s.length ∧ (if r.is s 92 = true then r.next else r).e = 0 := by
    split
    · rename_i h; exact ⟨next_ok h, he⟩
    · exact ⟨hat, he⟩
  refine acode_join [(0, .ref rb 0)] (rdO rb s (if r.is s 92 = true then r.next else r) :: M) ?_ ?_
  · cases h92 : r.is s 92 with
    | true =>
      rw [if_pos rfl]
      refine acode_it rfl ?_
      refine acode_region ?_
      repeat (first | refine aops_end ?_ | refine aops_a tok rfl (by omega) (by omega) rfl rfl rfl ?_ | refine aops_p tok rfl rfl rfl rfl ?_ | refine aops_ld tok 0 rfl rfl rfl rfl rfl rfl rfl rfl ?_ | refine aops_stn tok rfl rfl rfl rfl rfl rfl rfl rfl rfl ?_)
      exact ⟨⟨rfl, trivial⟩, rfl⟩
    | false =>
      rw [if_neg Bool.false_ne_true]
      refine acode_if rfl ?_
      refine acode_skip ?_
      refine then_n ?_
      exact ⟨⟨rfl, trivial⟩, rfl⟩
  generalize (if r.is s 92 = true then r.next else r) = r1 at *
  obtain ⟨hat1, he1⟩ := hr1
  have hov := over_rc rb hl (show r1.at_ ≤ 2000 by omega) M
  by_cases hlt : r1.at_ < s.length
  · obtain ⟨x, hx⟩ : ∃ x, s[r1.at_]? = some x := ⟨s[r1.at_], List.getElem?_eq_getElem hlt⟩
    have hxb := hs.1 x (List.mem_of_getElem? hx)
    have hR : r1.any s = (x, r1.next) := by simp [Rd.any, he1, hx]
    rw [hR]
    rw [decide_eq_false (by omega)] at hov
    repeat (first | refine aops_p tok rfl rfl rfl rfl ?_ | refine acode_seq ?_ | refine acode_region ?_)
    refine aops_callx Try.func11 rfl rfl rfl rfl hov rfl rfl rfl ?_
    repeat' (first | refine aops_end ?_ | refine aops_a tok rfl (by omega) (by omega) rfl rfl rfl ?_ | refine aops_p tok rfl rfl rfl rfl ?_ | refine acode_if rfl ?_ | refine aops_ld tok 0 rfl rfl rfl rfl rfl rfl rfl rfl ?_ | refine aops_stn tok rfl rfl rfl rfl rfl rfl rfl rfl rfl ?_ | refine acode_seq ?_ | refine acode_region ?_ | refine acode_skip ?_ | refine then_n ?_)
    refine acode_drawT 10 mixed (by kernel_rfl) (by kernel_rfl) ?_
    repeat (first | refine seqT_a tok rfl (by omega) (by omega) rfl rfl rfl ?_ | refine seqT_p tok rfl rfl rfl rfl ?_ | refine seqT_ld tok 0 rfl rfl rfl rfl rfl rfl rfl rfl ?_)
    refine seqT_idxs tok x rfl rfl rfl rfl (by omega) (by rw [← hx]; congr 1; omega) hxb rfl rfl rfl ?_
    skip
    refine SeqT.done ?_
    repeat (first | refine aops_end ?_ | refine aops_p tok rfl rfl rfl rfl ?_)
    refine acode_ret ?_
    skip
    exact ⟨_, ⟨rfl, rfl⟩, resOf_tmp rfl⟩
  · have hR : r1.any s = (0, r1.fail 2) := by simp [Rd.any, he1, List.getElem?_eq_none (show s.length ≤ r1.at_ by omega)]
    rw [hR]
    rw [decide_eq_true (by omega)] at hov
    have hf := failAt_rc rb s r1 2 r1.at_ M
    rw [failAt_fail] at hf
    repeat (first | refine aops_p tok rfl rfl rfl rfl ?_ | refine acode_seq ?_ | refine acode_region ?_)
    refine aops_callx Try.func11 rfl rfl rfl rfl hov rfl rfl rfl ?_
    repeat' (first | refine aops_end ?_ | refine aops_p tok rfl rfl rfl rfl ?_ | refine acode_it rfl ?_ | refine aops_ld tok 0 rfl rfl rfl rfl rfl rfl rfl rfl ?_ | refine acode_seq ?_ | refine acode_region ?_)
    refine aops_callr Try.func12 rfl rfl rfl rfl hf rfl rfl rfl ?_
    repeat (first | refine aops_end ?_ | refine aops_p tok rfl rfl rfl rfl ?_ | refine acode_seq ?_ | refine acode_region ?_)
    refine acode_ret ?_
    repeat (refine ret_then ?_)
    exact ⟨_, ⟨rfl, rfl⟩, resOf_tmp rfl⟩
end Go.Proofs.Ytobpbelgihilpaa.Ab
/- Chapter 3's reference reader: a set: the walk. No condition. -/
set_option linter.unusedVariables false
set_option linter.unusedSimpArgs false
namespace Go.Proofs.Ytobpbelgihilpaa.Ab
theorem item_fail {s : List Int} {r : Rd} {S : Nat} (he : r.e = 0) (h : r.is s 93 = true ∨ s.length ≤ r.at_) : r.item s S = (S, r.fail 2) := by
  have hf : r.fail 2 = ⟨r.at_, 2, r.at_⟩ := by unfold Rd.fail; rw [if_pos he]
  have hm : r.member s = (0, r.fail 2) := by
    unfold Rd.member
    rcases h with h | h
    · obtain ⟨_, _, hx⟩ := is_lt h
      have h92 : r.is s 92 = false := by unfold Rd.is; rw [hx]; simp
      rw [if_neg (by rw [h92]; simp), if_pos h, hf]
      simp [Rd.any]
    · have hn : s[r.at_]? = none := List.getElem?_eq_none h
      have h1 : ∀ c, r.is s c = false := fun c => by unfold Rd.is; rw [hn]; simp
      rw [if_neg (by rw [h1]; simp), if_neg (by rw [h1]; simp)]
      simp [Rd.any, he, hn]
  have hb : itemB s 0 (r.fail 2) = (0, r.fail 2) := by
    unfold itemB
    rw [if_neg]
    unfold Rd.between Rd.is
    rw [hf]; simp
  rw [item_eq, hm]
  simp only [hb]
  rw [if_neg (by rw [hf]; simp)]
theorem classL_stop {s : List Int} {S : Nat} {r : Rd} (h : r.e ≠ 0) : ∀ f, classL s f S r = (S, r)
  | 0 => rfl
  | f + 1 => by rw [classL, if_pos h]
/-- What is still to be read of a set, of which n items were. -/
def clsGo (s : List Int) (n f S : Nat) (r : Rd) : Nat × Rd := if n ≠ 0 ∧ r.is s 93 = true then (S, r.next) else classL s f (r.item s S).1 (r.item s S).2
theorem clsGo_next {s : List Int} {f S : Nat} {r : Rd} (n : Nat) (h : r.e = 0) : classL s (f + 1) S r = clsGo s (n + 1) f S r := by
  unfold clsGo
  rw [classL, if_neg (by simpa using h)]
  by_cases h93 : r.is s 93 = true
  · rw [if_pos h93, if_pos ⟨by omega, h93⟩]
  · rw [if_neg h93, if_neg (fun h => h93 h.2)]
/-- What the reference's reader is, where the program's is so. -/
def Sim (s : List Int) (b : Nat) (r' r2 : Rd) : Prop := (r'.e = 0 → r2 = r') ∧ (r'.e ≠ 0 → r2.e = r'.e ∧ r2.w = r'.w ∧ r2.at_ ≤ s.length + b)
theorem Sim.refl {s : List Int} {b : Nat} {r : Rd} (h : r.at_ ≤ s.length + b) : Sim s b r r := ⟨fun _ => rfl, fun _ => ⟨rfl, rfl, h⟩⟩
theorem Sim.e {s : List Int} {b : Nat} {r' r2 : Rd} (h : Sim s b r' r2) : r2.e = r'.e := by
  by_cases e : r'.e = 0
  · rw [h.1 e]
  · exact (h.2 e).1
/-- A call upon the reference's reader, which didn't fail before. -/
def QC (f : FuncId) (xs : List A) (s : List Int) (rb b : Nat) (r r' : Rd) (ans : RE) : Prop := ∀ M, ACalls Try.prog f (.ref rb 0 :: xs) (rdO rb s r :: M) (fun x M' => ∃ y r2, x = .agg (reC y) ∧ M' = rdO rb s r2 :: M ∧ Sim s b r' r2 ∧ (r'.e = 0 → y = ans))
theorem QC.mid {f : FuncId} {xs : List A} {s : List Int} {rb b : Nat} {r r' : Rd} {ans : RE} (h : QC f xs s rb b r r' ans) (L M : List Ob) : ACalls Try.prog f (.ref rb 0 :: xs) (L ++ (rdO rb s r :: M)) (fun x M' => ∃ y r2, x = .agg (reC y) ∧ M' = L ++ (rdO rb s r2 :: M) ∧ Sim s b r' r2 ∧ (r'.e = 0 → y = ans)) := by
  refine (acalls_mid (R := fun x o' => ∃ y r2, x = .agg (reC y) ∧ o' = rdO rb s r2 ∧ Sim s b r' r2 ∧ (r'.e = 0 → y = ans)) (fun M => (h M).mono ?_)).mono ?_
  · rintro x M' ⟨y, r2, rfl, rfl, h1, h2⟩; exact ⟨_, ⟨y, r2, rfl, rfl, h1, h2⟩, rfl⟩
  · rintro x M' ⟨o', ⟨y, r2, rfl, rfl, h1, h2⟩, rfl⟩; exact ⟨y, r2, rfl, rfl, h1, h2⟩
attribute [local irreducible] thenA inBlockA ACode AOps put IntKind.wrap
set_option maxHeartbeats 8000000 in
theorem classR_qc {s : List Int} (hs : byteS s) (rb : Nat) {r : Rd} (he : r.e = 0) (hat : r.at_ ≤ s.length) : QC 39 [] s rb 1 r (r.class_ s).2 (r.class_ s).1 := by
  intro M
  have hl := hs.2
  have hsz := str_len (s := s)
  have hcl : r.class_ s = (reSet (clsS (r.is s 94) (classL s (s.length + 1) ((if r.is s 94 = true then r.next else r).item s 0).1 ((if r.is s 94 = true then r.next else r).item s 0).2).1), (classL s (s.length + 1) ((if r.is s 94 = true then r.next else r).item s 0).1 ((if r.is s 94 = true then r.next else r).item s 0).2).2) := rfl
  rw [hcl]
  clear hcl
  have hi94 := fun L => (isR_rc hs rb (show r.at_ ≤ 2000 by omega) 94).mid L M
  rw [isR_is he] at hi94
  have hat0 : (if r.is s 94 = true then r.next else r).at_ ≤ s.length ∧ (if r.is s 94 = true then r.next else r).e = 0 := by
    split
    · rename_i h2; exact ⟨next_ok h2, he⟩
    · exact ⟨hat, he⟩
  refine acalls_of_code 145 Try.func39 rfl rfl rfl ?_
  repeat (first | refine acode_seq ?_ | refine acode_region ?_)
  refine aops_alloc tok rfl rfl rfl rfl rfl rfl fun b2 => ?_
  repeat (first | refine aops_end ?_ | refine acode_seq ?_ | refine acode_region ?_)
  refine aops_alloc tok rfl rfl rfl rfl rfl rfl fun b3 => ?_
  repeat (first | refine aops_end ?_ | refine aops_p tok rfl rfl rfl rfl ?_ | refine acode_seq ?_ | refine acode_region ?_)
  refine aops_callx Try.func24 rfl rfl rfl rfl (hi94 [_, _]) rfl rfl rfl ?_
  repeat (refine aops_p tok rfl rfl rfl rfl ?_)
  refine aops_end ?_
  refine acode_seq ?_
  refine acode_seq ?_
  refine acode_region ?_
  repeat (refine aops_p tok rfl rfl rfl rfl ?_)
  refine aops_end ?_
  refine acode_join [(0, .ref rb 0), (2, .ref b2 0), (3, .ref b3 0), (4, .bool (r.is s 94))] (⟨some b3, 4, wordsA 0⟩ :: ⟨some b2, 6, zeroRE⟩ :: rdO rb s (if r.is s 94 = true then r.next else r) :: M) ?_ ?_
  · cases h94 : r.is s 94 with
    | true =>
      rw [if_pos rfl]
      refine acode_it rfl ?_
      refine acode_region ?_
      repeat (refine aops_p tok rfl rfl rfl rfl ?_)
      refine aops_ld tok 2 rfl rfl rfl rfl rfl rfl rfl rfl ?_
      repeat (first | refine aops_a tok rfl (by omega) (by omega) rfl rfl rfl ?_ | refine aops_p tok rfl rfl rfl rfl ?_)
      refine aops_stk tok 2 _ _ rfl rfl rfl rfl rfl rfl (by show 1 + 1 ≤ 4; decide) rfl rfl rfl rfl ?_
      repeat (refine aops_end ?_)
      exact ⟨⟨rfl, rfl, rfl, rfl, trivial⟩, rfl⟩
    | false =>
      rw [if_neg Bool.false_ne_true]
      refine acode_if rfl ?_
      refine acode_skip ?_
      refine then_n ?_
      exact ⟨⟨rfl, rfl, rfl, rfl, trivial⟩, rfl⟩
  generalize (if r.is s 94 = true then r.next else r) = r0 at *
  generalize r.is s 94 = ot at *
  obtain ⟨hat0, he0⟩ := hat0
  generalize hfin : classL s (s.length + 1) (r0.item s 0).1 (r0.item s 0).2 = fin at *
  refine acode_seq ?_
  refine acode_region ?_
  repeat (refine aops_p tok rfl rfl rfl rfl ?_)
  refine aops_end ?_
  refine acode_seq ?_
  refine acode_joinI (ι := Nat × Rd) (fun p => [(0, .ref rb 0), (2, .ref b2 0), (3, .ref b3 0), (4, .bool ot)]) (fun p => ⟨some b3, 4, wordsA p.1⟩ :: ⟨some b2, 6, zeroRE⟩ :: rdO rb s p.2 :: M) (fun p => p.2.at_ ≤ s.length ∧ (fin.2.e = 0 → p.1 = fin.1 ∧ p.2.next = fin.2) ∧ (fin.2.e ≠ 0 → p.2.e = fin.2.e ∧ p.2.w = fin.2.w)) ?_ ?_
  · refine acode_block ?_
    refine acode_loopS (ι := Nat × Nat × Nat × Rd × Rd) (fun p => [(0, .ref rb 0), (2, .ref b2 0), (3, .ref b3 0), (4, .bool ot), (5, .int .i64 p.1)]) (fun p => ⟨some b3, 4, wordsA p.2.2.1⟩ :: ⟨some b2, 6, zeroRE⟩ :: rdO rb s p.2.2.2.2 :: M) (fun p => if p.2.2.2.2.e = 0 then s.length + 1 - p.2.2.2.2.at_ else 0) (fun p => p.2.2.2.1.at_ ≤ s.length ∧ p.1 ≤ s.length ∧ (p.2.2.2.1.e = 0 → p.2.2.2.2 = p.2.2.2.1 ∧ clsGo s p.1 p.2.1 p.2.2.1 p.2.2.2.1 = fin ∧ s.length - p.2.2.2.1.at_ ≤ p.2.1 ∧ p.1 ≤ p.2.2.2.1.at_) ∧ (p.2.2.2.1.e ≠ 0 → fin.2 = p.2.2.2.1 ∧ p.2.2.2.2.e = p.2.2.2.1.e ∧ p.2.2.2.2.w = p.2.2.2.1.w ∧ p.2.2.2.2.at_ ≤ s.length)) (0, s.length + 1, 0, r0, r0) ⟨hat0, Nat.zero_le _, fun _ => ⟨rfl, by unfold clsGo; rw [if_neg (fun h => h.1 rfl)]; exact hfin, by simp only; omega, Nat.zero_le _⟩, fun h => absurd he0 h⟩ ⟨rfl, rfl, rfl, rfl, rfl, trivial⟩ rfl ?_
    rintro ⟨n, f, S, rM, q⟩ ⟨hM, hn, hok, hbad⟩
    simp only at hM hn hok hbad ⊢
    by_cases hM0 : rM.e = 0
    · obtain ⟨rfl, hgo, hfu, hnat⟩ := hok hM0
      have i93 := (isR_rc hs rb (show q.at_ ≤ 2000 by omega) 93).mid [⟨some b3, 4, wordsA S⟩, ⟨some b2, 6, zeroRE⟩] M
      rw [isR_is hM0] at i93
      have hqf : q.fail 2 = ⟨q.at_, 2, q.at_⟩ := by unfold Rd.fail; rw [if_pos hM0]
      have hff := (failAt_rc rb s q 2 q.at_).mid [⟨some b3, 4, wordsA S⟩, ⟨some b2, 6, zeroRE⟩] M
      rw [failAt_fail, hqf] at hff
      have hov := (over_rc rb hl (show q.at_ ≤ 2000 by omega)).mid [⟨some b3, 4, wordsA S⟩, ⟨some b2, 6, zeroRE⟩] M
      repeat (first | refine aops_p tok rfl rfl rfl rfl ?_ | refine acode_seq ?_ | refine acode_region ?_)
      refine aops_ld tok 2 rfl rfl rfl rfl rfl rfl rfl rfl ?_
      repeat' (first | refine aops_pbt tok rfl (by first | omega | decide) rfl rfl rfl ?_ | refine aops_p tok rfl rfl rfl rfl ?_)
      all_goals try (exfalso; omega)
      refine aops_callx Try.func24 rfl rfl rfl rfl i93 rfl rfl rfl ?_
      cases h93 : q.is s 93 with
      | true =>
        rw [h93] at i93
        by_cases hn0 : n = 0
        · subst hn0
          repeat' (first | refine aops_end ?_ | refine aops_pbt tok rfl (by first | omega | decide) rfl rfl rfl ?_ | refine aops_pbf tok rfl (by first | omega | decide) rfl rfl rfl ?_ | refine aops_p tok rfl rfl rfl rfl ?_ | refine acode_it rfl ?_ | refine acode_seq ?_ | refine acode_region ?_ | refine acode_block ?_ | refine acode_skip ?_ | refine then_n ?_)
          all_goals try (exfalso; omega)
          refine aops_callx Try.func24 rfl rfl rfl rfl i93 rfl rfl rfl ?_
          have hstop : fin.2 = ⟨q.at_, 2, q.at_⟩ := by
            rw [← hgo]
            unfold clsGo
            rw [if_neg (fun h => h.1 rfl), item_fail hM0 (.inl h93), hqf, classL_stop (by simp)]
          repeat' (first | refine aops_end ?_ | refine aops_o rfl rfl rfl ?_ | refine aops_p tok rfl rfl rfl rfl ?_ | refine acode_it rfl ?_ | refine acode_seq ?_ | refine acode_region ?_)
          all_goals try (exfalso; omega)
          refine aops_ld tok 2 rfl rfl rfl rfl rfl rfl rfl rfl ?_
          skip
          refine aops_callr Try.func12 rfl rfl rfl rfl hff rfl rfl rfl ?_
          repeat (refine aops_end ?_)
          refine acode_exit ?_
          repeat (first | refine exit_then ?_ | refine exit_here ?_ | refine exit_out rfl ?_ | refine then_n ?_)
          exact ⟨(S, ⟨q.at_, 2, q.at_⟩), ⟨hM, fun e => absurd e (by rw [hstop]; simp), fun _ => by rw [hstop]; exact ⟨rfl, rfl⟩⟩, ⟨rfl, rfl, rfl, rfl, trivial⟩, rfl⟩
        · have hex : fin = (S, q.next) := by
            rw [← hgo]
            unfold clsGo
            rw [if_pos ⟨hn0, h93⟩]
          subst hex
          repeat' (first | refine aops_end ?_ | refine aops_pbt tok rfl (by first | omega | decide) rfl rfl rfl ?_ | refine aops_p tok rfl rfl rfl rfl ?_ | refine acode_if rfl ?_)
          all_goals try (exfalso; omega)
          refine acode_exit ?_
          repeat (first | refine exit_then ?_ | refine exit_here ?_ | refine then_n ?_)
          exact ⟨(S, q), ⟨hM, fun _ => ⟨rfl, rfl⟩, fun h => absurd hM0 h⟩, ⟨rfl, rfl, rfl, rfl, trivial⟩, rfl⟩
      | false =>
        rw [h93] at i93
        have hgo2 : fin = classL s f (q.item s S).1 (q.item s S).2 := by
          rw [← hgo]
          unfold clsGo
          rw [if_neg (fun h => by rw [h93] at h; exact absurd h.2 (by simp))]
        repeat' (first | refine aops_end ?_ | refine aops_o rfl rfl rfl ?_ | refine aops_p tok rfl rfl rfl rfl ?_ | refine acode_it rfl ?_ | refine acode_seq ?_ | refine acode_region ?_ | refine acode_block ?_ | refine acode_skip ?_ | refine then_n ?_)
        all_goals try (exfalso; omega)
        refine aops_callx Try.func24 rfl rfl rfl rfl i93 rfl rfl rfl ?_
        repeat' (refine aops_p tok rfl rfl rfl rfl ?_)
        all_goals try (exfalso; omega)
        refine aops_callx Try.func11 rfl rfl rfl rfl hov rfl rfl rfl ?_
        by_cases hlt : s.length ≤ q.at_
        · rw [decide_eq_true hlt]
          have hstop : fin.2 = ⟨q.at_, 2, q.at_⟩ := by
            rw [hgo2, item_fail hM0 (.inr hlt), hqf, classL_stop (by simp)]
          repeat' (first | refine aops_end ?_ | refine aops_p tok rfl rfl rfl rfl ?_ | refine acode_it rfl ?_ | refine acode_seq ?_ | refine acode_region ?_)
          all_goals try (exfalso; omega)
          refine aops_ld tok 2 rfl rfl rfl rfl rfl rfl rfl rfl ?_
          skip
          refine aops_callr Try.func12 rfl rfl rfl rfl hff rfl rfl rfl ?_
          repeat (refine aops_end ?_)
          refine acode_exit ?_
          repeat (first | refine exit_then ?_ | refine exit_here ?_ | refine exit_out rfl ?_ | refine then_n ?_)
          exact ⟨(S, ⟨q.at_, 2, q.at_⟩), ⟨hM, fun e => absurd e (by rw [hstop]; simp), fun _ => by rw [hstop]; exact ⟨rfl, rfl⟩⟩, ⟨rfl, rfl, rfl, rfl, trivial⟩, rfl⟩
        · rw [decide_eq_false hlt]
          have hitem := item_eq s S q
          obtain ⟨na, hna, hae⟩ := byteP_nat hs q
          have b1 := (byte1_rc hs rb hM0 hM).mid [⟨some b3, 4, wordsA S⟩, ⟨some b2, 6, zeroRE⟩] M
          have hlt1 := byteP_ok hM
          rw [byteP_member h93] at b1 hae hlt1
          rw [hae] at b1 hitem
          generalize (q.member s).2 = r1 at *
          have hBle := itemB_le (s := s) (a := (na : Int)) hlt1.1
          have hr1 := hlt1.1
          repeat' (first | refine aops_end ?_ | refine aops_p tok rfl rfl rfl rfl ?_ | refine acode_if rfl ?_ | refine acode_seq ?_ | refine acode_region ?_ | refine acode_skip ?_ | refine then_n ?_)
          all_goals try (exfalso; omega)
          refine aops_callr Try.func42 rfl rfl rfl rfl b1 rfl rfl rfl ?_
          repeat (first | refine aops_end ?_ | refine aops_p tok rfl rfl rfl rfl ?_ | refine acode_seq ?_ | refine acode_region ?_)
          refine acode_join [(0, .ref rb 0), (2, .ref b2 0), (3, .ref b3 0), (4, .bool ot), (5, .int .i64 n), (6, .int .u8 na), (7, .int .u8 na), (84, .bool (r1.between s))] (⟨some b3, 4, wordsA S⟩ :: ⟨some b2, 6, zeroRE⟩ :: rdO rb s r1 :: M) ?_ ?_
          · have i45 := (isR_rc hs rb (show r1.at_ ≤ 2000 by omega) 45).mid [⟨some b3, 4, wordsA S⟩, ⟨some b2, 6, zeroRE⟩] M
            by_cases e1 : r1.e = 0
            · rw [isR_is e1] at i45
              cases h45 : r1.is s 45 with
              | true =>
                rw [h45] at i45
                by_cases hl1 : r1.at_ + 1 < s.length
                · obtain ⟨x, hx⟩ : ∃ x, s[r1.at_ + 1]? = some x := ⟨s[r1.at_ + 1], List.getElem?_eq_getElem hl1⟩
                  have hB : r1.between s = decide (x ≠ 93) := by unfold Rd.between; rw [h45, hx]; rfl
                  rw [hB]
                  refine acode_drawT 35 mixed (by kernel_rfl) (by kernel_rfl) ?_
                  repeat (refine seqT_p tok rfl rfl rfl rfl ?_)
                  refine seqT_ld tok 2 rfl rfl rfl rfl rfl rfl rfl rfl ?_
                  repeat (refine seqT_p tok rfl rfl rfl rfl ?_)
                  rw [show (r1.e == 0) = true from beq_iff_eq.2 e1]
                  repeat (refine seqT_p tok rfl rfl rfl rfl ?_)
                  refine seqT_call _ Try.func24 rfl rfl rfl rfl i45 rfl rfl rfl ?_
                  repeat (refine seqT_p tok rfl rfl rfl rfl ?_)
                  refine seqT_ld tok 2 rfl rfl rfl rfl rfl rfl rfl rfl ?_
                  repeat (first | refine seqT_a tok rfl (by omega) (by omega) rfl rfl rfl ?_ | refine seqT_p tok rfl rfl rfl rfl ?_)
                  refine seqT_ld tok 2 rfl rfl rfl rfl rfl rfl rfl rfl ?_
                  repeat (refine seqT_p tok rfl rfl rfl rfl ?_)
                  rw [show decide (((r1.at_ : Nat) : Int) + 1 < ((strOfNums s).size : Int)) = true from decide_eq_true (by omega)]
                  repeat (refine seqT_p tok rfl rfl rfl rfl ?_)
                  refine seqT_ld tok 2 rfl rfl rfl rfl rfl rfl rfl rfl ?_
                  repeat (refine seqT_p tok rfl rfl rfl rfl ?_)
                  refine seqT_ld tok 2 rfl rfl rfl rfl rfl rfl rfl rfl ?_
                  repeat (refine seqT_a tok rfl (by omega) (by omega) rfl rfl rfl ?_)
                  refine seqT_idxs tok x rfl rfl rfl rfl (by omega) (by rw [← hx]; congr 1) (hs.1 x (List.mem_of_getElem? hx)) rfl rfl rfl ?_
                  repeat' (first | (refine seqT_pn tok rfl rfl rfl rfl ?_ ?_ <;> intro e_) | refine seqT_p tok rfl rfl rfl rfl ?_)
                  · rw [decide_eq_true e_]
                    refine SeqT.done ?_
                    repeat (refine aops_end ?_)
                    exact ⟨⟨rfl, rfl, rfl, rfl, rfl, rfl, rfl, rfl, trivial⟩, rfl⟩
                  · rw [decide_eq_false (fun h => h e_)]
                    refine SeqT.done ?_
                    repeat (refine aops_end ?_)
                    exact ⟨⟨rfl, rfl, rfl, rfl, rfl, rfl, rfl, rfl, trivial⟩, rfl⟩
                · have hB : r1.between s = false := by unfold Rd.between; rw [h45, List.getElem?_eq_none (by omega)]; rfl
                  rw [hB]
                  refine acode_drawT 35 mixed (by kernel_rfl) (by kernel_rfl) ?_
                  repeat (refine seqT_p tok rfl rfl rfl rfl ?_)
                  refine seqT_ld tok 2 rfl rfl rfl rfl rfl rfl rfl rfl ?_
                  repeat (refine seqT_p tok rfl rfl rfl rfl ?_)
                  rw [show (r1.e == 0) = true from beq_iff_eq.2 e1]
                  repeat (refine seqT_p tok rfl rfl rfl rfl ?_)
                  refine seqT_call _ Try.func24 rfl rfl rfl rfl i45 rfl rfl rfl ?_
                  repeat (refine seqT_p tok rfl rfl rfl rfl ?_)
                  refine seqT_ld tok 2 rfl rfl rfl rfl rfl rfl rfl rfl ?_
                  repeat (first | refine seqT_a tok rfl (by omega) (by omega) rfl rfl rfl ?_ | refine seqT_p tok rfl rfl rfl rfl ?_)
                  refine seqT_ld tok 2 rfl rfl rfl rfl rfl rfl rfl rfl ?_
                  repeat (refine seqT_p tok rfl rfl rfl rfl ?_)
                  rw [show decide (((r1.at_ : Nat) : Int) + 1 < ((strOfNums s).size : Int)) = false from decide_eq_false (by omega)]
                  repeat (first | refine seqT_o rfl rfl rfl ?_ | refine seqT_p tok rfl rfl rfl rfl ?_)
                  refine SeqT.done ?_
                  repeat (refine aops_end ?_)
                  exact ⟨⟨rfl, rfl, rfl, rfl, rfl, rfl, rfl, rfl, trivial⟩, rfl⟩
              | false =>
                rw [h45] at i45
                have hB : r1.between s = false := by unfold Rd.between; rw [h45]; rfl
                rw [hB]
                refine acode_drawT 35 mixed (by kernel_rfl) (by kernel_rfl) ?_
                repeat (refine seqT_p tok rfl rfl rfl rfl ?_)
                refine seqT_ld tok 2 rfl rfl rfl rfl rfl rfl rfl rfl ?_
                repeat (refine seqT_p tok rfl rfl rfl rfl ?_)
                rw [show (r1.e == 0) = true from beq_iff_eq.2 e1]
                repeat (refine seqT_p tok rfl rfl rfl rfl ?_)
                refine seqT_call _ Try.func24 rfl rfl rfl rfl i45 rfl rfl rfl ?_
                repeat (first | refine seqT_o rfl rfl rfl ?_ | refine seqT_p tok rfl rfl rfl rfl ?_)
                refine SeqT.done ?_
                repeat (refine aops_end ?_)
                exact ⟨⟨rfl, rfl, rfl, rfl, rfl, rfl, rfl, rfl, trivial⟩, rfl⟩
            · have hB : r1.between s = false := by unfold Rd.between; rw [is_bad e1]; rfl
              rw [hB]
              refine acode_drawT 35 mixed (by kernel_rfl) (by kernel_rfl) ?_
              repeat (refine seqT_p tok rfl rfl rfl rfl ?_)
              refine seqT_ld tok 2 rfl rfl rfl rfl rfl rfl rfl rfl ?_
              repeat (refine seqT_p tok rfl rfl rfl rfl ?_)
              rw [show (r1.e == 0) = false from beq_eq_false_iff_ne.2 e1]
              repeat (first | refine seqT_o rfl rfl rfl ?_ | refine seqT_p tok rfl rfl rfl rfl ?_)
              refine SeqT.done ?_
              repeat (refine aops_end ?_)
              exact ⟨⟨rfl, rfl, rfl, rfl, rfl, rfl, rfl, rfl, trivial⟩, rfl⟩
          · refine acode_joinI (ι := Nat × Rd) (fun p => [(0, .ref rb 0), (2, .ref b2 0), (3, .ref b3 0), (4, .bool ot), (5, .int .i64 n), (6, .int .u8 na), (7, .int .u8 p.1)]) (fun p => ⟨some b3, 4, wordsA S⟩ :: ⟨some b2, 6, zeroRE⟩ :: rdO rb s p.2 :: M) (fun p => p.1 < 256 ∧ ((itemB s na r1).2.e = 0 → (itemB s na r1).1 = p.1 ∧ p.2 = (itemB s na r1).2) ∧ ((itemB s na r1).2.e ≠ 0 → p.2.e = (itemB s na r1).2.e ∧ p.2.w = (itemB s na r1).2.w ∧ p.2.at_ ≤ s.length)) ?_ ?_
            · cases hB : r1.between s with
              | true =>
                have h45 := between_ok hB
                obtain ⟨e1, hl1, _⟩ := is_lt h45
                have hnat : r1.next.at_ = r1.at_ + 1 := rfl
                have hn0 := next_ok h45
                have h93' : r1.next.is s 93 = false := by
                  unfold Rd.between at hB
                  simp only [Bool.and_eq_true] at hB
                  obtain ⟨_, h2⟩ := hB
                  unfold Rd.is
                  rw [hnat]
                  cases hx : s[r1.at_ + 1]? with
                  | none => simp
                  | some x => rw [hx] at h2; simp at h2 ⊢; intro _; exact h2
                obtain ⟨nb, hnb, hbe⟩ := byteP_nat hs r1.next
                have c1 := (byte1_rc hs rb (r := r1.next) e1 hn0).mid [⟨some b3, 4, wordsA S⟩, ⟨some b2, 6, zeroRE⟩] M
                have hlt2 := byteP_ok hn0
                rw [byteP_member h93'] at c1 hbe hlt2
                have e : itemB s na r1 = (if ((r1.next.member s).2.e = 0 ∧ (r1.next.member s).1 < na) then ((r1.next.member s).1, Rd.fail ⟨r1.next.at_, (r1.next.member s).2.e, (r1.next.member s).2.w⟩ 2) else r1.next.member s) := by unfold itemB; rw [if_pos hB]
                rw [e]
                generalize r1.next.member s = qq at *
                obtain ⟨bb, r2'⟩ := qq
                simp only at *
                subst hbe
                have hff2 := (failAt_rc rb s r2' 2 r1.next.at_).mid [⟨some b3, 4, wordsA S⟩, ⟨some b2, 6, zeroRE⟩] M
                refine acode_it rfl ?_
                repeat (first | refine aops_p tok rfl rfl rfl rfl ?_ | refine acode_seq ?_ | refine acode_region ?_)
                refine aops_ld tok 2 rfl rfl rfl rfl rfl rfl rfl rfl ?_
                repeat (first | refine aops_a tok rfl (by omega) (by omega) rfl rfl rfl ?_ | refine aops_p tok rfl rfl rfl rfl ?_)
                refine aops_stk tok 2 _ _ rfl rfl rfl rfl rfl rfl (by show 1 + 1 ≤ 4; decide) rfl rfl rfl rfl ?_
                repeat (first | refine aops_end ?_ | refine aops_p tok rfl rfl rfl rfl ?_ | refine acode_seq ?_ | refine acode_region ?_)
                refine aops_ld tok 2 rfl rfl rfl rfl rfl rfl rfl rfl ?_
                repeat (first | refine aops_end ?_ | refine aops_p tok rfl rfl rfl rfl ?_ | refine acode_seq ?_ | refine acode_region ?_)
                refine aops_callr Try.func42 rfl rfl rfl rfl c1 rfl rfl rfl ?_
                repeat (first | refine aops_end ?_ | refine aops_p tok rfl rfl rfl rfl ?_ | refine acode_seq ?_ | refine acode_region ?_)
                refine aops_ld tok 2 rfl rfl rfl rfl rfl rfl rfl rfl ?_
                by_cases e2 : r2'.e = 0
                · by_cases hlt3 : nb < na
                  · rw [if_pos ⟨e2, by omega⟩]
                    have hfa : r2'.failAt 2 r1.next.at_ = ⟨r2'.at_, 2, r1.next.at_⟩ := by unfold Rd.failAt; rw [if_pos e2]
                    have hfb : Rd.fail ⟨r1.next.at_, r2'.e, r2'.w⟩ 2 = ⟨r1.next.at_, 2, r1.next.at_⟩ := by unfold Rd.fail; rw [if_pos e2]
                    rw [hfa] at hff2
                    simp only [hfb]
                    repeat' (first | refine aops_end ?_ | refine aops_pbt tok rfl (by first | omega | decide) rfl rfl rfl ?_ | refine aops_p tok rfl rfl rfl rfl ?_ | refine acode_it rfl ?_ | refine acode_region ?_)
                    all_goals try (exfalso; omega)
                    refine aops_callr Try.func12 rfl rfl rfl rfl hff2 rfl rfl rfl ?_
                    repeat (refine aops_end ?_)
                    exact ⟨(nb, ⟨r2'.at_, 2, r1.next.at_⟩), ⟨hnb, fun h => absurd h (by simp), fun _ => ⟨rfl, rfl, hlt2.1⟩⟩, ⟨rfl, rfl, rfl, rfl, rfl, rfl, rfl, trivial⟩, rfl⟩
                  · rw [if_neg (fun h => by have := h.2; omega)]
                    repeat' (first | refine aops_end ?_ | refine aops_pbt tok rfl (by first | omega | decide) rfl rfl rfl ?_ | refine aops_pbf tok rfl (by first | omega | decide) rfl rfl rfl ?_ | refine aops_p tok rfl rfl rfl rfl ?_ | refine acode_if rfl ?_ | refine acode_skip ?_ | refine then_n ?_)
                    all_goals try (exfalso; omega)
                    exact ⟨(nb, r2'), ⟨hnb, fun _ => ⟨rfl, rfl⟩, fun h => absurd e2 h⟩, ⟨rfl, rfl, rfl, rfl, rfl, rfl, rfl, trivial⟩, rfl⟩
                · rw [if_neg (fun h => e2 h.1)]
                  repeat' (first | refine aops_end ?_ | refine aops_o rfl rfl rfl ?_ | refine aops_pbf tok rfl (by first | omega | decide) rfl rfl rfl ?_ | refine aops_p tok rfl rfl rfl rfl ?_ | refine acode_if rfl ?_ | refine acode_skip ?_ | refine then_n ?_)
                  all_goals try (exfalso; omega)
                  exact ⟨(nb, r2'), ⟨hnb, fun _ => ⟨rfl, rfl⟩, fun _ => ⟨rfl, rfl, hlt2.1⟩⟩, ⟨rfl, rfl, rfl, rfl, rfl, rfl, rfl, trivial⟩, rfl⟩
              | false =>
                have e : itemB s na r1 = ((na : Int), r1) := by unfold itemB; rw [if_neg (by rw [hB]; simp)]
                rw [e]
                refine acode_if rfl ?_
                refine acode_skip ?_
                refine then_n ?_
                exact ⟨(na, r1), ⟨hna, fun _ => ⟨rfl, rfl⟩, fun _ => ⟨rfl, rfl, hr1⟩⟩, ⟨rfl, rfl, rfl, rfl, rfl, rfl, rfl, trivial⟩, rfl⟩
            · rintro ⟨nb, r3⟩ ⟨hnb, ho, hb⟩
              simp only at hnb ho hb ⊢
              generalize itemB s na r1 = ib at *
              obtain ⟨bb, rM'⟩ := ib
              simp only at *
              have hwa : IntKind.i64.wrap (na : Int) = na := wrap64_small (by omega) (by omega)
              have hwb : IntKind.i64.wrap (nb : Int) = nb := wrap64_small (by omega) (by omega)
              have hat3 : r3.at_ ≤ s.length := by
                by_cases e3 : rM'.e = 0
                · rw [(ho e3).2]; exact hBle.1
                · exact (hb e3).2.2
              have hprog : rM'.e = 0 → q.at_ < rM'.at_ := fun e3 => by
                have h1 := hBle.2 e3
                have h2 := hlt1.2 h1.1
                omega
              repeat (first | refine aops_end ?_ | refine aops_a tok rfl (by omega) (by omega) rfl rfl rfl ?_ | refine aops_p tok rfl rfl rfl rfl ?_ | refine acode_seq ?_ | refine acode_region ?_ | refine acode_block ?_)
              refine acode_loopS (ι := Nat) (fun j => [(0, .ref rb 0), (2, .ref b2 0), (3, .ref b3 0), (4, .bool ot), (5, .int .i64 n), (7, .int .u8 nb), (9, .int .i64 ((na : Int) + j))]) (fun j => ⟨some b3, 4, wordsA (addRange S j na)⟩ :: ⟨some b2, 6, zeroRE⟩ :: rdO rb s r3 :: M) (fun j => nb + 1 - na - j) (fun j => j ≤ nb + 1 - na) 0 (Nat.zero_le _) ⟨rfl, rfl, rfl, rfl, rfl, rfl, by show A.int _ _ = A.int _ _; congr 1 <;> omega, trivial⟩ rfl ?_
              intro j hj
              by_cases hjl : na + j ≤ nb
              · have hw : IntKind.u8.wrap ((na : Int) + j) = ((na + j : Nat) : Int) := u8_idK (show na + j < 256 by omega)
                have hwc := fun M => with_calls (c := na + j) (S := addRange S j na) (by omega) M
                repeat' (first | refine aops_end ?_ | refine aops_a tok rfl (by omega) (by omega) rfl rfl rfl ?_ | refine aops_pbt tok rfl (by first | omega | decide) rfl rfl rfl ?_ | refine aops_p tok rfl rfl rfl rfl ?_ | refine acode_it rfl ?_ | refine aops_ld tok 0 rfl rfl rfl rfl rfl rfl rfl rfl ?_ | refine acode_seq ?_ | refine acode_region ?_ | refine acode_block ?_ | refine acode_skip ?_ | refine then_n ?_)
                all_goals try (exfalso; omega)
                rw [hw]
                refine aops_callx Try.func41 rfl rfl rfl rfl (hwc _) rfl rfl rfl ?_
                refine aops_sto tok (wordsA (setAdd (addRange S j na) (na + j))) rfl rfl rfl rfl rfl (Nat.le_refl 4) rfl rfl rfl ?_
                repeat (first | refine aops_end ?_ | refine aops_endb ?_ | refine aops_a tok rfl (by omega) (by omega) rfl rfl rfl ?_ | refine aops_p tok rfl rfl rfl rfl ?_ | refine acode_region ?_ | refine then_n ?_)
                exact ⟨j + 1, by omega, by omega, ⟨rfl, rfl, rfl, rfl, rfl, rfl, by show A.int _ _ = A.int _ _; congr 1 <;> omega, trivial⟩, by rw [range_snoc]⟩
              · have hje : j = nb + 1 - na := by omega
                subst hje
                repeat' (first | refine aops_end ?_ | refine aops_a tok rfl (by omega) (by omega) rfl rfl rfl ?_ | refine aops_pbf tok rfl (by first | omega | decide) rfl rfl rfl ?_ | refine aops_p tok rfl rfl rfl rfl ?_ | refine acode_if rfl ?_ | refine acode_seq ?_ | refine acode_region ?_)
                all_goals try (exfalso; omega)
                refine acode_exit ?_
                repeat (first | refine exit_then ?_ | refine exit_here ?_ | refine then_n ?_)
                repeat (first | refine aops_endb ?_ | refine aops_a tok rfl (by omega) (by omega) rfl rfl rfl ?_ | refine aops_p tok rfl rfl rfl rfl ?_ | refine acode_region ?_ | refine then_n ?_)
                refine ⟨(n + 1, f - 1, addRange S (nb + 1 - na) na, rM', r3), ⟨hBle.1, ?_, ?_, ?_⟩, ?_, ⟨rfl, rfl, rfl, rfl, rfl, trivial⟩, rfl⟩
                · simp only; omega
                · intro e3
                  simp only at e3 ⊢
                  obtain ⟨rfl, rfl⟩ := ho e3
                  have h5 := hprog e3
                  have h6 := hBle.1
                  refine ⟨rfl, ?_, by omega, by omega⟩
                  rw [hgo2, hitem, ← clsGo_next n e3, show f - 1 + 1 = f by omega]
                  simp only [if_pos e3]
                  congr 2
                  · omega
                · intro e3
                  simp only at e3 ⊢
                  obtain ⟨h5, h6, h7⟩ := hb e3
                  refine ⟨?_, h5, h6, h7⟩
                  rw [hgo2, hitem]
                  simp only [if_neg e3]
                  rw [classL_stop e3]
                · simp only
                  rw [if_pos hM0]
                  split
                  · rename_i h8
                    have h9 : rM'.e = 0 := by
                      by_cases e3 : rM'.e = 0
                      · exact e3
                      · exact absurd h8 (by rw [(hb e3).1]; exact e3)
                    have := hprog h9
                    have h10 : r3 = rM' := (ho h9).2
                    rw [h10]
                    omega
                  · omega
    · obtain ⟨h1, h2, h3, h4⟩ := hbad hM0
      have hq0 : q.e ≠ 0 := by rw [h2]; exact hM0
      repeat (first | refine aops_p tok rfl rfl rfl rfl ?_ | refine acode_seq ?_ | refine acode_region ?_)
      refine aops_ld tok 2 rfl rfl rfl rfl rfl rfl rfl rfl ?_
      repeat' (first | refine aops_end ?_ | refine aops_o rfl rfl rfl ?_ | refine aops_pbf tok rfl (by first | omega | decide) rfl rfl rfl ?_ | refine aops_p tok rfl rfl rfl rfl ?_ | refine acode_if rfl ?_)
      all_goals try (exfalso; omega)
      refine acode_exit ?_
      repeat (first | refine exit_then ?_ | refine exit_here ?_ | refine then_n ?_)
      exact ⟨(S, q), ⟨h4, fun e => absurd e (by rw [h1]; exact hM0), fun _ => ⟨by rw [h1]; exact h2, by rw [h1]; exact h3⟩⟩, ⟨rfl, rfl, rfl, rfl, trivial⟩, rfl⟩
  · rintro ⟨S, r2⟩ ⟨h1, h2, h3⟩
    simp only at h1 h2 h3 ⊢
    refine acode_seq ?_
    refine acode_region ?_
    repeat (refine aops_p tok rfl rfl rfl rfl ?_)
    refine aops_ld tok 2 rfl rfl rfl rfl rfl rfl rfl rfl ?_
    repeat (first | refine aops_a tok rfl (by omega) (by omega) rfl rfl rfl ?_ | refine aops_p tok rfl rfl rfl rfl ?_)
    refine aops_stk tok 2 _ _ rfl rfl rfl rfl rfl rfl (by show 1 + 1 ≤ 4; decide) rfl rfl rfl rfl ?_
    refine aops_end ?_
    refine acode_seq ?_
    refine acode_seq ?_
    refine acode_region ?_
    repeat (refine aops_p tok rfl rfl rfl rfl ?_)
    refine aops_end ?_
    refine acode_join [(0, .ref rb 0), (2, .ref b2 0), (3, .ref b3 0)] (⟨some b3, 4, wordsA (clsS ot S)⟩ :: ⟨some b2, 6, zeroRE⟩ :: rdO rb s r2.next :: M) ?_ ?_
    · cases ot with
      | true =>
        refine acode_it rfl ?_
        repeat (first | refine aops_end ?_ | refine aops_p tok rfl rfl rfl rfl ?_ | refine acode_seq ?_ | refine acode_region ?_ | refine acode_block ?_)
        refine acode_loopS (ι := Nat) (fun i => [(0, .ref rb 0), (2, .ref b2 0), (3, .ref b3 0), (10, .int .i64 i)]) (fun i => ⟨some b3, 4, halfA S i⟩ :: ⟨some b2, 6, zeroRE⟩ :: rdO rb s r2.next :: M) (fun i => 4 - i) (fun i => i ≤ 4) 0 (by omega) ⟨rfl, rfl, rfl, rfl, trivial⟩ (by rw [half_zero]; rfl) ?_
        intro i hi
        by_cases hlt : i < 4
        · have hj : ((i : Nat) : Int).toNat = i := by omega
          repeat' (first | refine aops_end ?_ | refine aops_pbt tok rfl (by first | omega | decide) rfl rfl rfl ?_ | refine aops_p tok rfl rfl rfl rfl ?_ | refine acode_it rfl ?_ | refine acode_seq ?_ | refine acode_region ?_ | refine acode_block ?_ | refine acode_skip ?_ | refine then_n ?_)
          all_goals try (exfalso; omega)
          refine aops_ixa tok rfl rfl rfl ⟨by omega, by omega⟩ rfl rfl rfl rfl ?_
          refine aops_ld tok 0 (y := .int .u64 (wordOf S i : Nat)) rfl rfl rfl rfl (by rw [headed_eq]; exact half_at hj (by omega)) rfl rfl rfl ?_
          refine aops_compl rfl rfl (word_lt S i) rfl rfl rfl ?_
          refine aops_ixa tok rfl rfl rfl ⟨by omega, by omega⟩ rfl rfl rfl rfl ?_
          refine aops_sto tok (halfA S (i + 1)) rfl rfl rfl rfl rfl (by show 0 + ((i : Nat) : Int).toNat * 1 + 1 ≤ 4; omega) (half_set hj (by omega)) rfl rfl ?_
          repeat (first | refine aops_end ?_ | refine aops_endb ?_ | refine aops_a tok rfl (by omega) (by omega) rfl rfl rfl ?_ | refine aops_p tok rfl rfl rfl rfl ?_ | refine acode_region ?_ | refine then_n ?_)
          exact ⟨i + 1, by omega, by omega, ⟨rfl, rfl, rfl, rfl, trivial⟩, rfl⟩
        · have hge : i = 4 := by omega
          subst hge
          rw [half_four]
          repeat' (first | refine aops_end ?_ | refine aops_pbf tok rfl (by first | omega | decide) rfl rfl rfl ?_ | refine aops_p tok rfl rfl rfl rfl ?_ | refine acode_if rfl ?_ | refine acode_seq ?_ | refine acode_region ?_)
          all_goals try (exfalso; omega)
          refine acode_exit ?_
          repeat (first | refine exit_then ?_ | refine exit_here ?_ | refine then_n ?_)
          exact ⟨⟨rfl, rfl, rfl, trivial⟩, rfl⟩
      | false =>
        refine acode_if rfl ?_
        refine acode_skip ?_
        refine then_n ?_
        exact ⟨⟨rfl, rfl, rfl, trivial⟩, rfl⟩
    · have hy := reC_set (clsS ot S)
      repeat (first | refine aops_end ?_ | refine aops_p tok rfl rfl rfl rfl ?_ | refine aops_ld tok 0 rfl rfl rfl rfl rfl rfl rfl rfl ?_ | refine aops_stn1 tok rfl rfl rfl rfl rfl rfl rfl rfl rfl ?_ | refine acode_seq ?_ | refine acode_region ?_)
      refine acode_drop0 ?_
      refine acode_pubref0 2 rfl ?_
      refine acode_ret ?_
      skip
      refine ⟨.agg (reC (reSet (clsS ot S))), ⟨reSet (clsS ot S), r2.next, rfl, rfl, ⟨fun e => (h2 e).2, fun e => ⟨(h3 e).1, (h3 e).2, by show r2.at_ + 1 ≤ _; omega⟩⟩, fun e => by rw [(h2 e).1]⟩, resOf_pp tok rfl rfl (by rw [hy]; rfl)⟩
end Go.Proofs.Ytobpbelgihilpaa.Ab
/- Chapter 3's reference reader: choices and rows: the walk. No condition. -/
set_option linter.unusedVariables false
set_option linter.unusedSimpArgs false
namespace Go.Proofs.Ytobpbelgihilpaa.Ab
section
variable {P : Program} {N : Nat} {ops : Array Oper} {rest : List Oper} {o : Oper} {Q : Exit → St → Prop} {E : Env} {M : List Ob}
/-- A call of which so much is known. -/
theorem aops_callq {d : Nat} {g : Operand} {args : Array Operand} {tys : Array TypeId} {f : FuncId} {cap xs : List A} {fn : Func} {R : A → List Ob → Prop} (hf : P.funcs[f]? = some fn) (ho : o.op = .call { callee := .value g, args, argTypes := tys }) (hgv : opA E g = .fn f cap)
    (hfn : callable fn = true) (has : args.toList.map (opA E) ++ cap = xs) (hc : ACalls P f xs M R) (hg : guardOn ops o E = some true) (hd : o.dst = some d) (hN : Nat.blt d N = true)
    (next : ∀ x M', R x M' → AOps P N ops rest Q ⟨(d, x) :: E, M'⟩) : AOps P N ops (o :: rest) Q ⟨E, M⟩ := by
  refine aops_call hf ho hgv hfn has hc hg (by rw [hd]; exact hN) ?_
  intro x M' h
  rw [hd]; exact next x M' h
end
theorem altL_stop {s : List Int} {d : Nat} {l : List RE} {r : Rd} (h : r.e ≠ 0) : ∀ f, altL s f d l r = (l, r)
  | 0 => by rw [altL]
  | f + 1 => by rw [altL_eq, is_bad h, if_neg Bool.false_ne_true]
theorem seqL_stop {s : List Int} {d : Nat} {l : List RE} {r : Rd} (h : r.e ≠ 0) : ∀ f, seqL s f d l r = (l, r)
  | 0 => by rw [seqL]
  | f + 1 => by rw [seqL_eq, if_neg (fun g => h g.1)]
theorem repF_stop {s : List Int} {x : RE} {r : Rd} (h : r.e ≠ 0) : ∀ f, repF s f x r = (x, r)
  | 0 => rfl
  | f + 1 => rep_stop f (.inl h)
attribute [local irreducible] thenA inBlockA ACode AOps put IntKind.wrap
def AtomQ (s : List Int) (rb f : Nat) : Prop := ∀ (d : Nat) (r : Rd), d ≤ 20 → r.e = 0 → r.at_ < s.length → need s r + 1 ≤ f → QC 36 [.int .i64 d] s rb (40 - d) r (atomF s f d r).2 (atomF s f d r).1
def RepQ (s : List Int) (rb f : Nat) : Prop := ∀ (d : Nat) (r : Rd), d ≤ 20 → r.e = 0 → r.at_ < s.length → need s r + 2 ≤ f → QC 33 [.int .i64 d] s rb (40 - d) r (partP s f d r).2 (partP s f d r).1
def SeqQ (s : List Int) (rb f : Nat) : Prop := ∀ (d : Nat) (r : Rd), d ≤ 20 → r.e = 0 → r.at_ ≤ s.length → need s r + 4 ≤ f → QC 23 [.int .i64 d] s rb (40 - d) r (seqF s f d r).2 (seqF s f d r).1
def AltQ (s : List Int) (rb f : Nat) : Prop := ∀ (d : Nat) (r : Rd), d ≤ 20 → r.e = 0 → r.at_ ≤ s.length → need s r + 5 ≤ f → QC 10 [.int .i64 d] s rb (40 - d) r (altF s f d r).2 (altF s f d r).1
set_option maxHeartbeats 4000000 in
theorem altR_qc {s : List Int} (hs : byteS s) (hL : s.length ≤ 900) {rb f : Nat} (ih : ∀ f' < f, SeqQ s rb f') : AltQ s rb f := by
  intro d r hd he hat hn M
  obtain ⟨f, rfl⟩ : ∃ g, f = g + 1 := ⟨f - 1, by omega⟩
  rw [altF_eq]
  have c1 := fun L => (ih f (by omega) d r hd he hat (by omega)).mid L M
  have h1 := (reader_le s f).seq d r hat
  have hn1 := need_le h1
  generalize seqF s f d r = qq at *
  obtain ⟨x, r1⟩ := qq
  simp only at *
  refine acalls_of_code 40 Try.func10 rfl rfl rfl ?_
  repeat (first | refine acode_seq ?_ | refine acode_region ?_)
  refine aops_alloc tok rfl rfl rfl rfl rfl rfl fun b4 => ?_
  repeat (first | refine aops_end ?_ | refine aops_p tok rfl rfl rfl rfl ?_ | refine acode_seq ?_ | refine acode_region ?_)
  refine aops_callq Try.func23 rfl rfl rfl rfl (c1 [_]) rfl rfl rfl ?_
  rintro _ _ ⟨y, q, rfl, rfl, hsim, hy⟩
  refine aops_lito1 tok (y := .agg (reC y)) rfl rfl rfl rfl (reC_ok y) (normL_eq _) rfl rfl rfl fun b5 => ?_
  repeat (refine aops_p tok rfl rfl rfl rfl ?_)
  refine aops_end ?_
  generalize hfin : altL s f d [x] r1 = fin at *
  refine acode_seq ?_
  refine acode_joinI (ι := Option Nat × Nat × List RE × Rd) (fun p => [(0, .ref rb 0), (1, .int .i64 d), (4, .ref b4 0), (5, .own p.1 p.2.2.1.length p.2.1)]) (fun p => ⟨p.1, p.2.1 * 6, encs reC p.2.2.1⟩ :: ⟨some b4, 6, zeroRE⟩ :: rdO rb s p.2.2.2 :: M) (fun p => 1 ≤ p.2.2.1.length ∧ p.2.2.1.length ≤ s.length + 2 ∧ Sim s (40 - d) fin.2 p.2.2.2 ∧ (fin.2.e = 0 → p.2.2.1 = fin.1)) ?_ ?_
  · refine acode_block ?_
    refine acode_loopS (ι := Option Nat × Nat × Nat × List RE × Rd × Rd) (fun p => [(0, .ref rb 0), (1, .int .i64 d), (4, .ref b4 0), (5, .own p.1 p.2.2.2.1.length p.2.1)]) (fun p => ⟨p.1, p.2.1 * 6, encs reC p.2.2.2.1⟩ :: ⟨some b4, 6, zeroRE⟩ :: rdO rb s p.2.2.2.2.2 :: M) (fun p => need s p.2.2.2.2.1) (fun p => p.2.2.2.2.1.at_ ≤ s.length ∧ Sim s (40 - d) p.2.2.2.2.1 p.2.2.2.2.2 ∧ 1 ≤ p.2.2.2.1.length ∧ p.2.2.2.1.length ≤ s.length + 2 ∧ (p.2.2.2.2.1.e = 0 → altL s p.2.2.1 d p.2.2.2.1 p.2.2.2.2.1 = fin ∧ need s p.2.2.2.2.1 + 1 ≤ p.2.2.1 ∧ p.2.2.1 < f + 1 ∧ p.2.2.2.1.length ≤ p.2.2.2.2.1.at_ + 1) ∧ (p.2.2.2.2.1.e ≠ 0 → fin.2 = p.2.2.2.2.1)) (some b5, 1, f, [y], r1, q) ⟨h1.1, hsim, by simp, by simp, fun e => ⟨by simp only at e ⊢; rw [hy e]; exact hfin, by simp only; omega, by simp only; omega, by simp⟩, fun e => by simp only at e ⊢; rw [← hfin, altL_stop e]⟩ ⟨rfl, rfl, rfl, rfl, trivial⟩ (by simp [encs]; exact ⟨rfl, rfl⟩) ?_
    rintro ⟨ob, cap, f2, l, rM, q⟩ ⟨hM, hsim, hl1, hl2, hok, hbad⟩
    simp only at hM hsim hl1 hl2 hok hbad ⊢
    by_cases e0 : rM.e = 0
    · obtain rfl := hsim.1 e0
      obtain ⟨hf2, hn2, hf3, hl3⟩ := hok e0
      have i124 := (isR_rc hs rb (show q.at_ ≤ 2000 by omega) 124).mid [⟨ob, cap * 6, encs reC l⟩, ⟨some b4, 6, zeroRE⟩] M
      rw [isR_is e0] at i124
      obtain ⟨f3, rfl⟩ : ∃ g, f2 = g + 1 := ⟨f2 - 1, by omega⟩
      rw [altL_eq] at hf2
      repeat (first | refine aops_p tok rfl rfl rfl rfl ?_ | refine acode_seq ?_ | refine acode_region ?_)
      refine aops_ld tok 2 rfl rfl rfl rfl rfl rfl rfl rfl ?_
      repeat' (first | refine aops_pbt tok rfl (by first | omega | decide) rfl rfl rfl ?_ | refine aops_p tok rfl rfl rfl rfl ?_)
      all_goals try (exfalso; omega)
      refine aops_callx Try.func24 rfl rfl rfl rfl i124 rfl rfl rfl ?_
      cases hR : q.is s 124 with
      | true =>
        rw [hR, if_pos rfl] at hf2
        have hlt := next_lt hR
        obtain ⟨_, ha0, _⟩ := is_lt hR
        have hn3 := need_lt hlt e0 ha0
        have d2 := (ih f3 (by omega) d q.next hd e0 hlt.1 (by omega)).mid [⟨ob, cap * 6, encs reC l⟩, ⟨some b4, 6, zeroRE⟩] M
        have h3 := hlt.trans_le ((reader_le s f3).seq d q.next hlt.1)
        have hn4 := need_lt h3 e0 ha0
        generalize seqF s f3 d q.next = qq at *
        obtain ⟨x2, r3⟩ := qq
        simp only at *
        repeat' (first | refine aops_end ?_ | refine aops_p tok rfl rfl rfl rfl ?_ | refine acode_it rfl ?_ | refine acode_seq ?_ | refine acode_region ?_ | refine acode_block ?_ | refine acode_skip ?_ | refine then_n ?_)
        all_goals try (exfalso; omega)
        refine aops_ld tok 2 rfl rfl rfl rfl rfl rfl rfl rfl ?_
        repeat (first | refine aops_a tok rfl (by omega) (by omega) rfl rfl rfl ?_ | refine aops_p tok rfl rfl rfl rfl ?_)
        refine aops_stk tok 2 _ _ rfl rfl rfl rfl rfl rfl (by show 1 + 1 ≤ 4; decide) rfl rfl rfl rfl ?_
        repeat (first | refine aops_end ?_ | refine aops_p tok rfl rfl rfl rfl ?_ | refine acode_region ?_)
        refine aops_callq Try.func23 rfl rfl rfl rfl d2 rfl rfl rfl ?_
        rintro _ _ ⟨y2, q3, rfl, rfl, hsim2, hy2⟩
        refine aops_lit1 tok (y := .agg (reC y2)) rfl rfl rfl rfl (reC_ok y2) rfl rfl rfl ?_
        refine aops_app0 (n := l.length) (m := 1) (ds := reC y2) tok rfl rfl rfl rfl rfl (reC_enc l) (reC_len y2) (reC_cell y2) rfl (by show _ * 64 ≤ _; omega) (by omega) rfl rfl rfl fun ob' cap' => ?_
        rw [← reC_snoc]
        repeat (first | refine aops_endb ?_ | refine aops_p tok rfl rfl rfl rfl ?_ | refine then_n ?_)
        refine ⟨(ob', cap', f3, l ++ [y2], r3, q3), ⟨h3.1, hsim2, by simp, ?_, fun e3 => ?_, fun e3 => ?_⟩, ?_, ⟨rfl, rfl, rfl, ?_, trivial⟩, rfl⟩
        · simp only [List.length_append, List.length_cons, List.length_nil]; omega
        · simp only at e3 ⊢
          have h5 := h3.2 e3
          refine ⟨by rw [hy2 e3]; exact hf2, by omega, by omega, ?_⟩
          simp only [List.length_append, List.length_cons, List.length_nil]; omega
        · simp only at e3 ⊢
          rw [← hf2, altL_stop e3]
        · simp only; omega
        · show A.own _ _ _ = A.own _ _ _
          simp
      | false =>
        rw [hR, if_neg Bool.false_ne_true] at hf2
        subst hf2
        repeat' (first | refine aops_end ?_ | refine aops_p tok rfl rfl rfl rfl ?_ | refine acode_if rfl ?_)
        all_goals try (exfalso; omega)
        refine acode_exit ?_
        repeat (first | refine exit_then ?_ | refine exit_here ?_ | refine then_n ?_)
        exact ⟨(ob, cap, l, q), ⟨hl1, hl2, hsim, fun _ => rfl⟩, ⟨rfl, rfl, rfl, rfl, trivial⟩, rfl⟩
    · have hq0 : q.e ≠ 0 := by rw [hsim.e]; exact e0
      have hb := hbad e0
      repeat (first | refine aops_p tok rfl rfl rfl rfl ?_ | refine acode_seq ?_ | refine acode_region ?_)
      refine aops_ld tok 2 rfl rfl rfl rfl rfl rfl rfl rfl ?_
      repeat' (first | refine aops_end ?_ | refine aops_o rfl rfl rfl ?_ | refine aops_pbf tok rfl (by first | omega | decide) rfl rfl rfl ?_ | refine aops_p tok rfl rfl rfl rfl ?_ | refine acode_if rfl ?_)
      all_goals try (exfalso; omega)
      refine acode_exit ?_
      repeat (first | refine exit_then ?_ | refine exit_here ?_ | refine then_n ?_)
      exact ⟨(ob, cap, l, q), ⟨hl1, hl2, by rw [hb]; exact hsim, fun e => absurd e (by rw [hb]; exact e0)⟩, ⟨rfl, rfl, rfl, rfl, trivial⟩, rfl⟩
  · rintro ⟨ob, cap, l, q⟩ ⟨hl1, hl2, hsim, hfl⟩
    simp only at hl1 hl2 hsim hfl ⊢
    refine acode_pub0 5 6 rfl rfl (reC_enc l) rfl ?_
    match l, hl1 with
    | [y], _ =>
      have hx := reC_len y
      have hok := reC_ok y
      have h1 : encs reC [y] = reC y := by simp [encs]
      rw [h1]
      simp only [List.length_cons, List.length_nil, Nat.zero_add]
      have hyy : fin.2.e = 0 → y = reMany 3 fin.1 := fun e => by rw [← hfl e]; rfl
      repeat' (first | refine aops_end ?_ | refine aops_pbt tok rfl (by first | omega | decide) rfl rfl rfl ?_ | refine aops_p tok rfl rfl rfl rfl ?_ | refine acode_it rfl ?_ | refine acode_seq ?_ | refine acode_region ?_)
      all_goals try (exfalso; omega)
      refine aops_ix tok (reC y) rfl rfl rfl rfl (by omega) (by omega) (by intro h; rw [h] at hx; simp at hx) ⟨[], by simp⟩ rfl rfl rfl ?_
      refine aops_ldagg tok rfl rfl rfl rfl hx rfl rfl rfl ?_
      refine aops_sto tok (reC y) rfl rfl rfl rfl hok (by decide) (sto_all rfl) rfl rfl ?_
      repeat (refine aops_end ?_)
      refine acode_pubref0 4 rfl ?_
      refine acode_ret ?_
      repeat (refine ret_then ?_)
      exact ⟨_, ⟨y, q, rfl, rfl, hsim, hyy⟩, resOf_pp tok rfl rfl (pp_all hx)⟩
    | y1 :: y2 :: l', _ =>
      generalize he : (y1 :: y2 :: l') = l at *
      have h2 : 2 ≤ l.length := by rw [← he]; simp
      have hyy : fin.2.e = 0 → RE.mk 3 0 l = reMany 3 fin.1 := fun e => by rw [← hfl e, ← he]; rfl
      have hrc := reC_kids 3 0 (k := l) (by intro h; rw [h] at h2; simp at h2)
      repeat' (first | refine aops_end ?_ | refine aops_pbf tok rfl (by first | omega | decide) rfl rfl rfl ?_ | refine aops_p tok rfl rfl rfl rfl ?_ | refine acode_if rfl ?_ | refine aops_stn tok rfl rfl rfl rfl rfl rfl rfl rfl rfl ?_ | refine acode_seq ?_ | refine acode_region ?_ | refine acode_skip ?_ | refine then_n ?_)
      all_goals try (exfalso; omega)
      refine acode_pubref0 4 rfl ?_
      refine acode_ret ?_
      skip
      exact ⟨_, ⟨.mk 3 0 l, q, rfl, rfl, hsim, hyy⟩, resOf_pp tok rfl rfl (by rw [hrc]; rfl)⟩
end Go.Proofs.Ytobpbelgihilpaa.Ab
/- Chapter 3's reference reader: rows of parts, repeated parts: the walk. No condition. -/
set_option linter.unusedVariables false
set_option linter.unusedSimpArgs false
namespace Go.Proofs.Ytobpbelgihilpaa.Ab
attribute [local irreducible] thenA inBlockA ACode AOps put IntKind.wrap
set_option maxHeartbeats 8000000 in
theorem seqR_qc {s : List Int} (hs : byteS s) (hL : s.length ≤ 900) {rb f : Nat} (ih : ∀ f' < f, RepQ s rb f') : SeqQ s rb f := by
  intro d r hd he hat hn M
  obtain ⟨f, rfl⟩ : ∃ g, f = g + 1 := ⟨f - 1, by omega⟩
  rw [seqF_eq]
  refine acalls_of_code 44 Try.func23 rfl rfl rfl ?_
  repeat (first | refine acode_seq ?_ | refine acode_region ?_)
  refine aops_alloc tok rfl rfl rfl rfl rfl rfl fun b4 => ?_
  skip
  refine aops_end ?_
  refine acode_seq ?_
  refine acode_region ?_
  repeat (refine aops_p tok rfl rfl rfl rfl ?_)
  refine aops_end ?_
  refine acode_adopt 5 6 rfl ?_
  generalize hfin : seqL s f d [] r = fin at *
  refine acode_seq ?_
  refine acode_joinI (ι := Option Nat × Nat × List RE × Rd) (fun p => [(0, .ref rb 0), (1, .int .i64 d), (4, .ref b4 0), (5, .own p.1 p.2.2.1.length p.2.1)]) (fun p => ⟨p.1, p.2.1 * 6, encs reC p.2.2.1⟩ :: ⟨some b4, 6, zeroRE⟩ :: rdO rb s p.2.2.2 :: M) (fun p => p.2.2.1.length ≤ s.length + 2 ∧ Sim s (40 - d) fin.2 p.2.2.2 ∧ (fin.2.e = 0 → p.2.2.1 = fin.1)) ?_ ?_
  · refine acode_block ?_
    refine acode_loopS (ι := Option Nat × Nat × Nat × List RE × Rd × Rd) (fun p => [(0, .ref rb 0), (1, .int .i64 d), (4, .ref b4 0), (5, .own p.1 p.2.2.2.1.length p.2.1)]) (fun p => ⟨p.1, p.2.1 * 6, encs reC p.2.2.2.1⟩ :: ⟨some b4, 6, zeroRE⟩ :: rdO rb s p.2.2.2.2.2 :: M) (fun p => need s p.2.2.2.2.1) (fun p => p.2.2.2.2.1.at_ ≤ s.length ∧ Sim s (40 - d) p.2.2.2.2.1 p.2.2.2.2.2 ∧ p.2.2.2.1.length ≤ s.length + 2 ∧ (p.2.2.2.2.1.e = 0 → seqL s p.2.2.1 d p.2.2.2.1 p.2.2.2.2.1 = fin ∧ need s p.2.2.2.2.1 + 3 ≤ p.2.2.1 ∧ p.2.2.1 < f + 1 ∧ p.2.2.2.1.length ≤ p.2.2.2.2.1.at_) ∧ (p.2.2.2.2.1.e ≠ 0 → fin.2 = p.2.2.2.2.1)) (none, 0, f, [], r, r) ⟨hat, Sim.refl (Nat.le_trans hat (Nat.le_add_right _ _)), by simp, fun e => ⟨hfin, by simp only; omega, by simp only; omega, by simp⟩, fun e => absurd he e⟩ ⟨rfl, rfl, rfl, rfl, trivial⟩ rfl ?_
    rintro ⟨ob, cap, f2, l, rM, q⟩ ⟨hM, hsim, hl2, hok, hbad⟩
    simp only at hM hsim hl2 hok hbad ⊢
    by_cases e0 : rM.e = 0
    · obtain rfl := hsim.1 e0
      obtain ⟨hf2, hn2, hf3, hl3⟩ := hok e0
      have hov := (over_rc rb hs.2 (show q.at_ ≤ 2000 by omega)).mid [⟨ob, cap * 6, encs reC l⟩, ⟨some b4, 6, zeroRE⟩] M
      have i124 := (isR_rc hs rb (show q.at_ ≤ 2000 by omega) 124).mid [⟨ob, cap * 6, encs reC l⟩, ⟨some b4, 6, zeroRE⟩] M
      have i41 := (isR_rc hs rb (show q.at_ ≤ 2000 by omega) 41).mid [⟨ob, cap * 6, encs reC l⟩, ⟨some b4, 6, zeroRE⟩] M
      rw [isR_is e0] at i124 i41
      obtain ⟨f3, rfl⟩ : ∃ g, f2 = g + 1 := ⟨f2 - 1, by omega⟩
      rw [seqL_eq] at hf2
      repeat (first | refine aops_p tok rfl rfl rfl rfl ?_ | refine acode_seq ?_ | refine acode_region ?_)
      refine aops_ld tok 2 rfl rfl rfl rfl rfl rfl rfl rfl ?_
      repeat' (first | refine aops_pbt tok rfl (by first | omega | decide) rfl rfl rfl ?_ | refine aops_p tok rfl rfl rfl rfl ?_)
      all_goals try (exfalso; omega)
      refine aops_callx Try.func11 rfl rfl rfl rfl hov rfl rfl rfl ?_
      by_cases hlt : s.length ≤ q.at_
      · rw [decide_eq_true hlt]
        rw [if_neg (fun h => by have := h.2.1; omega)] at hf2
        subst hf2
        repeat' (first | refine aops_end ?_ | refine aops_o rfl rfl rfl ?_ | refine aops_p tok rfl rfl rfl rfl ?_ | refine acode_if rfl ?_)
        all_goals try (exfalso; omega)
        refine acode_exit ?_
        repeat (first | refine exit_then ?_ | refine exit_here ?_ | refine then_n ?_)
        exact ⟨(ob, cap, l, q), ⟨hl2, hsim, fun _ => rfl⟩, ⟨rfl, rfl, rfl, rfl, trivial⟩, rfl⟩
      rw [decide_eq_false hlt]
      repeat' (refine aops_p tok rfl rfl rfl rfl ?_)
      all_goals try (exfalso; omega)
      refine aops_callx Try.func24 rfl rfl rfl rfl i124 rfl rfl rfl ?_
      cases h124 : q.is s 124 with
      | true =>
        rw [if_neg (fun h => by rw [h124] at h; exact absurd h.2.2.1 (by simp))] at hf2
        subst hf2
        repeat' (first | refine aops_end ?_ | refine aops_o rfl rfl rfl ?_ | refine aops_p tok rfl rfl rfl rfl ?_ | refine acode_if rfl ?_)
        all_goals try (exfalso; omega)
        refine acode_exit ?_
        repeat (first | refine exit_then ?_ | refine exit_here ?_ | refine then_n ?_)
        exact ⟨(ob, cap, l, q), ⟨hl2, hsim, fun _ => rfl⟩, ⟨rfl, rfl, rfl, rfl, trivial⟩, rfl⟩
      | false =>
        repeat' (refine aops_p tok rfl rfl rfl rfl ?_)
        all_goals try (exfalso; omega)
        refine aops_callx Try.func24 rfl rfl rfl rfl i41 rfl rfl rfl ?_
        cases h41 : q.is s 41 with
        | true =>
          rw [if_neg (fun h => by rw [h41] at h; exact absurd h.2.2.2 (by simp))] at hf2
          subst hf2
          repeat' (first | refine aops_end ?_ | refine aops_p tok rfl rfl rfl rfl ?_ | refine acode_if rfl ?_)
          all_goals try (exfalso; omega)
          refine acode_exit ?_
          repeat (first | refine exit_then ?_ | refine exit_here ?_ | refine then_n ?_)
          exact ⟨(ob, cap, l, q), ⟨hl2, hsim, fun _ => rfl⟩, ⟨rfl, rfl, rfl, rfl, trivial⟩, rfl⟩
        | false =>
          rw [if_pos ⟨e0, by omega, h124, h41⟩] at hf2
          have d2 := (ih f3 (by omega) d q hd e0 (by omega) (by omega)).mid [⟨ob, cap * 6, encs reC l⟩, ⟨some b4, 6, zeroRE⟩] M
          have h3 := ((reader_le s f3).part d q hM).2 (by omega)
          have hn4 := need_lt h3 e0 (by omega)
          generalize partP s f3 d q = qq at *
          obtain ⟨x2, r3⟩ := qq
          simp only at *
          repeat' (first | refine aops_end ?_ | refine aops_p tok rfl rfl rfl rfl ?_ | refine acode_it rfl ?_ | refine acode_region ?_ | refine acode_block ?_ | refine acode_skip ?_ | refine then_n ?_)
          all_goals try (exfalso; omega)
          refine aops_callq Try.func33 rfl rfl rfl rfl d2 rfl rfl rfl ?_
          rintro _ _ ⟨y2, q3, rfl, rfl, hsim2, hy2⟩
          refine aops_lit1 tok (y := .agg (reC y2)) rfl rfl rfl rfl (reC_ok y2) rfl rfl rfl ?_
          refine aops_app0 (n := l.length) (m := 1) (ds := reC y2) tok rfl rfl rfl rfl rfl (reC_enc l) (reC_len y2) (reC_cell y2) rfl (by show _ * 64 ≤ _; omega) (by omega) rfl rfl rfl fun ob' cap' => ?_
          rw [← reC_snoc]
          repeat (first | refine aops_endb ?_ | refine aops_p tok rfl rfl rfl rfl ?_ | refine then_n ?_)
          refine ⟨(ob', cap', f3, l ++ [y2], r3, q3), ⟨h3.1, hsim2, ?_, fun e3 => ?_, fun e3 => ?_⟩, ?_, ⟨rfl, rfl, rfl, ?_, trivial⟩, rfl⟩
          · simp only [List.length_append, List.length_cons, List.length_nil]; omega
          · simp only at e3 ⊢
            have h5 := h3.2 e3
            refine ⟨by rw [hy2 e3]; exact hf2, by omega, by omega, ?_⟩
            simp only [List.length_append, List.length_cons, List.length_nil]; omega
          · simp only at e3 ⊢
            rw [← hf2, seqL_stop e3]
          · simp only; omega
          · show A.own _ _ _ = A.own _ _ _
            simp
    · have hq0 : q.e ≠ 0 := by rw [hsim.e]; exact e0
      have hb := hbad e0
      repeat (first | refine aops_p tok rfl rfl rfl rfl ?_ | refine acode_seq ?_ | refine acode_region ?_)
      refine aops_ld tok 2 rfl rfl rfl rfl rfl rfl rfl rfl ?_
      repeat' (first | refine aops_end ?_ | refine aops_o rfl rfl rfl ?_ | refine aops_pbf tok rfl (by first | omega | decide) rfl rfl rfl ?_ | refine aops_p tok rfl rfl rfl rfl ?_ | refine acode_if rfl ?_)
      all_goals try (exfalso; omega)
      refine acode_exit ?_
      repeat (first | refine exit_then ?_ | refine exit_here ?_ | refine then_n ?_)
      exact ⟨(ob, cap, l, q), ⟨hl2, by rw [hb]; exact hsim, fun e => absurd e (by rw [hb]; exact e0)⟩, ⟨rfl, rfl, rfl, rfl, trivial⟩, rfl⟩
  · rintro ⟨ob, cap, l, q⟩ ⟨hl2, hsim, hfl⟩
    simp only at hl2 hsim hfl ⊢
    refine acode_pub0 5 6 rfl rfl (reC_enc l) rfl ?_
    match l with
    | [] =>
      have hyy : fin.2.e = 0 → reNone = reMany 2 fin.1 := fun e => by rw [← hfl e]; rfl
      simp only [List.length_nil]
      repeat' (first | refine aops_end ?_ | refine aops_pbt tok rfl (by first | omega | decide) rfl rfl rfl ?_ | refine aops_p tok rfl rfl rfl rfl ?_ | refine acode_it rfl ?_ | refine aops_stn tok rfl rfl rfl rfl rfl rfl rfl rfl rfl ?_ | refine acode_seq ?_ | refine acode_region ?_ | refine acode_block ?_)
      all_goals try (exfalso; omega)
      refine acode_pubref0 4 rfl ?_
      refine acode_ret ?_
      repeat (first | refine ret_then ?_ | refine ret_block ?_)
      exact ⟨_, ⟨reNone, q, rfl, rfl, hsim, hyy⟩, resOf_pp tok rfl rfl (by rw [reC_none]; rfl)⟩
    | [y] =>
      have hx := reC_len y
      have hok := reC_ok y
      have h1 : encs reC [y] = reC y := by simp [encs]
      rw [h1]
      simp only [List.length_cons, List.length_nil, Nat.zero_add]
      have hyy : fin.2.e = 0 → y = reMany 2 fin.1 := fun e => by rw [← hfl e]; rfl
      repeat' (first | refine aops_end ?_ | refine aops_pbt tok rfl (by first | omega | decide) rfl rfl rfl ?_ | refine aops_pbf tok rfl (by first | omega | decide) rfl rfl rfl ?_ | refine aops_p tok rfl rfl rfl rfl ?_ | refine acode_it rfl ?_ | refine acode_if rfl ?_ | refine acode_seq ?_ | refine acode_region ?_ | refine acode_block ?_)
      all_goals try (exfalso; omega)
      refine aops_ix tok (reC y) rfl rfl rfl rfl (by omega) (by omega) (by intro h; rw [h] at hx; simp at hx) ⟨[], by simp⟩ rfl rfl rfl ?_
      refine aops_ldagg tok rfl rfl rfl rfl hx rfl rfl rfl ?_
      refine aops_sto tok (reC y) rfl rfl rfl rfl hok (by decide) (sto_all rfl) rfl rfl ?_
      repeat (refine aops_end ?_)
      refine acode_pubref0 4 rfl ?_
      refine acode_ret ?_
      repeat (first | refine ret_then ?_ | refine ret_block ?_)
      exact ⟨_, ⟨y, q, rfl, rfl, hsim, hyy⟩, resOf_pp tok rfl rfl (pp_all hx)⟩
    | y1 :: y2 :: l' =>
      generalize he : (y1 :: y2 :: l') = l at *
      have h2 : 2 ≤ l.length := by rw [← he]; simp
      have hyy : fin.2.e = 0 → RE.mk 2 0 l = reMany 2 fin.1 := fun e => by rw [← hfl e, ← he]; rfl
      have hrc := reC_kids 2 0 (k := l) (by intro h; rw [h] at h2; simp at h2)
      repeat' (first | refine aops_end ?_ | refine aops_pbf tok rfl (by first | omega | decide) rfl rfl rfl ?_ | refine aops_p tok rfl rfl rfl rfl ?_ | refine acode_if rfl ?_ | refine aops_stn tok rfl rfl rfl rfl rfl rfl rfl rfl rfl ?_ | refine acode_seq ?_ | refine acode_region ?_ | refine acode_block ?_ | refine acode_skip ?_ | refine then_n ?_ | refine block_n ?_)
      all_goals try (exfalso; omega)
      refine acode_pubref0 4 rfl ?_
      refine acode_ret ?_
      skip
      exact ⟨_, ⟨.mk 2 0 l, q, rfl, rfl, hsim, hyy⟩, resOf_pp tok rfl rfl (by rw [hrc]; rfl)⟩
end Go.Proofs.Ytobpbelgihilpaa.Ab
/- Chapter 3's reference reader: repeated parts: the walk. No condition. -/
set_option linter.unusedVariables false
set_option linter.unusedSimpArgs false
namespace Go.Proofs.Ytobpbelgihilpaa.Ab
theorem is_other {s : List Int} {r : Rd} {c c' : Int} (h : r.is s c = true) (hne : c ≠ c') : r.is s c' = false := by
  obtain ⟨_, _, hx⟩ := is_lt h
  unfold Rd.is
  rw [hx]
  simp [hne]
attribute [local irreducible] thenA inBlockA ACode AOps put IntKind.wrap
set_option maxHeartbeats 8000000 in
theorem repR_qc {s : List Int} (hs : byteS s) (hL : s.length ≤ 900) {rb f : Nat} (ih : ∀ f' < f, AtomQ s rb f') : RepQ s rb f := by
  intro d r hd he hat hn M
  obtain ⟨f, rfl⟩ : ∃ g, f = g + 1 := ⟨f - 1, by omega⟩
  rw [part_eq]
  have c1 := fun L => (ih f (by omega) d r hd he hat (by omega)).mid L M
  have h1 := ((reader_le s f).atom d r (by omega)).1
  generalize atomF s f d r = qq at *
  obtain ⟨x, r1⟩ := qq
  simp only at *
  refine acalls_of_code 43 Try.func33 rfl rfl rfl ?_
  repeat (first | refine acode_seq ?_ | refine acode_region ?_)
  refine aops_alloc tok rfl rfl rfl rfl rfl rfl fun b4 => ?_
  repeat (first | refine aops_end ?_ | refine aops_p tok rfl rfl rfl rfl ?_ | refine acode_seq ?_ | refine acode_region ?_)
  refine aops_callq Try.func36 rfl rfl rfl rfl (c1 [_]) rfl rfl rfl ?_
  rintro _ _ ⟨y, q, rfl, rfl, hsim, hy⟩
  refine aops_alloc tok rfl rfl rfl rfl rfl rfl fun b5 => ?_
  refine aops_sto tok (reC y) rfl rfl rfl rfl (reC_ok _) (by decide) (sto_all rfl) rfl rfl ?_
  refine aops_end ?_
  generalize hfin : repF s (s.length + 1) x r1 = fin at *
  refine acode_seq ?_
  refine acode_joinI (ι := RE × Rd) (fun p => [(0, .ref rb 0), (4, .ref b4 0), (5, .ref b5 0)]) (fun p => ⟨some b5, 6, reC p.1⟩ :: ⟨some b4, 6, zeroRE⟩ :: rdO rb s p.2 :: M) (fun p => Sim s (40 - d) fin.2 p.2 ∧ (fin.2.e = 0 → p.1 = fin.1)) ?_ ?_
  · refine acode_block ?_
    refine acode_loopS (ι := Nat × RE × Rd × Rd) (fun p => [(0, .ref rb 0), (4, .ref b4 0), (5, .ref b5 0)]) (fun p => ⟨some b5, 6, reC p.2.1⟩ :: ⟨some b4, 6, zeroRE⟩ :: rdO rb s p.2.2.2 :: M) (fun p => s.length - p.2.2.1.at_) (fun p => p.2.2.1.at_ ≤ s.length ∧ Sim s (40 - d) p.2.2.1 p.2.2.2 ∧ (p.2.2.1.e = 0 → repF s p.1 p.2.1 p.2.2.1 = fin ∧ s.length - p.2.2.1.at_ + 1 ≤ p.1) ∧ (p.2.2.1.e ≠ 0 → fin.2 = p.2.2.1)) (s.length + 1, y, r1, q) ⟨h1.1, hsim, fun e => ⟨by simp only at e ⊢; rw [hy e]; exact hfin, by simp only; omega⟩, fun e => by simp only at e ⊢; rw [← hfin, repF_stop e]⟩ ⟨rfl, rfl, rfl, trivial⟩ rfl ?_
    rintro ⟨n, x2, rM, q⟩ ⟨hM, hsim, hok, hbad⟩
    simp only at hM hsim hok hbad ⊢
    have hx := reC_len x2
    have hok1 := reC_ok x2
    by_cases e0 : rM.e = 0
    · obtain rfl := hsim.1 e0
      obtain ⟨hf2, hn2⟩ := hok e0
      obtain ⟨n, rfl⟩ : ∃ g, n = g + 1 := ⟨n - 1, by omega⟩
      have ic := fun c => (isR_rc hs rb (show q.at_ ≤ 2000 by omega) c).mid [⟨some b5, 6, reC x2⟩, ⟨some b4, 6, zeroRE⟩] M
      have i42 := ic 42
      have i43 := ic 43
      have i63 := ic 63
      rw [isR_is e0] at i42 i43 i63
      rw [repF] at hf2
      have hx1 : ∀ o : Int, reC (.mk o 0 [x2]) = [.int .i64 o, .int .u64 0, .int .u64 0, .int .u64 0, .int .u64 0, .psl 1 (reC x2)] := fun o => reC_one o x2
      have fin_ok : ∀ c, q.is s c = true → s.length - q.next.at_ + 1 ≤ n ∧ s.length - q.next.at_ < s.length - q.at_ := fun c h => by
        have h3 := next_lt h
        have h4 := is_lt h
        have h5 : q.next.at_ = q.at_ + 1 := rfl
        omega
      generalize hcs : reC x2 = cs at *
      repeat (first | refine aops_p tok rfl rfl rfl rfl ?_ | refine acode_seq ?_ | refine acode_region ?_)
      refine aops_ld tok 2 rfl rfl rfl rfl rfl rfl rfl rfl ?_
      repeat' (first | refine aops_pbt tok rfl (by first | omega | decide) rfl rfl rfl ?_ | refine aops_p tok rfl rfl rfl rfl ?_)
      all_goals try (exfalso; omega)
      refine aops_callx Try.func24 rfl rfl rfl rfl i42 rfl rfl rfl ?_
      cases h42 : q.is s 42 with
      | true =>
        rw [h42, if_pos rfl] at hf2
        rw [is_other h42 (by decide)] at i43 i63
        repeat' (first | refine aops_end ?_ | refine aops_o rfl rfl rfl ?_ | refine aops_p tok rfl rfl rfl rfl ?_ | refine acode_it rfl ?_ | refine acode_seq ?_ | refine acode_region ?_ | refine acode_block ?_ | refine acode_skip ?_ | refine then_n ?_)
        all_goals try (exfalso; omega)
        refine aops_callx Try.func24 rfl rfl rfl rfl i43 rfl rfl rfl ?_
        repeat' (first | refine aops_end ?_ | refine aops_p tok rfl rfl rfl rfl ?_ | refine acode_if rfl ?_ | refine acode_seq ?_ | refine acode_region ?_ | refine acode_skip ?_ | refine then_n ?_)
        all_goals try (exfalso; omega)
        refine aops_callx Try.func24 rfl rfl rfl rfl i63 rfl rfl rfl ?_
        repeat' (first | refine aops_end ?_ | refine aops_p tok rfl rfl rfl rfl ?_ | refine acode_if rfl ?_ | refine acode_seq ?_ | refine acode_region ?_ | refine acode_skip ?_ | refine then_n ?_)
        all_goals try (exfalso; omega)
        refine aops_ld tok 2 rfl rfl rfl rfl rfl rfl rfl rfl ?_
        repeat (first | refine aops_a tok rfl (by omega) (by omega) rfl rfl rfl ?_ | refine aops_p tok rfl rfl rfl rfl ?_)
        refine aops_stk tok 2 _ _ rfl rfl rfl rfl rfl rfl (by show 1 + 1 ≤ 4; decide) rfl rfl rfl rfl ?_
        repeat (first | refine aops_end ?_ | refine aops_p tok rfl rfl rfl rfl ?_ | refine acode_region ?_)
        refine aops_ld tok 0 (y := .agg cs) rfl rfl rfl rfl (ld_agg hx) rfl rfl rfl ?_
        refine aops_lit1 tok (y := .agg cs) rfl rfl rfl rfl hok1 rfl rfl rfl ?_
        repeat (refine aops_p tok rfl rfl rfl rfl ?_)
        refine aops_sto tok (reC (.mk 4 0 [x2])) rfl rfl rfl rfl rfl (by rw [hx]; decide) (by rw [hx1]; exact sto_all hx) rfl rfl ?_
        repeat (first | refine aops_endb ?_ | refine then_n ?_)
        exact ⟨(n, .mk 4 0 [x2], q.next, q.next), ⟨(next_lt h42).1, Sim.refl (Nat.le_trans (next_ok h42) (Nat.le_add_right _ _)), fun _ => ⟨hf2, (fin_ok 42 h42).1⟩, fun h => absurd e0 h⟩, (fin_ok 42 h42).2, ⟨rfl, rfl, rfl, trivial⟩, rfl⟩
      | false =>
        rw [h42, if_neg Bool.false_ne_true] at hf2
        repeat' (refine aops_p tok rfl rfl rfl rfl ?_)
        all_goals try (exfalso; omega)
        refine aops_callx Try.func24 rfl rfl rfl rfl i43 rfl rfl rfl ?_
        cases h43 : q.is s 43 with
        | true =>
          rw [h43, if_pos rfl] at hf2
          rw [h43] at i43
          rw [is_other h43 (by decide)] at i63
          repeat' (first | refine aops_end ?_ | refine aops_o rfl rfl rfl ?_ | refine aops_p tok rfl rfl rfl rfl ?_ | refine acode_it rfl ?_ | refine acode_seq ?_ | refine acode_region ?_ | refine acode_block ?_ | refine acode_skip ?_ | refine then_n ?_)
          all_goals try (exfalso; omega)
          refine aops_callx Try.func24 rfl rfl rfl rfl i43 rfl rfl rfl ?_
          repeat' (first | refine aops_end ?_ | refine aops_p tok rfl rfl rfl rfl ?_ | refine acode_it rfl ?_ | refine acode_seq ?_ | refine acode_region ?_)
          all_goals try (exfalso; omega)
          refine aops_callx Try.func24 rfl rfl rfl rfl i63 rfl rfl rfl ?_
          repeat' (first | refine aops_end ?_ | refine aops_p tok rfl rfl rfl rfl ?_ | refine acode_if rfl ?_ | refine acode_seq ?_ | refine acode_region ?_ | refine acode_skip ?_ | refine then_n ?_)
          all_goals try (exfalso; omega)
          refine aops_ld tok 2 rfl rfl rfl rfl rfl rfl rfl rfl ?_
          repeat (first | refine aops_a tok rfl (by omega) (by omega) rfl rfl rfl ?_ | refine aops_p tok rfl rfl rfl rfl ?_)
          refine aops_stk tok 2 _ _ rfl rfl rfl rfl rfl rfl (by show 1 + 1 ≤ 4; decide) rfl rfl rfl rfl ?_
          repeat (first | refine aops_end ?_ | refine aops_p tok rfl rfl rfl rfl ?_ | refine acode_region ?_)
          refine aops_ld tok 0 (y := .agg cs) rfl rfl rfl rfl (ld_agg hx) rfl rfl rfl ?_
          refine aops_lit1 tok (y := .agg cs) rfl rfl rfl rfl hok1 rfl rfl rfl ?_
          repeat (refine aops_p tok rfl rfl rfl rfl ?_)
          refine aops_sto tok (reC (.mk 5 0 [x2])) rfl rfl rfl rfl rfl (by rw [hx]; decide) (by rw [hx1]; exact sto_all hx) rfl rfl ?_
          repeat (first | refine aops_endb ?_ | refine then_n ?_)
          exact ⟨(n, .mk 5 0 [x2], q.next, q.next), ⟨(next_lt h43).1, Sim.refl (Nat.le_trans (next_ok h43) (Nat.le_add_right _ _)), fun _ => ⟨hf2, (fin_ok 43 h43).1⟩, fun h => absurd e0 h⟩, (fin_ok 43 h43).2, ⟨rfl, rfl, rfl, trivial⟩, rfl⟩
        | false =>
          rw [h43, if_neg Bool.false_ne_true] at hf2
          rw [h43] at i43
          repeat' (refine aops_p tok rfl rfl rfl rfl ?_)
          all_goals try (exfalso; omega)
          refine aops_callx Try.func24 rfl rfl rfl rfl i63 rfl rfl rfl ?_
          cases h63 : q.is s 63 with
          | true =>
            rw [h63, if_pos rfl] at hf2
            rw [h63] at i63
            repeat' (first | refine aops_end ?_ | refine aops_p tok rfl rfl rfl rfl ?_ | refine acode_it rfl ?_ | refine acode_seq ?_ | refine acode_region ?_ | refine acode_block ?_ | refine acode_skip ?_ | refine then_n ?_)
            all_goals try (exfalso; omega)
            refine aops_callx Try.func24 rfl rfl rfl rfl i43 rfl rfl rfl ?_
            repeat' (first | refine aops_end ?_ | refine aops_p tok rfl rfl rfl rfl ?_ | refine acode_if rfl ?_ | refine acode_seq ?_ | refine acode_region ?_ | refine acode_skip ?_ | refine then_n ?_)
            all_goals try (exfalso; omega)
            refine aops_callx Try.func24 rfl rfl rfl rfl i63 rfl rfl rfl ?_
            repeat' (first | refine aops_end ?_ | refine aops_p tok rfl rfl rfl rfl ?_ | refine acode_it rfl ?_ | refine acode_seq ?_ | refine acode_region ?_)
            all_goals try (exfalso; omega)
            refine aops_ld tok 2 rfl rfl rfl rfl rfl rfl rfl rfl ?_
            repeat (first | refine aops_a tok rfl (by omega) (by omega) rfl rfl rfl ?_ | refine aops_p tok rfl rfl rfl rfl ?_)
            refine aops_stk tok 2 _ _ rfl rfl rfl rfl rfl rfl (by show 1 + 1 ≤ 4; decide) rfl rfl rfl rfl ?_
            repeat (first | refine aops_end ?_ | refine aops_p tok rfl rfl rfl rfl ?_ | refine acode_region ?_)
            refine aops_ld tok 0 (y := .agg cs) rfl rfl rfl rfl (ld_agg hx) rfl rfl rfl ?_
            refine aops_lit1 tok (y := .agg cs) rfl rfl rfl rfl hok1 rfl rfl rfl ?_
            repeat (refine aops_p tok rfl rfl rfl rfl ?_)
            refine aops_sto tok (reC (.mk 6 0 [x2])) rfl rfl rfl rfl rfl (by rw [hx]; decide) (by rw [hx1]; exact sto_all hx) rfl rfl ?_
            repeat (first | refine aops_endb ?_ | refine then_n ?_)
            exact ⟨(n, .mk 6 0 [x2], q.next, q.next), ⟨(next_lt h63).1, Sim.refl (Nat.le_trans (next_ok h63) (Nat.le_add_right _ _)), fun _ => ⟨hf2, (fin_ok 63 h63).1⟩, fun h => absurd e0 h⟩, (fin_ok 63 h63).2, ⟨rfl, rfl, rfl, trivial⟩, rfl⟩
          | false =>
            rw [h63, if_neg Bool.false_ne_true] at hf2
            repeat' (first | refine aops_end ?_ | refine aops_p tok rfl rfl rfl rfl ?_ | refine acode_if rfl ?_)
            all_goals try (exfalso; omega)
            refine acode_exit ?_
            repeat (first | refine exit_then ?_ | refine exit_here ?_ | refine then_n ?_)
            subst hf2
            exact ⟨(x2, q), ⟨hsim, fun _ => rfl⟩, ⟨rfl, rfl, rfl, trivial⟩, by simp only; rw [hcs]⟩
    · have hq0 : q.e ≠ 0 := by rw [hsim.e]; exact e0
      have hb := hbad e0
      repeat (first | refine aops_p tok rfl rfl rfl rfl ?_ | refine acode_seq ?_ | refine acode_region ?_)
      refine aops_ld tok 2 rfl rfl rfl rfl rfl rfl rfl rfl ?_
      repeat' (first | refine aops_end ?_ | refine aops_o rfl rfl rfl ?_ | refine aops_pbf tok rfl (by first | omega | decide) rfl rfl rfl ?_ | refine aops_p tok rfl rfl rfl rfl ?_ | refine acode_if rfl ?_)
      all_goals try (exfalso; omega)
      refine acode_exit ?_
      repeat (first | refine exit_then ?_ | refine exit_here ?_ | refine then_n ?_)
      exact ⟨(x2, q), ⟨by rw [hb]; exact hsim, fun e => absurd e (by rw [hb]; exact e0)⟩, ⟨rfl, rfl, rfl, trivial⟩, rfl⟩
  · rintro ⟨y, q⟩ ⟨hsim, hfl⟩
    simp only at hsim hfl ⊢
    have hx := reC_len y
    have hok := reC_ok y
    refine acode_seq ?_
    refine acode_region ?_
    refine aops_ld tok 0 (y := .agg (reC y)) rfl rfl rfl rfl (ld_agg hx) rfl rfl rfl ?_
    refine aops_stk tok 1 (reC y) _ rfl rfl rfl rfl rfl hok (by show 0 + 6 ≤ 6; decide) (sto_all rfl) rfl rfl rfl ?_
    refine aops_end ?_
    refine acode_drop0 ?_
    refine acode_pubref0 4 rfl ?_
    refine acode_ret ?_
    skip
    exact ⟨_, ⟨y, q, rfl, rfl, hsim, hfl⟩, resOf_pp tok rfl rfl (pp_all hx)⟩
end Go.Proofs.Ytobpbelgihilpaa.Ab
/- Chapter 3's reference reader: an atom: the walk. No condition. -/
set_option linter.unusedVariables false
set_option linter.unusedSimpArgs false
namespace Go.Proofs.Ytobpbelgihilpaa.Ab
theorem is_x {s : List Int} {r : Rd} {x : Int} (he : r.e = 0) (hx : s[r.at_]? = some x) (c : Int) : r.is s c = decide (x = c) := by
  unfold Rd.is
  rw [hx, decide_eq_true he, Bool.true_and]
attribute [local irreducible] thenA inBlockA ACode AOps put IntKind.wrap
set_option maxHeartbeats 16000000 in
theorem atomR_qc {s : List Int} (hs : byteS s) (hL : s.length ≤ 900) {rb f : Nat} (ih : ∀ f' < f, AltQ s rb f') : AtomQ s rb f := by
  intro d r hd he hat hn M
  obtain ⟨f, rfl⟩ : ∃ g, f = g + 1 := ⟨f - 1, by omega⟩
  have hsz := str_len (s := s)
  obtain ⟨x, hx⟩ : ∃ x, s[r.at_]? = some x := ⟨s[r.at_], List.getElem?_eq_getElem hat⟩
  have hxb := hs.1 x (List.mem_of_getElem? hx)
  have hisx := is_x he hx
  rw [atom_eq]
  have hff := fun e => (failAt_rc rb s r e r.at_).mid [⟨some 0, 0, []⟩] M
  refine acalls_of_code 139 Try.func36 rfl rfl rfl ?_
  repeat (first | refine acode_seq ?_ | refine acode_region ?_)
  refine aops_alloc tok rfl rfl rfl rfl rfl rfl fun b4 => ?_
  repeat (first | refine aops_end ?_ | refine aops_p tok rfl rfl rfl rfl ?_ | refine aops_ld tok 1 rfl rfl rfl rfl rfl rfl rfl rfl ?_ | refine acode_seq ?_ | refine acode_region ?_)
  refine aops_idxs tok x rfl rfl rfl rfl (by omega) (by simpa using hx) hxb rfl rfl rfl ?_
  by_cases h40 : x = 40
  · rw [if_pos (show r.is s 40 = true by rw [hisx]; exact decide_eq_true h40)]
    have hlt := next_lt (show r.is s 40 = true by rw [hisx]; exact decide_eq_true h40)
    have hn3 := need_lt hlt he hat
    by_cases h20 : 20 ≤ d
    · rw [if_pos h20]
      have hf := (failAt_rc rb s r 4 r.at_).mid [⟨some b4, 6, zeroRE⟩] M
      rw [failAt_fail] at hf
      repeat' (first | refine aops_end ?_ | refine aops_pbt tok rfl (by first | omega | decide) rfl rfl rfl ?_ | refine aops_p tok rfl rfl rfl rfl ?_ | refine acode_it rfl ?_ | refine acode_seq ?_ | refine acode_region ?_ | refine acode_block ?_)
      all_goals try (exfalso; omega)
      refine aops_callr Try.func12 rfl rfl rfl rfl hf rfl rfl rfl ?_
      repeat (first | refine aops_end ?_ | refine aops_p tok rfl rfl rfl rfl ?_ | refine aops_stn tok rfl rfl rfl rfl rfl rfl rfl rfl rfl ?_ | refine acode_seq ?_ | refine acode_region ?_)
      refine acode_pubref0 4 rfl ?_
      refine acode_ret ?_
      repeat (first | refine ret_then ?_ | refine ret_block ?_)
      exact ⟨_, ⟨reNone, r.fail 4, rfl, rfl, Sim.refl (by have := fail_ok (e := 4) (Nat.le_of_lt hat); simp only; omega), fun _ => rfl⟩, resOf_pp tok rfl rfl (by rw [reC_none]; rfl)⟩
    · rw [if_neg h20]
      have c2 := fun L => (ih f (by omega) (d + 1) r.next (by omega) he hlt.1 (by omega)).mid L M
      have h3 := (reader_le s f).alt (d + 1) r.next hlt.1
      generalize altF s f (d + 1) r.next = qq at *
      obtain ⟨z, r1⟩ := qq
      simp only at *
      repeat' (first | refine aops_end ?_ | refine aops_a tok rfl (by omega) (by omega) rfl rfl rfl ?_ | refine aops_pbt tok rfl (by first | omega | decide) rfl rfl rfl ?_ | refine aops_pbf tok rfl (by first | omega | decide) rfl rfl rfl ?_ | refine aops_p tok rfl rfl rfl rfl ?_ | refine acode_it rfl ?_ | refine acode_if rfl ?_ | refine aops_ld tok 1 rfl rfl rfl rfl rfl rfl rfl rfl ?_ | refine aops_stn1 tok rfl rfl rfl rfl rfl rfl rfl rfl rfl ?_ | refine acode_seq ?_ | refine acode_region ?_ | refine acode_block ?_ | refine acode_skip ?_ | refine then_n ?_)
      all_goals try (exfalso; omega)
      refine aops_callq Try.func10 rfl rfl rfl rfl (c2 [_]) rfl rfl rfl ?_
      rintro _ _ ⟨y, q, rfl, rfl, hsim, hy⟩
      refine aops_alloc tok rfl rfl rfl rfl rfl rfl fun b7 => ?_
      have hxy := reC_len y
      have hoky := reC_ok y
      refine aops_sto tok (reC y) rfl rfl rfl rfl hoky (by decide) (sto_all rfl) rfl rfl ?_
      refine aops_end ?_
      refine acode_seq ?_
      refine acode_seq ?_
      refine acode_region ?_
      repeat (refine aops_p tok rfl rfl rfl rfl ?_)
      refine aops_ld tok 2 rfl rfl rfl rfl rfl rfl rfl rfl ?_
      by_cases e1 : r1.e = 0
      · obtain rfl := hsim.1 e1
        have hq1 := h3.1
        have i41 := (isR_rc hs rb (show q.at_ ≤ 2000 by omega) 41).mid [⟨some b7, 6, reC y⟩, ⟨some b4, 6, zeroRE⟩] M
        rw [isR_is e1] at i41
        repeat' (first | refine aops_pbt tok rfl (by first | omega | decide) rfl rfl rfl ?_ | refine aops_p tok rfl rfl rfl rfl ?_)
        all_goals try (exfalso; omega)
        refine aops_callx Try.func24 rfl rfl rfl rfl i41 rfl rfl rfl ?_
        cases h41 : q.is s 41 with
        | true =>
          rw [if_pos rfl]
          repeat' (first | refine aops_end ?_ | refine aops_p tok rfl rfl rfl rfl ?_ | refine acode_if rfl ?_ | refine acode_seq ?_ | refine acode_region ?_ | refine acode_skip ?_ | refine then_n ?_)
          all_goals try (exfalso; omega)
          refine aops_ld tok 2 rfl rfl rfl rfl rfl rfl rfl rfl ?_
          repeat (first | refine aops_a tok rfl (by omega) (by omega) rfl rfl rfl ?_ | refine aops_p tok rfl rfl rfl rfl ?_)
          refine aops_stk tok 2 _ _ rfl rfl rfl rfl rfl rfl (by show 1 + 1 ≤ 4; decide) rfl rfl rfl rfl ?_
          refine aops_end ?_
          refine acode_seq ?_
          refine acode_region ?_
          refine aops_ld tok 0 (y := .agg (reC y)) rfl rfl rfl rfl (ld_agg hxy) rfl rfl rfl ?_
          refine aops_stk tok 1 (reC y) _ rfl rfl rfl rfl rfl hoky (by show 0 + 6 ≤ 6; decide) (sto_all rfl) rfl rfl rfl ?_
          refine aops_end ?_
          refine acode_drop0 ?_
          refine acode_pubref0 4 rfl ?_
          refine acode_ret ?_
          repeat (first | refine ret_then ?_ | refine ret_block ?_)
          exact ⟨_, ⟨y, q.next, rfl, rfl, Sim.refl (by have := next_ok h41; omega), fun _ => hy e1⟩, resOf_pp tok rfl rfl (pp_all hxy)⟩
        | false =>
          rw [if_neg Bool.false_ne_true]
          have hqf : q.fail 2 = ⟨q.at_, 2, q.at_⟩ := by unfold Rd.fail; rw [if_pos e1]
          have hf := (failAt_rc rb s q 2 q.at_).mid [⟨some b7, 6, reC y⟩, ⟨some b4, 6, zeroRE⟩] M
          obtain ⟨qf, hqf1, hqf2, hqf3, hqfe⟩ : ∃ qf : Rd, qf.at_ = q.at_ ∧ qf.e = 2 ∧ qf.w = q.at_ ∧ q.fail 2 = qf := ⟨⟨q.at_, 2, q.at_⟩, rfl, rfl, rfl, hqf⟩
          rw [failAt_fail, hqfe] at hf
          rw [hqfe]
          repeat' (first | refine aops_end ?_ | refine aops_p tok rfl rfl rfl rfl ?_ | refine acode_it rfl ?_ | refine acode_region ?_)
          all_goals try (exfalso; omega)
          refine aops_ld tok 2 rfl rfl rfl rfl rfl rfl rfl rfl ?_
          skip
          refine aops_callr Try.func12 rfl rfl rfl rfl hf rfl rfl rfl ?_
          repeat (first | refine aops_end ?_ | refine aops_p tok rfl rfl rfl rfl ?_ | refine acode_seq ?_ | refine acode_region ?_)
          refine aops_ld tok 2 rfl rfl rfl rfl rfl rfl rfl rfl ?_
          repeat (first | refine aops_a tok rfl (by omega) (by omega) rfl rfl rfl ?_ | refine aops_p tok rfl rfl rfl rfl ?_)
          refine aops_stk tok 2 _ _ rfl rfl rfl rfl rfl rfl (by show 1 + 1 ≤ 4; decide) rfl rfl rfl rfl ?_
          refine aops_end ?_
          refine acode_seq ?_
          refine acode_region ?_
          refine aops_ld tok 0 (y := .agg (reC y)) rfl rfl rfl rfl (ld_agg hxy) rfl rfl rfl ?_
          refine aops_stk tok 1 (reC y) _ rfl rfl rfl rfl rfl hoky (by show 0 + 6 ≤ 6; decide) (sto_all rfl) rfl rfl rfl ?_
          refine aops_end ?_
          refine acode_drop0 ?_
          refine acode_pubref0 4 rfl ?_
          refine acode_ret ?_
          repeat (first | refine ret_then ?_ | refine ret_block ?_)
          exact ⟨_, ⟨y, qf.next, rfl, rfl, ⟨fun h => absurd h (by rw [hqf2]; simp), fun _ => ⟨rfl, rfl, by show qf.at_ + 1 ≤ _; omega⟩⟩, fun h => absurd h (by rw [hqf2]; simp)⟩, resOf_pp tok rfl rfl (pp_all hxy)⟩
      · have hq0 : q.e ≠ 0 := by rw [hsim.e]; exact e1
        obtain ⟨s1, s2, s3⟩ := hsim.2 e1
        rw [is_bad e1, if_neg Bool.false_ne_true]
        have hrf : r1.fail 2 = r1 := by unfold Rd.fail; rw [if_neg e1]
        rw [hrf]
        have hq2 : q.at_ ≤ 2000 := by omega
        repeat' (first | refine aops_end ?_ | refine aops_o rfl rfl rfl ?_ | refine aops_pbf tok rfl (by first | omega | decide) rfl rfl rfl ?_ | refine aops_p tok rfl rfl rfl rfl ?_ | refine acode_if rfl ?_ | refine acode_seq ?_ | refine acode_region ?_ | refine acode_skip ?_ | refine then_n ?_)
        all_goals try (exfalso; omega)
        refine aops_ld tok 2 rfl rfl rfl rfl rfl rfl rfl rfl ?_
        repeat (first | refine aops_a tok rfl (by omega) (by omega) rfl rfl rfl ?_ | refine aops_p tok rfl rfl rfl rfl ?_)
        refine aops_stk tok 2 _ _ rfl rfl rfl rfl rfl rfl (by show 1 + 1 ≤ 4; decide) rfl rfl rfl rfl ?_
        refine aops_end ?_
        refine acode_seq ?_
        refine acode_region ?_
        refine aops_ld tok 0 (y := .agg (reC y)) rfl rfl rfl rfl (ld_agg hxy) rfl rfl rfl ?_
        refine aops_stk tok 1 (reC y) _ rfl rfl rfl rfl rfl hoky (by show 0 + 6 ≤ 6; decide) (sto_all rfl) rfl rfl rfl ?_
        refine aops_end ?_
        refine acode_drop0 ?_
        refine acode_pubref0 4 rfl ?_
        refine acode_ret ?_
        repeat (first | refine ret_then ?_ | refine ret_block ?_)
        exact ⟨_, ⟨y, q.next, rfl, rfl, ⟨fun h => absurd h e1, fun _ => ⟨s1, s2, by show q.at_ + 1 ≤ _; omega⟩⟩, fun h => absurd h e1⟩, resOf_pp tok rfl rfl (pp_all hxy)⟩
  rw [if_neg (show ¬ r.is s 40 = true by rw [hisx]; simpa using h40)]
  by_cases h46 : x = 46
  · have hb := show r.is s 46 = true by rw [hisx]; exact decide_eq_true h46
    have hok := next_ok hb
    have hrc := reC_set setDot
    rw [if_pos hb]
    repeat' (first | refine aops_end ?_ | refine aops_a tok rfl (by omega) (by omega) rfl rfl rfl ?_ | refine aops_pbt tok rfl (by first | omega | decide) rfl rfl rfl ?_ | refine aops_pbf tok rfl (by first | omega | decide) rfl rfl rfl ?_ | refine aops_p tok rfl rfl rfl rfl ?_ | refine acode_it rfl ?_ | refine acode_if rfl ?_ | refine aops_ld tok 1 rfl rfl rfl rfl rfl rfl rfl rfl ?_ | refine aops_stn1 tok rfl rfl rfl rfl rfl rfl rfl rfl rfl ?_ | refine acode_seq ?_ | refine acode_region ?_ | refine acode_block ?_)
    all_goals try (exfalso; omega)
    refine aops_callx Try.func37 rfl rfl rfl rfl (dotR_calls _) rfl rfl rfl ?_
    repeat (first | refine aops_end ?_ | refine aops_p tok rfl rfl rfl rfl ?_ | refine aops_stn tok rfl rfl rfl rfl rfl rfl rfl rfl rfl ?_)
    refine acode_pubref0 4 rfl ?_
    refine acode_ret ?_
    repeat (first | refine ret_then ?_ | refine ret_block ?_)
    exact ⟨_, ⟨reSet setDot, r.next, rfl, rfl, Sim.refl (by simp only; omega), fun _ => rfl⟩, resOf_pp tok rfl rfl (by rw [hrc]; rfl)⟩
  rw [if_neg (show ¬ r.is s 46 = true by rw [hisx]; simpa using h46)]
  by_cases h92 : x = 92
  · have hb := show r.is s 92 = true by rw [hisx]; exact decide_eq_true h92
    have hok := next_ok hb
    have hnat : r.next.at_ = r.at_ + 1 := rfl
    rw [if_pos hb]
    have hov := (over_rc rb hs.2 (show r.next.at_ ≤ 2000 by omega)).mid [⟨some b4, 6, zeroRE⟩] M
    by_cases hlt : r.next.at_ < s.length
    · obtain ⟨y, hy⟩ : ∃ y, s[r.next.at_]? = some y := ⟨s[r.next.at_], List.getElem?_eq_getElem hlt⟩
      have hyb := hs.1 y (List.mem_of_getElem? hy)
      obtain ⟨m, rfl⟩ := Int.eq_ofNat_of_zero_le hyb.1
      have hR : r.next.any s = (((m : Nat) : Int), r.next.next) := by
        unfold Rd.any
        rw [if_pos (show r.next.e = 0 from he), hy]
      rw [hR]
      rw [decide_eq_false (by omega)] at hov
      repeat' (first | refine aops_end ?_ | refine aops_a tok rfl (by omega) (by omega) rfl rfl rfl ?_ | refine aops_pbt tok rfl (by first | omega | decide) rfl rfl rfl ?_ | refine aops_pbf tok rfl (by first | omega | decide) rfl rfl rfl ?_ | refine aops_p tok rfl rfl rfl rfl ?_ | refine acode_it rfl ?_ | refine acode_if rfl ?_ | refine aops_ld tok 1 rfl rfl rfl rfl rfl rfl rfl rfl ?_ | refine aops_stn1 tok rfl rfl rfl rfl rfl rfl rfl rfl rfl ?_ | refine acode_seq ?_ | refine acode_region ?_ | refine acode_block ?_)
      all_goals try (exfalso; omega)
      refine aops_callx Try.func11 rfl rfl rfl rfl hov rfl rfl rfl ?_
      repeat' (first | refine aops_end ?_ | refine aops_a tok rfl (by omega) (by omega) rfl rfl rfl ?_ | refine aops_p tok rfl rfl rfl rfl ?_ | refine acode_if rfl ?_ | refine aops_ld tok 1 rfl rfl rfl rfl rfl rfl rfl rfl ?_ | refine aops_stn1 tok rfl rfl rfl rfl rfl rfl rfl rfl rfl ?_ | refine acode_seq ?_ | refine acode_region ?_ | refine acode_skip ?_ | refine then_n ?_)
      all_goals try (exfalso; omega)
      refine acode_drawT 11 mixed (by kernel_rfl) (by kernel_rfl) ?_
      repeat (first | refine seqT_a tok rfl (by omega) (by omega) rfl rfl rfl ?_ | refine seqT_p tok rfl rfl rfl rfl ?_ | refine seqT_ld tok 1 rfl rfl rfl rfl rfl rfl rfl rfl ?_)
      refine seqT_idxs tok (m : Int) rfl rfl rfl rfl (by omega) (by rw [← hy]; congr 1; omega) hyb rfl rfl rfl ?_
      refine seqT_call _ Try.func38 rfl rfl rfl rfl (oneR_calls (show m < 256 by omega) _) rfl rfl rfl ?_
      refine SeqT.done ?_
      refine aops_sto tok (reC (reOne m)) rfl rfl rfl rfl (reC_ok _) (by decide) (sto_all rfl) rfl rfl ?_
      repeat (refine aops_end ?_)
      refine acode_pubref0 4 rfl ?_
      refine acode_ret ?_
      repeat (first | refine ret_then ?_ | refine ret_block ?_)
      exact ⟨_, ⟨reOne m, r.next.next, rfl, rfl, Sim.refl (by show r.at_ + 1 + 1 ≤ _; omega), fun _ => rfl⟩, resOf_pp tok rfl rfl (pp_all (reC_len _))⟩
    · have hR : r.next.any s = (0, r.next.fail 2) := by
        unfold Rd.any
        rw [if_pos (show r.next.e = 0 from he), List.getElem?_eq_none (by omega)]
      rw [hR]
      rw [decide_eq_true (by omega)] at hov
      have hf := (failAt_rc rb s r.next 2 r.next.at_).mid [⟨some b4, 6, zeroRE⟩] M
      rw [failAt_fail] at hf
      have hfe : (r.next.fail 2).e ≠ 0 := by unfold Rd.fail; rw [if_pos (show r.next.e = 0 from he)]; simp
      repeat' (first | refine aops_end ?_ | refine aops_a tok rfl (by omega) (by omega) rfl rfl rfl ?_ | refine aops_pbt tok rfl (by first | omega | decide) rfl rfl rfl ?_ | refine aops_pbf tok rfl (by first | omega | decide) rfl rfl rfl ?_ | refine aops_p tok rfl rfl rfl rfl ?_ | refine acode_it rfl ?_ | refine acode_if rfl ?_ | refine aops_ld tok 1 rfl rfl rfl rfl rfl rfl rfl rfl ?_ | refine aops_stn1 tok rfl rfl rfl rfl rfl rfl rfl rfl rfl ?_ | refine acode_seq ?_ | refine acode_region ?_ | refine acode_block ?_)
      all_goals try (exfalso; omega)
      refine aops_callx Try.func11 rfl rfl rfl rfl hov rfl rfl rfl ?_
      repeat' (first | refine aops_end ?_ | refine aops_p tok rfl rfl rfl rfl ?_ | refine acode_it rfl ?_ | refine aops_ld tok 1 rfl rfl rfl rfl rfl rfl rfl rfl ?_ | refine acode_seq ?_ | refine acode_region ?_)
      all_goals try (exfalso; omega)
      refine aops_callr Try.func12 rfl rfl rfl rfl hf rfl rfl rfl ?_
      repeat (first | refine aops_end ?_ | refine aops_p tok rfl rfl rfl rfl ?_ | refine aops_stn tok rfl rfl rfl rfl rfl rfl rfl rfl rfl ?_ | refine acode_seq ?_ | refine acode_region ?_)
      refine acode_pubref0 4 rfl ?_
      refine acode_ret ?_
      repeat (first | refine ret_then ?_ | refine ret_block ?_)
      exact ⟨_, ⟨reNone, r.next.fail 2, rfl, rfl, Sim.refl (by have := fail_ok (e := 2) hok; simp only; omega), fun h => absurd h hfe⟩, resOf_pp tok rfl rfl (by rw [reC_none]; rfl)⟩
  rw [if_neg (show ¬ r.is s 92 = true by rw [hisx]; simpa using h92)]
  by_cases h91 : x = 91
  · have hb := show r.is s 91 = true by rw [hisx]; exact decide_eq_true h91
    have hok := next_ok hb
    rw [if_pos hb]
    have cc := fun L => (classR_qc hs rb (r := r.next) he hok).mid L M
    repeat' (first | refine aops_end ?_ | refine aops_a tok rfl (by omega) (by omega) rfl rfl rfl ?_ | refine aops_pbt tok rfl (by first | omega | decide) rfl rfl rfl ?_ | refine aops_pbf tok rfl (by first | omega | decide) rfl rfl rfl ?_ | refine aops_p tok rfl rfl rfl rfl ?_ | refine acode_it rfl ?_ | refine acode_if rfl ?_ | refine aops_ld tok 1 rfl rfl rfl rfl rfl rfl rfl rfl ?_ | refine aops_stn1 tok rfl rfl rfl rfl rfl rfl rfl rfl rfl ?_ | refine acode_seq ?_ | refine acode_region ?_ | refine acode_block ?_)
    all_goals try (exfalso; omega)
    refine aops_callq Try.func39 rfl rfl rfl rfl (cc [_]) rfl rfl rfl ?_
    rintro _ _ ⟨y, q, rfl, rfl, hsim, hy⟩
    refine aops_sto tok (reC y) rfl rfl rfl rfl (reC_ok _) (by decide) (sto_all rfl) rfl rfl ?_
    repeat (refine aops_end ?_)
    refine acode_pubref0 4 rfl ?_
    refine acode_ret ?_
    repeat (first | refine ret_then ?_ | refine ret_block ?_)
    exact ⟨_, ⟨y, q, rfl, rfl, ⟨hsim.1, fun h => ⟨(hsim.2 h).1, (hsim.2 h).2.1, by have := (hsim.2 h).2.2; omega⟩⟩, hy⟩, resOf_pp tok rfl rfl (pp_all (reC_len _))⟩
  rw [if_neg (show ¬ r.is s 91 = true by rw [hisx]; simpa using h91)]
  have hsp : notSp s r = if specials.contains x = true then r.fail 2 else r := by unfold notSp; rw [hx]
  rw [hsp]
  have hspc := fun M => special_calls (c := x) M
  cases hc : specials.contains x with
  | true =>
    rw [hc] at hspc
    rw [if_pos rfl]
    have hf := (failAt_rc rb s r 2 r.at_).mid [⟨some b4, 6, zeroRE⟩] M
    rw [failAt_fail] at hf
    have hfe : (r.fail 2).e ≠ 0 := by unfold Rd.fail; rw [if_pos he]; simp
    have hR : (r.fail 2).any s = (0, r.fail 2) := by
      unfold Rd.any
      rw [if_neg hfe]
    rw [hR]
    repeat' (first | refine aops_end ?_ | refine aops_pbf tok rfl (by first | omega | decide) rfl rfl rfl ?_ | refine aops_p tok rfl rfl rfl rfl ?_ | refine acode_if rfl ?_ | refine acode_seq ?_ | refine acode_region ?_ | refine acode_block ?_)
    all_goals try (exfalso; omega)
    refine aops_callx Try.func40 rfl rfl rfl rfl (hspc _) rfl rfl rfl ?_
    repeat' (first | refine aops_end ?_ | refine aops_p tok rfl rfl rfl rfl ?_ | refine acode_it rfl ?_ | refine acode_seq ?_ | refine acode_region ?_)
    all_goals try (exfalso; omega)
    refine aops_callr Try.func12 rfl rfl rfl rfl hf rfl rfl rfl ?_
    repeat (first | refine aops_end ?_ | refine aops_p tok rfl rfl rfl rfl ?_ | refine aops_stn tok rfl rfl rfl rfl rfl rfl rfl rfl rfl ?_ | refine acode_seq ?_ | refine acode_region ?_)
    refine acode_pubref0 4 rfl ?_
    refine acode_ret ?_
    repeat (first | refine ret_then ?_ | refine ret_block ?_)
    exact ⟨_, ⟨reNone, r.fail 2, rfl, rfl, Sim.refl (by have := fail_ok (e := 2) (Nat.le_of_lt hat); simp only; omega), fun h => absurd h hfe⟩, resOf_pp tok rfl rfl (by rw [reC_none]; rfl)⟩
  | false =>
    rw [hc] at hspc
    rw [if_neg Bool.false_ne_true]
    obtain ⟨m, rfl⟩ := Int.eq_ofNat_of_zero_le hxb.1
    have hR : r.any s = (((m : Nat) : Int), r.next) := by
      unfold Rd.any
      rw [if_pos he, hx]
    rw [hR]
    repeat' (first | refine aops_end ?_ | refine aops_pbf tok rfl (by first | omega | decide) rfl rfl rfl ?_ | refine aops_p tok rfl rfl rfl rfl ?_ | refine acode_if rfl ?_ | refine acode_seq ?_ | refine acode_region ?_ | refine acode_block ?_)
    all_goals try (exfalso; omega)
    refine aops_callx Try.func40 rfl rfl rfl rfl (hspc _) rfl rfl rfl ?_
    repeat' (first | refine aops_end ?_ | refine aops_a tok rfl (by omega) (by omega) rfl rfl rfl ?_ | refine aops_p tok rfl rfl rfl rfl ?_ | refine acode_if rfl ?_ | refine aops_ld tok 1 rfl rfl rfl rfl rfl rfl rfl rfl ?_ | refine aops_stn1 tok rfl rfl rfl rfl rfl rfl rfl rfl rfl ?_ | refine acode_seq ?_ | refine acode_region ?_ | refine acode_skip ?_ | refine then_n ?_ | refine block_n ?_)
    all_goals try (exfalso; omega)
    skip
    skip
    refine aops_callx Try.func38 rfl rfl rfl rfl (oneR_calls (show m < 256 by omega) _) rfl rfl rfl ?_
    refine aops_sto tok (reC (reOne m)) rfl rfl rfl rfl (reC_ok _) (by decide) (sto_all rfl) rfl rfl ?_
    repeat (refine aops_end ?_)
    refine acode_pubref0 4 rfl ?_
    refine acode_ret ?_
    skip
    exact ⟨_, ⟨reOne m, r.next, rfl, rfl, Sim.refl (by show r.at_ + 1 ≤ _; omega), fun _ => rfl⟩, resOf_pp tok rfl rfl (pp_all (reC_len _))⟩
end Go.Proofs.Ytobpbelgihilpaa.Ab
/- Arrays of numbers held against themselves. No condition. -/
set_option linter.unusedVariables false
set_option linter.unusedSimpArgs false
namespace Go.Proofs.Ytobpbelgihilpaa.Ab
section
variable {P : Program} {T : List TI} {N : Nat} {ops : Array Oper} {rest : List Oper} {o : Oper} {Q : Exit → St → Prop} {E F : Env} {M : List Ob}
end
end Go.Proofs.Ytobpbelgihilpaa.Ab
/- Chapter 3: the reference's reader all together, Parse of the reference: the walk. No condition. -/
set_option linter.unusedVariables false
set_option linter.unusedSimpArgs false
namespace Go.Proofs.Ytobpbelgihilpaa.Ab
attribute [local irreducible] thenA inBlockA ACode AOps put IntKind.wrap
theorem readerQ {s : List Int} (hs : byteS s) (hL : s.length ≤ 900) {rb : Nat} (f : Nat) : AtomQ s rb f ∧ RepQ s rb f ∧ SeqQ s rb f ∧ AltQ s rb f := by
  induction f using Nat.strongRecOn with
  | _ f ih => exact ⟨atomR_qc hs hL fun g hg => (ih g hg).2.2.2, repR_qc hs hL fun g hg => (ih g hg).1, seqR_qc hs hL fun g hg => (ih g hg).2.1, altR_qc hs hL fun g hg => (ih g hg).2.2.1⟩
set_option maxHeartbeats 8000000 in
theorem rparse_calls {s : List Int} (hb : ∀ x ∈ s, 0 ≤ x ∧ x ≤ 255) (M : List Ob) : ACalls Try.prog 5 [.str (strOfNums s)] M (fun r M' => r = .tup [.agg (reC (parseP s).1), .int .i64 (parseP s).2.1, .int .i64 (parseP s).2.2] ∧ M' = M) := by
  have hsz := str_len (s := s)
  refine acalls_of_code 49 Try.func5 rfl rfl rfl ?_
  repeat (first | refine acode_seq ?_ | refine acode_region ?_)
  refine aops_alloc tok rfl rfl rfl rfl rfl rfl fun b2 => ?_
  repeat' (first | refine aops_end ?_ | (refine aops_pd tok rfl rfl rfl rfl ?_ ?_ <;> intro e_) | refine aops_p tok rfl rfl rfl rfl ?_ | refine acode_it rfl ?_ | refine acode_if rfl ?_ | refine aops_stn tok rfl rfl rfl rfl rfl rfl rfl rfl rfl ?_ | refine acode_seq ?_ | refine acode_region ?_ | refine acode_skip ?_ | refine then_n ?_)
  · have hp : parseP s = (reNone, 0, 3) := by unfold parseP; rw [if_pos (by omega)]
    rw [hp, reC_none]
    refine acode_pubref0 2 rfl ?_
    refine acode_ret ?_
    repeat (refine ret_then ?_)
    exact ⟨_, ⟨rfl, rfl⟩, _, rfl, resOf_pp tok rfl rfl rfl⟩
  · have hl : s.length ≤ 200 := by omega
    have hs : byteS s := ⟨hb, by omega⟩
    have hp : parseP s = if ((if (altF s (fuelP s) 0 ⟨0, 0, 0⟩).2.at_ < s.length then (altF s (fuelP s) 0 ⟨0, 0, 0⟩).2.fail 2 else (altF s (fuelP s) 0 ⟨0, 0, 0⟩).2).e = 0) then ((altF s (fuelP s) 0 ⟨0, 0, 0⟩).1, s.length, 0) else (reNone, (if (altF s (fuelP s) 0 ⟨0, 0, 0⟩).2.at_ < s.length then (altF s (fuelP s) 0 ⟨0, 0, 0⟩).2.fail 2 else (altF s (fuelP s) 0 ⟨0, 0, 0⟩).2).w, (if (altF s (fuelP s) 0 ⟨0, 0, 0⟩).2.at_ < s.length then (altF s (fuelP s) 0 ⟨0, 0, 0⟩).2.fail 2 else (altF s (fuelP s) 0 ⟨0, 0, 0⟩).2).e) := by unfold parseP; rw [if_neg (by omega)]
    rw [hp]
    have hn : need s ⟨0, 0, 0⟩ + 5 ≤ fuelP s := by unfold need fuelP; simp only [if_true]; omega
    have c1 := fun rb M => (readerQ hs (by omega) (rb := rb) (fuelP s)).2.2.2 0 ⟨0, 0, 0⟩ (by omega) rfl (Nat.zero_le _) hn M
    have h1 := (reader_le s (fuelP s)).alt 0 ⟨0, 0, 0⟩ (Nat.zero_le _)
    generalize altF s (fuelP s) 0 ⟨0, 0, 0⟩ = q at *
    obtain ⟨x, r1⟩ := q
    simp only at *
    refine aops_boxo rfl rfl rfl rfl rfl rfl rfl fun rb => ?_
    have hat := h1.1
    repeat (first | refine aops_end ?_ | refine aops_p tok rfl rfl rfl rfl ?_ | refine acode_seq ?_ | refine acode_region ?_)
    refine aops_callq Try.func10 rfl rfl rfl rfl (c1 rb _) rfl rfl rfl ?_
    rintro _ _ ⟨y, q, rfl, rfl, hsim, hy⟩
    have hx := reC_len y
    have hok := reC_ok y
    refine aops_alloc tok rfl rfl rfl rfl rfl rfl fun b6 => ?_
    refine aops_sto tok (reC y) rfl rfl rfl rfl hok (by decide) (sto_all rfl) rfl rfl ?_
    refine aops_end ?_
    refine acode_seq ?_
    generalize hr2 : (if r1.at_ < s.length then r1.fail 2 else r1) = r2 at *
    refine acode_joinI (ι := Rd) (fun p => [(0, .str (strOfNums s)), (2, .ref b2 0), (5, .ref rb 0), (6, .ref b6 0)]) (fun p => ⟨some b6, 6, reC y⟩ :: rdO rb s p :: ⟨some b2, 6, zeroRE⟩ :: M) (fun p => p.e = r2.e ∧ (r2.e ≠ 0 → p.w = r2.w)) ?_ ?_
    · by_cases e1 : r1.e = 0
      · obtain rfl := hsim.1 e1
        have hov := (over_rc rb hs.2 (show q.at_ ≤ 2000 by omega)).mid [⟨some b6, 6, reC y⟩] (⟨some b2, 6, zeroRE⟩ :: M)
        have hf := (failAt_rc rb s q 2 q.at_).mid [⟨some b6, 6, reC y⟩] (⟨some b2, 6, zeroRE⟩ :: M)
        rw [failAt_fail] at hf
        by_cases hlt : q.at_ < s.length
        · rw [if_pos hlt] at hr2
          subst hr2
          rw [decide_eq_false (by omega)] at hov
          repeat' (first | refine aops_pbt tok rfl (by first | omega | decide) rfl rfl rfl ?_ | refine aops_p tok rfl rfl rfl rfl ?_ | refine aops_ld tok 1 rfl rfl rfl rfl rfl rfl rfl rfl ?_ | refine acode_seq ?_ | refine acode_region ?_)
          all_goals try (exfalso; omega)
          refine aops_callx Try.func11 rfl rfl rfl rfl hov rfl rfl rfl ?_
          repeat' (first | refine aops_end ?_ | refine aops_p tok rfl rfl rfl rfl ?_ | refine acode_it rfl ?_ | refine aops_ld tok 1 rfl rfl rfl rfl rfl rfl rfl rfl ?_ | refine acode_region ?_)
          all_goals try (exfalso; omega)
          refine aops_callr Try.func12 rfl rfl rfl rfl hf rfl rfl rfl ?_
          repeat (refine aops_end ?_)
          exact ⟨q.fail 2, ⟨rfl, fun _ => rfl⟩, ⟨rfl, rfl, rfl, rfl, trivial⟩, rfl⟩
        · rw [if_neg hlt] at hr2
          subst hr2
          rw [decide_eq_true (by omega)] at hov
          repeat' (first | refine aops_pbt tok rfl (by first | omega | decide) rfl rfl rfl ?_ | refine aops_p tok rfl rfl rfl rfl ?_ | refine aops_ld tok 1 rfl rfl rfl rfl rfl rfl rfl rfl ?_ | refine acode_seq ?_ | refine acode_region ?_)
          all_goals try (exfalso; omega)
          refine aops_callx Try.func11 rfl rfl rfl rfl hov rfl rfl rfl ?_
          repeat' (first | refine aops_end ?_ | refine aops_p tok rfl rfl rfl rfl ?_ | refine acode_if rfl ?_ | refine acode_skip ?_ | refine then_n ?_)
          all_goals try (exfalso; omega)
          exact ⟨q, ⟨rfl, fun _ => rfl⟩, ⟨rfl, rfl, rfl, rfl, trivial⟩, rfl⟩
      · have hq0 : q.e ≠ 0 := by rw [hsim.e]; exact e1
        have hr21 : r2 = r1 := by
          rw [← hr2]
          split
          · unfold Rd.fail; rw [if_neg e1]
          · rfl
        rw [hr21]
        repeat' (first | refine aops_end ?_ | refine aops_o rfl rfl rfl ?_ | refine aops_pbf tok rfl (by first | omega | decide) rfl rfl rfl ?_ | refine aops_p tok rfl rfl rfl rfl ?_ | refine acode_if rfl ?_ | refine aops_ld tok 1 rfl rfl rfl rfl rfl rfl rfl rfl ?_ | refine acode_seq ?_ | refine acode_region ?_ | refine acode_skip ?_ | refine then_n ?_)
        all_goals try (exfalso; omega)
        exact ⟨q, ⟨hsim.e, fun _ => (hsim.2 e1).2.1⟩, ⟨rfl, rfl, rfl, rfl, trivial⟩, rfl⟩
    · rintro p ⟨hpe, hpw⟩
      by_cases he : r2.e = 0
      · have hp0 : p.e = 0 := by rw [hpe]; exact he
        have e1 : r1.e = 0 := by
          by_cases e1 : r1.e = 0
          · exact e1
          · have hr21 : r2 = r1 := by
              rw [← hr2]
              split
              · unfold Rd.fail; rw [if_neg e1]
              · rfl
            rw [← hr21]; exact he
        have hyx := hy e1
        rw [if_pos he]
        simp only
        rw [← hyx]
        repeat' (first | refine aops_end ?_ | (refine aops_pn tok rfl rfl rfl rfl ?_ ?_ <;> intro e_) | refine aops_p tok rfl rfl rfl rfl ?_ | refine acode_it rfl ?_ | refine acode_if rfl ?_ | refine aops_ld tok 1 rfl rfl rfl rfl rfl rfl rfl rfl ?_ | refine acode_seq ?_ | refine acode_region ?_ | refine acode_skip ?_ | refine then_n ?_)
        all_goals try (exfalso; omega)
        refine aops_ld tok 0 (y := .agg (reC y)) rfl rfl rfl rfl (ld_agg hx) rfl rfl rfl ?_
        repeat (refine aops_p tok rfl rfl rfl rfl ?_)
        refine aops_stk tok 2 (reC y) _ rfl rfl rfl rfl rfl hok (by show 0 + 6 ≤ 6; decide) (sto_all rfl) rfl rfl rfl ?_
        repeat (refine aops_p tok rfl rfl rfl rfl ?_)
        refine aops_end ?_
        rw [hsz]
        refine acode_drop0 ?_
        refine acode_drop0 ?_
        refine acode_pubref0 2 rfl ?_
        refine acode_ret ?_
        skip
        exact ⟨_, ⟨rfl, rfl⟩, _, rfl, resOf_pp tok rfl rfl (pp_all hx)⟩
      · have hp0 : p.e ≠ 0 := by rw [hpe]; exact he
        have hw := hpw he
        rw [if_neg he]
        simp only
        rw [reC_none, ← hw, ← hpe]
        repeat' (first | refine aops_end ?_ | (refine aops_pn tok rfl rfl rfl rfl ?_ ?_ <;> intro e_) | refine aops_p tok rfl rfl rfl rfl ?_ | refine acode_it rfl ?_ | refine acode_if rfl ?_ | refine aops_ld tok 1 rfl rfl rfl rfl rfl rfl rfl rfl ?_ | refine acode_seq ?_ | refine acode_region ?_ | refine acode_skip ?_ | refine then_n ?_)
        all_goals try (exfalso; omega)
        refine acode_drawP [rdO rb s p] 12 [0, 1, 2, 3, 4, 5, 6, 7, 8, 9, 10, 11] [9] mixed (by kernel_rfl) (by kernel_rfl) rfl ?_
        repeat (first | refine seqO_p tok rfl rfl rfl rfl rfl ?_ | refine seqO_ld tok 0 rfl rfl rfl rfl rfl (by simp) rfl rfl rfl rfl ?_)
        refine seqO_st tok 2 zeroRE _ rfl rfl rfl rfl rfl rfl rfl (by show 0 + 6 ≤ 6; decide) rfl rfl (by simp) rfl rfl ?_
        repeat (refine seqO_p tok rfl rfl rfl rfl rfl ?_)
        refine SeqO.done ?_
        skip
        refine aops_end ?_
        refine acode_drop0 ?_
        refine acode_drop0 ?_
        refine acode_pubref0 2 rfl ?_
        refine acode_ret ?_
        repeat (refine ret_then ?_)
        exact ⟨_, ⟨rfl, rfl⟩, _, rfl, resOf_pp tok rfl rfl rfl⟩
end Go.Proofs.Ytobpbelgihilpaa.Ab
/- Chapter 3: two patterns held against each other; the law RegexParses: the walk. No condition. -/
set_option linter.unusedVariables false
set_option linter.unusedSimpArgs false
namespace Go.Proofs.Ytobpbelgihilpaa.Ab
/-! ### patterns with not too many kids -/
inductive REok : RE → Prop where
  | mk {o : Int} {S : Nat} {k : List RE} (hl : k.length ≤ 1000) (hk : ∀ x ∈ k, REok x) : REok (.mk o S k)
theorem ok_set (S : Nat) : REok (reSet S) := .mk (by simp) (by simp)
theorem ok_none : REok reNone := .mk (by simp) (by simp)
theorem ok_one (c : Int) : REok (reOne c) := ok_set _
theorem ok_kid {o : Int} {x : RE} (h : REok x) : REok (.mk o 0 [x]) := .mk (by simp) (by simpa using h)
theorem ok_many {op : Int} {l : List RE} (hl : l.length ≤ 1000) (h : ∀ x ∈ l, REok x) : REok (reMany op l) := by
  match l, hl, h with
  | [], _, _ => exact ok_none
  | [x], _, h => exact h x (by simp)
  | x :: y :: l, hl, h => exact .mk hl h
theorem ok_rep {s : List Int} : ∀ (f : Nat) (x : RE) (r : Rd), REok x → REok (repF s f x r).1
  | 0, x, r, h => h
  | f + 1, x, r, h => by
    rw [repF]
    split
    · exact ok_rep f _ _ (ok_kid h)
    · split
      · exact ok_rep f _ _ (ok_kid h)
      · split
        · exact ok_rep f _ _ (ok_kid h)
        · exact h
structure ReaderOk (s : List Int) (f : Nat) : Prop where
  atom : ∀ d r, r.at_ ≤ s.length → REok (atomF s f d r).1
  part : ∀ d r, r.at_ ≤ s.length → REok (partP s f d r).1
  seqL : ∀ d l r, r.at_ ≤ s.length → (∀ x ∈ l, REok x) → l.length + min f 2 ≤ s.length + 4 → (r.e = 0 → 2 ≤ f → l.length ≤ r.at_) → (∀ x ∈ (seqL s f d l r).1, REok x) ∧ (seqL s f d l r).1.length ≤ s.length + 4
  seq : ∀ d r, r.at_ ≤ s.length → REok (seqF s f d r).1
  altL : ∀ d l r, r.at_ ≤ s.length → (∀ x ∈ l, REok x) → l.length ≤ s.length + 2 → (r.e = 0 → l.length ≤ r.at_ + 1) → (∀ x ∈ (altL s f d l r).1, REok x) ∧ (altL s f d l r).1.length ≤ s.length + 2
  alt : ∀ d r, r.at_ ≤ s.length → REok (altF s f d r).1
theorem snoc_ok {l : List RE} {y : RE} (h : ∀ x ∈ l, REok x) (hy : REok y) : ∀ x ∈ l ++ [y], REok x := by
  intro x hx
  simp only [List.mem_append, List.mem_cons, List.not_mem_nil, or_false] at hx
  rcases hx with hx | rfl
  · exact h x hx
  · exact hy
theorem reader_re {s : List Int} (hL : s.length ≤ 900) : ∀ f, ReaderOk s f
  | 0 => ⟨fun d r h => by rw [atomF]; exact ok_none, fun d r h => by rw [partP]; exact ok_none, fun d l r h hl h2 h3 => by rw [seqL]; exact ⟨hl, by simp only; omega⟩, fun d r h => by rw [seqF]; exact ok_none, fun d l r h hl h2 h3 => by rw [altL]; exact ⟨hl, h2⟩, fun d r h => by rw [altF]; exact ok_none⟩
  | f + 1 => by
    have ih := reader_re hL f
    have le := reader_le s f
    refine ⟨fun d r h => ?_, fun d r h => ?_, fun d l r h hl h2 h3 => ?_, fun d r h => ?_, fun d l r h hl h2 h3 => ?_, fun d r h => ?_⟩
    · rw [atom_eq]
      split
      · rename_i h40
        split
        · exact ok_none
        · exact ih.alt (d + 1) r.next (next_ok h40)
      · split
        · exact ok_set _
        · split
          · exact ok_one _
          · split
            · exact ok_set _
            · exact ok_one _
    · rw [part_eq]; exact ok_rep _ _ _ (ih.atom d r h)
    · rw [seqL_eq]
      split
      · rename_i hc
        have h5 := le.part d r h
        have hq := hc.2.1
        refine ih.seqL d _ _ h5.1.1 (snoc_ok hl (ih.part d r h)) ?_ ?_
        · simp only [List.length_append, List.length_cons, List.length_nil]
          by_cases hf : 1 < f
          · have h6 := h3 hc.1 (by omega); omega
          · omega
        · intro e h2f
          have h6 := h3 hc.1 (by omega)
          simp only [List.length_append, List.length_cons, List.length_nil]
          have := (h5.2 (by omega)).2 e
          omega
      · exact ⟨hl, by simp only; omega⟩
    · rw [seqF_eq]
      have h5 := ih.seqL d [] r h (by simp) (by simp; omega) (by simp)
      exact ok_many (by omega) h5.1
    · rw [altL_eq]
      split
      · rename_i hc
        have h5 := (next_lt hc).trans_le (le.seq d r.next (next_ok hc))
        have h6 := h3 (is_lt hc).1
        refine ih.altL d _ _ h5.1 (snoc_ok hl (ih.seq d r.next (next_ok hc))) (by simp only [List.length_append, List.length_cons, List.length_nil]; omega) ?_
        intro e
        simp only [List.length_append, List.length_cons, List.length_nil]
        have := h5.2 e
        omega
      · exact ⟨hl, h2⟩
    · rw [altF_eq]
      have h5 := le.seq d r h
      have h6 := ih.altL d [(seqF s f d r).1] (seqF s f d r).2 h5.1 (by simpa using ih.seq d r h) (by simp) (by simp)
      exact ok_many (by omega) h6.1
theorem parse_re (s : List Int) : REok (parseP s).1 := by
  unfold parseP
  split
  · exact ok_none
  · rename_i h
    have h1 := (reader_re (s := s) (by omega) (fuelP s)).alt 0 ⟨0, 0, 0⟩ (Nat.zero_le _)
    generalize altF s (fuelP s) 0 ⟨0, 0, 0⟩ = q at *
    obtain ⟨x, r⟩ := q
    simp only
    generalize (if r.at_ < s.length then r.fail 2 else r) = r2
    split
    · exact h1
    · exact ok_none
section
variable {P : Program} {T : List TI} {N : Nat} {ops : Array Oper} {rest : List Oper} {o : Oper} {Q : Exit → St → Prop} {E F : Env} {M : List Ob}
end
theorem kid_at {k : List RE} {y : RE} {j : Int} (h : k[j.toNat]? = some y) : reC y <+: (encs reC k).drop (j.toNat * 6) := by
  rw [encs_drop reC_len]
  obtain ⟨hi, rfl⟩ := List.getElem?_eq_some_iff.1 h
  rw [List.drop_eq_getElem_cons hi]
  exact ⟨encs reC (k.drop (j.toNat + 1)), by unfold encs; rw [List.flatMap_cons]⟩
attribute [local irreducible] thenA inBlockA ACode AOps put IntKind.wrap
end Go.Proofs.Ytobpbelgihilpaa.Ab
/- How high patterns are that are read, and how many sets they have, in plain terms. No condition. -/
set_option linter.unusedVariables false
set_option linter.unusedSimpArgs false
namespace Go.Proofs.Ytobpbelgihilpaa.Ab

inductive REh : Nat → RE → Prop where
  | mk {n : Nat} {o : Int} {S : Nat} {k : List RE} (hk : ∀ x ∈ k, REh n x) : REh (n + 1) (.mk o S k)
theorem REh.le {n : Nat} {x : RE} (h : REh n x) : ∀ {m : Nat}, n ≤ m → REh m x := by
  induction h with
  | @mk n o S k hk ih =>
    intro m hm
    obtain ⟨m', rfl⟩ : ∃ m', m = m' + 1 := ⟨m - 1, by omega⟩
    exact .mk fun x hx => ih x hx (by omega)
theorem h_set (S : Nat) : REh 1 (reSet S) := .mk (by simp)
theorem h_none : REh 1 reNone := .mk (by simp)
theorem h_many {op : Int} {l : List RE} {n : Nat} (h : ∀ x ∈ l, REh n x) : REh (n + 1) (reMany op l) := by
  match l, h with
  | [], _ => exact h_none.le (by omega)
  | [x], h => exact (h x (by simp)).le (by omega)
  | x :: y :: l, h => exact .mk h
theorem h_rep {s : List Int} : ∀ (f : Nat) (x : RE) (r : Rd) (n : Nat), REh n x → REh (n + f) (repF s f x r).1
  | 0, x, r, n, h => h
  | f + 1, x, r, n, h => by
    have hk : ∀ o : Int, REh (n + 1) (.mk o 0 [x]) := fun o => .mk (by simpa using h)
    rw [repF]
    split
    · exact (h_rep f _ _ (n + 1) (hk 4)).le (by omega)
    · split
      · exact (h_rep f _ _ (n + 1) (hk 5)).le (by omega)
      · split
        · exact (h_rep f _ _ (n + 1) (hk 6)).le (by omega)
        · exact h.le (by omega)
structure ReaderH (s : List Int) (f : Nat) : Prop where
  atom : ∀ d r, REh (f * (s.length + 2) + 1) (atomF s f d r).1
  part : ∀ d r, REh (f * (s.length + 2) + 1) (partP s f d r).1
  seqL : ∀ n d l r, f * (s.length + 2) + 1 ≤ n → (∀ x ∈ l, REh n x) → ∀ x ∈ (seqL s f d l r).1, REh n x
  seq : ∀ d r, REh (f * (s.length + 2) + 1) (seqF s f d r).1
  altL : ∀ n d l r, f * (s.length + 2) + 1 ≤ n → (∀ x ∈ l, REh n x) → ∀ x ∈ (altL s f d l r).1, REh n x
  alt : ∀ d r, REh (f * (s.length + 2) + 1) (altF s f d r).1
theorem snoc_h {l : List RE} {y : RE} {n : Nat} (h : ∀ x ∈ l, REh n x) (hy : REh n y) : ∀ x ∈ l ++ [y], REh n x := by
  intro x hx
  simp only [List.mem_append, List.mem_cons, List.not_mem_nil, or_false] at hx
  rcases hx with hx | rfl
  · exact h x hx
  · exact hy
theorem reader_h {s : List Int} : ∀ f, ReaderH s f
  | 0 => ⟨fun d r => by rw [atomF]; exact h_none.le (by omega), fun d r => by rw [partP]; exact h_none.le (by omega), fun n d l r _ h => by rw [seqL]; exact h, fun d r => by rw [seqF]; exact h_none.le (by omega), fun n d l r _ h => by rw [altL]; exact h, fun d r => by rw [altF]; exact h_none.le (by omega)⟩
  | f + 1 => by
    have ih := reader_h (s := s) f
    have hm : (f + 1) * (s.length + 2) = f * (s.length + 2) + (s.length + 2) := by rw [Nat.add_mul, Nat.one_mul]
    have hm2 : (f + 1) * (s.length + 2) + 1 = f * (s.length + 2) + 1 + (s.length + 2) := by omega
    have i1 := ih.atom
    have i2 := ih.part
    have i3 := ih.seqL
    have i4 := ih.seq
    have i5 := ih.altL
    have i6 := ih.alt
    refine ⟨fun d r => ?_, fun d r => ?_, fun n d l r hn hl => ?_, fun d r => ?_, fun n d l r hn hl => ?_, fun d r => ?_⟩ <;> (try rw [hm2]) <;> (try rw [hm2] at hn) <;> generalize f * (s.length + 2) + 1 = K at *
    · rw [atom_eq]
      split
      · split
        · exact h_none.le (by omega)
        · exact (i6 _ _).le (by omega)
      · split
        · exact (h_set _).le (by omega)
        · split
          · exact (h_set _).le (by omega)
          · split
            · exact (h_set _).le (by omega)
            · exact (h_set _).le (by omega)
    · rw [part_eq]; exact (h_rep _ _ _ _ (i1 d r)).le (by omega)
    · rw [seqL_eq]
      split
      · exact i3 n _ _ _ (by omega) (snoc_h hl ((i2 _ _).le (by omega)))
      · exact hl
    · rw [seqF_eq]
      exact (h_many (i3 K d [] r (Nat.le_refl _) (by simp))).le (by omega)
    · rw [altL_eq]
      split
      · exact i5 n _ _ _ (by omega) (snoc_h hl ((i4 _ _).le (by omega)))
      · exact hl
    · rw [altF_eq]
      exact (h_many (i5 K d _ _ (Nat.le_refl _) (by simpa using i4 d r))).le (by omega)
theorem parse_h (s : List Int) : REh 400000 (parseP s).1 := by
  unfold parseP
  split
  · exact h_none.le (by omega)
  · rename_i h
    have h1 := (reader_h (s := s) (fuelP s)).alt 0 ⟨0, 0, 0⟩
    have hb : fuelP s * (s.length + 2) + 1 ≤ 400000 := by
      have h2 : fuelP s ≤ 1616 := by unfold fuelP; omega
      have := Nat.mul_le_mul h2 (show s.length + 2 ≤ 202 by omega)
      omega
    generalize altF s (fuelP s) 0 ⟨0, 0, 0⟩ = q at *
    obtain ⟨x, r⟩ := q
    simp only
    generalize (if r.at_ < s.length then r.fail 2 else r) = r2
    split
    · exact h1.le hb
    · exact h_none.le (by omega)
/-! ### how many sets -/
mutual
def cntR : RE → Nat
  | .mk o _ k => if o = 1 then 1 else if o = 2 ∨ o = 3 then cntL k else if o = 4 ∨ o = 5 ∨ o = 6 then cntH k else 0
def cntL : List RE → Nat
  | [] => 0
  | x :: l => cntR x + cntL l
def cntH : List RE → Nat
  | [] => 0
  | x :: _ => cntR x
end
theorem cntR_eq (x : RE) : cntR x = if x.op = 1 then 1 else if x.op = 2 ∨ x.op = 3 then cntL x.kids else if x.op = 4 ∨ x.op = 5 ∨ x.op = 6 then cntH x.kids else 0 := by cases x; rw [cntR]; rfl
end Go.Proofs.Ytobpbelgihilpaa.Ab
/- Objects of one's own frozen, and what others tell of them. No condition. -/
set_option linter.unusedVariables false
set_option linter.unusedSimpArgs false
namespace Go.Proofs.Ytobpbelgihilpaa.Ab
/-- The same objects, V's told as frozen ones in their cells. -/
inductive VwM (V : List Ob) : List Ob → List Ob → Prop where
  | nil : VwM V [] []
  | same {o : Ob} {M M' : List Ob} (t : VwM V M M') : VwM V (o :: M) (o :: M')
  | cons {b : Option Nat} {room : Nat} {cs ds : List A} {M M' : List Ob} (h : VwL V cs ds) (hn : b = none → ds = []) (t : VwM V M M') : VwM V (⟨b, room, cs⟩ :: M) (⟨b, room, ds⟩ :: M')
theorem VwM.rfl' {V : List Ob} : ∀ (M : List Ob), VwM V M M
  | [] => .nil
  | _ :: M => .same (VwM.rfl' M)
theorem VwM.keys {V : List Ob} : ∀ {M M' : List Ob}, VwM V M M' → M'.filterMap (·.b) = M.filterMap (·.b)
  | _, _, .nil => rfl
  | _, _, .same t => by simp [List.filterMap_cons, t.keys]
  | _, _, .cons _ _ t => by simp [List.filterMap_cons, t.keys]
section
variable {P : Program} {T : List TI} {N : Nat} {ops : Array Oper} {rest : List Oper} {o : Oper} {Q : Exit → St → Prop} {E F : Env} {M : List Ob}
theorem VwL.set {V : List Ob} : ∀ {xs : List A} (i : Nat) {x y : A}, xs[i]? = some x → Vw V x y → VwL V xs (xs.set i y)
  | [], i, x, y, h, _ => by simp at h
  | z :: xs, 0, x, y, h, hv => by simp at h; subst h; exact .cons hv (VwL.rfl' xs)
  | z :: xs, i + 1, x, y, h, hv => .cons (.refl z) (VwL.set i (by simpa using h) hv)
/-- Arguments told with less. -/
theorem acalls_arg {f : FuncId} {xs ys : List A} {R : A → List Ob → Prop} (hv : VwL [] xs ys) (hc : ACalls P f ys M R) : ACalls P f xs M R :=
  fun G w vs hok hl => hc G w vs hok (vwgL_rep G.le_refl (fun _ _ _ h => by cases h) _ _ _ hv hl)
end
end Go.Proofs.Ytobpbelgihilpaa.Ab
/- Where ways meet again in one of many states; calls that change objects in drawn regions. No condition. -/
set_option linter.unusedVariables false
set_option linter.unusedSimpArgs false
namespace Go.Proofs.Ytobpbelgihilpaa.Ab
section
variable {P : Program} {T : List TI} {N : Nat} {ops : Array Oper} {rest : List Oper} {o : Oper} {Q : Exit → St → Prop} {E F : Env} {M : List Ob}
/-- A temporary's nil slices told as empty ones. -/
theorem aops_softt {l : List Oper} (t : Nat) {y : A} (h : soft (get E t) = y) (next : AOps P N ops l Q ⟨(t, y) :: E, M⟩) : AOps P N ops l Q ⟨E, M⟩ :=
  aops_weaken (st' := ⟨(t, y) :: E, M⟩) (fun K G a w hi => ⟨G, inv_E hi fun s v hv => by
    simp only [get]
    cases hb : Nat.beq t s with
    | true =>
      obtain rfl := Nat.eq_of_beq_eq_true hb
      rw [← h]; exact soft_rep _ _ hv
    | false => exact hv⟩) next
end
end Go.Proofs.Ytobpbelgihilpaa.Ab
/- Structs of numbers held against each other. No condition. -/
set_option linter.unusedVariables false
set_option linter.unusedSimpArgs false
namespace Go.Proofs.Ytobpbelgihilpaa.Ab
section
variable {P : Program} {T : List TI} {N : Nat} {ops : Array Oper} {rest : List Oper} {o : Oper} {Q : Exit → St → Prop} {E F : Env} {M : List Ob}
theorem ints_repL (G : Gh) : ∀ l : List Int, RepL G (ints l) (l.map (Value.int .i64))
  | [] => rfl
  | x :: l => ⟨_, _, rfl, rfl, ints_repL G l⟩
theorem ints_val {G : Gh} : ∀ {l : List Int} {vs : List Value}, RepL G (ints l) vs → vs = l.map (Value.int .i64)
  | [], _, h => h
  | x :: l, _, h => by
    obtain ⟨v, vs', rfl, h1, h2⟩ := h
    simp only [Rep] at h1
    rw [h1, ints_val h2]; rfl
theorem part_int {e : Nat} {ei : TI} (he : TG P e ei) (hk : ei.k = .int .i64) {l : List Int} {k : Nat} {x : Int} (h : l[k]? = some x) (w : World) : (part e (l.map (Value.int .i64)).toArray k).run P w = .ok (.int .i64 x) w := by
  obtain ⟨v, h1, h2⟩ := part_run (w := w) he (ints_repL ⟨fun _ => [], fun _ => none, fun _ => False, fun _ => none⟩ l) (off := k) (r := .int .i64 x) (by rw [hk]; exact ints_get h)
  simp only [Rep] at h2
  rw [h1, h2]
theorem eqFields_ints {e : Nat} {ei : TI} (he : TG P e ei) (hk : ei.k = .int .i64) (xs ys : List Int) (d : Nat) (w : World) : ∀ (gs : List Field) (k : Nat), gs.map (fun f => (f.offset, f.type)) = (List.range' k gs.length).map (fun i => (i, e)) → (∀ f ∈ gs, f.name ≠ "_") → k + gs.length = xs.length → k + gs.length = ys.length →
    (Op.eqFields (d + 1) (xs.map (Value.int .i64)).toArray (ys.map (Value.int .i64)).toArray gs).run P w = .ok (xs.drop k == ys.drop k) w
  | [], k, _, _, hx, hy => by
    simp only [List.length_nil, Nat.add_zero] at hx hy
    simp only [Op.eqFields, Sem.run_pure]
    rw [List.drop_eq_nil_of_le (by omega), List.drop_eq_nil_of_le (by omega)]; rfl
  | f :: gs, k, hm, hn, hx, hy => by
    simp only [List.length_cons, List.range'_succ, List.map_cons, List.cons.injEq, Prod.mk.injEq] at hm hx hy
    obtain ⟨⟨ho, ht⟩, hm⟩ := hm
    have h1 : xs[k]? = some (xs[k]'(by omega)) := List.getElem?_eq_getElem (by omega)
    have h2 : ys[k]? = some (ys[k]'(by omega)) := List.getElem?_eq_getElem (by omega)
    have ih := eqFields_ints he hk xs ys d w gs (k + 1) hm (fun f hf => hn f (by simp [hf])) (by omega) (by omega)
    have hu := und_int he hk
    rw [List.drop_eq_getElem_cons (show k < xs.length by omega), List.drop_eq_getElem_cons (show k < ys.length by omega)]
    simp only [Op.eqFields, if_pos (hn f (by simp)), Sem.run_bind, ho, ht, part_int he hk h1, part_int he hk h2, Result.andThen_ok, run_equalIn_int w d e .i64 .i64 _ _ hu]
    rw [List.cons_beq_cons]
    cases hb : (xs[k]'(by omega) == ys[k]'(by omega)) with
    | true => simp only [Bool.not_true, Bool.false_eq_true, if_false, Bool.true_and]; exact ih
    | false => simp
def eqstB (P : Program) (t : Nat) : Bool := (P.fieldsOf t).all (fun f => f.name != "_") && !P.stoodInHeld t && !P.eqGuardType P.depth t
theorem aops_eqst (hT : TOk P T) {t t' d e : Nat} {x y : Operand} (l m : List Int) (ho : o.op = .binOp .eql t x y t') (ht : kindOf T t = some (.struct ((List.range' 0 l.length).map fun i => (i, e)))) (he : kindOf T e = some (.int .i64)) (hB : eqstB P t = true) (hx : opA E x = .agg (ints l)) (hy : opA E y = .agg (ints m)) (hlm : l.length = m.length) (hg : guardOn ops o E = some true) (hd : o.dst = some d) (hN : Nat.blt d N = true)
    (next : AOps P N ops rest Q ⟨(d, .bool (l == m)) :: E, M⟩) : AOps P N ops (o :: rest) Q ⟨E, M⟩ := by
  refine aops_val hg (by rw [hd]; exact hN) (.bool (l == m)) M (fun K G av w hi => ?_) (by rw [hd]; exact next)
  have hrx := opA_rep hi x
  have hry := opA_rep hi y
  rw [hx] at hrx; rw [hy] at hry
  obtain ⟨vx, ex, rx⟩ := hrx
  obtain ⟨vy, ey, ry⟩ := hry
  have e1 := ints_val rx
  have e2 := ints_val ry
  subst e1; subst e2
  simp only [eqstB, Bool.and_eq_true, Bool.not_eq_true'] at hB
  obtain ⟨⟨b1, b2⟩, b3⟩ := hB
  obtain ⟨ti, hti, hk⟩ := Option.map_eq_some_iff.1 ht
  obtain ⟨k1, k2⟩ := known_spec hti
  obtain ⟨tk, ts, tb, tz⟩ := ti
  simp only at hk
  subst hk
  obtain ⟨gs, hu, hgs⟩ := und_struct (hT.get k1 k2)
  have hfo : P.fieldsOf t = gs := by simp [Program.fieldsOf, hu]
  obtain ⟨ei, hei, hke⟩ := Option.map_eq_some_iff.1 he
  obtain ⟨k3, k4⟩ := known_spec hei
  have hlen : gs.toList.length = l.length := by have := congrArg List.length hgs; simpa using this
  have hF := eqFields_ints (hT.get k3 k4) hke l m 9998 w gs.toList 0 (by rw [hlen]; exact hgs) (fun f hf => by
    have := Array.all_eq_true_iff_forall_mem.1 b1 f (by rw [hfo]; exact Array.mem_toList_iff.1 hf)
    simpa using this) (by omega) (by omega)
  refine ⟨.bool (l == m), w, G, ?_, hi.ok, G.le_refl, rfl⟩
  have hq : (binOp .eql t (.agg (l.map (Value.int .i64)).toArray) (.agg (m.map (Value.int .i64)).toArray)).run P w = .ok (.bool (l == m)) w := by
    rw [run_eql_struct, run_equalIn_agg w 9999 t _ _ (by rw [hfo]; exact hu) b2, hfo, hF]
    rfl
  simp only [execOp, ho, ex, ey, Sem.run_bind, run_eqGuard_agg w .eql t x y _ _ b3, hq, Result.andThen_ok]
  rfl
end
end Go.Proofs.Ytobpbelgihilpaa.Ab
/- A slice that a field of the front object holds is frozen there. No condition. -/
set_option linter.unusedVariables false
set_option linter.unusedSimpArgs false
namespace Go.Proofs.Ytobpbelgihilpaa.Ab
attribute [local irreducible] thenA inBlockA ACode AOps put IntKind.wrap

section
variable {P : Program} {N : Nat} {Q : Exit → St → Prop} {E : Env} {M : List Ob}
/-- The second object, a slice that a field of the first one holds, is frozen there (as in Spa7). -/
theorem acode_pubFld {c : Code} (i : Nat) {b room r2 n cap sz : Nat} {ob : Option Nat} {cs ds cs' : List A} (hc : cs[i]? = some (.own ob n cap)) (hr : r2 = cap * sz) (hcs : ds.length = n * sz) (hsz : 0 < sz) (he : cs.set i (.psl n ds) = cs')
    (next : ACode P N c Q ⟨E, ⟨some b, room, cs'⟩ :: M⟩) : ACode P N c Q ⟨E, ⟨some b, room, cs⟩ :: ⟨ob, r2, ds⟩ :: M⟩ := by
  subst he
  refine acode_weaken (st' := ⟨E, ⟨some b, room, cs.set i (.psl n ds)⟩ :: M⟩) (fun K G a w hi => ?_) next
  obtain ⟨G', hle, hok, hb, hn, _⟩ := ok_publish hi.ok (k := 1) rfl
  refine ⟨G', ?_, hi.sz, hi.df, fun s => (hi.ev s).mono hle⟩
  have hok' : Ok K G' (⟨some b, room, cs⟩ :: M) w := hok
  refine hok'.cast (fun o' ho => ?_) (by simpa [List.filterMap_cons] using hok'.nd)
  simp only [List.mem_cons] at ho
  rcases ho with rfl | ho
  · refine .inr ⟨⟨some b, room, cs⟩, List.mem_cons_self .., rfl, rfl, fun vs hv => repL_set_same hv hc (fun v hr' => ?_), fun h => by cases h⟩
    cases ob with
    | none =>
      obtain ⟨hv, rfl, rfl⟩ := hr'
      obtain ⟨rfl, _⟩ := hn rfl
      exact ⟨none, 0, hv, Nat.le_refl _, by simp, [], rfl, .inl rfl⟩
    | some b2 =>
      simp only [Rep] at hr'
      obtain ⟨vs, hl, hat, hle'⟩ := hb b2 rfl
      have hlen := hl.length
      exact ⟨_, cap, hr', Nat.le_of_mul_le_mul_right (show n * sz ≤ cap * sz by omega) hsz, by simp, vs, hl, .inr ⟨b2, 0, rfl, hat⟩⟩
  · exact .inr ⟨o', by simp [ho], rfl, rfl, fun vs hv => hv, fun hb => (hok'.vn o' (by simp [ho]) hb).1⟩
end
end Go.Proofs.Ytobpbelgihilpaa.Ab
/- An object made in a drawn region. No condition. -/
set_option linter.unusedVariables false
set_option linter.unusedSimpArgs false
namespace Go.Proofs.Ytobpbelgihilpaa.Ab
section
variable {P : Program} {T : List TI} {N : Nat} {ops : Array Oper} {Q : Exit → St → Prop} {o : Oper} {F : Env} {M : List Ob}
end
end Go.Proofs.Ytobpbelgihilpaa.Ab
/- Truth values held against each other by !=: rules of the walk. No condition. -/
set_option linter.unusedVariables false
set_option linter.unusedSimpArgs false
namespace Go.Proofs.Ytobpbelgihilpaa.Ab
section
variable {P : Program} {T : List TI} {N : Nat} {ops : Array Oper} {o : Oper} {rest : List Oper} {Q : Exit → St → Prop} {E F : Env} {M : List Ob}
theorem neb_run {t : Nat} (h : P.underlying t = some .bool) (a b : Bool) (w : World) : (binOp .neq t (.bool a) (.bool b)).run P w = .ok (.bool (!(a == b))) w := by
  have := equalIn_bool h 9999 a b w
  have e : Op.maxDepth = 9999 + 1 := rfl
  simp only [binOp, Op.equal, e]
  simp [this]
theorem aops_neb (hT : TOk P T) {t t' d : Nat} {x y : Operand} {a b : Bool} (ho : o.op = .binOp .neq t x y t') (ht : kindOf T t = some .bool) (hx : opA E x = .bool a) (hy : opA E y = .bool b) (hg : guardOn ops o E = some true) (hd : o.dst = some d) (hN : Nat.blt d N = true)
    (next : AOps P N ops rest Q ⟨(d, .bool (!(a == b))) :: E, M⟩) : AOps P N ops (o :: rest) Q ⟨E, M⟩ := by
  refine aops_val hg (by rw [hd]; exact hN) (.bool (!(a == b))) M (fun K G av w hi => ?_) (by rw [hd]; exact next)
  have hrx := opA_rep hi x
  have hry := opA_rep hi y
  rw [hx] at hrx; rw [hy] at hry
  simp only [Rep] at hrx hry
  refine ⟨.bool (!(a == b)), w, G, ?_, hi.ok, G.le_refl, rfl⟩
  simp only [execOp, ho, hrx, hry, Sem.run_bind, eqGuard_run (P := P) (w := w) (op := .neq) (t := t) (x := x) (y := y) (u := .bool a) (v := .bool b) (.inr (.inr (.inl ⟨_, rfl⟩))), neb_run (kindOf_bool hT ht), Result.andThen_ok]
  rfl
theorem seqT_neb (hT : TOk P T) {l : List Oper} {n : Nat} {t t' d : Nat} {x y : Operand} {a b : Bool} (ho : o.op = .binOp .neq t x y t') (ht : kindOf T t = some .bool) (hx : opA F x = .bool a) (hy : opA F y = .bool b) (hg : guardOn ops o F = some true) (hd : o.dst = some d) (hN : Nat.blt d N = true)
    (next : SeqT P N ops Q M ((d, .bool (!(a == b))) :: F) n l) : SeqT P N ops Q M F (n + 1) (o :: l) := by
  refine seqT_y (x := .bool (!(a == b))) (fun E hE rest Q next => ?_) hd next
  refine aops_neb hT ho ht ((agree_op hE (by rw [ho]; simp [Op.operands])).trans hx) ((agree_op hE (by rw [ho]; simp [Op.operands])).trans hy) ((agree_guard hE).trans hg) hd hN ?_
  rwa [hd] at next
end
end Go.Proofs.Ytobpbelgihilpaa.Ab
/- Rules of the walk and of rows, of Cht5, Cht6, Cht8, Cht9, Tre1: for a seat without forests. No condition. -/
set_option linter.unusedVariables false
set_option linter.unusedSimpArgs false
namespace Go.Proofs.Ytobpbelgihilpaa.Ab
section
variable {P : Program} {T : List TI} {N : Nat} {ops : Array Oper} {rest : List Oper} {o : Oper} {Q : Exit → St → Prop} {E F : Env} {M : List Ob}
theorem yields_eqst (hT : TOk P T) {t t' d e : Nat} {x y : Operand} (l m : List Int) (ho : o.op = .binOp .eql t x y t') (ht : kindOf T t = some (.struct ((List.range' 0 l.length).map fun i => (i, e)))) (he : kindOf T e = some (.int .i64)) (hB : eqstB P t = true) (hx : opA F x = .agg (ints l)) (hy : opA F y = .agg (ints m)) (hlm : l.length = m.length) (hg : guardOn ops o F = some true) (hd : o.dst = some d) (hN : Nat.blt d N = true) : Yields P N ops o (.bool (l == m)) F M := by
  intro E hE rest Q next
  rw [hd] at next
  exact aops_eqst hT l m ho ht he hB ((agree_op hE (by rw [ho]; simp [Op.operands])).trans hx) ((agree_op hE (by rw [ho]; simp [Op.operands])).trans hy) hlm ((agree_guard hE).trans hg) hd hN next
theorem eraseIdx_set {α : Type} : ∀ (l : List α) (k : Nat) (y : α), (l.set k y).eraseIdx k = l.eraseIdx k
  | [], _, _ => rfl
  | _ :: _, 0, _ => rfl
  | x :: l, k + 1, y => by simp [eraseIdx_set l k y]
theorem seqO_appz (hT : TOk P T) {kp : List Ob} {al : List Nat} {i : Nat} {ll : List Oper} {mm : Nat} {t e d : Nat} {ei : TI} {s x : Operand} {ob : Option Nat} {n cap room m : Nat} {cs ds : List A} (k : Nat) (hi : al.contains i = true) (ho : o.op = .call { callee := .builtin .append, args := #[s, x], argTypes := #[t, t] }) (hs : sliceOf T t = some (e, ei))
    (hsv : opA F s = .own ob n cap) (hx : opA F x = .psl m ds) (hM : M[k]? = some ⟨ob, room, cs⟩) (hroom : room = cap * ei.size) (hcs : cs.length = n * ei.size) (hds : ds.length = m * ei.size) (hcell : ds.all A.isCell = true)
    (hz : (Nat.beq ei.zero.length ei.size && Nat.blt 0 ei.size) = true) (hbytes : (n + m) * ei.bytes ≤ 140737488355328) (hlen : n + m ≤ 140737488355328) (hkp : ∀ o ∈ kp, o ∈ M.eraseIdx k) (hg : guardOn ops o F = some true) (hd : o.dst = some d) (hN : Nat.blt d N = true)
    (next : SeqO P N ops Q kp al (i + 1) ((d, .psl (n + m) (cs ++ ds)) :: F) (M.eraseIdx k) mm ll) : SeqO P N ops Q kp al i F M (mm + 1) (o :: ll) := by
  refine SeqO.make (x := fun _ => .psl (n + m) (cs ++ ds)) (M2 := fun _ => M.eraseIdx k) hi (fun E hE rest Q next => ?_) (fun z o ho => hkp o ho) fun z => ?_
  · have e1 : ∀ y ∈ o.op.operands, opA E y = opA F y := fun y hy => agree_op hE hy
    have ex : opA E x = opA F x := e1 x (by rw [ho]; simp [Op.operands, Call.operands])
    refine aops_append hT k ho hs ((e1 s (by rw [ho]; simp [Op.operands, Call.operands])).trans hsv) (by rw [ex]; exact .inl hx) hM hroom hcs hds hcell hz hbytes hlen ((agree_guard hE).trans hg) (by rw [hd]; exact hN) fun ob' cap' => ?_
    have nx := next []
    rw [hd] at nx ⊢
    have hz2 := hz
    simp only [Bool.and_eq_true] at hz2
    have hkl : k < M.length := (List.getElem?_eq_some_iff.1 hM).1
    refine aops_publish d k (ob := ob') (n := n + m) (cap := cap') (room := cap' * ei.size) (cs := cs ++ ds) ei.size (by simp [put, get]) (by rw [List.getElem?_set_self hkl]) rfl (by rw [List.length_append, hcs, hds, Nat.add_mul]) (by simpa using hz2.2) ?_
    rw [eraseIdx_set]
    refine aops_weaken (fun K G a w hi => ⟨G, inv_E hi fun s v hr => ?_⟩) nx
    simp only [get, put] at hr ⊢
    cases hb : Nat.beq d s <;> rw [hb] at hr <;> exact hr
  · rw [hd]; exact next
theorem seqO_slc (hT : TOk P T) {kp : List Ob} {al : List Nat} {q : Nat} {ll : List Oper} {m d : Nat} (n' : Nat) (cs' : List A) {t e : Nat} {ei : TI} {x : Operand} {lo hi' : Option Operand} {n : Nat} {cs : List A} {l h' : Int} (hq : al.contains q = false) (ho : o.op = .slice t x lo hi' none) (hs : sliceOf T t = some (e, ei)) (hx : opA F x = .psl n cs)
    (hl : loOf F lo = some l) (hh : hiOf F n hi' = some h') (h0 : 0 ≤ l) (h1 : l ≤ h') (h2 : h' ≤ n) (hn' : n' = h'.toNat - l.toNat) (hcs : cs.length = n * ei.size) (hcs' : (cs.drop (l.toNat * ei.size)).take (n' * ei.size) = cs')
    (hg : guardOn ops o F = some true) (hd : o.dst = some d) (hN : Nat.blt d N = true) (next : SeqO P N ops Q kp al (q + 1) ((d, .psl n' cs') :: F) M m ll) : SeqO P N ops Q kp al q F M (m + 1) (o :: ll) :=
  seqO_y hq (fun M' => yields_slice hT ho hs hx hl hh h0 h1 h2 n' cs' hn' hcs hcs' hg (by rw [hd]; exact hN)) hd next
theorem seqO_appn (hT : TOk P T) {kp : List Ob} {al : List Nat} {i : Nat} {ll : List Oper} {mm : Nat} {t e d : Nat} {ei : TI} {s x : Operand} {m : Nat} {ds : List A} (hi : al.contains i = true) (ho : o.op = .call { callee := .builtin .append, args := #[s, x], argTypes := #[t, t] }) (hs : sliceOf T t = some (e, ei))
    (hsv : opA F s = .nils) (hx : opA F x = .psl m ds) (hds : ds.length = m * ei.size) (hcell : ds.all A.isCell = true)
    (hz : (Nat.beq ei.zero.length ei.size && Nat.blt 0 ei.size) = true) (hbytes : m * ei.bytes ≤ 140737488355328) (hlen : m ≤ 140737488355328) (hkp : ∀ o ∈ kp, o ∈ M) (hg : guardOn ops o F = some true) (hd : o.dst = some d) (hN : Nat.blt d N = true)
    (next : ∀ ob' cap', SeqO P N ops Q kp al (i + 1) ((d, .own ob' m cap') :: F) (⟨ob', cap' * ei.size, ds⟩ :: M) mm ll) : SeqO P N ops Q kp al i F M (mm + 1) (o :: ll) := by
  refine SeqO.make (x := fun z => .own (obZ z) m (capZ z)) (M2 := fun z => ⟨obZ z, capZ z * ei.size, ds⟩ :: M) hi (fun E hE rest Q next => ?_) (fun z o ho => List.mem_cons_of_mem _ (hkp o ho)) fun z => ?_
  · have e1 : ∀ y ∈ o.op.operands, opA E y = opA F y := fun y hy => agree_op hE hy
    refine aops_appn hT ho hs ((e1 s (by rw [ho]; simp [Op.operands, Call.operands])).trans hsv) ((e1 x (by rw [ho]; simp [Op.operands, Call.operands])).trans hx) hds hcell hz hbytes hlen ((agree_guard hE).trans hg) hd hN fun ob' cap' => ?_
    obtain ⟨z, rfl, rfl⟩ := z_of ob' cap'
    have nx := next z
    rw [hd] at nx
    exact nx
  · rw [hd]; exact next _ _
theorem encs_takeL {α : Type} {e : α → List A} {s : Nat} (hs : ∀ x, (e x).length = s) (l : List α) (k : Nat) : (encs e l).take (k * s) = encs e (l.take k) := by
  induction l generalizing k with
  | nil => simp [encs]
  | cons x l ih =>
    cases k with
    | zero => simp [encs]
    | succ k =>
      have := ih k
      simp only [encs, List.flatMap_cons, List.take_succ_cons] at *
      rw [Nat.add_mul, Nat.one_mul, Nat.add_comm, List.take_append, List.take_of_length_le (by rw [hs]; omega), hs, Nat.add_sub_cancel_left, this]
end
theorem encs_cut {α : Type} {e : α → List A} {s : Nat} (hs : ∀ x, (e x).length = s) (l : List α) (k : Nat) : ((encs e l).drop ((0 : Int).toNat * s)).take ((l.take k).length * s) = encs e (l.take k) := by
  rw [show (0 : Int).toNat * s = 0 by simp, List.drop_zero, encs_takeL hs, List.length_take]
  congr 1
  by_cases h : k ≤ l.length
  · rw [Nat.min_eq_left h]
  · rw [Nat.min_eq_right (by omega), List.take_of_length_le (by omega), List.take_of_length_le (by omega)]
theorem encs_rest {α : Type} {e : α → List A} {s : Nat} (hs : ∀ x, (e x).length = s) (l : List α) (k : Nat) {j : Int} (hj : j.toNat = k) : ((encs e l).drop (j.toNat * s)).take ((l.drop k).length * s) = encs e (l.drop k) := by
  rw [hj, encs_drop hs]
  exact List.take_of_length_le (by rw [encs_len hs]; exact Nat.le_refl _)
theorem drop_at {α : Type} {l : List α} {i : Nat} {x : α} (h : l[i]? = some x) : l.drop i = x :: l.drop (i + 1) := by
  obtain ⟨h2, rfl⟩ := List.getElem?_eq_some_iff.1 h
  exact List.drop_eq_getElem_cons h2
end Go.Proofs.Ytobpbelgihilpaa.Ab
/- Chapter 4: the reference's places and Deep: the walk. No condition. -/
set_option linter.unusedVariables false
set_option linter.unusedSimpArgs false
namespace Go.Proofs.Ytobpbelgihilpaa.Ab
attribute [local irreducible] thenA inBlockA ACode AOps put IntKind.wrap

/-- A pattern's cells, nil for no kids or not. -/
abbrev reS (x : RE) : List A := [.int .i64 x.op, .int .u64 (wordOf x.set 0 : Nat), .int .u64 (wordOf x.set 1 : Nat), .int .u64 (wordOf x.set 2 : Nat), .int .u64 (wordOf x.set 3 : Nat), .psl x.kids.length (encs reC x.kids)]
theorem vw_re (M : List Ob) (x : RE) : Vw M (.agg (reC x)) (.agg (reS x)) := by
  obtain ⟨o, S, k⟩ := x
  match k with
  | [] => rw [reC]; exact .agg (.cons (.refl _) (.cons (.refl _) (.cons (.refl _) (.cons (.refl _) (.cons (.refl _) (.cons .nils .nil))))))
  | x0 :: k0 => rw [reC_kids o S (by simp)]; exact .refl _
theorem reC_ne (x : RE) : reC x ≠ [] := by intro e; have := reC_len x; rw [e] at this; simp at this
theorem cntL_app : ∀ (a b : List RE), cntL (a ++ b) = cntL a + cntL b
  | [], b => by simp [cntL]
  | x :: a, b => by rw [List.cons_append, cntL, cntL, cntL_app a b]; omega
theorem cntL_take {k : List RE} {i : Nat} {y : RE} (h : k[i]? = some y) : cntL (k.take (i + 1)) = cntL (k.take i) + cntR y := by
  rw [List.take_add_one, h, cntL_app]
  simp [cntL]
theorem cntH_take {k : List RE} (h : 0 < k.length) : cntH k = cntL (k.take 1) := by
  match k, h with
  | x :: k, _ => simp [cntH, cntL]
set_option maxHeartbeats 8000000 in
theorem places_calls {h : Nat} {x : RE} (hh : REh h x) (hb : h ≤ 400000) : REok x → ∀ M : List Ob, ACalls Try.prog 13 [.agg (reS x)] M (fun r M' => (∃ n : Nat, r = .int .i64 n ∧ n ≤ 151 * h ∧ (n ≤ 150 → cntR x = n)) ∧ M' = M) := by
  induction hh with
  | @mk h o S k hk ih =>
  intro hok M
  obtain ⟨hl, hko⟩ : k.length ≤ 1000 ∧ ∀ y ∈ k, REok y := by cases hok with | mk a b => exact ⟨a, b⟩
  have hcn : cntR (.mk o S k) = if o = 1 then 1 else if o = 2 ∨ o = 3 then cntL k else if o = 4 ∨ o = 5 ∨ o = 6 then cntH k else 0 := by rw [cntR]
  have hx : reS (.mk o S k) = [.int .i64 o, .int .u64 (wordOf S 0 : Nat), .int .u64 (wordOf S 1 : Nat), .int .u64 (wordOf S 2 : Nat), .int .u64 (wordOf S 3 : Nat), .psl k.length (encs reC k)] := rfl
  rw [hx]
  refine acalls_of_code 45 Try.func13 rfl rfl rfl ?_
  repeat (first | refine acode_seq ?_ | refine acode_region ?_)
  refine aops_boxf rfl rfl rfl rfl rfl rfl rfl ?_
  by_cases h1 : o = 1
  · rw [if_pos h1] at hcn
    repeat' (first | refine aops_end ?_ | refine aops_pbt tok rfl (by first | omega | decide) rfl rfl rfl ?_ | refine aops_p tok rfl rfl rfl rfl ?_ | refine acode_it rfl ?_ | refine acode_seq ?_ | refine acode_region ?_)
    all_goals try (exfalso; omega)
    refine acode_ret ?_
    repeat (refine ret_then ?_)
    exact ⟨_, ⟨⟨1, rfl, by omega, fun _ => hcn⟩, rfl⟩, resOf_tmp rfl⟩
  rw [if_neg h1] at hcn
  by_cases h2 : o < 2 ∨ o > 6
  · rw [if_neg (by omega), if_neg (by omega)] at hcn
    repeat' (first | refine aops_end ?_ | refine aops_o rfl rfl rfl ?_ | refine aops_pbt tok rfl (by first | omega | decide) rfl rfl rfl ?_ | refine aops_pbf tok rfl (by first | omega | decide) rfl rfl rfl ?_ | (refine aops_pd tok rfl rfl rfl rfl ?_ ?_ <;> intro e_) | refine aops_p tok rfl rfl rfl rfl ?_ | refine acode_it rfl ?_ | refine acode_if rfl ?_ | refine acode_seq ?_ | refine acode_region ?_ | refine acode_skip ?_ | refine then_n ?_)
    all_goals try (exfalso; omega)
    all_goals
      refine acode_ret ?_
      repeat (refine ret_then ?_)
      exact ⟨_, ⟨⟨0, rfl, by omega, fun _ => hcn⟩, rfl⟩, resOf_tmp rfl⟩
  have hfull : ∀ i, i ≤ k.length → (3 < o → i ≤ 1) → (i = k.length ∨ (3 < o ∧ i = 1)) → cntR (.mk o S k) = cntL (k.take i) := by
    intro i hi h31 he
    rw [hcn]
    by_cases h3 : o = 2 ∨ o = 3
    · rw [if_pos h3]
      have : i = k.length := by omega
      rw [this, List.take_length]
    · rw [if_neg h3, if_pos (by omega)]
      by_cases h0 : i = 0
      · have : k.length = 0 := by omega
        rw [List.eq_nil_of_length_eq_zero this]; simp [cntH, cntL]
      · have h5 : i = 1 := by have := h31 (by omega); omega
        rw [cntH_take (by omega), h5]
  clear hcn
  generalize cntR (.mk o S k) = R at *
  repeat' (first | refine aops_end ?_ | refine aops_pbf tok rfl (by first | omega | decide) rfl rfl rfl ?_ | refine aops_p tok rfl rfl rfl rfl ?_ | refine acode_if rfl ?_ | refine acode_seq ?_ | refine acode_region ?_ | refine acode_block ?_ | refine acode_skip ?_ | refine then_n ?_)
  all_goals try (exfalso; omega)
  refine acode_loopS (ι := Nat × Nat) (fun q => [(1, .pp [.int .i64 o, .int .u64 (wordOf S 0 : Nat), .int .u64 (wordOf S 1 : Nat), .int .u64 (wordOf S 2 : Nat), .int .u64 (wordOf S 3 : Nat), .psl k.length (encs reC k)]), (3, .int .i64 q.2), (4, .int .i64 q.1)]) (fun _ => M) (fun q => k.length - q.1) (fun q => q.1 ≤ k.length ∧ (3 < o → q.1 ≤ 1) ∧ q.2 ≤ 150 + 151 * h ∧ (q.2 ≤ 150 → cntL (k.take q.1) = q.2)) (0, 0) ⟨Nat.zero_le _, fun _ => Nat.zero_le _, Nat.zero_le _, fun _ => rfl⟩ ⟨rfl, rfl, rfl, trivial⟩ rfl ?_
  rintro ⟨i, n⟩ ⟨hi, hi1, hn1, hn2⟩
  simp only at hi hi1 hn1 hn2 ⊢
  by_cases hgo : i < k.length ∧ (i = 0 ∨ o ≤ 3) ∧ n ≤ 150
  · obtain ⟨g1, g2, g3⟩ := hgo
    obtain ⟨y, hy⟩ : ∃ y, k[i]? = some y := ⟨_, List.getElem?_eq_getElem g1⟩
    have hym := List.mem_of_getElem? hy
    have hcall := fun M => acalls_arg (.cons (vw_re [] y) .nil) (ih y hym (by omega) (hko y hym) M)
    have hct := cntL_take hy
    rcases g2 with rfl | g2
    · repeat' (first | refine aops_end ?_ | refine aops_o rfl rfl rfl ?_ | refine aops_pbt tok rfl (by first | omega | decide) rfl rfl rfl ?_ | refine aops_p tok rfl rfl rfl rfl ?_ | refine acode_it rfl ?_ | refine acode_seq ?_ | refine acode_region ?_ | refine acode_block ?_ | refine acode_skip ?_ | refine then_n ?_)
      all_goals try (exfalso; omega)
      refine aops_ix tok (reC y) rfl rfl rfl rfl (by omega) (by omega) (reC_ne y) (kid_at hy) rfl rfl rfl ?_
      refine aops_ldagg tok rfl rfl rfl rfl (reC_len y) rfl rfl rfl ?_
      refine aops_call Try.func13 rfl rfl rfl rfl (hcall _) rfl rfl ?_
      rintro _ _ ⟨⟨m, rfl, m1, m2⟩, rfl⟩
      repeat (first | refine aops_put rfl ?_ | refine aops_end ?_ | refine aops_endb ?_ | refine aops_a tok rfl (by omega) (by omega) rfl rfl rfl ?_ | refine aops_p tok rfl rfl rfl rfl ?_ | refine acode_region ?_ | refine then_n ?_)
      exact ⟨(0 + 1, n + m), ⟨by simp only; omega, fun _ => by simp only; omega, by simp only; omega, fun e => by simp only at e ⊢; have := hn2 (by omega); have := m2 (by omega); omega⟩, by simp only; omega, ⟨rfl, rfl, rfl, trivial⟩, rfl⟩
    · repeat' (first | refine aops_end ?_ | refine aops_o rfl rfl rfl ?_ | refine aops_pbt tok rfl (by first | omega | decide) rfl rfl rfl ?_ | (refine aops_pd tok rfl rfl rfl rfl ?_ ?_ <;> intro e_) | refine aops_p tok rfl rfl rfl rfl ?_ | refine acode_it rfl ?_ | refine acode_seq ?_ | refine acode_region ?_ | refine acode_block ?_ | refine acode_skip ?_ | refine then_n ?_)
      all_goals try (exfalso; omega)
      all_goals
        refine aops_ix tok (reC y) rfl rfl rfl rfl (by omega) (by omega) (reC_ne y) (kid_at (by simpa using hy)) rfl rfl rfl ?_
        refine aops_ldagg tok rfl rfl rfl rfl (reC_len y) rfl rfl rfl ?_
        refine aops_call Try.func13 rfl rfl rfl rfl (hcall _) rfl rfl ?_
        rintro _ _ ⟨⟨m, rfl, m1, m2⟩, rfl⟩
        repeat (first | refine aops_put rfl ?_ | refine aops_end ?_ | refine aops_endb ?_ | refine aops_a tok rfl (by omega) (by omega) rfl rfl rfl ?_ | refine aops_p tok rfl rfl rfl rfl ?_ | refine acode_region ?_ | refine then_n ?_)
        exact ⟨(i + 1, n + m), ⟨by simp only; omega, fun e => by omega, by simp only; omega, fun e => by simp only at e ⊢; have := hn2 (by omega); have := m2 (by omega); omega⟩, by simp only; omega, ⟨rfl, rfl, rfl, trivial⟩, rfl⟩
  · have hR : n ≤ 150 → R = n := fun e => by
      rw [← hn2 e]
      exact hfull i hi hi1 (by omega)
    repeat' (first | refine aops_end ?_ | refine aops_o rfl rfl rfl ?_ | refine aops_pbf tok rfl (by first | omega | decide) rfl rfl rfl ?_ | (refine aops_pd tok rfl rfl rfl rfl ?_ ?_ <;> intro e_) | refine aops_p tok rfl rfl rfl rfl ?_ | refine acode_if rfl ?_ | refine acode_seq ?_ | refine acode_region ?_)
    all_goals try (exfalso; omega)
    all_goals
      refine acode_exit ?_
      repeat (first | refine exit_then ?_ | refine exit_here ?_ | refine then_n ?_)
      repeat (first | refine aops_end ?_ | refine aops_p tok rfl rfl rfl rfl ?_ | refine acode_seq ?_ | refine acode_region ?_)
      refine acode_ret ?_
      skip
      exact ⟨_, ⟨⟨n, rfl, by omega, hR⟩, rfl⟩, resOf_tmp rfl⟩
set_option maxHeartbeats 8000000 in
theorem deep_calls {h : Nat} {x : RE} (hh : REh h x) (hb : h ≤ 400000) : REok x → ∀ M : List Ob, ACalls Try.prog 14 [.agg (reS x)] M (fun r M' => (∃ n : Nat, r = .int .i64 n ∧ n ≤ h) ∧ M' = M) := by
  induction hh with
  | @mk h o S k hk ih =>
  intro hok M
  obtain ⟨hl, hko⟩ : k.length ≤ 1000 ∧ ∀ y ∈ k, REok y := by cases hok with | mk a b => exact ⟨a, b⟩
  have hx : reS (.mk o S k) = [.int .i64 o, .int .u64 (wordOf S 0 : Nat), .int .u64 (wordOf S 1 : Nat), .int .u64 (wordOf S 2 : Nat), .int .u64 (wordOf S 3 : Nat), .psl k.length (encs reC k)] := rfl
  rw [hx]
  refine acalls_of_code 44 Try.func14 rfl rfl rfl ?_
  repeat (first | refine acode_seq ?_ | refine acode_region ?_)
  refine aops_boxf rfl rfl rfl rfl rfl rfl rfl ?_
  repeat (first | refine aops_end ?_ | refine aops_p tok rfl rfl rfl rfl ?_ | refine acode_seq ?_ | refine acode_region ?_ | refine acode_block ?_)
  refine acode_loopS (ι := Nat × Nat) (fun q => [(1, .pp [.int .i64 o, .int .u64 (wordOf S 0 : Nat), .int .u64 (wordOf S 1 : Nat), .int .u64 (wordOf S 2 : Nat), .int .u64 (wordOf S 3 : Nat), .psl k.length (encs reC k)]), (3, .int .i64 q.2), (4, .int .i64 q.1)]) (fun _ => M) (fun q => k.length - q.1) (fun q => q.1 ≤ k.length ∧ q.2 ≤ h) (0, 0) ⟨Nat.zero_le _, Nat.zero_le _⟩ ⟨rfl, rfl, rfl, trivial⟩ rfl ?_
  rintro ⟨i, n⟩ ⟨hi, hn⟩
  simp only at hi hn ⊢
  by_cases hgo : i < k.length ∧ 2 ≤ o ∧ o ≤ 6 ∧ (i = 0 ∨ o ≤ 3)
  · obtain ⟨g1, g2, g3, g4⟩ := hgo
    obtain ⟨y, hy⟩ : ∃ y, k[i]? = some y := ⟨_, List.getElem?_eq_getElem g1⟩
    have hym := List.mem_of_getElem? hy
    have hcall := fun M => acalls_arg (.cons (vw_re [] y) .nil) (ih y hym (by omega) (hko y hym) M)
    by_cases h0 : i = 0
    · repeat' (first | refine aops_end ?_ | refine aops_o rfl rfl rfl ?_ | refine aops_pbt tok rfl (by first | omega | decide) rfl rfl rfl ?_ | refine aops_p tok rfl rfl rfl rfl ?_ | refine acode_it rfl ?_ | refine acode_seq ?_ | refine acode_region ?_ | refine acode_block ?_ | refine acode_skip ?_ | refine then_n ?_)
      all_goals try (exfalso; omega)
      refine aops_ix tok (reC y) rfl rfl rfl rfl (by omega) (by omega) (reC_ne y) (kid_at (by simpa using hy)) rfl rfl rfl ?_
      refine aops_ldagg tok rfl rfl rfl rfl (reC_len y) rfl rfl rfl ?_
      refine aops_call Try.func14 rfl rfl rfl rfl (hcall _) rfl rfl ?_
      rintro _ _ ⟨⟨m, rfl, m1⟩, rfl⟩
      repeat' (first | refine aops_put rfl ?_ | refine aops_end ?_ | refine aops_endb ?_ | refine aops_a tok rfl (by omega) (by omega) rfl rfl rfl ?_ | (refine aops_pd tok rfl rfl rfl rfl ?_ ?_ <;> intro e_) | refine aops_p tok rfl rfl rfl rfl ?_ | refine acode_it rfl ?_ | refine acode_if rfl ?_ | refine acode_seq ?_ | refine acode_region ?_ | refine acode_skip ?_ | refine then_n ?_ | refine block_n ?_)
      · exact ⟨(i + 1, m), ⟨by simp only; omega, by simp only; omega⟩, by simp only; omega, ⟨rfl, rfl, rfl, trivial⟩, rfl⟩
      · exact ⟨(i + 1, n), ⟨by simp only; omega, by simp only; omega⟩, by simp only; omega, ⟨rfl, rfl, rfl, trivial⟩, rfl⟩
    · repeat' (first | refine aops_end ?_ | refine aops_pbt tok rfl (by first | omega | decide) rfl rfl rfl ?_ | refine aops_pbf tok rfl (by first | omega | decide) rfl rfl rfl ?_ | refine aops_p tok rfl rfl rfl rfl ?_ | refine acode_it rfl ?_ | refine acode_seq ?_ | refine acode_region ?_ | refine acode_block ?_ | refine acode_skip ?_ | refine then_n ?_)
      all_goals try (exfalso; omega)
      refine aops_ix tok (reC y) rfl rfl rfl rfl (by omega) (by omega) (reC_ne y) (kid_at (by simpa using hy)) rfl rfl rfl ?_
      refine aops_ldagg tok rfl rfl rfl rfl (reC_len y) rfl rfl rfl ?_
      refine aops_call Try.func14 rfl rfl rfl rfl (hcall _) rfl rfl ?_
      rintro _ _ ⟨⟨m, rfl, m1⟩, rfl⟩
      repeat' (first | refine aops_put rfl ?_ | refine aops_end ?_ | refine aops_endb ?_ | refine aops_a tok rfl (by omega) (by omega) rfl rfl rfl ?_ | (refine aops_pd tok rfl rfl rfl rfl ?_ ?_ <;> intro e_) | refine aops_p tok rfl rfl rfl rfl ?_ | refine acode_it rfl ?_ | refine acode_if rfl ?_ | refine acode_seq ?_ | refine acode_region ?_ | refine acode_skip ?_ | refine then_n ?_ | refine block_n ?_)
      · exact ⟨(i + 1, m), ⟨by simp only; omega, by simp only; omega⟩, by simp only; omega, ⟨rfl, rfl, rfl, trivial⟩, rfl⟩
      · exact ⟨(i + 1, n), ⟨by simp only; omega, by simp only; omega⟩, by simp only; omega, ⟨rfl, rfl, rfl, trivial⟩, rfl⟩
  · repeat' (first | refine aops_end ?_ | refine aops_o rfl rfl rfl ?_ | refine aops_pbf tok rfl (by first | omega | decide) rfl rfl rfl ?_ | (refine aops_pd tok rfl rfl rfl rfl ?_ ?_ <;> intro e_) | refine aops_p tok rfl rfl rfl rfl ?_ | refine acode_if rfl ?_ | refine acode_seq ?_ | refine acode_region ?_)
    all_goals try (exfalso; omega)
    all_goals
      refine acode_exit ?_
      repeat (first | refine exit_then ?_ | refine exit_here ?_ | refine then_n ?_)
      repeat (first | refine aops_end ?_ | refine aops_a tok rfl (by omega) (by omega) rfl rfl rfl ?_ | refine aops_p tok rfl rfl rfl rfl ?_ | refine acode_seq ?_ | refine acode_region ?_)
      refine acode_ret ?_
      skip
      exact ⟨_, ⟨⟨n + 1, rfl, by omega⟩, rfl⟩, resOf_tmp rfl⟩
end Go.Proofs.Ytobpbelgihilpaa.Ab

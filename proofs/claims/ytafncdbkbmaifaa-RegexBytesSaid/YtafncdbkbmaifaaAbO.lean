/- Regions whose order is drawn, of which some operations make something of one's own. No condition. -/
import Derived.Test.YtafncdbkbmaifaaAbN
set_option linter.unusedVariables false
set_option linter.unusedSimpArgs false
namespace Go.Proofs.Ytafncdbkbmaifaa.Ab
section
variable {P : Program} {T : List TI} {N : Nat} {ops : Array Oper} {rest : List Oper} {o : Oper} {Q : Exit → St → Prop} {E F : Env} {M : List Ob}

/-- k waits for j, be it by others between. -/
def waitsT (ops : Array Oper) : Nat → Nat → Nat → Bool
  | 0, _, _ => false
  | f + 1, k, j => Region.waitsFor .any ops k j || (List.range k).any fun m => Region.waitsFor .any ops k m && waitsT ops f m j
/-- An operation that makes an object: what it yields hangs on the block. -/
def Makes (P : Program) (N : Nat) (ops : Array Oper) (o : Oper) (x : List Nat → A) (M2 : List Nat → List Ob) (F : Env) (M : List Ob) : Prop :=
  ∀ E, (∀ t ∈ o.looksAt ops, get E t = get F t) → ∀ (rest : List Oper) (Q : Exit → St → Prop), (∀ b, AOps P N ops rest Q ⟨put E o.dst (x b), M2 b⟩) → AOps P N ops (o :: rest) Q ⟨E, M⟩
/-- kp: objects that stay as they are, whatever the region does.  -/
inductive SeqO (P : Program) (N : Nat) (ops : Array Oper) (Q : Exit → St → Prop) (kp : List Ob) (al : List Nat) : Nat → Env → List Ob → Nat → List Oper → Prop where
  | done {i : Nat} {F : Env} {M : List Ob} {l : List Oper} (h : AOps P N ops l Q ⟨F, M⟩) : SeqO P N ops Q kp al i F M 0 l
  | cons {i : Nat} {F : Env} {M : List Ob} {n : Nat} {o : Oper} {l : List Oper} {x : A} (hi : al.contains i = false) (h : ∀ M', (M' = M ∨ (∀ o ∈ kp, o ∈ M') ∧ ∃ j ∈ al, i < j) → Yields P N ops o x F M') (t : SeqO P N ops Q kp al (i + 1) (put F o.dst x) M n l) : SeqO P N ops Q kp al i F M (n + 1) (o :: l)
  | make {i : Nat} {F : Env} {M : List Ob} {n : Nat} {o : Oper} {l : List Oper} {x : List Nat → A} {M2 : List Nat → List Ob} (hi : al.contains i = true) (h : Makes P N ops o x M2 F M) (hk : ∀ z, ∀ o ∈ kp, o ∈ M2 z) (t : ∀ b, SeqO P N ops Q kp al (i + 1) (put F o.dst (x b)) (M2 b) n l) : SeqO P N ops Q kp al i F M (n + 1) (o :: l)

theorem SeqO.ofT {kp : List Ob} {al : List Nat} {n : Nat} {l : List Oper} (h : SeqT P N ops Q M E n l) : ∀ i, (∀ j ∈ al, j < i) → SeqO P N ops Q kp al i E M n l := by
  induction h with
  | done h => exact fun i _ => .done h
  | cons h t ih =>
    intro i hi
    refine .cons ?_ (fun M' hp => ?_) (ih (i + 1) fun j hj => by have := hi j hj; omega)
    · cases hb : al.contains i with
      | false => rfl
      | true => have := hi i (by simpa using hb); omega
    · rcases hp with rfl | ⟨_, j, hj, hij⟩
      · exact h
      · have := hi j hj; omega

structure SplitO (P : Program) (N : Nat) (ops : Array Oper) (Q : Exit → St → Prop) (kp : List Ob) (al : List Nat) (i : Nat) (E : Env) (M : List Ob) (n : Nat) (l : List Oper) (vals : (Nat → List Nat) → Nat → A) (Fs : (Nat → List Nat) → Nat → Env) (Ms : (Nat → List Nat) → Nat → List Ob) : Prop where
  f0 : ∀ β, Fs β 0 = E
  m0 : ∀ β, Ms β 0 = M
  fb : ∀ β β' k, (∀ j, j < k → β j = β' j) → Fs β k = Fs β' k ∧ Ms β k = Ms β' k
  vb : ∀ β β' k, (∀ j, j ≤ k → β j = β' j) → vals β k = vals β' k
  step : ∀ k o, k < n → l[k]? = some o → ∀ β, Fs β (k + 1) = put (Fs β k) o.dst (vals β k) ∧
    ((al.contains (i + k) = false ∧ Ms β (k + 1) = Ms β k ∧ ∀ M', (M' = Ms β k ∨ (∀ o ∈ kp, o ∈ M') ∧ ∃ j ∈ al, i + k < j) → Yields P N ops o (vals β k) (Fs β k) M') ∨
     (al.contains (i + k) = true ∧ (∀ o ∈ kp, o ∈ Ms β (k + 1)) ∧ ∀ E, (∀ t ∈ o.looksAt ops, get E t = get (Fs β k) t) → ∀ (rest : List Oper) (Q : Exit → St → Prop), (∀ b, AOps P N ops rest Q ⟨put E o.dst (vals (fun j => if j = k then b else β j) k), Ms (fun j => if j = k then b else β j) (k + 1)⟩) → AOps P N ops (o :: rest) Q ⟨E, Ms β k⟩))
  last : ∀ β, AOps P N ops (l.drop n) Q ⟨Fs β n, Ms β n⟩

theorem SeqO.split {kp : List Ob} {al : List Nat} {i n : Nat} {l : List Oper} (h : SeqO P N ops Q kp al i E M n l) : ∃ vals Fs Ms, SplitO P N ops Q kp al i E M n l vals Fs Ms := by
  induction h with
  | @done i F M l h => exact ⟨fun _ _ => .any, fun _ _ => F, fun _ _ => M, fun _ => rfl, fun _ => rfl, fun _ _ _ _ => ⟨rfl, rfl⟩, fun _ _ _ _ => rfl, fun k o hk => by omega, fun _ => h⟩
  | @cons i F M n o l x hi h t ih =>
    obtain ⟨vals, Fs, Ms, s⟩ := ih
    refine ⟨fun β k => match k with | 0 => x | k + 1 => vals (fun j => β (j + 1)) k, fun β k => match k with | 0 => F | k + 1 => Fs (fun j => β (j + 1)) k, fun β k => match k with | 0 => M | k + 1 => Ms (fun j => β (j + 1)) k, fun _ => rfl, fun _ => rfl, fun β β' k hk => ?_, fun β β' k hk => ?_, fun k o' hk ho β => ?_, fun β => ?_⟩
    · cases k with
      | zero => exact ⟨rfl, rfl⟩
      | succ k => exact s.fb _ _ k fun j hj => hk (j + 1) (by omega)
    · cases k with
      | zero => rfl
      | succ k => exact s.vb _ _ k fun j hj => hk (j + 1) (by omega)
    · cases k with
      | zero =>
        simp at ho
        subst ho
        refine ⟨by simp only; rw [s.f0], .inl ⟨by simpa using hi, by simp only; rw [s.m0], fun M' hp => h M' (by simpa using hp)⟩⟩
      | succ k =>
        simp at ho
        obtain ⟨h1, h2⟩ := s.step k o' (by omega) ho fun j => β (j + 1)
        refine ⟨h1, ?_⟩
        rw [show i + (k + 1) = i + 1 + k from by omega]
        refine h2.imp id fun ⟨a1, a2, a3⟩ => ⟨a1, a2, fun E hE rest Q next => a3 E hE rest Q fun b => ?_⟩
        have := next b
        have e : (fun j => (fun j => if j = k + 1 then b else β j) (j + 1)) = fun j => if j = k then b else β (j + 1) := by funext j; simp
        simp only at this
        rw [← e]
        exact this
    · exact s.last _
  | @make i F M n o l x M2 hi h hkeep t ih =>
    obtain ⟨vals, ih⟩ := Classical.axiomOfChoice ih
    obtain ⟨Fs, ih⟩ := Classical.axiomOfChoice ih
    obtain ⟨Ms, s⟩ := Classical.axiomOfChoice ih
    refine ⟨fun β k => match k with | 0 => x (β 0) | k + 1 => vals (β 0) (fun j => β (j + 1)) k, fun β k => match k with | 0 => F | k + 1 => Fs (β 0) (fun j => β (j + 1)) k, fun β k => match k with | 0 => M | k + 1 => Ms (β 0) (fun j => β (j + 1)) k, fun _ => rfl, fun _ => rfl, fun β β' k hk => ?_, fun β β' k hk => ?_, fun k o' hk ho β => ?_, fun β => ?_⟩
    · cases k with
      | zero => exact ⟨rfl, rfl⟩
      | succ k => simp only; rw [hk 0 (by omega)]; exact (s _).fb _ _ k fun j hj => hk (j + 1) (by omega)
    · cases k with
      | zero => simp only; rw [hk 0 (by omega)]
      | succ k => simp only; rw [hk 0 (by omega)]; exact (s _).vb _ _ k fun j hj => hk (j + 1) (by omega)
    · cases k with
      | zero =>
        simp at ho
        subst ho
        refine ⟨by simp only; rw [(s _).f0], .inr ⟨by simpa using hi, by simp only; rw [(s _).m0]; exact hkeep _, fun E hE rest Q next => h E hE rest Q fun b => ?_⟩⟩
        have := next b
        simp only [if_true] at this
        rw [(s _).m0] at this
        exact this
      | succ k =>
        simp at ho
        obtain ⟨h1, h2⟩ := (s (β 0)).step k o' (by omega) ho fun j => β (j + 1)
        refine ⟨h1, ?_⟩
        rw [show i + (k + 1) = i + 1 + k from by omega]
        refine h2.imp id fun ⟨a1, a2, a3⟩ => ⟨a1, a2, fun E hE rest Q next => a3 E hE rest Q fun b => ?_⟩
        have := next b
        have e : (fun j => (fun j => if j = k + 1 then b else β j) (j + 1)) = fun j => if j = k then b else β (j + 1) := by funext j; simp
        simp only at this
        rw [← e]
        simpa using this
    · exact (s _).last _

theorem waitsT_listed {ops : Array Oper} {listed : Array Bool} (hcl : ∀ k j, listed.getD k false = true → Region.waitsFor .any ops k j = true → listed.getD j false = true) :
    ∀ (f k j : Nat), listed.getD k false = true → waitsT ops f k j = true → listed.getD j false = true
  | 0, _, _, _, h => by cases h
  | f + 1, k, j, hk, h => by
    simp only [waitsT, Bool.or_eq_true, List.any_eq_true, Bool.and_eq_true] at h
    rcases h with h | ⟨m, _, h1, h2⟩
    · exact hcl k j hk h
    · exact waitsT_listed hcl f m j (hcl k m hk h1) h2
/-- What one that is ready waits for is listed. -/
theorem waitsT_ready {ops : Array Oper} {listed : Array Bool} (hcl : ∀ k j, listed.getD k false = true → Region.waitsFor .any ops k j = true → listed.getD j false = true) {k : Nat} (hr : ∀ j, Region.waitsFor .any ops k j = true → listed.getD j false = true) :
    ∀ (f j : Nat), waitsT ops f k j = true → listed.getD j false = true
  | 0, _, h => by cases h
  | f + 1, j, h => by
    simp only [waitsT, Bool.or_eq_true, List.any_eq_true, Bool.and_eq_true] at h
    rcases h with h | ⟨m, _, h1, h2⟩
    · exact hr j h
    · exact waitsT_listed hcl f m j (hr m h1) h2

theorem envS_same {vals vals' : List A} {listed : Array Bool} {E : Env} : ∀ n, (∀ i, i < n → listed.getD i false = true → vals.getD i .any = vals'.getD i .any) → envS ops vals listed n E = envS ops vals' listed n E
  | 0, _ => rfl
  | n + 1, h => by
    simp only [envS]
    rw [envS_same n fun i hi => h i (by omega)]
    cases hb : listed.getD n false with
    | true => simp only [cond_true]; rw [h n (by omega) hb]
    | false => rfl
theorem getD_map_range (f : Nat → A) (n i : Nat) (h : i < n) : ((List.range n).map f).getD i .any = f i := by
  rw [List.getD_eq_getElem?_getD, List.getElem?_map, List.getElem?_range h]; rfl

/-! ### the rules of such a region: what only yields whatever else lies there, and what makes something -/
theorem seqO_y {kp : List Ob} {al : List Nat} {i : Nat} {l : List Oper} {n d : Nat} {x : A} (hi : al.contains i = false) (h : ∀ M', Yields P N ops o x F M') (hd : o.dst = some d) (next : SeqO P N ops Q kp al (i + 1) ((d, x) :: F) M n l) : SeqO P N ops Q kp al i F M (n + 1) (o :: l) := by
  refine SeqO.cons hi (fun M' _ => h M') ?_
  rw [hd]; exact next
theorem seqO_put {kp : List Ob} {al : List Nat} {i : Nat} {l : List Oper} {dst : Option Tmp} {d n : Nat} {x : A} (hd : dst = some d) (h : SeqO P N ops Q kp al i ((d, x) :: E) M n l) : SeqO P N ops Q kp al i (put E dst x) M n l := by
  rw [hd]; exact h
theorem seqO_p (hT : TOk P T) {kp : List Ob} {al : List Nat} {i : Nat} {l : List Oper} {n : Nat} {x : A} {d : Nat} (hi : al.contains i = false) (h : headed (aval T F o.op) = some x) (hg : guardOn ops o F = some true) (hd : o.dst = some d) (hN : Nat.blt d N = true)
    (next : SeqO P N ops Q kp al (i + 1) ((d, x) :: F) M n l) : SeqO P N ops Q kp al i F M (n + 1) (o :: l) :=
  seqO_y hi (fun M' => yields_pure hT (by rw [← headed_eq (aval T F o.op)]; exact h) hg (by rw [hd]; exact hN)) hd next
theorem seqO_a (hT : TOk P T) {kp : List Ob} {al : List Nat} {i : Nat} {l : List Oper} {n : Nat} {z : Int} {d : Nat} (hi : al.contains i = false) (h : headed (aval T F o.op) = some (.int .i64 (IntKind.i64.wrap z))) (h0 : -9223372036854775808 ≤ z) (h1 : z ≤ 9223372036854775807) (hg : guardOn ops o F = some true) (hd : o.dst = some d) (hN : Nat.blt d N = true)
    (next : SeqO P N ops Q kp al (i + 1) ((d, .int .i64 z) :: F) M n l) : SeqO P N ops Q kp al i F M (n + 1) (o :: l) :=
  seqO_y hi (fun M' => yields_arith hT (by rw [← headed_eq (aval T F o.op)]; exact h) h0 h1 hg (by rw [hd]; exact hN)) hd next
theorem seqO_o {kp : List Ob} {al : List Nat} {i : Nat} {l : List Oper} {n : Nat} {d : Nat} (hi : al.contains i = false) (hg : guardOn ops o F = some false) (hd : o.dst = some d) (hN : Nat.blt d N = true) (next : SeqO P N ops Q kp al (i + 1) ((d, .tup []) :: F) M n l) : SeqO P N ops Q kp al i F M (n + 1) (o :: l) :=
  seqO_y hi (fun M' => yields_off hg (by rw [hd]; exact hN)) hd next
theorem seqO_ix (hT : TOk P T) (pre : List A) {kp : List Ob} {al : List Nat} {q : Nat} {l : List Oper} {m : Nat} {t e d : Nat} {ei : TI} {x ix : Operand} {n : Nat} {cs : List A} {k : IntKind} {i : Int} (hi : al.contains q = false) (ho : o.op = .indexAddr t x ix) (hs : sliceOf T t = some (e, ei)) (hx : opA F x = .psl n cs) (hix : opA F ix = .int k i)
    (h0 : 0 ≤ i) (h1 : i < n) (hne : pre ≠ []) (hp : pre <+: cs.drop (i.toNat * ei.size)) (hg : guardOn ops o F = some true) (hd : o.dst = some d) (hN : Nat.blt d N = true)
    (next : SeqO P N ops Q kp al (q + 1) ((d, .pp pre) :: F) M m l) : SeqO P N ops Q kp al q F M (m + 1) (o :: l) :=
  seqO_y hi (fun M' => yields_index hT pre ho hs hx hix h0 h1 hne hp hg (by rw [hd]; exact hN)) hd next
theorem seqO_ixo (hT : TOk P T) {kp : List Ob} {al : List Nat} {q : Nat} {l : List Oper} {m : Nat} {t e d : Nat} {ei : TI} {x ix : Operand} {b n cap : Nat} {k : IntKind} {i : Int} (hi : al.contains q = false) (ho : o.op = .indexAddr t x ix) (hs : sliceOf T t = some (e, ei)) (hx : opA F x = .own (some b) n cap) (hix : opA F ix = .int k i)
    (h0 : 0 ≤ i) (h1 : i < n) (hg : guardOn ops o F = some true) (hd : o.dst = some d) (hN : Nat.blt d N = true)
    (next : SeqO P N ops Q kp al (q + 1) ((d, .ref b (i.toNat * ei.size)) :: F) M m l) : SeqO P N ops Q kp al q F M (m + 1) (o :: l) :=
  seqO_y hi (fun M' => yields_index_own hT ho hs hx hix h0 h1 hg (by rw [hd]; exact hN)) hd next
theorem seqT_ixo (hT : TOk P T) {l : List Oper} {m : Nat} {t e d : Nat} {ei : TI} {x ix : Operand} {b n cap : Nat} {k : IntKind} {i : Int} (ho : o.op = .indexAddr t x ix) (hs : sliceOf T t = some (e, ei)) (hx : opA F x = .own (some b) n cap) (hix : opA F ix = .int k i)
    (h0 : 0 ≤ i) (h1 : i < n) (hg : guardOn ops o F = some true) (hd : o.dst = some d) (hN : Nat.blt d N = true)
    (next : SeqT P N ops Q M ((d, .ref b (i.toNat * ei.size)) :: F) m l) : SeqT P N ops Q M F (m + 1) (o :: l) :=
  SeqT.cons (yields_index_own hT ho hs hx hix h0 h1 hg (by rw [hd]; exact hN)) (by rw [hd]; exact next)
/-- A load from one's own: it lies there whatever else does. -/
theorem seqO_ld (hT : TOk P T) (k : Nat) {kp : List Ob} {al : List Nat} {q : Nat} {l : List Oper} {n : Nat} {t d : Nat} {x : Operand} {b off : Nat} {i : TI} {y : A} {room : Nat} {cs : List A} (hi : al.contains q = false) (ho : o.op = .load t x) (hx : opA F x = .ref b off) (hk : known T t = some i)
    (hM : kp[k]? = some ⟨some b, room, cs⟩) (hkp : ∀ o ∈ kp, o ∈ M) (hy : headed (bif i.k.isAgg then (bif Nat.ble (off + i.size) cs.length then some (A.agg ((cs.drop off).take i.size)) else none) else cs[off]?) = some y)
    (hg : guardOn ops o F = some true) (hd : o.dst = some d) (hN : Nat.blt d N = true) (next : SeqO P N ops Q kp al (q + 1) ((d, y) :: F) M n l) : SeqO P N ops Q kp al q F M (n + 1) (o :: l) := by
  have hmem := List.mem_of_getElem? hM
  refine SeqO.cons (x := y) hi (fun M' hp => ?_) ?_
  · have hmem' : (⟨some b, room, cs⟩ : Ob) ∈ M' := by
      rcases hp with rfl | ⟨hp, _⟩
      · exact hkp _ hmem
      · exact hp _ hmem
    obtain ⟨k', hk', e⟩ := List.getElem_of_mem hmem'
    exact yields_load_own hT k' ho hx hk (by rw [List.getElem?_eq_getElem hk', e]) (by rw [← headed_eq (bif i.k.isAgg then _ else _)]; exact hy) hg (by rw [hd]; exact hN)
  rw [hd]; exact next
theorem seqO_call {kp : List Ob} {al : List Nat} {i : Nat} {l : List Oper} {n d : Nat} {g : Operand} {args : Array Operand} {tys : Array TypeId} {f : FuncId} {cap as : List A} {fn : Func} (x : A) (hi : al.contains i = false) (hf : P.funcs[f]? = some fn) (ho : o.op = .call { callee := .value g, args, argTypes := tys }) (hgv : opA F g = .fn f cap)
    (hfn : callable fn = true) (has : args.toList.map (opA F) ++ cap = as) (hc : ∀ M', ACalls P f as M' (fun r M'' => r = x ∧ M'' = M')) (hg : guardOn ops o F = some true) (hd : o.dst = some d) (hN : Nat.blt d N = true)
    (next : SeqO P N ops Q kp al (i + 1) ((d, x) :: F) M n l) : SeqO P N ops Q kp al i F M (n + 1) (o :: l) :=
  seqO_y hi (fun M' => yields_call x hf ho hgv hfn has (hc M') hg (by rw [hd]; exact hN)) hd next
/-- The same, with what lies there at that place of the row. -/
theorem seqO_T {kp : List Ob} {al : List Nat} {i n : Nat} {l : List Oper} (hi : al.all (fun j => Nat.blt j i) = true) (h : SeqT P N ops Q M E n l) : SeqO P N ops Q kp al i E M n l :=
  SeqO.ofT h i fun j hj => by simpa using List.all_eq_true.1 hi j hj
theorem seqO_mk (hT : TOk P T) {kp : List Ob} {al : List Nat} {i : Nat} {ll : List Oper} {m : Nat} {t e d : Nat} {ei : TI} {l c : Operand} {kl kc : IntKind} {x : Int} (n : Nat) (hi : al.contains i = true) (ho : o.op = .makeSlice t l c) (hs : sliceOf T t = some (e, ei)) (hl : opA F l = .int kl x) (hc : opA F c = .int kc x) (hx : x = n)
    (hz : Nat.beq ei.zero.length ei.size = true) (hb : n * ei.bytes ≤ 281474976710656) (hn : n ≤ 140737488355328) (hkp : ∀ o ∈ kp, o ∈ M) (hg : guardOn ops o F = some true) (hd : o.dst = some d) (hN : Nat.blt d N = true)
    (next : ∀ b, SeqO P N ops Q kp al (i + 1) ((d, .own (some b) n n) :: F) (⟨some b, n * ei.size, zerosA (ei.zero.map ofZ) n⟩ :: M) m ll) : SeqO P N ops Q kp al i F M (m + 1) (o :: ll) := by
  refine SeqO.make (x := fun z => .own (some (z.headD 0)) n n) (M2 := fun z => ⟨some (z.headD 0), n * ei.size, zerosA (ei.zero.map ofZ) n⟩ :: M) hi (fun E hE rest Q next => ?_) (fun z o ho => List.mem_cons_of_mem _ (hkp o ho)) fun b => ?_
  · exact aops_mk hT n ho hs ((agree_op hE (by rw [ho]; simp [Op.operands])).trans hl) ((agree_op hE (by rw [ho]; simp [Op.operands])).trans hc) hx hz hb hn ((agree_guard hE).trans hg) hd hN fun b => by have := next [b]; rwa [hd] at this
  · rw [hd]; exact next _
theorem seqO_boxo {kp : List Ob} {al : List Nat} {i : Nat} {ll : List Oper} {m : Nat} {e d : Nat} {x : Operand} {y : A} (hi : al.contains i = true) (ho : o.op = .box e x) (hx : headed (some (opA F x)) = some y) (hc : cellsOk y = true) (hkp : ∀ o ∈ kp, o ∈ M) (hg : guardOn ops o F = some true) (hd : o.dst = some d) (hN : Nat.blt d N = true)
    {cs : List A} (hcs : normL y.cs = some cs) (next : ∀ b, SeqO P N ops Q kp al (i + 1) ((d, .ref b 0) :: F) (⟨some b, cs.length, cs⟩ :: M) m ll) : SeqO P N ops Q kp al i F M (m + 1) (o :: ll) := by
  refine SeqO.make (x := fun z => .ref (z.headD 0) 0) (M2 := fun z => ⟨some (z.headD 0), cs.length, cs⟩ :: M) hi (fun E hE rest Q next => ?_) (fun z o ho => List.mem_cons_of_mem _ (hkp o ho)) fun b => ?_
  · refine aops_boxo ho ?_ hc ((agree_guard hE).trans hg) hd hN hcs fun b => by have := next [b]; rwa [hd] at this
    rw [agree_op hE (by rw [ho]; simp [Op.operands])]; exact hx
  · rw [hd]; exact next _
/-- A call that makes something. -/
theorem seqO_callm {kp : List Ob} {al : List Nat} {i : Nat} {ll : List Oper} {n d : Nat} {g : Operand} {args : Array Operand} {tys : Array TypeId} {f : FuncId} {cap as : List A} {fn : Func} (x : List Nat → A) (obs : List Nat → List Ob) (hi : al.contains i = true) (hf : P.funcs[f]? = some fn) (ho : o.op = .call { callee := .value g, args, argTypes := tys }) (hgv : opA F g = .fn f cap)
    (hfn : callable fn = true) (has : args.toList.map (opA F) ++ cap = as) (hc : ACalls P f as M (fun r M' => ∃ z, r = x z ∧ M' = obs z ++ M)) (hkp : ∀ o ∈ kp, o ∈ M) (hg : guardOn ops o F = some true) (hd : o.dst = some d) (hN : Nat.blt d N = true)
    (next : ∀ z, SeqO P N ops Q kp al (i + 1) ((d, x z) :: F) (obs z ++ M) n ll) : SeqO P N ops Q kp al i F M (n + 1) (o :: ll) := by
  refine SeqO.make (x := x) (M2 := fun z => obs z ++ M) hi (fun E hE rest Q next => ?_) (fun z o ho => List.mem_append_right _ (hkp o ho)) fun b => ?_
  · refine aops_call hf ho ((agree_op hE (by rw [ho]; simp [Op.operands, Call.operands])).trans hgv) hfn (by rw [map_congr_ops (E := E) (F := F) (fun y hy => agree_op hE (by rw [ho]; simp [Op.operands, Call.operands, hy]))]; exact has) hc ((agree_guard hE).trans hg) (by rw [hd]; exact hN) ?_
    rintro y M' ⟨z, rfl, rfl⟩
    exact next z
  · rw [hd]; exact next b
end
end Go.Proofs.Ytafncdbkbmaifaa.Ab

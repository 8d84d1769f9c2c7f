/- Regions whose order is drawn, of which some operations make something of one's own. No condition. -/
import Derived.Test.YtnlmfhnjjblhoaaAbN
set_option linter.unusedVariables false
set_option linter.unusedSimpArgs false
namespace Go.Proofs.Ytnlmfhnjjblhoaa.Ab
section
variable {P : Program} {T : List TI} {N : Nat} {ops : Array Oper} {rest : List Oper} {o : Oper} {Q : Exit → St → Prop} {E F : Env} {M : List Ob}

/-- k waits for j, be it by others between. -/
def waitsT (ops : Array Oper) : Nat → Nat → Nat → Bool
  | 0, _, _ => false
  | f + 1, k, j => Region.waitsFor .any ops k j || (List.range k).any fun m => Region.waitsFor .any ops k m && waitsT ops f m j
/-- The form of such a region: those at the places of 'al' make something; all behind each of them wait for it; those from n on wait for all ahead of n. -/
def drawO (ops : Array Oper) (al : List Nat) (n : Nat) : Bool :=
  Nat.ble n ops.size &&
  ((List.range n).all fun i => ((ops[i]?).map fun o => (o.after.all fun e => !Region.binds .any e || Nat.blt e.on i) && (o.looksAt ops).all fun t => (List.range n).all fun j => !((ops[j]?).bind (·.dst) == some t) || Region.waitsFor .any ops i j).getD false) &&
  ((List.range n).all fun i => (List.range n).all fun j => Nat.beq i j || (match (ops[i]?).bind (·.dst) with | some d => !((ops[j]?).bind (·.dst) == some d) | none => true)) &&
  ((List.range ops.size).all fun k => Nat.blt k n || (List.range n).all fun j => waitsT ops 6 k j) &&
  (al.all fun i => (List.range n).all fun j => Nat.ble j i || waitsT ops 6 j i)

/-- An operation that makes an object: what it yields hangs on the block. -/
def Makes (P : Program) (N : Nat) (ops : Array Oper) (o : Oper) (x : List Nat → A) (ob : List Nat → List Ob) (F : Env) (M : List Ob) : Prop :=
  ∀ E, (∀ t ∈ o.looksAt ops, get E t = get F t) → ∀ (rest : List Oper) (Q : Exit → St → Prop), (∀ b, AOps P N ops rest Q ⟨put E o.dst (x b), ob b ++ M⟩) → AOps P N ops (o :: rest) Q ⟨E, M⟩
inductive SeqO (P : Program) (N : Nat) (ops : Array Oper) (Q : Exit → St → Prop) (al : List Nat) : Nat → Env → List Ob → Nat → List Oper → Prop where
  | done {i : Nat} {F : Env} {M : List Ob} {l : List Oper} (h : AOps P N ops l Q ⟨F, M⟩) : SeqO P N ops Q al i F M 0 l
  | cons {i : Nat} {F : Env} {M : List Ob} {n : Nat} {o : Oper} {l : List Oper} {x : A} (hi : al.contains i = false) (h : ∀ pre, (pre = [] ∨ ∃ j ∈ al, i < j) → Yields P N ops o x F (pre ++ M)) (t : SeqO P N ops Q al (i + 1) (put F o.dst x) M n l) : SeqO P N ops Q al i F M (n + 1) (o :: l)
  | make {i : Nat} {F : Env} {M : List Ob} {n : Nat} {o : Oper} {l : List Oper} {x : List Nat → A} {ob : List Nat → List Ob} (hi : al.contains i = true) (h : Makes P N ops o x ob F M) (t : ∀ b, SeqO P N ops Q al (i + 1) (put F o.dst (x b)) (ob b ++ M) n l) : SeqO P N ops Q al i F M (n + 1) (o :: l)

theorem SeqO.ofT {al : List Nat} {n : Nat} {l : List Oper} (h : SeqT P N ops Q M E n l) : ∀ i, (∀ j ∈ al, j < i) → SeqO P N ops Q al i E M n l := by
  induction h with
  | done h => exact fun i _ => .done h
  | cons h t ih =>
    intro i hi
    refine .cons ?_ (fun pre hp => ?_) (ih (i + 1) fun j hj => by have := hi j hj; omega)
    · cases hb : al.contains i with
      | false => rfl
      | true => have := hi i (by simpa using hb); omega
    · rcases hp with rfl | ⟨j, hj, hij⟩
      · exact h
      · have := hi j hj; omega

structure SplitO (P : Program) (N : Nat) (ops : Array Oper) (Q : Exit → St → Prop) (al : List Nat) (i : Nat) (E : Env) (M : List Ob) (n : Nat) (l : List Oper) (vals : (Nat → List Nat) → Nat → A) (Fs : (Nat → List Nat) → Nat → Env) (Ms : (Nat → List Nat) → Nat → List Ob) : Prop where
  f0 : ∀ β, Fs β 0 = E
  m0 : ∀ β, Ms β 0 = M
  fb : ∀ β β' k, (∀ j, j < k → β j = β' j) → Fs β k = Fs β' k ∧ Ms β k = Ms β' k
  vb : ∀ β β' k, (∀ j, j ≤ k → β j = β' j) → vals β k = vals β' k
  step : ∀ k o, k < n → l[k]? = some o → ∀ β, Fs β (k + 1) = put (Fs β k) o.dst (vals β k) ∧
    ((al.contains (i + k) = false ∧ Ms β (k + 1) = Ms β k ∧ ∀ pre, (pre = [] ∨ ∃ j ∈ al, i + k < j) → Yields P N ops o (vals β k) (Fs β k) (pre ++ Ms β k)) ∨
     (al.contains (i + k) = true ∧ (∃ ob, Ms β (k + 1) = ob ++ Ms β k) ∧ ∀ E, (∀ t ∈ o.looksAt ops, get E t = get (Fs β k) t) → ∀ (rest : List Oper) (Q : Exit → St → Prop), (∀ b, AOps P N ops rest Q ⟨put E o.dst (vals (fun j => if j = k then b else β j) k), Ms (fun j => if j = k then b else β j) (k + 1)⟩) → AOps P N ops (o :: rest) Q ⟨E, Ms β k⟩))
  last : ∀ β, AOps P N ops (l.drop n) Q ⟨Fs β n, Ms β n⟩

theorem SeqO.split {al : List Nat} {i n : Nat} {l : List Oper} (h : SeqO P N ops Q al i E M n l) : ∃ vals Fs Ms, SplitO P N ops Q al i E M n l vals Fs Ms := by
  induction h with
  | @done i F M l h => exact ⟨fun _ _ => .any, fun _ _ => F, fun _ _ => M, fun _ => rfl, fun _ => rfl, fun _ _ _ _ => ⟨rfl, rfl⟩, fun _ _ _ _ => rfl, fun k o hk => by omega, fun _ => h⟩
  | @cons i F M n o l x hi h t ih =>
    obtain ⟨vals, Fs, Ms, s⟩ := ih
    refine ⟨fun β k => match k with | 0 => x | k + 1 => vals (fun j => β (j + 1)) k, fun β k => match k with | 0 => F | k + 1 => Fs (fun j => β (j + 1)) k, fun β k => match k with | 0 => M | k + 1 => Ms (fun j => β (j + 1)) k, fun _ => rfl, fun _ => rfl, fun β β' k hk => ?_, fun β β' k hk => ?_, fun k o' hk ho β => ?_, fun β => ?_⟩
    · cases k with
      | zero => exact ⟨rfl, rfl⟩
      | succ k => exact s.fb _ _ k fun j hj => hk (j + 1) (by omega)
    · cases k with
      | zero => rfl
      | succ k => exact s.vb _ _ k fun j hj => hk (j + 1) (by omega)
    · cases k with
      | zero =>
        simp at ho
        subst ho
        refine ⟨by simp only; rw [s.f0], .inl ⟨by simpa using hi, by simp only; rw [s.m0], fun pre hp => h pre hp⟩⟩
      | succ k =>
        simp at ho
        obtain ⟨h1, h2⟩ := s.step k o' (by omega) ho fun j => β (j + 1)
        refine ⟨h1, ?_⟩
        rw [show i + (k + 1) = i + 1 + k from by omega]
        refine h2.imp id fun ⟨a1, a2, a3⟩ => ⟨a1, a2, fun E hE rest Q next => a3 E hE rest Q fun b => ?_⟩
        have := next b
        have e : (fun j => (fun j => if j = k + 1 then b else β j) (j + 1)) = fun j => if j = k then b else β (j + 1) := by funext j; simp
        simp only at this
        rw [← e]
        exact this
    · exact s.last _
  | @make i F M n o l x ob hi h t ih =>
    obtain ⟨vals, ih⟩ := Classical.axiomOfChoice ih
    obtain ⟨Fs, ih⟩ := Classical.axiomOfChoice ih
    obtain ⟨Ms, s⟩ := Classical.axiomOfChoice ih
    refine ⟨fun β k => match k with | 0 => x (β 0) | k + 1 => vals (β 0) (fun j => β (j + 1)) k, fun β k => match k with | 0 => F | k + 1 => Fs (β 0) (fun j => β (j + 1)) k, fun β k => match k with | 0 => M | k + 1 => Ms (β 0) (fun j => β (j + 1)) k, fun _ => rfl, fun _ => rfl, fun β β' k hk => ?_, fun β β' k hk => ?_, fun k o' hk ho β => ?_, fun β => ?_⟩
    · cases k with
      | zero => exact ⟨rfl, rfl⟩
      | succ k => simp only; rw [hk 0 (by omega)]; exact (s _).fb _ _ k fun j hj => hk (j + 1) (by omega)
    · cases k with
      | zero => simp only; rw [hk 0 (by omega)]
      | succ k => simp only; rw [hk 0 (by omega)]; exact (s _).vb _ _ k fun j hj => hk (j + 1) (by omega)
    · cases k with
      | zero =>
        simp at ho
        subst ho
        refine ⟨by simp only; rw [(s _).f0], .inr ⟨by simpa using hi, ⟨_, by simp only; rw [(s _).m0]⟩, fun E hE rest Q next => h E hE rest Q fun b => ?_⟩⟩
        have := next b
        simp only [if_true] at this
        rw [(s _).m0] at this
        exact this
      | succ k =>
        simp at ho
        obtain ⟨h1, h2⟩ := (s (β 0)).step k o' (by omega) ho fun j => β (j + 1)
        refine ⟨h1, ?_⟩
        rw [show i + (k + 1) = i + 1 + k from by omega]
        refine h2.imp id fun ⟨a1, a2, a3⟩ => ⟨a1, a2, fun E hE rest Q next => a3 E hE rest Q fun b => ?_⟩
        have := next b
        have e : (fun j => (fun j => if j = k + 1 then b else β j) (j + 1)) = fun j => if j = k then b else β (j + 1) := by funext j; simp
        simp only at this
        rw [← e]
        simpa using this
    · exact (s _).last _

theorem waitsT_listed {ops : Array Oper} {listed : Array Bool} (hcl : ∀ k j, listed.getD k false = true → Region.waitsFor .any ops k j = true → listed.getD j false = true) :
    ∀ (f k j : Nat), listed.getD k false = true → waitsT ops f k j = true → listed.getD j false = true
  | 0, _, _, _, h => by cases h
  | f + 1, k, j, hk, h => by
    simp only [waitsT, Bool.or_eq_true, List.any_eq_true, Bool.and_eq_true] at h
    rcases h with h | ⟨m, _, h1, h2⟩
    · exact hcl k j hk h
    · exact waitsT_listed hcl f m j (hcl k m hk h1) h2
/-- What one that is ready waits for is listed. -/
theorem waitsT_ready {ops : Array Oper} {listed : Array Bool} (hcl : ∀ k j, listed.getD k false = true → Region.waitsFor .any ops k j = true → listed.getD j false = true) {k : Nat} (hr : ∀ j, Region.waitsFor .any ops k j = true → listed.getD j false = true) :
    ∀ (f j : Nat), waitsT ops f k j = true → listed.getD j false = true
  | 0, _, h => by cases h
  | f + 1, j, h => by
    simp only [waitsT, Bool.or_eq_true, List.any_eq_true, Bool.and_eq_true] at h
    rcases h with h | ⟨m, _, h1, h2⟩
    · exact hr j h
    · exact waitsT_listed hcl f m j (hr m h1) h2

theorem SplitO.get {al : List Nat} {n : Nat} {l : List Oper} {vals : (Nat → List Nat) → Nat → A} {Fs : (Nat → List Nat) → Nat → Env} {Ms : (Nat → List Nat) → Nat → List Ob} (s : SplitO P N l.toArray Q al 0 E M n l vals Fs Ms) (hn : n ≤ l.length) (β : Nat → List Nat) (t : Nat) (hdst : ∀ i j, i < n → j < n → dstAt l.toArray i = some t → dstAt l.toArray j = some t → i = j) :
    ∀ k, k ≤ n → (∀ j, j < k → dstAt l.toArray j = some t → get (Fs β k) t = vals β j) ∧ ((∀ j, j < k → dstAt l.toArray j ≠ some t) → get (Fs β k) t = get E t) := by
  intro k
  induction k with
  | zero => intro _; exact ⟨fun j hj => by omega, fun _ => by rw [s.f0]⟩
  | succ k ih =>
    intro hk
    obtain ⟨i1, i2⟩ := ih (by omega)
    obtain ⟨o, ho⟩ : ∃ o, l[k]? = some o := ⟨l[k]'(by omega), List.getElem?_eq_getElem (by omega)⟩
    have hd : dstAt l.toArray k = o.dst := by simp [dstAt, ho]
    rw [(s.step k o (by omega) ho β).1, get_put]
    refine ⟨fun j hj hdj => ?_, fun hno => ?_⟩
    · by_cases hjk : j = k
      · subst hjk; rw [if_pos (hd ▸ hdj)]
      · have : o.dst ≠ some t := fun e => hjk (hdst j k (by omega) (by omega) hdj (hd.trans e))
        rw [if_neg this]; exact i1 j (by omega) hdj
    · rw [if_neg (hd ▸ hno k (by omega))]
      exact i2 fun j hj => hno j (by omega)

/-- Objects only come on. -/
theorem SplitO.grow {al : List Nat} {n : Nat} {l : List Oper} {vals : (Nat → List Nat) → Nat → A} {Fs : (Nat → List Nat) → Nat → Env} {Ms : (Nat → List Nat) → Nat → List Ob} (s : SplitO P N l.toArray Q al 0 E M n l vals Fs Ms) (hn : n ≤ l.length) (β : Nat → List Nat) (i : Nat) : ∀ d, i + d ≤ n → (∃ pre, Ms β (i + d) = pre ++ Ms β i) ∧ ((∀ k, i ≤ k → k < i + d → al.contains k = false) → Ms β (i + d) = Ms β i)
  | 0, _ => ⟨⟨[], rfl⟩, fun _ => rfl⟩
  | d + 1, h => by
    obtain ⟨⟨pre, e⟩, h2⟩ := SplitO.grow s hn β i d (by omega)
    obtain ⟨o, ho⟩ : ∃ o, l[i + d]? = some o := ⟨l[i + d]'(by omega), List.getElem?_eq_getElem (by omega)⟩
    rcases (s.step (i + d) o (by omega) ho β).2 with ⟨a1, a2, _⟩ | ⟨a1, ⟨ob, a2⟩, _⟩
    · rw [show i + (d + 1) = i + d + 1 from rfl, a2]
      exact ⟨⟨pre, e⟩, fun hk => h2 fun k h0 h1 => hk k h0 (by omega)⟩
    · rw [show i + (d + 1) = i + d + 1 from rfl, a2]
      refine ⟨⟨ob ++ pre, by rw [e, List.append_assoc]⟩, fun hk => ?_⟩
      have := hk (i + d) (by omega) (by omega)
      rw [Nat.zero_add] at a1
      rw [a1] at this; cases this

theorem envS_same {vals vals' : List A} {listed : Array Bool} {E : Env} : ∀ n, (∀ i, i < n → listed.getD i false = true → vals.getD i .any = vals'.getD i .any) → envS ops vals listed n E = envS ops vals' listed n E
  | 0, _ => rfl
  | n + 1, h => by
    simp only [envS]
    rw [envS_same n fun i hi => h i (by omega)]
    cases hb : listed.getD n false with
    | true => simp only [cond_true]; rw [h n (by omega) hb]
    | false => rfl
theorem getD_map_range (f : Nat → A) (n i : Nat) (h : i < n) : ((List.range n).map f).getD i .any = f i := by
  rw [List.getD_eq_getElem?_getD, List.getElem?_map, List.getElem?_range h]; rfl

theorem acode_drawO {id : Nat} {l : List Oper} (n : Nat) (al : List Nat) (hm : P.follows .mixedOrders = true) (hB : drawO l.toArray al n = true)
    (hseq : Region.seqB .any l.toArray (l.drop n).length n (((List.range l.length).map fun i => Nat.blt i n).toArray) = true)
    (h : SeqO P N l.toArray Q al 0 E M n l) : ACode P N (.region id l.toArray true) Q ⟨E, M⟩ := by
  obtain ⟨vals, Fs, Ms, s⟩ := h.split
  intro K G a w hi
  refine wp_region_any hm ?_
  have hi' : Inv K N G ⟨E, M⟩ a w.drew := ⟨hi.ok.drew, hi.sz, hi.df, hi.ev⟩
  change wpAny P .any l.toArray (lift K N Q) l.toArray.size (Array.replicate l.toArray.size false) a w.drew
  simp only [drawO, Bool.and_eq_true] at hB
  obtain ⟨⟨⟨⟨hn, hlook⟩, hdst⟩, htail⟩, hal⟩ := hB
  have hn : n ≤ l.length := by simpa using Nat.le_of_ble_eq_true hn
  have hdst' : ∀ t i j, i < n → j < n → dstAt l.toArray i = some t → dstAt l.toArray j = some t → i = j := by
    intro t i j h1 h2 e1 e2
    have := List.all_eq_true.1 (List.all_eq_true.1 hdst i (List.mem_range.2 h1)) j (List.mem_range.2 h2)
    unfold dstAt at e1 e2
    rw [e1] at this
    simp only [Bool.or_eq_true] at this
    rcases this with h | h
    · exact Nat.eq_of_beq_eq_true h
    · rw [e2] at h; simp at h
  have hal' : ∀ i j, al.contains i = true → i < j → j < n → waitsT l.toArray 6 j i = true := by
    intro i j hc hij hj
    have h1 := List.all_eq_true.1 (List.all_eq_true.1 hal i (by simpa using hc)) j (List.mem_range.2 hj)
    simp only [Bool.or_eq_true] at h1
    rcases h1 with h1 | h1
    · have := Nat.le_of_ble_eq_true h1; omega
    · exact h1
  let V : (Nat → List Nat) → List A := fun β => (List.range n).map (vals β)
  have hV : ∀ β i, i < n → (V β).getD i .any = vals β i := fun β i hi => getD_map_range _ _ _ hi
  -- the stage of values
  have body : ∀ (c : Nat) (listed : Array Bool), todo listed n = c → listed.size = l.length → (∀ k, n ≤ k → listed.getD k false = false) →
      (∀ k j, listed.getD k false = true → Region.waitsFor .any l.toArray k j = true → listed.getD j false = true) →
      ∀ (β : Nat → List Nat) (top : Nat), top ≤ n → (∀ k, k < top → al.contains k = true → listed.getD k false = true) → (∀ k, top ≤ k → al.contains k = true → listed.getD k false = false) →
      ∀ G a w, Inv K N G ⟨envS l.toArray (V β) listed n E, Ms β top⟩ a w →
      wpAny P .any l.toArray (lift K N Q) (c + (l.length - n)) listed a w := by
    intro c
    induction c with
    | zero =>
      intro listed hc hsz hno hcl β top htn ht1 ht2 G a w hi
      have hall : ∀ i, i < n → listed.getD i false = true := by
        intro i hin
        have : i ∉ (List.range n).filter fun i => !listed.getD i false := by
          have h0 := List.eq_nil_of_length_eq_zero hc
          rw [h0]; simp
        simp [hin] at this
        cases hb : listed.getD i false with
        | true => rfl
        | false => rw [Array.getD_eq_getD_getElem?] at hb; simp [hb] at this
      have he : listed = ((List.range l.length).map fun i => Nat.blt i n).toArray := by
        apply Array.ext (by simp [hsz])
        intro i h1 h2
        have e1 : listed.getD i false = listed[i] := by simp [h1]
        by_cases hin : i < n
        · have := hall i hin
          rw [e1] at this
          rw [this]; simp [hin]
        · have := hno i (by omega)
          rw [e1] at this
          rw [this]
          have : Nat.blt i n = false := by cases hb : Nat.blt i n with | false => rfl | true => exact absurd (by simpa using hb) hin
          simp [this]
      have hM : Ms β n = Ms β top := by
        obtain ⟨d, rfl⟩ : ∃ d, n = top + d := ⟨n - top, by omega⟩
        refine (s.grow hn β top d (Nat.le_refl _)).2 fun k h0 h1 => ?_
        cases hb : al.contains k with
        | false => rfl
        | true => have := ht2 k h0 hb; rw [hall k h1] at this; cases this
      have hi2 : Inv K N G ⟨Fs β n, Ms β n⟩ a w := by
        rw [hM]
        refine inv_E hi (fun t v hr => ?_)
        have hg : get (envS l.toArray (V β) listed n E) t = get (Fs β n) t := by
          obtain ⟨p1, p2⟩ := envS_get (ops := l.toArray) (V β) listed E t n (fun i j => hdst' t i j)
          obtain ⟨q1, q2⟩ := s.get hn β t (fun i j => hdst' t i j) n (Nat.le_refl _)
          by_cases hex : ∃ i, i < n ∧ dstAt l.toArray i = some t
          · obtain ⟨i, h1, h2⟩ := hex
            rw [p1 i h1 h2 (hall i h1), q1 i h1 h2, hV β i h1]
          · rw [p2 (fun i h1 h2 => absurd ⟨i, h1, h2⟩ hex), q2 (fun i h1 h2 => absurd ⟨i, h1, h2⟩ hex)]
        rw [← hg]; exact hr
      have := wpAny_of_seq (P := P) (Q' := lift K N Q) (l.drop n) n listed a w (fun j => by simp) (by rw [he]; exact hseq) (s.last β K G a w hi2)
      rw [Nat.zero_add, show l.length - n = (l.drop n).length from by simp]
      exact this
    | succ c ih =>
      intro listed hc hsz hno hcl β top htn ht1 ht2 G a w hi
      rw [Nat.succ_add]
      obtain ⟨i0, hi0, hmin⟩ : ∃ i, (i < n ∧ listed.getD i false = false) ∧ ∀ j, j < i → ¬ (j < n ∧ listed.getD j false = false) := by
        have hne : ((List.range n).filter fun i => !listed.getD i false) ≠ [] := by
          intro h; unfold todo at hc; rw [h] at hc; simp at hc
        obtain ⟨i, hmem⟩ := List.exists_mem_of_ne_nil _ hne
        simp only [List.mem_filter, List.mem_range, Bool.not_eq_true'] at hmem
        have : ∀ m i, i ≤ m → (i < n ∧ listed.getD i false = false) → ∃ i, (i < n ∧ listed.getD i false = false) ∧ ∀ j, j < i → ¬ (j < n ∧ listed.getD j false = false) := by
          intro m
          induction m with
          | zero => intro i him hp; exact ⟨i, hp, fun j hj => by omega⟩
          | succ m ihm =>
            intro i him hp
            by_cases hj : ∃ j, j < i ∧ (j < n ∧ listed.getD j false = false)
            · obtain ⟨j, h1, h2⟩ := hj
              exact ihm j (by omega) h2
            · exact ⟨i, hp, fun j hj' hp' => hj ⟨j, hj', hp'⟩⟩
        exact this i i (Nat.le_refl _) hmem
      have hready0 : i0 ∈ Region.ready .any l.toArray listed := by
        have hoi : ∃ o, l[i0]? = some o := ⟨l[i0]'(by omega), List.getElem?_eq_getElem (by omega)⟩
        obtain ⟨oi, hoi⟩ := hoi
        refine mem_ready.2 ⟨getD_in (by omega) hi0.2, oi, by simpa using hoi, fun e he hb => ?_⟩
        have h1 := List.all_eq_true.1 hlook i0 (List.mem_range.2 hi0.1)
        have h2 : (l.toArray[i0]?) = some oi := by simpa using hoi
        rw [h2] at h1
        simp only [Option.map_some, Option.getD_some, Bool.and_eq_true] at h1
        have h3 := Array.all_eq_true'.1 h1.1 e he
        simp only [Bool.or_eq_true, Bool.not_eq_true'] at h3
        rcases h3 with h3 | h3
        · rw [hb] at h3; cases h3
        · have hlt : e.on < i0 := by simpa using h3
          have := hmin e.on hlt
          cases hx : listed.getD e.on false with
          | true => rfl
          | false => exact absurd ⟨by omega, hx⟩ this
      refine ⟨fun h => (by rw [h] at hready0; cases hready0), fun i hir => ?_⟩
      obtain ⟨hun, oi, hoi, hall⟩ := mem_ready.1 hir
      have hoi' : l[i]? = some oi := by simpa using hoi
      have hil : i < l.length := (List.getElem?_eq_some_iff.1 hoi').1
      have hun' := getD_both hun
      have hrd : ∀ j, Region.waitsFor .any l.toArray i j = true → listed.getD j false = true := by
        intro j hw
        obtain ⟨oj, hoj, e, he, hbind, hon⟩ := Region.waitsFor_spec hw
        have : oj = oi := Option.some.inj (hoj.symm.trans hoi)
        subst this
        have h3 := hall e he hbind
        rwa [hon] at h3
      have hrdT := fun f j h => waitsT_ready hcl hrd f j h
      have hin : i < n := by
        apply Classical.byContradiction
        intro hge
        have h1 := List.all_eq_true.1 htail i (List.mem_range.2 (by simpa using hil))
        have hb : Nat.blt i n = false := by cases hb : Nat.blt i n with | false => rfl | true => exact absurd (by simpa using hb) hge
        rw [hb, Bool.false_or] at h1
        have h2 := List.all_eq_true.1 h1 i0 (List.mem_range.2 hi0.1)
        have := hrdT _ _ h2
        rw [hi0.2] at this
        cases this
      have hlk := List.all_eq_true.1 hlook i (List.mem_range.2 hin)
      rw [hoi] at hlk
      simp only [Option.map_some, Option.getD_some, Bool.and_eq_true] at hlk
      have hE : ∀ t ∈ oi.looksAt l.toArray, get (envS l.toArray (V β) listed n E) t = get (Fs β i) t := by
        intro t ht
        have h2 := List.all_eq_true.1 hlk.2 t ht
        obtain ⟨p1, p2⟩ := envS_get (ops := l.toArray) (V β) listed E t n (fun i j => hdst' t i j)
        obtain ⟨q1, q2⟩ := s.get hn β t (fun i j => hdst' t i j) i (by omega)
        by_cases hex : ∃ j, j < n ∧ dstAt l.toArray j = some t
        · obtain ⟨j, hj, hdj⟩ := hex
          have h3 := List.all_eq_true.1 h2 j (List.mem_range.2 hj)
          have hdj' := hdj
          unfold dstAt at hdj'
          rw [hdj'] at h3
          simp only [beq_self_eq_true, Bool.not_true, Bool.false_or] at h3
          have hlj := hrd j h3
          obtain ⟨oj, hoj, e, he, hbind, hon⟩ := Region.waitsFor_spec h3
          have : oj = oi := Option.some.inj (hoj.symm.trans hoi)
          subst this
          have h4 := Array.all_eq_true'.1 hlk.1 e he
          rw [hbind] at h4
          simp only [Bool.not_true, Bool.false_or] at h4
          have hji : j < i := by rw [← hon]; simpa using h4
          rw [p1 j hj hdj hlj, q1 j hji hdj, hV β j hj]
        · rw [p2 (fun j h1 h2 => absurd ⟨j, h1, h2⟩ hex), q2 (fun j h1 h2 => absurd ⟨j, by omega, h2⟩ hex)]
      have hdi : dstAt l.toArray i = oi.dst := by simp [dstAt, hoi']
      -- no maker between the top and this one
      have hbetw : ∀ k, top ≤ k → k < i → al.contains k = false := by
        intro k h0 h1
        cases hb : al.contains k with
        | false => rfl
        | true =>
          have h2 := hrdT _ _ (hal' k i hb h1 hin)
          rw [ht2 k h0 hb] at h2
          cases h2
      have hcl' : ∀ k j, (listed.setIfInBounds i true).getD k false = true → Region.waitsFor .any l.toArray k j = true → (listed.setIfInBounds i true).getD j false = true := by
        intro k j hk hw
        rw [getD_set' _ _ _ (by omega)] at hk ⊢
        split
        · rfl
        · by_cases hik : i = k
          · subst hik; exact hrd j hw
          · rw [if_neg hik] at hk; exact hcl k j hk hw
      have hno' : ∀ k, n ≤ k → (listed.setIfInBounds i true).getD k false = false := fun k hk => by rw [getD_set' _ _ _ (by omega), if_neg (by omega)]; exact hno k hk
      have htodo' : todo (listed.setIfInBounds i true) n = c := by have := todo_set listed n i hin (by omega) hun'; omega
      -- the temporaries when this one is done
      have henv : ∀ (W : List A) (t : Nat), (∀ j, j < n → listed.getD j false = true → W.getD j .any = (V β).getD j .any) → get (envS l.toArray W (listed.setIfInBounds i true) n E) t = get (put (envS l.toArray (V β) listed n E) oi.dst (W.getD i .any)) t := by
        intro W t hW
        rw [get_put']
        obtain ⟨p1, p2⟩ := envS_get (ops := l.toArray) (V β) listed E t n (fun i j => hdst' t i j)
        obtain ⟨q1, q2⟩ := envS_get (ops := l.toArray) W (listed.setIfInBounds i true) E t n (fun i j => hdst' t i j)
        by_cases hdt : oi.dst = some t
        · rw [if_pos hdt]
          exact q1 i hin (hdi.trans hdt) (by rw [getD_set' _ _ _ (by omega), if_pos rfl])
        · rw [if_neg hdt]
          by_cases hex : ∃ j, j < n ∧ dstAt l.toArray j = some t
          · obtain ⟨j, hj, hdj⟩ := hex
            have hji : i ≠ j := by rintro rfl; exact hdt (hdi.symm.trans hdj)
            cases hlj : listed.getD j false with
            | true => rw [p1 j hj hdj hlj, q1 j hj hdj (by rw [getD_set' _ _ _ (by omega), if_neg hji]; exact hlj), hW j hj hlj]
            | false =>
              have uniq : ∀ k, k < n → dstAt l.toArray k = some t → k = j := fun k hk hdk => hdst' t k j hk hj hdk hdj
              rw [p2 (fun k hk hdk => by rw [uniq k hk hdk]; exact hlj), q2 (fun k hk hdk => by rw [uniq k hk hdk, getD_set' _ _ _ (by omega), if_neg hji]; exact hlj)]
          · rw [p2 (fun j h1 h2 => absurd ⟨j, h1, h2⟩ hex), q2 (fun j h1 h2 => absurd ⟨j, h1, h2⟩ hex)]
      unfold wpOp
      rw [hoi]
      rcases (s.step i oi hin hoi' β).2 with ⟨a1, a2, hy⟩ | ⟨a1, ⟨ob, a2⟩, hy⟩
      · rw [Nat.zero_add] at a1
        obtain ⟨pre, hpre, hpe⟩ : ∃ pre, Ms β top = pre ++ Ms β i ∧ (pre = [] ∨ ∃ j ∈ al, 0 + i < j) := by
          by_cases hti : top ≤ i
          · obtain ⟨d, rfl⟩ : ∃ d, i = top + d := ⟨i - top, by omega⟩
            exact ⟨[], by rw [(s.grow hn β top d (by omega)).2 hbetw]; rfl, .inl rfl⟩
          · obtain ⟨d, rfl⟩ : ∃ d, top = i + d := ⟨top - i, by omega⟩
            obtain ⟨⟨pre, e⟩, h2⟩ := s.grow hn β i d htn
            by_cases hsome : ∃ k, i ≤ k ∧ k < i + d ∧ al.contains k = true
            · obtain ⟨k, k1, k2, k3⟩ := hsome
              refine ⟨pre, e, .inr ⟨k, by simpa using k3, ?_⟩⟩
              have : k ≠ i := by rintro rfl; rw [a1] at k3; cases k3
              omega
            · have hM2 := h2 fun k k1 k2 => by
                cases hb : al.contains k with
                | false => rfl
                | true => exact absurd ⟨k, k1, k2, hb⟩ hsome
              exact ⟨[], hM2, .inl rfl⟩
        have hstep := fun Kn hKn => ((hy pre hpe).wp (K := K) hE (hpre ▸ hi) (Kn := Kn) (Q' := lift K N Q) hKn)
        have fin : ∀ G' a' w', Inv K N G' ⟨put (envS l.toArray (V β) listed n E) oi.dst (vals β i), pre ++ Ms β i⟩ a' w' → wpAny P .any l.toArray (lift K N Q) (c + (l.length - n)) (listed.setIfInBounds i true) a' w' := by
          intro G' a' w' hi'
          refine ih (listed.setIfInBounds i true) htodo' (by simp [hsz]) hno' hcl' β top htn (fun k hk hc => ?_) (fun k hk hc => ?_) G' a' w' ?_
          · rw [getD_set' _ _ _ (by omega)]; split; rfl; exact ht1 k hk hc
          · have : i ≠ k := by rintro rfl; rw [a1] at hc; cases hc
            rw [getD_set' _ _ _ (by omega), if_neg this]; exact ht2 k hk hc
          · rw [← hpre] at hi'
            refine inv_E hi' (fun t v hr => ?_)
            rw [henv (V β) t fun _ _ _ => rfl, hV β i hin]; exact hr
        have := hstep _ fin
        split at this
        · rename_i hw; simp only [hw, if_true]; exact .inl this
        · rename_i hw; simp only [hw]; exact this
      · rw [Nat.zero_add] at a1
        have hti : top ≤ i := by
          apply Classical.byContradiction
          intro h
          have := ht1 i (by omega) a1
          rw [hun'] at this; cases this
        have hMi : Ms β top = Ms β i := by
          obtain ⟨d, rfl⟩ : ∃ d, i = top + d := ⟨i - top, by omega⟩
          exact ((s.grow hn β top d (by omega)).2 hbetw).symm
        rw [hMi] at hi
        have hgoal : ∀ b G' a' w', Inv K N G' ⟨put (envS l.toArray (V β) listed n E) oi.dst (vals (fun j => if j = i then b else β j) i), Ms (fun j => if j = i then b else β j) (i + 1)⟩ a' w' → wpAny P .any l.toArray (lift K N Q) (c + (l.length - n)) (listed.setIfInBounds i true) a' w' := by
          intro b G' a' w' hi'
          refine ih (listed.setIfInBounds i true) htodo' (by simp [hsz]) hno' hcl' (fun j => if j = i then b else β j) (i + 1) (by omega) (fun k hk hc => ?_) (fun k hk hc => ?_) G' a' w' ?_
          · rw [getD_set' _ _ _ (by omega)]
            by_cases hik : i = k
            · rw [if_pos hik]
            · rw [if_neg hik]
              by_cases hkt : k < top
              · exact ht1 k hkt hc
              · rw [hbetw k (by omega) (by omega)] at hc; cases hc
          · rw [getD_set' _ _ _ (by omega), if_neg (by omega)]; exact ht2 k (by omega) hc
          · refine inv_E hi' (fun t v hr => ?_)
            rw [henv (V fun j => if j = i then b else β j) t fun j hj hlj => ?_, hV _ i hin]
            · exact hr
            · rw [hV _ j hj, hV _ j hj]
              refine s.vb _ _ j fun m hm => ?_
              by_cases hmi : m = i
              · subst hmi
                exfalso
                by_cases hjm : j = m
                · subst hjm; rw [hun'] at hlj; cases hlj
                · have h2 := waitsT_listed hcl 6 j m hlj (hal' m j a1 (by omega) hj)
                  rw [hun'] at h2; cases h2
              · simp only [if_neg hmi]
        -- as Yields.wp, for any block
        have h1 := hy _ hE [] (fun e st => e = .normal ∧ ∃ b, st = ⟨put (envS l.toArray (V β) listed n E) oi.dst (vals (fun j => if j = i then b else β j) i), Ms (fun j => if j = i then b else β j) (i + 1)⟩) (fun b => aops_nil ⟨rfl, b, rfl⟩) K G a w hi
        have hnil : ∀ a' w', wpList P l.toArray (lift K N fun e st => e = .normal ∧ ∃ b, st = ⟨put (envS l.toArray (V β) listed n E) oi.dst (vals (fun j => if j = i then b else β j) i), Ms (fun j => if j = i then b else β j) (i + 1)⟩) [] a' w' → wpAny P .any l.toArray (lift K N Q) (c + (l.length - n)) (listed.setIfInBounds i true) a' w' := by
          rintro a' w' ⟨G', st, ⟨_, b, rfl⟩, hi'⟩
          exact hgoal b G' a' w' hi'
        simp only [wpList] at h1
        split at h1
        · rename_i hw
          simp only [hw, if_true]
          rcases h1 with h1 | ⟨_, a0, w0, G', st, ⟨he, _⟩, _⟩
          · refine .inl ?_
            unfold Oper.wp at h1 ⊢
            generalize (execOp a.eval oi).run P w = r at h1 ⊢
            cases r with
            | ok n w' =>
              cases n <;> simp only [Oper.upon] at h1 ⊢ <;> first
                | exact hnil _ _ h1
                | exact h1
                | (refine Calls.mono h1 (fun e w'' he => ?_)
                   cases e with
                   | returned v => exact hnil _ _ he
                   | panicked ch => obtain ⟨G', s, ⟨he, _⟩, _⟩ := he; cases he
                   | outgrown => obtain ⟨a0, w0, G', s, ⟨he, _⟩, _⟩ := he; cases he)
                | exact Rows.mono h1 (fun _ _ he => hnil _ _ he)
            | halt e w' =>
              cases e <;> simp only [Oper.upon] at h1 ⊢
              obtain ⟨G', st, ⟨he, _⟩, _⟩ := h1
              cases he
          · cases he
        · rename_i hw
          simp only [hw]
          exact hnil _ _ h1
  have hinit : Inv K N G ⟨envS l.toArray (V fun _ => []) (Array.replicate l.length false) n E, Ms (fun _ => []) 0⟩ a w.drew := by
    rw [s.m0]
    refine inv_E hi' (fun t v hr => ?_)
    obtain ⟨_, p2⟩ := envS_get (ops := l.toArray) (V fun _ => []) (Array.replicate l.length false) E t n (fun i j => hdst' t i j)
    rw [p2 (fun i _ _ => getD_replicate_false _ _)]
    exact hr
  have htodo : todo (Array.replicate l.length false) n = n := by
    simp only [todo]
    rw [List.filter_eq_self.2 (fun i _ => by rw [getD_replicate_false]; rfl)]
    simp
  have := body n (Array.replicate l.length false) htodo (by simp) (fun k _ => getD_replicate_false _ _) (fun k j hk => by rw [getD_replicate_false] at hk; cases hk) (fun _ => []) 0 (Nat.zero_le _) (fun k hk => by omega) (fun k _ _ => getD_replicate_false _ _) G a w.drew hinit
  simpa [show n + (l.length - n) = l.length from by omega] using this

/-! ### the rules of such a region: what only yields whatever else lies there, and what makes something -/
theorem seqO_y {al : List Nat} {i : Nat} {l : List Oper} {n d : Nat} {x : A} (hi : al.contains i = false) (h : ∀ M', Yields P N ops o x F M') (hd : o.dst = some d) (next : SeqO P N ops Q al (i + 1) ((d, x) :: F) M n l) : SeqO P N ops Q al i F M (n + 1) (o :: l) := by
  refine SeqO.cons hi (fun pre _ => h _) ?_
  rw [hd]; exact next
theorem seqO_put {al : List Nat} {i : Nat} {l : List Oper} {dst : Option Tmp} {d n : Nat} {x : A} (hd : dst = some d) (h : SeqO P N ops Q al i ((d, x) :: E) M n l) : SeqO P N ops Q al i (put E dst x) M n l := by
  rw [hd]; exact h
theorem seqO_p (hT : TOk P T) {al : List Nat} {i : Nat} {l : List Oper} {n : Nat} {x : A} {d : Nat} (hi : al.contains i = false) (h : headed (aval T F o.op) = some x) (hg : guardOn ops o F = some true) (hd : o.dst = some d) (hN : Nat.blt d N = true)
    (next : SeqO P N ops Q al (i + 1) ((d, x) :: F) M n l) : SeqO P N ops Q al i F M (n + 1) (o :: l) :=
  seqO_y hi (fun M' => yields_pure hT (by rw [← headed_eq (aval T F o.op)]; exact h) hg (by rw [hd]; exact hN)) hd next
theorem seqO_a (hT : TOk P T) {al : List Nat} {i : Nat} {l : List Oper} {n : Nat} {z : Int} {d : Nat} (hi : al.contains i = false) (h : headed (aval T F o.op) = some (.int .i64 (IntKind.i64.wrap z))) (h0 : -9223372036854775808 ≤ z) (h1 : z ≤ 9223372036854775807) (hg : guardOn ops o F = some true) (hd : o.dst = some d) (hN : Nat.blt d N = true)
    (next : SeqO P N ops Q al (i + 1) ((d, .int .i64 z) :: F) M n l) : SeqO P N ops Q al i F M (n + 1) (o :: l) :=
  seqO_y hi (fun M' => yields_arith hT (by rw [← headed_eq (aval T F o.op)]; exact h) h0 h1 hg (by rw [hd]; exact hN)) hd next
theorem seqO_o {al : List Nat} {i : Nat} {l : List Oper} {n : Nat} {d : Nat} (hi : al.contains i = false) (hg : guardOn ops o F = some false) (hd : o.dst = some d) (hN : Nat.blt d N = true) (next : SeqO P N ops Q al (i + 1) ((d, .tup []) :: F) M n l) : SeqO P N ops Q al i F M (n + 1) (o :: l) :=
  seqO_y hi (fun M' => yields_off hg (by rw [hd]; exact hN)) hd next
theorem seqO_ix (hT : TOk P T) (pre : List A) {al : List Nat} {q : Nat} {l : List Oper} {m : Nat} {t e d : Nat} {ei : TI} {x ix : Operand} {n : Nat} {cs : List A} {k : IntKind} {i : Int} (hi : al.contains q = false) (ho : o.op = .indexAddr t x ix) (hs : sliceOf T t = some (e, ei)) (hx : opA F x = .psl n cs) (hix : opA F ix = .int k i)
    (h0 : 0 ≤ i) (h1 : i < n) (hne : pre ≠ []) (hp : pre <+: cs.drop (i.toNat * ei.size)) (hg : guardOn ops o F = some true) (hd : o.dst = some d) (hN : Nat.blt d N = true)
    (next : SeqO P N ops Q al (q + 1) ((d, .pp pre) :: F) M m l) : SeqO P N ops Q al q F M (m + 1) (o :: l) :=
  seqO_y hi (fun M' => yields_index hT pre ho hs hx hix h0 h1 hne hp hg (by rw [hd]; exact hN)) hd next
theorem seqO_ixo (hT : TOk P T) {al : List Nat} {q : Nat} {l : List Oper} {m : Nat} {t e d : Nat} {ei : TI} {x ix : Operand} {b n cap : Nat} {k : IntKind} {i : Int} (hi : al.contains q = false) (ho : o.op = .indexAddr t x ix) (hs : sliceOf T t = some (e, ei)) (hx : opA F x = .own (some b) n cap) (hix : opA F ix = .int k i)
    (h0 : 0 ≤ i) (h1 : i < n) (hg : guardOn ops o F = some true) (hd : o.dst = some d) (hN : Nat.blt d N = true)
    (next : SeqO P N ops Q al (q + 1) ((d, .ref b (i.toNat * ei.size)) :: F) M m l) : SeqO P N ops Q al q F M (m + 1) (o :: l) :=
  seqO_y hi (fun M' => yields_index_own hT ho hs hx hix h0 h1 hg (by rw [hd]; exact hN)) hd next
theorem seqT_ixo (hT : TOk P T) {l : List Oper} {m : Nat} {t e d : Nat} {ei : TI} {x ix : Operand} {b n cap : Nat} {k : IntKind} {i : Int} (ho : o.op = .indexAddr t x ix) (hs : sliceOf T t = some (e, ei)) (hx : opA F x = .own (some b) n cap) (hix : opA F ix = .int k i)
    (h0 : 0 ≤ i) (h1 : i < n) (hg : guardOn ops o F = some true) (hd : o.dst = some d) (hN : Nat.blt d N = true)
    (next : SeqT P N ops Q M ((d, .ref b (i.toNat * ei.size)) :: F) m l) : SeqT P N ops Q M F (m + 1) (o :: l) :=
  SeqT.cons (yields_index_own hT ho hs hx hix h0 h1 hg (by rw [hd]; exact hN)) (by rw [hd]; exact next)
theorem get_mem_pre {pre : List Ob} {k : Nat} {x : Ob} (h : M[k]? = some x) : (pre ++ M)[pre.length + k]? = some x := by
  rw [List.getElem?_append_right (by omega)]; simpa using h
/-- A load from one's own: it lies there whatever else does. -/
theorem seqO_ld (hT : TOk P T) (k : Nat) {al : List Nat} {q : Nat} {l : List Oper} {n : Nat} {t d : Nat} {x : Operand} {b off : Nat} {i : TI} {y : A} {room : Nat} {cs : List A} (hi : al.contains q = false) (ho : o.op = .load t x) (hx : opA F x = .ref b off) (hk : known T t = some i)
    (hM : M[k]? = some ⟨some b, room, cs⟩) (hy : headed (bif i.k.isAgg then (bif Nat.ble (off + i.size) cs.length then some (A.agg ((cs.drop off).take i.size)) else none) else cs[off]?) = some y)
    (hg : guardOn ops o F = some true) (hd : o.dst = some d) (hN : Nat.blt d N = true) (next : SeqO P N ops Q al (q + 1) ((d, y) :: F) M n l) : SeqO P N ops Q al q F M (n + 1) (o :: l) := by
  refine SeqO.cons hi (fun pre _ => yields_load_own hT (pre.length + k) ho hx hk (get_mem_pre hM) (by rw [← headed_eq (bif i.k.isAgg then _ else _)]; exact hy) hg (by rw [hd]; exact hN)) ?_
  rw [hd]; exact next
theorem seqO_call {al : List Nat} {i : Nat} {l : List Oper} {n d : Nat} {g : Operand} {args : Array Operand} {tys : Array TypeId} {f : FuncId} {cap as : List A} {fn : Func} (x : A) (hi : al.contains i = false) (hf : P.funcs[f]? = some fn) (ho : o.op = .call { callee := .value g, args, argTypes := tys }) (hgv : opA F g = .fn f cap)
    (hfn : callable fn = true) (has : args.toList.map (opA F) ++ cap = as) (hc : ∀ M', ACalls P f as M' (fun r M'' => r = x ∧ M'' = M')) (hg : guardOn ops o F = some true) (hd : o.dst = some d) (hN : Nat.blt d N = true)
    (next : SeqO P N ops Q al (i + 1) ((d, x) :: F) M n l) : SeqO P N ops Q al i F M (n + 1) (o :: l) :=
  seqO_y hi (fun M' => yields_call x hf ho hgv hfn has (hc M') hg (by rw [hd]; exact hN)) hd next
/-- The same, with what lies there at that place of the row. -/
theorem seqO_T {al : List Nat} {i n : Nat} {l : List Oper} (hi : al.all (fun j => Nat.blt j i) = true) (h : SeqT P N ops Q M E n l) : SeqO P N ops Q al i E M n l :=
  SeqO.ofT h i fun j hj => by simpa using List.all_eq_true.1 hi j hj
theorem seqO_mk (hT : TOk P T) {al : List Nat} {i : Nat} {ll : List Oper} {m : Nat} {t e d : Nat} {ei : TI} {l c : Operand} {kl kc : IntKind} {x : Int} (n : Nat) (hi : al.contains i = true) (ho : o.op = .makeSlice t l c) (hs : sliceOf T t = some (e, ei)) (hl : opA F l = .int kl x) (hc : opA F c = .int kc x) (hx : x = n)
    (hz : Nat.beq ei.zero.length ei.size = true) (hb : n * ei.bytes ≤ 281474976710656) (hn : n ≤ 140737488355328) (hg : guardOn ops o F = some true) (hd : o.dst = some d) (hN : Nat.blt d N = true)
    (next : ∀ b, SeqO P N ops Q al (i + 1) ((d, .own (some b) n n) :: F) (⟨some b, n * ei.size, zerosA (ei.zero.map ofZ) n⟩ :: M) m ll) : SeqO P N ops Q al i F M (m + 1) (o :: ll) := by
  refine SeqO.make (x := fun z => .own (some (z.headD 0)) n n) (ob := fun z => [⟨some (z.headD 0), n * ei.size, zerosA (ei.zero.map ofZ) n⟩]) hi (fun E hE rest Q next => ?_) fun b => ?_
  · exact aops_mk hT n ho hs ((agree_op hE (by rw [ho]; simp [Op.operands])).trans hl) ((agree_op hE (by rw [ho]; simp [Op.operands])).trans hc) hx hz hb hn ((agree_guard hE).trans hg) hd hN fun b => by have := next [b]; rwa [hd] at this
  · rw [hd]; exact next _
theorem seqO_boxo {al : List Nat} {i : Nat} {ll : List Oper} {m : Nat} {e d : Nat} {x : Operand} {y : A} (hi : al.contains i = true) (ho : o.op = .box e x) (hx : headed (some (opA F x)) = some y) (hc : cellsOk y = true) (hg : guardOn ops o F = some true) (hd : o.dst = some d) (hN : Nat.blt d N = true)
    {cs : List A} (hcs : normL y.cs = some cs) (next : ∀ b, SeqO P N ops Q al (i + 1) ((d, .ref b 0) :: F) (⟨some b, cs.length, cs⟩ :: M) m ll) : SeqO P N ops Q al i F M (m + 1) (o :: ll) := by
  refine SeqO.make (x := fun z => .ref (z.headD 0) 0) (ob := fun z => [⟨some (z.headD 0), cs.length, cs⟩]) hi (fun E hE rest Q next => ?_) fun b => ?_
  · refine aops_boxo ho ?_ hc ((agree_guard hE).trans hg) hd hN hcs fun b => by have := next [b]; rwa [hd] at this
    rw [agree_op hE (by rw [ho]; simp [Op.operands])]; exact hx
  · rw [hd]; exact next _
/-- A call that makes something. -/
theorem seqO_callm {al : List Nat} {i : Nat} {ll : List Oper} {n d : Nat} {g : Operand} {args : Array Operand} {tys : Array TypeId} {f : FuncId} {cap as : List A} {fn : Func} (x : List Nat → A) (obs : List Nat → List Ob) (hi : al.contains i = true) (hf : P.funcs[f]? = some fn) (ho : o.op = .call { callee := .value g, args, argTypes := tys }) (hgv : opA F g = .fn f cap)
    (hfn : callable fn = true) (has : args.toList.map (opA F) ++ cap = as) (hc : ACalls P f as M (fun r M' => ∃ z, r = x z ∧ M' = obs z ++ M)) (hg : guardOn ops o F = some true) (hd : o.dst = some d) (hN : Nat.blt d N = true)
    (next : ∀ z, SeqO P N ops Q al (i + 1) ((d, x z) :: F) (obs z ++ M) n ll) : SeqO P N ops Q al i F M (n + 1) (o :: ll) := by
  refine SeqO.make (x := x) (ob := obs) hi (fun E hE rest Q next => ?_) fun b => ?_
  · refine aops_call hf ho ((agree_op hE (by rw [ho]; simp [Op.operands, Call.operands])).trans hgv) hfn (by rw [map_congr_ops (E := E) (F := F) (fun y hy => agree_op hE (by rw [ho]; simp [Op.operands, Call.operands, hy]))]; exact has) hc ((agree_guard hE).trans hg) (by rw [hd]; exact hN) ?_
    rintro y M' ⟨z, rfl, rfl⟩
    exact next z
  · rw [hd]; exact next b
end
end Go.Proofs.Ytnlmfhnjjblhoaa.Ab

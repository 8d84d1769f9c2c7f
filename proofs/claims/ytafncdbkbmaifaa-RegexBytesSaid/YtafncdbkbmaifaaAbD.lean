/- A region whose order is drawn: whatever the order, what it comes to is what the text's order says, if all but the last operations only yield values. No condition. -/
import Derived.Test.YtafncdbkbmaifaaAb7
import Derived.StillTail
set_option linter.unusedVariables false
set_option linter.unusedSimpArgs false
namespace Go.Proofs.Ytafncdbkbmaifaa.Ab
section
variable {P : Program} {T : List TI} {N : Nat} {ops : Array Oper} {rest : List Oper} {o : Oper} {Q : Exit → St → Prop} {E : Env} {M : List Ob}

/-- An operation that only yields a value, told at whatever temporaries hold what it looks at. -/
def Yields (P : Program) (N : Nat) (ops : Array Oper) (o : Oper) (x : A) (F : Env) (M : List Ob) : Prop :=
  ∀ E, (∀ t ∈ o.looksAt ops, get E t = get F t) → ∀ (rest : List Oper) (Q : Exit → St → Prop), AOps P N ops rest Q ⟨put E o.dst x, M⟩ → AOps P N ops (o :: rest) Q ⟨E, M⟩

theorem Yields.wp {x : A} {F : Env} (h : Yields P N ops o x F M) {E : Env} (hE : ∀ t ∈ o.looksAt ops, get E t = get F t) {K : Ctx} {G : Gh} {a : Act} {w : World} (hi : Inv K N G ⟨E, M⟩ a w) {Kn : Act → World → Prop} {Q' : Exit → Act → World → Prop}
    (hK : ∀ G' a' w', Inv K N G' ⟨put E o.dst x, M⟩ a' w' → Kn a' w') : if Region.wanted o (yielded ops a.tmps) then o.wp P a w Kn Q' else Kn (a.put o.dst undef) w := by
  have h1 := h E hE [] (fun e s => e = .normal ∧ s = ⟨put E o.dst x, M⟩) (aops_nil ⟨rfl, rfl⟩) K G a w hi
  have hnil : ∀ a' w', wpList P ops (lift K N fun e s => e = .normal ∧ s = ⟨put E o.dst x, M⟩) [] a' w' → Kn a' w' := by
    rintro a' w' ⟨G', s, ⟨_, rfl⟩, hi'⟩
    exact hK G' a' w' hi'
  simp only [wpList] at h1
  split at h1
  · rename_i hw
    rw [if_pos hw]
    rcases h1 with h1 | ⟨_, a0, w0, G', s, ⟨he, _⟩, _⟩
    · unfold Oper.wp at h1 ⊢
      generalize (execOp a.eval o).run P w = r at h1 ⊢
      cases r with
      | ok n w' =>
        cases n <;> simp only [Oper.upon] at h1 ⊢ <;> first
          | exact hnil _ _ h1
          | exact h1
          | (refine Calls.mono h1 (fun e w'' he => ?_)
             cases e with
             | returned v => exact hnil _ _ he
             | panicked ch => obtain ⟨G', s, ⟨he, _⟩, _⟩ := he; cases he
             | outgrown => obtain ⟨a0, w0, G', s, ⟨he, _⟩, _⟩ := he; cases he)
          | exact Rows.mono h1 (fun _ _ he => hnil _ _ he)
      | halt e w' =>
        cases e <;> simp only [Oper.upon] at h1 ⊢
        obtain ⟨G', s, ⟨he, _⟩, _⟩ := h1
        cases he
    · cases he
  · rename_i hw
    rw [if_neg hw]
    exact hnil _ _ h1

/-- The form that drawn regions have: all operations ahead of n only yield values; those from n on come last, one behind the other. -/
def drawB (ops : Array Oper) (n : Nat) : Bool :=
  Nat.ble n ops.size &&
  ((List.range n).all fun i => ((ops[i]?).map fun o => (o.after.all fun e => !Region.binds .any e || Nat.blt e.on i) && (o.looksAt ops).all fun t => (List.range n).all fun j => !((ops[j]?).bind (·.dst) == some t) || Region.waitsFor .any ops i j).getD false) &&
  ((List.range n).all fun i => (List.range n).all fun j => Nat.beq i j || (match (ops[i]?).bind (·.dst) with | some d => !((ops[j]?).bind (·.dst) == some d) | none => true)) &&
  ((List.range ops.size).all fun k => Nat.blt k n || (List.range k).all fun j => Region.waitsFor .any ops k j)

def dstAt (ops : Array Oper) (i : Nat) : Option Tmp := (ops[i]?).bind (·.dst)
/-- The temporaries when those in 'listed' are done. -/
def envS (ops : Array Oper) (vals : List A) (listed : Array Bool) : Nat → Env → Env
  | 0, E => E
  | n + 1, E => let F := envS ops vals listed n E
    bif listed.getD n false then put F (dstAt ops n) (vals.getD n .any) else F

theorem get_put' (E : Env) (d : Option Tmp) (x : A) (t : Nat) : get (put E d x) t = if d = some t then x else get E t := get_put t

theorem envS_get (vals : List A) (listed : Array Bool) (E : Env) (t : Nat) : ∀ n, (∀ i j, i < n → j < n → dstAt ops i = some t → dstAt ops j = some t → i = j) →
    (∀ i, i < n → dstAt ops i = some t → listed.getD i false = true → get (envS ops vals listed n E) t = vals.getD i .any) ∧ ((∀ i, i < n → dstAt ops i = some t → listed.getD i false = false) → get (envS ops vals listed n E) t = get E t)
  | 0, _ => ⟨fun i hi => by omega, fun _ => rfl⟩
  | n + 1, hd => by
    obtain ⟨h1, h2⟩ := envS_get vals listed E t n (fun i j hi hj => hd i j (by omega) (by omega))
    refine ⟨fun i hi hdi hl => ?_, fun hno => ?_⟩
    · simp only [envS]
      by_cases hin : i = n
      · subst hin
        rw [hl, cond_true, get_put', if_pos hdi]
      · have hne : dstAt ops n ≠ some t := fun e => hin (hd i n hi (by omega) hdi e)
        cases hb : listed.getD n false with
        | true => rw [cond_true, get_put', if_neg hne]; exact h1 i (by omega) hdi hl
        | false => rw [cond_false]; exact h1 i (by omega) hdi hl
    · simp only [envS]
      cases hb : listed.getD n false with
      | true =>
        have hne : dstAt ops n ≠ some t := fun e => by have := hno n (by omega) e; rw [this] at hb; cases hb
        rw [cond_true, get_put', if_neg hne]
        exact h2 (fun i hi => hno i (by omega))
      | false => rw [cond_false]; exact h2 (fun i hi => hno i (by omega))

theorem getD_set' (l : Array Bool) (i j : Nat) (hi : i < l.size) : (l.setIfInBounds i true).getD j false = if i = j then true else l.getD j false := by
  simp only [Array.getD_eq_getD_getElem?]
  by_cases h : i = j
  · subst h; simp [Array.getElem?_setIfInBounds_self_of_lt hi]
  · simp [Array.getElem?_setIfInBounds_ne h, h]

def todo (listed : Array Bool) (n : Nat) : Nat := ((List.range n).filter fun i => !listed.getD i false).length
theorem todo_set (listed : Array Bool) (n i : Nat) (hi : i < n) (hs : i < listed.size) (hl : listed.getD i false = false) : todo listed n = todo (listed.setIfInBounds i true) n + 1 := by
  have key : ∀ n, (i < n → todo listed n = todo (listed.setIfInBounds i true) n + 1) ∧ (n ≤ i → todo listed n = todo (listed.setIfInBounds i true) n) := by
    intro n
    induction n with
    | zero => exact ⟨fun h => by omega, fun _ => rfl⟩
    | succ n ih =>
      have e : ∀ l : Array Bool, todo l (n + 1) = todo l n + (bif l.getD n false then 0 else 1) := by
        intro l
        simp only [todo, List.range_succ, List.filter_append, List.length_append]
        congr 1
        cases hb : l.getD n false <;> (rw [Array.getD_eq_getD_getElem?] at hb; simp [hb])
      rw [e, e]
      refine ⟨fun h => ?_, fun h => ?_⟩
      · by_cases hn : i = n
        · subst hn
          rw [hl, getD_set' _ _ _ hs, if_pos rfl, ih.2 (Nat.le_refl _)]
          simp
        · rw [getD_set' _ _ _ hs, if_neg hn, ih.1 (by omega)]
          omega
      · rw [getD_set' _ _ _ hs, if_neg (by omega), ih.2 (by omega)]
  exact (key n).1 hi

theorem acode_draw {id : Nat} {l : List Oper} (n : Nat) (vals : List A) (F : Env) (hm : P.follows .mixedOrders = true) (hB : drawB l.toArray n = true)
    (hseq : Region.seqB .any l.toArray (l.drop n).length n (((List.range l.length).map fun i => Nat.blt i n).toArray) = true)
    (hF : envS l.toArray vals (Array.replicate l.length true) n E = F)
    (hbody : ∀ i o, i < n → l[i]? = some o → Yields P N l.toArray o (vals.getD i .any) F M)
    (tail : AOps P N l.toArray (l.drop n) Q ⟨F, M⟩) : ACode P N (.region id l.toArray true) Q ⟨E, M⟩ := by
  intro K G a w hi
  refine wp_region_any hm ?_
  have hi' : Inv K N G ⟨E, M⟩ a w.drew := ⟨hi.ok.drew, hi.sz, hi.df, hi.ev⟩
  change wpAny P .any l.toArray (lift K N Q) l.toArray.size (Array.replicate l.toArray.size false) a w.drew
  simp only [drawB, Bool.and_eq_true] at hB
  obtain ⟨⟨⟨hn, hlook⟩, hdst⟩, htail⟩ := hB
  have hn : n ≤ l.length := by simpa using Nat.le_of_ble_eq_true hn
  have hdst' : ∀ t i j, i < n → j < n → dstAt l.toArray i = some t → dstAt l.toArray j = some t → i = j := by
    intro t i j h1 h2 e1 e2
    have := List.all_eq_true.1 (List.all_eq_true.1 hdst i (List.mem_range.2 h1)) j (List.mem_range.2 h2)
    unfold dstAt at e1 e2
    rw [e1] at this
    simp only [Bool.or_eq_true] at this
    rcases this with h | h
    · exact Nat.eq_of_beq_eq_true h
    · rw [e2] at h; simp at h
  have hF' : ∀ t, get F t = get (envS l.toArray vals (Array.replicate l.length true) n E) t := fun t => by rw [hF]
  -- the stage of values
  have body : ∀ (c : Nat) (listed : Array Bool), todo listed n = c → listed.size = l.length → (∀ k, n ≤ k → listed.getD k false = false) → ∀ G a w, Inv K N G ⟨envS l.toArray vals listed n E, M⟩ a w →
      wpAny P .any l.toArray (lift K N Q) (c + (l.length - n)) listed a w := by
    intro c
    induction c with
    | zero =>
      intro listed hc hsz hno G a w hi
      have hall : ∀ i, i < n → listed.getD i false = true := by
        intro i hin
        have : i ∉ (List.range n).filter fun i => !listed.getD i false := by
          have h0 := List.eq_nil_of_length_eq_zero hc
          rw [h0]; simp
        simp [hin] at this
        cases hb : listed.getD i false with
        | true => rfl
        | false => rw [Array.getD_eq_getD_getElem?] at hb; simp [hb] at this
      have he : listed = ((List.range l.length).map fun i => Nat.blt i n).toArray := by
        apply Array.ext (by simp [hsz])
        intro i h1 h2
        have e1 : listed.getD i false = listed[i] := by simp [h1]
        by_cases hin : i < n
        · have := hall i hin
          rw [e1] at this
          rw [this]; simp [hin]
        · have := hno i (by omega)
          rw [e1] at this
          rw [this]
          have : Nat.blt i n = false := by cases hb : Nat.blt i n with | false => rfl | true => exact absurd (by simpa using hb) hin
          simp [this]
      have hi2 : Inv K N G ⟨F, M⟩ a w := by
        refine inv_E hi (fun t v hr => ?_)
        rw [hF' t]
        have hg : get (envS l.toArray vals listed n E) t = get (envS l.toArray vals (Array.replicate l.length true) n E) t := by
          obtain ⟨p1, p2⟩ := envS_get (ops := l.toArray) vals listed E t n (fun i j => hdst' t i j)
          obtain ⟨q1, q2⟩ := envS_get (ops := l.toArray) vals (Array.replicate l.length true) E t n (fun i j => hdst' t i j)
          by_cases hex : ∃ i, i < n ∧ dstAt l.toArray i = some t
          · obtain ⟨i, h1, h2⟩ := hex
            rw [p1 i h1 h2 (hall i h1), q1 i h1 h2 (by simp [show i < l.length by omega])]
          · rw [p2 (fun i h1 h2 => absurd ⟨i, h1, h2⟩ hex), q2 (fun i h1 h2 => absurd ⟨i, h1, h2⟩ hex)]
        rw [← hg]; exact hr
      have := wpAny_of_seq (P := P) (Q' := lift K N Q) (l.drop n) n listed a w (fun j => by simp) (by rw [he]; exact hseq) (tail K G a w hi2)
      rw [Nat.zero_add, show l.length - n = (l.drop n).length from by simp]
      exact this
    | succ c ih =>
      intro listed hc hsz hno G a w hi
      rw [Nat.succ_add]
      -- something is ready
      obtain ⟨i0, hi0, hmin⟩ : ∃ i, (i < n ∧ listed.getD i false = false) ∧ ∀ j, j < i → ¬ (j < n ∧ listed.getD j false = false) := by
        have hne : ((List.range n).filter fun i => !listed.getD i false) ≠ [] := by
          intro h; unfold todo at hc; rw [h] at hc; simp at hc
        obtain ⟨i, hmem⟩ := List.exists_mem_of_ne_nil _ hne
        simp only [List.mem_filter, List.mem_range, Bool.not_eq_true'] at hmem
        have hex : ∃ i, i < n ∧ listed.getD i false = false := ⟨i, hmem⟩
        have : ∀ m i, i ≤ m → (i < n ∧ listed.getD i false = false) → ∃ i, (i < n ∧ listed.getD i false = false) ∧ ∀ j, j < i → ¬ (j < n ∧ listed.getD j false = false) := by
          intro m
          induction m with
          | zero => intro i him hp; exact ⟨i, hp, fun j hj => by omega⟩
          | succ m ihm =>
            intro i him hp
            by_cases hj : ∃ j, j < i ∧ (j < n ∧ listed.getD j false = false)
            · obtain ⟨j, h1, h2⟩ := hj
              exact ihm j (by omega) h2
            · exact ⟨i, hp, fun j hj' hp' => hj ⟨j, hj', hp'⟩⟩
        exact this i i (Nat.le_refl _) hmem
      have hready0 : i0 ∈ Region.ready .any l.toArray listed := by
        have hoi : ∃ o, l[i0]? = some o := ⟨l[i0]'(by omega), List.getElem?_eq_getElem (by omega)⟩
        obtain ⟨oi, hoi⟩ := hoi
        refine mem_ready.2 ⟨getD_in (by omega) hi0.2, oi, by simpa using hoi, fun e he hb => ?_⟩
        have h1 := List.all_eq_true.1 hlook i0 (List.mem_range.2 hi0.1)
        have h2 : (l.toArray[i0]?) = some oi := by simpa using hoi
        rw [h2] at h1
        simp only [Option.map_some, Option.getD_some, Bool.and_eq_true] at h1
        have h3 := Array.all_eq_true'.1 h1.1 e he
        simp only [Bool.or_eq_true, Bool.not_eq_true'] at h3
        rcases h3 with h3 | h3
        · rw [hb] at h3; cases h3
        · have hlt : e.on < i0 := by simpa using h3
          have := hmin e.on hlt
          cases hx : listed.getD e.on false with
          | true => rfl
          | false => exact absurd ⟨by omega, hx⟩ this
      refine ⟨fun h => (by rw [h] at hready0; cases hready0), fun i hir => ?_⟩
      obtain ⟨hun, oi, hoi, hall⟩ := mem_ready.1 hir
      have hoi' : l[i]? = some oi := by simpa using hoi
      have hil : i < l.length := (List.getElem?_eq_some_iff.1 hoi').1
      have hun' := getD_both hun
      have hin : i < n := by
        apply Classical.byContradiction
        intro hge
        have h1 := List.all_eq_true.1 htail i (List.mem_range.2 (by simpa using hil))
        have hb : Nat.blt i n = false := by cases hb : Nat.blt i n with | false => rfl | true => exact absurd (by simpa using hb) hge
        rw [hb, Bool.false_or] at h1
        have h2 := List.all_eq_true.1 h1 i0 (List.mem_range.2 (by omega))
        obtain ⟨oj, hoj, e, he, hbind, hon⟩ := Region.waitsFor_spec h2
        have : oj = oi := Option.some.inj (hoj.symm.trans hoi)
        subst this
        have h3 := hall e he hbind
        rw [hon, hi0.2] at h3
        cases h3
      -- what it looks at is there
      have hE : ∀ t ∈ oi.looksAt l.toArray, get (envS l.toArray vals listed n E) t = get F t := by
        intro t ht
        rw [hF' t]
        have h1 := List.all_eq_true.1 hlook i (List.mem_range.2 hin)
        rw [hoi] at h1
        simp only [Option.map_some, Option.getD_some, Bool.and_eq_true] at h1
        have h2 := List.all_eq_true.1 h1.2 t ht
        obtain ⟨p1, p2⟩ := envS_get (ops := l.toArray) vals listed E t n (fun i j => hdst' t i j)
        obtain ⟨q1, q2⟩ := envS_get (ops := l.toArray) vals (Array.replicate l.length true) E t n (fun i j => hdst' t i j)
        by_cases hex : ∃ j, j < n ∧ dstAt l.toArray j = some t
        · obtain ⟨j, hj, hdj⟩ := hex
          have h3 := List.all_eq_true.1 h2 j (List.mem_range.2 hj)
          unfold dstAt at hdj
          rw [hdj] at h3
          simp only [beq_self_eq_true, Bool.not_true, Bool.false_or] at h3
          obtain ⟨oj, hoj, e, he, hbind, hon⟩ := Region.waitsFor_spec h3
          have : oj = oi := Option.some.inj (hoj.symm.trans hoi)
          subst this
          have hlj := hall e he hbind
          rw [hon] at hlj
          rw [p1 j hj hdj hlj, q1 j hj hdj (by simp [show j < l.length by omega])]
        · rw [p2 (fun j h1 h2 => absurd ⟨j, h1, h2⟩ hex), q2 (fun j h1 h2 => absurd ⟨j, h1, h2⟩ hex)]
      have hstep := fun Kn hKn => (hbody i oi hin hoi').wp hE hi (Kn := Kn) (Q' := lift K N Q) hKn
      unfold wpOp
      rw [hoi]
      have fin : ∀ G' a' w', Inv K N G' ⟨put (envS l.toArray vals listed n E) oi.dst (vals.getD i .any), M⟩ a' w' → wpAny P .any l.toArray (lift K N Q) (c + (l.length - n)) (listed.setIfInBounds i true) a' w' := by
        intro G' a' w' hi'
        refine ih (listed.setIfInBounds i true) (by have := todo_set listed n i hin (by omega) hun'; omega) (by simp [hsz]) (fun k hk => by rw [getD_set' _ _ _ (by omega), if_neg (by omega)]; exact hno k hk) G' a' w' ?_
        refine inv_E hi' (fun t v hr => ?_)
        have hdi : dstAt l.toArray i = oi.dst := by simp [dstAt, hoi]
        have hg : get (envS l.toArray vals (listed.setIfInBounds i true) n E) t = get (put (envS l.toArray vals listed n E) oi.dst (vals.getD i .any)) t := by
          rw [get_put']
          obtain ⟨p1, p2⟩ := envS_get (ops := l.toArray) vals listed E t n (fun i j => hdst' t i j)
          obtain ⟨q1, q2⟩ := envS_get (ops := l.toArray) vals (listed.setIfInBounds i true) E t n (fun i j => hdst' t i j)
          by_cases hdt : oi.dst = some t
          · rw [if_pos hdt]
            exact q1 i hin (hdi.trans hdt) (by rw [getD_set' _ _ _ (by omega), if_pos rfl])
          · rw [if_neg hdt]
            by_cases hex : ∃ j, j < n ∧ dstAt l.toArray j = some t
            · obtain ⟨j, hj, hdj⟩ := hex
              have hji : i ≠ j := by rintro rfl; exact hdt (hdi.symm.trans hdj)
              cases hlj : listed.getD j false with
              | true => rw [p1 j hj hdj hlj, q1 j hj hdj (by rw [getD_set' _ _ _ (by omega), if_neg hji]; exact hlj)]
              | false =>
                have uniq : ∀ k, k < n → dstAt l.toArray k = some t → k = j := fun k hk hdk => hdst' t k j hk hj hdk hdj
                rw [p2 (fun k hk hdk => by rw [uniq k hk hdk]; exact hlj), q2 (fun k hk hdk => by rw [uniq k hk hdk, getD_set' _ _ _ (by omega), if_neg hji]; exact hlj)]
            · rw [p2 (fun j h1 h2 => absurd ⟨j, h1, h2⟩ hex), q2 (fun j h1 h2 => absurd ⟨j, h1, h2⟩ hex)]
        rw [hg]; exact hr
      have := hstep _ fin
      split at this
      · rename_i hw; simp only [hw, if_true]; exact .inl this
      · rename_i hw; simp only [hw]; exact this
  have hinit : Inv K N G ⟨envS l.toArray vals (Array.replicate l.length false) n E, M⟩ a w.drew := by
    refine inv_E hi' (fun t v hr => ?_)
    obtain ⟨_, p2⟩ := envS_get (ops := l.toArray) vals (Array.replicate l.length false) E t n (fun i j => hdst' t i j)
    rw [p2 (fun i _ _ => getD_replicate_false _ _)]
    exact hr
  have htodo : todo (Array.replicate l.length false) n = n := by
    simp only [todo]
    rw [List.filter_eq_self.2 (fun i _ => by rw [getD_replicate_false]; rfl)]
    simp
  have := body n (Array.replicate l.length false) htodo (by simp) (fun k _ => getD_replicate_false _ _) G a w.drew hinit
  simpa [show n + (l.length - n) = l.length from by omega] using this
end
end Go.Proofs.Ytafncdbkbmaifaa.Ab

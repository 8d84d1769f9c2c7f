/- Regions whose order is drawn, looked at in an order of one's own. No condition. -/
import Derived.Test.YtafncdbkbmaifaaAbQ
set_option linter.unusedVariables false
set_option linter.unusedSimpArgs false
namespace Go.Proofs.Ytafncdbkbmaifaa.Ab
section
variable {P : Program} {T : List TI} {N : Nat} {ops : Array Oper} {rest : List Oper} {o : Oper} {Q : Exit → St → Prop} {E F : Env} {M : List Ob}
def pickL (l : List Oper) : List Nat → Option (List Oper)
  | [] => some []
  | j :: js => match l[j]?, pickL l js with
    | some o, some r => some (o :: r)
    | _, _ => none
theorem pickL_at {l : List Oper} : ∀ {js : List Nat} {r : List Oper}, pickL l js = some r → r.length = js.length ∧ ∀ p : Nat, r[p]? = (js[p]?).bind fun (j : Nat) => l[j]?
  | [], r, h => by simp [pickL] at h; subst h; simp
  | j :: js, r, h => by
    simp only [pickL] at h
    split at h
    · rename_i o r' h1 h2
      cases h
      obtain ⟨i1, i2⟩ := pickL_at h2
      refine ⟨by simp [i1], fun p => ?_⟩
      cases p with
      | zero => simp [h1]
      | succ p => simpa using i2 p
    · cases h
/-- The form of such a region; js: the order of the first n; al: the places in it of those that make something. -/
def drawP (ops : Array Oper) (js al : List Nat) (n : Nat) : Bool :=
  Nat.ble n ops.size && Nat.beq js.length n &&
  ((List.range n).all fun i => ((ops[i]?).map fun o => (o.after.all fun e => !Region.binds .any e || Nat.blt e.on i) && (o.looksAt ops).all fun t => (List.range n).all fun j => !((ops[j]?).bind (·.dst) == some t) || (Region.waitsFor .any ops i j || Region.waitsFor .any ops j i)).getD false) &&
  ((List.range n).all fun i => (List.range n).all fun j => Nat.beq i j || (match (ops[i]?).bind (·.dst) with | some d => !((ops[j]?).bind (·.dst) == some d) | none => true)) &&
  ((List.range ops.size).all fun k => Nat.blt k n || (List.range n).all fun j => waitsT ops 12 k j) &&
  (al.all fun p => (List.range n).all fun q => Nat.ble q p || waitsT ops 12 (js.getD q 0) (js.getD p 0)) &&
  ((List.range n).all fun i => js.contains i) &&
  (js.all fun i => Nat.blt i n) &&
  ((List.range n).all fun p => (List.range n).all fun q => Nat.blt q p || !Region.waitsFor .any ops (js.getD p 0) (js.getD q 0)) &&
  ((List.range n).all fun p => (List.range n).all fun q => Nat.beq p q || !Nat.beq (js.getD p 0) (js.getD q 0))

theorem splitO_get {kp : List Ob} {al : List Nat} {n : Nat} {l : List Oper} {vals : (Nat → List Nat) → Nat → A} {Fs : (Nat → List Nat) → Nat → Env} {Ms : (Nat → List Nat) → Nat → List Ob} (s : SplitO P N ops Q kp al 0 E M n l vals Fs Ms) (hn : n ≤ l.length) (β : Nat → List Nat) (t : Nat) (hdst : ∀ i j, i < n → j < n → dstAt l.toArray i = some t → dstAt l.toArray j = some t → i = j) :
    ∀ k, k ≤ n → (∀ j, j < k → dstAt l.toArray j = some t → get (Fs β k) t = vals β j) ∧ ((∀ j, j < k → dstAt l.toArray j ≠ some t) → get (Fs β k) t = get E t) := by
  intro k
  induction k with
  | zero => intro _; exact ⟨fun j hj => by omega, fun _ => by rw [s.f0]⟩
  | succ k ih =>
    intro hk
    obtain ⟨i1, i2⟩ := ih (by omega)
    obtain ⟨o, ho⟩ : ∃ o, l[k]? = some o := ⟨l[k]'(by omega), List.getElem?_eq_getElem (by omega)⟩
    have hd : dstAt l.toArray k = o.dst := by simp [dstAt, ho]
    rw [(s.step k o (by omega) ho β).1, get_put]
    refine ⟨fun j hj hdj => ?_, fun hno => ?_⟩
    · by_cases hjk : j = k
      · subst hjk; rw [if_pos (hd ▸ hdj)]
      · have : o.dst ≠ some t := fun e => hjk (hdst j k (by omega) (by omega) hdj (hd.trans e))
        rw [if_neg this]; exact i1 j (by omega) hdj
    · rw [if_neg (hd ▸ hno k (by omega))]
      exact i2 fun j hj => hno j (by omega)
theorem splitO_grow {kp : List Ob} {al : List Nat} {n : Nat} {l : List Oper} {vals : (Nat → List Nat) → Nat → A} {Fs : (Nat → List Nat) → Nat → Env} {Ms : (Nat → List Nat) → Nat → List Ob} (s : SplitO P N ops Q kp al 0 E M n l vals Fs Ms) (hn : n ≤ l.length) (β : Nat → List Nat) (i : Nat) : ∀ d, i + d ≤ n → (Ms β (i + d) = Ms β i ∨ ∀ o ∈ kp, o ∈ Ms β (i + d)) ∧ ((∀ k, i ≤ k → k < i + d → al.contains k = false) → Ms β (i + d) = Ms β i)
  | 0, _ => ⟨.inl rfl, fun _ => rfl⟩
  | d + 1, h => by
    obtain ⟨h1, h2⟩ := splitO_grow s hn β i d (by omega)
    obtain ⟨o, ho⟩ : ∃ o, l[i + d]? = some o := ⟨l[i + d]'(by omega), List.getElem?_eq_getElem (by omega)⟩
    rcases (s.step (i + d) o (by omega) ho β).2 with ⟨a1, a2, _⟩ | ⟨a1, a2, _⟩
    · rw [show i + (d + 1) = i + d + 1 from rfl, a2]
      exact ⟨h1, fun hk => h2 fun k h0 h1 => hk k h0 (by omega)⟩
    · rw [show i + (d + 1) = i + d + 1 from rfl]
      refine ⟨.inr a2, fun hk => ?_⟩
      have := hk (i + d) (by omega) (by omega)
      rw [Nat.zero_add] at a1
      rw [a1] at this; cases this

theorem acode_drawP {id : Nat} {l l' : List Oper} (kp : List Ob) (n : Nat) (js al : List Nat) (hm : P.follows .mixedOrders = true) (hB : drawP l.toArray js al n = true)
    (hseq : Region.seqB .any l.toArray (l.drop n).length n (((List.range l.length).map fun i => Nat.blt i n).toArray) = true)
    (hl' : pickL l (js ++ (List.range l.length).drop n) = some l')
    (h : SeqO P N l.toArray Q kp al 0 E M n l') : ACode P N (.region id l.toArray true) Q ⟨E, M⟩ := by
  obtain ⟨vals, Fs, Ms, s⟩ := h.split
  intro K G a w hi
  refine wp_region_any hm ?_
  have hi' : Inv K N G ⟨E, M⟩ a w.drew := ⟨hi.ok.drew, hi.sz, hi.df, hi.ev⟩
  change wpAny P .any l.toArray (lift K N Q) l.toArray.size (Array.replicate l.toArray.size false) a w.drew
  simp only [drawP, Bool.and_eq_true] at hB
  obtain ⟨⟨⟨⟨⟨⟨⟨⟨⟨hn, hjn⟩, hlook⟩, hdst⟩, htail⟩, hal⟩, hcov⟩, hjlt⟩, hord⟩, hinj⟩ := hB
  have hn : n ≤ l.length := by simpa using Nat.le_of_ble_eq_true hn
  have hjn : js.length = n := Nat.eq_of_beq_eq_true hjn
  obtain ⟨hll, hlat⟩ := pickL_at hl'
  have hll : l'.length = l.length := by rw [hll]; simp; omega
  -- the places
  have hcov' : ∀ i, i < n → ∃ p, p < n ∧ js.getD p 0 = i := by
    intro i hi
    have := List.all_eq_true.1 hcov i (List.mem_range.2 hi)
    have hm : i ∈ js := by simpa using this
    obtain ⟨p, hp, e⟩ := List.getElem_of_mem hm
    exact ⟨p, by omega, by rw [List.getD_eq_getElem?_getD, List.getElem?_eq_getElem hp, e]; rfl⟩
  have hjlt' : ∀ p, p < n → js.getD p 0 < n := by
    intro p hp
    have hp' : p < js.length := by omega
    have := List.all_eq_true.1 hjlt js[p] (List.getElem_mem hp')
    rw [List.getD_eq_getElem?_getD, List.getElem?_eq_getElem hp']
    simpa using this
  have hinj' : ∀ p q, p < n → q < n → js.getD p 0 = js.getD q 0 → p = q := by
    intro p q hp hq e
    have := List.all_eq_true.1 (List.all_eq_true.1 hinj p (List.mem_range.2 hp)) q (List.mem_range.2 hq)
    simp only [Bool.or_eq_true, Bool.not_eq_true'] at this
    rcases this with h | h
    · exact Nat.eq_of_beq_eq_true h
    · rw [e] at h; simp at h
  have hord' : ∀ p q, p < n → q < n → Region.waitsFor .any l.toArray (js.getD p 0) (js.getD q 0) = true → q < p := by
    intro p q hp hq e
    have := List.all_eq_true.1 (List.all_eq_true.1 hord p (List.mem_range.2 hp)) q (List.mem_range.2 hq)
    simp only [Bool.or_eq_true, Bool.not_eq_true'] at this
    rcases this with h | h
    · simpa using h
    · rw [e] at h; cases h
  have hat : ∀ p, p < n → l'[p]? = l[js.getD p 0]? := by
    intro p hp
    rw [hlat p, List.getElem?_append_left (by omega), List.getD_eq_getElem?_getD, List.getElem?_eq_getElem (show p < js.length by omega)]
    rfl
  have hdropEq : l'.drop n = l.drop n := by
    apply List.ext_getElem?
    intro p
    rw [List.getElem?_drop, List.getElem?_drop, hlat (n + p), List.getElem?_append_right (by omega), hjn, Nat.add_sub_cancel_left, List.getElem?_drop]
    by_cases h : n + p < l.length
    · rw [List.getElem?_range h]; rfl
    · rw [List.getElem?_eq_none (by simp; omega), List.getElem?_eq_none (by omega)]; rfl
  have hdat : ∀ p, p < n → dstAt l'.toArray p = dstAt l.toArray (js.getD p 0) := by
    intro p hp
    simp [dstAt, hat p hp]
  have hdst' : ∀ t i j, i < n → j < n → dstAt l.toArray i = some t → dstAt l.toArray j = some t → i = j := by
    intro t i j h1 h2 e1 e2
    have := List.all_eq_true.1 (List.all_eq_true.1 hdst i (List.mem_range.2 h1)) j (List.mem_range.2 h2)
    unfold dstAt at e1 e2
    rw [e1] at this
    simp only [Bool.or_eq_true] at this
    rcases this with h | h
    · exact Nat.eq_of_beq_eq_true h
    · rw [e2] at h; simp at h
  have hdstP : ∀ t p q, p < n → q < n → dstAt l'.toArray p = some t → dstAt l'.toArray q = some t → p = q := by
    intro t p q h1 h2 e1 e2
    rw [hdat p h1] at e1; rw [hdat q h2] at e2
    exact hinj' p q h1 h2 (hdst' t _ _ (hjlt' p h1) (hjlt' q h2) e1 e2)
  have hal' : ∀ p q, al.contains p = true → p < q → q < n → waitsT l.toArray 12 (js.getD q 0) (js.getD p 0) = true := by
    intro i j hc hij hj
    have h1 := List.all_eq_true.1 (List.all_eq_true.1 hal i (by simpa using hc)) j (List.mem_range.2 hj)
    simp only [Bool.or_eq_true] at h1
    rcases h1 with h1 | h1
    · have := Nat.le_of_ble_eq_true h1; omega
    · exact h1
  let pos : Nat → Nat := fun i => js.idxOf i
  have hpos : ∀ i, i < n → pos i < n ∧ js.getD (pos i) 0 = i := by
    intro i hi
    have hm : i ∈ js := by simpa using List.all_eq_true.1 hcov i (List.mem_range.2 hi)
    have h1 : js.idxOf i < js.length := List.idxOf_lt_length_of_mem hm
    have h2 : js.idxOf i < n := by omega
    refine ⟨h2, ?_⟩
    show js.getD (js.idxOf i) 0 = i
    rw [List.getD_eq_getElem?_getD, List.getElem?_eq_getElem h1, List.getElem_idxOf]; rfl
  let V : (Nat → List Nat) → List A := fun β => (List.range n).map fun i => vals β (pos i)
  have hV : ∀ β i, i < n → (V β).getD i .any = vals β (pos i) := fun β i hi => getD_map_range _ _ _ hi
  have body : ∀ (c : Nat) (listed : Array Bool), todo listed n = c → listed.size = l.length → (∀ k, n ≤ k → listed.getD k false = false) →
      (∀ k j, listed.getD k false = true → Region.waitsFor .any l.toArray k j = true → listed.getD j false = true) →
      ∀ (β : Nat → List Nat) (top : Nat), top ≤ n → (∀ p, p < top → al.contains p = true → listed.getD (js.getD p 0) false = true) → (∀ p, top ≤ p → p < n → al.contains p = true → listed.getD (js.getD p 0) false = false) →
      ∀ G a w, Inv K N G ⟨envS l.toArray (V β) listed n E, Ms β top⟩ a w →
      wpAny P .any l.toArray (lift K N Q) (c + (l.length - n)) listed a w := by
    intro c
    induction c with
    | zero =>
      intro listed hc hsz hno hcl β top htn ht1 ht2 G a w hi
      have hall : ∀ i, i < n → listed.getD i false = true := by
        intro i hin
        have : i ∉ (List.range n).filter fun i => !listed.getD i false := by
          have h0 := List.eq_nil_of_length_eq_zero hc
          rw [h0]; simp
        simp [hin] at this
        cases hb : listed.getD i false with
        | true => rfl
        | false => rw [Array.getD_eq_getD_getElem?] at hb; simp [hb] at this
      have he : listed = ((List.range l.length).map fun i => Nat.blt i n).toArray := by
        apply Array.ext (by simp [hsz])
        intro i h1 h2
        have e1 : listed.getD i false = listed[i] := by simp [h1]
        by_cases hin : i < n
        · have := hall i hin
          rw [e1] at this
          rw [this]; simp [hin]
        · have := hno i (by omega)
          rw [e1] at this
          rw [this]
          have : Nat.blt i n = false := by cases hb : Nat.blt i n with | false => rfl | true => exact absurd (by simpa using hb) hin
          simp [this]
      have hM : Ms β n = Ms β top := by
        obtain ⟨d, rfl⟩ : ∃ d, n = top + d := ⟨n - top, by omega⟩
        refine (splitO_grow s (by omega) β top d (Nat.le_refl _)).2 fun k h0 h1 => ?_
        cases hb : al.contains k with
        | false => rfl
        | true => have := ht2 k h0 h1 hb; rw [hall _ (hjlt' k h1)] at this; cases this
      have hi2 : Inv K N G ⟨Fs β n, Ms β n⟩ a w := by
        rw [hM]
        refine inv_E hi (fun t v hr => ?_)
        have hg : get (envS l.toArray (V β) listed n E) t = get (Fs β n) t := by
          obtain ⟨p1, p2⟩ := envS_get (ops := l.toArray) (V β) listed E t n (fun i j => hdst' t i j)
          obtain ⟨q1, q2⟩ := splitO_get s (by omega) β t (fun i j => hdstP t i j) n (Nat.le_refl _)
          by_cases hex : ∃ i, i < n ∧ dstAt l.toArray i = some t
          · obtain ⟨i, h1, h2⟩ := hex
            obtain ⟨k1, k2⟩ := hpos i h1
            rw [p1 i h1 h2 (hall i h1), q1 (pos i) k1 (by rw [hdat _ k1, k2]; exact h2), hV β i h1]
          · rw [p2 (fun i h1 h2 => absurd ⟨i, h1, h2⟩ hex), q2 (fun i h1 h2 => absurd ⟨_, hjlt' i h1, by rw [← hdat i h1]; exact h2⟩ hex)]
        rw [← hg]; exact hr
      have := wpAny_of_seq (P := P) (Q' := lift K N Q) (l.drop n) n listed a w (fun j => by simp) (by rw [he]; exact hseq) (hdropEq ▸ s.last β K G a w hi2)
      rw [Nat.zero_add, show l.length - n = (l.drop n).length from by simp]
      exact this
    | succ c ih =>
      intro listed hc hsz hno hcl β top htn ht1 ht2 G a w hi
      rw [Nat.succ_add]
      obtain ⟨i0, hi0, hmin⟩ : ∃ i, (i < n ∧ listed.getD i false = false) ∧ ∀ j, j < i → ¬ (j < n ∧ listed.getD j false = false) := by
        have hne : ((List.range n).filter fun i => !listed.getD i false) ≠ [] := by
          intro h; unfold todo at hc; rw [h] at hc; simp at hc
        obtain ⟨i, hmem⟩ := List.exists_mem_of_ne_nil _ hne
        simp only [List.mem_filter, List.mem_range, Bool.not_eq_true'] at hmem
        have : ∀ m i, i ≤ m → (i < n ∧ listed.getD i false = false) → ∃ i, (i < n ∧ listed.getD i false = false) ∧ ∀ j, j < i → ¬ (j < n ∧ listed.getD j false = false) := by
          intro m
          induction m with
          | zero => intro i him hp; exact ⟨i, hp, fun j hj => by omega⟩
          | succ m ihm =>
            intro i him hp
            by_cases hj : ∃ j, j < i ∧ (j < n ∧ listed.getD j false = false)
            · obtain ⟨j, h1, h2⟩ := hj
              exact ihm j (by omega) h2
            · exact ⟨i, hp, fun j hj' hp' => hj ⟨j, hj', hp'⟩⟩
        exact this i i (Nat.le_refl _) hmem
      have hready0 : i0 ∈ Region.ready .any l.toArray listed := by
        have hoi : ∃ o, l[i0]? = some o := ⟨l[i0]'(by omega), List.getElem?_eq_getElem (by omega)⟩
        obtain ⟨oi, hoi⟩ := hoi
        refine mem_ready.2 ⟨getD_in (by omega) hi0.2, oi, by simpa using hoi, fun e he hb => ?_⟩
        have h1 := List.all_eq_true.1 hlook i0 (List.mem_range.2 hi0.1)
        have h2 : (l.toArray[i0]?) = some oi := by simpa using hoi
        rw [h2] at h1
        simp only [Option.map_some, Option.getD_some, Bool.and_eq_true] at h1
        have h3 := Array.all_eq_true'.1 h1.1 e he
        simp only [Bool.or_eq_true, Bool.not_eq_true'] at h3
        rcases h3 with h3 | h3
        · rw [hb] at h3; cases h3
        · have hlt : e.on < i0 := by simpa using h3
          have := hmin e.on hlt
          cases hx : listed.getD e.on false with
          | true => rfl
          | false => exact absurd ⟨by omega, hx⟩ this
      refine ⟨fun h => (by rw [h] at hready0; cases hready0), fun i hir => ?_⟩
      obtain ⟨hun, oi, hoi, hall⟩ := mem_ready.1 hir
      have hoi' : l[i]? = some oi := by simpa using hoi
      have hil : i < l.length := (List.getElem?_eq_some_iff.1 hoi').1
      have hun' := getD_both hun
      have hrd : ∀ j, Region.waitsFor .any l.toArray i j = true → listed.getD j false = true := by
        intro j hw
        obtain ⟨oj, hoj, e, he, hbind, hon⟩ := Region.waitsFor_spec hw
        have : oj = oi := Option.some.inj (hoj.symm.trans hoi)
        subst this
        have h3 := hall e he hbind
        rwa [hon] at h3
      have hrdT := fun f j h => waitsT_ready hcl hrd f j h
      have hin : i < n := by
        apply Classical.byContradiction
        intro hge
        have h1 := List.all_eq_true.1 htail i (List.mem_range.2 (by simpa using hil))
        have hb : Nat.blt i n = false := by cases hb : Nat.blt i n with | false => rfl | true => exact absurd (by simpa using hb) hge
        rw [hb, Bool.false_or] at h1
        have h2 := List.all_eq_true.1 h1 i0 (List.mem_range.2 hi0.1)
        have := hrdT _ _ h2
        rw [hi0.2] at this
        cases this
      obtain ⟨hpn, hpi⟩ := hpos i hin
      have hop : l'[pos i]? = some oi := by rw [hat _ hpn, hpi]; exact hoi'
      have hlk := List.all_eq_true.1 hlook i (List.mem_range.2 hin)
      rw [hoi] at hlk
      simp only [Option.map_some, Option.getD_some, Bool.and_eq_true] at hlk
      have hE : ∀ t ∈ oi.looksAt l.toArray, get (envS l.toArray (V β) listed n E) t = get (Fs β (pos i)) t := by
        intro t ht
        have h2 := List.all_eq_true.1 hlk.2 t ht
        obtain ⟨p1, p2⟩ := envS_get (ops := l.toArray) (V β) listed E t n (fun i j => hdst' t i j)
        obtain ⟨q1, q2⟩ := splitO_get s (by omega) β t (fun i j => hdstP t i j) (pos i) (by omega)
        by_cases hex : ∃ j, j < n ∧ dstAt l.toArray j = some t
        · obtain ⟨j, hj, hdj⟩ := hex
          have h3 := List.all_eq_true.1 h2 j (List.mem_range.2 hj)
          have hdj' := hdj
          unfold dstAt at hdj'
          rw [hdj'] at h3
          simp only [beq_self_eq_true, Bool.not_true, Bool.false_or, Bool.or_eq_true] at h3
          obtain ⟨k1, k2⟩ := hpos j hj
          rcases h3 with h3 | h3
          · have hlj := hrd j h3
            have hji : pos j < pos i := hord' (pos i) (pos j) hpn k1 (by rw [hpi, k2]; exact h3)
            rw [p1 j hj hdj hlj, q1 (pos j) hji (by rw [hdat _ k1, k2]; exact hdj), hV β j hj]
          · have hlj : listed.getD j false = false := by
              cases hb : listed.getD j false with
              | false => rfl
              | true =>
                have := hcl j i hb h3
                rw [hun'] at this; cases this
            have hij : pos i < pos j := hord' (pos j) (pos i) k1 hpn (by rw [hpi, k2]; exact h3)
            have uniq : ∀ k, k < n → dstAt l.toArray k = some t → k = j := fun k hk hdk => hdst' t k j hk hj hdk hdj
            rw [p2 (fun k hk hdk => by rw [uniq k hk hdk]; exact hlj), q2 (fun p hp hdp => by
              have hp' : p < n := by omega
              rw [hdat p hp'] at hdp
              have e1 := uniq _ (hjlt' p hp') hdp
              have e2 : p = pos j := hinj' p (pos j) hp' k1 (by rw [e1, k2])
              omega)]
        · rw [p2 (fun j h1 h2 => absurd ⟨j, h1, h2⟩ hex), q2 (fun j h1 h2 => absurd ⟨_, hjlt' j (by omega), by rw [← hdat j (by omega)]; exact h2⟩ hex)]
      have hdi : dstAt l.toArray i = oi.dst := by simp [dstAt, hoi']
      have hbetw : ∀ k, top ≤ k → k < pos i → al.contains k = false := by
        intro k h0 h1
        cases hb : al.contains k with
        | false => rfl
        | true =>
          have h2 := hrdT 12 (js.getD k 0) (by have := hal' k (pos i) hb h1 hpn; rwa [hpi] at this)
          rw [ht2 k h0 (by omega) hb] at h2
          cases h2
      have hcl' : ∀ k j, (listed.setIfInBounds i true).getD k false = true → Region.waitsFor .any l.toArray k j = true → (listed.setIfInBounds i true).getD j false = true := by
        intro k j hk hw
        rw [getD_set' _ _ _ (by omega)] at hk ⊢
        split
        · rfl
        · by_cases hik : i = k
          · subst hik; exact hrd j hw
          · rw [if_neg hik] at hk; exact hcl k j hk hw
      have hno' : ∀ k, n ≤ k → (listed.setIfInBounds i true).getD k false = false := fun k hk => by rw [getD_set' _ _ _ (by omega), if_neg (by omega)]; exact hno k hk
      have htodo' : todo (listed.setIfInBounds i true) n = c := by have := todo_set listed n i hin (by omega) hun'; omega
      have henv : ∀ (W : List A) (t : Nat), (∀ j, j < n → listed.getD j false = true → W.getD j .any = (V β).getD j .any) → get (envS l.toArray W (listed.setIfInBounds i true) n E) t = get (put (envS l.toArray (V β) listed n E) oi.dst (W.getD i .any)) t := by
        intro W t hW
        rw [get_put']
        obtain ⟨p1, p2⟩ := envS_get (ops := l.toArray) (V β) listed E t n (fun i j => hdst' t i j)
        obtain ⟨q1, q2⟩ := envS_get (ops := l.toArray) W (listed.setIfInBounds i true) E t n (fun i j => hdst' t i j)
        by_cases hdt : oi.dst = some t
        · rw [if_pos hdt]
          exact q1 i hin (hdi.trans hdt) (by rw [getD_set' _ _ _ (by omega), if_pos rfl])
        · rw [if_neg hdt]
          by_cases hex : ∃ j, j < n ∧ dstAt l.toArray j = some t
          · obtain ⟨j, hj, hdj⟩ := hex
            have hji : i ≠ j := by rintro rfl; exact hdt (hdi.symm.trans hdj)
            cases hlj : listed.getD j false with
            | true => rw [p1 j hj hdj hlj, q1 j hj hdj (by rw [getD_set' _ _ _ (by omega), if_neg hji]; exact hlj), hW j hj hlj]
            | false =>
              have uniq : ∀ k, k < n → dstAt l.toArray k = some t → k = j := fun k hk hdk => hdst' t k j hk hj hdk hdj
              rw [p2 (fun k hk hdk => by rw [uniq k hk hdk]; exact hlj), q2 (fun k hk hdk => by rw [uniq k hk hdk, getD_set' _ _ _ (by omega), if_neg hji]; exact hlj)]
          · rw [p2 (fun j h1 h2 => absurd ⟨j, h1, h2⟩ hex), q2 (fun j h1 h2 => absurd ⟨j, h1, h2⟩ hex)]
      unfold wpOp
      rw [hoi]
      rcases (s.step (pos i) oi hpn hop β).2 with ⟨a1, a2, hy⟩ | ⟨a1, a2, hy⟩
      · rw [Nat.zero_add] at a1
        have hpe : Ms β top = Ms β (pos i) ∨ (∀ o ∈ kp, o ∈ Ms β top) ∧ ∃ j ∈ al, 0 + pos i < j := by
          by_cases hti : top ≤ pos i
          · obtain ⟨d, hd⟩ : ∃ d, pos i = top + d := ⟨pos i - top, by omega⟩
            have := (splitO_grow s (by omega) β top d (by omega)).2 fun k h0 h1 => hbetw k h0 (by omega)
            exact .inl (by rw [hd, this])
          · obtain ⟨d, rfl⟩ : ∃ d, top = pos i + d := ⟨top - pos i, by omega⟩
            obtain ⟨h1, h2⟩ := splitO_grow s (by omega) β (pos i) d htn
            by_cases hsome : ∃ k, pos i ≤ k ∧ k < pos i + d ∧ al.contains k = true
            · obtain ⟨k, k1, k2, k3⟩ := hsome
              have hne : k ≠ pos i := by rintro rfl; rw [a1] at k3; cases k3
              exact h1.imp (fun e => e) fun h1 => ⟨h1, k, by simpa using k3, by omega⟩
            · exact .inl (h2 fun k k1 k2 => by
                cases hb : al.contains k with
                | false => rfl
                | true => exact absurd ⟨k, k1, k2, hb⟩ hsome)
        have hstep := fun Kn hKn => ((hy _ hpe).wp (K := K) hE hi (Kn := Kn) (Q' := lift K N Q) hKn)
        have fin : ∀ G' a' w', Inv K N G' ⟨put (envS l.toArray (V β) listed n E) oi.dst (vals β (pos i)), Ms β top⟩ a' w' → wpAny P .any l.toArray (lift K N Q) (c + (l.length - n)) (listed.setIfInBounds i true) a' w' := by
          intro G' a' w' hi'
          refine ih (listed.setIfInBounds i true) htodo' (by simp [hsz]) hno' hcl' β top htn (fun k hk hc => ?_) (fun k hk hkn hc => ?_) G' a' w' ?_
          · rw [getD_set' _ _ _ (by omega)]; split; rfl; exact ht1 k hk hc
          · have : i ≠ js.getD k 0 := by
              intro e
              have : pos i = k := hinj' _ _ hpn hkn (by rw [hpi]; exact e)
              rw [this] at a1; rw [a1] at hc; cases hc
            rw [getD_set' _ _ _ (by omega), if_neg this]; exact ht2 k hk hkn hc
          · refine inv_E hi' (fun t v hr => ?_)
            rw [henv (V β) t fun _ _ _ => rfl, hV β i hin]; exact hr
        have := hstep _ fin
        split at this
        · rename_i hw; simp only [hw, if_true]; exact .inl this
        · rename_i hw; simp only [hw]; exact this
      · rw [Nat.zero_add] at a1
        have hti : top ≤ pos i := by
          apply Classical.byContradiction
          intro h
          have := ht1 (pos i) (by omega) a1
          rw [hpi, hun'] at this; cases this
        have hMi : Ms β top = Ms β (pos i) := by
          obtain ⟨d, hd⟩ : ∃ d, pos i = top + d := ⟨pos i - top, by omega⟩
          have := (splitO_grow s (by omega) β top d (by omega)).2 fun k h0 h1 => hbetw k h0 (by omega)
          rw [hd, this]
        rw [hMi] at hi
        have hgoal : ∀ b G' a' w', Inv K N G' ⟨put (envS l.toArray (V β) listed n E) oi.dst (vals (fun j => if j = pos i then b else β j) (pos i)), Ms (fun j => if j = pos i then b else β j) (pos i + 1)⟩ a' w' → wpAny P .any l.toArray (lift K N Q) (c + (l.length - n)) (listed.setIfInBounds i true) a' w' := by
          intro b G' a' w' hi'
          refine ih (listed.setIfInBounds i true) htodo' (by simp [hsz]) hno' hcl' (fun j => if j = pos i then b else β j) (pos i + 1) (by omega) (fun k hk hc => ?_) (fun k hk hkn hc => ?_) G' a' w' ?_
          · rw [getD_set' _ _ _ (by omega)]
            by_cases hik : i = js.getD k 0
            · rw [if_pos hik]
            · rw [if_neg hik]
              by_cases hkt : k < top
              · exact ht1 k hkt hc
              · have : k ≠ pos i := by rintro rfl; exact hik hpi.symm
                rw [hbetw k (by omega) (by omega)] at hc; cases hc
          · have : i ≠ js.getD k 0 := by
              intro e
              have : pos i = k := hinj' _ _ hpn hkn (by rw [hpi]; exact e)
              omega
            rw [getD_set' _ _ _ (by omega), if_neg this]; exact ht2 k (by omega) hkn hc
          · refine inv_E hi' (fun t v hr => ?_)
            rw [henv (V fun j => if j = pos i then b else β j) t fun j hj hlj => ?_, hV _ i hin]
            · exact hr
            · rw [hV _ j hj, hV _ j hj]
              obtain ⟨k1, k2⟩ := hpos j hj
              refine s.vb _ _ (pos j) fun m hm => ?_
              by_cases hmi : m = pos i
              · subst hmi
                exfalso
                by_cases hjm : pos j = pos i
                · have : j = i := by rw [← k2, ← hpi, hjm]
                  subst this; rw [hun'] at hlj; cases hlj
                · have h2 := waitsT_listed hcl 12 j i hlj (by have := hal' (pos i) (pos j) a1 (by omega) k1; rwa [k2, hpi] at this)
                  rw [hun'] at h2; cases h2
              · simp only [if_neg hmi]
        have h1 := hy _ hE [] (fun e st => e = .normal ∧ ∃ b, st = ⟨put (envS l.toArray (V β) listed n E) oi.dst (vals (fun j => if j = pos i then b else β j) (pos i)), Ms (fun j => if j = pos i then b else β j) (pos i + 1)⟩) (fun b => aops_nil ⟨rfl, b, rfl⟩) K G a w hi
        have hnil : ∀ a' w', wpList P l.toArray (lift K N fun e st => e = .normal ∧ ∃ b, st = ⟨put (envS l.toArray (V β) listed n E) oi.dst (vals (fun j => if j = pos i then b else β j) (pos i)), Ms (fun j => if j = pos i then b else β j) (pos i + 1)⟩) [] a' w' → wpAny P .any l.toArray (lift K N Q) (c + (l.length - n)) (listed.setIfInBounds i true) a' w' := by
          rintro a' w' ⟨G', st, ⟨_, b, rfl⟩, hi'⟩
          exact hgoal b G' a' w' hi'
        simp only [wpList] at h1
        split at h1
        · rename_i hw
          simp only [hw, if_true]
          rcases h1 with h1 | ⟨_, a0, w0, G', st, ⟨he, _⟩, _⟩
          · refine .inl ?_
            unfold Oper.wp at h1 ⊢
            generalize (execOp a.eval oi).run P w = r at h1 ⊢
            cases r with
            | ok n w' =>
              cases n <;> simp only [Oper.upon] at h1 ⊢ <;> first
                | exact hnil _ _ h1
                | exact h1
                | (refine Calls.mono h1 (fun e w'' he => ?_)
                   cases e with
                   | returned v => exact hnil _ _ he
                   | panicked ch => obtain ⟨G', s, ⟨he, _⟩, _⟩ := he; cases he
                   | outgrown => obtain ⟨a0, w0, G', s, ⟨he, _⟩, _⟩ := he; cases he)
                | exact Rows.mono h1 (fun _ _ he => hnil _ _ he)
            | halt e w' =>
              cases e <;> simp only [Oper.upon] at h1 ⊢
              obtain ⟨G', st, ⟨he, _⟩, _⟩ := h1
              cases he
          · cases he
        · rename_i hw
          simp only [hw]
          exact hnil _ _ h1
  have hinit : Inv K N G ⟨envS l.toArray (V fun _ => []) (Array.replicate l.length false) n E, Ms (fun _ => []) 0⟩ a w.drew := by
    rw [s.m0]
    refine inv_E hi' (fun t v hr => ?_)
    obtain ⟨_, p2⟩ := envS_get (ops := l.toArray) (V fun _ => []) (Array.replicate l.length false) E t n (fun i j => hdst' t i j)
    rw [p2 (fun i _ _ => getD_replicate_false _ _)]
    exact hr
  have htodo : todo (Array.replicate l.length false) n = n := by
    simp only [todo]
    rw [List.filter_eq_self.2 (fun i _ => by rw [getD_replicate_false]; rfl)]
    simp
  have := body n (Array.replicate l.length false) htodo (by simp) (fun k _ => getD_replicate_false _ _) (fun k j hk => by rw [getD_replicate_false] at hk; cases hk) (fun _ => []) 0 (Nat.zero_le _) (fun k hk => by omega) (fun k _ _ _ => getD_replicate_false _ _) G a w.drew hinit
  simpa [show n + (l.length - n) = l.length from by omega] using this
theorem seqT_eqb (hT : TOk P T) {l : List Oper} {n : Nat} {t t' d : Nat} {x y : Operand} {a b : Bool} (ho : o.op = .binOp .eql t x y t') (ht : kindOf T t = some .bool) (hx : opA F x = .bool a) (hy : opA F y = .bool b) (hg : guardOn ops o F = some true) (hd : o.dst = some d) (hN : Nat.blt d N = true)
    (next : SeqT P N ops Q M ((d, .bool (a == b)) :: F) n l) : SeqT P N ops Q M F (n + 1) (o :: l) := by
  refine seqT_y (x := .bool (a == b)) (fun E hE rest Q next => ?_) hd next
  refine aops_eqb hT ho ht ((agree_op hE (by rw [ho]; simp [Op.operands])).trans hx) ((agree_op hE (by rw [ho]; simp [Op.operands])).trans hy) ((agree_guard hE).trans hg) hd hN ?_
  rwa [hd] at next
/-- Of two answers that hang on one truth: the one. -/
theorem yes_of {f : FuncId} {xs : List A} {p : Prop} {x y : A} (h : p) (hc : ACalls P f xs M (fun r M' => (p ∧ r = x ∨ ¬ p ∧ r = y) ∧ M' = M)) : ACalls P f xs M (fun r M' => r = x ∧ M' = M) :=
  hc.mono fun r M' ⟨h1, h2⟩ => ⟨by rcases h1 with ⟨_, e⟩ | ⟨hn, _⟩; exact e; exact absurd h hn, h2⟩
theorem no_of {f : FuncId} {xs : List A} {p : Prop} {x y : A} (h : ¬ p) (hc : ACalls P f xs M (fun r M' => (p ∧ r = x ∨ ¬ p ∧ r = y) ∧ M' = M)) : ACalls P f xs M (fun r M' => r = y ∧ M' = M) :=
  hc.mono fun r M' ⟨h1, h2⟩ => ⟨by rcases h1 with ⟨hp, _⟩ | ⟨_, e⟩; exact absurd hp h; exact e, h2⟩
end
end Go.Proofs.Ytafncdbkbmaifaa.Ab

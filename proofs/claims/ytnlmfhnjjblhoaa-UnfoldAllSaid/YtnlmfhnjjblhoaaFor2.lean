/- Chapter 20's walk over the nodes of a forest: each behind its kids. No condition. -/
import Derived.Test.YtnlmfhnjjblhoaaTabA
import Derived.Test.YtnlmfhnjjblhoaaFor0
import Derived.Test.YtnlmfhnjjblhoaaAbS
set_option linter.unusedVariables false
set_option linter.unusedSimpArgs false
namespace Go.Proofs.Ytnlmfhnjjblhoaa.Ab
attribute [local irreducible] thenA inBlockA ACode AOps put IntKind.wrap

theorem ndC_len (n : Nd) : (ndC n).length = 4 := rfl
theorem alC_len (a : Al) : (alC a).length = 2 := rfl
theorem nd_at {l : List Nd} {i : Nat} {x : Nd} (h : l[i]? = some x) : ndC x <+: (encs ndC l).drop (i * 4) := encs_at ndC_len h
theorem al_at {l : List Al} {i : Nat} {x : Al} (h : l[i]? = some x) : alC x <+: (encs alC l).drop (i * 2) := encs_at alC_len h
def nums (l : List Nat) : List Int := l.map Int.ofNat

/-- What is known of a walk: which are done, and in which order. -/
structure Wk0 (f : Fo) (st : List Int) (l : List Nat) : Prop where
  len : st.length = f.nodes.length
  topo : Topo f l
  don : ∀ j : Nat, st[j]? = some 2 ↔ j ∈ l
  val : ∀ (j : Nat) x, st[j]? = some x → x = 0 ∨ x = 1 ∨ x = 2
/-- What a walk from a node on leaves. -/
structure Lp (f : Fo) (st1 : List Int) (l0 : List Nat) (st : List Int) (l : List Nat) : Prop where
  w : Wk0 f st l
  one : ∀ j : Nat, st[j]? = some 1 ↔ st1[j]? = some 1
  sub : ∀ j ∈ l0, j ∈ l
  cnt : st.count 0 ≤ st1.count 0
theorem Lp.trans {f : Fo} {a b c : List Int} {l m n : List Nat} (h : Lp f a l b m) (h' : Lp f b m c n) : Lp f a l c n :=
  ⟨h'.w, fun j => (h'.one j).trans (h.one j), fun j hj => h'.sub j (h.sub j hj), Nat.le_trans h'.cnt h.cnt⟩
def Dn (f : Fo) (l : List Nat) (k : Int) : Prop := k < f.nodes.length ∧ ∀ k' : Nat, k = k' → k' ∈ l
theorem Dn.mono {f : Fo} {l m : List Nat} (h : ∀ j ∈ l, j ∈ m) {k : Int} (hk : Dn f l k) : Dn f m k := ⟨hk.1, fun k' e => h k' (hk.2 k' e)⟩
/-- All kids of the Alts ahead are done. -/
def Ahead (f : Fo) (l : List Nat) (ls : List Al) : Prop := ∀ a ∈ ls, ∀ k ∈ a.kids, Dn f l k
theorem Ahead.mono {f : Fo} {l m : List Nat} (h : ∀ j ∈ l, j ∈ m) {ls : List Al} (hk : Ahead f l ls) : Ahead f m ls := fun a ha k hm => (hk a ha k hm).mono h
theorem Ahead.add {f : Fo} {l : List Nat} {ls : List Al} {i : Nat} {a : Al} (hk : Ahead f l (ls.take i)) (ha : ls[i]? = some a) (h : ∀ k ∈ a.kids, Dn f l k) : Ahead f l (ls.take (i + 1)) := by
  intro b hb
  rw [List.take_add_one, ha] at hb
  simp only [Option.toList_some, List.mem_append, List.mem_singleton] at hb
  rcases hb with hb | rfl
  · exact hk b hb
  · exact h
theorem take_add_mem {α : Type} {l : List α} {i : Nat} {x y : α} (hx : l[i]? = some x) (h : y ∈ l.take (i + 1)) : y ∈ l.take i ∨ y = x := by
  rw [List.take_add_one, hx] at h
  simpa using h

theorem wk_open {f : Fo} {st : List Int} {l : List Nat} {i : Nat} (h : Wk0 f st l) (hi : i < f.nodes.length) (h0 : st[i]? = some 0) : Wk0 f (st.set i 1) l ∧ (st.set i 1).count 0 < st.count 0 ∧ (∀ j : Nat, (st.set i 1)[j]? = some 1 ↔ j = i ∨ st[j]? = some 1) := by
  have hlt : i < st.length := by rw [h.len]; exact hi
  have hget : ∀ j : Nat, (st.set i 1)[j]? = if i = j then some 1 else st[j]? := by
    intro j
    rw [List.getElem?_set]
    by_cases e : i = j
    · rw [if_pos e, if_pos e, if_pos hlt]
    · rw [if_neg e, if_neg e]
  refine ⟨⟨by simp [h.len], h.topo, fun j => ?_, fun j x hx => ?_⟩, ?_, fun j => ?_⟩
  · rw [hget, ← h.don]
    by_cases e : i = j
    · rw [if_pos e]; subst e; rw [h0]; simp
    · rw [if_neg e]
  · rw [hget] at hx
    by_cases e : i = j
    · rw [if_pos e] at hx; cases hx; exact .inr (.inl rfl)
    · rw [if_neg e] at hx; exact h.val j x hx
  · rw [List.count_set hlt]
    have e1 : st[i] = 0 := by rw [List.getElem?_eq_getElem hlt] at h0; exact Option.some.inj h0
    have e2 : 0 < st.count 0 := List.count_pos_iff.2 (e1 ▸ List.getElem_mem hlt)
    simp only [e1]
    simp
    omega
  · rw [hget]
    by_cases e : i = j
    · rw [if_pos e]; simp [e]
    · rw [if_neg e]
      constructor
      · exact .inr
      · rintro (h | h)
        · exact absurd h.symm e
        · exact h
theorem wk_close {f : Fo} {st0 st1 st : List Int} {l0 l : List Nat} {i : Nat} (hi : i < f.nodes.length) (h0 : st0[i]? = some 0) (hone : ∀ j : Nat, st1[j]? = some 1 ↔ j = i ∨ st0[j]? = some 1) (hcnt : st1.count 0 < st0.count 0) (h : Lp f st1 l0 st l) (hA : Ahead f l (altsOf f i)) :
    Lp f st0 l0 (st.set i 2) (l ++ [i]) := by
  have hlt : i < st.length := by rw [h.w.len]; exact hi
  have h1 : st[i]? = some 1 := (h.one i).2 ((hone i).2 (.inl rfl))
  have hget : ∀ j : Nat, (st.set i 2)[j]? = if i = j then some 2 else st[j]? := by
    intro j
    rw [List.getElem?_set]
    by_cases e : i = j
    · rw [if_pos e, if_pos e, if_pos hlt]
    · rw [if_neg e, if_neg e]
  refine ⟨⟨by simp [h.w.len], .snoc h.w.topo hi (fun hm => ?_) (fun k ⟨a, ha, hk⟩ => (hA a ha k hk).1) (fun k ⟨a, ha, hk⟩ => (hA a ha k hk).2 k rfl), fun j => ?_, fun j x hx => ?_⟩, fun j => ?_, fun j hj => by simp [h.sub j hj], ?_⟩
  · have := (h.w.don i).2 hm
    rw [h1] at this; cases this
  · rw [hget]
    by_cases e : i = j
    · rw [if_pos e]; simp [e]
    · rw [if_neg e, h.w.don j]; simp; intro h; exact absurd h.symm e
  · rw [hget] at hx
    by_cases e : i = j
    · rw [if_pos e] at hx; cases hx; exact .inr (.inr rfl)
    · rw [if_neg e] at hx; exact h.w.val j x hx
  · rw [hget]
    by_cases e : i = j
    · rw [if_pos e]; subst e; rw [h0]; simp
    · rw [if_neg e, h.one j, hone j]
      constructor
      · rintro (h | h)
        · exact absurd h.symm e
        · exact h
      · exact .inr
  · have := h.cnt
    rw [List.count_set hlt]
    have e1 : st[i] = 1 := by rw [List.getElem?_eq_getElem hlt] at h1; exact Option.some.inj h1
    simp only [e1]
    simp
    omega

abbrev wkM (f : Fo) (b bs : Nat) (ob : Option Nat) (cap : Nat) (st : List Int) (l : List Nat) (M : List Ob) : List Ob :=
  ⟨some b, 4, [.psl f.nodes.length (encs ndC f.nodes), .int .i64 f.root, .own (some bs) f.nodes.length f.nodes.length, .own ob l.length cap]⟩ :: ⟨some bs, f.nodes.length * 1, ints st⟩ :: ⟨ob, cap * 1, ints (nums l)⟩ :: M

theorem nodes_at {f : Fo} {i : Nat} (hi : i < f.nodes.length) : ∃ n, f.nodes[i]? = some n ∧ n ∈ f.nodes ∧ altsOf f i = n.alts := by
  refine ⟨f.nodes[i], List.getElem?_eq_getElem hi, List.getElem_mem hi, ?_⟩
  simp [altsOf, List.getElem?_eq_getElem hi]
theorem nums_app (l m : List Nat) : nums (l ++ m) = nums l ++ nums m := by simp [nums]
theorem nums_len (l : List Nat) : (nums l).length = l.length := by simp [nums]
set_option maxHeartbeats 4000000 in
theorem node_calls {f : Fo} (hf : FoOk f) (b bs : Nat) (M : List Ob) : ∀ (m : Nat) (st : List Int) (l : List Nat) (ob : Option Nat) (cap i : Nat), st.count 0 < m → Wk0 f st l → (∀ o : Nat, st[o]? = some 1 → Rch f o i) → i < f.nodes.length →
    ACalls Try.prog 65 [.ref b 0, .int .i64 i] (wkM f b bs ob cap st l M) (fun r M' => (r = .bool true ∧ WF f i ∧ ∃ st' l' ob' cap', M' = wkM f b bs ob' cap' st' l' M ∧ Lp f st l st' l' ∧ i ∈ l') ∨ (r = .bool false ∧ ¬ WF f i ∧ ∃ o1 o2 o3, M' = o1 :: o2 :: o3 :: M)) := by
  intro m
  induction m with
  | zero => intro st l ob cap i hm; omega
  | succ m ih =>
    intro st l ob cap i hm hw hopen hi
    obtain ⟨hf1, hf2⟩ := hf
    have hlt : i < st.length := by rw [hw.len]; exact hi
    obtain ⟨s, hs⟩ : ∃ s, st[i]? = some s := ⟨st[i], List.getElem?_eq_getElem hlt⟩
    have hsA : (ints st)[i * 1]? = some (A.int .i64 s) := by rw [Nat.mul_one]; exact ints_get hs
    refine acalls_of_code 88 Try.func65 rfl rfl rfl ?_
    repeat (first | refine aops_put rfl ?_ | refine aops_end ?_ | refine aops_endb ?_ | refine aops_o rfl rfl rfl ?_ | refine aops_max tok rfl rfl rfl rfl rfl rfl ?_ | refine aops_min tok rfl rfl rfl rfl rfl rfl ?_ | refine aops_a tok rfl (by omega) (by omega) rfl rfl rfl ?_ | refine aops_p tok rfl rfl rfl rfl ?_ | refine aops_ixa tok rfl rfl rfl (by decide) rfl rfl rfl rfl ?_ | refine aops_ld tok 0 rfl rfl rfl rfl rfl rfl rfl rfl ?_ | refine aops_ld tok 1 rfl rfl rfl rfl rfl rfl rfl rfl ?_ | refine aops_stn tok rfl rfl rfl rfl rfl rfl rfl rfl rfl ?_ | refine aops_stn1 tok rfl rfl rfl rfl rfl rfl rfl rfl rfl ?_ | refine acode_seq ?_ | refine acode_region ?_ | refine acode_block ?_ | refine acode_skip ?_ | refine then_n ?_ | refine block_n ?_)
    refine aops_ixo tok rfl rfl rfl rfl (by omega) (by omega) rfl rfl rfl ?_
    refine aops_ld tok 1 (y := .int .i64 s) rfl rfl rfl rfl (by rw [headed_eq]; exact hsA) rfl rfl rfl ?_
    repeat' (first | refine aops_put rfl ?_ | refine aops_end ?_ | refine aops_endb ?_ | refine aops_o rfl rfl rfl ?_ | refine aops_max tok rfl rfl rfl rfl rfl rfl ?_ | refine aops_min tok rfl rfl rfl rfl rfl rfl ?_ | refine aops_a tok rfl (by omega) (by omega) rfl rfl rfl ?_ | (refine aops_pd tok rfl rfl rfl rfl ?_ ?_ <;> intro e_) | (refine aops_pe tok rfl rfl rfl rfl ?_ ?_ <;> intro e_) | (refine aops_pn tok rfl rfl rfl rfl ?_ ?_ <;> intro e_) | refine aops_p tok rfl rfl rfl rfl ?_ | refine acode_it rfl ?_ | refine acode_if rfl ?_ | refine aops_ixa tok rfl rfl rfl (by decide) rfl rfl rfl rfl ?_ | refine aops_ld tok 0 rfl rfl rfl rfl rfl rfl rfl rfl ?_ | refine aops_ld tok 1 rfl rfl rfl rfl rfl rfl rfl rfl ?_ | refine aops_stn tok rfl rfl rfl rfl rfl rfl rfl rfl rfl ?_ | refine aops_stn1 tok rfl rfl rfl rfl rfl rfl rfl rfl rfl ?_ | refine acode_seq ?_ | refine acode_region ?_ | refine acode_block ?_ | refine acode_skip ?_ | refine then_n ?_ | refine block_n ?_)
    · -- seen
      refine aops_ixo tok rfl rfl rfl rfl (by omega) (by omega) rfl rfl rfl ?_
      refine aops_ld tok 1 (y := .int .i64 s) rfl rfl rfl rfl (by rw [headed_eq]; exact hsA) rfl rfl rfl ?_
      have hne := e_
      repeat' (first | refine aops_put rfl ?_ | refine aops_end ?_ | refine aops_endb ?_ | refine aops_o rfl rfl rfl ?_ | refine aops_max tok rfl rfl rfl rfl rfl rfl ?_ | refine aops_min tok rfl rfl rfl rfl rfl rfl ?_ | refine aops_a tok rfl (by omega) (by omega) rfl rfl rfl ?_ | (refine aops_pd tok rfl rfl rfl rfl ?_ ?_ <;> intro e_) | (refine aops_pe tok rfl rfl rfl rfl ?_ ?_ <;> intro e_) | (refine aops_pn tok rfl rfl rfl rfl ?_ ?_ <;> intro e_) | refine aops_p tok rfl rfl rfl rfl ?_ | refine acode_it rfl ?_ | refine acode_if rfl ?_ | refine aops_ixa tok rfl rfl rfl (by decide) rfl rfl rfl rfl ?_ | refine aops_ld tok 0 rfl rfl rfl rfl rfl rfl rfl rfl ?_ | refine aops_ld tok 1 rfl rfl rfl rfl rfl rfl rfl rfl ?_ | refine aops_stn tok rfl rfl rfl rfl rfl rfl rfl rfl rfl ?_ | refine aops_stn1 tok rfl rfl rfl rfl rfl rfl rfl rfl rfl ?_ | refine acode_seq ?_ | refine acode_region ?_ | refine acode_block ?_ | refine acode_skip ?_ | refine then_n ?_ | refine block_n ?_)
      · subst e_
        refine acode_ret ?_
        repeat (first | refine exit_then ?_ | refine exit_here ?_ | refine exit_out rfl ?_ | refine ret_then ?_ | refine ret_block ?_ | refine then_n ?_ | refine block_n ?_)
        have hmem := (hw.don i).1 hs
        exact ⟨.bool true, .inl ⟨rfl, hw.topo.wf i hmem, st, l, ob, cap, rfl, ⟨hw, fun _ => Iff.rfl, fun _ h => h, Nat.le_refl _⟩, hmem⟩, resOf_tmp rfl⟩
      · refine acode_ret ?_
        repeat (first | refine exit_then ?_ | refine exit_here ?_ | refine exit_out rfl ?_ | refine ret_then ?_ | refine ret_block ?_ | refine then_n ?_ | refine block_n ?_)
        have h1 : st[i]? = some 1 := by rcases hw.val i s hs with rfl | rfl | rfl; exact absurd rfl hne; exact hs; exact absurd rfl e_
        exact ⟨.bool false, .inr ⟨rfl, fun hwf => hwf.noring (hopen i h1), _, _, _, rfl⟩, resOf_tmp rfl⟩
    · subst e_
      obtain ⟨hw1, hc1, hone1⟩ := wk_open hw hi hs
      obtain ⟨nd, hnd, hndm, hal⟩ := nodes_at hi
      obtain ⟨hal1, hal2⟩ := hf2 nd hndm
      repeat (first | refine aops_put rfl ?_ | refine aops_end ?_ | refine aops_endb ?_ | refine aops_o rfl rfl rfl ?_ | refine aops_max tok rfl rfl rfl rfl rfl rfl ?_ | refine aops_min tok rfl rfl rfl rfl rfl rfl ?_ | refine aops_a tok rfl (by omega) (by omega) rfl rfl rfl ?_ | refine aops_p tok rfl rfl rfl rfl ?_ | refine aops_ixa tok rfl rfl rfl (by decide) rfl rfl rfl rfl ?_ | refine aops_ld tok 0 rfl rfl rfl rfl rfl rfl rfl rfl ?_ | refine aops_ld tok 1 rfl rfl rfl rfl rfl rfl rfl rfl ?_ | refine aops_stn tok rfl rfl rfl rfl rfl rfl rfl rfl rfl ?_ | refine aops_stn1 tok rfl rfl rfl rfl rfl rfl rfl rfl rfl ?_ | refine acode_seq ?_ | refine acode_region ?_ | refine acode_block ?_ | refine acode_skip ?_ | refine then_n ?_ | refine block_n ?_)
      refine aops_ixo tok rfl rfl rfl rfl (by omega) (by omega) rfl rfl rfl ?_
      refine aops_stk tok 1 (ints (st.set i 1)) (wkM f b bs ob cap (st.set i 1) l M) rfl rfl rfl rfl rfl rfl (by rw [ints_len]; show i * 1 + 1 ≤ _; omega) (ints_set1 hlt 1) rfl rfl rfl ?_
      have hL0 : Lp f (st.set i 1) l (st.set i 1) l := ⟨hw1, fun _ => Iff.rfl, fun _ h => h, Nat.le_refl _⟩
      generalize st.set i 1 = st1 at *
      repeat (first | refine aops_put rfl ?_ | refine aops_end ?_ | refine aops_endb ?_ | refine aops_o rfl rfl rfl ?_ | refine aops_max tok rfl rfl rfl rfl rfl rfl ?_ | refine aops_min tok rfl rfl rfl rfl rfl rfl ?_ | refine aops_a tok rfl (by omega) (by omega) rfl rfl rfl ?_ | refine aops_p tok rfl rfl rfl rfl ?_ | refine aops_ixa tok rfl rfl rfl (by decide) rfl rfl rfl rfl ?_ | refine aops_ld tok 0 rfl rfl rfl rfl rfl rfl rfl rfl ?_ | refine aops_ld tok 1 rfl rfl rfl rfl rfl rfl rfl rfl ?_ | refine aops_stn tok rfl rfl rfl rfl rfl rfl rfl rfl rfl ?_ | refine aops_stn1 tok rfl rfl rfl rfl rfl rfl rfl rfl rfl ?_ | refine acode_seq ?_ | refine acode_region ?_ | refine acode_block ?_ | refine acode_skip ?_ | refine then_n ?_ | refine block_n ?_)
      refine aops_ix tok (ndC nd) rfl rfl rfl rfl (by omega) (by omega) (by simp [ndC]) (nd_at hnd) rfl rfl rfl ?_
      repeat (first | refine aops_put rfl ?_ | refine aops_end ?_ | refine aops_endb ?_ | refine aops_o rfl rfl rfl ?_ | refine aops_max tok rfl rfl rfl rfl rfl rfl ?_ | refine aops_min tok rfl rfl rfl rfl rfl rfl ?_ | refine aops_a tok rfl (by omega) (by omega) rfl rfl rfl ?_ | refine aops_p tok rfl rfl rfl rfl ?_ | refine aops_ixa tok rfl rfl rfl (by decide) rfl rfl rfl rfl ?_ | refine aops_ld tok 0 rfl rfl rfl rfl rfl rfl rfl rfl ?_ | refine aops_ld tok 1 rfl rfl rfl rfl rfl rfl rfl rfl ?_ | refine aops_stn tok rfl rfl rfl rfl rfl rfl rfl rfl rfl ?_ | refine aops_stn1 tok rfl rfl rfl rfl rfl rfl rfl rfl rfl ?_ | refine acode_seq ?_ | refine acode_region ?_ | refine acode_block ?_ | refine acode_skip ?_ | refine then_n ?_ | refine block_n ?_)
      refine acode_loopS (ι := Nat × List Int × List Nat × Option Nat × Nat) (fun p => [(0, .ref b 0), (1, .int .i64 i), (39, .psl nd.alts.length (encs alC nd.alts)), (40, .int .i64 nd.alts.length), (41, .int .i64 p.1)]) (fun p => wkM f b bs p.2.2.2.1 p.2.2.2.2 p.2.1 p.2.2.1 M) (fun p => nd.alts.length - p.1) (fun p => p.1 ≤ nd.alts.length ∧ Lp f st1 l p.2.1 p.2.2.1 ∧ Ahead f p.2.2.1 (nd.alts.take p.1)) (0, st1, l, ob, cap) ⟨Nat.zero_le _, hL0, by simp [Ahead]⟩ ⟨rfl, rfl, rfl, rfl, rfl, trivial⟩ rfl ?_
      rintro ⟨ai, st2, l2, ob2, cap2⟩ ⟨hai, hL2, hA2⟩
      simp only at hai hL2 hA2 ⊢
      repeat (first | refine aops_put rfl ?_ | refine aops_end ?_ | refine aops_endb ?_ | refine aops_o rfl rfl rfl ?_ | refine aops_max tok rfl rfl rfl rfl rfl rfl ?_ | refine aops_min tok rfl rfl rfl rfl rfl rfl ?_ | refine aops_a tok rfl (by omega) (by omega) rfl rfl rfl ?_ | refine aops_p tok rfl rfl rfl rfl ?_ | refine aops_ixa tok rfl rfl rfl (by decide) rfl rfl rfl rfl ?_ | refine aops_ld tok 0 rfl rfl rfl rfl rfl rfl rfl rfl ?_ | refine aops_ld tok 1 rfl rfl rfl rfl rfl rfl rfl rfl ?_ | refine aops_stn tok rfl rfl rfl rfl rfl rfl rfl rfl rfl ?_ | refine aops_stn1 tok rfl rfl rfl rfl rfl rfl rfl rfl rfl ?_ | refine acode_seq ?_ | refine acode_region ?_ | refine acode_block ?_ | refine acode_skip ?_ | refine then_n ?_ | refine block_n ?_)
      refine acode_id rfl (fun e => ?_) (fun e => ?_)
      · have hail : ai < nd.alts.length := by omega
        obtain ⟨a, ha⟩ : ∃ a, nd.alts[ai]? = some a := ⟨nd.alts[ai], List.getElem?_eq_getElem hail⟩
        have ham := List.mem_of_getElem? ha
        have hkl := hal2 a ham
        repeat (first | refine aops_put rfl ?_ | refine aops_end ?_ | refine aops_endb ?_ | refine aops_o rfl rfl rfl ?_ | refine aops_max tok rfl rfl rfl rfl rfl rfl ?_ | refine aops_min tok rfl rfl rfl rfl rfl rfl ?_ | refine aops_a tok rfl (by omega) (by omega) rfl rfl rfl ?_ | refine aops_p tok rfl rfl rfl rfl ?_ | refine aops_ixa tok rfl rfl rfl (by decide) rfl rfl rfl rfl ?_ | refine aops_ld tok 0 rfl rfl rfl rfl rfl rfl rfl rfl ?_ | refine aops_ld tok 1 rfl rfl rfl rfl rfl rfl rfl rfl ?_ | refine aops_stn tok rfl rfl rfl rfl rfl rfl rfl rfl rfl ?_ | refine aops_stn1 tok rfl rfl rfl rfl rfl rfl rfl rfl rfl ?_ | refine acode_seq ?_ | refine acode_region ?_ | refine acode_block ?_ | refine acode_skip ?_ | refine then_n ?_ | refine block_n ?_)
        refine aops_ix tok (alC a) rfl rfl rfl rfl (by omega) (by omega) (by simp [alC]) (al_at ha) rfl rfl rfl ?_
        repeat (first | refine aops_put rfl ?_ | refine aops_end ?_ | refine aops_endb ?_ | refine aops_o rfl rfl rfl ?_ | refine aops_max tok rfl rfl rfl rfl rfl rfl ?_ | refine aops_min tok rfl rfl rfl rfl rfl rfl ?_ | refine aops_a tok rfl (by omega) (by omega) rfl rfl rfl ?_ | refine aops_p tok rfl rfl rfl rfl ?_ | refine aops_ixa tok rfl rfl rfl (by decide) rfl rfl rfl rfl ?_ | refine aops_ld tok 0 rfl rfl rfl rfl rfl rfl rfl rfl ?_ | refine aops_ld tok 1 rfl rfl rfl rfl rfl rfl rfl rfl ?_ | refine aops_stn tok rfl rfl rfl rfl rfl rfl rfl rfl rfl ?_ | refine aops_stn1 tok rfl rfl rfl rfl rfl rfl rfl rfl rfl ?_ | refine acode_seq ?_ | refine acode_region ?_ | refine acode_block ?_ | refine acode_skip ?_ | refine then_n ?_ | refine block_n ?_)
        refine aops_alloc tok rfl rfl rfl rfl rfl rfl fun ba => ?_
        refine aops_stn tok rfl rfl rfl rfl rfl rfl rfl rfl rfl ?_
        refine aops_pubref0 6 rfl ?_
        repeat (first | refine aops_put rfl ?_ | refine aops_end ?_ | refine aops_endb ?_ | refine aops_o rfl rfl rfl ?_ | refine aops_max tok rfl rfl rfl rfl rfl rfl ?_ | refine aops_min tok rfl rfl rfl rfl rfl rfl ?_ | refine aops_a tok rfl (by omega) (by omega) rfl rfl rfl ?_ | refine aops_p tok rfl rfl rfl rfl ?_ | refine aops_ixa tok rfl rfl rfl (by decide) rfl rfl rfl rfl ?_ | refine aops_ld tok 0 rfl rfl rfl rfl rfl rfl rfl rfl ?_ | refine aops_ld tok 1 rfl rfl rfl rfl rfl rfl rfl rfl ?_ | refine aops_stn tok rfl rfl rfl rfl rfl rfl rfl rfl rfl ?_ | refine aops_stn1 tok rfl rfl rfl rfl rfl rfl rfl rfl rfl ?_ | refine acode_seq ?_ | refine acode_region ?_ | refine acode_block ?_ | refine acode_skip ?_ | refine then_n ?_ | refine block_n ?_)
        refine acode_loopS (ι := Nat × List Int × List Nat × Option Nat × Nat) (fun p => [(0, .ref b 0), (1, .int .i64 i), (39, .psl nd.alts.length (encs alC nd.alts)), (40, .int .i64 nd.alts.length), (41, .int .i64 ai), (46, .psl a.kids.length (ints a.kids)), (47, .int .i64 a.kids.length), (48, .int .i64 p.1)]) (fun p => wkM f b bs p.2.2.2.1 p.2.2.2.2 p.2.1 p.2.2.1 M) (fun p => a.kids.length - p.1) (fun p => p.1 ≤ a.kids.length ∧ Lp f st1 l p.2.1 p.2.2.1 ∧ Ahead f p.2.2.1 (nd.alts.take ai) ∧ ∀ k ∈ a.kids.take p.1, Dn f p.2.2.1 k) (0, st2, l2, ob2, cap2) ⟨Nat.zero_le _, hL2, hA2, by simp⟩ ⟨rfl, rfl, rfl, rfl, rfl, rfl, rfl, rfl, trivial⟩ rfl ?_
        clear hL2 hA2 st2 l2 ob2 cap2
        rintro ⟨ki, st2, l2, ob2, cap2⟩ ⟨hki, hL2, hA2, hK2⟩
        simp only at hki hL2 hA2 hK2 ⊢
        repeat (first | refine aops_put rfl ?_ | refine aops_end ?_ | refine aops_endb ?_ | refine aops_o rfl rfl rfl ?_ | refine aops_max tok rfl rfl rfl rfl rfl rfl ?_ | refine aops_min tok rfl rfl rfl rfl rfl rfl ?_ | refine aops_a tok rfl (by omega) (by omega) rfl rfl rfl ?_ | refine aops_p tok rfl rfl rfl rfl ?_ | refine aops_ixa tok rfl rfl rfl (by decide) rfl rfl rfl rfl ?_ | refine aops_ld tok 0 rfl rfl rfl rfl rfl rfl rfl rfl ?_ | refine aops_ld tok 1 rfl rfl rfl rfl rfl rfl rfl rfl ?_ | refine aops_stn tok rfl rfl rfl rfl rfl rfl rfl rfl rfl ?_ | refine aops_stn1 tok rfl rfl rfl rfl rfl rfl rfl rfl rfl ?_ | refine acode_seq ?_ | refine acode_region ?_ | refine acode_block ?_ | refine acode_skip ?_ | refine then_n ?_ | refine block_n ?_)
        refine acode_id rfl (fun e2 => ?_) (fun e2 => ?_)
        · have hkil : ki < a.kids.length := by omega
          obtain ⟨k, hk⟩ : ∃ k, a.kids[ki]? = some k := ⟨a.kids[ki], List.getElem?_eq_getElem hkil⟩
          have hkid : Kid f i k := ⟨a, by rw [hal]; exact ham, List.mem_of_getElem? hk⟩
          repeat (first | refine aops_put rfl ?_ | refine aops_end ?_ | refine aops_endb ?_ | refine aops_o rfl rfl rfl ?_ | refine aops_max tok rfl rfl rfl rfl rfl rfl ?_ | refine aops_min tok rfl rfl rfl rfl rfl rfl ?_ | refine aops_a tok rfl (by omega) (by omega) rfl rfl rfl ?_ | refine aops_p tok rfl rfl rfl rfl ?_ | refine aops_ixa tok rfl rfl rfl (by decide) rfl rfl rfl rfl ?_ | refine aops_ld tok 0 rfl rfl rfl rfl rfl rfl rfl rfl ?_ | refine aops_ld tok 1 rfl rfl rfl rfl rfl rfl rfl rfl ?_ | refine aops_stn tok rfl rfl rfl rfl rfl rfl rfl rfl rfl ?_ | refine aops_stn1 tok rfl rfl rfl rfl rfl rfl rfl rfl rfl ?_ | refine acode_seq ?_ | refine acode_region ?_ | refine acode_block ?_ | refine acode_skip ?_ | refine then_n ?_ | refine block_n ?_)
          refine aops_ix tok [A.int .i64 k] rfl rfl rfl rfl (by omega) (by omega) (by simp) (ints_at (j := ki) (by simpa using hk)) rfl rfl rfl ?_
          repeat' (first | refine aops_put rfl ?_ | refine aops_end ?_ | refine aops_endb ?_ | refine aops_o rfl rfl rfl ?_ | refine aops_max tok rfl rfl rfl rfl rfl rfl ?_ | refine aops_min tok rfl rfl rfl rfl rfl rfl ?_ | refine aops_a tok rfl (by omega) (by omega) rfl rfl rfl ?_ | (refine aops_pd tok rfl rfl rfl rfl ?_ ?_ <;> intro e_) | (refine aops_pe tok rfl rfl rfl rfl ?_ ?_ <;> intro e_) | (refine aops_pn tok rfl rfl rfl rfl ?_ ?_ <;> intro e_) | refine aops_p tok rfl rfl rfl rfl ?_ | refine acode_it rfl ?_ | refine acode_if rfl ?_ | refine aops_ixa tok rfl rfl rfl (by decide) rfl rfl rfl rfl ?_ | refine aops_ld tok 0 rfl rfl rfl rfl rfl rfl rfl rfl ?_ | refine aops_ld tok 1 rfl rfl rfl rfl rfl rfl rfl rfl ?_ | refine aops_stn tok rfl rfl rfl rfl rfl rfl rfl rfl rfl ?_ | refine aops_stn1 tok rfl rfl rfl rfl rfl rfl rfl rfl rfl ?_ | refine acode_seq ?_ | refine acode_region ?_ | refine acode_block ?_ | refine acode_skip ?_ | refine then_n ?_ | refine block_n ?_)
          · -- no node
            refine acode_ret ?_
            repeat (first | refine exit_then ?_ | refine exit_here ?_ | refine exit_out rfl ?_ | refine ret_then ?_ | refine ret_block ?_ | refine then_n ?_ | refine block_n ?_)
            exact ⟨.bool false, .inr ⟨rfl, fun hwf => by have := hwf.small hkid; omega, _, _, _, rfl⟩, resOf_tmp rfl⟩
          · -- one
            obtain ⟨k', rfl⟩ : ∃ k' : Nat, k = k' := ⟨k.toNat, by omega⟩
            have hkn : k' < f.nodes.length := by omega
            refine aops_call Try.func65 rfl rfl rfl rfl (ih st2 l2 ob2 cap2 k' (by have := hL2.cnt; omega) hL2.w (fun o ho => ?_) hkn) rfl rfl ?_
            · rcases (hone1 o).1 ((hL2.one o).1 ho) with rfl | h
              · exact .one hkid
              · exact (hopen o h).snoc hkid
            · rintro x M' (⟨rfl, hwf, st3, l3, ob3, cap3, rfl, hL3, hm3⟩ | ⟨rfl, hwf, o1, o2, o3, rfl⟩)
              · repeat' (first | refine aops_put rfl ?_ | refine aops_end ?_ | refine aops_endb ?_ | refine aops_o rfl rfl rfl ?_ | refine aops_max tok rfl rfl rfl rfl rfl rfl ?_ | refine aops_min tok rfl rfl rfl rfl rfl rfl ?_ | refine aops_a tok rfl (by omega) (by omega) rfl rfl rfl ?_ | (refine aops_pd tok rfl rfl rfl rfl ?_ ?_ <;> intro e_) | (refine aops_pe tok rfl rfl rfl rfl ?_ ?_ <;> intro e_) | (refine aops_pn tok rfl rfl rfl rfl ?_ ?_ <;> intro e_) | refine aops_p tok rfl rfl rfl rfl ?_ | refine acode_it rfl ?_ | refine acode_if rfl ?_ | refine aops_ixa tok rfl rfl rfl (by decide) rfl rfl rfl rfl ?_ | refine aops_ld tok 0 rfl rfl rfl rfl rfl rfl rfl rfl ?_ | refine aops_ld tok 1 rfl rfl rfl rfl rfl rfl rfl rfl ?_ | refine aops_stn tok rfl rfl rfl rfl rfl rfl rfl rfl rfl ?_ | refine aops_stn1 tok rfl rfl rfl rfl rfl rfl rfl rfl rfl ?_ | refine acode_seq ?_ | refine acode_region ?_ | refine acode_block ?_ | refine acode_skip ?_ | refine then_n ?_ | refine block_n ?_)
                refine ⟨(ki + 1, st3, l3, ob3, cap3), ⟨by simp; omega, hL2.trans hL3, hA2.mono hL3.sub, fun k hkm => ?_⟩, by simp; omega, ⟨rfl, rfl, rfl, rfl, rfl, rfl, rfl, rfl, trivial⟩, rfl⟩
                rcases take_add_mem hk hkm with hkm | rfl
                · exact (hK2 k hkm).mono hL3.sub
                · exact ⟨by omega, fun k2 e => by rw [← Int.ofNat_inj.1 e]; exact hm3⟩
              · repeat' (first | refine aops_put rfl ?_ | refine aops_end ?_ | refine aops_endb ?_ | refine aops_o rfl rfl rfl ?_ | refine aops_max tok rfl rfl rfl rfl rfl rfl ?_ | refine aops_min tok rfl rfl rfl rfl rfl rfl ?_ | refine aops_a tok rfl (by omega) (by omega) rfl rfl rfl ?_ | (refine aops_pd tok rfl rfl rfl rfl ?_ ?_ <;> intro e_) | (refine aops_pe tok rfl rfl rfl rfl ?_ ?_ <;> intro e_) | (refine aops_pn tok rfl rfl rfl rfl ?_ ?_ <;> intro e_) | refine aops_p tok rfl rfl rfl rfl ?_ | refine acode_it rfl ?_ | refine acode_if rfl ?_ | refine aops_ixa tok rfl rfl rfl (by decide) rfl rfl rfl rfl ?_ | refine aops_ld tok 0 rfl rfl rfl rfl rfl rfl rfl rfl ?_ | refine aops_ld tok 1 rfl rfl rfl rfl rfl rfl rfl rfl ?_ | refine aops_stn tok rfl rfl rfl rfl rfl rfl rfl rfl rfl ?_ | refine aops_stn1 tok rfl rfl rfl rfl rfl rfl rfl rfl rfl ?_ | refine acode_seq ?_ | refine acode_region ?_ | refine acode_block ?_ | refine acode_skip ?_ | refine then_n ?_ | refine block_n ?_)
                refine acode_ret ?_
                repeat (first | refine exit_then ?_ | refine exit_here ?_ | refine exit_out rfl ?_ | refine ret_then ?_ | refine ret_block ?_ | refine then_n ?_ | refine block_n ?_)
                exact ⟨.bool false, .inr ⟨rfl, fun h => hwf (h.kid hkid), _, _, _, rfl⟩, resOf_tmp rfl⟩
          · -- a token
            refine ⟨(ki + 1, st2, l2, ob2, cap2), ⟨by simp; omega, hL2, hA2, fun k2 hkm => ?_⟩, by simp; omega, ⟨rfl, rfl, rfl, rfl, rfl, rfl, rfl, rfl, trivial⟩, rfl⟩
            rcases take_add_mem hk hkm with hkm | rfl
            · exact hK2 k2 hkm
            · exact ⟨by omega, fun k3 e => by omega⟩
        · have hge : ki = a.kids.length := by omega
          subst hge
          rw [List.take_length] at hK2
          refine acode_exit ?_
          repeat (first | refine exit_then ?_ | refine exit_here ?_ | refine exit_out rfl ?_ | refine ret_then ?_ | refine ret_block ?_ | refine then_n ?_ | refine block_n ?_)
          repeat (first | refine aops_put rfl ?_ | refine aops_end ?_ | refine aops_endb ?_ | refine aops_o rfl rfl rfl ?_ | refine aops_max tok rfl rfl rfl rfl rfl rfl ?_ | refine aops_min tok rfl rfl rfl rfl rfl rfl ?_ | refine aops_a tok rfl (by omega) (by omega) rfl rfl rfl ?_ | refine aops_p tok rfl rfl rfl rfl ?_ | refine aops_ixa tok rfl rfl rfl (by decide) rfl rfl rfl rfl ?_ | refine aops_ld tok 0 rfl rfl rfl rfl rfl rfl rfl rfl ?_ | refine aops_ld tok 1 rfl rfl rfl rfl rfl rfl rfl rfl ?_ | refine aops_stn tok rfl rfl rfl rfl rfl rfl rfl rfl rfl ?_ | refine aops_stn1 tok rfl rfl rfl rfl rfl rfl rfl rfl rfl ?_ | refine acode_seq ?_ | refine acode_region ?_ | refine acode_block ?_ | refine acode_skip ?_ | refine then_n ?_ | refine block_n ?_)
          exact ⟨(ai + 1, st2, l2, ob2, cap2), ⟨by simp; omega, hL2, hA2.add ha hK2⟩, by simp; omega, ⟨rfl, rfl, rfl, rfl, rfl, trivial⟩, rfl⟩
      · have hge : ai = nd.alts.length := by omega
        subst hge
        rw [List.take_length, ← hal] at hA2
        have hlt2 : i < st2.length := by rw [hL2.w.len]; exact hi
        have hfin := wk_close hi hs hone1 hc1 hL2 hA2
        have hlen := hfin.w.topo.len
        simp only [List.length_append, List.length_singleton] at hlen
        refine acode_exit ?_
        repeat (first | refine exit_then ?_ | refine exit_here ?_ | refine exit_out rfl ?_ | refine ret_then ?_ | refine ret_block ?_ | refine then_n ?_ | refine block_n ?_)
        repeat (first | refine aops_put rfl ?_ | refine aops_end ?_ | refine aops_endb ?_ | refine aops_o rfl rfl rfl ?_ | refine aops_max tok rfl rfl rfl rfl rfl rfl ?_ | refine aops_min tok rfl rfl rfl rfl rfl rfl ?_ | refine aops_a tok rfl (by omega) (by omega) rfl rfl rfl ?_ | refine aops_p tok rfl rfl rfl rfl ?_ | refine aops_ixa tok rfl rfl rfl (by decide) rfl rfl rfl rfl ?_ | refine aops_ld tok 0 rfl rfl rfl rfl rfl rfl rfl rfl ?_ | refine aops_ld tok 1 rfl rfl rfl rfl rfl rfl rfl rfl ?_ | refine aops_stn tok rfl rfl rfl rfl rfl rfl rfl rfl rfl ?_ | refine aops_stn1 tok rfl rfl rfl rfl rfl rfl rfl rfl rfl ?_ | refine acode_seq ?_ | refine acode_region ?_ | refine acode_block ?_ | refine acode_skip ?_ | refine then_n ?_ | refine block_n ?_)
        refine aops_ixo tok rfl rfl rfl rfl (by omega) (by omega) rfl rfl rfl ?_
        refine aops_stk tok 1 (ints (st2.set i 2)) (wkM f b bs ob2 cap2 (st2.set i 2) l2 M) rfl rfl rfl rfl rfl rfl (by rw [ints_len]; show i * 1 + 1 ≤ _; omega) (ints_set1 hlt2 2) rfl rfl rfl ?_
        repeat (first | refine aops_put rfl ?_ | refine aops_end ?_ | refine aops_endb ?_ | refine aops_o rfl rfl rfl ?_ | refine aops_max tok rfl rfl rfl rfl rfl rfl ?_ | refine aops_min tok rfl rfl rfl rfl rfl rfl ?_ | refine aops_a tok rfl (by omega) (by omega) rfl rfl rfl ?_ | refine aops_p tok rfl rfl rfl rfl ?_ | refine aops_ixa tok rfl rfl rfl (by decide) rfl rfl rfl rfl ?_ | refine aops_ld tok 0 rfl rfl rfl rfl rfl rfl rfl rfl ?_ | refine aops_ld tok 1 rfl rfl rfl rfl rfl rfl rfl rfl ?_ | refine aops_stn tok rfl rfl rfl rfl rfl rfl rfl rfl rfl ?_ | refine aops_stn1 tok rfl rfl rfl rfl rfl rfl rfl rfl rfl ?_ | refine acode_seq ?_ | refine acode_region ?_ | refine acode_block ?_ | refine acode_skip ?_ | refine then_n ?_ | refine block_n ?_)
        refine aops_litf tok rfl rfl rfl rfl rfl rfl rfl ?_
        refine aops_append tok 2 (m := 1) (ds := ints (nums [i])) rfl rfl rfl (.inl rfl) rfl rfl (by rw [ints_len, nums_len]; exact (Nat.mul_one _).symm) rfl rfl rfl (by show _ * 8 ≤ _; omega) (by omega) rfl rfl fun ob3 cap3 => ?_
        repeat (first | refine aops_put rfl ?_ | refine aops_end ?_ | refine aops_endb ?_ | refine aops_o rfl rfl rfl ?_ | refine aops_max tok rfl rfl rfl rfl rfl rfl ?_ | refine aops_min tok rfl rfl rfl rfl rfl rfl ?_ | refine aops_a tok rfl (by omega) (by omega) rfl rfl rfl ?_ | refine aops_p tok rfl rfl rfl rfl ?_ | refine aops_ixa tok rfl rfl rfl (by decide) rfl rfl rfl rfl ?_ | refine aops_ld tok 0 rfl rfl rfl rfl rfl rfl rfl rfl ?_ | refine aops_ld tok 1 rfl rfl rfl rfl rfl rfl rfl rfl ?_ | refine aops_stn tok rfl rfl rfl rfl rfl rfl rfl rfl rfl ?_ | refine aops_stn1 tok rfl rfl rfl rfl rfl rfl rfl rfl rfl ?_ | refine acode_seq ?_ | refine acode_region ?_ | refine acode_block ?_ | refine acode_skip ?_ | refine then_n ?_ | refine block_n ?_)
        refine acode_ret ?_
        repeat (first | refine exit_then ?_ | refine exit_here ?_ | refine exit_out rfl ?_ | refine ret_then ?_ | refine ret_block ?_ | refine then_n ?_ | refine block_n ?_)
        refine ⟨.bool true, .inl ⟨rfl, hfin.w.topo.wf i (by simp), st2.set i 2, l2 ++ [i], ob3, cap3, ?_, hfin, by simp⟩, resOf_tmp rfl⟩
        simp only [wkM, nums_app, ints_app, List.length_append, List.length_singleton]
        rfl
end Go.Proofs.Ytnlmfhnjjblhoaa.Ab

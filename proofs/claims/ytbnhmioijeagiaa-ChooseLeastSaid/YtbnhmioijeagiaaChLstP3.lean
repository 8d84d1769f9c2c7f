/- Texts of this proof, one behind the other (ChK, Yd0, Yd1, Yd2, Yd3, CmP, ChL, ChM, ChB, ChC, ChD, Ab9, ChE, Fil8, Tre3, ChP, ChG, Tre4, ChF, AbU, RfA, RfB, Tpo, RfP, RfC, RfD, Neb, Cu2, Bth, RfE, RfF, For6, RfG, RfH, RfI, Al24, Smt). No condition. -/
import Derived.Test.YtbnhmioijeagiaaChLstP2
import Derived.RangeFuncIn
import Derived.RangeFuncLeaves
import Derived.RangeFuncRecord
import Derived.TacticsIn
import Derived.OrdersIn
/- Package choose: two picks of different rules held against each other: the walk. No condition. -/
set_option linter.unusedVariables false
set_option linter.unusedSimpArgs false
namespace Go.Proofs.Ytbnhmioijeagiaa.Ab
section
variable {P : Program} {T : List TI} {N : Nat} {ops : Array Oper} {o : Oper} {rest : List Oper} {Q : Exit → St → Prop} {E F : Env} {M : List Ob}
/-- The beginning of a slice of one's own; its cells stay as they are. -/
theorem aops_slo (hT : TOk P T) {t e : Nat} {ei : TI} {x h : Operand} {i : Int} {kk : IntKind} {ob : Option Nat} {n cap : Nat} (ho : o.op = .slice t x none (some h) none) (hs : sliceOf T t = some (e, ei)) (hx : opA E x = .own ob n cap) (hh : opA E h = .int kk i)
    (h0 : 0 ≤ i) (h1 : i ≤ n) (hnc : n ≤ cap) (n' : Nat) (hn' : n' = i.toNat) (hg : guardOn ops o E = some true) (hd : dstOk N o.dst = true)
    (next : AOps P N ops rest Q ⟨put E o.dst (.own ob n' cap), M⟩) : AOps P N ops (o :: rest) Q ⟨E, M⟩ := by
  refine aops_val hg hd _ M (fun K G a w hi => ?_) next
  subst hn'
  have hr := opA_rep hi x
  have hrh := opA_rep hi h
  rw [hx] at hr; rw [hh] at hrh
  simp only [Rep] at hrh
  obtain ⟨hu, hgt, _⟩ := sliceOf_spec hT hs
  have hic : i ≤ cap := by omega
  cases ob with
  | none =>
    obtain ⟨hv, rfl, rfl⟩ := hr
    have hi0 : i = 0 := by omega
    subst hi0
    refine ⟨.slice none 0 0, w, G, ?_, hi.ok, G.le_refl, ⟨rfl, rfl, rfl⟩⟩
    simp [execOp, ho, hv, hrh, Instr.sliceAt, run_und hu, Instr.slice, Instr.sliceBounds, bound_run, run_size hgt]
  | some b =>
    simp only [Rep] at hr
    refine ⟨.slice (some ⟨b, 0, none⟩) i.toNat cap, w, G, ?_, hi.ok, G.le_refl, rfl⟩
    have e2 : (if cap = 0 then (some ⟨b, 0, none⟩ : Option Addr) else some (Addr.add ⟨b, 0, none⟩ (0 * ei.size))) = some ⟨b, 0, none⟩ := by simp [addr_add]
    simp only [execOp, ho, hr, hrh, Instr.sliceAt, Sem.run_bind, run_und hu, Result.andThen_ok, Instr.slice, Instr.sliceBounds, Option.map_none, Option.map_some, Sem.run_pure, bound_run h0 hic, run_size hgt]
    simp [addr_add]
theorem yields_slo (hT : TOk P T) {t e : Nat} {ei : TI} {x h : Operand} {i : Int} {kk : IntKind} {ob : Option Nat} {n cap : Nat} (ho : o.op = .slice t x none (some h) none) (hs : sliceOf T t = some (e, ei)) (hx : opA F x = .own ob n cap) (hh : opA F h = .int kk i)
    (h0 : 0 ≤ i) (h1 : i ≤ n) (hnc : n ≤ cap) (n' : Nat) (hn' : n' = i.toNat) (hg : guardOn ops o F = some true) (hd : dstOk N o.dst = true) : Yields P N ops o (.own ob n' cap) F M := by
  intro E hE rest Q next
  exact aops_slo hT ho hs ((agree_op hE (by rw [ho]; simp [Op.operands])).trans hx) ((agree_op hE (by rw [ho]; simp [Op.operands])).trans hh) h0 h1 hnc n' hn' ((agree_guard hE).trans hg) hd next
/-- The last cells of an object of one's own are no longer told of. -/
theorem inv_trim {K : Ctx} {G : Gh} {a : Act} {w : World} (k n : Nat) {ob : Option Nat} {room : Nat} {cs : List A} (hM : M[k]? = some ⟨ob, room, cs⟩) (hi : Inv K N G ⟨E, M⟩ a w) : Inv K N G ⟨E, M.set k ⟨ob, room, cs.take n⟩⟩ a w := by
  refine ⟨?_, hi.sz, hi.df, hi.ev⟩
  have hk := hi.ok
  have hmem := List.mem_of_getElem? hM
  have hlt : k < M.length := (List.getElem?_eq_some_iff.1 hM).1
  cases ob with
  | none =>
    obtain ⟨e1, _⟩ := hk.vn _ hmem rfl
    simp only at e1
    subst e1
    have : M.set k ⟨none, room, List.take n []⟩ = M := by
      obtain ⟨_, e2⟩ := List.getElem?_eq_some_iff.1 hM
      rw [List.take_nil, ← e2]; exact List.set_getElem_self hlt
    rw [this]; exact hk
  | some b =>
    obtain ⟨vs, sp, t', hh, hl, hroom⟩ := hk.ow _ hmem b rfl
    refine hk.update hM rfl _ ⟨rfl, rfl, rfl, rfl, fun _ _ => rfl⟩ ⟨vs.take n, vs.drop n ++ sp, t', ?_, hl.take _, ?_⟩ (fun c t f e => ⟨c, f, e⟩)
    · rw [← List.append_assoc, List.take_append_drop]; exact hh
    · simp at hroom ⊢; omega
theorem acode_trim {c : Code} (k n : Nat) {ob : Option Nat} {room : Nat} {cs cs' : List A} {M' : List Ob} (hM : M[k]? = some ⟨ob, room, cs⟩) (hcs : cs.take n = cs') (hM' : M.set k ⟨ob, room, cs'⟩ = M') (next : ACode P N c Q ⟨E, M'⟩) : ACode P N c Q ⟨E, M⟩ := by
  subst hcs; subst hM'
  exact acode_weaken (fun K G a w hi => ⟨G, inv_trim k n hM hi⟩) next
end
attribute [local irreducible] thenA inBlockA ACode AOps put IntKind.wrap

theorem isNaNi_calls {x : Int} (M : List Ob) : ACalls Try.prog 114 [.int .i64 x] M (fun r M' => r = .bool false ∧ M' = M) := by
  refine acalls_of_code 6 Try.func114 rfl rfl rfl ?_
  repeat' (first | refine aops_end ?_ | (refine aops_pn tok rfl rfl rfl rfl ?_ ?_ <;> intro e_) | refine aops_p tok rfl rfl rfl rfl ?_ | refine acode_seq ?_ | refine acode_region ?_)
  all_goals try (exfalso; omega)
  refine acode_ret ?_
  skip
  exact ⟨.bool false, ⟨rfl, rfl⟩, resOf_tmp (by first | rfl | simp)⟩
def cmpI (a b : Int) : Int := if a < b then -1 else if a > b then 1 else 0
theorem ccmp_calls {a b : Int} (M : List Ob) : ACalls Try.prog 105 [.int .i64 a, .int .i64 b] M (fun r M' => r = .int .i64 (cmpI a b) ∧ M' = M) := by
  refine acalls_of_code 20 Try.func105 rfl rfl rfl ?_
  repeat (first | refine aops_end ?_ | refine aops_p tok rfl rfl rfl rfl ?_ | refine acode_seq ?_ | refine acode_region ?_)
  refine aops_callx Try.func114 rfl rfl rfl rfl (isNaNi_calls _) rfl rfl rfl ?_
  repeat (first | refine aops_end ?_ | refine aops_p tok rfl rfl rfl rfl ?_ | refine acode_seq ?_ | refine acode_region ?_)
  refine aops_callx Try.func114 rfl rfl rfl rfl (isNaNi_calls _) rfl rfl rfl ?_
  unfold cmpI
  repeat' (first | refine aops_end ?_ | (refine aops_pd tok rfl rfl rfl rfl ?_ ?_ <;> intro e_) | refine aops_p tok rfl rfl rfl rfl ?_ | refine acode_it rfl ?_ | refine acode_if rfl ?_ | refine acode_seq ?_ | refine acode_region ?_ | refine acode_skip ?_ | refine then_n ?_)
  · rw [if_pos (by omega)]
    refine acode_ret ?_
    repeat (refine ret_then ?_)
    exact ⟨_, ⟨rfl, rfl⟩, resOf_tmp rfl⟩
  · rw [if_neg (by omega), if_pos (by omega)]
    refine acode_ret ?_
    repeat (refine ret_then ?_)
    exact ⟨_, ⟨rfl, rfl⟩, resOf_tmp rfl⟩
  · rw [if_neg (by omega), if_neg (by omega)]
    refine acode_ret ?_
    skip
    exact ⟨_, ⟨rfl, rfl⟩, resOf_tmp rfl⟩
/-- The next pick of a row that is not empty. -/
theorem next_calls {b : Nat} {ob : Option Nat} {cap : Nat} {cs ys : List A} (hc : cs.length + 1 ≤ cap) (hl : cs.length ≤ 1000000000) (M : List Ob) : ACalls Try.prog 104 [.ref b 0] (⟨some b, 1, [.own ob (cs.length + 1) cap]⟩ :: ⟨ob, cap * 1, cs ++ [.cp ys]⟩ :: M) (fun r M' => r = .cp ys ∧ M' = ⟨some b, 1, [.own ob cs.length cap]⟩ :: ⟨ob, cap * 1, cs⟩ :: M) := by
  refine acalls_of_code 37 Try.func104 rfl rfl rfl ?_
  repeat' (first | refine aops_end ?_ | refine aops_pbf tok rfl (by first | omega | decide) rfl rfl rfl ?_ | refine aops_p tok rfl rfl rfl rfl ?_ | refine acode_if rfl ?_ | refine aops_ld tok 0 rfl rfl rfl rfl rfl rfl rfl rfl ?_ | refine acode_seq ?_ | refine acode_region ?_ | refine acode_skip ?_ | refine then_n ?_)
  all_goals try (exfalso; omega)
  refine acode_somed 7 rfl (by omega) fun c hc2 => ?_
  subst hc2
  refine acode_drawT 12 mixed (by kernel_rfl) (by kernel_rfl) ?_
  repeat (first | refine seqT_a tok rfl (by omega) (by omega) rfl rfl rfl ?_ | refine seqT_p tok rfl rfl rfl rfl ?_ | refine seqT_ld tok 0 rfl rfl rfl rfl rfl rfl rfl rfl ?_)
  refine seqT_ixo tok rfl rfl rfl rfl (by omega) (by omega) rfl rfl rfl ?_
  refine seqT_ld tok 1 (y := .cp ys) rfl rfl rfl rfl (by rw [headed_eq]; show (cs ++ [A.cp ys])[((cs.length + 1 : Nat) - 1 : Int).toNat * 1]? = _; rw [show ((cs.length + 1 : Nat) - 1 : Int).toNat * 1 = cs.length by omega]; simp) rfl rfl rfl ?_
  refine SeqT.done ?_
  repeat (first | refine aops_end ?_ | refine aops_p tok rfl rfl rfl rfl ?_ | refine acode_seq ?_)
  refine acode_drawP [] 12 [0, 1, 2, 3, 4, 5, 6, 7, 8, 9, 10, 11] [] mixed (by kernel_rfl) (by kernel_rfl) rfl ?_
  refine seqO_T rfl ?_
  repeat (first | refine seqT_a tok rfl (by omega) (by omega) rfl rfl rfl ?_ | refine seqT_p tok rfl rfl rfl rfl ?_ | refine seqT_ld tok 0 rfl rfl rfl rfl rfl rfl rfl rfl ?_)
  refine seqT_y (yields_slo tok (i := (cs.length : Int)) (kk := .i64) rfl rfl rfl (by show A.int _ _ = A.int _ _; congr 1; omega) (by omega) (by omega) hc cs.length (by omega) rfl rfl) rfl ?_
  refine SeqT.done ?_
  repeat (first | refine aops_end ?_ | refine aops_p tok rfl rfl rfl rfl ?_ | refine aops_stn tok rfl rfl rfl rfl rfl rfl rfl rfl rfl ?_ | refine acode_seq ?_ | refine acode_region ?_)
  refine acode_trim (cs' := cs) 1 cs.length rfl (by simp) rfl ?_
  refine acode_ret ?_
  skip
  exact ⟨_, ⟨rfl, rfl⟩, resOf_tmp rfl⟩
end Go.Proofs.Ytbnhmioijeagiaa.Ab
/- Ranges over a function: rounds of a loop's body, walked over abstract values. No condition. -/
set_option linter.unusedVariables false
set_option linter.unusedSimpArgs false
namespace Go.Proofs.Ytbnhmioijeagiaa.Ab
/-- The fence that bars nothing, at a round or at none. -/
abbrev Fr (ro : Option Nat) : Fence := { Fence.wide with round := ro }
def noDef (o : Oper) : Bool := match o.op with | .defer _ => false | _ => true
theorem noDef_at {o : Oper} (h : noDef o = true) (ro : Option Nat) (ρ : Operand → Value) : o.semAt ro ρ = execOp ρ o :=
  Oper.semAt_eq ro ρ o fun c hc => by unfold noDef at h; rw [hc] at h; cases h
section conv
variable {P : Program} {ro : Option Nat} {n : Nat} {ops : Array Oper} {Q Q' : Exit → Act → World → Prop}
theorem calls_in {f : FuncId} {args : Array Value} {w : World} {R : Ending → World → Prop} (h : Calls P f args w R) : CallsIn (Fr ro) n P f args w R :=
  (callsIn_wide (n := n)).2 h
theorem calls_out {f : FuncId} {args : Array Value} {w : World} {R : Ending → World → Prop} (h : CallsIn (Fr ro) n P f args w R) : Calls P f args w R :=
  (callsIn_wide (n := n)).1 h
theorem rows_in {row : String} {args : Array Value} {w : World} {R : Value → World → Prop} (h : Rows P row args w R) : RowsIn (Fr ro) n P row args w R :=
  fun c cs _ => let ⟨v, w', r, s⟩ := h c cs; ⟨v, w', r, stepsIn_wide.2 s⟩
theorem upon_in {o : Oper} {a : Act} {next next' : Act → World → Prop} (hn : ∀ a w, next a w → next' a w) (hq : ∀ e a w, e ≠ .normal → Q e a w → Q' e a w) (hl : ¬ LetsOut Q) {r : Result Next} (h : o.upon P a next Q r) : o.uponIn (Fr ro) n P a next' Q' r := by
  have hd : ((Fr ro).depth.isSome = true → 1 ≤ n) := fun h => by cases h
  cases r with
  | ok x w' =>
    cases x <;> simp only [Oper.upon] at h <;> simp only [Oper.uponIn] <;> first
      | exact h.elim
      | exact hn _ _ h
      | exact ⟨hd, rows_in (h.mono fun _ _ he => hn _ _ he)⟩
      | exact ⟨hd, calls_in (h.mono fun e w'' he => by
          cases e with
          | returned v => exact hn _ _ he
          | panicked ch => exact hq _ _ _ (by simp) he
          | outgrown => exact absurd he hl)⟩
  | halt x w' => cases x <;> simp only [Oper.upon] at h <;> simp only [Oper.uponIn] <;> first | exact h.elim | exact hq _ _ _ (by simp) h
theorem op_in {o : Oper} {a : Act} {w : World} {next next' : Act → World → Prop} (hd : noDef o = true) (hn : ∀ a w, next a w → next' a w) (hq : ∀ e a w, e ≠ .normal → Q e a w → Q' e a w) (hl : ¬ LetsOut Q) (h : o.wp P a w next Q ∨ (o.asks P a w ∧ LetsOut Q)) : o.wpIn (Fr ro) n P a w next' Q' := by
  rcases h with h | h
  · refine ⟨fun _ _ => trivial, ?_⟩
    rw [noDef_at hd]
    exact upon_in hn hq hl h
  · exact absurd h.2 hl
theorem list_in (hq : ∀ e a w, e ≠ .normal → Q e a w → Q' e a w) (hl : ¬ LetsOut Q) {l2 : List Oper} (h2 : ∀ a w, Q .normal a w → wpListIn (Fr ro) n P ops Q' l2 a w) : ∀ (l : List Oper) (a : Act) (w : World), l.all noDef = true → wpList P ops Q l a w → wpListIn (Fr ro) n P ops Q' (l ++ l2) a w
  | [], a, w, _, h => h2 a w h
  | o :: l, a, w, hd, h => by
    simp only [List.all_cons, Bool.and_eq_true] at hd
    simp only [wpList] at h
    simp only [List.cons_append, wpListIn]
    split
    · rename_i hw
      rw [if_pos hw] at h
      exact op_in hd.1 (fun a w => list_in hq hl h2 l a w hd.2) hq hl h
    · rename_i hw
      rw [if_neg hw] at h
      exact ⟨fun _ _ => trivial, list_in hq hl h2 l _ _ hd.2 h⟩
theorem any_in {md : Region.Mode} (hd : ops.toList.all noDef = true) (hl : ¬ LetsOut Q) : ∀ (fuel : Nat) (listed : Array Bool) (a : Act) (w : World), wpAny P md ops Q fuel listed a w → wpAnyIn (Fr ro) n P md ops Q fuel listed a w
  | 0, _, _, _, h => h
  | fuel + 1, listed, a, w, h => by
    refine ⟨h.1, fun i hi => ?_⟩
    have h1 := h.2 i hi
    unfold wpOp at h1
    unfold wpOpIn
    cases ho : ops[i]? with
    | none => rw [ho] at h1; exact any_in hd hl fuel _ _ _ h1
    | some o =>
      rw [ho] at h1
      simp only at h1 ⊢
      have hdo : noDef o = true := List.all_eq_true.1 hd o (by
        obtain ⟨hlt, he⟩ := Array.getElem?_eq_some_iff.1 ho
        rw [← he]; exact Array.getElem_mem_toList hlt)
      split
      · rename_i hw
        rw [if_pos hw] at h1
        exact op_in hdo (fun a w => any_in hd hl fuel _ a w) (fun _ _ _ _ h => h) hl h1
      · rename_i hw
        rw [if_neg hw] at h1
        exact ⟨fun _ _ => trivial, any_in hd hl fuel _ _ _ h1⟩
end conv
/-! ### A body in a round -/
def ACodeR (ro : Option Nat) (P : Program) (N : Nat) (c : Code) (Q : Exit → St → Prop) (st : St) : Prop := ∀ n K G a w, Inv K N G st a w → c.wpIn (Fr ro) n P (lift K N Q) a w
section rounds
variable {P : Program} {N : Nat} {ro : Option Nat} {Q : Exit → St → Prop} {st : St}
theorem lets_lift {K : Ctx} (h : ∀ s, ¬ Q .outgrown s) : ¬ LetsOut (lift K N Q) := fun ⟨_, _, _, s, hs, _⟩ => h s hs
theorem acodeR_skip (h : Q .normal st) : ACodeR ro P N .skip Q st := fun n K G a w hi => wpIn_skip ⟨G, st, h, hi⟩
theorem acodeR_seq {x y : Code} (h : ACodeR ro P N x (thenA (ACodeR ro P N y Q) Q) st) : ACodeR ro P N (.seq x y) Q st := by
  intro n K G a w hi
  refine wpIn_seq (wpIn_mono (h n K G a w hi) ?_)
  rintro e a' w' ⟨G', s, q, i⟩
  cases e with
  | normal => exact q n K G' a' w' i
  | _ => exact ⟨G', s, q, i⟩
theorem acodeR_cond {t : Tmp} {x y : Code} {b : Bool} (hb : get st.E t = .bool b) (h1 : b = true → ACodeR ro P N x Q st) (h0 : b = false → ACodeR ro P N y Q st) : ACodeR ro P N (.cond (.tmp t) x y) Q st := by
  intro n K G a w hi
  have he := hi.ev t
  rw [hb] at he
  simp only [Rep] at he
  cases b
  · exact wpIn_cond (t := false) he (h0 rfl n K G a w hi)
  · exact wpIn_cond (t := true) he (h1 rfl n K G a w hi)
theorem acodeR_block {id : Nat} {c : Code} (h : ACodeR ro P N c (inBlockA id Q) st) : ACodeR ro P N (.block id c) Q st := by
  intro n K G a w hi
  refine wpIn_block (wpIn_mono (h n K G a w hi) ?_)
  rintro e a' w' ⟨G', s, q, i⟩
  cases e with
  | exit j =>
    simp only [Exit.inBlock, inBlockA] at q ⊢
    by_cases hj : j = id
    · subst hj
      simp at q
      rw [if_pos rfl]
      exact ⟨G', s, q, i⟩
    · have : Nat.beq j id = false := by
        cases hb : Nat.beq j id with
        | false => rfl
        | true => exact absurd (Nat.eq_of_beq_eq_true hb) hj
      rw [this] at q
      rw [if_neg hj]
      exact ⟨G', s, q, i⟩
  | _ => exact ⟨G', s, q, i⟩
theorem acodeR_region {id : Nat} {l : List Oper} (hd : l.all noDef = true) (hQ : ∀ s, ¬ Q .outgrown s) (h : AOps P N l.toArray l Q st) : ACodeR ro P N (.region id l.toArray false) Q st := by
  intro n K G a w hi
  refine wpIn_region_lit ?_
  have := list_in (P := P) (ro := ro) (n := n) (ops := l.toArray) (Q := lift K N Q) (Q' := lift K N Q) (fun _ _ _ _ h => h) (lets_lift hQ) (l2 := []) (fun a w h => wpListIn_nil h) l a w hd (h K G a w hi)
  rwa [List.append_nil] at this
theorem acodeR_drawP {id : Nat} {E : Env} {M : List Ob} {l l' : List Oper} (kp : List Ob) (n : Nat) (js al : List Nat) (hd : l.all noDef = true) (hQ : ∀ s, ¬ Q .outgrown s) (hm : P.follows .mixedOrders = true) (hB : drawP l.toArray js al n = true)
    (hseq : Region.seqB .any l.toArray (l.drop n).length n (((List.range l.length).map fun i => Nat.blt i n).toArray) = true)
    (hl' : pickL l (js ++ (List.range l.length).drop n) = some l')
    (h : SeqO P N l.toArray Q kp al 0 E M n l') : ACodeR ro P N (.region id l.toArray true) Q ⟨E, M⟩ := fun m K G a w hi =>
  wpIn_region_any hm (any_in (by simpa using hd) (lets_lift hQ) _ _ _ _ (any_drawP kp n js al hm hB hseq hl' h K G a w hi))
end rounds
/-! ### Worlds that differ in nothing that is told of -/
theorem Ok.move {K K' : Ctx} {G : Gh} {M : List Ob} {w w' : World} (h : Ok K G M w) (hg : K'.g0.le G) (hos : w'.os = K'.w0.os) (htp : w'.tape = K'.w0.tape) (hout : w'.output = K'.w0.output) (hsz : K'.w0.heap.size ≤ w'.heap.size)
    (hfr : ∀ k, k < K'.w0.heap.size → k ∉ K'.own0 → w'.heap[k]? = K'.w0.heap[k]?) (hc : ∀ (b : Nat) c t f, w.heap[b]? = some (Obj.cells c t f) → w'.heap[b]? = some (Obj.cells c t f)) (hm : ∀ (b : Nat) es c, w.heap[b]? = some (Obj.map es c) → w'.heap[b]? = some (Obj.map es c))
    (hkb : ∀ o ∈ M, ∀ b, o.b = some b → b ∈ K'.own0 ∨ K'.w0.heap.size ≤ b) (hy : ∀ b ks, G.Y b = some ks → b < K'.w0.heap.size → K'.g0.Y b = some ks) : Ok K' G M w' := by
  refine ⟨hg, hos, htp, hout, hsz, hfr, fun b hb => ?_, fun o ho b hb => ?_, h.vn, h.un, hkb, h.nd, fun b ks e => ?_, fun b hb => ?_, fun b t hb => ?_⟩
  · obtain ⟨c, t, f, h1, h2⟩ := h.fz b hb
    exact ⟨c, t, f, hc _ _ _ _ h1, h2⟩
  · obtain ⟨vs, sp, t, h1, h2, h3⟩ := h.ow o ho b hb
    exact ⟨vs, sp, t, hc _ _ _ _ h1, h2, h3⟩
  · obtain ⟨⟨es, c, h1, h2⟩, _⟩ := h.mz b ks e
    exact ⟨⟨es, c, hm _ _ _ h1, h2⟩, hy b ks e⟩
  · obtain ⟨h1, c, t, h2⟩ := h.um b hb
    exact ⟨h1, c, t, hc _ _ _ _ h2⟩
  · obtain ⟨c, f, h1⟩ := h.wt b t hb
    exact ⟨c, f, hc _ _ _ _ h1⟩
/-- What is one's own is no loop's record. -/
theorem Ok.notOwn {K : Ctx} {G : Gh} {M : List Ob} {w : World} (h : Ok K G M w) {l : Nat} (hl : ∀ c t f, w.heap[l]? ≠ some (Obj.cells c t f)) : l ∉ keys M := by
  intro hm
  obtain ⟨o, ho, hb⟩ := List.mem_filterMap.1 hm
  obtain ⟨vs, sp, t, h1, _⟩ := h.ow o ho l hb
  exact hl _ _ _ h1
end Go.Proofs.Ytbnhmioijeagiaa.Ab
/- Ranges over a function: the call of yield, the iterator's contract, the statement. No condition. -/
set_option linter.unusedVariables false
set_option linter.unusedSimpArgs false
namespace Go.Proofs.Ytbnhmioijeagiaa.Ab
section
variable {P : Program}
/-- What a round does: from these objects to those; G0 is what is known when the loop begins. -/
def YieldC (P : Program) (l : Nat) (rec : Loop) (G0 : Gh) (xs : List A) (M : List Ob) (R : List Ob → Prop) : Prop := ∀ n G w vs, Ok ⟨w, keys M, G⟩ G M w → G0.le G → w.heap[l]? = some (.loop rec) → RepL G xs vs →
  ∃ fn tmps assign body, (Instr.yield l vs.toArray).run P w = .ok (.round l fn tmps assign body) w ∧ RoundIn (Fr none) n P l fn tmps assign body w fun e w' => e = .returned (.bool true) ∧ ∃ G' M', R M' ∧ Ok ⟨w, keys M, G⟩ G' M' w'
/-- What an iterator does: it calls yield with these values, one after the other. -/
def IterC (P : Program) (gf : FuncId) (cap : List A) (xs : Nat → List A) (len : Nat) : Prop := ∀ (J : Nat → List Ob → Prop) (M0 : List Ob) (l : Nat) (rec : Loop) n G w vs, J 0 M0 → Ok ⟨w, keys M0, G⟩ G M0 w → RepL G (.yld l :: cap) vs → w.heap[l]? = some (.loop rec) → (∀ k M, k < len → J k M → YieldC P l rec G (xs k) M (J (k + 1))) →
  CallsIn (Fr none) n P gf vs.toArray w fun e w' => ∃ v, e = .returned v ∧ ∃ G' M', J len M' ∧ Ok ⟨w, keys M0, G⟩ G' M' w'
theorem putObj_cells {w : World} {l : Nat} {r r' : Loop} (hl : w.heap[l]? = some (.loop r)) {b : Nat} {o : Obj} (ho : w.heap[b]? = some o) (hne : ∀ r, o ≠ .loop r) : (w.putObj l (.loop r')).heap[b]? = some o := by
  have : b ≠ l := fun e => by subst e; rw [hl] at ho; cases ho; exact hne _ rfl
  rw [World.putObj_heap_other this]; exact ho
/-- A round, out of the walks of its assignment and its body. -/
theorem yield_of {l : Nat} {f : FuncId} {tmps : Array Value} {ps : Array Tmp} {assign body : Code} {D N : Nat} {G0 : Gh} {E0 E : Env} {xs : List A} {M : List Ob} {R : List Ob → Prop} (hN : tmps.size = N) (he : ∀ t, Rep G0 (get E0 t) (tmps.getD t undef))
    (hp : ∀ (G : Gh) (vs : List Value), G0.le G → RepL G xs vs → vs.length = ps.size ∧ ((ps.zip vs.toArray).foldl (fun tmps (t, a) => tmps.setIfInBounds t a) tmps).size = N ∧ ∀ t, Rep G (get E t) (((ps.zip vs.toArray).foldl (fun tmps (t, a) => tmps.setIfInBounds t a) tmps).getD t undef))
    (h : ACodeR (some l) P N assign (fun e s => e = .normal ∧ s.M = M ∧ ACodeR (some l) P N body (fun e s => e = .normal ∧ R s.M) s) ⟨E, M⟩) :
    YieldC P l { state := .ready, pending := none, fn := f, tmps, params := ps, assign, body, defers := D } G0 xs M R := by
  intro n G w vs hok hle hl hvs
  obtain ⟨hp1, hp2, hp3⟩ := hp G vs hle hvs
  refine ⟨f, _, assign, body, run_yield hl (by simpa using hp1), ?_⟩
  have hlo : l ∉ keys M := hok.notOwn (fun c t f e => by rw [hl] at e; cases e)
  have hll : l < w.heap.size := (Array.getElem?_eq_some_iff.1 hl).1
  refine roundIn_of_wpIn (F := Fr none) trivial ?_
  refine wpIn_mono (h n ⟨w, keys M, G⟩ G _ w ⟨hok, hp2, rfl, hp3⟩) ?_
  rintro e a1 w1 ⟨G1, ⟨E1, M1⟩, ⟨rfl, hM1, hb⟩, hi1⟩
  simp only at hM1
  subst hM1
  have hl1 : w1.heap[l]? = some (.loop { state := .ready, pending := none, fn := f, tmps, params := ps, assign, body, defers := D }) := (hi1.ok.fr l hll hlo).trans hl
  refine ⟨_, run_beginRound hl1 rfl, ?_⟩
  have hsz1 : w.heap.size ≤ w1.heap.size := hi1.ok.size
  have hok2 : Ok ⟨w1.putObj l (.loop { state := .busy, pending := none, fn := f, tmps, params := ps, assign, body, defers := D }), keys M1, G1⟩ G1 M1 (w1.putObj l (.loop { state := .busy, pending := none, fn := f, tmps, params := ps, assign, body, defers := D })) :=
    hi1.ok.move (Gh.le_refl _) rfl rfl rfl (Nat.le_refl _) (fun _ _ _ => rfl) (fun b c t f hb => putObj_cells hl1 hb (by simp)) (fun b es c hb => putObj_cells hl1 hb (by simp)) (fun o ho b hb => .inl (List.mem_filterMap.2 ⟨o, ho, hb⟩)) (fun b ks e _ => e)
  refine wpIn_mono (hb n ⟨_, keys M1, G1⟩ G1 _ _ ⟨hok2, hi1.sz, hi1.df, hi1.ev⟩) ?_
  rintro e a2 w2 ⟨G2, ⟨E2, M2⟩, ⟨rfl, hM2⟩, hi2⟩
  simp only at hM2
  have hl1' : l < w1.heap.size := by omega
  have hl2 : w2.heap[l]? = some (.loop { state := .busy, pending := none, fn := f, tmps, params := ps, assign, body, defers := D }) := (hi2.ok.fr l (by show l < (w1.putObj l _).heap.size; rw [World.putObj_size]; exact hl1') hlo).trans (World.putObj_heap_same hl1')
  refine ⟨_, _, run_endRound none hl2, rfl, G2, M2, hM2, ?_⟩
  have hs2 : w1.heap.size ≤ w2.heap.size := by have := hi2.ok.size; simpa using this
  refine hi2.ok.move (Gh.le_trans hi1.ok.g hi2.ok.g) (hi2.ok.os.trans hi1.ok.os) (hi2.ok.tape.trans hi1.ok.tape) (hi2.ok.output.trans hi1.ok.output) (by rw [World.putObj_size]; show w.heap.size ≤ _; omega) (fun k hk hko => ?_) (fun b c t f hb => putObj_cells hl2 hb (by simp)) (fun b es c hb => putObj_cells hl2 hb (by simp)) (fun o ho b hb => ?_) (fun b ks e hb => ?_)
  · have hk : k < w.heap.size := hk
    by_cases hkl : k = l
    · subst hkl
      rw [World.putObj_heap_same (by omega)]
      exact hl.symm
    · rw [World.putObj_heap_other hkl, hi2.ok.fr k (by show k < (w1.putObj l _).heap.size; rw [World.putObj_size]; omega) hko]
      show (w1.putObj l _).heap[k]? = _
      rw [World.putObj_heap_other hkl]
      exact hi1.ok.fr k hk hko
  · rcases hi2.ok.kb o ho b hb with h1 | h1
    · exact .inl h1
    · refine .inr ?_
      have h1 : (w1.putObj l _).heap.size ≤ b := h1
      rw [World.putObj_size] at h1
      show w.heap.size ≤ b
      omega
  · have hb : b < w.heap.size := hb
    exact (hi1.ok.mz b ks ((hi2.ok.mz b ks e).2 (by show b < (w1.putObj l _).heap.size; rw [World.putObj_size]; omega))).2 hb
end
end Go.Proofs.Ytbnhmioijeagiaa.Ab
/- Ranges over a function: a function that ends in one. No condition. -/
set_option linter.unusedVariables false
set_option linter.unusedSimpArgs false
namespace Go.Proofs.Ytbnhmioijeagiaa.Ab
section
variable {P : Program}
/-- What lies behind the code ahead of the statement: the iterator's contract, the rounds', the end. -/
def RangeS (P : Program) (N : Nat) (g : Operand) (p1 p2 : Tmp) (assign body : Code) (R : A → List Ob → Prop) (s : St) : Prop :=
  ∃ (gf : Nat) (cap : List A) (gfn : Func) (x1 x2 : Nat → A) (len : Nat) (J : Nat → List Ob → Prop), J 0 s.M ∧ opA s.E g = .fn gf cap ∧ P.funcs[gf]? = some gfn ∧ callable gfn = true ∧ IterC P gf cap (fun k => [x1 k, x2 k]) len ∧
    (∀ k M, k < len → J k M → ∀ l, ACodeR (some l) P N assign (fun e s' => e = .normal ∧ s'.M = M ∧ ACodeR (some l) P N body (fun e s'' => e = .normal ∧ J (k + 1) s''.M) s') ⟨(p2, x2 k) :: (p1, x1 k) :: s.E, M⟩) ∧ ∀ M, J len M → ∃ M', M'.Sublist M ∧ R (.tup []) M'
theorem Ok.lsub {K : Ctx} {G : Gh} {M M' : List Ob} {w : World} (h : Ok K G M w) (hs : M'.Sublist M) : Ok K G M' w :=
  ⟨h.g, h.os, h.tape, h.output, h.size, h.fr, h.fz, fun o ho => h.ow o (hs.subset ho), fun o ho => h.vn o (hs.subset ho), fun o ho => h.un o (hs.subset ho), fun o ho => h.kb o (hs.subset ho), (hs.filterMap _).nodup h.nd, h.mz, h.um, h.wt⟩
theorem alloc_old {w : World} (o : Obj) {k : Nat} (h : k < w.heap.size) : (w.alloc o).heap[k]? = w.heap[k]? := by
  show (w.heap.push o)[k]? = _
  rw [Array.getElem?_push, if_neg (Nat.ne_of_lt h)]
theorem set2_get {tmps : Array Value} {p1 p2 : Nat} {v1 v2 : Value} {G : Gh} {E : Env} {x1 x2 : A} (h1 : p1 < tmps.size) (h2 : p2 < tmps.size) (he : ∀ t, Rep G (get E t) (tmps.getD t undef)) (r1 : Rep G x1 v1) (r2 : Rep G x2 v2) (t : Nat) :
    Rep G (get ((p2, x2) :: (p1, x1) :: E) t) (((tmps.setIfInBounds p1 v1).setIfInBounds p2 v2).getD t undef) := by
  simp only [get]
  cases hb2 : Nat.beq p2 t with
  | true =>
    obtain rfl := Nat.eq_of_beq_eq_true hb2
    simp only [cond_true]
    simpa [h2] using r2
  | false =>
    have hne2 : p2 ≠ t := fun e => by subst e; simp at hb2
    simp only [cond_false]
    cases hb1 : Nat.beq p1 t with
    | true =>
      obtain rfl := Nat.eq_of_beq_eq_true hb1
      simp only [cond_true]
      simpa [h1, hne2, Array.getElem?_setIfInBounds] using r1
    | false =>
      have hne1 : p1 ≠ t := fun e => by subst e; simp at hb1
      simp only [cond_false]
      have := he t
      simpa [hne1, hne2, Array.getElem?_setIfInBounds] using this
theorem acalls_range {f : FuncId} {fn : Func} {pre pre2 : Code} {bid : Nat} {g : Operand} {p1 p2 : Tmp} {assign body : Code} {args : List A} {M : List Ob} {R : A → List Ob → Prop} (N : Nat)
    (hf : P.funcs[f]? = some fn) (hb : fn.body = some (.seq pre (.seq pre2 (.block bid (.rangeFunc g #[p1, p2] assign body))))) (hN : fn.ntmps = N) (hn : Nat.ble args.length N = true) (hp1 : Nat.blt p1 N = true) (hp2 : Nat.blt p2 N = true) (hres : fn.results = #[])
    (h : ACode P N pre (fun e s => e = .normal ∧ ACode P N pre2 (fun e s => e = .normal ∧ RangeS P N g p1 p2 assign body R s) s) ⟨envFrom 0 args, M⟩) : ACalls P f args M R := by
  intro G w vs ho hl
  subst hN
  have hn : args.length ≤ fn.ntmps := Nat.le_of_ble_eq_true hn
  have hp1 : p1 < fn.ntmps := by simpa using hp1
  have hp2 : p2 < fn.ntmps := by simpa using hp2
  have hlen := hl.length
  refine calls_out (ro := none) (n := 0) (callsIn_of_wp_marks (F := Fr none) hf hb trivial ?_)
  refine wpIn_seq (wpIn_mono ((wpIn_wide (n := 0)).2 (h ⟨w, keys M, G⟩ G _ w ⟨ho, ?_, rfl, ?_⟩)) ?_)
  · simp; omega
  · intro t
    show Rep G (get (envFrom 0 args) t) _
    rw [get_envFrom, if_pos (Nat.zero_le _), Nat.sub_zero]
    by_cases ht : t < args.length
    · obtain ⟨v, hv, hr⟩ := hl.at t (List.getElem?_eq_getElem ht)
      have e1 : args.getD t .any = args[t] := by simp [ht]
      rw [e1]
      have hlt : t < vs.length := by omega
      have e2 : vs[t] = v := by rw [List.getElem?_eq_getElem hlt] at hv; exact Option.some.inj hv
      simp [Array.getElem?_append, hlt, e2, hr]
    · have e1 : args.getD t .any = .any := by simp [List.getElem?_eq_none (Nat.le_of_not_lt ht)]
      rw [e1]
      trivial
  · rintro e a0 w0 ⟨G0, s0, ⟨rfl, hpre2⟩, hi0⟩
    refine wpIn_seq (wpIn_mono ((wpIn_wide (n := 0)).2 (hpre2 ⟨w, keys M, G⟩ G0 a0 w0 hi0)) ?_)
    rintro e a1 w1 ⟨G1, ⟨E1, M1⟩, ⟨rfl, gf, cap, gfn, x1, x2, len, J, hM, hg, hgf, hgc, hit, hround, hR⟩, hi⟩
    simp only at hM hg
    have hgr := opA_rep hi g
    rw [hg] at hgr
    obtain ⟨cvs, hgv, hcl⟩ := hgr
    refine wpIn_block (wpIn_rangeFunc ?_)
    intro fid _
    obtain ⟨rec, hrec⟩ : ∃ rec : Loop, rec = { state := .ready, pending := none, fn := fid, tmps := a1.tmps, params := #[p1, p2], assign, body, defers := w1.heap.size } := ⟨_, rfl⟩
    obtain ⟨W1, hW1⟩ : ∃ W1, (w1.alloc (.deferred (some []))).alloc (.loop rec) = W1 := ⟨_, rfl⟩
    have hS1 : W1.heap.size = w1.heap.size + 2 := by rw [← hW1]; simp
    have hL1 : W1.heap[w1.heap.size + 1]? = some (.loop rec) := by
      rw [← hW1]; have := World.alloc_heap_new (w1.alloc (.deferred (some []))) (.loop rec); rwa [World.size_alloc] at this
    have hK1 : W1.heap[w1.heap.size]? = some (.deferred (some [])) := by
      rw [← hW1]; exact (alloc_old _ (by simp)).trans (World.alloc_heap_new w1 _)
    have hold : ∀ k, k < w1.heap.size → W1.heap[k]? = w1.heap[k]? := fun k hk => by
      rw [← hW1]; exact (alloc_old _ (by simp; omega)).trans (alloc_old _ hk)
    have hsome : ∀ (b : Nat) o, w1.heap[b]? = some o → W1.heap[b]? = some o := fun b o h => (hold b (Array.getElem?_eq_some_iff.1 h).1).trans h
    have hok1 : Ok ⟨W1, keys M1, G1⟩ G1 M1 W1 := hi.ok.move (Gh.le_refl _) rfl rfl rfl (Nat.le_refl _) (fun _ _ _ => rfl) (fun b c t f h => hsome b _ h) (fun b es c h => hsome b _ h) (fun o ho b hb => .inl (List.mem_filterMap.2 ⟨o, ho, hb⟩)) (fun b ks e _ => e)
    have hos1 : W1.os = w1.os ∧ W1.tape = w1.tape ∧ W1.output = w1.output := by rw [← hW1]; exact ⟨rfl, rfl, rfl⟩
    have hlo : w1.heap.size + 1 ∉ keys M1 := hok1.notOwn (fun c t f e => by rw [hL1] at e; cases e)
    have hdo : w1.heap.size ∉ keys M1 := hok1.notOwn (fun c t f e => by rw [hK1] at e; cases e)
    refine ⟨w1.heap.size + 1, [{ target := .collected w1.heap.size, args := #[] }], W1, { target := .fn (.func gf) cvs.toArray, args := #[.func (.yield (w1.heap.size + 1)) #[] #[]] }, W1, gf, #[.func (.yield (w1.heap.size + 1)) #[] #[]] ++ cvs.toArray, W1, ?_, ?_, ?_, ?_, ?_, ?_⟩
    · rw [← hW1, hrec]; exact run_enterLoop_outer _ _ _ _ _
    · simp only [resolve, hgv]
      simp [go_sem]
    · intro f' hf'; trivial
    · simp only [invoke]
      exact callFunc_run hgf hgc _ _
    · intro h; cases h
    · have hcall := hit J M1 (w1.heap.size + 1) rec (0 - 1) G1 W1 (.func (.yield (w1.heap.size + 1)) #[] #[] :: cvs) hM hok1 ⟨_, _, rfl, rfl, hcl⟩ hL1 (fun k M' hk hJ => by
        rw [hrec]
        refine yield_of (E := (p2, x2 k) :: (p1, x1 k) :: E1) hi.sz hi.ev (fun G' vs' hle hvs => ?_) (hround k M' hk hJ _)
        obtain ⟨v1, vs1, rfl, r1, v2, vs2, rfl, r2, rfl⟩ := hvs
        refine ⟨rfl, by simp [hi.sz], ?_⟩
        have hfold : (#[p1, p2].zip [v1, v2].toArray).foldl (fun tmps (t, a) => tmps.setIfInBounds t a) a1.tmps = (a1.tmps.setIfInBounds p1 v1).setIfInBounds p2 v2 := by simp
        intro t
        rw [hfold]
        revert t
        exact set2_get (by rw [hi.sz]; exact hp1) (by rw [hi.sz]; exact hp2) (fun t => (hi.ev t).mono hle) r1 r2)
      have hargs : (#[.func (.yield (w1.heap.size + 1)) #[] #[]] ++ cvs.toArray : Array Value) = (Value.func (.yield (w1.heap.size + 1)) #[] #[] :: cvs).toArray := by simp
      rw [hargs]
      refine hcall.mono ?_
      rintro e w3 ⟨v, rfl, G3, M3, hJ3, hok3⟩
      have hl3 : w3.heap[w1.heap.size + 1]? = some (.loop rec) := (hok3.fr _ (by show _ < W1.heap.size; omega) hlo).trans hL1
      have hd3 : w3.heap[w1.heap.size]? = some (.deferred (some [])) := (hok3.fr _ (by show _ < W1.heap.size; omega) hdo).trans hK1
      have hs3 : W1.heap.size ≤ w3.heap.size := hok3.size
      refine ⟨none, _, by rw [run_endLoop hl3 (by rw [hrec]; simp), hrec], ?_⟩
      simp only [Exit.inBlock, bodyPostM, hi.df]
      refine ⟨by simp, .inl ⟨w1.heap.size, _, rfl, run_takeDeferred (ds := []) ((World.putObj_heap_other (by omega)).trans hd3), ?_⟩⟩
      obtain ⟨M4, hsub, hR4⟩ := hR _ hJ3
      refine ⟨_, run_results0 hres, .tuple #[], .tup [], M4, G3, rfl, ⟨[], rfl, rfl⟩, hi.ok.back (Ok.lsub (?_ : Ok ⟨w1, keys M1, G1⟩ G3 M3 _) hsub), hR4⟩
      have hcells : ∀ (b : Nat) (o : Obj) (r : Loop), w3.heap[b]? = some o → (∀ r, o ≠ .loop r) → (∀ d, o ≠ .deferred d) → ((w3.putObj (w1.heap.size + 1) (.loop r)).putObj w1.heap.size (.deferred none)).heap[b]? = some o := fun b o r h h1 h2 => by
        have hb1 : b ≠ w1.heap.size + 1 := fun e => by subst e; rw [hl3] at h; cases h; exact h1 _ rfl
        have hb2 : b ≠ w1.heap.size := fun e => by subst e; rw [hd3] at h; cases h; exact h2 _ rfl
        rw [World.putObj_heap_other hb2, World.putObj_heap_other hb1]; exact h
      refine hok3.move (K' := ⟨w1, keys M1, G1⟩) hok3.g (hok3.os.trans hos1.1) (hok3.tape.trans hos1.2.1) (hok3.output.trans hos1.2.2) ?_ (fun k hk hko => ?_) (fun b c t f h => hcells b _ _ h (by simp) (by simp)) (fun b es c h => hcells b _ _ h (by simp) (by simp)) (fun o ho b hb => ?_) (fun b ks e hb => ?_)
      · rw [World.putObj_size, World.putObj_size]
        show w1.heap.size ≤ _
        omega
      · have hk : k < w1.heap.size := hk
        rw [World.putObj_heap_other (by omega), World.putObj_heap_other (by omega), hok3.fr k (by show k < W1.heap.size; omega) hko]
        exact hold k hk
      · rcases hok3.kb o ho b hb with h1 | h1
        · exact .inl h1
        · refine .inr ?_
          have h1 : W1.heap.size ≤ b := h1
          show w1.heap.size ≤ b
          omega
      · have hb : b < w1.heap.size := hb
        exact (hok3.mz b ks e).2 (by show b < W1.heap.size; omega)
end
end Go.Proofs.Ytbnhmioijeagiaa.Ab
/- Ranges over a function: the walk of an iterator. No condition. -/
set_option linter.unusedVariables false
set_option linter.unusedSimpArgs false
namespace Go.Proofs.Ytbnhmioijeagiaa.Ab
/-- Where the record of the loop lies. -/
def HL (lp : Nat) (rec : Loop) (G0 : Gh) (K : Ctx) : Prop := K.w0.heap[lp]? = some (.loop rec) ∧ lp ∉ K.own0 ∧ K.g0 = G0
def ACodeH (H : Ctx → Prop) (P : Program) (N : Nat) (c : Code) (Q : Exit → St → Prop) (st : St) : Prop := ∀ K G a w, H K → Inv K N G st a w → c.wp P (lift K N Q) a w
section
variable {H : Ctx → Prop} {P : Program} {N : Nat} {Q : Exit → St → Prop} {st : St} {E : Env} {M : List Ob}
theorem acodeH_of {c : Code} (h : ACode P N c Q st) : ACodeH H P N c Q st := fun K G a w _ hi => h K G a w hi
theorem acodeH_seq {x y : Code} (h : ACodeH H P N x (thenA (ACodeH H P N y Q) Q) st) : ACodeH H P N (.seq x y) Q st := by
  intro K G a w hH hi
  refine wp_seq (wp_mono (h K G a w hH hi) ?_)
  rintro e a' w' ⟨G', s, q, i⟩
  cases e with
  | normal => exact q K G' a' w' hH i
  | _ => exact ⟨G', s, q, i⟩
theorem acodeH_cond {t : Tmp} {x y : Code} {b : Bool} (hb : get st.E t = .bool b) (h1 : b = true → ACodeH H P N x Q st) (h0 : b = false → ACodeH H P N y Q st) : ACodeH H P N (.cond (.tmp t) x y) Q st := by
  intro K G a w hH hi
  have he := hi.ev t
  rw [hb] at he
  simp only [Rep] at he
  refine wp_cond_split (t := b) he (fun hb => h1 hb K G a w hH hi) (fun hb => h0 hb K G a w hH hi)
theorem acodeH_block {id : Nat} {c : Code} (h : ACodeH H P N c (inBlockA id Q) st) : ACodeH H P N (.block id c) Q st := by
  intro K G a w hH hi
  refine wp_block (wp_mono (h K G a w hH hi) ?_)
  rintro e a' w' ⟨G', s, q, i⟩
  cases e with
  | exit j =>
    simp only [Exit.inBlock, inBlockA] at q ⊢
    by_cases hj : j = id
    · subst hj
      simp at q
      rw [if_pos rfl]
      exact ⟨G', s, q, i⟩
    · have : Nat.beq j id = false := by
        cases hb : Nat.beq j id with
        | false => rfl
        | true => exact absurd (Nat.eq_of_beq_eq_true hb) hj
      rw [this] at q
      rw [if_neg hj]
      exact ⟨G', s, q, i⟩
  | _ => exact ⟨G', s, q, i⟩
theorem acodeH_loopS {ι : Type} {c : Code} (S : ι → Env) (L : ι → List Ob) (m : ι → Nat) (I : ι → Prop) (i0 : ι) (h0 : I i0) (hE : subE (S i0) E) (hM : M = L i0)
    (round : ∀ i, I i → ACodeH H P N c (thenA (fun s => ∃ j, I j ∧ m j < m i ∧ subE (S j) s.E ∧ s.M = L j) Q) ⟨S i, L i⟩) : ACodeH H P N (.loop c) Q ⟨E, M⟩ := by
  subst hM
  intro K G a w hH hi
  refine wp_loop_ghost (fun n a w => ∃ i G, I i ∧ m i = n ∧ Inv K N G ⟨S i, L i⟩ a w) (m i0) ⟨i0, G, h0, rfl, inv_sub hE hi⟩ ?_
  rintro n a w ⟨i, G, hI, rfl, hi⟩
  refine wp_mono (round i hI K G a w hH hi) ?_
  rintro e a' w' ⟨G', ⟨E', M'⟩, q, i'⟩
  cases e with
  | normal =>
    obtain ⟨j, hj, hm, hs, hM⟩ := q
    simp only at hs hM
    subst hM
    exact ⟨m j, hm, j, G', hj, rfl, inv_sub hs i'⟩
  | _ => exact ⟨G', ⟨E', M'⟩, q, i'⟩
/-- A region in which yield is called. -/
theorem acodeH_yield {id lp : Nat} {rec : Loop} {G0 : Gh} {l1 l2 : List Oper} {oy : Oper} {xs : List A} {R : List Ob → Prop} (hd : (l1 ++ oy :: l2).all noDef = true) (hQ : ∀ s, ¬ Q .outgrown s) (hy : YieldC P lp rec G0 xs M R)
    (h1 : AOps P N (l1 ++ oy :: l2).toArray l1 (fun e s => e = .normal ∧ s.M = M ∧ ∃ g args tys d, oy.op = .call { callee := .value g, args, argTypes := tys } ∧ opA s.E g = .yld lp ∧ args.toList.map (opA s.E) = xs ∧ guardOn (l1 ++ oy :: l2).toArray oy s.E = some true ∧ oy.dst = some d ∧ Nat.blt d N = true ∧ ∀ M', R M' → AOps P N (l1 ++ oy :: l2).toArray l2 Q ⟨(d, .bool true) :: s.E, M'⟩) ⟨E, M⟩) :
    ACodeH (HL lp rec G0) P N (.region id (l1 ++ oy :: l2).toArray false) Q ⟨E, M⟩ := by
  rintro K G a w ⟨hH1, hH2, hH3⟩ hi
  refine (wpIn_wide (n := 0)).1 ?_
  refine wpIn_region_lit (F := Fr none) ?_
  have hd' := hd
  rw [List.all_append, Bool.and_eq_true, List.all_cons, Bool.and_eq_true] at hd'
  have hls : K.w0.heap.size > lp := (Array.getElem?_eq_some_iff.1 hH1).1
  have hl1 := h1 K G a w hi
  refine list_in (ro := none) (n := 0) (l2 := oy :: l2) ?_ ?_ ?_ l1 a w hd'.1 hl1
  · rintro e a w he ⟨_, _, ⟨h, _⟩, _⟩
    exact absurd h he
  · exact lets_lift fun s h => by cases h.1
  · rintro a w ⟨G1, ⟨E1, M1⟩, ⟨_, hM, g, args, tys, d, hop, hg, hxs, hgu, hdst, hdN, hnext⟩, hi1⟩
    simp only at hM hg hxs hgu hnext
    subst hM
    have hgr := opA_rep hi1 g
    rw [hg] at hgr
    have hgr : a.eval g = .func (.yield lp) #[] #[] := hgr
    have hw : w.heap[lp]? = some (.loop rec) := (hi1.ok.fr lp hls hH2).trans hH1
    have hrl := repL_ops hi1 args.toList
    rw [hxs] at hrl
    obtain ⟨fid, tmps, asg, bd, hrun, hround⟩ := hy 0 G1 w (args.toList.map a.eval) hi1.ok.enter (hH3 ▸ hi1.ok.g) hw hrl
    unfold wpListIn
    rw [guard_spec hi1 hgu, if_pos rfl]
    refine ⟨fun _ _ => trivial, ?_⟩
    rw [noDef_at hd'.2.1]
    have hex : (execOp a.eval oy).run P w = .ok (.round lp fid tmps asg bd) w := by
      have e1 : args.map a.eval = (args.toList.map a.eval).toArray := by apply Array.toList_inj.1; simp
      rw [← e1] at hrun
      simp only [execOp, hop, resolve, Deferred.ofValue, hgr, Sem.run_bind, Sem.run_pure, Result.andThen_ok, invoke, Array.empty_append, Array.append_empty, hrun]
    rw [hex, Oper.uponIn_round]
    refine ⟨fun h => (by cases h), ?_⟩
    refine hround.mono ?_
    rintro e w' ⟨rfl, G', M', hRM, hok'⟩
    have hdo : dstOk N oy.dst = true := by rw [hdst]; exact hdN
    have hi2 := hi1.put hok'.g (hi1.ok.back hok') hdo (x := .bool true) (v := .bool true) rfl
    have hi3 : Inv K N G' ⟨(d, .bool true) :: E1, M'⟩ (a.put oy.dst (.bool true)) w' := by
      have h := hi2
      rw [hdst] at h
      rw [hdst]; exact h
    have := list_in (P := P) (ro := none) (n := 0) (ops := (l1 ++ oy :: l2).toArray) (Q := lift K N Q) (Q' := lift K N Q) (fun _ _ _ _ h => h) (lets_lift hQ) (l2 := []) (fun a w h => wpListIn_nil h) l2 _ w' hd'.2.2 (hnext M' hRM K G' _ _ hi3)
    rwa [List.append_nil] at this
theorem acodeH_yieldN {id lp : Nat} {rec : Loop} {G0 : Gh} {l : List Oper} (m : Nat) {l1 l2 : List Oper} {oy : Oper} {xs : List A} {R : List Ob → Prop} (e1 : l.take m = l1) (ho : l[m]? = some oy) (e2 : l.drop (m + 1) = l2) (hd : l.all noDef = true) (hQ : ∀ s, ¬ Q .outgrown s) (hy : YieldC P lp rec G0 xs M R)
    (h1 : AOps P N l.toArray l1 (fun e s => e = .normal ∧ s.M = M ∧ ∃ g args tys d, oy.op = .call { callee := .value g, args, argTypes := tys } ∧ opA s.E g = .yld lp ∧ args.toList.map (opA s.E) = xs ∧ guardOn l.toArray oy s.E = some true ∧ oy.dst = some d ∧ Nat.blt d N = true ∧ ∀ M', R M' → AOps P N l.toArray l2 Q ⟨(d, .bool true) :: s.E, M'⟩) ⟨E, M⟩) :
    ACodeH (HL lp rec G0) P N (.region id l.toArray false) Q ⟨E, M⟩ := by
  have e : l = l1 ++ oy :: l2 := by
    obtain ⟨hlt, he⟩ := List.getElem?_eq_some_iff.1 ho
    rw [← e1, ← e2, ← he, ← List.drop_eq_getElem_cons hlt, List.take_append_drop]
  subst e
  exact acodeH_yield hd hQ hy h1
theorem iter_of {gf : FuncId} {fn : Func} {c : Code} {cap : List A} {xs : Nat → List A} {len : Nat} (N : Nat) (hf : P.funcs[gf]? = some fn) (hb : fn.body = some c) (hN : fn.ntmps = N) (hn : Nat.ble (cap.length + 1) N = true) (hres : fn.results = #[])
    (h : ∀ (J : Nat → List Ob → Prop) (M0 : List Ob) (l : Nat) (rec : Loop) (G0 : Gh), J 0 M0 → (∀ k M, k < len → J k M → YieldC P l rec G0 (xs k) M (J (k + 1))) → ACodeH (HL l rec G0) P N c (fun e s => match e with | .ret | .normal => J len s.M | _ => False) ⟨envFrom 0 (.yld l :: cap), M0⟩) : IterC P gf cap xs len := by
  intro J M0 l rec n G w vs hJ0 ho hl hrec hY
  subst hN
  have hn : (A.yld l :: cap).length ≤ fn.ntmps := Nat.le_of_ble_eq_true hn
  have hlen := hl.length
  have h2 := h J M0 l rec G hJ0 hY
  generalize hargs : (A.yld l :: cap) = args at *
  have hlo : l ∉ keys M0 := ho.notOwn (fun c t f e => by rw [hrec] at e; cases e)
  refine calls_in (calls_of_wp hf hb (wp_mono (h2 ⟨w, keys M0, G⟩ G _ w ⟨hrec, hlo, rfl⟩ ⟨ho, ?_, rfl, ?_⟩) ?_))
  · simp; omega
  · intro t
    show Rep G (get (envFrom 0 args) t) _
    rw [get_envFrom, if_pos (Nat.zero_le _), Nat.sub_zero]
    by_cases ht : t < args.length
    · obtain ⟨v, hv, hr⟩ := hl.at t (List.getElem?_eq_getElem ht)
      have e1 : args.getD t .any = args[t] := by simp [ht]
      rw [e1]
      have hlt : t < vs.length := by omega
      have e2 : vs[t] = v := by rw [List.getElem?_eq_getElem hlt] at hv; exact Option.some.inj hv
      simp [Array.getElem?_append, hlt, e2, hr]
    · have e1 : args.getD t .any = .any := by simp [List.getElem?_eq_none (Nat.le_of_not_lt ht)]
      rw [e1]
      trivial
  · rintro e a' w' ⟨G', s, q, i⟩
    have fin : J len s.M → a'.defers = [] ∧ ∃ v, (results fn a'.tmps).run P w' = .ok v w' ∧ ∃ v_1, Ending.returned v = .returned v_1 ∧ ∃ G' M', J len M' ∧ Ok ⟨w, keys M0, G⟩ G' M' w' := by
      intro hr
      exact ⟨i.df, _, run_results0 hres, _, rfl, G', s.M, hr, i.ok⟩
    cases e with
    | normal => exact fin q
    | ret => exact fin q
    | _ => exact q.elim
end
end Go.Proofs.Ytbnhmioijeagiaa.Ab
/- Package choose in plain terms: the rules of a pick, two rows of rules held against each other. No condition. -/
set_option linter.unusedVariables false
set_option linter.unusedSimpArgs false
namespace Go.Proofs.Ytbnhmioijeagiaa.Ab
mutual
def szP : Pk → Nat
  | .tk => 0
  | .nd _ _ ks => 1 + szPs ks
def szPs : List Pk → Nat
  | [] => 0
  | k :: ks => szP k + szPs ks
end
mutual
/-- How deep a pick is. -/
def dpP : Pk → Nat
  | .tk => 0
  | .nd _ _ ks => 1 + dpPs ks
def dpPs : List Pk → Nat
  | [] => 0
  | k :: ks => max (dpP k) (dpPs ks)
end
theorem dpPs_mem : ∀ {ks : List Pk} {q : Pk}, q ∈ ks → dpP q ≤ dpPs ks
  | k :: ks, q, h => by
    rw [dpPs]
    rcases List.mem_cons.1 h with rfl | h
    · omega
    · have := dpPs_mem h; omega
theorem dpPs_le {n : Nat} : ∀ {ks : List Pk}, (∀ q ∈ ks, dpP q ≤ n) → dpPs ks ≤ n
  | [], _ => by simp [dpPs]
  | k :: ks, h => by
    have h1 := h k (by simp)
    have h2 := dpPs_le (ks := ks) fun q hq => h q (by simp [hq])
    rw [dpPs]; omega
/-- A row of picks yet to come is never long. -/
def StOk (K D : Nat) : List Pk → Prop
  | [] => True
  | x :: r => r.length ≤ K * (D - dpP x) ∧ dpP x ≤ D ∧ StOk K D r
theorem stOk_push {K D d : Nat} {r : List Pk} (hr : r.length ≤ K * (D - d)) (hd : d ≤ D) (hs : StOk K D r) : ∀ {l : List Pk}, l.length ≤ K → (∀ c ∈ l, dpP c + 1 ≤ d) → StOk K D (l ++ r)
  | [], _, _ => hs
  | c :: l, hl, hc => by
    have h1 := hc c (by simp)
    rw [List.length_cons] at hl
    refine ⟨?_, by omega, stOk_push hr hd hs (by omega) fun x hx => hc x (by simp [hx])⟩
    have h2 : K * (D - d + 1) ≤ K * (D - dpP c) := Nat.mul_le_mul_left _ (by omega)
    rw [Nat.mul_add, Nat.mul_one] at h2
    show (l ++ r).length ≤ K * (D - dpP c)
    rw [List.length_append]; omega
theorem stOk_len {K D : Nat} : ∀ {X : List Pk}, StOk K D X → X.length ≤ K * D + 1
  | [], _ => by simp
  | x :: r, h => by
    have : K * (D - dpP x) ≤ K * D := Nat.mul_le_mul_left _ (by omega)
    have := h.1
    rw [List.length_cons]; omega
theorem rulesPs_app : ∀ a b : List Pk, rulesPs (a ++ b) = rulesPs a ++ rulesPs b
  | [], b => by simp [rulesPs]
  | k :: a, b => by rw [List.cons_append, rulesPs, rulesPs, rulesPs_app a b, List.append_assoc]
theorem szPs_app : ∀ a b : List Pk, szPs (a ++ b) = szPs a + szPs b
  | [], b => by simp [szPs]
  | k :: a, b => by rw [List.cons_append, szPs, szPs, szPs_app a b]; omega
/-- Those that are no token's place. -/
def ndsP (ks : List Pk) : List Pk := ks.filter fun q => !q.isTk
theorem rulesPs_nds : ∀ ks : List Pk, rulesPs (ndsP ks) = rulesPs ks
  | [] => rfl
  | .tk :: ks => by
    have := rulesPs_nds ks
    unfold ndsP at this ⊢
    rw [List.filter_cons_of_neg (by simp [Pk.isTk]), this, rulesPs, rulesP]; rfl
  | .nd a w q :: ks => by
    have := rulesPs_nds ks
    unfold ndsP at this ⊢
    rw [List.filter_cons_of_pos (by simp [Pk.isTk]), rulesPs, rulesPs, this]
theorem szPs_nds : ∀ ks : List Pk, szPs (ndsP ks) = szPs ks
  | [] => rfl
  | .tk :: ks => by
    have := szPs_nds ks
    unfold ndsP at this ⊢
    rw [List.filter_cons_of_neg (by simp [Pk.isTk]), this, szPs, szP]; omega
  | .nd a w q :: ks => by
    have := szPs_nds ks
    unfold ndsP at this ⊢
    rw [List.filter_cons_of_pos (by simp [Pk.isTk]), szPs, szPs, this]
theorem cmpL_self : ∀ a : List Int, cmpL a a = 0
  | [] => rfl
  | x :: a => by rw [cmpL, if_pos rfl, cmpL_self a]
theorem cmpL_app : ∀ (r a b : List Int), cmpL (r ++ a) (r ++ b) = cmpL a b
  | [], a, b => rfl
  | x :: r, a, b => by rw [List.cons_append, List.cons_append, cmpL, if_pos rfl, cmpL_app r a b]
/-- Of one rule, always as many kids that are no tokens. -/
inductive PkAr (ar : Int → Nat) : Pk → Prop
  | nd {a : Al} {w : Int} {ks : List Pk} (h8 : ks.length ≤ 1000) (h : (ndsP ks).length = ar a.rule) (hk : ∀ q ∈ ks, q.isTk = false → PkAr ar q) : PkAr ar (.nd a w ks)
/-- What lies in one place has one row of rules. -/
theorem same_len {G : Gh} {xs ys : List A} {vs vs' : List Value} (h1 : RepL G xs vs) (h2 : RepL G ys vs') (hl : xs.length = ys.length) {Z : List Value} (p1 : vs <+: Z) (p2 : vs' <+: Z) : vs = vs' := by
  have e1 := h1.length
  have e2 := h2.length
  exact List.IsPrefix.eq_of_length (List.prefix_of_prefix_length_le p1 p2 (by omega)) (by omega)
theorem pkA_enc_len (ks : List Pk) : (encs pk1 ks).length = ks.length := by rw [encs_len pk1_len]; omega
theorem cells_rules {G : Gh} {n : Nat} (ih0 : ∀ {p q : Pk} {v : Value}, szP p ≤ n → Rep G (pkA p) v → Rep G (pkA q) v → rulesP p = rulesP q) {a a2 : Al} {w w2 : Int} {ks ks2 : List Pk} {vs : List Value} (hn : szPs ks ≤ n)
    (r1 : RepL G [.int .i64 a.rule, .psl a.kids.length (ints a.kids), .int .i64 w, .psl ks.length (encs pk1 ks)] vs) (r2 : RepL G [.int .i64 a2.rule, .psl a2.kids.length (ints a2.kids), .int .i64 w2, .psl ks2.length (encs pk1 ks2)] vs) : rulesP (.nd a w ks) = rulesP (.nd a2 w2 ks2) := by
  obtain ⟨u1, _, rfl, a1, u2, _, rfl, a2', u3, _, rfl, a3, u4, _, rfl, a4, _⟩ := r1
  obtain ⟨_, _, e, b1, _, _, e', b2, _, _, e'', b3, _, _, e''', b4, _⟩ := r2
  cases e; cases e'; cases e''; cases e'''
  simp only [Rep] at a1 b1
  rw [a1] at b1
  have hr : a.rule = a2.rule := by injection b1
  obtain ⟨ad, cap, es, hnc, hz, vsk, rk, hk⟩ := a4
  obtain ⟨ad', cap', es', hnc', hz', vsk', rk', hk'⟩ := b4
  rw [es] at es'
  simp only [Value.slice.injEq] at es'
  obtain ⟨rfl, hlen, rfl⟩ := es'
  have hlk : (encs pk1 ks).length = (encs pk1 ks2).length := by rw [pkA_enc_len, pkA_enc_len, hlen]
  have hvk : vsk = vsk' := by
    have l1 := rk.length
    have l2 := rk'.length
    rcases hk with hk | ⟨b, off, e, hk⟩
    · rw [hk] at l1 hlk
      have : vsk = [] := List.eq_nil_of_length_eq_zero (by simpa using l1)
      have : vsk' = [] := List.eq_nil_of_length_eq_zero (by rw [← hlk] at l2; exact l2)
      simp [*]
    · rcases hk' with hk' | ⟨b', off', e', hk'⟩
      · rw [hk'] at l2 hlk
        have : vsk' = [] := List.eq_nil_of_length_eq_zero (by simpa using l2)
        have : vsk = [] := List.eq_nil_of_length_eq_zero (by rw [hlk] at l1; exact l1)
        simp [*]
      · rw [e] at e'
        simp only [Option.some.injEq, Addr.mk.injEq, and_true] at e'
        obtain ⟨rfl, rfl⟩ := e'
        exact same_len rk rk' hlk hk hk'
  subst hvk
  have key : ∀ (l l2 : List Pk) (vs : List Value), szPs l ≤ n → RepL G (encs pk1 l) vs → RepL G (encs pk1 l2) vs → rulesPs l = rulesPs l2 := by
    intro l
    induction l with
    | nil =>
      intro l2 vs _ h1 h2
      cases l2 with
      | nil => rfl
      | cons q l2 =>
        have h1 : vs = [] := h1
        subst h1
        obtain ⟨_, _, e, _⟩ := h2
        cases e
    | cons q l ih =>
      intro l2 vs hs h1 h2
      rw [szPs] at hs
      obtain ⟨v1, vs1, rfl, c1, c2⟩ := h1
      cases l2 with
      | nil => have h2 : v1 :: vs1 = [] := h2; cases h2
      | cons q2 l2 =>
        obtain ⟨_, _, e, d1, d2⟩ := h2
        cases e
        rw [rulesPs, rulesPs, ih0 (by omega) c1 d1, ih l2 vs1 (by omega) c2 d2]
  rw [rulesP, rulesP, hr, key ks ks2 vsk (by omega) rk rk']
theorem same_rules {G : Gh} : ∀ (n : Nat) {p q : Pk} {v : Value}, szP p ≤ n → Rep G (pkA p) v → Rep G (pkA q) v → rulesP p = rulesP q
  | n, .tk, .tk, v, _, _, _ => rfl
  | n, .tk, .nd a w ks, v, _, h1, h2 => by
    rw [pkA_nd] at h2
    simp only [pkA, Rep] at h1 h2
    obtain ⟨b, off, vs, e, _⟩ := h2
    rw [h1] at e; cases e
  | n, .nd a w ks, .tk, v, _, h1, h2 => by
    rw [pkA_nd] at h1
    simp only [pkA, Rep] at h1 h2
    obtain ⟨b, off, vs, e, _⟩ := h1
    rw [h2] at e; cases e
  | 0, .nd a w ks, .nd a2 w2 ks2, v, hn, _, _ => by rw [szP] at hn; omega
  | n + 1, .nd a w ks, .nd a2 w2 ks2, v, hn, h1, h2 => by
    rw [szP] at hn
    rw [pkA_nd] at h1 h2
    simp only [Rep] at h1 h2
    obtain ⟨b, off, vs, e1, p1, r1, _⟩ := h1
    obtain ⟨b', off', vs', e2, p2, r2, _⟩ := h2
    rw [e1] at e2
    simp only [Value.pointer.injEq, Option.some.injEq, Addr.mk.injEq, and_true] at e2
    obtain ⟨rfl, rfl⟩ := e2
    have hvs := same_len r1 r2 rfl p1 p2
    subst hvs
    exact cells_rules (n := n) (fun h => same_rules n h) (by omega) r1 r2
theorem sameC_rules {a a2 : Al} {w w2 : Int} {ks ks2 : List Pk} (h : SameC [.int .i64 a.rule, .psl a.kids.length (ints a.kids), .int .i64 w, .psl ks.length (encs pk1 ks)] [.int .i64 a2.rule, .psl a2.kids.length (ints a2.kids), .int .i64 w2, .psl ks2.length (encs pk1 ks2)]) : rulesP (.nd a w ks) = rulesP (.nd a2 w2 ks2) := by
  obtain ⟨G, vs, r1, r2⟩ := h
  exact cells_rules (n := szPs ks) (fun h => same_rules _ h) (Nat.le_refl _) r1 r2
end Go.Proofs.Ytbnhmioijeagiaa.Ab
/- Package choose: a pick's kids laid upon a row: the walk. No condition. -/
set_option linter.unusedVariables false
set_option linter.unusedSimpArgs false
namespace Go.Proofs.Ytbnhmioijeagiaa.Ab
attribute [local irreducible] thenA inBlockA ACode AOps put IntKind.wrap ACodeH ACodeR

theorem back_calls {n : Nat} {cs : List A} (M : List Ob) : ACalls Try.prog 115 [.psl n cs] M (fun r M' => r = .fn 119 [.pp [.psl n cs]] ∧ M' = M) := by
  refine acalls_of_code 4 Try.func115 rfl rfl rfl ?_
  repeat (first | refine acode_seq ?_ | refine acode_region ?_)
  refine aops_boxf rfl rfl rfl rfl rfl rfl rfl ?_
  repeat (first | refine aops_end ?_ | refine aops_p tok rfl rfl rfl rfl ?_ | refine acode_seq ?_ | refine acode_region ?_)
  refine acode_ret ?_
  skip
  exact ⟨_, ⟨rfl, rfl⟩, resOf_tmp rfl⟩
theorem back_iter {ks : List Pk} (hl : ks.length ≤ 1000000) : IterC Try.prog 119 [.pp [.psl ks.length (encs pk1 ks)]] (fun k => [.int .i64 ((ks.length : Int) - 1 - k), pkA (ks.getD (ks.length - 1 - k) .tk)]) ks.length := by
  refine iter_of 19 Try.func119 rfl rfl rfl rfl fun J M0 l rec G0 hJ0 hY => ?_
  refine acodeH_seq (acodeH_of ?_)
  refine acode_region ?_
  repeat (first | refine aops_a tok rfl (by omega) (by omega) rfl rfl rfl ?_ | refine aops_p tok rfl rfl rfl rfl ?_)
  refine aops_end ?_
  refine acodeH_block ?_
  refine acodeH_loopS (ι := Nat × List Ob) (fun p => [(0, .yld l), (1, .pp [.psl ks.length (encs pk1 ks)]), (3, .int .i64 ((ks.length : Int) - 1 - p.1))]) (fun p => p.2) (fun p => ks.length - p.1) (fun p => p.1 ≤ ks.length ∧ J p.1 p.2) (0, M0) ⟨Nat.zero_le _, hJ0⟩ ⟨rfl, rfl, congrArg (A.int .i64) (by omega), trivial⟩ rfl ?_
  rintro ⟨k, M⟩ ⟨hk, hJ⟩
  simp only at hk hJ ⊢
  refine acodeH_seq ?_
  refine acodeH_seq (acodeH_of ?_)
  refine acode_region ?_
  repeat (refine aops_p tok rfl rfl rfl rfl ?_)
  refine aops_end ?_
  refine acodeH_cond rfl (fun h => ?_) (fun h => ?_)
  · have h := of_decide_eq_true h
    have hlt : k < ks.length := by omega
    obtain ⟨q, hq⟩ : ∃ q, ks[ks.length - 1 - k]? = some q := ⟨ks[ks.length - 1 - k]'(by omega), List.getElem?_eq_getElem _⟩
    have hqd : ks.getD (ks.length - 1 - k) .tk = q := by rw [List.getD_eq_getElem?_getD, hq]; rfl
    have hqa := encs_at (e := pk1) (s := 1) (fun _ => rfl) (i := ((ks.length : Int) - 1 - k).toNat) (x := q) (l := ks) (by rw [show ((ks.length : Int) - 1 - k).toNat = ks.length - 1 - k by omega]; exact hq)
    have hy := hY k M hlt hJ
    rw [hqd] at hy
    refine acodeH_of (acode_skip (then_n ?_))
    refine acodeH_seq ?_
    refine acodeH_block ?_
    refine acodeH_seq ?_
    refine acodeH_yieldN 6 rfl rfl rfl rfl (fun s h => by simp [thenA, inBlockA] at h) hy ?_
    repeat (refine aops_p tok rfl rfl rfl rfl ?_)
    refine aops_ix tok [pkA q] rfl rfl rfl rfl (by omega) (by omega) (by simp) hqa rfl rfl rfl ?_
    cases q with
    | tk =>
      rw [show pkA .tk = .nilp from rfl]
      repeat (refine aops_p tok rfl rfl rfl rfl ?_)
      refine aops_nil ⟨rfl, rfl, _, _, _, _, rfl, rfl, rfl, rfl, rfl, rfl, fun M' hM' => ?_⟩
      repeat (refine aops_p tok rfl rfl rfl rfl ?_)
      refine aops_end ?_
      refine acodeH_cond (b := false) rfl (fun h => by cases h) (fun _ => ?_)
      refine acodeH_of (acode_skip (block_n (then_n ?_)))
      refine acodeH_of (acode_region ?_)
      repeat (first | refine aops_a tok rfl (by omega) (by omega) rfl rfl rfl ?_ | refine aops_p tok rfl rfl rfl rfl ?_)
      refine aops_end ?_
      exact ⟨(k + 1, M'), ⟨by simp only; omega, hM'⟩, by simp only; omega, ⟨rfl, rfl, congrArg (A.int .i64) (by omega), trivial⟩, rfl⟩
    | nd a w q =>
      rw [pkA_nd]
      repeat (refine aops_p tok rfl rfl rfl rfl ?_)
      refine aops_nil ⟨rfl, rfl, _, _, _, _, rfl, rfl, rfl, rfl, rfl, rfl, fun M' hM' => ?_⟩
      repeat (refine aops_p tok rfl rfl rfl rfl ?_)
      refine aops_end ?_
      refine acodeH_cond (b := false) rfl (fun h => by cases h) (fun _ => ?_)
      refine acodeH_of (acode_skip (block_n (then_n ?_)))
      refine acodeH_of (acode_region ?_)
      repeat (first | refine aops_a tok rfl (by omega) (by omega) rfl rfl rfl ?_ | refine aops_p tok rfl rfl rfl rfl ?_)
      refine aops_end ?_
      exact ⟨(k + 1, M'), ⟨by simp only; omega, hM'⟩, by simp only; omega, ⟨rfl, rfl, congrArg (A.int .i64) (by omega), trivial⟩, rfl⟩
  · have h := of_decide_eq_false h
    obtain rfl : k = ks.length := by omega
    refine acodeH_of (acode_exit ?_)
    repeat (first | refine exit_then ?_ | refine exit_here ?_)
    exact hJ
/-- The row of picks as it lies: its box, what is behind. -/
abbrev rowM (rb : Nat) (ob : Option Nat) (cap : Nat) (st : List Pk) (M : List Ob) : List Ob := ⟨some rb, 1, [.own ob st.length cap]⟩ :: ⟨ob, cap * 1, encs pk1 st⟩ :: M
theorem enter_calls {a : Al} {w : Int} {ks st : List Pk} {rb cap : Nat} {ob : Option Nat} (hk : ks.length ≤ 1000) (hst : st.length ≤ 1000000) (M : List Ob) :
    ACalls Try.prog 106 [.ref rb 0, pkA (.nd a w ks)] (rowM rb ob cap st M) (fun r M' => r = .tup [] ∧ ∃ ob' cap', M' = rowM rb ob' cap' (st ++ ndsP ks.reverse) M) := by
  rw [pkA_nd]
  refine acalls_range (p1 := 11) (p2 := 12) 25 Try.func106 rfl rfl rfl rfl rfl rfl ?_
  refine acode_region ?_
  skip
  refine aops_boxo rfl rfl rfl rfl rfl rfl rfl fun b2 => ?_
  refine aops_nil ⟨rfl, ?_⟩
  refine acode_region ?_
  repeat (refine aops_p tok rfl rfl rfl rfl ?_)
  refine aops_callx Try.func115 rfl rfl rfl rfl (back_calls _) rfl rfl rfl ?_
  refine aops_nil ⟨rfl, ?_⟩
  refine ⟨_, _, _, fun k => .int .i64 ((ks.length : Int) - 1 - k), fun k => pkA (ks.getD (ks.length - 1 - k) .tk), ks.length, fun k M2 => ∃ ob' cap', M2 = ⟨some b2, 1, [.ref rb 0]⟩ :: rowM rb ob' cap' (st ++ ndsP (ks.reverse.take k)) M, ⟨ob, cap, by simp [ndsP]⟩, rfl, Try.func119, rfl, back_iter (by omega), ?_, ?_⟩
  · rintro k M2 hlt ⟨ob', cap', rfl⟩ l
    obtain ⟨q, hq⟩ : ∃ q, ks[ks.length - 1 - k]? = some q := ⟨ks[ks.length - 1 - k]'(by omega), List.getElem?_eq_getElem _⟩
    have hqd : ks.getD (ks.length - 1 - k) .tk = q := by rw [List.getD_eq_getElem?_getD, hq]; rfl
    have hqr : ks.reverse[k]? = some q := by rw [List.getElem?_reverse hlt]; exact hq
    have htk : ndsP (ks.reverse.take (k + 1)) = ndsP (ks.reverse.take k) ++ ndsP [q] := by unfold ndsP; rw [List.take_add_one, hqr, List.filter_append]; rfl
    have hlen : (ndsP (ks.reverse.take k)).length ≤ 1000 := by
      unfold ndsP
      refine Nat.le_trans (List.length_filter_le _ _) ?_
      rw [List.length_take]; omega
    simp only [hqd]
    generalize ndsP (ks.reverse.take k) = dn at *
    cases q with
    | tk =>
      rw [show ndsP [Pk.tk] = [] from rfl, List.append_nil] at htk
      rw [show pkA .tk = .nilp from rfl]
      refine acodeR_region rfl (fun s h => by cases h.1) ?_
      repeat (refine aops_p tok rfl rfl rfl rfl ?_)
      refine aops_nil ⟨rfl, rfl, ?_⟩
      refine acodeR_block ?_
      refine acodeR_seq ?_
      refine acodeR_region rfl (fun s h => by simp [thenA, inBlockA] at h) ?_
      repeat (refine aops_p tok rfl rfl rfl rfl ?_)
      refine aops_pnz tok (b := true) rfl rfl rfl rfl rfl rfl ?_
      refine aops_end ?_
      refine acodeR_cond (b := false) rfl (fun h => by cases h) (fun _ => ?_)
      refine acodeR_skip (block_n ⟨rfl, ob', cap', ?_⟩)
      rw [htk]
    | nd a2 w2 q2 =>
      rw [show ndsP [Pk.nd a2 w2 q2] = [Pk.nd a2 w2 q2] from rfl] at htk
      rw [pkA_nd]
      refine acodeR_region rfl (fun s h => by cases h.1) ?_
      repeat (refine aops_p tok rfl rfl rfl rfl ?_)
      refine aops_nil ⟨rfl, rfl, ?_⟩
      refine acodeR_block ?_
      refine acodeR_seq ?_
      refine acodeR_region rfl (fun s h => by simp [thenA, inBlockA] at h) ?_
      repeat (refine aops_p tok rfl rfl rfl rfl ?_)
      refine aops_pnz tok (b := false) rfl rfl rfl rfl rfl rfl ?_
      refine aops_end ?_
      refine acodeR_cond (b := true) rfl (fun _ => ?_) (fun h => by cases h)
      refine acodeR_drawP [⟨some b2, 1, [.ref rb 0]⟩, ⟨some rb, 1, [.own ob' (st ++ dn).length cap']⟩] 8 [0, 1, 2, 3, 4, 5, 6, 7] [7] rfl (fun s h => by simp [inBlockA] at h) mixed (by kernel_rfl) (by kernel_rfl) rfl ?_
      repeat (first | refine seqO_p tok rfl rfl rfl rfl rfl ?_ | refine seqO_ld tok 0 rfl rfl rfl rfl rfl (by simp) rfl rfl rfl rfl ?_ | refine seqO_ld tok 1 rfl rfl rfl rfl rfl (by simp) rfl rfl rfl rfl ?_)
      refine seqO_lit tok rfl rfl rfl rfl rfl rfl rfl rfl rfl ?_
      refine seqO_app tok 2 (m := 1) (ds := [.cp [.int .i64 a2.rule, .psl a2.kids.length (ints a2.kids), .int .i64 w2, .psl q2.length (encs pk1 q2)]]) rfl rfl rfl rfl (.inl rfl) rfl rfl (by rw [encs_len pk1_len]) rfl rfl rfl (by show _ * 8 ≤ _; simp; omega) (by simp; omega) (by intro y o ho; simp at ho ⊢; rcases ho with rfl | rfl <;> simp) rfl rfl rfl fun ob2 cap2 => ?_
      skip
      refine SeqO.done ?_
      refine aops_somed 22 rfl (by omega) fun c hc => ?_
      subst hc
      repeat (first | refine aops_p tok rfl rfl rfl rfl ?_ | refine aops_stn1 tok rfl rfl rfl rfl rfl rfl rfl rfl rfl ?_)
      refine aops_nil (block_n ⟨rfl, some c, cap2, ?_⟩)
      rw [htk, ← List.append_assoc]
      simp only [rowM, encs_app, List.length_append]
      rw [show encs pk1 [Pk.nd a2 w2 q2] = [pkA (.nd a2 w2 q2)] from rfl, pkA_nd]
      rfl
  · rintro M2 ⟨ob', cap', rfl⟩
    refine ⟨_, List.sublist_cons_self _ _, rfl, ob', cap', ?_⟩
    rw [List.take_of_length_le (by simp)]
end Go.Proofs.Ytbnhmioijeagiaa.Ab
/- Package choose: two picks held against each other: the walk. No condition. -/
set_option linter.unusedVariables false
set_option linter.unusedSimpArgs false
namespace Go.Proofs.Ytbnhmioijeagiaa.Ab
section
variable {P : Program} {T : List TI} {N : Nat} {ops : Array Oper} {Q : Exit → St → Prop} {E F : Env} {M : List Ob}
theorem room_of {K : Ctx} {G : Gh} {w : World} (hok : Ok K G M w) {k : Nat} {ob : Option Nat} {room : Nat} {cs : List A} (hM : M[k]? = some ⟨ob, room, cs⟩) : cs.length ≤ room := by
  have hmem := List.mem_of_getElem? hM
  cases ob with
  | none =>
    have := (hok.vn _ hmem rfl).1
    simp only at this
    rw [this]; simp
  | some b =>
    obtain ⟨vs, sp, t, _, hl, hr⟩ := hok.ow _ hmem b rfl
    have := hl.length
    simp only at hr this
    omega
theorem acalls_room {f : FuncId} {xs : List A} {R : A → List Ob → Prop} (k : Nat) {ob : Option Nat} {room : Nat} {cs : List A} (hM : M[k]? = some ⟨ob, room, cs⟩) (next : cs.length ≤ room → ACalls P f xs M R) : ACalls P f xs M R :=
  fun G w vs hok hl => next (room_of hok hM) G w vs hok hl
end
attribute [local irreducible] thenA inBlockA ACode AOps put IntKind.wrap
theorem nextnil_calls {b : Nat} {ob : Option Nat} {cap : Nat} (M : List Ob) : ACalls Try.prog 104 [.ref b 0] (rowM b ob cap [] M) (fun r M' => r = .nilp ∧ M' = rowM b ob cap [] M) := by
  refine acalls_of_code 37 Try.func104 rfl rfl rfl ?_
  repeat' (first | refine aops_end ?_ | refine aops_pbt tok rfl (by first | omega | decide) rfl rfl rfl ?_ | refine aops_p tok rfl rfl rfl rfl ?_ | refine acode_it rfl ?_ | refine aops_ld tok 0 rfl rfl rfl rfl rfl rfl rfl rfl ?_ | refine acode_seq ?_ | refine acode_region ?_)
  all_goals try (exfalso; simp at *; done)
  refine acode_ret ?_
  repeat (refine ret_then ?_)
  exact ⟨_, ⟨rfl, rfl⟩, resOf_tmp rfl⟩
theorem nextp_calls {b : Nat} {ob : Option Nat} {cap : Nat} {a : Al} {w : Int} {ks X : List Pk} (hl : X.length ≤ 1000000000) (M : List Ob) : ACalls Try.prog 104 [.ref b 0] (rowM b ob cap (Pk.nd a w ks :: X).reverse M) (fun r M' => r = pkA (.nd a w ks) ∧ M' = rowM b ob cap X.reverse M) := by
  refine acalls_room 1 rfl fun hroom => ?_
  have e1 : encs pk1 (Pk.nd a w ks :: X).reverse = encs pk1 X.reverse ++ [pkA (.nd a w ks)] := by
    rw [List.reverse_cons, encs_app]; rfl
  have hlen : (encs pk1 X.reverse).length = X.length := by rw [encs_len pk1_len, List.length_reverse]; omega
  have h := next_calls (b := b) (ob := ob) (cap := cap) (cs := encs pk1 X.reverse) (ys := [.int .i64 a.rule, .psl a.kids.length (ints a.kids), .int .i64 w, .psl ks.length (encs pk1 ks)]) (by rw [e1, List.length_append] at hroom; simpa using hroom) (by omega) M
  rw [hlen] at h
  have e2 : (Pk.nd a w ks :: X).reverse.length = X.length + 1 := by simp
  have e3 : rowM b ob cap (Pk.nd a w ks :: X).reverse M = ⟨some b, 1, [.own ob (X.length + 1) cap]⟩ :: ⟨ob, cap * 1, encs pk1 X.reverse ++ [.cp [.int .i64 a.rule, .psl a.kids.length (ints a.kids), .int .i64 w, .psl ks.length (encs pk1 ks)]]⟩ :: M := by
    unfold rowM; rw [e1, e2, pkA_nd]
  have e4 : rowM b ob cap X.reverse M = ⟨some b, 1, [.own ob X.length cap]⟩ :: ⟨ob, cap * 1, encs pk1 X.reverse⟩ :: M := by
    unfold rowM; rw [List.length_reverse]
  rw [e3, e4, pkA_nd]
  exact h
theorem nds_rev (ks : List Pk) : ndsP ks.reverse = (ndsP ks).reverse := by unfold ndsP; rw [List.filter_reverse]
theorem cmpI_eq (a b : Int) : cmpI a b = cmpI' a b := rfl
set_option maxHeartbeats 8000000 in
theorem cmp_calls {ar : Int → Nat} {a b : Pk} (ha : PkAr ar a) (hb : PkAr ar b) (sa : dpP a ≤ 900) (sb : dpP b ≤ 900) (M : List Ob) : ACalls Try.prog 88 [pkA a, pkA b] M (fun r M' => r = .int .i64 (cmpL (rulesP a) (rulesP b)) ∧ M' = M) := by
  have hna : a.isTk = false := by cases ha; rfl
  have hnb : b.isTk = false := by cases hb; rfl
  obtain ⟨a1, w1, k1, rfl⟩ : ∃ x y z, a = .nd x y z := by cases a with | tk => cases hna | nd x y z => exact ⟨x, y, z, rfl⟩
  obtain ⟨a2, w2, k2, rfl⟩ : ∃ x y z, b = .nd x y z := by cases b with | tk => cases hnb | nd x y z => exact ⟨x, y, z, rfl⟩
  have hinit : cmpL (rulesPs [.nd a1 w1 k1]) (rulesPs [.nd a2 w2 k2]) = cmpL (rulesP (.nd a1 w1 k1)) (rulesP (.nd a2 w2 k2)) := by simp [rulesPs]
  generalize cmpL (rulesP (.nd a1 w1 k1)) (rulesP (.nd a2 w2 k2)) = C at *
  rw [pkA_nd, pkA_nd]
  refine acalls_of_code 62 Try.func88 rfl rfl rfl ?_
  repeat (first | refine aops_end ?_ | refine aops_p tok rfl rfl rfl rfl ?_ | refine acode_seq ?_ | refine acode_region ?_)
  refine aops_lito tok rfl rfl rfl rfl rfl rfl rfl fun o1 => ?_
  repeat (refine aops_p tok rfl rfl rfl rfl ?_)
  refine aops_lito tok rfl rfl rfl rfl rfl rfl rfl fun o2 => ?_
  repeat (refine aops_p tok rfl rfl rfl rfl ?_)
  refine aops_alloc tok rfl rfl rfl rfl rfl rfl fun b5 => ?_
  skip
  refine aops_alloc tok rfl rfl rfl rfl rfl rfl fun b6 => ?_
  repeat (first | refine aops_end ?_ | refine aops_stn tok rfl rfl rfl rfl rfl rfl rfl rfl rfl ?_ | refine aops_stn1 tok rfl rfl rfl rfl rfl rfl rfl rfl rfl ?_ | refine acode_block ?_)
  refine acode_perm (⟨some b6, 1, [.own (some o2) 1 1]⟩ :: ⟨some b5, 1, [.own (some o1) 1 1]⟩ :: ⟨some o2, 1, [.cp [.int .i64 a2.rule, .psl a2.kids.length (ints a2.kids), .int .i64 w2, .psl k2.length (encs pk1 k2)]]⟩ :: ⟨some o1, 1, [.cp [.int .i64 a1.rule, .psl a1.kids.length (ints a1.kids), .int .i64 w1, .psl k1.length (encs pk1 k1)]]⟩ :: M) (List.Perm.refl _) ?_
  have hr1 : ∀ (b : Nat) (o : Nat) (a : Al) (w : Int) (k : List Pk) (M : List Ob), rowM b (some o) 1 [.nd a w k] M = ⟨some b, 1, [.own (some o) 1 1]⟩ :: ⟨some o, 1, [.cp [.int .i64 a.rule, .psl a.kids.length (ints a.kids), .int .i64 w, .psl k.length (encs pk1 k)]]⟩ :: M := fun b o a w k M => by
    unfold rowM
    rw [show encs pk1 [Pk.nd a w k] = [pkA (.nd a w k)] from rfl, pkA_nd]
    rfl
  refine acode_perm (rowM b5 (some o1) 1 [.nd a1 w1 k1] (rowM b6 (some o2) 1 [.nd a2 w2 k2] M)) ?_ ?_
  · rw [hr1, hr1]
    exact (List.Perm.swap _ _ _).trans (.cons _ (List.perm_middle (l₁ := [_, _])))
  refine acode_loopS (ι := (List Pk × List Pk) × (Option Nat × Nat) × (Option Nat × Nat)) (fun _ => [(5, .ref b5 0), (6, .ref b6 0)]) (fun p => rowM b5 p.2.1.1 p.2.1.2 p.1.1.reverse (rowM b6 p.2.2.1 p.2.2.2 p.1.2.reverse M)) (fun p => szPs p.1.1)
    (fun p => cmpL (rulesPs p.1.1) (rulesPs p.1.2) = C ∧ p.1.1.length = p.1.2.length ∧ (∀ q ∈ p.1.1, PkAr ar q) ∧ (∀ q ∈ p.1.2, PkAr ar q) ∧ StOk 1000 900 p.1.1 ∧ StOk 1000 900 p.1.2) (([.nd a1 w1 k1], [.nd a2 w2 k2]), (some o1, 1), (some o2, 1))
    ⟨hinit, rfl, fun q h => by rw [List.mem_singleton.1 h]; exact ha, fun q h => by rw [List.mem_singleton.1 h]; exact hb, ⟨Nat.zero_le _, sa, trivial⟩, ⟨Nat.zero_le _, sb, trivial⟩⟩ ⟨rfl, rfl, trivial⟩ rfl ?_
  rintro ⟨⟨X, Y⟩, ⟨obx, capx⟩, oby, capy⟩ ⟨hC, hlen, hX, hY, hsx, hsy⟩
  simp only at hC hlen hX hY hsx hsy ⊢
  cases X with
  | nil =>
    obtain rfl : Y = [] := List.eq_nil_of_length_eq_zero hlen.symm
    repeat (first | refine acode_seq ?_ | refine acode_region ?_ | refine acode_block ?_)
    refine aops_call Try.func104 rfl rfl rfl rfl (nextnil_calls (b := b5) (ob := obx) (cap := capx) _) rfl rfl ?_
    rintro y M' ⟨rfl, rfl⟩
    repeat (refine aops_put rfl ?_)
    refine aops_perm (rowM b6 oby capy [] (rowM b5 obx capx [] M)) ?_ ?_
    · exact List.perm_append_comm_assoc [_, _] [_, _] M
    refine aops_call Try.func104 rfl rfl rfl rfl (nextnil_calls (b := b6) (ob := oby) (cap := capy) _) rfl rfl ?_
    rintro y M' ⟨rfl, rfl⟩
    repeat (first | refine aops_put rfl ?_ | refine aops_end ?_ | refine aops_p tok rfl rfl rfl rfl ?_ | refine acode_seq ?_ | refine acode_region ?_ | refine acode_block ?_)
    refine aops_pz tok (b := true) rfl rfl rfl rfl rfl rfl ?_
    repeat' (first | refine aops_end ?_ | refine aops_o rfl rfl rfl ?_ | refine aops_p tok rfl rfl rfl rfl ?_ | refine acode_it rfl ?_ | refine acode_seq ?_ | refine acode_region ?_)
    refine aops_ld tok 2 (y := .own obx 0 capx) rfl rfl rfl rfl (by rw [headed_eq]; rfl) rfl rfl rfl ?_
    repeat (first | refine aops_p tok rfl rfl rfl rfl ?_ | refine aops_ld tok 0 rfl rfl rfl rfl rfl rfl rfl rfl ?_)
    refine aops_callx Try.func105 rfl rfl rfl rfl (ccmp_calls _) rfl rfl rfl ?_
    repeat (first | refine aops_end ?_ | refine aops_p tok rfl rfl rfl rfl ?_)
    refine acode_drop0 (acode_drop0 (acode_drop0 (acode_drop0 ?_)))
    refine acode_ret ?_
    repeat (first | refine ret_then ?_ | refine ret_block ?_)
    exact ⟨.int .i64 0, ⟨by rw [← hC]; rfl, rfl⟩, resOf_tmp rfl⟩
  | cons p X =>
    cases Y with
    | nil => cases hlen
    | cons q Y =>
      obtain ⟨x1, y1, z1, rfl⟩ : ∃ x y z, p = .nd x y z := by cases hX p (by simp); exact ⟨_, _, _, rfl⟩
      obtain ⟨x2, y2, z2, rfl⟩ : ∃ x y z, q = .nd x y z := by cases hY q (by simp); exact ⟨_, _, _, rfl⟩
      have hA1 := hX _ (List.mem_cons_self)
      have hA2 := hY _ (List.mem_cons_self)
      have hl1 : X.length ≤ 1000000 := by
        have := stOk_len hsx.2.2
        omega
      have hl2 : Y.length ≤ 1000000 := by
        have := stOk_len hsy.2.2
        omega
      have hn1 := fun M => nextp_calls (b := b5) (ob := obx) (cap := capx) (a := x1) (w := y1) (ks := z1) (X := X) (by omega) M
      have hn2 := fun M => nextp_calls (b := b6) (ob := oby) (cap := capy) (a := x2) (w := y2) (ks := z2) (X := Y) (by omega) M
      have he1 := fun M => enter_calls (a := x1) (w := y1) (ks := z1) (st := X.reverse) (rb := b5) (cap := capx) (ob := obx) (by cases hA1; assumption) (by rw [List.length_reverse]; omega) M
      have he2 := fun M => enter_calls (a := x2) (w := y2) (ks := z2) (st := Y.reverse) (rb := b6) (cap := capy) (ob := oby) (by cases hA2; assumption) (by rw [List.length_reverse]; omega) M
      rw [pkA_nd] at hn1 hn2 he1 he2
      repeat (first | refine acode_seq ?_ | refine acode_region ?_ | refine acode_block ?_)
      refine aops_call Try.func104 rfl rfl rfl rfl (hn1 _) rfl rfl ?_
      rintro y M' ⟨rfl, rfl⟩
      repeat (refine aops_put rfl ?_)
      refine aops_perm (rowM b6 oby capy (Pk.nd x2 y2 z2 :: Y).reverse (rowM b5 obx capx X.reverse M)) ?_ ?_
      · exact List.perm_append_comm_assoc [_, _] [_, _] M
      refine aops_call Try.func104 rfl rfl rfl rfl (hn2 _) rfl rfl ?_
      rintro y M' ⟨rfl, rfl⟩
      repeat (first | refine aops_put rfl ?_ | refine aops_p tok rfl rfl rfl rfl ?_)
      refine aops_perm (rowM b5 obx capx X.reverse (rowM b6 oby capy Y.reverse M)) ?_ ?_
      · exact List.perm_append_comm_assoc [_, _] [_, _] M
      repeat (first | refine aops_end ?_ | refine aops_p tok rfl rfl rfl rfl ?_ | refine acode_seq ?_ | refine acode_region ?_ | refine acode_block ?_)
      refine aops_pz tok (b := false) rfl rfl rfl rfl rfl rfl ?_
      repeat (refine aops_p tok rfl rfl rfl rfl ?_)
      refine aops_pz tok (b := false) rfl rfl rfl rfl rfl rfl ?_
      repeat' (first | refine aops_end ?_ | refine aops_p tok rfl rfl rfl rfl ?_ | refine acode_if rfl ?_ | refine acode_seq ?_ | refine acode_region ?_)
      refine aops_peq tok rfl rfl rfl rfl rfl rfl rfl rfl rfl rfl fun bq hq => ?_
      cases bq with
      | true =>
        have hr := sameC_rules (hq rfl)
        repeat' (first | refine aops_end ?_ | refine aops_p tok rfl rfl rfl rfl ?_ | refine acode_it rfl ?_)
        refine acode_exit ?_
        repeat (first | refine exit_then ?_ | refine exit_here ?_ | refine exit_out rfl ?_ | refine then_n ?_)
        rw [rulesPs, rulesPs, hr, cmpL_app] at hC
        exact ⟨((X, Y), (obx, capx), oby, capy), ⟨hC, by simpa using hlen, fun q h => hX q (by simp [h]), fun q h => hY q (by simp [h]), hsx.2.2, hsy.2.2⟩, by simp only [szPs, szP]; omega, ⟨rfl, rfl, trivial⟩, rfl⟩
      | false =>
        repeat' (first | refine aops_end ?_ | refine aops_p tok rfl rfl rfl rfl ?_ | refine acode_if rfl ?_ | refine acode_seq ?_)
        refine acode_drawT 12 mixed (by kernel_rfl) (by kernel_rfl) ?_
        repeat' (first | (refine seqT_pn tok rfl rfl rfl rfl ?_ ?_ <;> intro e_) | refine seqT_p tok rfl rfl rfl rfl ?_)
        · refine SeqT.done ?_
          repeat' (first | refine aops_end ?_ | refine acode_it rfl ?_ | refine acode_seq ?_)
          refine acode_drawT 11 mixed (by kernel_rfl) (by kernel_rfl) ?_
          repeat (refine seqT_p tok rfl rfl rfl rfl ?_)
          refine seqT_call _ Try.func105 rfl rfl rfl rfl (ccmp_calls _) rfl rfl rfl ?_
          refine SeqT.done ?_
          repeat (first | refine aops_end ?_ | refine aops_p tok rfl rfl rfl rfl ?_)
          refine acode_drop0 (acode_drop0 (acode_drop0 (acode_drop0 ?_)))
          refine acode_ret ?_
          repeat (first | refine ret_then ?_ | refine ret_block ?_)
          refine ⟨.int .i64 (cmpI x1.rule x2.rule), ⟨?_, rfl⟩, resOf_tmp rfl⟩
          rw [← hC, rulesPs, rulesPs, rulesP, rulesP, List.cons_append, List.cons_append, cmpL, if_neg (by assumption), cmpI_eq]
        · refine SeqT.done ?_
          repeat' (first | refine aops_end ?_ | refine aops_p tok rfl rfl rfl rfl ?_ | refine acode_if rfl ?_ | refine acode_seq ?_ | refine acode_region ?_ | refine acode_skip ?_ | refine then_n ?_ | refine block_n ?_)
          have hre : x1.rule = x2.rule := by assumption
          refine aops_call Try.func106 rfl rfl rfl rfl (he1 _) rfl rfl ?_
          rintro y M' ⟨rfl, obx', capx', rfl⟩
          repeat (first | refine aops_put rfl ?_ | refine aops_end ?_ | refine aops_p tok rfl rfl rfl rfl ?_ | refine acode_region ?_)
          refine aops_perm (rowM b6 oby capy Y.reverse (rowM b5 obx' capx' (X.reverse ++ ndsP z1.reverse) M)) ?_ ?_
          · exact List.perm_append_comm_assoc [_, _] [_, _] M
          refine aops_call Try.func106 rfl rfl rfl rfl (he2 _) rfl rfl ?_
          rintro y M' ⟨rfl, oby', capy', rfl⟩
          refine aops_perm (rowM b5 obx' capx' (X.reverse ++ ndsP z1.reverse) (rowM b6 oby' capy' (Y.reverse ++ ndsP z2.reverse) M)) ?_ ?_
          · exact List.perm_append_comm_assoc [_, _] [_, _] M
          repeat (first | refine aops_put rfl ?_ | refine aops_endb ?_ | refine then_n ?_)
          have hx1 : X.reverse ++ ndsP z1.reverse = (ndsP z1 ++ X).reverse := by rw [nds_rev, List.reverse_append]
          have hx2 : Y.reverse ++ ndsP z2.reverse = (ndsP z2 ++ Y).reverse := by rw [nds_rev, List.reverse_append]
          rw [hx1, hx2]
          have hmem : ∀ {ar : Int → Nat} {a : Al} {w : Int} {ks : List Pk}, PkAr ar (.nd a w ks) → (ndsP ks).length = ar a.rule ∧ ∀ q ∈ ndsP ks, PkAr ar q := fun {ar a w ks} h => by
            cases h with
            | nd h8 h hk =>
              refine ⟨h, fun q hq => ?_⟩
              have := List.mem_filter.1 hq
              exact hk q this.1 (by simpa using this.2)
          obtain ⟨m1, m2⟩ := hmem hA1
          obtain ⟨m3, m4⟩ := hmem hA2
          rw [rulesPs, rulesPs, rulesP, rulesP, List.cons_append, List.cons_append, cmpL, if_pos hre, ← rulesPs_nds z1, ← rulesPs_nds z2, ← rulesPs_app, ← rulesPs_app] at hC
          have hz1 := szPs_nds z1
          have hz2 := szPs_nds z2
          have hkd : ∀ {a : Al} {w : Int} {ks : List Pk}, ∀ c ∈ ndsP ks, dpP c + 1 ≤ dpP (.nd a w ks) := fun {a w ks} c hc => by
            have := dpPs_mem (List.mem_filter.1 hc).1
            rw [dpP]; omega
          have hkl : ∀ {ks : List Pk}, ks.length ≤ 1000 → (ndsP ks).length ≤ 1000 := fun {ks} h => Nat.le_trans (List.length_filter_le _ _) h
          refine ⟨((ndsP z1 ++ X, ndsP z2 ++ Y), (obx', capx'), oby', capy'), ⟨hC, ?_, fun q h => ?_, fun q h => ?_, stOk_push hsx.1 hsx.2.1 hsx.2.2 (hkl (by cases hA1; assumption)) hkd, stOk_push hsy.1 hsy.2.1 hsy.2.2 (hkl (by cases hA2; assumption)) hkd⟩, by simp only [szPs_app, szPs, szP]; omega, ⟨rfl, rfl, trivial⟩, rfl⟩
          · simp only [List.length_append, m1, m3, hre]
            simp only [List.length_cons] at hlen
            omega
          · rcases List.mem_append.1 h with h | h
            · exact m2 q h
            · exact hX q (by simp [h])
          · rcases List.mem_append.1 h with h | h
            · exact m4 q h
            · exact hY q (by simp [h])
end Go.Proofs.Ytbnhmioijeagiaa.Ab
/- Package choose: the best of a node's picks, where no two that are held against each other have one rule: the walk. No condition. -/
set_option linter.unusedVariables false
set_option linter.unusedSimpArgs false
namespace Go.Proofs.Ytbnhmioijeagiaa.Ab
attribute [local irreducible] thenA inBlockA ACode AOps put IntKind.wrap

/-- What is asked of a row of picks: of one rule always as many kids, none too deep. -/
def RowOk (ar : Int → Nat) (l : List Pk) : Prop := ∀ p ∈ l, p.isTk = false → PkAr ar p ∧ dpP p ≤ 900
/-- How the chooser lies: its box and the rows of picks. -/
def cellsP (T : Nat → List Pk) (n : Nat) (l : List Nat) : List A := (List.range n).map fun j => if j ∈ l then .psl (T j).length (encs pk1 (T j)) else .nils
theorem cellsP_len (T : Nat → List Pk) (n : Nat) (l : List Nat) : (cellsP T n l).length = n := by simp [cellsP]
theorem cellsP_in {T : Nat → List Pk} {n : Nat} {l : List Nat} {j : Nat} (hj : j < n) (h : j ∈ l) : (cellsP T n l)[j]? = some (.psl (T j).length (encs pk1 (T j))) := by
  unfold cellsP; rw [List.getElem?_map, List.getElem?_range hj]; simp [h]
abbrev chM (g : Gr) (f : Fo) (ks : List (List Int)) (b bs : Nat) (cells : List A) (M : List Ob) : List Ob :=
  ⟨some bs, f.nodes.length * 1, cells⟩ :: ⟨some b, 11, grC g ++ foC f ++ [.mp ks, .own (some bs) f.nodes.length f.nodes.length]⟩ :: M
theorem bestS_nd {may : Int → Bool} {a1 a2 : Al} {w1 w2 : Int} {k1 k2 : List Pk} (hm : may a1.rule = true) : bestS may (.nd a2 w2 k2) (.nd a1 w1 k1) = if (decide (w1 > w2) || (decide (w1 = w2) && decide (cmpL (rulesP (.nd a1 w1 k1)) (rulesP (.nd a2 w2 k2)) < 0))) = true then .nd a1 w1 k1 else .nd a2 w2 k2 := by
  unfold bestS
  rw [show (Pk.nd a1 w1 k1).rule = a1.rule from rfl, hm]
  rfl
theorem bestS_no {may : Int → Bool} {out p : Pk} (h : (p.isTk || !may p.rule) = true) : bestS may out p = out := by
  unfold bestS; rw [if_pos h]
theorem bestS_tk {may : Int → Bool} {p : Pk} (h : p.isTk = false) (hm : may p.rule = true) : bestS may .tk p = p := by
  unfold bestS; rw [if_neg (by simp [h, hm])]; rfl
set_option maxHeartbeats 8000000 in
theorem cbest_calls {ar : Int → Nat} {g : Gr} {f : Fo} {ks : List (List Int)} {b bs : Nat} {cells : List A} {M : List Ob} {k : Nat} {l : List Pk} {cf : Nat} {cap : List A} {fn : Func} {may : Int → Bool} (hk : k < f.nodes.length) (hc : cells[k]? = some (.psl l.length (encs pk1 l))) (hl : l.length ≤ 9223372036854775807) (hd : RowOk ar l)
    (hf : Try.prog.funcs[cf]? = some fn) (hfn : callable fn = true) (hmay : ∀ p ∈ l, p.isTk = false → ACalls Try.prog cf ([.int .i64 p.rule] ++ cap) (chM g f ks b bs cells M) (fun x M' => x = .bool (may p.rule) ∧ M' = chM g f ks b bs cells M)) :
    ACalls Try.prog 52 [.ref b 0, .int .i64 k, .fn cf cap] (chM g f ks b bs cells M) (fun x M' => x = pkA (bestF may l) ∧ M' = chM g f ks b bs cells M) := by
  refine acalls_of_code 67 Try.func52 rfl rfl rfl ?_
  repeat (first | refine aops_end ?_ | refine aops_p tok rfl rfl rfl rfl ?_ | refine aops_ld tok 1 rfl rfl rfl rfl rfl rfl rfl rfl ?_ | refine acode_seq ?_ | refine acode_region ?_)
  refine aops_ixo tok rfl rfl rfl rfl (by omega) (by omega) rfl rfl rfl ?_
  refine aops_ld tok 0 (y := .psl l.length (encs pk1 l)) rfl rfl rfl rfl (by rw [headed_eq]; show cells[(k : Int).toNat * 1]? = _; rw [Nat.mul_one, Int.toNat_natCast]; exact hc) rfl rfl rfl ?_
  repeat (first | refine aops_end ?_ | refine aops_p tok rfl rfl rfl rfl ?_ | refine acode_block ?_)
  refine acode_loopS (ι := Nat × Pk) (fun q => [(0, .ref b 0), (2, .fn cf cap), (7, pkA q.2), (16, .psl l.length (encs pk1 l)), (17, .int .i64 l.length), (18, .int .i64 q.1)]) (fun _ => chM g f ks b bs cells M) (fun q => l.length - q.1) (fun q => q.1 ≤ l.length ∧ (l.drop q.1).foldl (bestS may) q.2 = bestF may l ∧ (q.2 = .tk ∨ q.2 ∈ l.take q.1)) (0, .tk) ⟨Nat.zero_le _, rfl, .inl rfl⟩ ⟨rfl, rfl, rfl, rfl, rfl, rfl, trivial⟩ rfl ?_
  rintro ⟨i, out⟩ ⟨hi, hfold, hout⟩
  simp only at hi hfold hout ⊢
  repeat (first | refine aops_end ?_ | refine aops_p tok rfl rfl rfl rfl ?_ | refine acode_seq ?_ | refine acode_region ?_)
  refine acode_id rfl (fun e => ?_) (fun e => ?_)
  · have hil : i < l.length := by omega
    obtain ⟨p, hp⟩ : ∃ p, l[i]? = some p := ⟨l[i], List.getElem?_eq_getElem hil⟩
    have hpm := List.mem_of_getElem? hp
    have hpa := encs_at (e := pk1) (s := 1) (fun _ => rfl) (i := (i : Int).toNat) (by simpa using hp)
    have hdp : l.drop i = p :: l.drop (i + 1) := by
      rw [List.drop_eq_getElem_cons hil]
      rw [List.getElem?_eq_getElem hil] at hp
      rw [Option.some.inj hp]
    have htk : l.take (i + 1) = l.take i ++ [p] := by rw [List.take_add_one, hp]; rfl
    rw [hdp, List.foldl_cons] at hfold
    have hin : ∀ (q : Pk), q = out ∨ q = p → q = .tk ∨ q ∈ l.take (i + 1) := by
      rintro q (rfl | rfl)
      · rcases hout with h | h
        · exact .inl h
        · exact .inr (by rw [htk]; simp [h])
      · exact .inr (by rw [htk]; simp)
    repeat (first | refine acode_seq ?_ | refine acode_region ?_ | refine acode_block ?_ | refine acode_skip ?_ | refine then_n ?_)
    refine aops_ix tok [pkA p] rfl rfl rfl rfl (by omega) (by omega) (by simp) hpa rfl rfl rfl ?_
    cases p with
    | tk =>
      rw [bestS_no (p := .tk) rfl] at hfold
      rw [show pkA .tk = .nilp from rfl]
      repeat (first | refine aops_end ?_ | refine aops_p tok rfl rfl rfl rfl ?_ | refine acode_seq ?_ | refine acode_region ?_)
      refine aops_pz tok (b := true) rfl rfl rfl rfl rfl rfl ?_
      repeat' (first | refine aops_end ?_ | refine aops_o rfl rfl rfl ?_ | refine aops_p tok rfl rfl rfl rfl ?_ | refine acode_it rfl ?_)
      refine acode_exit ?_
      repeat (first | refine exit_then ?_ | refine exit_here ?_ | refine then_n ?_)
      repeat (first | refine aops_end ?_ | refine aops_a tok rfl (by omega) (by omega) rfl rfl rfl ?_ | refine aops_p tok rfl rfl rfl rfl ?_ | refine acode_region ?_)
      exact ⟨(i + 1, out), ⟨by simp only; omega, hfold, hin _ (.inl rfl)⟩, by simp only; omega, ⟨rfl, rfl, rfl, rfl, rfl, rfl, trivial⟩, rfl⟩
    | nd a w q =>
      have hmay := hmay _ hpm rfl
      rw [show (Pk.nd a w q).rule = a.rule from rfl] at hmay
      rw [pkA_nd]
      repeat (first | refine aops_end ?_ | refine aops_p tok rfl rfl rfl rfl ?_ | refine acode_seq ?_ | refine acode_region ?_)
      refine aops_pz tok (b := false) rfl rfl rfl rfl rfl rfl ?_
      repeat (refine aops_p tok rfl rfl rfl rfl ?_)
      refine aops_callx hf rfl rfl hfn rfl hmay rfl rfl rfl ?_
      cases hmy : may a.rule with
      | false =>
        rw [bestS_no (p := .nd a w q) (by show (false || !may a.rule) = true; rw [hmy]; rfl)] at hfold
        repeat' (first | refine aops_end ?_ | refine aops_p tok rfl rfl rfl rfl ?_ | refine acode_it rfl ?_)
        refine acode_exit ?_
        repeat (first | refine exit_then ?_ | refine exit_here ?_ | refine then_n ?_)
        repeat (first | refine aops_end ?_ | refine aops_a tok rfl (by omega) (by omega) rfl rfl rfl ?_ | refine aops_p tok rfl rfl rfl rfl ?_ | refine acode_region ?_)
        exact ⟨(i + 1, out), ⟨by simp only; omega, hfold, hin _ (.inl rfl)⟩, by simp only; omega, ⟨rfl, rfl, rfl, rfl, rfl, rfl, trivial⟩, rfl⟩
      | true =>
        cases out with
        | tk =>
          rw [bestS_tk (p := .nd a w q) rfl hmy] at hfold
          rw [show pkA .tk = .nilp from rfl]
          repeat' (first | refine aops_end ?_ | refine aops_p tok rfl rfl rfl rfl ?_ | refine acode_if rfl ?_ | refine acode_seq ?_ | refine acode_skip ?_ | refine then_n ?_)
          refine acode_drawT 30 mixed (by kernel_rfl) (by kernel_rfl) ?_
          repeat (refine seqT_p tok rfl rfl rfl rfl ?_)
          refine seqT_pz tok (b := true) rfl rfl rfl rfl rfl rfl ?_
          repeat (first | refine seqT_o rfl rfl rfl ?_ | refine seqT_p tok rfl rfl rfl rfl ?_)
          refine SeqT.done ?_
          repeat' (first | refine aops_end ?_ | refine aops_endb ?_ | refine aops_a tok rfl (by omega) (by omega) rfl rfl rfl ?_ | refine aops_p tok rfl rfl rfl rfl ?_ | refine acode_it rfl ?_ | refine acode_region ?_ | refine then_n ?_)
          exact ⟨(i + 1, .nd a w q), ⟨by simp only; omega, hfold, hin _ (.inr rfl)⟩, by simp only; omega, ⟨rfl, rfl, by rw [pkA_nd]; rfl, rfl, rfl, rfl, trivial⟩, rfl⟩
        | nd a2 w2 q2 =>
          have hom : Pk.nd a2 w2 q2 ∈ l := by
            rcases hout with h | h
            · cases h
            · exact List.mem_of_mem_take h
          obtain ⟨hp1, hp2⟩ := hd _ hpm rfl
          obtain ⟨ho1, ho2⟩ := hd _ hom rfl
          have hcmp := fun (M : List Ob) => cmp_calls hp1 ho1 hp2 ho2 M
          rw [bestS_nd hmy] at hfold
          rw [pkA_nd, pkA_nd] at hcmp
          rw [pkA_nd]
          rcases Int.lt_trichotomy w w2 with hw | hw | hw
          · rw [if_neg (by simp; omega)] at hfold
            repeat' (first | refine aops_end ?_ | refine aops_p tok rfl rfl rfl rfl ?_ | refine acode_if rfl ?_ | refine acode_seq ?_ | refine acode_skip ?_ | refine then_n ?_)
            refine acode_drawT 30 mixed (by kernel_rfl) (by kernel_rfl) ?_
            repeat (refine seqT_p tok rfl rfl rfl rfl ?_)
            refine seqT_pz tok (b := false) rfl rfl rfl rfl rfl rfl ?_
            repeat' (first | refine seqT_o rfl rfl rfl ?_ | (refine seqT_pd tok rfl rfl rfl rfl ?_ ?_ <;> intro e_) | refine seqT_p tok rfl rfl rfl rfl ?_)
            all_goals try (exfalso; omega)
            refine SeqT.done ?_
            repeat' (first | refine aops_end ?_ | refine aops_a tok rfl (by omega) (by omega) rfl rfl rfl ?_ | refine aops_p tok rfl rfl rfl rfl ?_ | refine acode_if rfl ?_ | refine acode_region ?_ | refine acode_skip ?_ | refine then_n ?_ | refine block_n ?_)
            exact ⟨(i + 1, .nd a2 w2 q2), ⟨by simp only; omega, hfold, hin _ (.inl rfl)⟩, by simp only; omega, ⟨rfl, rfl, by rw [pkA_nd]; rfl, rfl, rfl, rfl, trivial⟩, rfl⟩
          · subst hw
            generalize cmpL (rulesP (.nd a w q)) (rulesP (.nd a2 w q2)) = cv at *
            repeat' (first | refine aops_end ?_ | refine aops_p tok rfl rfl rfl rfl ?_ | refine acode_if rfl ?_ | refine acode_seq ?_ | refine acode_skip ?_ | refine then_n ?_)
            refine acode_drawT 30 mixed (by kernel_rfl) (by kernel_rfl) ?_
            repeat (refine seqT_p tok rfl rfl rfl rfl ?_)
            refine seqT_pz tok (b := false) rfl rfl rfl rfl rfl rfl ?_
            repeat' (first | refine seqT_o rfl rfl rfl ?_ | (refine seqT_pd tok rfl rfl rfl rfl ?_ ?_ <;> intro e_) | refine seqT_p tok rfl rfl rfl rfl ?_)
            all_goals try (exfalso; omega)
            refine seqT_call _ Try.func88 rfl rfl rfl rfl (hcmp _) rfl rfl rfl ?_
            repeat' (first | (refine seqT_pd tok rfl rfl rfl rfl ?_ ?_ <;> intro e_) | refine seqT_p tok rfl rfl rfl rfl ?_)
            · rw [if_pos (by simp; omega)] at hfold
              refine SeqT.done ?_
              repeat' (first | refine aops_end ?_ | refine aops_endb ?_ | refine aops_a tok rfl (by omega) (by omega) rfl rfl rfl ?_ | refine aops_p tok rfl rfl rfl rfl ?_ | refine acode_it rfl ?_ | refine acode_region ?_ | refine then_n ?_)
              exact ⟨(i + 1, .nd a w q), ⟨by simp only; omega, hfold, hin _ (.inr rfl)⟩, by simp only; omega, ⟨rfl, rfl, by rw [pkA_nd]; rfl, rfl, rfl, rfl, trivial⟩, rfl⟩
            · rw [if_neg (by simp; omega)] at hfold
              refine SeqT.done ?_
              repeat' (first | refine aops_end ?_ | refine aops_a tok rfl (by omega) (by omega) rfl rfl rfl ?_ | refine aops_p tok rfl rfl rfl rfl ?_ | refine acode_if rfl ?_ | refine acode_region ?_ | refine acode_skip ?_ | refine then_n ?_ | refine block_n ?_)
              exact ⟨(i + 1, .nd a2 w q2), ⟨by simp only; omega, hfold, hin _ (.inl rfl)⟩, by simp only; omega, ⟨rfl, rfl, by rw [pkA_nd]; rfl, rfl, rfl, rfl, trivial⟩, rfl⟩
          · rw [if_pos (by simp; omega)] at hfold
            repeat' (first | refine aops_end ?_ | refine aops_p tok rfl rfl rfl rfl ?_ | refine acode_if rfl ?_ | refine acode_seq ?_ | refine acode_skip ?_ | refine then_n ?_)
            refine acode_drawT 30 mixed (by kernel_rfl) (by kernel_rfl) ?_
            repeat (refine seqT_p tok rfl rfl rfl rfl ?_)
            refine seqT_pz tok (b := false) rfl rfl rfl rfl rfl rfl ?_
            repeat' (first | refine seqT_o rfl rfl rfl ?_ | (refine seqT_pd tok rfl rfl rfl rfl ?_ ?_ <;> intro e_) | refine seqT_p tok rfl rfl rfl rfl ?_)
            all_goals try (exfalso; omega)
            refine SeqT.done ?_
            repeat' (first | refine aops_end ?_ | refine aops_endb ?_ | refine aops_a tok rfl (by omega) (by omega) rfl rfl rfl ?_ | refine aops_p tok rfl rfl rfl rfl ?_ | refine acode_it rfl ?_ | refine acode_region ?_ | refine then_n ?_)
            exact ⟨(i + 1, .nd a w q), ⟨by simp only; omega, hfold, hin _ (.inr rfl)⟩, by simp only; omega, ⟨rfl, rfl, by rw [pkA_nd]; rfl, rfl, rfl, rfl, trivial⟩, rfl⟩
  · obtain rfl : i = l.length := by omega
    rw [List.drop_length, List.foldl_nil] at hfold
    rw [← hfold]
    refine acode_exit ?_
    repeat (first | refine exit_then ?_ | refine exit_here ?_ | refine then_n ?_)
    cases out with
    | tk =>
      rw [show pkA .tk = .nilp from rfl]
      repeat (first | refine aops_end ?_ | refine aops_p tok rfl rfl rfl rfl ?_ | refine acode_seq ?_ | refine acode_region ?_)
      refine acode_ret ?_
      skip
      exact ⟨_, ⟨rfl, rfl⟩, resOf_tmp rfl⟩
    | nd a w q =>
      rw [pkA_nd]
      repeat (first | refine aops_end ?_ | refine aops_p tok rfl rfl rfl rfl ?_ | refine acode_seq ?_ | refine acode_region ?_)
      refine acode_ret ?_
      skip
      exact ⟨_, ⟨rfl, rfl⟩, resOf_tmp rfl⟩
end Go.Proofs.Ytbnhmioijeagiaa.Ab
/- Package choose: the pick of an Alt: the walk. No condition. -/
set_option linter.unusedVariables false
set_option linter.unusedSimpArgs false
namespace Go.Proofs.Ytbnhmioijeagiaa.Ab
attribute [local irreducible] thenA inBlockA ACode AOps put IntKind.wrap

theorem cnot_calls {g : Gr} {f : Fo} {ks : List (List Int)} {b bs b2 : Nat} {cells : List A} {M : List Ob} {a : Al} {p q : Int} (hs : SetOf g.forbid ks) :
    ACalls Try.prog 87 [.int .i64 q, .ref b2 0, .pp (alC a), .pp [.int .i64 p]] (chM g f ks b bs cells (⟨some b2, 1, [.ref b 0]⟩ :: M)) (fun x M' => x = .bool (mayP g.forbid a.rule p q) ∧ M' = chM g f ks b bs cells (⟨some b2, 1, [.ref b 0]⟩ :: M)) := by
  refine acalls_of_code 17 Try.func87 rfl rfl rfl ?_
  repeat (first | refine aops_end ?_ | refine aops_p tok rfl rfl rfl rfl ?_ | refine acode_seq ?_ | refine acode_region ?_)
  refine acode_drawT 11 mixed (by kernel_rfl) (by kernel_rfl) ?_
  refine seqT_ld tok 2 rfl rfl rfl rfl rfl rfl rfl rfl ?_
  repeat (first | refine seqT_p tok rfl rfl rfl rfl ?_ | refine seqT_ld tok 1 rfl rfl rfl rfl rfl rfl rfl rfl ?_)
  refine seqT_y (yields_look tok (k := l3 (a.rule, p, q)) rfl rfl rfl rfl hs.1 rfl rfl rfl) rfl ?_
  have hm : mayP g.forbid a.rule p q = !decide (l3 (a.rule, p, q) ∈ ks) := by
    unfold mayP
    by_cases h : (a.rule, p, q) ∈ g.forbid
    · rw [decide_eq_true h, decide_eq_true ((hs.2 (a.rule, p, q)).2 h)]
    · rw [decide_eq_false h, decide_eq_false (fun h2 => h ((hs.2 (a.rule, p, q)).1 h2))]
  repeat (refine seqT_p tok rfl rfl rfl rfl ?_)
  refine SeqT.done ?_
  repeat (first | refine aops_end ?_ | refine aops_p tok rfl rfl rfl rfl ?_)
  refine acode_ret ?_
  skip
  exact ⟨.bool (mayP g.forbid a.rule p q), ⟨rfl, rfl⟩, resOf_tmp (by rw [hm]; rfl)⟩
theorem goP_step {fb : List F3} {T : Nat → List Pk} {r : Int} {l : List Int} {p : Nat} {k w : Int} {ks : List Pk} (h : l[p]? = some k) : goP fb T r p (l.drop p) w ks = if k < 0 then goP fb T r (p + 1) (l.drop (p + 1)) w (ks ++ [.tk]) else
    if (bestF (mayP fb r p) (T k.toNat)).isTk then none else goP fb T r (p + 1) (l.drop (p + 1)) (IntKind.i64.wrap (w + (bestF (mayP fb r p) (T k.toNat)).wt)) (ks ++ [bestF (mayP fb r p) (T k.toNat)]) := by
  have e : l.drop p = k :: l.drop (p + 1) := by
    obtain ⟨h1, rfl⟩ := List.getElem?_eq_some_iff.1 h
    exact List.drop_eq_getElem_cons h1
  rw [e]; rfl
theorem perm_front {a b c d e : Ob} {M : List Ob} : (a :: b :: c :: d :: e :: M).Perm (d :: e :: c :: a :: b :: M) := by
  refine (List.perm_append_comm_assoc [a, b, c] [d, e] M).trans ?_
  exact ((List.perm_middle (l₁ := [a, b]) (a := c) (l₂ := M)).append_left [d, e])
set_option maxHeartbeats 16000000 in
theorem calt_calls {ar : Int → Nat} {g : Gr} {f : Fo} {ks : List (List Int)} {b bs : Nat} {cells : List A} {M : List Ob} {a : Al} {T : Nat → List Pk} (hs : SetOf g.forbid ks) (hal : a.kids.length ≤ 1000)
    (hk : ∀ k : Nat, (k : Int) ∈ a.kids → k < f.nodes.length ∧ cells[k]? = some (.psl (T k).length (encs pk1 (T k))) ∧ (T k).length ≤ 9223372036854775807 ∧ RowOk ar (T k)) :
    ACalls Try.prog 51 [.ref b 0, .agg (alC a)] (chM g f ks b bs cells M) (fun x M' => x = pkA (altP g T a) ∧ M' = chM g f ks b bs cells M) := by
  refine acalls_of_code 67 Try.func51 rfl rfl rfl ?_
  repeat (first | refine acode_seq ?_ | refine acode_region ?_)
  refine aops_boxo rfl rfl rfl rfl rfl rfl rfl fun b2 => ?_
  refine aops_boxf rfl rfl rfl rfl rfl rfl rfl ?_
  repeat (first | refine aops_end ?_ | refine aops_p tok rfl rfl rfl rfl ?_ | refine acode_seq ?_)
  refine acode_drawP [⟨some b2, 1, [.ref b 0]⟩, ⟨some b, 11, grC g ++ foC f ++ [.mp ks, .own (some bs) f.nodes.length f.nodes.length]⟩] 11 [0, 1, 2, 3, 4, 5, 6, 7, 8, 9, 10] [9] mixed (by kernel_rfl) (by kernel_rfl) rfl ?_
  repeat (first | refine seqO_p tok rfl rfl rfl rfl rfl ?_ | refine seqO_ld tok 0 rfl rfl rfl rfl rfl (by simp) rfl rfl rfl rfl ?_ | refine seqO_ld tok 1 rfl rfl rfl rfl rfl (by simp) rfl rfl rfl rfl ?_)
  refine seqO_call _ rfl Try.func63 rfl rfl rfl rfl (fun M => dyn_calls M) rfl rfl rfl ?_
  generalize hw0 : dynF g a.rule = w0 at *
  repeat (refine seqO_p tok rfl rfl rfl rfl rfl ?_)
  refine seqO_boxo rfl rfl rfl rfl (by simp) rfl rfl rfl rfl fun b5 => ?_
  repeat (refine seqO_p tok rfl rfl rfl rfl rfl ?_)
  refine SeqO.done ?_
  refine aops_adoptF 3 rfl rfl ?_
  refine aops_perm (chM g f ks b bs cells (⟨some b2, 1, [.ref b 0]⟩ :: ⟨some b5, 4, [.int .i64 a.rule, .psl a.kids.length (ints a.kids), .int .i64 w0, .own none 0 0]⟩ :: ⟨none, 0, []⟩ :: M)) perm_front ?_
  repeat (first | refine aops_end ?_ | refine aops_p tok rfl rfl rfl rfl ?_ | refine acode_seq ?_ | refine acode_region ?_ | refine acode_block ?_)
  have hfin : goP g.forbid T a.rule 0 a.kids w0 [] = goP g.forbid T a.rule 0 a.kids w0 [] := rfl
  generalize hgo : goP g.forbid T a.rule 0 a.kids w0 [] = fin at hfin
  refine acode_loopS (ι := Nat × Int × List Pk × Option Nat × Nat) (fun q => [(2, .ref b2 0), (3, .pp (alC a)), (5, .ref b5 0), (20, .psl a.kids.length (ints a.kids)), (21, .int .i64 a.kids.length), (22, .int .i64 q.1)]) (fun q => chM g f ks b bs cells (⟨some b2, 1, [.ref b 0]⟩ :: ⟨some b5, 4, [.int .i64 a.rule, .psl a.kids.length (ints a.kids), .int .i64 q.2.1, .own q.2.2.2.1 q.1 q.2.2.2.2]⟩ :: ⟨q.2.2.2.1, q.2.2.2.2 * 1, encs pk1 q.2.2.1⟩ :: M)) (fun q => a.kids.length - q.1) (fun q => q.1 ≤ a.kids.length ∧ goP g.forbid T a.rule q.1 (a.kids.drop q.1) q.2.1 q.2.2.1 = fin ∧ q.2.2.1.length = q.1) (0, w0, [], none, 0) ⟨Nat.zero_le _, hgo, rfl⟩ ⟨rfl, rfl, rfl, rfl, rfl, rfl, trivial⟩ rfl ?_
  rintro ⟨p, w, dn, ob, cap⟩ ⟨hp, hfold, hdn⟩
  simp only at hp hfold hdn ⊢
  repeat (first | refine aops_end ?_ | refine aops_p tok rfl rfl rfl rfl ?_ | refine acode_seq ?_ | refine acode_region ?_)
  refine acode_id rfl (fun e => ?_) (fun e => ?_)
  · have hpl : p < a.kids.length := by omega
    obtain ⟨k, hkk⟩ : ∃ k, a.kids[p]? = some k := ⟨a.kids[p], List.getElem?_eq_getElem hpl⟩
    have hkm := List.mem_of_getElem? hkk
    rw [goP_step hkk] at hfold
    repeat (first | refine aops_p tok rfl rfl rfl rfl ?_ | refine acode_seq ?_ | refine acode_region ?_ | refine acode_block ?_ | refine acode_skip ?_ | refine then_n ?_)
    refine aops_ix tok [A.int .i64 k] rfl rfl rfl rfl (by omega) (by omega) (by simp) (ints_at (j := p) (by simpa using hkk)) rfl rfl rfl ?_
    repeat (refine aops_p tok rfl rfl rfl rfl ?_)
    refine aops_alloc tok rfl rfl rfl rfl rfl rfl fun b6 => ?_
    repeat (first | refine aops_p tok rfl rfl rfl rfl ?_ | refine aops_stn tok rfl rfl rfl rfl rfl rfl rfl rfl rfl ?_)
    refine aops_pubref0 6 rfl ?_
    by_cases hk0 : k < 0
    · rw [if_pos hk0] at hfold
      repeat' (first | refine aops_end ?_ | refine aops_pbt tok rfl (by first | omega | decide) rfl rfl rfl ?_ | refine aops_p tok rfl rfl rfl rfl ?_ | refine acode_it rfl ?_ | refine acode_seq ?_ | refine acode_region ?_)
      try any_goals (exfalso; omega)
      refine aops_ld tok 3 rfl rfl rfl rfl rfl rfl rfl rfl ?_
      refine aops_litn tok rfl rfl rfl rfl rfl rfl rfl ?_
      refine aops_append tok 4 (m := 1) (ds := pk1 .tk) rfl rfl rfl (.inl rfl) rfl rfl (by rw [encs_len pk1_len, hdn]) rfl rfl rfl (by show _ * 8 ≤ _; omega) (by omega) rfl rfl fun ob' cap' => ?_
      refine aops_put rfl ?_
      refine aops_somed 35 rfl (by omega) fun c hc => ?_
      subst hc
      repeat (refine aops_p tok rfl rfl rfl rfl ?_)
      refine aops_stk tok 3 [.int .i64 a.rule, .psl a.kids.length (ints a.kids), .int .i64 w, .own (some c) (p + 1) cap'] _ rfl rfl rfl rfl rfl rfl (show 3 + 1 ≤ 4 from by decide) rfl rfl rfl rfl ?_
      refine aops_end ?_
      refine acode_exit ?_
      repeat (first | refine exit_then ?_ | refine exit_here ?_ | refine then_n ?_)
      repeat (first | refine aops_end ?_ | refine aops_a tok rfl (by omega) (by omega) rfl rfl rfl ?_ | refine aops_p tok rfl rfl rfl rfl ?_ | refine acode_region ?_)
      refine ⟨(p + 1, w, dn ++ [.tk], some c, cap'), ⟨by simp only; omega, hfold, by simp [hdn]⟩, by simp only; omega, ⟨rfl, rfl, rfl, rfl, rfl, rfl, trivial⟩, ?_⟩
      simp only [encs_app]
      rfl
    · obtain ⟨k', rfl⟩ := Int.eq_ofNat_of_zero_le (show 0 ≤ k by omega)
      rw [if_neg hk0, Int.toNat_natCast] at hfold
      obtain ⟨h1, h2, h3, h4⟩ := hk k' hkm
      have hbc := cbest_calls (g := g) (f := f) (ks := ks) (b := b) (bs := bs) (cells := cells) (M := ⟨some b2, 1, [.ref b 0]⟩ :: ⟨some b5, 4, [.int .i64 a.rule, .psl a.kids.length (ints a.kids), .int .i64 w, .own ob p cap]⟩ :: ⟨ob, cap * 1, encs pk1 dn⟩ :: M) (k := k') (l := T k') (cf := 87) (cap := [.ref b2 0, .pp (alC a), .pp [.int .i64 p]]) (may := mayP g.forbid a.rule p) h1 h2 h3 h4 Try.func87 rfl (fun q _ _ => cnot_calls hs)
      generalize bestF (mayP g.forbid a.rule p) (T k') = B at *
      repeat' (first | refine aops_end ?_ | refine aops_pbf tok rfl (by first | omega | decide) rfl rfl rfl ?_ | refine aops_p tok rfl rfl rfl rfl ?_ | refine acode_if rfl ?_ | refine acode_seq ?_ | refine acode_region ?_ | refine acode_skip ?_ | refine then_n ?_)
      try any_goals (exfalso; omega)
      refine aops_ld tok 2 rfl rfl rfl rfl rfl rfl rfl rfl ?_
      repeat (refine aops_p tok rfl rfl rfl rfl ?_)
      refine aops_callx Try.func52 rfl rfl rfl rfl hbc rfl rfl rfl ?_
      cases B with
      | tk =>
        rw [show Pk.isTk .tk = true from rfl, if_pos rfl] at hfold
        rw [show pkA .tk = .nilp from rfl]
        repeat (first | refine aops_end ?_ | refine aops_p tok rfl rfl rfl rfl ?_ | refine acode_seq ?_ | refine acode_region ?_)
        refine aops_pz tok (b := true) rfl rfl rfl rfl rfl rfl ?_
        repeat' (first | refine aops_end ?_ | refine aops_p tok rfl rfl rfl rfl ?_ | refine acode_it rfl ?_ | refine acode_seq ?_ | refine acode_region ?_)
        refine acode_drop 2 (acode_drop 2 (acode_drop 2 ?_))
        refine acode_ret ?_
        repeat (first | refine ret_then ?_ | refine ret_block ?_)
        refine ⟨.nilp, ⟨?_, rfl⟩, resOf_tmp rfl⟩
        unfold altP
        rw [hw0, hgo, ← hfold]
        rfl
      | nd a2 w2 q2 =>
        rw [if_neg (by simp [Pk.isTk]), show (Pk.nd a2 w2 q2).wt = w2 from rfl] at hfold
        rw [pkA_nd]
        repeat (first | refine aops_end ?_ | refine aops_p tok rfl rfl rfl rfl ?_ | refine acode_seq ?_ | refine acode_region ?_)
        refine aops_pz tok (b := false) rfl rfl rfl rfl rfl rfl ?_
        repeat' (first | refine aops_end ?_ | refine acode_if rfl ?_ | refine acode_seq ?_ | refine acode_skip ?_ | refine then_n ?_)
        refine acode_drawP [⟨some b5, 4, [.int .i64 a.rule, .psl a.kids.length (ints a.kids), .int .i64 w, .own ob p cap]⟩] 11 [0, 1, 2, 3, 4, 5, 6, 7, 8, 9, 10] [] mixed (by kernel_rfl) (by kernel_rfl) rfl ?_
        repeat (first | refine seqO_p tok rfl rfl rfl rfl rfl ?_ | refine seqO_ld tok 0 rfl rfl rfl rfl rfl (by simp) rfl rfl rfl rfl ?_)
        refine SeqO.done ?_
        refine aops_stk tok 3 [.int .i64 a.rule, .psl a.kids.length (ints a.kids), .int .i64 (IntKind.i64.wrap (w + w2)), .own ob p cap] _ rfl rfl rfl rfl rfl rfl (show 2 + 1 ≤ 4 from by decide) rfl rfl rfl rfl ?_
        repeat (first | refine aops_end ?_ | refine aops_p tok rfl rfl rfl rfl ?_ | refine acode_region ?_)
        refine aops_ld tok 3 rfl rfl rfl rfl rfl rfl rfl rfl ?_
        repeat (refine aops_p tok rfl rfl rfl rfl ?_)
        refine aops_litn tok rfl rfl rfl rfl rfl rfl rfl ?_
        refine aops_append tok 4 (m := 1) (ds := [.cp [.int .i64 a2.rule, .psl a2.kids.length (ints a2.kids), .int .i64 w2, .psl q2.length (encs pk1 q2)]]) rfl rfl rfl (.inl rfl) rfl rfl (by rw [encs_len pk1_len, hdn]) rfl rfl rfl (by show _ * 8 ≤ _; omega) (by omega) rfl rfl fun ob' cap' => ?_
        refine aops_put rfl ?_
        refine aops_somed 62 rfl (by omega) fun c hc => ?_
        subst hc
        repeat (refine aops_p tok rfl rfl rfl rfl ?_)
        refine aops_stk tok 3 [.int .i64 a.rule, .psl a.kids.length (ints a.kids), .int .i64 (IntKind.i64.wrap (w + w2)), .own (some c) (p + 1) cap'] _ rfl rfl rfl rfl rfl rfl (show 3 + 1 ≤ 4 from by decide) rfl rfl rfl rfl ?_
        repeat (first | refine aops_end ?_ | refine aops_endb ?_ | refine aops_a tok rfl (by omega) (by omega) rfl rfl rfl ?_ | refine aops_p tok rfl rfl rfl rfl ?_ | refine acode_region ?_ | refine then_n ?_)
        refine ⟨(p + 1, IntKind.i64.wrap (w + w2), dn ++ [.nd a2 w2 q2], some c, cap'), ⟨by simp only; omega, hfold, by simp [hdn]⟩, by simp only; omega, ⟨rfl, rfl, rfl, rfl, rfl, rfl, trivial⟩, ?_⟩
        simp only [encs_app]
        rw [show encs pk1 [Pk.nd a2 w2 q2] = [pkA (.nd a2 w2 q2)] from rfl, pkA_nd]
        rfl
  · obtain rfl : p = a.kids.length := by omega
    rw [List.drop_length] at hfold
    have hfold : some (w, dn) = fin := hfold
    refine acode_exit ?_
    repeat (first | refine exit_then ?_ | refine exit_here ?_ | refine then_n ?_)
    refine acode_perm (⟨some b5, 4, [.int .i64 a.rule, .psl a.kids.length (ints a.kids), .int .i64 w, .own ob a.kids.length cap]⟩ :: ⟨ob, cap * 1, encs pk1 dn⟩ :: ⟨some bs, f.nodes.length * 1, cells⟩ :: ⟨some b, 11, grC g ++ foC f ++ [.mp ks, .own (some bs) f.nodes.length f.nodes.length]⟩ :: ⟨some b2, 1, [.ref b 0]⟩ :: M) ?_ ?_
    · exact List.perm_append_comm_assoc [_, _, _] [_, _] M
    refine acode_pubFld (sz := 1) 3 rfl rfl (by rw [encs_len pk1_len, hdn]) (by decide) rfl ?_
    refine acode_pubcp0 5 rfl (by simp) ?_
    repeat (first | refine aops_end ?_ | refine aops_p tok rfl rfl rfl rfl ?_ | refine acode_seq ?_ | refine acode_region ?_)
    refine acode_drop 2 ?_
    refine acode_ret ?_
    skip
    refine ⟨.cp [.int .i64 a.rule, .psl a.kids.length (ints a.kids), .int .i64 w, .psl a.kids.length (encs pk1 dn)], ⟨?_, rfl⟩, resOf_tmp rfl⟩
    unfold altP
    rw [hw0, hgo, ← hfold, pkA_nd, hdn]
end Go.Proofs.Ytbnhmioijeagiaa.Ab
/- Package choose: the tree of a pick: the walk. No condition. -/
set_option linter.unusedVariables false
set_option linter.unusedSimpArgs false
namespace Go.Proofs.Ytbnhmioijeagiaa.Ab
attribute [local irreducible] thenA inBlockA ACode AOps put IntKind.wrap

inductive PkOk : Pk → Prop
  | nd {a : Al} {w : Int} {ks : List Pk} (hl : ks.length = a.kids.length) (h8 : a.kids.length ≤ 1000) (hr : ∀ k ∈ a.kids, rng k) (hk : ∀ q ∈ ks, q.isTk = false → PkOk q) : PkOk (.nd a w ks)
def tree1 (k : Int) (q : Pk) : Tr := if q.isTk then leafT k else treeP q
theorem treesP_len : ∀ (l : List Int) (ks : List Pk), ks.length = l.length → (treesP l ks).length = ks.length
  | [], [], _ => rfl
  | [], _ :: _, h => by simp at h
  | _ :: _, [], h => by simp at h
  | k :: l, .tk :: ks, h => by rw [treesP, List.length_cons, treesP_len l ks (by simpa using h)]; rfl
  | k :: l, .nd a w q :: ks, h => by rw [treesP, List.length_cons, treesP_len l ks (by simpa using h)]; rfl
theorem treesP_at : ∀ {l : List Int} {ks : List Pk} {i : Nat} {k : Int} {q : Pk}, l[i]? = some k → ks[i]? = some q → (treesP l ks)[i]? = some (tree1 k q)
  | [], _, _, _, _, h, _ => by simp at h
  | _ :: _, [], _, _, _, _, h => by simp at h
  | k :: l, q :: ks, 0, k', q', h1, h2 => by
    simp at h1 h2
    subst h1; subst h2
    cases q <;> simp [treesP, tree1, Pk.isTk]
  | k :: l, .tk :: ks, i + 1, k', q', h1, h2 => by
    rw [treesP, List.getElem?_cons_succ]; exact treesP_at (by simpa using h1) (by simpa using h2)
  | k :: l, .nd a w q :: ks, i + 1, k', q', h1, h2 => by
    rw [treesP, List.getElem?_cons_succ]; exact treesP_at (by simpa using h1) (by simpa using h2)

set_option maxHeartbeats 16000000 in
theorem ctree_calls {p : Pk} (h : PkOk p) : ∀ (M : List Ob), ACalls Try.prog 54 [pkA p] M (fun x M' => x = trA (treeP p) ∧ M' = M) := by
  induction h with
  | @nd a w ks hl h8 hr hk ih =>
  intro M
  have hT : treeP (.nd a w ks) = .mk a.rule 0 (treesP a.kids ks) := by rw [treeP]
  have htl := treesP_len a.kids ks hl
  have hat := fun {i : Nat} {k : Int} {q : Pk} (h1 : a.kids[i]? = some k) (h2 : ks[i]? = some q) => treesP_at h1 h2
  rw [hT]
  generalize treesP a.kids ks = ts at *
  rw [pkA_nd]
  show ACalls Try.prog 54 _ M (fun x M' => x = .agg [.int .i64 a.rule, .int .i64 0, .psl ts.length (encs trC ts)] ∧ M' = M)
  refine acalls_of_code 47 Try.func54 rfl rfl rfl ?_
  repeat (first | refine acode_seq ?_ | refine acode_region ?_)
  refine aops_alloc tok rfl rfl rfl rfl rfl rfl fun br => ?_
  repeat (first | refine aops_end ?_ | refine aops_p tok rfl rfl rfl rfl ?_ | refine acode_seq ?_ | refine acode_region ?_)
  refine aops_alloc tok rfl rfl rfl rfl rfl rfl fun bt => ?_
  repeat (refine aops_stn tok rfl rfl rfl rfl rfl rfl rfl rfl rfl ?_)
  refine aops_adoptF 2 rfl rfl ?_
  repeat (first | refine aops_end ?_ | refine aops_p tok rfl rfl rfl rfl ?_ | refine acode_seq ?_ | refine acode_region ?_ | refine acode_block ?_)
  refine acode_loopS (ι := Nat × Option Nat × Nat) (fun q => [(0, .cp [.int .i64 a.rule, .psl a.kids.length (ints a.kids), .int .i64 w, .psl ks.length (encs pk1 ks)]), (2, .ref br 0), (3, .ref bt 0), (15, .psl ks.length (encs pk1 ks)), (16, .int .i64 ks.length), (17, .int .i64 q.1)]) (fun q => ⟨some bt, 3, [.int .i64 a.rule, .int .i64 0, .own q.2.1 q.1 q.2.2]⟩ :: ⟨q.2.1, q.2.2 * 3, encs trC (ts.take q.1)⟩ :: ⟨some br, 3, [.int .i64 0, .int .i64 0, .nils]⟩ :: M) (fun q => ks.length - q.1) (fun q => q.1 ≤ ks.length) (0, none, 0) (Nat.zero_le _) ⟨rfl, rfl, rfl, rfl, rfl, rfl, trivial⟩ rfl ?_
  rintro ⟨i, ob, cap⟩ hi
  simp only at hi ⊢
  repeat (first | refine aops_end ?_ | refine aops_p tok rfl rfl rfl rfl ?_ | refine acode_seq ?_ | refine acode_region ?_)
  refine acode_id rfl (fun e => ?_) (fun e => ?_)
  · have hil : i < ks.length := by omega
    obtain ⟨q, hq⟩ : ∃ q, ks[i]? = some q := ⟨ks[i], List.getElem?_eq_getElem hil⟩
    obtain ⟨k, hkk⟩ : ∃ k, a.kids[i]? = some k := ⟨a.kids[i]'(by omega), List.getElem?_eq_getElem (by omega)⟩
    have hqm := List.mem_of_getElem? hq
    have hta := hat hkk hq
    have htk : ts.take (i + 1) = ts.take i ++ [tree1 k q] := by rw [List.take_add_one, hta]; rfl
    have hqa := encs_at (e := pk1) (s := 1) (fun _ => rfl) (i := (i : Int).toNat) (by simpa using hq)
    repeat (first | refine aops_p tok rfl rfl rfl rfl ?_ | refine acode_seq ?_ | refine acode_region ?_ | refine acode_block ?_ | refine acode_skip ?_ | refine then_n ?_)
    refine aops_ix tok [pkA q] rfl rfl rfl rfl (by omega) (by omega) (by simp) hqa rfl rfl rfl ?_
    cases q with
    | tk =>
      rw [show tree1 k .tk = leafT k from rfl] at htk
      rw [show pkA .tk = .nilp from rfl]
      repeat (first | refine aops_end ?_ | refine aops_p tok rfl rfl rfl rfl ?_ | refine acode_seq ?_ | refine acode_region ?_)
      refine aops_pz tok (b := true) rfl rfl rfl rfl rfl rfl ?_
      repeat' (first | refine aops_end ?_ | refine acode_it rfl ?_ | refine acode_seq ?_)
      refine acode_drawP [⟨some bt, 3, [.int .i64 a.rule, .int .i64 0, .own ob i cap]⟩] 14 [0, 1, 2, 3, 4, 5, 6, 7, 8, 9, 10, 11, 12, 13] [12] mixed (by kernel_rfl) (by kernel_rfl) rfl ?_
      repeat (first | refine seqO_p tok rfl rfl rfl rfl rfl ?_ | refine seqO_ld tok 0 rfl rfl rfl rfl rfl (by simp) rfl rfl rfl rfl ?_)
      refine seqO_ix tok [A.int .i64 k] rfl rfl rfl rfl rfl (by omega) (by omega) (by simp) (ints_at (j := i) (by simpa using hkk)) rfl rfl rfl ?_
      repeat (refine seqO_p tok rfl rfl rfl rfl rfl ?_)
      refine seqO_call _ rfl Try.func89 rfl rfl rfl rfl (fun M => leaf_calls (hr k (List.mem_of_getElem? hkk)) M) rfl rfl rfl ?_
      refine seqO_lit tok rfl rfl rfl rfl rfl rfl rfl rfl rfl ?_
      refine seqO_app tok 1 (m := 1) (ds := trC (leafT k)) rfl rfl rfl rfl (.inl (by rw [trC_eq]; rfl)) rfl rfl (by rw [encs_len trC_len, List.length_take, Nat.min_eq_left (by omega)]) (by rw [trC_len]; rfl) (by rw [trC_eq]; rfl) rfl (by show _ * 40 ≤ _; omega) (by omega) (by intro y o ho; simp at ho ⊢; simp [ho]) rfl rfl rfl fun ob' cap' => ?_
      repeat (refine seqO_p tok rfl rfl rfl rfl rfl ?_)
      refine SeqO.done ?_
      refine aops_somed 36 rfl (by omega) fun c hc => ?_
      subst hc
      refine aops_stk tok 0 [.int .i64 a.rule, .int .i64 0, .own (some c) (i + 1) cap'] _ rfl rfl rfl rfl rfl rfl (show 2 + 1 ≤ 3 from by decide) rfl rfl rfl rfl ?_
      refine aops_end ?_
      refine acode_exit ?_
      repeat (first | refine exit_then ?_ | refine exit_here ?_ | refine then_n ?_)
      repeat (first | refine aops_end ?_ | refine aops_a tok rfl (by omega) (by omega) rfl rfl rfl ?_ | refine aops_p tok rfl rfl rfl rfl ?_ | refine acode_region ?_)
      refine ⟨(i + 1, some c, cap'), by simp only; omega, by simp only; omega, ⟨rfl, rfl, rfl, rfl, rfl, rfl, trivial⟩, ?_⟩
      simp only [htk, encs_app]
      rw [show encs trC [leafT k] = trC (leafT k) by simp [encs]]
      rfl
    | nd a2 w2 q2 =>
      have hc := ih _ hqm rfl
      rw [show tree1 k (.nd a2 w2 q2) = treeP (.nd a2 w2 q2) from rfl] at htk
      rw [pkA_nd] at hc ⊢
      generalize treeP (.nd a2 w2 q2) = t at *
      repeat (first | refine aops_end ?_ | refine aops_p tok rfl rfl rfl rfl ?_ | refine acode_seq ?_ | refine acode_region ?_)
      refine aops_pz tok (b := false) rfl rfl rfl rfl rfl rfl ?_
      repeat' (first | refine aops_end ?_ | refine acode_if rfl ?_ | refine acode_skip ?_ | refine then_n ?_)
      refine acode_drawP [⟨some bt, 3, [.int .i64 a.rule, .int .i64 0, .own ob i cap]⟩] 7 [0, 1, 2, 3, 4, 5, 6] [5] mixed (by kernel_rfl) (by kernel_rfl) rfl ?_
      repeat (first | refine seqO_p tok rfl rfl rfl rfl rfl ?_ | refine seqO_ld tok 0 rfl rfl rfl rfl rfl (by simp) rfl rfl rfl rfl ?_)
      refine seqO_call _ rfl Try.func54 rfl rfl rfl rfl (fun M => hc M) rfl rfl rfl ?_
      refine seqO_lit tok rfl rfl rfl rfl rfl rfl rfl rfl rfl ?_
      refine seqO_app tok 1 (m := 1) (ds := trC t) rfl rfl rfl rfl (.inl (by rw [trC_eq]; rfl)) rfl rfl (by rw [encs_len trC_len, List.length_take, Nat.min_eq_left (by omega)]) (by rw [trC_len]; rfl) (by rw [trC_eq]; rfl) rfl (by show _ * 40 ≤ _; omega) (by omega) (by intro y o ho; simp at ho ⊢; simp [ho]) rfl rfl rfl fun ob' cap' => ?_
      repeat (refine seqO_p tok rfl rfl rfl rfl rfl ?_)
      refine SeqO.done ?_
      refine aops_somed 43 rfl (by omega) fun c hc => ?_
      subst hc
      refine aops_stk tok 0 [.int .i64 a.rule, .int .i64 0, .own (some c) (i + 1) cap'] _ rfl rfl rfl rfl rfl rfl (show 2 + 1 ≤ 3 from by decide) rfl rfl rfl rfl ?_
      repeat (first | refine aops_end ?_ | refine aops_endb ?_ | refine aops_a tok rfl (by omega) (by omega) rfl rfl rfl ?_ | refine aops_p tok rfl rfl rfl rfl ?_ | refine acode_region ?_ | refine then_n ?_)
      refine ⟨(i + 1, some c, cap'), by simp only; omega, by simp only; omega, ⟨rfl, rfl, rfl, rfl, rfl, rfl, trivial⟩, ?_⟩
      simp only [htk, encs_app]
      rw [show encs trC [t] = trC t by simp [encs]]
      rfl
  · obtain rfl : i = ks.length := by omega
    rw [List.take_of_length_le (by omega : ts.length ≤ ks.length)]
    refine acode_exit ?_
    repeat (first | refine exit_then ?_ | refine exit_here ?_ | refine then_n ?_)
    refine acode_pubFld (sz := 3) 2 rfl rfl (by rw [encs_len trC_len, htl]) (by decide) rfl ?_
    refine acode_pubref0 3 rfl ?_
    repeat (first | refine aops_end ?_ | refine aops_p tok rfl rfl rfl rfl ?_ | refine aops_stn tok rfl rfl rfl rfl rfl rfl rfl rfl rfl ?_ | refine acode_seq ?_ | refine acode_region ?_)
    refine acode_pubref0 2 rfl ?_
    refine acode_ret ?_
    skip
    exact ⟨.agg [.int .i64 a.rule, .int .i64 0, .psl ts.length (encs trC ts)], ⟨rfl, rfl⟩, resOf_pp tok rfl rfl (by rw [htl]; rfl)⟩
end Go.Proofs.Ytbnhmioijeagiaa.Ab
/- Where ways meet again in one of many states; calls that change objects in drawn regions. No condition. -/
set_option linter.unusedVariables false
set_option linter.unusedSimpArgs false
namespace Go.Proofs.Ytbnhmioijeagiaa.Ab
section
variable {P : Program} {T : List TI} {N : Nat} {ops : Array Oper} {rest : List Oper} {o : Oper} {Q : Exit → St → Prop} {E F : Env} {M : List Ob}
/-- Where ways meet again: one of a family of states. -/
theorem acode_joinI {ι : Type} {c y : Code} {Q2 : Exit → St → Prop} {st : St} (S : ι → Env) (L : ι → List Ob) (I : ι → Prop) (hx : ACode P N c (thenA (fun s => ∃ i, I i ∧ subE (S i) s.E ∧ s.M = L i) Q) st) (hy : ∀ i, I i → ACode P N y Q2 ⟨S i, L i⟩) : ACode P N c (thenA (ACode P N y Q2) Q) st := by
  refine hx.mono ?_
  rintro e ⟨E1, M1⟩ h
  cases e with
  | normal =>
    obtain ⟨i, h0, h1, h2⟩ := h
    simp only at h1 h2
    subst h2
    exact acode_sub (S i) h1 (hy i h0)
  | _ => exact h
/-- Numbers out of a natural one. -/
def decI (n : Nat) : Int := if n % 2 = 0 then ((n / 2 : Nat) : Int) else -(((n / 2 : Nat) : Int)) - 1
theorem decI_surj (i : Int) : ∃ n, decI n = i := by
  by_cases h : 0 ≤ i
  · refine ⟨2 * i.toNat, ?_⟩
    unfold decI
    rw [if_pos (by omega), Nat.mul_div_cancel_left _ (by decide)]
    omega
  · refine ⟨2 * (-i - 1).toNat + 1, ?_⟩
    unfold decI
    rw [if_neg (by omega)]
    omega
theorem decL_surj (l : List Int) : ∃ z : List Nat, z.map decI = l := by
  induction l with
  | nil => exact ⟨[], rfl⟩
  | cons i l ih =>
    obtain ⟨z, rfl⟩ := ih
    obtain ⟨n, rfl⟩ := decI_surj i
    exact ⟨n :: z, rfl⟩
/-- A row of numbers of which something holds, by a row of natural ones. -/
theorem decP (p : List Int → Prop) {l0 : List Int} (h0 : p l0) : ∃ d : List Nat → List Int, (∀ z, p (d z)) ∧ ∀ l, p l → ∃ z, d z = l := by
  classical
  refine ⟨fun z => if p (z.map decI) then z.map decI else l0, fun z => ?_, fun l hl => ?_⟩
  · show p (if _ then _ else _)
    split
    · assumption
    · exact h0
  · obtain ⟨z, rfl⟩ := decL_surj l
    exact ⟨z, if_pos hl⟩
/-- A call that changes objects, in a drawn region. -/
theorem seqO_callw {kp : List Ob} {al : List Nat} {i : Nat} {ll : List Oper} {n d : Nat} {g : Operand} {args : Array Operand} {tys : Array TypeId} {f : FuncId} {cap aS : List A} {fn : Func} (x : List Nat → A) (M2 : List Nat → List Ob) (hi : al.contains i = true) (hf : P.funcs[f]? = some fn) (ho : o.op = .call { callee := .value g, args, argTypes := tys }) (hgv : opA F g = .fn f cap)
    (hfn : callable fn = true) (has : args.toList.map (opA F) ++ cap = aS) (hc : ACalls P f aS M (fun r M' => ∃ z, r = x z ∧ M' = M2 z)) (hkp : ∀ z, ∀ o ∈ kp, o ∈ M2 z) (hg : guardOn ops o F = some true) (hd : o.dst = some d) (hN : Nat.blt d N = true)
    (next : ∀ z, SeqO P N ops Q kp al (i + 1) ((d, x z) :: F) (M2 z) n ll) : SeqO P N ops Q kp al i F M (n + 1) (o :: ll) := by
  refine SeqO.make (x := x) (M2 := M2) hi (fun E hE rest Q next => ?_) hkp fun b => ?_
  · refine aops_call hf ho ((agree_op hE (by rw [ho]; simp [Op.operands, Call.operands])).trans hgv) hfn (by rw [map_congr_ops (E := E) (F := F) (fun y hy => agree_op hE (by rw [ho]; simp [Op.operands, Call.operands, hy]))]; exact has) hc ((agree_guard hE).trans hg) (by rw [hd]; exact hN) ?_
    rintro y M' ⟨z, rfl, rfl⟩
    exact next z
  · rw [hd]; exact next b
theorem yields_quo {t t' : Nat} {x y : Operand} {a b : Int} (ho : o.op = .binOp .quo t x y t') (hx : opA F x = .int .i64 a) (hy : opA F y = .int .i64 b) (ha : 0 ≤ a) (ha' : a ≤ 9223372036854775807) (hb : 0 < b) (hg : guardOn ops o F = some true) {d : Nat} (hd : o.dst = some d) (hN : Nat.blt d N = true) : Yields P N ops o (.int .i64 (a / b)) F M := by
  intro E hE rest Q next
  rw [hd] at next
  exact aops_quo ho ((agree_op hE (by rw [ho]; simp [Op.operands])).trans hx) ((agree_op hE (by rw [ho]; simp [Op.operands])).trans hy) ha ha' hb ((agree_guard hE).trans hg) hd hN next
theorem seqO_quo {kp : List Ob} {al : List Nat} {i : Nat} {ll : List Oper} {m : Nat} {d t t' : Nat} {x y : Operand} {a b : Int} (hi : al.contains i = false) (ho : o.op = .binOp .quo t x y t') (hx : opA F x = .int .i64 a) (hy : opA F y = .int .i64 b) (ha : 0 ≤ a) (ha' : a ≤ 9223372036854775807) (hb : 0 < b) (hg : guardOn ops o F = some true) (hd : o.dst = some d) (hN : Nat.blt d N = true)
    (next : SeqO P N ops Q kp al (i + 1) ((d, .int .i64 (a / b)) :: F) M m ll) : SeqO P N ops Q kp al i F M (m + 1) (o :: ll) :=
  seqO_y hi (fun M' => yields_quo ho hx hy ha ha' hb hg hd hN) hd next
/-- A nil argument, taken as one's own slice of nothing. -/
theorem acalls_nil0 {f : FuncId} {xs ys : List A} {R : A → List Ob → Prop} (h : ∀ (G : Gh) vs, RepL G xs vs → RepL G ys vs) (hc : ACalls P f ys (⟨none, 0, []⟩ :: M) R) : ACalls P f xs M R := by
  intro G w vs hok hl
  refine hc G w vs ?_ (h G vs hl)
  refine ⟨hok.g, hok.os, hok.tape, hok.output, hok.size, hok.fr, hok.fz, ?_, ?_, ?_, ?_, hok.nd, hok.mz, hok.um, hok.wt⟩
  · intro o ho b hb
    rcases List.mem_cons.1 ho with rfl | ho
    · cases hb
    · exact hok.ow o ho b hb
  · intro o ho hb
    rcases List.mem_cons.1 ho with rfl | ho
    · exact ⟨rfl, rfl⟩
    · exact hok.vn o ho hb
  · intro o ho b hb
    rcases List.mem_cons.1 ho with rfl | ho
    · cases hb
    · exact hok.un o ho b hb
  · intro o ho b hb
    rcases List.mem_cons.1 ho with rfl | ho
    · cases hb
    · exact hok.kb o ho b hb
theorem rep_nils_own (G : Gh) {v : Value} (h : Rep G .nils v) : Rep G (.own none 0 0) v := by
  simp only [Rep] at h ⊢; exact ⟨h, trivial, trivial⟩
/-- A temporary's nil slices told as empty ones. -/
theorem aops_softt {l : List Oper} (t : Nat) {y : A} (h : soft (get E t) = y) (next : AOps P N ops l Q ⟨(t, y) :: E, M⟩) : AOps P N ops l Q ⟨E, M⟩ :=
  aops_weaken (st' := ⟨(t, y) :: E, M⟩) (fun K G a w hi => ⟨G, inv_E hi fun s v hv => by
    simp only [get]
    cases hb : Nat.beq t s with
    | true =>
      obtain rfl := Nat.eq_of_beq_eq_true hb
      rw [← h]; exact soft_rep _ _ hv
    | false => exact hv⟩) next
end
end Go.Proofs.Ytbnhmioijeagiaa.Ab
/- Package choose: Best, where no two picks of a node weigh the same: the walk. No condition. -/
set_option linter.unusedVariables false
set_option linter.unusedSimpArgs false
namespace Go.Proofs.Ytbnhmioijeagiaa.Ab
attribute [local irreducible] thenA inBlockA ACode AOps put IntKind.wrap

theorem goP_kids {fb : List F3} {T : Nat → List Pk} {r : Int} : ∀ {l : List Int} {p : Nat} {w : Int} {ks : List Pk} {w' : Int} {ks' : List Pk}, goP fb T r p l w ks = some (w', ks') → ks'.length = ks.length + l.length ∧ ∀ q ∈ ks', q ∈ ks ∨ q.isTk = true ∨ ∃ k : Nat, (k : Int) ∈ l ∧ q ∈ T k
  | [], p, w, ks, w', ks', h => by
    simp only [goP, Option.some.injEq, Prod.mk.injEq] at h
    obtain ⟨_, rfl⟩ := h
    exact ⟨by simp, fun q hq => .inl hq⟩
  | k :: l, p, w, ks, w', ks', h => by
    simp only [goP] at h
    split at h
    · obtain ⟨h1, h2⟩ := goP_kids h
      refine ⟨by rw [h1]; simp; omega, fun q hq => ?_⟩
      rcases h2 q hq with h3 | h3 | ⟨k', h3, h4⟩
      · rcases List.mem_append.1 h3 with h5 | h5
        · exact .inl h5
        · rw [List.mem_singleton.1 h5]; exact .inr (.inl rfl)
      · exact .inr (.inl h3)
      · exact .inr (.inr ⟨k', by simp [h3], h4⟩)
    · rename_i hk0
      split at h
      · cases h
      · rename_i hb
        obtain ⟨h1, h2⟩ := goP_kids h
        refine ⟨by rw [h1]; simp; omega, fun q hq => ?_⟩
        rcases h2 q hq with h3 | h3 | ⟨k', h3, h4⟩
        · rcases List.mem_append.1 h3 with h5 | h5
          · exact .inl h5
          · rw [List.mem_singleton.1 h5]
            exact .inr (.inr ⟨k.toNat, by rw [Int.toNat_of_nonneg (by omega)]; simp, (best_in (by simpa using hb)).1⟩)
        · exact .inr (.inl h3)
        · exact .inr (.inr ⟨k', by simp [h3], h4⟩)
theorem pk_ok {g : Gr} {f : Fo} (h8 : ∀ i, ∀ a ∈ altsOf f i, a.kids.length ≤ 1000 ∧ ∀ k ∈ a.kids, rng k) {i : Nat} (hw : WF f i) : ∀ p ∈ pkT g f i, p.isTk = false → PkOk p := by
  induction hw with
  | @mk i hi hk hs ih =>
    intro p hp hpt
    rw [pkT_eq (.mk hi hk hs)] at hp
    obtain ⟨a, ha, rfl⟩ := List.mem_map.1 hp
    obtain ⟨h1, h2⟩ := h8 i a ha
    unfold altP at hpt ⊢
    cases hgo : goP g.forbid (pkT g f) a.rule 0 a.kids (dynF g a.rule) [] with
    | none => rw [hgo] at hpt; cases hpt
    | some x =>
      obtain ⟨w, ks⟩ := x
      obtain ⟨h3, h4⟩ := goP_kids hgo
      refine .nd (by simpa using h3) h1 h2 fun q hq hqt => ?_
      rcases h4 q hq with h5 | h5 | ⟨k, h5, h6⟩
      · cases h5
      · rw [h5] at hqt; cases hqt
      · exact ih k ⟨a, ha, h5⟩ q h6 hqt
theorem cellsP_out {T : Nat → List Pk} {n : Nat} {l : List Nat} {j : Nat} (hj : j < n) (h : j ∉ l) : (cellsP T n l)[j]? = some .nils := by
  simp [cellsP, List.getElem?_range hj, h]
theorem cellsP_add {T : Nat → List Pk} {n : Nat} {l : List Nat} {j : Nat} : (cellsP T n l).set j (.psl (T j).length (encs pk1 (T j))) = cellsP T n (l ++ [j]) := by
  refine List.ext_getElem? fun k => ?_
  rw [List.getElem?_set]
  by_cases hk : k < n
  · by_cases h : j = k
    · subst h
      rw [if_pos rfl, cellsP_len, if_pos hk, cellsP_in hk (by simp)]
    · have : k ≠ j := fun e => h e.symm
      rw [if_neg h]
      by_cases hl : k ∈ l
      · rw [cellsP_in hk hl, cellsP_in hk (by simp [hl])]
      · rw [cellsP_out hk hl, cellsP_out hk (by simp [hl, this])]
  · have e1 : (cellsP T n l)[k]? = none := List.getElem?_eq_none (by rw [cellsP_len]; omega)
    have e2 : (cellsP T n (l ++ [j]))[k]? = none := List.getElem?_eq_none (by rw [cellsP_len]; omega)
    rw [e1, e2, cellsP_len]
    by_cases h : j = k
    · rw [if_pos h, if_neg (by omega)]
    · rw [if_neg h]
theorem cellsP_nil (T : Nat → List Pk) (n : Nat) : cellsP T n [] = List.replicate n .nils := by
  unfold cellsP
  simp only [List.not_mem_nil, if_false]
  rw [List.map_const', List.length_range]
theorem cset_at {cells : List A} {i k : Nat} {x y : A} (h : cells[k]? = some y) (hne : i ≠ k) : (cells.set i x)[k]? = some y := by
  rw [List.getElem?_set, if_neg hne]; exact h
theorem cset_same {cells : List A} {i : Nat} {x : A} (h : i < cells.length) : (cells.set i x)[i]? = some x := by
  rw [List.getElem?_set, if_pos rfl, if_pos h]
theorem ctopo_next {f : Fo} {l : List Nat} (ht : Topo f l) {p i : Nat} (h : l[p]? = some i) : i ∉ l.take p ∧ ∀ k : Nat, Kid f i k → k ∈ l.take p := by
  have e : l = l.take p ++ i :: l.drop (p + 1) := by
    obtain ⟨h1, h2⟩ := List.getElem?_eq_some_iff.1 h
    rw [← h2, ← List.drop_eq_getElem_cons h1, List.take_append_drop]
  exact (ht.pre e).2
theorem cnums_at {l : List Nat} {p i : Nat} (h : l[p]? = some i) : (nums l)[p]? = some (i : Int) := by simp [nums, h]
theorem all1_calls {r : Int} (M : List Ob) : ACalls Try.prog 53 ([.int .i64 r] ++ []) M (fun x M' => x = .bool ((fun _ => true) r) ∧ M' = M) := by
  refine acalls_of_code 3 Try.func53 rfl rfl rfl ?_
  repeat (first | refine aops_end ?_ | refine aops_p tok rfl rfl rfl rfl ?_ | refine acode_seq ?_ | refine acode_region ?_)
  refine acode_ret ?_
  skip
  exact ⟨_, ⟨rfl, rfl⟩, resOf_tmp rfl⟩
abbrev noP : A := .agg [.int .i64 0, .int .i64 0, .nils]
/-- A forest that is none has no best tree. -/
theorem chbest_none {g : Gr} {f : Fo} (hf : FoOk f) (hF : ¬ FForm f) (M : List Ob) : ACalls Try.prog 18 [grA g, foA f] M (fun x M' => x = .tup [noP, .int .i64 1] ∧ M' = M) := by
  refine acalls_of_code 89 Try.func18 rfl rfl rfl ?_
  repeat (first | refine acode_seq ?_ | refine acode_region ?_)
  refine aops_boxf rfl rfl rfl rfl rfl rfl rfl ?_
  refine aops_boxf rfl rfl rfl rfl rfl rfl rfl ?_
  refine aops_alloc tok rfl rfl rfl rfl rfl rfl fun br => ?_
  repeat (first | refine aops_end ?_ | refine aops_p tok rfl rfl rfl rfl ?_ | refine acode_seq ?_ | refine acode_region ?_)
  refine aops_call Try.func47 rfl rfl rfl rfl (order_calls hf _) rfl rfl ?_
  rintro x M' ⟨hM, hx⟩
  rw [hM]
  rcases hx with ⟨h, _⟩ | ⟨_, rfl⟩
  · exact absurd h hF
  repeat' (first | refine aops_put rfl ?_ | refine aops_end ?_ | refine aops_o rfl rfl rfl ?_ | refine aops_p tok rfl rfl rfl rfl ?_ | refine acode_it rfl ?_ | refine aops_stn tok rfl rfl rfl rfl rfl rfl rfl rfl rfl ?_ | refine acode_seq ?_ | refine acode_region ?_)
  refine acode_pubref0 4 rfl ?_
  refine acode_ret ?_
  repeat (refine ret_then ?_)
  exact ⟨_, ⟨rfl, rfl⟩, _, _, rfl, resOf_pp tok rfl rfl rfl, resOf_tmp rfl⟩
/-- What Best answers of a forest that is a grammar's. -/
noncomputable def bestR (g : Gr) (f : Fo) : A := if (bestF (fun _ => true) (pkT g f f.root.toNat)).isTk then .tup [noP, .int .i64 11] else .tup [trA (treeP (bestF (fun _ => true) (pkT g f f.root.toNat))), .int .i64 0]
set_option maxHeartbeats 32000000 in
theorem chbest_calls {ar : Int → Nat} {g : Gr} {f : Fo} (hg : GrOk g) (hfo : (formF g).2 = 0) (hf : FoOk f) (hF : FForm f) (hwh : wholeB g f = true) (h8 : ∀ i, ∀ a ∈ altsOf f i, a.kids.length ≤ 1000 ∧ ∀ k ∈ a.kids, rng k)
    (hD : ∀ i, i < f.nodes.length → RowOk ar (pkT g f i)) (M : List Ob) :
    ACalls Try.prog 18 [grA g, foA f] M (fun x M' => x = bestR g f ∧ M' = M) := by
  obtain ⟨hf1, hf2⟩ := id hf
  obtain ⟨⟨h0, h1⟩, hw⟩ := id hF
  have hgc := good_calls hg
  rw [decide_eq_true hfo] at hgc
  have hwc := chwhole_calls hg hf hF
  rw [hwh] at hwc
  refine acalls_of_code 89 Try.func18 rfl rfl rfl ?_
  repeat (first | refine acode_seq ?_ | refine acode_region ?_)
  refine aops_boxf rfl rfl rfl rfl rfl rfl rfl ?_
  refine aops_boxf rfl rfl rfl rfl rfl rfl rfl ?_
  refine aops_alloc tok rfl rfl rfl rfl rfl rfl fun br => ?_
  repeat (first | refine aops_end ?_ | refine aops_p tok rfl rfl rfl rfl ?_ | refine acode_seq ?_ | refine acode_region ?_)
  refine aops_call Try.func47 rfl rfl rfl rfl (order_calls hf _) rfl rfl ?_
  rintro x M' ⟨hM, hx⟩
  rw [hM]
  rcases hx with ⟨_, l, rfl, ht, hall⟩ | ⟨h, _⟩
  rotate_left
  · exact absurd hF h
  have hs := setF_of g.forbid
  repeat (first | refine aops_put rfl ?_ | refine aops_end ?_ | refine aops_p tok rfl rfl rfl rfl ?_ | refine acode_seq ?_ | refine acode_region ?_)
  refine aops_callx Try.func48 rfl rfl rfl rfl (hgc _) rfl rfl rfl ?_
  repeat (refine aops_p tok rfl rfl rfl rfl ?_)
  refine aops_callx Try.func49 rfl rfl rfl rfl (hwc _) rfl rfl rfl ?_
  repeat' (first | refine aops_end ?_ | refine aops_p tok rfl rfl rfl rfl ?_ | refine acode_if rfl ?_ | refine acode_seq ?_ | refine acode_skip ?_ | refine then_n ?_)
  refine acode_drawP [] 11 [0, 1, 2, 3, 4, 5, 6, 7, 8, 9, 10] [7, 9] mixed (by kernel_rfl) (by kernel_rfl) rfl ?_
  repeat (refine seqO_p tok rfl rfl rfl rfl rfl ?_)
  refine seqO_call _ rfl Try.func50 rfl rfl rfl rfl (fun M' => fset_calls (by have := hg.fo; omega) M') rfl rfl rfl ?_
  generalize setF g.forbid = ks at *
  repeat (refine seqO_p tok rfl rfl rfl rfl rfl ?_)
  refine seqO_mk tok f.nodes.length rfl rfl rfl rfl rfl rfl rfl (by show _ * 24 ≤ _; omega) (by omega) (by simp) rfl rfl rfl fun bs => ?_
  repeat (refine seqO_p tok rfl rfl rfl rfl rfl ?_)
  refine seqO_boxo rfl rfl rfl rfl (by simp) rfl rfl rfl rfl fun b => ?_
  repeat (refine seqO_p tok rfl rfl rfl rfl rfl ?_)
  refine SeqO.done ?_
  skip
  refine aops_end ?_
  refine acode_perm (chM g f ks b bs (cellsP (pkT g f) f.nodes.length []) (⟨some br, 3, [.int .i64 0, .int .i64 0, .nils]⟩ :: M)) (by rw [cellsP_nil, ← zerosA_one]; exact List.Perm.swap _ _ _) ?_
  repeat (first | refine aops_end ?_ | refine aops_p tok rfl rfl rfl rfl ?_ | refine acode_seq ?_ | refine acode_region ?_ | refine acode_block ?_)
  have htl := ht.len
  refine acode_loopS (ι := Nat) (fun p => [(3, .pp (foC f)), (4, .ref br 0), (8, .ref b 0), (43, .psl l.length (ints (nums l))), (44, .int .i64 l.length), (45, .int .i64 p)]) (fun p => chM g f ks b bs (cellsP (pkT g f) f.nodes.length (l.take p)) (⟨some br, 3, [.int .i64 0, .int .i64 0, .nils]⟩ :: M)) (fun p => l.length - p) (fun p => p ≤ l.length) 0 (Nat.zero_le _) ⟨rfl, rfl, rfl, rfl, rfl, rfl, trivial⟩ rfl ?_
  intro p hp
  repeat (first | refine aops_end ?_ | refine aops_p tok rfl rfl rfl rfl ?_ | refine acode_seq ?_ | refine acode_region ?_)
  refine acode_id rfl (fun e => ?_) (fun e => ?_)
  · have hpl : p < l.length := by omega
    obtain ⟨i, hpi⟩ : ∃ i, l[p]? = some i := ⟨l[p], List.getElem?_eq_getElem hpl⟩
    have hwf := ht.wf i (List.mem_of_getElem? hpi)
    obtain ⟨hni, hkids⟩ := ctopo_next ht hpi
    have hlw : ∀ k ∈ l.take p, WF f k := fun k hk => ht.wf k (List.mem_of_mem_take hk)
    have htk : l.take (p + 1) = l.take p ++ [i] := by rw [List.take_add_one, hpi]; rfl
    have hi := hwf.lt
    obtain ⟨nd, hnd, hndm, hal⟩ := nodes_at hi
    obtain ⟨hal1, hal2⟩ := hf2 nd hndm
    have hT := pkT_eq (g := g) hwf
    have hTl := pkT_len (g := g) hwf
    unfold rowP at hT
    rw [hal] at hT hTl
    have hcl := cellsP_len (pkT g f) f.nodes.length (l.take p)
    have hin : ∀ k : Nat, k ∈ l.take p → (cellsP (pkT g f) f.nodes.length (l.take p))[k]? = some (.psl (pkT g f k).length (encs pk1 (pkT g f k))) := fun k hk => cellsP_in (hlw k hk).lt hk
    have hout := cellsP_out (T := pkT g f) hi hni
    have hadd := cellsP_add (T := pkT g f) (n := f.nodes.length) (l := l.take p) (j := i)
    rw [← htk] at hadd
    generalize cellsP (pkT g f) f.nodes.length (l.take p) = cells at *
    have h8i := h8 i
    rw [hal] at h8i
    have hkx : ∀ a ∈ nd.alts, ∀ k : Nat, (k : Int) ∈ a.kids → k < f.nodes.length ∧ k ≠ i ∧ cells[k]? = some (.psl (pkT g f k).length (encs pk1 (pkT g f k))) ∧ (pkT g f k).length ≤ 9223372036854775807 ∧ RowOk ar (pkT g f k) := by
      intro a ha k hk
      have hkl := hkids k ⟨a, by rw [hal]; exact ha, hk⟩
      have hkw := hlw k hkl
      refine ⟨hkw.lt, fun e => hni (e ▸ hkl), hin k hkl, ?_, hD k hkw.lt⟩
      rw [pkT_len hkw]
      obtain ⟨nk, _, hnkm, halk⟩ := nodes_at hkw.lt
      rw [halk]
      have := (hf2 nk hnkm).1
      omega
    generalize hti : pkT g f i = ti at *
    repeat (first | refine acode_seq ?_ | refine acode_region ?_ | refine acode_block ?_ | refine acode_skip ?_ | refine then_n ?_)
    refine aops_ix tok [A.int .i64 i] rfl rfl rfl rfl (by omega) (by omega) (by simp) (ints_at (j := p) (by simpa using cnums_at hpi)) rfl rfl rfl ?_
    repeat (first | refine aops_end ?_ | refine aops_p tok rfl rfl rfl rfl ?_ | refine acode_seq ?_ | refine acode_region ?_)
    refine aops_ix tok (ndC nd) rfl rfl rfl rfl (by omega) (by omega) (by simp [ndC]) (nd_at hnd) rfl rfl rfl ?_
    repeat (first | refine aops_end ?_ | refine aops_p tok rfl rfl rfl rfl ?_ | refine acode_block ?_)
    refine acode_adoptF i hout (normL_eq _) ?_
    refine acode_swap1 ?_
    refine acode_loopS (ι := Nat × Option Nat × Nat) (fun q => [(3, .pp (foC f)), (4, .ref br 0), (8, .ref b 0), (10, .int .i64 i), (43, .psl l.length (ints (nums l))), (44, .int .i64 l.length), (45, .int .i64 p), (54, .psl nd.alts.length (encs alC nd.alts)), (55, .int .i64 nd.alts.length), (56, .int .i64 q.1)])
      (fun q => chM g f ks b bs (cells.set i (.own q.2.1 q.1 q.2.2)) (⟨q.2.1, q.2.2 * 1, encs pk1 (ti.take q.1)⟩ :: ⟨some br, 3, [.int .i64 0, .int .i64 0, .nils]⟩ :: M)) (fun q => nd.alts.length - q.1) (fun q => q.1 ≤ nd.alts.length ∧ (q.1 = 0 ∧ q.2.1 = none ∧ q.2.2 = 0 ∨ ∃ c, q.2.1 = some c)) (0, none, 0) ⟨Nat.zero_le _, .inl ⟨rfl, rfl, rfl⟩⟩ ⟨rfl, rfl, rfl, rfl, rfl, rfl, rfl, rfl, rfl, rfl, trivial⟩ rfl ?_
    rintro ⟨q, ob, cap⟩ ⟨hq, hob⟩
    simp only at hq hob ⊢
    repeat (first | refine aops_end ?_ | refine aops_p tok rfl rfl rfl rfl ?_ | refine acode_seq ?_ | refine acode_region ?_)
    refine acode_id rfl (fun e2 => ?_) (fun e2 => ?_)
    · have hql : q < nd.alts.length := by omega
      obtain ⟨a, ha⟩ : ∃ a, nd.alts[q]? = some a := ⟨nd.alts[q], List.getElem?_eq_getElem hql⟩
      have ham := List.mem_of_getElem? ha
      obtain ⟨ha8, har⟩ := h8i a ham
      have htq : ti[q]? = some (altP g (pkT g f) a) := by rw [hT, List.getElem?_map, ha]; rfl
      have htkq : ti.take (q + 1) = ti.take q ++ [altP g (pkT g f) a] := by rw [List.take_add_one, htq]; rfl
      have hset : ∀ x, (cells.set i (.own ob q cap)).take (i * 1) ++ ([x] ++ (cells.set i (.own ob q cap)).drop (i * 1 + 1)) = cells.set i x := fun x => by
        rw [Nat.mul_one]
        have := List.set_eq_take_append_cons_drop (l := cells.set i (.own ob q cap)) (i := i) (a := x)
        rw [List.set_set, List.length_set, if_pos (by rw [hcl]; exact hi)] at this
        rw [this]; rfl
      have hcur := cset_same (x := A.own ob q cap) (show i < cells.length by rw [hcl]; exact hi)
      have hcl2 : (cells.set i (.own ob q cap)).length = f.nodes.length := by rw [List.length_set, hcl]
      have htlq : (ti.take q).length = q := by rw [List.length_take]; omega
      have hac := calt_calls (g := g) (f := f) (ks := ks) (b := b) (bs := bs) (cells := cells.set i (.own ob q cap)) (M := ⟨ob, cap * 1, encs pk1 (ti.take q)⟩ :: ⟨some br, 3, [.int .i64 0, .int .i64 0, .nils]⟩ :: M) (a := a) (T := pkT g f) hs ha8 (fun k hk => by
        obtain ⟨x1, x2, x3, x4, x5⟩ := hkx a ham k hk
        exact ⟨x1, cset_at x3 (fun e => x2 e.symm), x4, x5⟩)
      obtain ⟨y, hy1, hy2⟩ : ∃ y, pkA (altP g (pkT g f) a) = y ∧ (y = .nilp ∨ ∃ cs, y = .cp cs) := by
        cases altP g (pkT g f) a with
        | tk => exact ⟨_, rfl, .inl rfl⟩
        | nd a2 w2 q2 => exact ⟨_, rfl, .inr ⟨_, pkA_nd _ _ _⟩⟩
      have hpk : encs pk1 [altP g (pkT g f) a] = [y] := by rw [← hy1]; rfl
      rw [hy1] at hac
      repeat (first | refine acode_seq ?_ | refine acode_region ?_ | refine acode_block ?_ | refine acode_skip ?_ | refine then_n ?_)
      refine aops_ix tok (alC a) rfl rfl rfl rfl (by omega) (by omega) (by simp [alC]) (al_at ha) rfl rfl rfl ?_
      repeat (refine aops_p tok rfl rfl rfl rfl ?_)
      refine aops_alloc tok rfl rfl rfl rfl rfl rfl fun ba => ?_
      repeat (refine aops_stn tok rfl rfl rfl rfl rfl rfl rfl rfl rfl ?_)
      refine aops_pubref0 12 rfl ?_
      repeat (refine aops_end ?_)
      rcases hy2 with rfl | ⟨cs, rfl⟩
      all_goals
        (refine acode_drawP [⟨some bs, f.nodes.length * 1, cells.set i (.own ob q cap)⟩, ⟨some b, 11, grC g ++ foC f ++ [.mp ks, .own (some bs) f.nodes.length f.nodes.length]⟩] 18 [0, 1, 2, 3, 4, 5, 6, 7, 8, 9, 10, 11, 12, 13, 14, 15, 16, 17] [14, 16] mixed (by kernel_rfl) (by kernel_rfl) rfl ?_
         repeat (first | refine seqO_p tok rfl rfl rfl rfl rfl ?_ | refine seqO_ld tok 1 rfl rfl rfl rfl rfl (by simp) rfl rfl rfl rfl ?_)
         refine seqO_ixo tok rfl rfl rfl rfl rfl (by omega) (by omega) rfl rfl rfl ?_
         refine seqO_ld tok 0 (y := .own ob q cap) rfl rfl rfl rfl rfl (by simp) (by rw [headed_eq]; show (cells.set i _)[i * 1]? = _; rw [Nat.mul_one]; exact hcur) rfl rfl rfl ?_
         repeat (refine seqO_p tok rfl rfl rfl rfl rfl ?_)
         refine seqO_callw (fun _ => _) (fun _ => chM g f ks b bs (cells.set i (.own ob q cap)) (⟨ob, cap * 1, encs pk1 (ti.take q)⟩ :: ⟨some br, 3, [.int .i64 0, .int .i64 0, .nils]⟩ :: M)) rfl Try.func51 rfl rfl rfl rfl (hac.mono fun r M' h => ⟨[], h.1, h.2⟩) (by simp) rfl rfl rfl fun z => ?_
         refine seqO_lit tok rfl rfl rfl rfl rfl rfl rfl rfl rfl ?_
         refine seqO_app tok 2 (m := 1) rfl rfl rfl rfl (.inl rfl) rfl rfl (by rw [encs_len pk1_len, htlq]) rfl rfl rfl (by show _ * 8 ≤ _; omega) (by omega) (by intro y o ho; simp at ho ⊢; rcases ho with rfl | rfl <;> simp) rfl rfl rfl fun ob' cap' => ?_
         refine seqO_T rfl ?_
         refine seqT_ixo tok rfl rfl rfl rfl (by omega) (by omega) rfl rfl rfl ?_
         refine SeqT.done ?_
         refine aops_somed 76 rfl (by omega) fun c hc => ?_
         subst hc
         refine aops_stk tok 0 (cells.set i (.own (some c) (q + 1) cap')) _ rfl rfl rfl rfl rfl rfl (by rw [hcl2]; show i * 1 + 1 ≤ _; omega) (hset _) rfl rfl rfl ?_
         repeat (first | refine aops_end ?_ | refine aops_endb ?_ | refine aops_a tok rfl (by omega) (by omega) rfl rfl rfl ?_ | refine aops_p tok rfl rfl rfl rfl ?_ | refine acode_region ?_ | refine then_n ?_)
         refine ⟨(q + 1, some c, cap'), ⟨by simp only; omega, .inr ⟨c, rfl⟩⟩, by simp only; omega, ⟨rfl, rfl, rfl, rfl, rfl, rfl, rfl, rfl, rfl, rfl, trivial⟩, ?_⟩
         simp only [chM, htkq, encs_app, hpk]
         rfl)
    · obtain rfl : q = nd.alts.length := by omega
      have e1 : ti.take nd.alts.length = ti := List.take_of_length_le (by omega)
      rw [e1, ← hTl]
      refine acode_exit ?_
      repeat (first | refine exit_then ?_ | refine exit_here ?_ | refine then_n ?_ | refine block_n ?_)
      refine acode_perm ([⟨ob, cap * 1, encs pk1 ti⟩] ++ (chM g f ks b bs (cells.set i (.own ob ti.length cap)) (⟨some br, 3, [.int .i64 0, .int .i64 0, .nils]⟩ :: M))) perm3 ?_
      refine acode_freezeVM [⟨ob, cap * 1, encs pk1 ti⟩] (chM g f ks b bs (cellsP (pkT g f) f.nodes.length (l.take (p + 1))) (⟨some br, 3, [.int .i64 0, .int .i64 0, .nils]⟩ :: M)) [(3, .pp (foC f)), (4, .ref br 0), (8, .ref b 0), (43, .psl l.length (ints (nums l))), (44, .int .i64 l.length), (45, .int .i64 p)] ⟨.refl _, .refl _, .refl _, .refl _, .refl _, .refl _, trivial⟩ ?_ ?_
      · refine .cons ?_ (fun h => by cases h) (.same (VwM.rfl' _))
        have hv : Vw [⟨ob, cap * 1, encs pk1 ti⟩] (.own ob ti.length cap) (.psl ti.length (encs pk1 ti)) := by
          rcases hob with ⟨e3, rfl, rfl⟩ | ⟨c, rfl⟩
          · rw [← hTl] at e3
            have : ti = [] := List.eq_nil_of_length_eq_zero e3
            rw [e3, this]; exact .none
          · exact .own (.head _) rfl (by rw [encs_len pk1_len]) (by decide) (VwL.rfl' _)
        have := VwL.set (V := [⟨ob, cap * 1, encs pk1 ti⟩]) i (cset_same (x := A.own ob ti.length cap) (show i < cells.length by rw [hcl]; exact hi)) hv
        rw [List.set_set, hadd] at this
        exact this
      · repeat (first | refine aops_end ?_ | refine aops_a tok rfl (by omega) (by omega) rfl rfl rfl ?_ | refine aops_p tok rfl rfl rfl rfl ?_ | refine acode_region ?_)
        exact ⟨p + 1, by omega, by omega, ⟨rfl, rfl, rfl, rfl, rfl, rfl, trivial⟩, rfl⟩
  · have hge : p = l.length := by omega
    subst hge
    rw [List.take_length]
    have hrl : f.root.toNat < f.nodes.length := by omega
    have hcr := cellsP_in (T := pkT g f) hrl (hall _ hrl)
    have hd1 := hD _ hrl
    have hbc := cbest_calls (g := g) (f := f) (ks := ks) (b := b) (bs := bs) (cells := cellsP (pkT g f) f.nodes.length l) (M := ⟨some br, 3, [.int .i64 0, .int .i64 0, .nils]⟩ :: M) (k := f.root.toNat) (l := pkT g f f.root.toNat) (cf := 53) (cap := []) (may := fun _ => true) hrl hcr (by
      rw [pkT_len (hw _ hrl)]
      obtain ⟨nk, _, hnkm, halk⟩ := nodes_at hrl
      rw [halk]
      have := (hf2 nk hnkm).1
      omega) hd1 Try.func53 rfl (fun q _ _ => all1_calls _)
    rw [show ((f.root.toNat : Nat) : Int) = f.root by omega] at hbc
    have hok : (bestF (fun _ => true) (pkT g f f.root.toNat)).isTk = false → PkOk (bestF (fun _ => true) (pkT g f f.root.toNat)) := fun h => pk_ok h8 (hw _ hrl) _ (best_in h).1 h
    unfold bestR
    generalize bestF (fun _ => true) (pkT g f f.root.toNat) = B at *
    refine acode_exit ?_
    repeat (first | refine exit_then ?_ | refine exit_here ?_ | refine then_n ?_)
    repeat (first | refine aops_p tok rfl rfl rfl rfl ?_ | refine acode_seq ?_ | refine acode_region ?_)
    refine aops_callx Try.func52 rfl rfl rfl rfl hbc rfl rfl rfl ?_
    cases B with
    | tk =>
      rw [show Pk.isTk .tk = true from rfl, if_pos rfl]
      rw [show pkA .tk = .nilp from rfl]
      repeat (first | refine aops_end ?_ | refine aops_p tok rfl rfl rfl rfl ?_ | refine acode_seq ?_ | refine acode_region ?_)
      refine aops_pz tok (b := true) rfl rfl rfl rfl rfl rfl ?_
      repeat' (first | refine aops_end ?_ | refine aops_p tok rfl rfl rfl rfl ?_ | refine acode_it rfl ?_ | refine acode_seq ?_ | refine acode_region ?_)
      refine aops_drop0 (aops_drop0 ?_)
      repeat (first | refine aops_end ?_ | refine aops_p tok rfl rfl rfl rfl ?_ | refine aops_stn tok rfl rfl rfl rfl rfl rfl rfl rfl rfl ?_)
      refine acode_pubref0 4 rfl ?_
      refine acode_ret ?_
      repeat (refine ret_then ?_)
      exact ⟨_, ⟨rfl, rfl⟩, _, _, rfl, resOf_pp tok rfl rfl rfl, resOf_tmp rfl⟩
    | nd a w q =>
      have htc := ctree_calls (hok rfl)
      rw [show Pk.isTk (.nd a w q) = false from rfl, if_neg (by simp)]
      generalize treeP (.nd a w q) = t at *
      rw [pkA_nd] at htc ⊢
      repeat (first | refine aops_end ?_ | refine aops_p tok rfl rfl rfl rfl ?_ | refine acode_seq ?_ | refine acode_region ?_)
      refine aops_pz tok (b := false) rfl rfl rfl rfl rfl rfl ?_
      repeat' (first | refine aops_end ?_ | refine aops_p tok rfl rfl rfl rfl ?_ | refine acode_if rfl ?_ | refine acode_seq ?_ | refine acode_region ?_ | refine acode_skip ?_ | refine then_n ?_)
      refine aops_callx Try.func54 rfl rfl rfl rfl (htc _) rfl rfl rfl ?_
      refine aops_drop0 (aops_drop0 ?_)
      repeat (first | refine aops_end ?_ | refine aops_p tok rfl rfl rfl rfl ?_ | refine aops_stn tok rfl rfl rfl rfl rfl rfl rfl rfl rfl ?_)
      refine acode_pubref0 4 rfl ?_
      refine acode_ret ?_
      skip
      exact ⟨_, ⟨rfl, rfl⟩, _, _, rfl, resOf_pp tok rfl rfl rfl, resOf_tmp rfl⟩
end Go.Proofs.Ytbnhmioijeagiaa.Ab
/- How many trees may be is how many there are among all that do. No condition. -/
set_option linter.unusedVariables false
set_option linter.unusedSimpArgs false
namespace Go.Proofs.Ytbnhmioijeagiaa.Ab

/-- May a tree stand at a place of a rule? -/
def standB (fb : List F3) (r p : Int) (t : Tr) : Bool := !(decide (t.rule ≠ -1 ∧ (r, p, t.rule) ∈ fb)) && mayB fb t
theorem altL_rule {T : Nat → List Tr} {a : Al} : ∀ t ∈ altL T a, t.rule = a.rule := by
  intro t ht
  obtain ⟨o, _, rfl⟩ := List.mem_map.1 ht
  rfl
end Go.Proofs.Ytbnhmioijeagiaa.Ab
/- How large the largest tree of a node is, in plain terms. No condition. -/
set_option linter.unusedVariables false
set_option linter.unusedSimpArgs false
namespace Go.Proofs.Ytbnhmioijeagiaa.Ab
def bigM : Int := 1099511627776
def bigK (g : Nat → Int) : Int → List Int → Int
  | x, [] => x
  | x, k :: ks => if x < bigM then bigK g (if 0 ≤ k then x + g k.toNat else x + 1) ks else x
def bigA (g : Nat → Int) : Int → List Al → Int
  | m, [] => m
  | m, a :: l => bigA g (if bigK g 0 a.kids > m then bigK g 0 a.kids else m) l
def bigN (f : Fo) (g : Nat → Int) (i : Nat) : Int := (if bigA g 0 (altsOf f i) ≥ bigM then bigM - 1 else bigA g 0 (altsOf f i)) + 1
theorem bigK_congr {g h : Nat → Int} : ∀ (ks : List Int) (x : Int), (∀ k : Nat, (k : Int) ∈ ks → g k = h k) → bigK g x ks = bigK h x ks
  | [], _, _ => rfl
  | k :: ks, x, hk => by
    have e : (if 0 ≤ k then x + g k.toNat else x + 1) = (if 0 ≤ k then x + h k.toNat else x + 1) := by
      split
      · rename_i h0; rw [hk k.toNat (by rw [Int.toNat_of_nonneg h0]; simp)]
      · rfl
    simp only [bigK, e]
    rw [bigK_congr ks _ fun k hm => hk k (by simp [hm])]
theorem bigA_congr {g h : Nat → Int} : ∀ (l : List Al) (m : Int), (∀ a ∈ l, ∀ k : Nat, (k : Int) ∈ a.kids → g k = h k) → bigA g m l = bigA h m l
  | [], _, _ => rfl
  | a :: l, m, hk => by
    simp only [bigA, bigK_congr a.kids 0 (hk a (by simp))]
    exact bigA_congr l _ fun b hb => hk b (by simp [hb])
theorem big_ex (f : Fo) : ∃ T : Nat → Int, ∀ i, WF f i → T i = bigN f T i := recT (bigN f) fun g h i hk => by
  unfold bigN; rw [bigA_congr _ _ fun a ha k hm => hk k ⟨a, ha, hm⟩]
noncomputable def big (f : Fo) : Nat → Int := Classical.choose (big_ex f)
theorem big_eq {f : Fo} {i : Nat} (h : WF f i) : big f i = bigN f (big f) i := Classical.choose_spec (big_ex f) i h
theorem bigK_is {g : Nat → Int} : ∀ (ks : List Int) (x : Int), 0 ≤ x ∧ x ≤ 2 * bigM → (∀ k : Nat, (k : Int) ∈ ks → 0 ≤ g k ∧ g k ≤ bigM) → 0 ≤ bigK g x ks ∧ bigK g x ks ≤ 2 * bigM
  | [], _, h, _ => h
  | k :: ks, x, h, hk => by
    simp only [bigK]
    split
    · refine bigK_is ks _ ?_ fun k hm => hk k (by simp [hm])
      unfold bigM at *
      split
      · rename_i h0; have := hk k.toNat (by rw [Int.toNat_of_nonneg h0]; simp); omega
      · omega
    · exact h
theorem bigA_is {g : Nat → Int} : ∀ (l : List Al) (m : Int), 0 ≤ m ∧ m ≤ 2 * bigM → (∀ a ∈ l, ∀ k : Nat, (k : Int) ∈ a.kids → 0 ≤ g k ∧ g k ≤ bigM) → 0 ≤ bigA g m l ∧ bigA g m l ≤ 2 * bigM ∧ m ≤ bigA g m l
  | [], _, h, _ => ⟨h.1, h.2, Int.le_refl _⟩
  | a :: l, m, h, hk => by
    simp only [bigA]
    have hb := bigK_is a.kids 0 ⟨by decide, by decide⟩ (hk a (by simp))
    split
    · have := bigA_is l (bigK g 0 a.kids) hb fun b hb => hk b (by simp [hb])
      exact ⟨this.1, this.2.1, by omega⟩
    · exact bigA_is l m h fun b hb => hk b (by simp [hb])
theorem big_is {f : Fo} {i : Nat} (h : WF f i) : 1 ≤ big f i ∧ big f i ≤ bigM := by
  induction h with
  | @mk i hi hk hs ih =>
    rw [big_eq (.mk hi hk hs)]
    have := bigA_is (g := big f) (altsOf f i) 0 ⟨by decide, by decide⟩ fun a ha k hm => by have := ih k ⟨a, ha, hm⟩; exact ⟨by omega, this.2⟩
    unfold bigN
    unfold bigM at *
    split <;> omega
theorem bigA_mem {g : Nat → Int} : ∀ (l : List Al) (m : Int) (a : Al), a ∈ l → bigK g 0 a.kids ≤ bigA g m l ∧ m ≤ bigA g m l
  | [], _, _, h => by cases h
  | b :: l, m, a, h => by
    simp only [bigA]
    have hge : ∀ (l : List Al) (m : Int), m ≤ bigA g m l := by
      intro l
      induction l with
      | nil => intro m; exact Int.le_refl _
      | cons c l ih =>
        intro m
        simp only [bigA]
        split
        · rename_i h; exact Int.le_trans (Int.le_of_lt h) (ih _)
        · exact ih _
    rcases List.mem_cons.1 h with rfl | h
    · split
      · rename_i h; exact ⟨hge _ _, Int.le_trans (Int.le_of_lt h) (hge _ _)⟩
      · rename_i h; exact ⟨Int.le_trans (Int.not_lt.1 h) (hge _ _), hge _ _⟩
    · obtain ⟨h1, h2⟩ := bigA_mem l (if bigK g 0 b.kids > m then bigK g 0 b.kids else m) a h
      refine ⟨h1, Int.le_trans ?_ h2⟩
      split <;> omega
/-- What a row of kids weighs. -/
def wgt (g : Nat → Int) : List Int → Int
  | [] => 0
  | k :: ks => (if 0 ≤ k then g k.toNat else 1) + wgt g ks
theorem bigK_exact {g : Nat → Int} : ∀ (ks : List Int) (x : Int), (∀ k : Nat, (k : Int) ∈ ks → 1 ≤ g k) → bigK g x ks < bigM → bigK g x ks = x + wgt g ks
  | [], x, _, _ => by simp [bigK, wgt]
  | k :: ks, x, hk, h => by
    simp only [bigK, wgt] at h ⊢
    split at h
    · rename_i hx
      rw [if_pos hx, bigK_exact ks _ (fun k hm => hk k (by simp [hm])) h]
      split <;> omega
    · omega
theorem wgt_len {g : Nat → Int} : ∀ (ks : List Int), (∀ k : Nat, (k : Int) ∈ ks → 1 ≤ g k) → (ks.length : Int) ≤ wgt g ks
  | [], _ => by simp [wgt]
  | k :: ks, hk => by
    have ih := wgt_len ks fun k hm => hk k (by simp [hm])
    simp only [wgt, List.length_cons]
    split
    · rename_i h0; have := hk k.toNat (by rw [Int.toNat_of_nonneg h0]; simp); omega
    · omega
theorem wgt_mem {g : Nat → Int} : ∀ (ks : List Int), (∀ k : Nat, (k : Int) ∈ ks → 1 ≤ g k) → ∀ k : Nat, (k : Int) ∈ ks → g k ≤ wgt g ks
  | [], _, _, h => by cases h
  | k0 :: ks, hk, k, h => by
    have ih := wgt_len ks fun k hm => hk k (by simp [hm])
    simp only [wgt]
    rcases List.mem_cons.1 h with rfl | h
    · rw [if_pos (by omega), Int.toNat_natCast]; omega
    · have := wgt_mem ks (fun k hm => hk k (by simp [hm])) k h
      split
      · rename_i h0; have := hk k0.toNat (by rw [Int.toNat_of_nonneg h0]; simp); omega
      · omega
/-- Rows of trees, one of each list, are no larger than they weigh. -/
theorem prod_size {g : Nat → Int} {L : Nat → List Tr} : ∀ (ks : List Int) (out : List Tr), (∀ k : Nat, (k : Int) ∈ ks → ∀ t ∈ L k, (trSize t : Int) ≤ g k) → out ∈ prodL (kidsL L ks) → (trsSize out : Int) ≤ wgt g ks
  | [], out, _, h => by
    simp only [kidsL, List.map_nil, prodL, List.mem_singleton] at h
    subst h; simp [trsSize, wgt]
  | k :: ks, out, hk, h => by
    simp only [kidsL, List.map_cons, prodL, List.mem_flatMap, List.mem_map] at h
    obtain ⟨t, ht, ts, hts, rfl⟩ := h
    have ih := prod_size ks ts (fun k hm => hk k (by simp [hm])) hts
    simp only [trsSize, wgt]
    rw [Int.natCast_add]
    split at ht
    · rename_i h0
      have := hk k.toNat (by rw [Int.toNat_of_nonneg h0]; simp) t ht
      rw [if_pos h0]; omega
    · rename_i h0
      simp only [List.mem_singleton] at ht
      subst ht
      rw [if_neg h0]
      have : trSize (leafT k) = 1 := by simp [leafT, trSize, trsSize]
      omega
theorem big_tr {f : Fo} {i : Nat} (h : WF f i) : big f i < bigM → ∀ t ∈ trL f i, (trSize t : Int) ≤ big f i := by
  induction h with
  | @mk i hi hk hs ih =>
    intro hb t ht
    have hwf : WF f i := .mk hi hk hs
    rw [trL_eq hwf] at ht
    obtain ⟨a, ha, ht⟩ := List.mem_flatMap.1 ht
    obtain ⟨out, ho, rfl⟩ := List.mem_map.1 ht
    have hkid : ∀ k : Nat, (k : Int) ∈ a.kids → Kid f i k := fun k hk => ⟨a, ha, hk⟩
    have h1 := (bigA_mem (g := big f) (altsOf f i) 0 a ha).1
    have hbe := big_eq hwf
    unfold bigN at hbe
    have h2 : bigA (big f) 0 (altsOf f i) + 1 = big f i := by
      split at hbe
      · omega
      · exact hbe.symm
    have h3 := bigK_exact (g := big f) a.kids 0 (fun k hm => (big_is (hs k (hkid k hm))).1) (by omega)
    have hle : ∀ k : Nat, (k : Int) ∈ a.kids → big f k < bigM := fun k hm => by
      have := wgt_mem (g := big f) a.kids (fun k hm => (big_is (hs k (hkid k hm))).1) k hm
      omega
    have h4 := prod_size (g := big f) a.kids out (fun k hm t ht => ih k (hkid k hm) (hle k hm) t ht) ho
    rw [trSize_eq]
    simp only [Tr.kids]
    omega
end Go.Proofs.Ytbnhmioijeagiaa.Ab
/- Package choose in plain terms: a pick's tree is one of the forest's that may be, its weight; when there is none. No condition. -/
set_option linter.unusedVariables false
set_option linter.unusedSimpArgs false
namespace Go.Proofs.Ytbnhmioijeagiaa.Ab

mutual
def rulesT : Tr → List Int
  | .mk r _ ks => if r = -1 then [] else r :: rulessT ks
def rulessT : List Tr → List Int
  | [] => []
  | t :: ts => rulesT t ++ rulessT ts
end
def sumD (g : Gr) : List Int → Int
  | [] => 0
  | r :: l => dynF g r + sumD g l
theorem sumD_app (g : Gr) : ∀ a b : List Int, sumD g (a ++ b) = sumD g a + sumD g b
  | [], b => by simp [sumD]
  | r :: a, b => by rw [List.cons_append, sumD, sumD, sumD_app g a b]; omega
def wtT (g : Gr) (t : Tr) : Int := sumD g (rulesT t)
/-- What is known of a pick: its tree is one of these, that may be. -/
structure PkIs (g : Gr) (TL : List Tr) (e : Pk) : Prop where
  mem : treeP e ∈ TL
  may : mayB g.forbid (treeP e) = true
  rule : (treeP e).rule = e.rule
  wt : e.wt = IntKind.i64.wrap (wtT g (treeP e))
  r0 : e.rule ≠ -1
theorem wrap_rng (n : Int) : rng (IntKind.i64.wrap n) := by
  rw [IntKind.wrap_i64]; unfold rng; omega
theorem wrap_three (a b c : Int) : IntKind.i64.wrap (IntKind.i64.wrap (a + IntKind.i64.wrap b) + c) = IntKind.i64.wrap (a + (b + c)) := by
  simp only [IntKind.wrap_i64]; omega
theorem goP_mem {g : Gr} {T : Nat → List Pk} {TL : Nat → List Tr} {r : Int} : ∀ {l : List Int} {p : Nat} {w : Int} {ks : List Pk} {w' : Int} {ks' : List Pk}, (∀ k : Nat, (k : Int) ∈ l → ∀ e ∈ T k, e.isTk = false → PkIs g (TL k) e) → goP g.forbid T r p l w ks = some (w', ks') →
    ∃ es, ks' = ks ++ es ∧ es.length = l.length ∧ treesP l es ∈ prodL (kidsL TL l) ∧ maysB g.forbid r p (treesP l es) = true ∧ IntKind.i64.wrap w' = IntKind.i64.wrap (w + sumD g (rulessT (treesP l es))) ∧ (rng w → rng w')
  | [], p, w, ks, w', ks', _, h => by
    simp only [goP, Option.some.injEq, Prod.mk.injEq] at h
    obtain ⟨rfl, rfl⟩ := h
    exact ⟨[], by simp, rfl, by simp [treesP, kidsL, prodL], by simp [treesP, maysB], by simp [treesP, rulessT, sumD], id⟩
  | k :: l, p, w, ks, w', ks', hk, h => by
    have hk2 : ∀ q : Nat, (q : Int) ∈ l → ∀ e ∈ T q, e.isTk = false → PkIs g (TL q) e := fun q hq => hk q (by simp [hq])
    simp only [goP] at h
    split at h
    · rename_i h0
      obtain ⟨es, h1, h2, h3, h4, h5, h6⟩ := goP_mem hk2 h
      refine ⟨.tk :: es, by rw [h1]; simp, by simp [h2], ?_, ?_, ?_, h6⟩
      · rw [treesP]
        have e : kidsL TL (k :: l) = [leafT k] :: kidsL TL l := by unfold kidsL; rw [List.map_cons, if_neg (by omega)]
        rw [e, prodL]
        simp [h3]
      · rw [treesP, maysB]
        have : mayB g.forbid (leafT k) = true := by unfold leafT; rw [mayB_eq]; simp [Tr.rule]
        rw [this, h4]
        simp [leafT, Tr.rule]
      · rw [treesP, rulessT]
        have : rulesT (leafT k) = [] := by unfold leafT; rw [rulesT]; simp
        rw [this, List.nil_append]; exact h5
    · rename_i h0
      split at h
      · cases h
      · rename_i hb
        have hb : (bestF (mayP g.forbid r p) (T k.toNat)).isTk = false := by simpa using hb
        obtain ⟨b1, b2⟩ := best_in hb
        have hB := hk k.toNat (by rw [Int.toNat_of_nonneg (by omega)]; simp) _ b1 hb
        obtain ⟨es, h1, h2, h3, h4, h5, h6⟩ := goP_mem hk2 h
        generalize hBe : bestF (mayP g.forbid r p) (T k.toNat) = B at *
        have e1 : treesP (k :: l) (B :: es) = treeP B :: treesP l es := by
          cases B with
          | tk => cases hb
          | nd a w q => rw [treesP]
        refine ⟨B :: es, by rw [h1]; simp, by simp [h2], ?_, ?_, ?_, fun _ => h6 (wrap_rng _)⟩
        · rw [e1]
          have e : kidsL TL (k :: l) = TL k.toNat :: kidsL TL l := by unfold kidsL; rw [List.map_cons, if_pos (by omega)]
          rw [e, prodL]
          exact List.mem_flatMap.2 ⟨_, hB.mem, List.mem_map.2 ⟨_, h3, rfl⟩⟩
        · rw [e1, maysB, hB.may, h4, hB.rule]
          unfold mayP at b2
          simp only [Bool.not_eq_true', decide_eq_false_iff_not] at b2
          simp [b2]
        · rw [e1, rulessT, sumD_app, h5, hB.wt]
          unfold wtT
          exact wrap_three _ _ _
theorem pick_is {g : Gr} {f : Fo} (hdy : ∀ r, rng (dynF g r)) (hr : ∀ i, ∀ a ∈ altsOf f i, a.rule ≠ -1) {i : Nat} (hw : WF f i) : ∀ p ∈ pkT g f i, p.isTk = false → PkIs g (trL f i) p := by
  induction hw with
  | @mk i hi hk hs ih =>
    have hwf : WF f i := .mk hi hk hs
    intro p hp hpt
    rw [pkT_eq hwf] at hp
    obtain ⟨a, ha, rfl⟩ := List.mem_map.1 hp
    have hra := hr i a ha
    unfold altP at hpt ⊢
    cases hgo : goP g.forbid (pkT g f) a.rule 0 a.kids (dynF g a.rule) [] with
    | none => rw [hgo] at hpt; cases hpt
    | some x =>
      obtain ⟨w, ks⟩ := x
      obtain ⟨es, h1, h2, h3, h4, h5, h6⟩ := goP_mem (TL := trL f) (fun k hm => ih k ⟨a, ha, hm⟩) hgo
      simp only [List.nil_append] at h1
      subst h1
      have ht : treeP (.nd a w ks) = .mk a.rule 0 (treesP a.kids ks) := by rw [treeP]
      show PkIs g (trL f i) (.nd a w ks)
      refine ⟨?_, ?_, ?_, ?_, hra⟩
      · rw [ht, trL_eq hwf]
        exact List.mem_flatMap.2 ⟨a, ha, List.mem_map.2 ⟨_, h3, rfl⟩⟩
      · rw [ht, mayB_eq]
        show (_ || maysB g.forbid a.rule 0 (treesP a.kids ks)) = true
        rw [h4, Bool.or_true]
      · rw [ht]; rfl
      · rw [ht]
        unfold wtT
        rw [rulesT, if_neg hra, sumD, ← h5]
        have := h6 (hdy _)
        exact (wrap64_small this.1 this.2).symm
end Go.Proofs.Ytbnhmioijeagiaa.Ab
/- Lists of numbers compared, pulled out of Set6 (printed by genchk.py) -/
set_option linter.unusedVariables false
set_option linter.unusedSimpArgs false
namespace Go.Proofs.Ytbnhmioijeagiaa.Ab
attribute [local irreducible] thenA inBlockA ACode AOps put IntKind.wrap

end Go.Proofs.Ytbnhmioijeagiaa.Ab
/- Trees held against each other, and their tokens, in plain terms. No condition. -/
set_option linter.unusedVariables false
set_option linter.unusedSimpArgs false
namespace Go.Proofs.Ytbnhmioijeagiaa.Ab
mutual
def eqT : Tr → Tr → Bool
  | .mk r t ks, .mk r' t' ks' => decide (r = r') && decide (t = t') && eqTs ks ks'
def eqTs : List Tr → List Tr → Bool
  | [], [] => true
  | x :: l, y :: m => eqT x y && eqTs l m
  | [], _ :: _ => false
  | _ :: _, [] => false
end
mutual
theorem eqT_iff : ∀ x y : Tr, eqT x y = true ↔ x = y
  | .mk r t ks, .mk r' t' ks' => by
    have h := eqTs_iff ks ks'
    rw [eqT, Bool.and_eq_true, Bool.and_eq_true, decide_eq_true_iff, decide_eq_true_iff, h, Tr.mk.injEq, and_assoc]
theorem eqTs_iff : ∀ l m : List Tr, eqTs l m = true ↔ l = m
  | [], [] => by simp [eqTs]
  | x :: l, y :: m => by rw [eqTs, Bool.and_eq_true, eqT_iff x y, eqTs_iff l m, List.cons.injEq]
  | [], _ :: _ => by simp [eqTs]
  | _ :: _, [] => by simp [eqTs]
end
theorem eqT_self (t : Tr) : eqT t t = true := (eqT_iff t t).2 rfl
theorem eqT_eq (x y : Tr) : eqT x y = (decide (x.rule = y.rule) && decide (x.tok = y.tok) && eqTs x.kids y.kids) := by cases x; cases y; rw [eqT]; rfl
theorem eqTs_len {l m : List Tr} (h : l.length ≠ m.length) : eqTs l m = false := by
  cases he : eqTs l m with
  | false => rfl
  | true => exact absurd (congrArg List.length ((eqTs_iff l m).1 he)) h
theorem eqTs_step {l m : List Tr} {i : Nat} {x y : Tr} (hx : l[i]? = some x) (hy : m[i]? = some y) : eqTs (l.drop i) (m.drop i) = (eqT x y && eqTs (l.drop (i + 1)) (m.drop (i + 1))) := by
  rw [drop_at hx, drop_at hy, eqTs]
mutual
def yieldF : Tr → List Int
  | .mk r t ks => if r = -1 then [t] else yieldsF ks
def yieldsF : List Tr → List Int
  | [] => []
  | t :: ts => yieldF t ++ yieldsF ts
end
theorem yieldF_eq (t : Tr) : yieldF t = if t.rule = -1 then [t.tok] else yieldsF t.kids := by cases t; rw [yieldF]; rfl
end Go.Proofs.Ytbnhmioijeagiaa.Ab
/- Package choose's Weight and the reference's Yield: the walk. No condition. -/
set_option linter.unusedVariables false
set_option linter.unusedSimpArgs false
namespace Go.Proofs.Ytbnhmioijeagiaa.Ab
attribute [local irreducible] thenA inBlockA ACode AOps put IntKind.wrap

theorem rulesT_eq (t : Tr) : rulesT t = if t.rule = -1 then [] else t.rule :: rulessT t.kids := by cases t; rw [rulesT]; rfl
theorem rules_step {l : List Tr} {i : Nat} {x : Tr} (hx : l[i]? = some x) : rulessT (l.drop i) = rulesT x ++ rulessT (l.drop (i + 1)) := by rw [drop_at hx, rulessT]
mutual
theorem rulesT_len : ∀ t : Tr, (rulesT t).length ≤ trSize t
  | .mk r t ks => by
    have := rulessT_len ks
    rw [rulesT, trSize]
    split
    · simp
    · rw [List.length_cons]; omega
theorem rulessT_len : ∀ ts : List Tr, (rulessT ts).length ≤ trsSize ts
  | [] => by simp [rulessT, trsSize]
  | t :: ts => by
    have := rulesT_len t
    have := rulessT_len ts
    rw [rulessT, trsSize, List.length_append]; omega
end
set_option maxHeartbeats 2000000 in
theorem urules0_calls : ∀ (t : Tr) (l : List Int), trSize t + l.length ≤ 1000000000 → ∀ (ob : Option Nat) (cap : Nat) (M : List Ob), ACalls Try.prog 93 [.own ob l.length cap, trA t] (⟨ob, cap * 1, ints l⟩ :: M) (fun r M' => ∃ ob' cap', r = .own ob' (l ++ rulesT t).length cap' ∧ M' = ⟨ob', cap' * 1, ints (l ++ rulesT t)⟩ :: M) := by
  refine Tr.ind fun t ih l hsz ob cap M => ?_
  rw [trSize_eq] at hsz
  have hkl := trsSize_len t.kids
  rw [rulesT_eq]
  refine acalls_of_code 28 Try.func93 rfl rfl rfl ?_
  repeat (first | refine acode_seq ?_ | refine acode_region ?_)
  refine aops_boxf rfl rfl rfl rfl rfl rfl rfl ?_
  repeat' (first | refine aops_end ?_ | (refine aops_pd tok rfl rfl rfl rfl ?_ ?_ <;> intro e_) | refine aops_p tok rfl rfl rfl rfl ?_ | refine acode_it rfl ?_ | refine acode_if rfl ?_ | refine acode_seq ?_ | refine acode_region ?_ | refine acode_skip ?_ | refine then_n ?_)
  · rw [if_pos e_]
    refine acode_ret ?_
    repeat (refine ret_then ?_)
    exact ⟨_, ⟨ob, cap, rfl, by rw [List.append_nil]⟩, resOf_tmp (by rw [List.append_nil]; rfl)⟩
  · rw [if_neg e_]
    refine aops_litn tok rfl rfl rfl rfl rfl rfl rfl ?_
    refine aops_append tok 0 (m := 1) (ds := ints [t.rule]) rfl rfl rfl (.inl rfl) rfl rfl (by rw [ints_len]; exact (Nat.mul_one _).symm) rfl rfl rfl (by show _ * 8 ≤ _; omega) (by omega) rfl rfl fun ob1 cap1 => ?_
    repeat (first | refine aops_put rfl ?_ | refine aops_end ?_ | refine aops_p tok rfl rfl rfl rfl ?_ | refine acode_seq ?_ | refine acode_region ?_ | refine acode_block ?_)
    refine acode_loopS (ι := Nat × List Int × Option Nat × Nat) (fun q => [(0, .own q.2.2.1 q.2.1.length q.2.2.2), (17, .psl t.kids.length (encs trC t.kids)), (18, .int .i64 t.kids.length), (19, .int .i64 q.1)]) (fun q => ⟨q.2.2.1, q.2.2.2 * 1, ints q.2.1⟩ :: M) (fun q => t.kids.length - q.1) (fun q => q.1 ≤ t.kids.length ∧ q.2.1 ++ rulessT (t.kids.drop q.1) = l ++ t.rule :: rulessT t.kids) (0, l ++ [t.rule], ob1, cap1) ⟨Nat.zero_le _, by simp⟩ ⟨by rw [List.length_append]; rfl, rfl, rfl, rfl, trivial⟩ (by simp only [ints_app]; rfl) ?_
    rintro ⟨i, l', ob, cap⟩ ⟨hi, hgo⟩
    simp only at hi hgo ⊢
    repeat (first | refine aops_end ?_ | refine aops_p tok rfl rfl rfl rfl ?_ | refine acode_seq ?_ | refine acode_region ?_)
    refine acode_id rfl (fun e => ?_) (fun e => ?_)
    · have hil : i < t.kids.length := by omega
      obtain ⟨u, hu⟩ : ∃ u, t.kids[i]? = some u := ⟨t.kids[i], List.getElem?_eq_getElem hil⟩
      have hum := List.mem_of_getElem? hu
      have hus := trsSize_mem hum
      have hl' : l'.length ≤ l.length + 1 + (rulessT t.kids).length := by
        have := congrArg List.length hgo
        simp only [List.length_append, List.length_cons] at this
        omega
      have hyl := rulessT_len t.kids
      have hdr : trSize u + l'.length ≤ 1000000000 := by
        have h1 := congrArg List.length hgo
        rw [rules_step hu] at h1
        simp only [List.length_append, List.length_cons] at h1
        have h2 : l'.length ≤ l.length + 1 + trsSize (t.kids.take i) := by
          have hsplit : rulessT t.kids = rulessT (t.kids.take i) ++ rulessT (t.kids.drop i) := by
            have key : ∀ (x y : List Tr), rulessT (x ++ y) = rulessT x ++ rulessT y := by
              intro x y
              induction x with
              | nil => rfl
              | cons z x ihx => simp only [List.cons_append, rulessT, ihx, List.append_assoc]
            rw [← key, List.take_append_drop]
          have h3 := congrArg List.length hgo
          rw [hsplit] at h3
          simp only [List.length_append, List.length_cons] at h3
          have := rulessT_len (t.kids.take i)
          omega
        have h4 : trsSize (t.kids.take i) + trSize u ≤ trsSize t.kids := by
          have key : ∀ (x y : List Tr), trsSize (x ++ y) = trsSize x + trsSize y := by
            intro x y
            induction x with
            | nil => simp [trsSize]
            | cons z x ihx => simp only [List.cons_append, trsSize, ihx]; omega
          have := key (t.kids.take i) (t.kids.drop i)
          rw [List.take_append_drop, drop_at hu, trsSize] at this
          omega
        omega
      rw [rules_step hu, ← List.append_assoc] at hgo
      repeat (first | refine acode_seq ?_ | refine acode_region ?_ | refine acode_block ?_ | refine acode_skip ?_ | refine then_n ?_)
      refine aops_ix tok [.int .i64 u.rule, .int .i64 u.tok, .psl u.kids.length (encs trC u.kids)] rfl rfl rfl rfl (by omega) (by omega) (by simp) (by rw [← trC_eq]; exact tr_at hu) rfl rfl rfl ?_
      repeat (refine aops_p tok rfl rfl rfl rfl ?_)
      refine aops_alloc tok rfl rfl rfl rfl rfl rfl fun ba => ?_
      repeat (refine aops_stn tok rfl rfl rfl rfl rfl rfl rfl rfl rfl ?_)
      refine aops_pubref0 6 rfl ?_
      repeat (first | refine aops_end ?_ | refine aops_p tok rfl rfl rfl rfl ?_ | refine acode_region ?_)
      refine aops_call Try.func93 rfl rfl rfl rfl (ih u hum l' hdr ob cap M) rfl rfl ?_
      rintro x M' ⟨ob', cap', rfl, rfl⟩
      repeat (first | refine aops_put rfl ?_ | refine aops_end ?_ | refine aops_endb ?_ | refine aops_a tok rfl (by omega) (by omega) rfl rfl rfl ?_ | refine aops_p tok rfl rfl rfl rfl ?_ | refine acode_region ?_ | refine then_n ?_)
      exact ⟨(i + 1, l' ++ rulesT u, ob', cap'), ⟨by simp only; omega, hgo⟩, by simp only; omega, ⟨rfl, rfl, rfl, rfl, trivial⟩, rfl⟩
    · have hge : i = t.kids.length := by omega
      subst hge
      rw [List.drop_length, rulessT, List.append_nil] at hgo
      subst hgo
      refine acode_exit ?_
      repeat (first | refine exit_then ?_ | refine exit_here ?_ | refine then_n ?_)
      repeat (first | refine aops_end ?_ | refine aops_p tok rfl rfl rfl rfl ?_ | refine acode_seq ?_ | refine acode_region ?_)
      refine acode_ret ?_
      skip
      exact ⟨_, ⟨ob, cap, rfl, rfl⟩, resOf_tmp rfl⟩
theorem urules_calls {t : Tr} (hsz : trSize t ≤ 1000000000) (M : List Ob) : ACalls Try.prog 62 [trA t] M (fun r M' => r = .psl (rulesT t).length (ints (rulesT t)) ∧ M' = M) := by
  refine acalls_frozen (sz := 1) (by rw [ints_len, Nat.mul_one]) (by decide) ?_
  refine acalls_of_code 5 Try.func62 rfl rfl rfl ?_
  repeat (first | refine acode_seq ?_ | refine acode_region ?_)
  refine aops_boxf rfl rfl rfl rfl rfl rfl rfl ?_
  repeat (first | refine aops_end ?_ | refine aops_p tok rfl rfl rfl rfl ?_ | refine acode_seq ?_ | refine acode_region ?_)
  refine aops_call Try.func93 rfl rfl rfl rfl (acalls_nil0 (ys := [.own none 0 0, trA t]) (fun G vs h => ?_) (urules0_calls t [] (by simpa using hsz) none 0 M)) rfl rfl ?_
  · obtain ⟨v, vs', rfl, h1, h2⟩ := h
    exact ⟨v, vs', rfl, rep_nils_own G h1, h2⟩
  rintro x M' ⟨ob', cap', rfl, rfl⟩
  rw [List.nil_append]
  repeat (first | refine aops_put rfl ?_ | refine aops_end ?_ | refine aops_p tok rfl rfl rfl rfl ?_)
  refine acode_ret ?_
  skip
  exact ⟨_, ⟨ob', cap', rfl, rfl⟩, resOf_tmp rfl⟩
theorem sumD_bound {g : Gr} (hd : ∀ r, -1000000 ≤ dynF g r ∧ dynF g r ≤ 1000000) : ∀ l : List Int, -1000000 * (l.length : Int) ≤ sumD g l ∧ sumD g l ≤ 1000000 * (l.length : Int)
  | [] => by simp [sumD]
  | r :: l => by
    have := hd r
    have := sumD_bound hd l
    rw [sumD, List.length_cons]
    omega
theorem sumD_snoc (g : Gr) (l : List Int) (r : Int) : sumD g (l ++ [r]) = sumD g l + dynF g r := by rw [sumD_app]; simp [sumD]
set_option maxHeartbeats 2000000 in
theorem chweight_calls {g : Gr} {t : Tr} (hd : ∀ r, -1000000 ≤ dynF g r ∧ dynF g r ≤ 1000000) (hsz : trSize t ≤ 1000000) (M : List Ob) : ACalls Try.prog 25 [grA g, trA t] M (fun r M' => r = .int .i64 (wtT g t) ∧ M' = M) := by
  have hrl := rulesT_len t
  unfold wtT
  have huc := fun M => urules_calls (t := t) (by omega) M
  generalize rulesT t = l at *
  refine acalls_of_code 22 Try.func25 rfl rfl rfl ?_
  repeat (first | refine acode_seq ?_ | refine acode_region ?_)
  refine aops_boxf rfl rfl rfl rfl rfl rfl rfl ?_
  refine aops_boxf rfl rfl rfl rfl rfl rfl rfl ?_
  repeat (first | refine aops_end ?_ | refine aops_p tok rfl rfl rfl rfl ?_ | refine acode_seq ?_ | refine acode_region ?_)
  refine aops_callx Try.func62 rfl rfl rfl rfl (huc _) rfl rfl rfl ?_
  repeat (first | refine aops_end ?_ | refine aops_p tok rfl rfl rfl rfl ?_ | refine acode_block ?_)
  refine acode_loopS (ι := Nat) (fun i => [(2, .pp (grC g)), (5, .int .i64 (sumD g (l.take i))), (9, .psl l.length (ints l)), (10, .int .i64 l.length), (11, .int .i64 i)]) (fun _ => M) (fun i => l.length - i) (fun i => i ≤ l.length) 0 (Nat.zero_le _) ⟨rfl, rfl, rfl, rfl, rfl, trivial⟩ rfl ?_
  rintro i hi
  have hb := sumD_bound hd (l.take i)
  have htl : ((l.take i).length : Int) ≤ 1000000 := by rw [List.length_take]; omega
  repeat (first | refine aops_end ?_ | refine aops_p tok rfl rfl rfl rfl ?_ | refine acode_seq ?_ | refine acode_region ?_)
  refine acode_id rfl (fun e => ?_) (fun e => ?_)
  · have hil : i < l.length := by omega
    obtain ⟨r, hr⟩ : ∃ r, l[i]? = some r := ⟨l[i], List.getElem?_eq_getElem hil⟩
    have htk : l.take (i + 1) = l.take i ++ [r] := by rw [List.take_add_one, hr]; rfl
    have hdr := hd r
    have hdc := fun M => dyn_calls (g := g) (r := r) M
    have hs := sumD_snoc g (l.take i) r
    generalize dynF g r = d at *
    repeat (first | refine acode_seq ?_ | refine acode_region ?_ | refine acode_block ?_ | refine acode_skip ?_ | refine then_n ?_)
    refine aops_ix tok [A.int .i64 r] rfl rfl rfl rfl (by omega) (by omega) (by simp) (ints_at (j := i) (by simpa using hr)) rfl rfl rfl ?_
    repeat (first | refine aops_end ?_ | refine aops_p tok rfl rfl rfl rfl ?_ | refine acode_region ?_)
    refine aops_callx Try.func63 rfl rfl rfl rfl (hdc _) rfl rfl rfl ?_
    repeat (first | refine aops_end ?_ | refine aops_endb ?_ | refine aops_a tok rfl (by omega) (by omega) rfl rfl rfl ?_ | refine aops_p tok rfl rfl rfl rfl ?_ | refine acode_region ?_ | refine then_n ?_)
    exact ⟨i + 1, by omega, by omega, ⟨rfl, congrArg (A.int .i64) (by rw [htk, hs]), rfl, rfl, rfl, trivial⟩, rfl⟩
  · obtain rfl : i = l.length := by omega
    rw [List.take_length]
    refine acode_exit ?_
    repeat (first | refine exit_then ?_ | refine exit_here ?_ | refine then_n ?_)
    repeat (first | refine aops_end ?_ | refine aops_p tok rfl rfl rfl rfl ?_ | refine acode_seq ?_ | refine acode_region ?_)
    refine acode_ret ?_
    skip
    exact ⟨_, ⟨rfl, rfl⟩, resOf_tmp rfl⟩
end Go.Proofs.Ytbnhmioijeagiaa.Ab
/- Structs of numbers held against each other. No condition. -/
set_option linter.unusedVariables false
set_option linter.unusedSimpArgs false
namespace Go.Proofs.Ytbnhmioijeagiaa.Ab
section
variable {P : Program} {T : List TI} {N : Nat} {ops : Array Oper} {rest : List Oper} {o : Oper} {Q : Exit → St → Prop} {E F : Env} {M : List Ob}
theorem ints_repL (G : Gh) : ∀ l : List Int, RepL G (ints l) (l.map (Value.int .i64))
  | [] => rfl
  | x :: l => ⟨_, _, rfl, rfl, ints_repL G l⟩
theorem ints_val {G : Gh} : ∀ {l : List Int} {vs : List Value}, RepL G (ints l) vs → vs = l.map (Value.int .i64)
  | [], _, h => h
  | x :: l, _, h => by
    obtain ⟨v, vs', rfl, h1, h2⟩ := h
    simp only [Rep] at h1
    rw [h1, ints_val h2]; rfl
theorem part_int {e : Nat} {ei : TI} (he : TG P e ei) (hk : ei.k = .int .i64) {l : List Int} {k : Nat} {x : Int} (h : l[k]? = some x) (w : World) : (part e (l.map (Value.int .i64)).toArray k).run P w = .ok (.int .i64 x) w := by
  obtain ⟨v, h1, h2⟩ := part_run (w := w) he (ints_repL ⟨fun _ => [], fun _ => none, fun _ => False, fun _ => none⟩ l) (off := k) (r := .int .i64 x) (by rw [hk]; exact ints_get h)
  simp only [Rep] at h2
  rw [h1, h2]
theorem eqFields_ints {e : Nat} {ei : TI} (he : TG P e ei) (hk : ei.k = .int .i64) (xs ys : List Int) (d : Nat) (w : World) : ∀ (gs : List Field) (k : Nat), gs.map (fun f => (f.offset, f.type)) = (List.range' k gs.length).map (fun i => (i, e)) → (∀ f ∈ gs, f.name ≠ "_") → k + gs.length = xs.length → k + gs.length = ys.length →
    (Op.eqFields (d + 1) (xs.map (Value.int .i64)).toArray (ys.map (Value.int .i64)).toArray gs).run P w = .ok (xs.drop k == ys.drop k) w
  | [], k, _, _, hx, hy => by
    simp only [List.length_nil, Nat.add_zero] at hx hy
    simp only [Op.eqFields, Sem.run_pure]
    rw [List.drop_eq_nil_of_le (by omega), List.drop_eq_nil_of_le (by omega)]; rfl
  | f :: gs, k, hm, hn, hx, hy => by
    simp only [List.length_cons, List.range'_succ, List.map_cons, List.cons.injEq, Prod.mk.injEq] at hm hx hy
    obtain ⟨⟨ho, ht⟩, hm⟩ := hm
    have h1 : xs[k]? = some (xs[k]'(by omega)) := List.getElem?_eq_getElem (by omega)
    have h2 : ys[k]? = some (ys[k]'(by omega)) := List.getElem?_eq_getElem (by omega)
    have ih := eqFields_ints he hk xs ys d w gs (k + 1) hm (fun f hf => hn f (by simp [hf])) (by omega) (by omega)
    have hu := und_int he hk
    rw [List.drop_eq_getElem_cons (show k < xs.length by omega), List.drop_eq_getElem_cons (show k < ys.length by omega)]
    simp only [Op.eqFields, if_pos (hn f (by simp)), Sem.run_bind, ho, ht, part_int he hk h1, part_int he hk h2, Result.andThen_ok, run_equalIn_int w d e .i64 .i64 _ _ hu]
    rw [List.cons_beq_cons]
    cases hb : (xs[k]'(by omega) == ys[k]'(by omega)) with
    | true => simp only [Bool.not_true, Bool.false_eq_true, if_false, Bool.true_and]; exact ih
    | false => simp
def eqstB (P : Program) (t : Nat) : Bool := (P.fieldsOf t).all (fun f => f.name != "_") && !P.stoodInHeld t && !P.eqGuardType P.depth t
theorem aops_eqst (hT : TOk P T) {t t' d e : Nat} {x y : Operand} (l m : List Int) (ho : o.op = .binOp .eql t x y t') (ht : kindOf T t = some (.struct ((List.range' 0 l.length).map fun i => (i, e)))) (he : kindOf T e = some (.int .i64)) (hB : eqstB P t = true) (hx : opA E x = .agg (ints l)) (hy : opA E y = .agg (ints m)) (hlm : l.length = m.length) (hg : guardOn ops o E = some true) (hd : o.dst = some d) (hN : Nat.blt d N = true)
    (next : AOps P N ops rest Q ⟨(d, .bool (l == m)) :: E, M⟩) : AOps P N ops (o :: rest) Q ⟨E, M⟩ := by
  refine aops_val hg (by rw [hd]; exact hN) (.bool (l == m)) M (fun K G av w hi => ?_) (by rw [hd]; exact next)
  have hrx := opA_rep hi x
  have hry := opA_rep hi y
  rw [hx] at hrx; rw [hy] at hry
  obtain ⟨vx, ex, rx⟩ := hrx
  obtain ⟨vy, ey, ry⟩ := hry
  have e1 := ints_val rx
  have e2 := ints_val ry
  subst e1; subst e2
  simp only [eqstB, Bool.and_eq_true, Bool.not_eq_true'] at hB
  obtain ⟨⟨b1, b2⟩, b3⟩ := hB
  obtain ⟨ti, hti, hk⟩ := Option.map_eq_some_iff.1 ht
  obtain ⟨k1, k2⟩ := known_spec hti
  obtain ⟨tk, ts, tb, tz⟩ := ti
  simp only at hk
  subst hk
  obtain ⟨gs, hu, hgs⟩ := und_struct (hT.get k1 k2)
  have hfo : P.fieldsOf t = gs := by simp [Program.fieldsOf, hu]
  obtain ⟨ei, hei, hke⟩ := Option.map_eq_some_iff.1 he
  obtain ⟨k3, k4⟩ := known_spec hei
  have hlen : gs.toList.length = l.length := by have := congrArg List.length hgs; simpa using this
  have hF := eqFields_ints (hT.get k3 k4) hke l m 9998 w gs.toList 0 (by rw [hlen]; exact hgs) (fun f hf => by
    have := Array.all_eq_true_iff_forall_mem.1 b1 f (by rw [hfo]; exact Array.mem_toList_iff.1 hf)
    simpa using this) (by omega) (by omega)
  refine ⟨.bool (l == m), w, G, ?_, hi.ok, G.le_refl, rfl⟩
  have hq : (binOp .eql t (.agg (l.map (Value.int .i64)).toArray) (.agg (m.map (Value.int .i64)).toArray)).run P w = .ok (.bool (l == m)) w := by
    rw [run_eql_struct, run_equalIn_agg w 9999 t _ _ (by rw [hfo]; exact hu) b2, hfo, hF]
    rfl
  simp only [execOp, ho, ex, ey, Sem.run_bind, run_eqGuard_agg w .eql t x y _ _ b3, hq, Result.andThen_ok]
  rfl
end
end Go.Proofs.Ytbnhmioijeagiaa.Ab
/- Chapter 24's reference: what is forbidden, the weight of a tree, which of two is the better one: the walk. No condition. -/
set_option linter.unusedVariables false
set_option linter.unusedSimpArgs false
namespace Go.Proofs.Ytbnhmioijeagiaa.Ab
section
variable {P : Program} {T : List TI} {N : Nat} {ops : Array Oper} {rest : List Oper} {o : Oper} {Q : Exit → St → Prop} {E F : Env} {M : List Ob}
/-- Rows of numbers held against each other. -/
theorem aops_eqar (hT : TOk P T) {t t' d n e : Nat} {ei : TI} {x y : Operand} (l m : List Int) (ho : o.op = .binOp .eql t x y t') (ht : arrayOf T t = some (n, e, ei)) (he : kindOf T e = some (.int .i64)) (hsz : Nat.beq ei.size 1 = true) (hB : (!P.eqGuardType P.depth t) = true) (hx : opA E x = .agg (ints l)) (hy : opA E y = .agg (ints m)) (hl : l.length = n) (hm : m.length = n) (hg : guardOn ops o E = some true) (hd : o.dst = some d) (hN : Nat.blt d N = true)
    (next : AOps P N ops rest Q ⟨(d, .bool (decide (l = m))) :: E, M⟩) : AOps P N ops (o :: rest) Q ⟨E, M⟩ := by
  refine aops_val hg (by rw [hd]; exact hN) (.bool (decide (l = m))) M (fun K G av w hi => ?_) (by rw [hd]; exact next)
  have hrx := opA_rep hi x
  have hry := opA_rep hi y
  rw [hx] at hrx; rw [hy] at hry
  obtain ⟨vx, ex, rx⟩ := hrx
  obtain ⟨vy, ey, ry⟩ := hry
  have e1 := ints_val rx
  have e2 := ints_val ry
  subst e1; subst e2
  obtain ⟨hu, hgt, _⟩ := arrayOf_spec hT ht
  have hue := kindOf_int hT he
  have hs : ∀ w, (sizeOf e).run P w = .ok 1 w := fun w => by
    have h1 : ei.size = 1 := Nat.eq_of_beq_eq_true hsz
    have := run_size hgt (w := w)
    rw [h1] at this; exact this
  have hq : (binOp .eql t (.agg (l.map (Value.int .i64)).toArray) (.agg (m.map (Value.int .i64)).toArray)).run P w = .ok (.bool (decide (l = m))) w := by
    have h := run_eqInts w 9998 t e n .i64 hu hue hs l m hl hm
    have e' : Op.maxDepth = 9998 + 2 := rfl
    simp only [binOp, Op.equal, e', Sem.run_bind, h, Result.andThen_ok]
    rfl
  refine ⟨.bool (decide (l = m)), w, G, ?_, hi.ok, G.le_refl, rfl⟩
  have hB : P.eqGuardType P.depth t = false := by simpa using hB
  simp only [execOp, ho, ex, ey, Sem.run_bind, run_eqGuard_agg w .eql t x y _ _ hB, hq, Result.andThen_ok]
  rfl
end
attribute [local irreducible] thenA inBlockA ACode AOps put IntKind.wrap
def l3R (f : F3) : List Int := [f.1, f.2.1, f.2.2]
theorem l3R_inj {a b : F3} : l3R a = l3R b ↔ a = b := by
  obtain ⟨a1, a2, a3⟩ := a; obtain ⟨b1, b2, b3⟩ := b
  simp [l3R]
theorem rforb_calls {g : Gr} (hl : g.forbid.length ≤ 9223372036854775807) {r p q : Int} (M : List Ob) : ACalls Try.prog 58 [grA g, .int .i64 r, .int .i64 p, .int .i64 q] M (fun x M' => x = .bool (decide ((r, p, q) ∈ g.forbid)) ∧ M' = M) := by
  refine acalls_of_code 27 Try.func58 rfl rfl rfl ?_
  repeat (first | refine acode_seq ?_ | refine acode_region ?_)
  refine aops_boxf rfl rfl rfl rfl rfl rfl rfl ?_
  repeat (first | refine aops_end ?_ | refine aops_p tok rfl rfl rfl rfl ?_ | refine acode_seq ?_ | refine acode_region ?_ | refine acode_block ?_)
  refine acode_loopS (ι := Nat) (fun i => [(1, .int .i64 r), (2, .int .i64 p), (3, .int .i64 q), (4, .pp (grC g)), (9, .int .i64 i)]) (fun _ => M) (fun i => g.forbid.length - i) (fun i => i ≤ g.forbid.length ∧ (r, p, q) ∉ g.forbid.take i) 0 ⟨Nat.zero_le _, by simp⟩ ⟨rfl, rfl, rfl, rfl, rfl, trivial⟩ rfl ?_
  rintro i ⟨hi, hn⟩
  repeat (first | refine aops_end ?_ | refine aops_p tok rfl rfl rfl rfl ?_ | refine acode_seq ?_ | refine acode_region ?_)
  refine acode_id rfl (fun e => ?_) (fun e => ?_)
  · have hlt : i < g.forbid.length := by omega
    obtain ⟨f, hf⟩ : ∃ f, g.forbid[i]? = some f := ⟨g.forbid[i], List.getElem?_eq_getElem hlt⟩
    have htk : g.forbid.take (i + 1) = g.forbid.take i ++ [f] := by rw [List.take_add_one, hf]; rfl
    repeat (first | refine aops_p tok rfl rfl rfl rfl ?_ | refine acode_seq ?_ | refine acode_region ?_ | refine acode_block ?_ | refine acode_skip ?_ | refine then_n ?_)
    refine aops_ix tok (f3C f) rfl rfl rfl rfl (by omega) (by omega) (by simp [f3C]) (encs_at (e := f3C) (s := 3) (fun _ => rfl) (i := (i : Int).toNat) (by simpa using hf)) rfl rfl rfl ?_
    repeat (refine aops_p tok rfl rfl rfl rfl ?_)
    refine aops_eqar tok (l3R f) (l3R (r, p, q)) rfl rfl rfl rfl (by kernel_rfl) rfl rfl rfl rfl rfl rfl rfl ?_
    refine aops_end ?_
    refine acode_cond rfl (fun h => ?_) (fun h => ?_)
    · have h := l3R_inj.1 (of_decide_eq_true h)
      repeat (first | refine aops_end ?_ | refine aops_p tok rfl rfl rfl rfl ?_ | refine acode_seq ?_ | refine acode_region ?_)
      refine acode_ret ?_
      repeat (first | refine ret_then ?_ | refine ret_block ?_)
      refine ⟨.bool true, ⟨?_, rfl⟩, resOf_tmp rfl⟩
      rw [decide_eq_true]
      rw [← h]; exact List.mem_of_getElem? hf
    · have h : ¬ f = (r, p, q) := fun e => of_decide_eq_false h (l3R_inj.2 e)
      repeat (first | refine aops_end ?_ | refine aops_a tok rfl (by omega) (by omega) rfl rfl rfl ?_ | refine aops_p tok rfl rfl rfl rfl ?_ | refine acode_region ?_ | refine acode_skip ?_ | refine then_n ?_ | refine block_n ?_)
      refine ⟨i + 1, ⟨by omega, ?_⟩, by omega, ⟨rfl, rfl, rfl, rfl, rfl, trivial⟩, rfl⟩
      rw [htk]
      simp only [List.mem_append, List.mem_singleton, not_or]
      exact ⟨hn, fun e => h e.symm⟩
  · obtain rfl : i = g.forbid.length := by omega
    rw [List.take_length] at hn
    refine acode_exit ?_
    repeat (first | refine exit_then ?_ | refine exit_here ?_ | refine then_n ?_)
    repeat (first | refine aops_end ?_ | refine aops_p tok rfl rfl rfl rfl ?_ | refine acode_seq ?_ | refine acode_region ?_)
    refine acode_ret ?_
    skip
    exact ⟨.bool false, ⟨by rw [decide_eq_false hn], rfl⟩, resOf_tmp rfl⟩
set_option maxHeartbeats 4000000 in
theorem rrules0_calls : ∀ (t : Tr), trSize t ≤ 1000000 → ∀ (M : List Ob), ACalls Try.prog 61 [trA t] M (fun r M' => (t.rule = -1 ∧ r = .nils ∨ t.rule ≠ -1 ∧ r = .psl (rulesT t).length (ints (rulesT t))) ∧ M' = M) := by
  refine Tr.ind fun t ih hsz M => ?_
  have hyl := rulesT_len t
  have hsz0 := hsz
  rw [trSize_eq] at hsz
  have hkl := trsSize_len t.kids
  refine acalls_of_code 27 Try.func61 rfl rfl rfl ?_
  repeat (first | refine acode_seq ?_ | refine acode_region ?_)
  refine aops_boxf rfl rfl rfl rfl rfl rfl rfl ?_
  by_cases h1 : t.rule = -1
  · repeat' (first | refine aops_end ?_ | refine aops_pbt tok rfl (by first | omega | decide) rfl rfl rfl ?_ | refine aops_p tok rfl rfl rfl rfl ?_ | refine acode_it rfl ?_ | refine acode_seq ?_ | refine acode_region ?_)
    try any_goals (exfalso; omega)
    refine acode_ret ?_
    repeat (refine ret_then ?_)
    exact ⟨.nils, ⟨.inl ⟨h1, rfl⟩, rfl⟩, resOf_tmp rfl⟩
  have hrt : rulesT t = t.rule :: rulessT t.kids := by rw [rulesT_eq, if_neg h1]
  rw [hrt] at hyl ⊢
  have hyl2 := rulessT_len t.kids
  repeat' (first | refine aops_end ?_ | refine aops_pbf tok rfl (by first | omega | decide) rfl rfl rfl ?_ | refine aops_p tok rfl rfl rfl rfl ?_ | refine acode_if rfl ?_ | refine acode_seq ?_ | refine acode_region ?_ | refine acode_skip ?_ | refine then_n ?_)
  try any_goals (exfalso; omega)
  refine aops_lito tok rfl rfl rfl rfl rfl rfl rfl fun ob0 => ?_
  repeat (first | refine aops_end ?_ | refine aops_p tok rfl rfl rfl rfl ?_ | refine acode_seq ?_ | refine acode_region ?_ | refine acode_block ?_)
  refine acode_loopS (ι := Nat × List Int × Option Nat × Nat) (fun q => [(1, .pp [.int .i64 t.rule, .int .i64 t.tok, .psl t.kids.length (encs trC t.kids)]), (3, .own q.2.2.1 q.2.1.length q.2.2.2), (4, .int .i64 q.1)]) (fun q => ⟨q.2.2.1, q.2.2.2 * 1, ints q.2.1⟩ :: M) (fun q => t.kids.length - q.1) (fun q => q.1 ≤ t.kids.length ∧ q.2.1 ++ rulessT (t.kids.drop q.1) = t.rule :: rulessT t.kids) (0, [t.rule], some ob0, 1) ⟨Nat.zero_le _, rfl⟩ ⟨rfl, rfl, rfl, trivial⟩ rfl ?_
  rintro ⟨i, l', ob, cap⟩ ⟨hi, hgo⟩
  simp only at hi hgo ⊢
  have hl' := congrArg List.length hgo
  rw [List.length_append, List.length_cons] at hl'
  repeat (first | refine aops_end ?_ | refine aops_p tok rfl rfl rfl rfl ?_ | refine acode_seq ?_ | refine acode_region ?_)
  refine acode_id rfl (fun e => ?_) (fun e => ?_)
  · have hil : i < t.kids.length := by omega
    obtain ⟨u, hu⟩ : ∃ u, t.kids[i]? = some u := ⟨t.kids[i], List.getElem?_eq_getElem hil⟩
    have hum := List.mem_of_getElem? hu
    have hus := trsSize_mem hum
    have hc := ih u hum (by omega)
    have hul := rulesT_len u
    have hu1 : u.rule = -1 → rulesT u = [] := fun h => by rw [rulesT_eq, if_pos h]
    rw [rules_step hu, ← List.append_assoc] at hgo
    have hc2 : ∀ M, ACalls Try.prog 61 [trA u] M (fun r M' => r = .psl (rulesT u).length (ints (rulesT u)) ∧ M' = M) := fun M => by
      refine acalls_res (hc M) ?_
      rintro r M' ⟨⟨h, rfl⟩ | ⟨h, rfl⟩, rfl⟩
      · rw [hu1 h]; exact ⟨_, .nils, rfl, rfl⟩
      · exact ⟨_, .refl _, rfl, rfl⟩
    generalize rulesT u = yu at *
    repeat (first | refine aops_p tok rfl rfl rfl rfl ?_ | refine acode_seq ?_ | refine acode_region ?_ | refine acode_block ?_ | refine acode_skip ?_ | refine then_n ?_)
    refine aops_ix tok [.int .i64 u.rule, .int .i64 u.tok, .psl u.kids.length (encs trC u.kids)] rfl rfl rfl rfl (by omega) (by omega) (by simp) (by rw [← trC_eq]; exact tr_at (by simpa using hu)) rfl rfl rfl ?_
    repeat (refine aops_p tok rfl rfl rfl rfl ?_)
    refine aops_callx Try.func61 rfl rfl rfl rfl (hc2 _) rfl rfl rfl ?_
    skip
    refine aops_append tok 0 (m := yu.length) (ds := ints yu) rfl rfl rfl (.inl rfl) rfl rfl (by rw [ints_len]; exact (Nat.mul_one _).symm) (by rw [ints_len]; exact (Nat.mul_one _).symm) (ints_cell yu) rfl (by show _ * 8 ≤ _; omega) (by omega) rfl rfl fun ob' cap' => ?_
    repeat (first | refine aops_put rfl ?_ | refine aops_end ?_ | refine aops_endb ?_ | refine aops_a tok rfl (by omega) (by omega) rfl rfl rfl ?_ | refine aops_p tok rfl rfl rfl rfl ?_ | refine acode_region ?_ | refine then_n ?_)
    exact ⟨(i + 1, l' ++ yu, ob', cap'), ⟨by simp only; omega, hgo⟩, by simp only; omega, ⟨rfl, by rw [List.length_append]; rfl, rfl, trivial⟩, by simp only [ints_app]; rfl⟩
  · obtain rfl : i = t.kids.length := by omega
    rw [List.drop_length, rulessT, List.append_nil] at hgo
    subst hgo
    refine acode_exit ?_
    repeat (first | refine exit_then ?_ | refine exit_here ?_ | refine then_n ?_)
    refine acode_pub0 3 1 rfl rfl (by rw [ints_len, Nat.mul_one]) rfl ?_
    repeat (first | refine aops_end ?_ | refine aops_p tok rfl rfl rfl rfl ?_ | refine acode_seq ?_ | refine acode_region ?_)
    refine acode_ret ?_
    skip
    exact ⟨_, ⟨.inr ⟨h1, rfl⟩, rfl⟩, resOf_tmp rfl⟩
theorem rrules_calls {t : Tr} (hsz : trSize t ≤ 1000000) (M : List Ob) : ACalls Try.prog 61 [trA t] M (fun r M' => r = .psl (rulesT t).length (ints (rulesT t)) ∧ M' = M) := by
  refine acalls_res (rrules0_calls t hsz M) ?_
  rintro r M' ⟨⟨h, rfl⟩ | ⟨h, rfl⟩, rfl⟩
  · rw [show rulesT t = [] by rw [rulesT_eq, if_pos h]]; exact ⟨_, .nils, rfl, rfl⟩
  · exact ⟨_, .refl _, rfl, rfl⟩
theorem cmpL_drop {a b : List Int} : ∀ {i : Nat} {x : Int}, a.take i = b.take i → a[i]? = some x → b[i]? = some x → a.take (i + 1) = b.take (i + 1) := fun {i x} h h1 h2 => by
  rw [List.take_add_one, List.take_add_one, h, h1, h2]
theorem cmpL_at {a b : List Int} {i : Nat} (h : a.take i = b.take i) : cmpL a b = cmpL (a.drop i) (b.drop i) := by
  have := cmpL_app (a.take i) (a.drop i) (b.drop i)
  rw [List.take_append_drop, h, List.take_append_drop] at this
  exact this
theorem cmpI'_neg {x y : Int} (h : x ≠ y) : cmpI' x y < 0 ↔ x < y := by
  unfold cmpI'
  split
  · omega
  · split <;> omega
theorem first_calls {a b : List Int} (ha : a.length ≤ 9223372036854775807) (hb : b.length ≤ 9223372036854775807) (M : List Ob) : ACalls Try.prog 60 [.psl a.length (ints a), .psl b.length (ints b)] M (fun r M' => r = .bool (decide (cmpL a b < 0)) ∧ M' = M) := by
  refine acalls_of_code 41 Try.func60 rfl rfl rfl ?_
  repeat (first | refine aops_end ?_ | refine aops_p tok rfl rfl rfl rfl ?_ | refine acode_seq ?_ | refine acode_region ?_ | refine acode_block ?_)
  refine acode_loopS (ι := Nat) (fun i => [(0, .psl a.length (ints a)), (1, .psl b.length (ints b)), (5, .int .i64 i)]) (fun _ => M) (fun i => a.length - i) (fun i => i ≤ a.length ∧ i ≤ b.length ∧ a.take i = b.take i) 0 ⟨Nat.zero_le _, Nat.zero_le _, rfl⟩ ⟨rfl, rfl, rfl, trivial⟩ rfl ?_
  rintro i ⟨hi, hj, he⟩
  have hc := cmpL_at he
  by_cases h1 : i < a.length
  · by_cases h2 : i < b.length
    · obtain ⟨x, hx⟩ : ∃ x, a[i]? = some x := ⟨a[i], List.getElem?_eq_getElem h1⟩
      obtain ⟨y, hy⟩ : ∃ y, b[i]? = some y := ⟨b[i], List.getElem?_eq_getElem h2⟩
      have dx : a.drop i = x :: a.drop (i + 1) := by
        rw [List.drop_eq_getElem_cons h1]; rw [List.getElem?_eq_getElem h1] at hx; rw [Option.some.inj hx]
      have dy : b.drop i = y :: b.drop (i + 1) := by
        rw [List.drop_eq_getElem_cons h2]; rw [List.getElem?_eq_getElem h2] at hy; rw [Option.some.inj hy]
      rw [dx, dy, cmpL] at hc
      repeat' (first | refine aops_end ?_ | refine aops_pbt tok rfl (by first | omega | decide) rfl rfl rfl ?_ | refine aops_p tok rfl rfl rfl rfl ?_ | refine acode_it rfl ?_ | refine acode_seq ?_ | refine acode_region ?_ | refine acode_block ?_ | refine acode_skip ?_ | refine then_n ?_)
      all_goals try (exfalso; omega)
      refine acode_drawT 9 mixed (by kernel_rfl) (by kernel_rfl) ?_
      repeat (refine seqT_p tok rfl rfl rfl rfl ?_)
      refine seqT_ix tok [A.int .i64 x] rfl rfl rfl rfl (by omega) (by omega) (by simp) (ints_at (j := i) (by simpa using hx)) rfl rfl rfl ?_
      repeat (refine seqT_p tok rfl rfl rfl rfl ?_)
      refine seqT_ix tok [A.int .i64 y] rfl rfl rfl rfl (by omega) (by omega) (by simp) (ints_at (j := i) (by simpa using hy)) rfl rfl rfl ?_
      repeat' (first | (refine seqT_pn tok rfl rfl rfl rfl ?_ ?_ <;> intro e_) | refine seqT_p tok rfl rfl rfl rfl ?_)
      · refine SeqT.done ?_
        repeat' (first | refine aops_end ?_ | refine acode_it rfl ?_ | refine acode_seq ?_)
        refine acode_drawT 9 mixed (by kernel_rfl) (by kernel_rfl) ?_
        repeat (refine seqT_p tok rfl rfl rfl rfl ?_)
        refine seqT_ix tok [A.int .i64 x] rfl rfl rfl rfl (by omega) (by omega) (by simp) (ints_at (j := i) (by simpa using hx)) rfl rfl rfl ?_
        repeat (refine seqT_p tok rfl rfl rfl rfl ?_)
        refine seqT_ix tok [A.int .i64 y] rfl rfl rfl rfl (by omega) (by omega) (by simp) (ints_at (j := i) (by simpa using hy)) rfl rfl rfl ?_
        repeat (refine seqT_p tok rfl rfl rfl rfl ?_)
        refine SeqT.done ?_
        repeat (first | refine aops_end ?_ | refine aops_p tok rfl rfl rfl rfl ?_)
        refine acode_ret ?_
        repeat (first | refine ret_then ?_ | refine ret_block ?_)
        have hne := e_
        refine ⟨.bool (decide (x < y)), ⟨?_, rfl⟩, resOf_tmp rfl⟩
        rw [hc, if_neg hne]
        congr 1
        exact decide_eq_decide.2 (cmpI'_neg hne).symm
      · have heq := e_
        refine SeqT.done ?_
        repeat' (first | refine aops_end ?_ | refine aops_a tok rfl (by omega) (by omega) rfl rfl rfl ?_ | refine aops_p tok rfl rfl rfl rfl ?_ | refine acode_if rfl ?_ | refine acode_region ?_ | refine acode_skip ?_ | refine then_n ?_ | refine block_n ?_)
        exact ⟨i + 1, ⟨by omega, by omega, cmpL_drop he hx (by rw [heq]; exact hy)⟩, by omega, ⟨rfl, rfl, rfl, trivial⟩, rfl⟩
    · have hd : cmpL a b = 1 := by
        rw [hc, List.drop_eq_getElem_cons h1, List.drop_eq_nil_of_le (by omega : b.length ≤ i)]; rfl
      repeat' (first | refine aops_end ?_ | refine aops_pbt tok rfl (by first | omega | decide) rfl rfl rfl ?_ | refine aops_pbf tok rfl (by first | omega | decide) rfl rfl rfl ?_ | refine aops_p tok rfl rfl rfl rfl ?_ | refine acode_if rfl ?_ | refine acode_seq ?_ | refine acode_region ?_)
      all_goals try (exfalso; omega)
      refine acode_exit ?_
      repeat (first | refine exit_then ?_ | refine exit_here ?_ | refine then_n ?_)
      repeat (first | refine aops_end ?_ | refine aops_p tok rfl rfl rfl rfl ?_ | refine acode_seq ?_ | refine acode_region ?_)
      refine acode_ret ?_
      skip
      refine ⟨.bool (decide ((a.length : Int) < b.length)), ⟨?_, rfl⟩, resOf_tmp rfl⟩
      rw [hd, decide_eq_false (by omega), decide_eq_false (by omega)]
  · have hd : cmpL a b < 0 ↔ a.length < b.length := by
      rw [hc, List.drop_eq_nil_of_le (by omega : a.length ≤ i)]
      by_cases h2 : i < b.length
      · rw [List.drop_eq_getElem_cons h2]
        exact ⟨fun _ => by omega, fun _ => by rw [cmpL]; omega⟩
      · rw [List.drop_eq_nil_of_le (by omega)]
        exact ⟨fun h => by rw [cmpL] at h; omega, fun h => by omega⟩
    repeat' (first | refine aops_end ?_ | refine aops_o rfl rfl rfl ?_ | refine aops_pbf tok rfl (by first | omega | decide) rfl rfl rfl ?_ | refine aops_p tok rfl rfl rfl rfl ?_ | refine acode_if rfl ?_ | refine acode_seq ?_ | refine acode_region ?_)
    all_goals try (exfalso; omega)
    refine acode_exit ?_
    repeat (first | refine exit_then ?_ | refine exit_here ?_ | refine then_n ?_)
    repeat (first | refine aops_end ?_ | refine aops_p tok rfl rfl rfl rfl ?_ | refine acode_seq ?_ | refine acode_region ?_)
    refine acode_ret ?_
    skip
    refine ⟨.bool (decide ((a.length : Int) < b.length)), ⟨?_, rfl⟩, resOf_tmp rfl⟩
    congr 1
    exact decide_eq_decide.2 (by rw [hd]; omega)
end Go.Proofs.Ytbnhmioijeagiaa.Ab
/- Chapter 24's reference: the weight of a tree, which of two is the better one: the walk. No condition. -/
set_option linter.unusedVariables false
set_option linter.unusedSimpArgs false
namespace Go.Proofs.Ytbnhmioijeagiaa.Ab
attribute [local irreducible] thenA inBlockA ACode AOps put IntKind.wrap
theorem rulessT_step {l : List Tr} {i : Nat} {x : Tr} (hx : l[i]? = some x) (g : Gr) : sumD g (rulessT (l.drop i)) = wtT g x + sumD g (rulessT (l.drop (i + 1))) := by
  rw [rules_step hx, sumD_app]; rfl
theorem trs_drop (l : List Tr) (i : Nat) : trsSize (l.drop i) ≤ trsSize l := by
  have key : ∀ (x y : List Tr), trsSize (x ++ y) = trsSize x + trsSize y := by
    intro x y
    induction x with
    | nil => simp [trsSize]
    | cons z x ihx => simp only [List.cons_append, trsSize, ihx]; omega
  have := key (l.take i) (l.drop i)
  rw [List.take_append_drop] at this
  omega
theorem dyn_at {g : Gr} {r : Int} (h0 : 0 ≤ r) (h1 : r < g.rules.length) : ∃ ru, g.rules[r.toNat]? = some ru ∧ dynF g r = ru.dyn := by
  have := ruleAt_at (g := g) h0 h1
  exact ⟨_, this, by unfold dynF; rw [if_pos ⟨h0, h1⟩]⟩
set_option maxHeartbeats 4000000 in
theorem rweight_calls {g : Gr} (hg : g.rules.length ≤ 1000000) (hdy : ∀ r, -1000000 ≤ dynF g r ∧ dynF g r ≤ 1000000) : ∀ (t : Tr), trSize t ≤ 1000000 → ∀ (M : List Ob), ACalls Try.prog 59 [grA g, trA t] M (fun r M' => r = .int .i64 (wtT g t) ∧ M' = M) := by
  refine Tr.ind fun t ih hsz M => ?_
  have hsz0 := hsz
  rw [trSize_eq] at hsz
  have hkl := trsSize_len t.kids
  have hd0 := hdy t.rule
  have hwt : wtT g t = if t.rule = -1 then 0 else dynF g t.rule + sumD g (rulessT t.kids) := by
    unfold wtT
    rw [rulesT_eq]
    split
    · rfl
    · rw [sumD]
  have hneg : ¬ (0 ≤ t.rule ∧ t.rule < g.rules.length) → dynF g t.rule = 0 := fun h => by unfold dynF; rw [if_neg h]
  refine acalls_of_code 47 Try.func59 rfl rfl rfl ?_
  repeat (first | refine acode_seq ?_ | refine acode_region ?_)
  refine aops_boxf rfl rfl rfl rfl rfl rfl rfl ?_
  refine aops_boxf rfl rfl rfl rfl rfl rfl rfl ?_
  repeat (refine aops_p tok rfl rfl rfl rfl ?_)
  refine aops_end ?_
  refine acode_seq ?_
  refine acode_region ?_
  repeat (refine aops_p tok rfl rfl rfl rfl ?_)
  refine aops_end ?_
  refine acode_seq ?_
  refine acode_joinI (ι := Unit) (fun _ => [(2, .pp (grC g)), (3, .pp [.int .i64 t.rule, .int .i64 t.tok, .psl t.kids.length (encs trC t.kids)]), (5, .int .i64 (dynF g t.rule))]) (fun _ => M) (fun _ => True) ?_ ?_
  · by_cases h0 : 0 ≤ t.rule
    · by_cases h1 : t.rule < g.rules.length
      · obtain ⟨ru, hru, hde⟩ := dyn_at h0 h1
        rw [hde]
        repeat' (first | refine aops_end ?_ | refine aops_pbt tok rfl (by first | omega | decide) rfl rfl rfl ?_ | refine aops_p tok rfl rfl rfl rfl ?_ | refine acode_it rfl ?_ | refine acode_seq ?_ | refine acode_region ?_)
        try any_goals (exfalso; omega)
        refine aops_ix tok (ruC ru) rfl rfl rfl rfl h0 h1 (by simp [ruC]) (encs_at (e := ruC) (s := 3) (fun _ => rfl) hru) rfl rfl rfl ?_
        repeat (first | refine aops_end ?_ | refine aops_p tok rfl rfl rfl rfl ?_)
        exact ⟨(), trivial, ⟨rfl, rfl, rfl, trivial⟩, rfl⟩
      · rw [hneg (by omega)]
        repeat' (first | refine aops_end ?_ | refine aops_pbt tok rfl (by first | omega | decide) rfl rfl rfl ?_ | refine aops_pbf tok rfl (by first | omega | decide) rfl rfl rfl ?_ | refine aops_p tok rfl rfl rfl rfl ?_ | refine acode_if rfl ?_ | refine acode_seq ?_ | refine acode_region ?_ | refine acode_skip ?_ | refine then_n ?_)
        try any_goals (exfalso; omega)
        exact ⟨(), trivial, ⟨rfl, rfl, rfl, trivial⟩, rfl⟩
    · rw [hneg (by omega)]
      repeat' (first | refine aops_end ?_ | refine aops_o rfl rfl rfl ?_ | refine aops_pbf tok rfl (by first | omega | decide) rfl rfl rfl ?_ | refine aops_p tok rfl rfl rfl rfl ?_ | refine acode_if rfl ?_ | refine acode_seq ?_ | refine acode_region ?_ | refine acode_skip ?_ | refine then_n ?_)
      try any_goals (exfalso; omega)
      exact ⟨(), trivial, ⟨rfl, rfl, rfl, trivial⟩, rfl⟩
  rintro - -
  by_cases hm : t.rule = -1
  · rw [if_pos hm] at hwt
    have : dynF g t.rule = 0 := hneg (by omega)
    rw [this, hwt]
    repeat (first | refine aops_end ?_ | refine aops_p tok rfl rfl rfl rfl ?_ | refine acode_seq ?_ | refine acode_region ?_ | refine acode_block ?_)
    refine acode_loopS (ι := Unit) (fun _ => [(3, .pp [.int .i64 t.rule, .int .i64 t.tok, .psl t.kids.length (encs trC t.kids)]), (5, .int .i64 0), (6, .int .i64 0)]) (fun _ => M) (fun _ => 0) (fun _ => True) () trivial ⟨rfl, rfl, rfl, trivial⟩ rfl ?_
    rintro - -
    repeat' (first | refine aops_end ?_ | refine aops_o rfl rfl rfl ?_ | (refine aops_pd tok rfl rfl rfl rfl ?_ ?_ <;> intro e_) | (refine aops_pn tok rfl rfl rfl rfl ?_ ?_ <;> intro e_) | refine aops_p tok rfl rfl rfl rfl ?_ | refine acode_it rfl ?_ | refine acode_if rfl ?_ | refine acode_seq ?_ | refine acode_region ?_ | refine acode_block ?_ | refine acode_skip ?_ | refine then_n ?_)
    all_goals try (exfalso; omega)
    all_goals
      refine acode_exit ?_
      repeat (first | refine exit_then ?_ | refine exit_here ?_ | refine then_n ?_)
      repeat (first | refine aops_end ?_ | refine aops_p tok rfl rfl rfl rfl ?_ | refine acode_seq ?_ | refine acode_region ?_)
      refine acode_ret ?_
      skip
      exact ⟨_, ⟨rfl, rfl⟩, resOf_tmp rfl⟩
  rw [if_neg hm] at hwt
  rw [hwt]
  have hb := sumD_bound hdy
  repeat (first | refine aops_end ?_ | refine aops_p tok rfl rfl rfl rfl ?_ | refine acode_seq ?_ | refine acode_region ?_ | refine acode_block ?_)
  refine acode_loopS (ι := Nat × Int) (fun q => [(2, .pp (grC g)), (3, .pp [.int .i64 t.rule, .int .i64 t.tok, .psl t.kids.length (encs trC t.kids)]), (5, .int .i64 q.2), (6, .int .i64 q.1)]) (fun _ => M) (fun q => t.kids.length - q.1) (fun q => q.1 ≤ t.kids.length ∧ q.2 + sumD g (rulessT (t.kids.drop q.1)) = dynF g t.rule + sumD g (rulessT t.kids)) (0, dynF g t.rule) ⟨Nat.zero_le _, rfl⟩ ⟨rfl, rfl, rfl, rfl, trivial⟩ rfl ?_
  rintro ⟨i, n⟩ ⟨hi, hgo⟩
  simp only at hi hgo ⊢
  have hb1 := hb (rulessT t.kids)
  have hb2 := hb (rulessT (t.kids.drop i))
  have hl1 := rulessT_len t.kids
  have hl2 := rulessT_len (t.kids.drop i)
  have hl3 := trs_drop t.kids i
  have hb3 := hb (rulessT (t.kids.drop (i + 1)))
  have hl4 := rulessT_len (t.kids.drop (i + 1))
  have hl5 := trs_drop t.kids (i + 1)
  by_cases hil : i < t.kids.length
  · obtain ⟨u, hu⟩ : ∃ u, t.kids[i]? = some u := ⟨t.kids[i], List.getElem?_eq_getElem hil⟩
    have hum := List.mem_of_getElem? hu
    have hus := trsSize_mem hum
    have hc := ih u hum (by omega)
    rw [rulessT_step hu] at hgo
    have hwu : -1000000000000 ≤ wtT g u ∧ wtT g u ≤ 1000000000000 := by
      have h1 := hb (rulesT u)
      have h2 := rulesT_len u
      unfold wtT
      omega
    have hn : -10000000000000 ≤ n ∧ n ≤ 10000000000000 := by omega
    generalize wtT g u = wu at *
    repeat' (first | refine aops_end ?_ | refine aops_pbt tok rfl (by first | omega | decide) rfl rfl rfl ?_ | (refine aops_pn tok rfl rfl rfl rfl ?_ ?_ <;> intro e_) | refine aops_p tok rfl rfl rfl rfl ?_ | refine acode_it rfl ?_ | refine acode_if rfl ?_ | refine acode_seq ?_ | refine acode_region ?_ | refine acode_block ?_ | refine acode_skip ?_ | refine then_n ?_)
    all_goals try (exfalso; omega)
    refine acode_drawT 9 mixed (by kernel_rfl) (by kernel_rfl) ?_
    repeat (refine seqT_p tok rfl rfl rfl rfl ?_)
    refine seqT_ix tok [.int .i64 u.rule, .int .i64 u.tok, .psl u.kids.length (encs trC u.kids)] rfl rfl rfl rfl (by omega) (by omega) (by simp) (by rw [← trC_eq]; exact tr_at (by simpa using hu)) rfl rfl rfl ?_
    repeat (refine seqT_p tok rfl rfl rfl rfl ?_)
    refine seqT_call _ Try.func59 rfl rfl rfl rfl (hc _) rfl rfl rfl ?_
    repeat (refine seqT_a tok rfl (by omega) (by omega) rfl rfl rfl ?_)
    refine SeqT.done ?_
    repeat (first | refine aops_end ?_ | refine aops_endb ?_ | refine aops_a tok rfl (by omega) (by omega) rfl rfl rfl ?_ | refine aops_p tok rfl rfl rfl rfl ?_ | refine acode_region ?_ | refine then_n ?_)
    exact ⟨(i + 1, n + wu), ⟨by simp only; omega, by simp only; omega⟩, by simp only; omega, ⟨rfl, rfl, rfl, rfl, trivial⟩, rfl⟩
  · obtain rfl : i = t.kids.length := by omega
    rw [List.drop_length, rulessT, sumD, Int.add_zero] at hgo
    rw [← hgo]
    repeat' (first | refine aops_end ?_ | refine aops_o rfl rfl rfl ?_ | refine aops_pbf tok rfl (by first | omega | decide) rfl rfl rfl ?_ | refine aops_p tok rfl rfl rfl rfl ?_ | refine acode_if rfl ?_ | refine acode_seq ?_ | refine acode_region ?_)
    all_goals try (exfalso; omega)
    refine acode_exit ?_
    repeat (first | refine exit_then ?_ | refine exit_here ?_ | refine then_n ?_)
    repeat (first | refine aops_end ?_ | refine aops_p tok rfl rfl rfl rfl ?_ | refine acode_seq ?_ | refine acode_region ?_)
    refine acode_ret ?_
    skip
    exact ⟨_, ⟨rfl, rfl⟩, resOf_tmp rfl⟩
/-- Is a tree the better one? -/
def lessT (g : Gr) (a b : Tr) : Bool := if wtT g a ≠ wtT g b then decide (wtT g a > wtT g b) else decide (cmpL (rulesT a) (rulesT b) < 0)
theorem rless_calls {g : Gr} (hg : g.rules.length ≤ 1000000) (hdy : ∀ r, -1000000 ≤ dynF g r ∧ dynF g r ≤ 1000000) {a b : Tr} (ha : trSize a ≤ 1000000) (hb : trSize b ≤ 1000000) (M : List Ob) : ACalls Try.prog 24 [grA g, trA a, trA b] M (fun r M' => r = .bool (lessT g a b) ∧ M' = M) := by
  have h1 := fun M => rweight_calls hg hdy a ha M
  have h2 := fun M => rweight_calls hg hdy b hb M
  have h3 := fun M => rrules_calls ha M
  have h4 := fun M => rrules_calls hb M
  have l1 := rulesT_len a
  have l2 := rulesT_len b
  have h5 := fun M => first_calls (a := rulesT a) (b := rulesT b) (by omega) (by omega) M
  unfold lessT
  generalize wtT g a = wa at *
  generalize wtT g b = wb at *
  refine acalls_of_code 26 Try.func24 rfl rfl rfl ?_
  repeat (first | refine acode_seq ?_ | refine acode_region ?_)
  refine aops_boxf rfl rfl rfl rfl rfl rfl rfl ?_
  refine aops_boxf rfl rfl rfl rfl rfl rfl rfl ?_
  refine aops_boxf rfl rfl rfl rfl rfl rfl rfl ?_
  repeat (first | refine aops_end ?_ | refine aops_p tok rfl rfl rfl rfl ?_ | refine acode_seq ?_ | refine acode_region ?_)
  refine aops_callx Try.func59 rfl rfl rfl rfl (h1 _) rfl rfl rfl ?_
  repeat (first | refine aops_end ?_ | refine aops_p tok rfl rfl rfl rfl ?_ | refine acode_seq ?_ | refine acode_region ?_)
  refine aops_callx Try.func59 rfl rfl rfl rfl (h2 _) rfl rfl rfl ?_
  by_cases hw : wa = wb
  · rw [if_neg (by simpa using hw)]
    repeat' (first | refine aops_end ?_ | refine aops_pbt tok rfl (by first | omega | decide) rfl rfl rfl ?_ | (refine aops_pn tok rfl rfl rfl rfl ?_ ?_ <;> intro e_) | refine aops_p tok rfl rfl rfl rfl ?_ | refine acode_it rfl ?_ | refine acode_if rfl ?_ | refine acode_seq ?_ | refine acode_region ?_ | refine acode_skip ?_ | refine then_n ?_)
    all_goals try (exfalso; omega)
    refine acode_drawT 5 mixed (by kernel_rfl) (by kernel_rfl) ?_
    repeat (refine seqT_p tok rfl rfl rfl rfl ?_)
    refine seqT_call _ Try.func61 rfl rfl rfl rfl (h3 _) rfl rfl rfl ?_
    repeat (refine seqT_p tok rfl rfl rfl rfl ?_)
    refine seqT_call _ Try.func61 rfl rfl rfl rfl (h4 _) rfl rfl rfl ?_
    refine seqT_call _ Try.func60 rfl rfl rfl rfl (h5 _) rfl rfl rfl ?_
    refine SeqT.done ?_
    repeat (first | refine aops_end ?_ | refine aops_p tok rfl rfl rfl rfl ?_)
    refine acode_ret ?_
    skip
    exact ⟨_, ⟨rfl, rfl⟩, resOf_tmp rfl⟩
  · rw [if_pos hw]
    by_cases hgt : wa > wb
    · rw [decide_eq_true hgt]
      repeat' (first | refine aops_end ?_ | refine aops_pbt tok rfl (by first | omega | decide) rfl rfl rfl ?_ | (refine aops_pn tok rfl rfl rfl rfl ?_ ?_ <;> intro e_) | refine aops_p tok rfl rfl rfl rfl ?_ | refine acode_it rfl ?_ | refine acode_if rfl ?_ | refine acode_seq ?_ | refine acode_region ?_ | refine acode_skip ?_ | refine then_n ?_)
      all_goals try (exfalso; omega)
      refine acode_ret ?_
      repeat (refine ret_then ?_)
      exact ⟨.bool true, ⟨rfl, rfl⟩, resOf_tmp rfl⟩
    · rw [decide_eq_false hgt]
      repeat' (first | refine aops_end ?_ | refine aops_pbf tok rfl (by first | omega | decide) rfl rfl rfl ?_ | (refine aops_pn tok rfl rfl rfl rfl ?_ ?_ <;> intro e_) | refine aops_p tok rfl rfl rfl rfl ?_ | refine acode_it rfl ?_ | refine acode_if rfl ?_ | refine acode_seq ?_ | refine acode_region ?_ | refine acode_skip ?_ | refine then_n ?_)
      all_goals try (exfalso; omega)
      refine acode_ret ?_
      repeat (refine ret_then ?_)
      exact ⟨.bool false, ⟨rfl, rfl⟩, resOf_tmp rfl⟩
end Go.Proofs.Ytbnhmioijeagiaa.Ab
/- A forest's nodes in an order in which each stands behind its kids. No condition. -/
set_option linter.unusedVariables false
namespace Go.Proofs.Ytbnhmioijeagiaa.Ab
theorem next_ex {f : Fo} {l : List Nat} {i : Nat} (h : WF f i) (hn : i ∉ l) : ∃ j, j ∉ l ∧ WF f j ∧ ∀ k : Nat, Kid f j k → k ∈ l := by
  induction h with
  | @mk i hi hk hs ih =>
    by_cases hall : ∀ k : Nat, Kid f i k → k ∈ l
    · exact ⟨i, hn, .mk hi hk hs, hall⟩
    · obtain ⟨k, hk'⟩ := Classical.not_forall.1 hall
      obtain ⟨h1, h2⟩ := Classical.not_imp.1 hk'
      exact ih k h1 h2
theorem topo_grow {f : Fo} (hw : ∀ i, i < f.nodes.length → WF f i) : ∀ (d : Nat) (l : List Nat), Topo f l → f.nodes.length - l.length = d → ∃ l, Topo f l ∧ ∀ i, i < f.nodes.length → i ∈ l := by
  intro d
  induction d with
  | zero =>
    intro l ht hd
    refine ⟨l, ht, fun i hi => ?_⟩
    apply Classical.byContradiction
    intro hn
    obtain ⟨j, h1, h2, h3⟩ := next_ex (hw i hi) hn
    have := (Topo.snoc ht h2.lt h1 (fun k hk => h2.small hk) h3).len
    simp at this
    omega
  | succ d ih =>
    intro l ht hd
    by_cases hall : ∀ i, i < f.nodes.length → i ∈ l
    · exact ⟨l, ht, hall⟩
    · obtain ⟨i, hi⟩ := Classical.not_forall.1 hall
      obtain ⟨h1, h2⟩ := Classical.not_imp.1 hi
      obtain ⟨j, h1, h2, h3⟩ := next_ex (hw i h1) h2
      exact ih (l ++ [j]) (Topo.snoc ht h2.lt h1 (fun k hk => h2.small hk) h3) (by simp; omega)
theorem topo_ex {f : Fo} (hw : ∀ i, i < f.nodes.length → WF f i) : ∃ l, Topo f l ∧ ∀ i, i < f.nodes.length → i ∈ l := topo_grow hw _ [] .nil rfl
end Go.Proofs.Ytbnhmioijeagiaa.Ab
/- Chapter 24's reference in plain terms: what is kept of an Alt, and how picks and trees hang together. No condition. -/
set_option linter.unusedVariables false
set_option linter.unusedSimpArgs false
namespace Go.Proofs.Ytbnhmioijeagiaa.Ab

/-! ### picks and rules -/
theorem rulessP {l : List Int} : ∀ {l : List Int} {ks : List Pk}, ks.length = l.length → (∀ q ∈ ks, q.isTk = false → rulesT (treeP q) = rulesP q) → rulessT (treesP l ks) = rulesPs ks
  | [], [], _, _ => by simp [treesP, rulessT, rulesPs]
  | [], _ :: _, h, _ => by simp at h
  | _ :: _, [], h, _ => by simp at h
  | k :: l, .tk :: ks, h, hk => by
    rw [treesP, rulessT, rulessP (l := l) (by simpa using h) fun q hq => hk q (by simp [hq]), rulesPs, rulesP]
    unfold leafT
    rw [rulesT]; simp
  | k :: l, .nd a w q :: ks, h, hk => by
    rw [treesP, rulessT, rulessP (l := l) (by simpa using h) fun q hq => hk q (by simp [hq]), rulesPs, hk _ (by simp) rfl]
theorem goP_nds {fb : List F3} {T : Nat → List Pk} {r : Int} : ∀ {l : List Int} {p : Nat} {w : Int} {ks : List Pk} {w' : Int} {ks' : List Pk}, goP fb T r p l w ks = some (w', ks') → (ndsP ks').length = (ndsP ks).length + (l.filter fun k => decide (0 ≤ k)).length
  | [], p, w, ks, w', ks', h => by
    simp only [goP, Option.some.injEq, Prod.mk.injEq] at h
    rw [h.2]; simp
  | k :: l, p, w, ks, w', ks', h => by
    simp only [goP] at h
    split at h
    · rename_i h0
      have := goP_nds h
      rw [this, List.filter_cons_of_neg (by simp; omega)]
      unfold ndsP
      rw [List.filter_append]
      simp [Pk.isTk]
    · rename_i h0
      split at h
      · cases h
      · rename_i hb
        have := goP_nds h
        rw [this, List.filter_cons_of_pos (by simp; omega)]
        unfold ndsP
        rw [List.filter_append]
        simp at hb
        simp [hb]; omega
def arOf (g : Gr) (r : Int) : Nat := ((ruleAt g r).right.filter fun s => decide (isName g s)).length
theorem filt_len {p : Int → Bool} {q : Int → Bool} : ∀ {l m : List Int}, l.length = m.length → (∀ i, i < l.length → p (l.getD i 0) = q (m.getD i 0)) → (l.filter p).length = (m.filter q).length
  | [], [], _, _ => rfl
  | [], _ :: _, h, _ => by simp at h
  | _ :: _, [], h, _ => by simp at h
  | x :: l, y :: m, h, hi => by
    have h0 := hi 0 (by simp)
    simp at h0
    have ih := filt_len (p := p) (q := q) (l := l) (m := m) (by simpa using h) fun i hl => by simpa using hi (i + 1) (by simpa using hl)
    rw [List.filter_cons, List.filter_cons, h0]
    split <;> simp [ih]
theorem of_filt {g : Gr} {f : Fo} {s : Int} {a : Al} (h : ofB g f s a = true) : (a.kids.filter fun k => decide (0 ≤ k)).length = arOf g a.rule ∧ a.kids.length = (ruleAt g a.rule).right.length ∧ 0 ≤ a.rule ∧ a.rule < g.rules.length := by
  unfold ofB at h
  rw [Bool.and_eq_true, decide_eq_true_eq, List.all_eq_true] at h
  obtain ⟨⟨h1, _, h2⟩, h3⟩ := h
  refine ⟨?_, h2, h1.1, h1.2⟩
  unfold arOf
  refine filt_len h2 fun i hi => ?_
  have := h3 i (List.mem_range.2 hi)
  unfold fitB at this
  split at this
  · rename_i hn
    simp only [decide_eq_true_eq] at this
    rw [decide_eq_true this.1, decide_eq_true hn]
  · rename_i hn
    simp only [decide_eq_true_eq] at this
    rw [decide_eq_false (by omega), decide_eq_false hn]
theorem whole_of {g : Gr} {f : Fo} (h : wholeB g f = true) {i : Nat} {a : Al} (ha : a ∈ altsOf f i) : ∃ s, ofB g f s a = true := by
  by_cases hi : i < f.nodes.length
  · obtain ⟨nd, hnd, hndm, hal⟩ := nodes_at hi
    rw [hal] at ha
    unfold wholeB at h
    simp only [Bool.not_eq_true', List.any_eq_false, Bool.not_eq_true, Bool.not_eq_false'] at h
    refine ⟨nd.sym, ?_⟩
    have := h nd hndm
    simpa using this a ha
  · unfold altsOf at ha
    rw [List.getElem?_eq_none (by omega)] at ha
    cases ha
/-- All that is told of a pick. -/
structure PkAll (g : Gr) (f : Fo) (i : Nat) (p : Pk) : Prop where
  is : PkIs g (trL f i) p
  ar : PkAr (arOf g) p
  rules : rulesT (treeP p) = rulesP p
theorem pick_all {g : Gr} {f : Fo} (hdy : ∀ r, rng (dynF g r)) (hwh : wholeB g f = true) (h8 : ∀ i, ∀ a ∈ altsOf f i, a.kids.length ≤ 1000) {i : Nat} (hw : WF f i) : ∀ p ∈ pkT g f i, p.isTk = false → PkAll g f i p := by
  have hr : ∀ i, ∀ a ∈ altsOf f i, a.rule ≠ -1 := fun i a ha => by
    obtain ⟨s, h⟩ := whole_of hwh ha
    have := (of_filt h).2.2
    omega
  induction hw with
  | @mk i hi hk hs ih =>
    have hwf : WF f i := .mk hi hk hs
    intro p hp hpt
    have his := pick_is hdy hr hwf p hp hpt
    rw [pkT_eq hwf] at hp
    obtain ⟨a, ha, rfl⟩ := List.mem_map.1 hp
    have h8a := h8 i a ha
    have hra := hr i a ha
    obtain ⟨s, hof⟩ := whole_of hwh ha
    obtain ⟨o1, o2, o3, o4⟩ := of_filt hof
    unfold altP at hpt his ⊢
    cases hgo : goP g.forbid (pkT g f) a.rule 0 a.kids (dynF g a.rule) [] with
    | none => rw [hgo] at hpt; cases hpt
    | some x =>
      obtain ⟨w, ks⟩ := x
      rw [hgo] at his
      obtain ⟨k1, k2⟩ := goP_kids hgo
      have k3 := goP_nds hgo
      simp only [List.length_nil, Nat.zero_add, ndsP, List.filter_nil] at k1 k3
      have hkid : ∀ q ∈ ks, q.isTk = false → ∃ k : Nat, PkAll g f k q := fun q hq hqt => by
        rcases k2 q hq with h | h | ⟨k, h1, h2⟩
        · cases h
        · rw [h] at hqt; cases hqt
        · exact ⟨k, ih k ⟨a, ha, h1⟩ q h2 hqt⟩
      have ht : treeP (.nd a w ks) = .mk a.rule 0 (treesP a.kids ks) := by rw [treeP]
      refine ⟨his, .nd (by simp only at k1 ⊢; omega) (by rw [← o1]; exact k3) fun q hq hqt => ?_, ?_⟩
      · obtain ⟨k, h⟩ := hkid q hq hqt
        exact h.ar
      · show rulesT (treeP (.nd a w ks)) = rulesP (.nd a w ks)
        rw [ht, rulesT, if_neg hra, rulesP, rulessP (l := a.kids) k1 fun q hq hqt => by obtain ⟨k, h⟩ := hkid q hq hqt; exact h.rules]
/-- How deep picks are. -/
theorem dp_topo {g : Gr} {f : Fo} {l : List Nat} (h : Topo f l) : ∀ i ∈ l, ∀ p ∈ pkT g f i, dpP p ≤ l.length := by
  induction h with
  | nil => simp
  | @snoc l j ht hi hn hb hk ih =>
    intro i hil p hp
    rw [List.length_append, List.length_singleton]
    rcases List.mem_append.1 hil with h | h
    · have := ih i h p hp; omega
    · rw [List.mem_singleton.1 h] at hp
      have hwf : WF f j := .mk hi hb fun k hkk => ht.wf k (hk k hkk)
      rw [pkT_eq hwf] at hp
      obtain ⟨a, ha, rfl⟩ := List.mem_map.1 hp
      unfold altP
      cases hgo : goP g.forbid (pkT g f) a.rule 0 a.kids (dynF g a.rule) [] with
      | none => simp [dpP]
      | some x =>
        obtain ⟨w, ks⟩ := x
        obtain ⟨_, k2⟩ := goP_kids hgo
        show dpP (.nd a w ks) ≤ _
        rw [dpP]
        have : dpPs ks ≤ l.length := dpPs_le fun q hq => by
          rcases k2 q hq with h | h | ⟨k, h1, h2⟩
          · cases h
          · cases q with
            | tk => simp [dpP]
            | nd a w ks => cases h
          · exact ih k (hk k ⟨a, ha, h1⟩) q h2
        omega
theorem rows_ok {g : Gr} {f : Fo} (hdy : ∀ r, rng (dynF g r)) (hwh : wholeB g f = true) (h8 : ∀ i, ∀ a ∈ altsOf f i, a.kids.length ≤ 1000) (hF : FForm f) (hn : f.nodes.length ≤ 900) : ∀ i, i < f.nodes.length → RowOk (arOf g) (pkT g f i) := fun i hi p hp hpt => by
  obtain ⟨l, ht, hall⟩ := topo_ex hF.2
  have := dp_topo (g := g) ht i (hall i hi) p hp
  have := ht.len
  exact ⟨(pick_all hdy hwh h8 (hF.2 i hi) p hp hpt).ar, by omega⟩
theorem wt_small {g : Gr} (hdy : ∀ r, -1000000 ≤ dynF g r ∧ dynF g r ≤ 1000000) {t : Tr} (h : trSize t ≤ 1000000) : IntKind.i64.wrap (wtT g t) = wtT g t := by
  have h1 := sumD_bound hdy (rulesT t)
  have h2 := rulesT_len t
  refine wrap64_small ?_ ?_ <;> (unfold wtT; omega)
end Go.Proofs.Ytbnhmioijeagiaa.Ab
/- Chapter 24's reference: the best of a node: the walk. No condition. -/
set_option linter.unusedVariables false
set_option linter.unusedSimpArgs false
namespace Go.Proofs.Ytbnhmioijeagiaa.Ab
attribute [local irreducible] thenA inBlockA ACode AOps put IntKind.wrap

end Go.Proofs.Ytbnhmioijeagiaa.Ab
/- Chapter 24's reference: the best of an Alt: the walk. No condition. -/
set_option linter.unusedVariables false
set_option linter.unusedSimpArgs false
namespace Go.Proofs.Ytbnhmioijeagiaa.Ab
attribute [local irreducible] thenA inBlockA ACode AOps put IntKind.wrap

end Go.Proofs.Ytbnhmioijeagiaa.Ab
/- Truth values held against each other by !=: rules of the walk. No condition. -/
set_option linter.unusedVariables false
set_option linter.unusedSimpArgs false
namespace Go.Proofs.Ytbnhmioijeagiaa.Ab
section
variable {P : Program} {T : List TI} {N : Nat} {ops : Array Oper} {o : Oper} {rest : List Oper} {Q : Exit → St → Prop} {E F : Env} {M : List Ob}
end
end Go.Proofs.Ytbnhmioijeagiaa.Ab
/- An object made in a drawn region. No condition. -/
set_option linter.unusedVariables false
set_option linter.unusedSimpArgs false
namespace Go.Proofs.Ytbnhmioijeagiaa.Ab
section
variable {P : Program} {T : List TI} {N : Nat} {ops : Array Oper} {Q : Exit → St → Prop} {o : Oper} {F : Env} {M : List Ob}
theorem seqO_alloc (hT : TOk P T) {kp : List Ob} {al : List Nat} {i : Nat} {ll : List Oper} {m : Nat} {e d : Nat} {ti : TI} (hi : al.contains i = true) (ho : o.op = .alloc e) (hk : known T e = some ti) (hkp : ∀ o ∈ kp, o ∈ M) (hg : guardOn ops o F = some true) (hd : o.dst = some d) (hN : Nat.blt d N = true)
    {cs : List A} (hcs : normL (ti.zero.map ofZ) = some cs) (next : ∀ b, SeqO P N ops Q kp al (i + 1) ((d, .ref b 0) :: F) (⟨some b, ti.zero.length, cs⟩ :: M) m ll) : SeqO P N ops Q kp al i F M (m + 1) (o :: ll) := by
  refine SeqO.make (x := fun z => .ref (z.headD 0) 0) (M2 := fun z => ⟨some (z.headD 0), ti.zero.length, cs⟩ :: M) hi (fun E hE rest Q next => ?_) (fun z o ho => List.mem_cons_of_mem _ (hkp o ho)) fun b => ?_
  · exact aops_alloc hT ho hk ((agree_guard hE).trans hg) hd hN hcs fun b => by have := next [b]; rwa [hd] at this
  · rw [hd]; exact next _
end
end Go.Proofs.Ytbnhmioijeagiaa.Ab
/- A region whose order is drawn: with one more edge each way. No condition. -/
set_option linter.unusedVariables false
set_option linter.unusedSimpArgs false
namespace Go.Proofs.Ytbnhmioijeagiaa.Ab
section
variable {P : Program} {T : List TI} {N : Nat} {ops : Array Oper} {rest : List Oper} {o : Oper} {Q : Exit → St → Prop} {E F : Env} {M : List Ob}
theorem nil_of {α : Type} {l : List α} (h : ∀ x, x ∉ l) : l = [] := List.eq_nil_iff_forall_not_mem.2 h
end
end Go.Proofs.Ytbnhmioijeagiaa.Ab
/- Chapter 24's reference: the best of an Alt: the walk. No condition. -/
set_option linter.unusedVariables false
set_option linter.unusedSimpArgs false
namespace Go.Proofs.Ytbnhmioijeagiaa.Ab
section
variable {P : Program} {T : List TI} {N : Nat} {ops : Array Oper} {o : Oper} {Q : Exit → St → Prop} {E F : Env} {M : List Ob}
end
attribute [local irreducible] thenA inBlockA ACode AOps put IntKind.wrap

end Go.Proofs.Ytbnhmioijeagiaa.Ab
/- Chapter 24's reference: every node that counts promises what under promises. No condition. -/
set_option linter.unusedVariables false
set_option linter.unusedSimpArgs false
namespace Go.Proofs.Ytbnhmioijeagiaa.Ab

theorem big_kid {f : Fo} {i : Nat} (h : WF f i) (hb : big f i ≤ 1000000) {k : Nat} (hk : Kid f i k) : big f k ≤ 1000000 := by
  have hbM : bigM = 1099511627776 := rfl
  have hbe := big_eq h
  unfold bigN at hbe
  have h2 : bigA (big f) 0 (altsOf f i) + 1 = big f i := by
    split at hbe
    · omega
    · exact hbe.symm
  obtain ⟨a, ha, hm⟩ := hk
  have h1 := (bigA_mem (g := big f) (altsOf f i) 0 a ha).1
  have h4 : ∀ k : Nat, (k : Int) ∈ a.kids → 1 ≤ big f k := fun k hm => (big_is (h.kid ⟨a, ha, hm⟩)).1
  have h3 := bigK_exact (g := big f) a.kids 0 h4 (by omega)
  have := wgt_mem (g := big f) a.kids h4 k hm
  omega
end Go.Proofs.Ytbnhmioijeagiaa.Ab
/- The reference's walk over a forest: which forests may be. No condition. -/
set_option linter.unusedVariables false
set_option linter.unusedSimpArgs false
namespace Go.Proofs.Ytbnhmioijeagiaa.Ab
attribute [local irreducible] thenA inBlockA ACode AOps put IntKind.wrap

abbrev wkR (f : Fo) (b bs : Nat) (bad : Bool) (st : List Int) (M : List Ob) : List Ob :=
  ⟨some b, 4, [.psl f.nodes.length (encs ndC f.nodes), .int .i64 f.root, .own (some bs) f.nodes.length f.nodes.length, .bool bad]⟩ :: ⟨some bs, f.nodes.length * 1, ints st⟩ :: M

theorem go1_bad {f : Fo} (b bs : Nat) (st : List Int) (i : Int) (M : List Ob) : ACalls Try.prog 76 [.ref b 0, .int .i64 i] (wkR f b bs true st M) (fun r M' => r = .tup [] ∧ M' = wkR f b bs true st M) := by
  refine acalls_of_code 88 Try.func76 rfl rfl rfl ?_
  repeat' (first | refine aops_end ?_ | refine aops_o rfl rfl rfl ?_ | refine aops_p tok rfl rfl rfl rfl ?_ | refine acode_it rfl ?_ | refine aops_ld tok 0 rfl rfl rfl rfl rfl rfl rfl rfl ?_ | refine acode_seq ?_ | refine acode_region ?_)
  refine acode_ret ?_
  repeat (refine ret_then ?_)
  exact ⟨_, ⟨rfl, rfl⟩, rfl⟩

set_option maxHeartbeats 4000000 in
theorem go1_calls {f : Fo} (hf : FoOk f) (hsm : ∀ i k, Kid f i k → k < f.nodes.length) (b bs : Nat) (M : List Ob) : ∀ (m : Nat) (st : List Int) (l : List Nat) (i : Nat), st.count 0 < m → Wk0 f st l → (∀ o : Nat, st[o]? = some 1 → Rch f o i) → i < f.nodes.length →
    ACalls Try.prog 76 [.ref b 0, .int .i64 i] (wkR f b bs false st M) (fun r M' => r = .tup [] ∧ ((WF f i ∧ ∃ st' l', M' = wkR f b bs false st' M ∧ Lp f st l st' l' ∧ i ∈ l') ∨ (¬ WF f i ∧ ∃ st', st'.length = f.nodes.length ∧ M' = wkR f b bs true st' M))) := by
  intro m
  induction m with
  | zero => intro st l i hm; omega
  | succ m ih =>
    intro st l i hm hw hopen hi
    obtain ⟨hf1, hf2⟩ := hf
    have hlt : i < st.length := by rw [hw.len]; exact hi
    obtain ⟨s, hs⟩ : ∃ s, st[i]? = some s := ⟨st[i], List.getElem?_eq_getElem hlt⟩
    have hsA : (ints st)[i * 1]? = some (A.int .i64 s) := by rw [Nat.mul_one]; exact ints_get hs
    refine acalls_of_code 88 Try.func76 rfl rfl rfl ?_
    repeat (first | refine aops_p tok rfl rfl rfl rfl ?_ | refine aops_ld tok 0 rfl rfl rfl rfl rfl rfl rfl rfl ?_ | refine acode_seq ?_ | refine acode_region ?_)
    refine aops_ixo tok rfl rfl rfl rfl (by omega) (by omega) rfl rfl rfl ?_
    refine aops_ld tok 1 (y := .int .i64 s) rfl rfl rfl rfl (by rw [headed_eq]; exact hsA) rfl rfl rfl ?_
    repeat' (first | refine aops_end ?_ | (refine aops_pd tok rfl rfl rfl rfl ?_ ?_ <;> intro e_) | refine aops_p tok rfl rfl rfl rfl ?_ | refine acode_it rfl ?_ | refine acode_if rfl ?_ | refine aops_ld tok 0 rfl rfl rfl rfl rfl rfl rfl rfl ?_ | refine acode_seq ?_ | refine acode_region ?_ | refine acode_skip ?_ | refine then_n ?_)
    · subst e_
      refine acode_ret ?_
      repeat (refine ret_then ?_)
      have hmem := (hw.don i).1 hs
      exact ⟨.tup [], ⟨rfl, .inl ⟨hw.topo.wf i hmem, st, l, rfl, ⟨hw, fun _ => Iff.rfl, fun _ h => h, Nat.le_refl _⟩, hmem⟩⟩, rfl⟩
    · have hne := e_
      refine aops_ixo tok rfl rfl rfl rfl (by omega) (by omega) rfl rfl rfl ?_
      refine aops_ld tok 1 (y := .int .i64 s) rfl rfl rfl rfl (by rw [headed_eq]; exact hsA) rfl rfl rfl ?_
      repeat' (first | refine aops_end ?_ | (refine aops_pd tok rfl rfl rfl rfl ?_ ?_ <;> intro e_) | refine aops_p tok rfl rfl rfl rfl ?_ | refine acode_it rfl ?_ | refine acode_if rfl ?_ | refine aops_ld tok 0 rfl rfl rfl rfl rfl rfl rfl rfl ?_ | refine aops_stn tok rfl rfl rfl rfl rfl rfl rfl rfl rfl ?_ | refine acode_seq ?_ | refine acode_region ?_ | refine acode_skip ?_ | refine then_n ?_)
      · subst e_
        refine acode_ret ?_
        repeat (refine ret_then ?_)
        exact ⟨.tup [], ⟨rfl, .inr ⟨fun hwf => hwf.noring (hopen i hs), st, hw.len, rfl⟩⟩, rfl⟩
      · have h0 : s = 0 := by rcases hw.val i s hs with h | h | h; exact h; exact absurd h e_; exact absurd h hne
        subst h0
        obtain ⟨hw1, hc1, hone1⟩ := wk_open hw hi hs
        obtain ⟨nd, hnd, hndm, hal⟩ := nodes_at hi
        obtain ⟨hal1, hal2⟩ := hf2 nd hndm
        refine aops_ixo tok rfl rfl rfl rfl (by omega) (by omega) rfl rfl rfl ?_
        refine aops_stk tok 1 (ints (st.set i 1)) (wkR f b bs false (st.set i 1) M) rfl rfl rfl rfl rfl rfl (by rw [ints_len]; show i * 1 + 1 ≤ _; omega) (ints_set1 hlt 1) rfl rfl rfl ?_
        have hL0 : Lp f (st.set i 1) l (st.set i 1) l := ⟨hw1, fun _ => Iff.rfl, fun _ h => h, Nat.le_refl _⟩
        generalize st.set i 1 = st1 at *
        repeat (first | refine aops_end ?_ | refine aops_p tok rfl rfl rfl rfl ?_ | refine aops_ld tok 0 rfl rfl rfl rfl rfl rfl rfl rfl ?_ | refine acode_seq ?_ | refine acode_region ?_)
        refine aops_ix tok (ndC nd) rfl rfl rfl rfl (by omega) (by omega) (by simp [ndC]) (nd_at hnd) rfl rfl rfl ?_
        repeat (first | refine aops_end ?_ | refine aops_p tok rfl rfl rfl rfl ?_ | refine acode_seq ?_ | refine acode_region ?_ | refine acode_block ?_)
        refine acode_loopS (ι := Nat × List Int × List Nat × Bool) (fun p => [(0, .ref b 0), (1, .int .i64 i), (4, .psl nd.alts.length (encs alC nd.alts)), (5, .int .i64 p.1)]) (fun p => wkR f b bs p.2.2.2 p.2.1 M) (fun p => nd.alts.length - p.1) (fun p => p.1 ≤ nd.alts.length ∧ (p.2.2.2 = false → Lp f st1 l p.2.1 p.2.2.1 ∧ Ahead f p.2.2.1 (nd.alts.take p.1)) ∧ (p.2.2.2 = true → ¬ WF f i ∧ p.2.1.length = f.nodes.length)) (0, st1, l, false) ⟨Nat.zero_le _, fun _ => ⟨hL0, by simp [Ahead]⟩, fun h => by cases h⟩ ⟨rfl, rfl, rfl, rfl, trivial⟩ rfl ?_
        rintro ⟨ai, st2, l2, bad2⟩ ⟨hai, hG2, hB2⟩
        simp only at hai hG2 hB2 ⊢
        repeat (first | refine aops_end ?_ | refine aops_p tok rfl rfl rfl rfl ?_ | refine acode_seq ?_ | refine acode_region ?_)
        refine acode_id rfl (fun e => ?_) (fun e => ?_)
        · have hail : ai < nd.alts.length := by omega
          obtain ⟨a, ha⟩ : ∃ a, nd.alts[ai]? = some a := ⟨nd.alts[ai], List.getElem?_eq_getElem hail⟩
          have ham := List.mem_of_getElem? ha
          have hkl := hal2 a ham
          repeat (first | refine aops_end ?_ | refine aops_p tok rfl rfl rfl rfl ?_ | refine acode_seq ?_ | refine acode_region ?_ | refine acode_block ?_ | refine acode_skip ?_ | refine then_n ?_)
          refine acode_loopS (ι := Nat × List Int × List Nat × Bool) (fun p => [(0, .ref b 0), (1, .int .i64 i), (4, .psl nd.alts.length (encs alC nd.alts)), (5, .int .i64 ai), (6, .int .i64 p.1)]) (fun p => wkR f b bs p.2.2.2 p.2.1 M) (fun p => a.kids.length - p.1) (fun p => p.1 ≤ a.kids.length ∧ (p.2.2.2 = false → Lp f st1 l p.2.1 p.2.2.1 ∧ Ahead f p.2.2.1 (nd.alts.take ai) ∧ ∀ k ∈ a.kids.take p.1, Dn f p.2.2.1 k) ∧ (p.2.2.2 = true → ¬ WF f i ∧ p.2.1.length = f.nodes.length)) (0, st2, l2, bad2) ⟨Nat.zero_le _, fun h => ⟨(hG2 h).1, (hG2 h).2, by simp⟩, hB2⟩ ⟨rfl, rfl, rfl, rfl, rfl, trivial⟩ rfl ?_
          clear hG2 hB2 st2 l2 bad2
          rintro ⟨ki, st2, l2, bad2⟩ ⟨hki, hG2, hB2⟩
          simp only at hki hG2 hB2 ⊢
          repeat (first | refine aops_p tok rfl rfl rfl rfl ?_ | refine acode_seq ?_ | refine acode_region ?_)
          refine aops_ix tok (alC a) rfl rfl rfl rfl (by omega) (by omega) (by simp [alC]) (al_at ha) rfl rfl rfl ?_
          repeat (first | refine aops_end ?_ | refine aops_p tok rfl rfl rfl rfl ?_)
          refine acode_id rfl (fun e2 => ?_) (fun e2 => ?_)
          · have hkil : ki < a.kids.length := by omega
            obtain ⟨k, hk⟩ : ∃ k, a.kids[ki]? = some k := ⟨a.kids[ki], List.getElem?_eq_getElem hkil⟩
            have hkid : Kid f i k := ⟨a, by rw [hal]; exact ham, List.mem_of_getElem? hk⟩
            have hkn := hsm i k hkid
            repeat (first | refine aops_p tok rfl rfl rfl rfl ?_ | refine acode_seq ?_ | refine acode_region ?_ | refine acode_block ?_ | refine acode_skip ?_ | refine then_n ?_)
            refine aops_ix tok (alC a) rfl rfl rfl rfl (by omega) (by omega) (by simp [alC]) (al_at ha) rfl rfl rfl ?_
            repeat (refine aops_p tok rfl rfl rfl rfl ?_)
            refine aops_ix tok [A.int .i64 k] rfl rfl rfl rfl (by omega) (by omega) (by simp) (ints_at (j := ki) (by simpa using hk)) rfl rfl rfl ?_
            repeat' (first | refine aops_end ?_ | refine aops_a tok rfl (by omega) (by omega) rfl rfl rfl ?_ | (refine aops_pd tok rfl rfl rfl rfl ?_ ?_ <;> intro e_) | refine aops_p tok rfl rfl rfl rfl ?_ | refine acode_it rfl ?_ | refine acode_if rfl ?_ | refine acode_region ?_ | refine acode_skip ?_ | refine then_n ?_ | refine block_n ?_)
            · refine aops_ix tok (alC a) rfl rfl rfl rfl (by omega) (by omega) (by simp [alC]) (al_at ha) rfl rfl rfl ?_
              repeat (refine aops_p tok rfl rfl rfl rfl ?_)
              refine aops_ix tok [A.int .i64 k] rfl rfl rfl rfl (by omega) (by omega) (by simp) (ints_at (j := ki) (by simpa using hk)) rfl rfl rfl ?_
              repeat (refine aops_p tok rfl rfl rfl rfl ?_)
              obtain ⟨k', rfl⟩ : ∃ k' : Nat, k = k' := ⟨k.toNat, by omega⟩
              cases bad2 with
              | true =>
                refine aops_call Try.func76 rfl rfl rfl rfl (go1_bad b bs st2 k' M) rfl rfl ?_
                rintro x M' ⟨rfl, rfl⟩
                repeat (first | refine aops_put rfl ?_ | refine aops_end ?_ | refine aops_endb ?_ | refine aops_a tok rfl (by omega) (by omega) rfl rfl rfl ?_ | refine aops_p tok rfl rfl rfl rfl ?_ | refine acode_region ?_ | refine then_n ?_)
                exact ⟨(ki + 1, st2, l2, true), ⟨by simp; omega, (fun h => by cases h), hB2⟩, by simp; omega, ⟨rfl, rfl, rfl, rfl, rfl, trivial⟩, rfl⟩
              | false =>
                obtain ⟨hL2, hA2, hK2⟩ := hG2 rfl
                refine aops_call Try.func76 rfl rfl rfl rfl (ih st2 l2 k' (by have := hL2.cnt; omega) hL2.w (fun o ho => ?_) (by omega)) rfl rfl ?_
                · rcases (hone1 o).1 ((hL2.one o).1 ho) with rfl | h
                  · exact .one hkid
                  · exact (hopen o h).snoc hkid
                · rintro x M' ⟨rfl, ⟨hwf, st3, l3, rfl, hL3, hm3⟩ | ⟨hwf, st3, hl3, rfl⟩⟩
                  · repeat (first | refine aops_put rfl ?_ | refine aops_end ?_ | refine aops_endb ?_ | refine aops_a tok rfl (by omega) (by omega) rfl rfl rfl ?_ | refine aops_p tok rfl rfl rfl rfl ?_ | refine acode_region ?_ | refine then_n ?_)
                    refine ⟨(ki + 1, st3, l3, false), ⟨by simp; omega, fun _ => ⟨hL2.trans hL3, hA2.mono hL3.sub, fun k hkm => ?_⟩, fun h => by cases h⟩, by simp; omega, ⟨rfl, rfl, rfl, rfl, rfl, trivial⟩, rfl⟩
                    rcases take_add_mem hk hkm with hkm | rfl
                    · exact (hK2 k hkm).mono hL3.sub
                    · exact ⟨hkn, fun k2 e => by rw [← Int.ofNat_inj.1 e]; exact hm3⟩
                  · repeat (first | refine aops_put rfl ?_ | refine aops_end ?_ | refine aops_endb ?_ | refine aops_a tok rfl (by omega) (by omega) rfl rfl rfl ?_ | refine aops_p tok rfl rfl rfl rfl ?_ | refine acode_region ?_ | refine then_n ?_)
                    exact ⟨(ki + 1, st3, l2, true), ⟨by simp; omega, (fun h => by cases h), fun _ => ⟨fun h => hwf (h.kid hkid), hl3⟩⟩, by simp; omega, ⟨rfl, rfl, rfl, rfl, rfl, trivial⟩, rfl⟩
            · refine ⟨(ki + 1, st2, l2, bad2), ⟨by simp; omega, fun h => ⟨(hG2 h).1, (hG2 h).2.1, fun k2 hkm => ?_⟩, hB2⟩, by simp; omega, ⟨rfl, rfl, rfl, rfl, rfl, trivial⟩, rfl⟩
              rcases take_add_mem hk hkm with hkm | rfl
              · exact (hG2 h).2.2 k2 hkm
              · exact ⟨hkn, fun k3 e => by omega⟩
          · have hge : ki = a.kids.length := by omega
            subst hge
            rw [List.take_length] at hG2
            refine acode_exit ?_
            repeat (first | refine exit_then ?_ | refine exit_here ?_ | refine then_n ?_ | refine block_n ?_)
            repeat (first | refine aops_end ?_ | refine aops_a tok rfl (by omega) (by omega) rfl rfl rfl ?_ | refine aops_p tok rfl rfl rfl rfl ?_ | refine acode_region ?_)
            exact ⟨(ai + 1, st2, l2, bad2), ⟨by simp; omega, fun h => ⟨(hG2 h).1, (hG2 h).2.1.add ha (hG2 h).2.2⟩, hB2⟩, by simp; omega, ⟨rfl, rfl, rfl, rfl, trivial⟩, rfl⟩
        · have hge : ai = nd.alts.length := by omega
          subst hge
          rw [List.take_length, ← hal] at hG2
          have hl2 : st2.length = f.nodes.length := by
            cases bad2 with
            | true => exact (hB2 rfl).2
            | false => exact (hG2 rfl).1.w.len
          have hlt2 : i < st2.length := by rw [hl2]; exact hi
          refine acode_exit ?_
          repeat (first | refine exit_then ?_ | refine exit_here ?_ | refine then_n ?_)
          repeat (first | refine aops_p tok rfl rfl rfl rfl ?_ | refine aops_ld tok 0 rfl rfl rfl rfl rfl rfl rfl rfl ?_ | refine acode_region ?_)
          refine aops_ixo tok rfl rfl rfl rfl (by omega) (by omega) rfl rfl rfl ?_
          refine aops_stk tok 1 (ints (st2.set i 2)) (wkR f b bs bad2 (st2.set i 2) M) rfl rfl rfl rfl rfl rfl (by rw [ints_len]; show i * 1 + 1 ≤ _; omega) (ints_set1 hlt2 2) rfl rfl rfl ?_
          refine aops_nil ?_
          cases bad2 with
          | true => exact ⟨.tup [], ⟨rfl, .inr ⟨(hB2 rfl).1, _, by simp [hl2], rfl⟩⟩, rfl⟩
          | false =>
            have hfin := wk_close hi hs hone1 hc1 (hG2 rfl).1 (hG2 rfl).2
            exact ⟨.tup [], ⟨rfl, .inl ⟨hfin.w.topo.wf i (by simp), _, _, rfl, hfin, by simp⟩⟩, rfl⟩

set_option maxHeartbeats 4000000 in
theorem rfform_calls {f : Fo} (hf : FoOk f) (M : List Ob) : ACalls Try.prog 43 [foA f] M (fun r M' => (FForm f ∧ r = .bool true ∨ ¬ FForm f ∧ r = .bool false) ∧ M' = M) := by
  obtain ⟨hf1, hf2⟩ := id hf
  refine acalls_of_code 83 Try.func43 rfl rfl rfl ?_
  repeat (first | refine acode_seq ?_ | refine acode_region ?_)
  refine aops_boxf rfl rfl rfl rfl rfl rfl rfl ?_
  repeat' (first | refine aops_end ?_ | refine aops_o rfl rfl rfl ?_ | (refine aops_pd tok rfl rfl rfl rfl ?_ ?_ <;> intro e_) | refine aops_p tok rfl rfl rfl rfl ?_ | refine acode_it rfl ?_ | refine acode_if rfl ?_ | refine acode_seq ?_ | refine acode_region ?_ | refine acode_block ?_ | refine acode_skip ?_ | refine then_n ?_)
  · refine acode_ret ?_
    repeat (refine ret_then ?_)
    exact ⟨_, ⟨.inr ⟨fun h => by have := h.1; omega, rfl⟩, rfl⟩, resOf_tmp rfl⟩
  · refine acode_ret ?_
    repeat (refine ret_then ?_)
    exact ⟨_, ⟨.inr ⟨fun h => by have := h.1; omega, rfl⟩, rfl⟩, resOf_tmp rfl⟩
  have h0 : 0 ≤ f.root ∧ f.root < f.nodes.length := by omega
  refine acode_loopS (ι := Nat) (fun p => [(1, .pp (foC f)), (3, .int .i64 p)]) (fun _ => M) (fun p => f.nodes.length - p) (fun p => p ≤ f.nodes.length ∧ ∀ i, i < p → ∀ k, Kid f i k → k < f.nodes.length) 0 ⟨Nat.zero_le _, fun i hi => by omega⟩ ⟨rfl, rfl, trivial⟩ rfl ?_
  rintro i ⟨hi, hsm⟩
  repeat (first | refine aops_end ?_ | refine aops_p tok rfl rfl rfl rfl ?_ | refine acode_seq ?_ | refine acode_region ?_)
  refine acode_id rfl (fun e => ?_) (fun e => ?_)
  · have hil : i < f.nodes.length := by omega
    obtain ⟨nd, hnd, hndm, hal⟩ := nodes_at hil
    obtain ⟨hal1, hal2⟩ := hf2 nd hndm
    repeat (first | refine aops_p tok rfl rfl rfl rfl ?_ | refine acode_seq ?_ | refine acode_region ?_ | refine acode_block ?_ | refine acode_skip ?_ | refine then_n ?_)
    refine aops_ix tok (ndC nd) rfl rfl rfl rfl (by omega) (by omega) (by simp [ndC]) (nd_at hnd) rfl rfl rfl ?_
    repeat (first | refine aops_end ?_ | refine aops_p tok rfl rfl rfl rfl ?_ | refine acode_seq ?_ | refine acode_region ?_ | refine acode_block ?_)
    refine acode_loopS (ι := Nat) (fun p => [(1, .pp (foC f)), (3, .int .i64 i), (4, .psl nd.alts.length (encs alC nd.alts)), (5, .int .i64 p)]) (fun _ => M) (fun p => nd.alts.length - p) (fun p => p ≤ nd.alts.length ∧ ∀ a ∈ nd.alts.take p, ∀ k ∈ a.kids, k < f.nodes.length) 0 ⟨Nat.zero_le _, by simp⟩ ⟨rfl, rfl, rfl, rfl, trivial⟩ rfl ?_
    rintro ai ⟨hai, hA⟩
    repeat (first | refine aops_end ?_ | refine aops_p tok rfl rfl rfl rfl ?_ | refine acode_seq ?_ | refine acode_region ?_)
    refine acode_id rfl (fun e2 => ?_) (fun e2 => ?_)
    · have hail : ai < nd.alts.length := by omega
      obtain ⟨a, ha⟩ : ∃ a, nd.alts[ai]? = some a := ⟨nd.alts[ai], List.getElem?_eq_getElem hail⟩
      have ham := List.mem_of_getElem? ha
      have hkl := hal2 a ham
      repeat (first | refine aops_end ?_ | refine aops_p tok rfl rfl rfl rfl ?_ | refine acode_seq ?_ | refine acode_region ?_ | refine acode_block ?_ | refine acode_skip ?_ | refine then_n ?_)
      refine acode_loopS (ι := Nat) (fun p => [(1, .pp (foC f)), (3, .int .i64 i), (4, .psl nd.alts.length (encs alC nd.alts)), (5, .int .i64 ai), (6, .int .i64 p)]) (fun _ => M) (fun p => a.kids.length - p) (fun p => p ≤ a.kids.length ∧ ∀ k ∈ a.kids.take p, k < f.nodes.length) 0 ⟨Nat.zero_le _, by simp⟩ ⟨rfl, rfl, rfl, rfl, rfl, trivial⟩ rfl ?_
      rintro ki ⟨hki, hK⟩
      repeat (first | refine aops_p tok rfl rfl rfl rfl ?_ | refine acode_seq ?_ | refine acode_region ?_)
      refine aops_ix tok (alC a) rfl rfl rfl rfl (by omega) (by omega) (by simp [alC]) (al_at ha) rfl rfl rfl ?_
      repeat (first | refine aops_end ?_ | refine aops_p tok rfl rfl rfl rfl ?_)
      refine acode_id rfl (fun e3 => ?_) (fun e3 => ?_)
      · have hkil : ki < a.kids.length := by omega
        obtain ⟨k, hk⟩ : ∃ k, a.kids[ki]? = some k := ⟨a.kids[ki], List.getElem?_eq_getElem hkil⟩
        have hkid : Kid f i k := ⟨a, by rw [hal]; exact ham, List.mem_of_getElem? hk⟩
        repeat (first | refine acode_seq ?_ | refine acode_block ?_ | refine acode_skip ?_ | refine then_n ?_)
        refine acode_drawT 12 mixed (by kernel_rfl) (by kernel_rfl) ?_
        repeat (refine seqT_p tok rfl rfl rfl rfl ?_)
        refine seqT_ix tok (alC a) rfl rfl rfl rfl (by omega) (by omega) (by simp [alC]) (al_at ha) rfl rfl rfl ?_
        repeat (refine seqT_p tok rfl rfl rfl rfl ?_)
        refine seqT_ix tok [A.int .i64 k] rfl rfl rfl rfl (by omega) (by omega) (by simp) (ints_at (j := ki) (by simpa using hk)) rfl rfl rfl ?_
        repeat (refine seqT_p tok rfl rfl rfl rfl ?_)
        refine SeqT.done ?_
        repeat (refine aops_end ?_)
        refine acode_id rfl (fun e4 => ?_) (fun e4 => ?_)
        · repeat (first | refine aops_end ?_ | refine aops_p tok rfl rfl rfl rfl ?_ | refine acode_seq ?_ | refine acode_region ?_)
          refine acode_ret ?_
          repeat (first | refine ret_then ?_ | refine ret_block ?_)
          exact ⟨_, ⟨.inr ⟨fun h => by have := (h.2 i hil).small hkid; omega, rfl⟩, rfl⟩, resOf_tmp rfl⟩
        · repeat (first | refine aops_end ?_ | refine aops_a tok rfl (by omega) (by omega) rfl rfl rfl ?_ | refine aops_p tok rfl rfl rfl rfl ?_ | refine acode_region ?_ | refine acode_skip ?_ | refine then_n ?_ | refine block_n ?_)
          refine ⟨ki + 1, ⟨by omega, fun k2 hkm => ?_⟩, by omega, ⟨rfl, rfl, rfl, rfl, rfl, trivial⟩, rfl⟩
          rcases take_add_mem hk hkm with hkm | rfl
          · exact hK k2 hkm
          · omega
      · have hge : ki = a.kids.length := by omega
        subst hge
        rw [List.take_length] at hK
        refine acode_exit ?_
        repeat (first | refine exit_then ?_ | refine exit_here ?_ | refine then_n ?_ | refine block_n ?_)
        repeat (first | refine aops_end ?_ | refine aops_a tok rfl (by omega) (by omega) rfl rfl rfl ?_ | refine aops_p tok rfl rfl rfl rfl ?_ | refine acode_region ?_)
        refine ⟨ai + 1, ⟨by omega, fun a2 ham2 => ?_⟩, by omega, ⟨rfl, rfl, rfl, rfl, trivial⟩, rfl⟩
        rcases take_add_mem ha ham2 with ham2 | rfl
        · exact hA a2 ham2
        · exact hK
    · have hge : ai = nd.alts.length := by omega
      subst hge
      rw [List.take_length, ← hal] at hA
      refine acode_exit ?_
      repeat (first | refine exit_then ?_ | refine exit_here ?_ | refine then_n ?_ | refine block_n ?_)
      repeat (first | refine aops_end ?_ | refine aops_a tok rfl (by omega) (by omega) rfl rfl rfl ?_ | refine aops_p tok rfl rfl rfl rfl ?_ | refine acode_region ?_)
      refine ⟨i + 1, ⟨by omega, fun j hj k hkid => ?_⟩, by omega, ⟨rfl, rfl, trivial⟩, rfl⟩
      by_cases h : j = i
      · subst h
        obtain ⟨a, ha, hk⟩ := hkid
        exact hA a ha k hk
      · exact hsm j (by omega) k hkid
  · have hge : i = f.nodes.length := by omega
    subst hge
    have hsm' : ∀ i k, Kid f i k → k < f.nodes.length := by
      intro i k hk
      by_cases h : i < f.nodes.length
      · exact hsm i h k hk
      · obtain ⟨a, ha, _⟩ := hk
        rw [altsOf, List.getElem?_eq_none (by omega)] at ha
        simp at ha
    refine acode_exit ?_
    repeat (first | refine exit_then ?_ | refine exit_here ?_ | refine then_n ?_)
    repeat (refine acode_seq ?_)
    refine acode_drawP [] 7 [0, 1, 2, 3, 4, 5, 6] [4, 6] mixed (by kernel_rfl) (by kernel_rfl) rfl ?_
    repeat (refine seqO_p tok rfl rfl rfl rfl rfl ?_)
    refine seqO_mk tok f.nodes.length rfl rfl rfl rfl rfl rfl rfl (by show _ * 8 ≤ _; omega) (by omega) (by simp) rfl rfl rfl fun bs => ?_
    repeat (refine seqO_p tok rfl rfl rfl rfl rfl ?_)
    refine seqO_boxo rfl rfl rfl rfl (by simp) rfl rfl rfl rfl fun b => ?_
    refine SeqO.done ?_
    repeat (refine aops_p tok rfl rfl rfl rfl ?_)
    refine aops_end ?_
    refine acode_M (M' := wkR f b bs false (List.replicate f.nodes.length 0) M) (by simp only [wkR]; rw [← ints_zeros]; rfl) ?_
    have hw0 := wk0_init f
    have hno : ∀ o : Nat, (List.replicate f.nodes.length (0 : Int))[o]? ≠ some 1 := fun o h => by have := count_zeros _ _ _ h; omega
    generalize List.replicate f.nodes.length (0 : Int) = st at *
    repeat (first | refine aops_end ?_ | refine aops_p tok rfl rfl rfl rfl ?_ | refine acode_seq ?_ | refine acode_region ?_ | refine acode_block ?_)
    refine acode_loopS (ι := Nat × List Int × List Nat × Bool) (fun p => [(1, .pp (foC f)), (7, .ref b 0), (8, .int .i64 p.1)]) (fun p => wkR f b bs p.2.2.2 p.2.1 M) (fun p => f.nodes.length - p.1) (fun p => p.1 ≤ f.nodes.length ∧ (p.2.2.2 = false → Wk0 f p.2.1 p.2.2.1 ∧ (∀ o : Nat, p.2.1[o]? ≠ some 1) ∧ ∀ j, j < p.1 → j ∈ p.2.2.1) ∧ (p.2.2.2 = true → ¬ FForm f)) (0, st, [], false) ⟨Nat.zero_le _, fun _ => ⟨hw0, hno, fun j hj => by simp at hj⟩, fun h => by cases h⟩ ⟨rfl, rfl, rfl, trivial⟩ rfl ?_
    rintro ⟨i, st1, l, bad⟩ ⟨hi, hG, hB⟩
    simp only at hi hG hB ⊢
    repeat (first | refine aops_end ?_ | refine aops_p tok rfl rfl rfl rfl ?_ | refine acode_seq ?_ | refine acode_region ?_)
    refine acode_id rfl (fun e => ?_) (fun e => ?_)
    · have hil : i < f.nodes.length := by omega
      repeat (first | refine aops_p tok rfl rfl rfl rfl ?_ | refine acode_seq ?_ | refine acode_region ?_ | refine acode_block ?_ | refine acode_skip ?_ | refine then_n ?_)
      cases bad with
      | true =>
        refine aops_call Try.func76 rfl rfl rfl rfl (go1_bad b bs st1 i M) rfl rfl ?_
        rintro x M' ⟨rfl, rfl⟩
        repeat (first | refine aops_put rfl ?_ | refine aops_end ?_ | refine aops_endb ?_ | refine aops_a tok rfl (by omega) (by omega) rfl rfl rfl ?_ | refine aops_p tok rfl rfl rfl rfl ?_ | refine acode_region ?_ | refine then_n ?_)
        exact ⟨(i + 1, st1, l, true), ⟨by simp; omega, (fun h => by cases h), hB⟩, by simp; omega, ⟨rfl, rfl, rfl, trivial⟩, rfl⟩
      | false =>
        obtain ⟨hw, hone, hdone⟩ := hG rfl
        refine aops_call Try.func76 rfl rfl rfl rfl (go1_calls hf hsm' b bs M (st1.count 0 + 1) st1 l i (by omega) hw (fun o h => absurd h (hone o)) hil) rfl rfl ?_
        rintro x M' ⟨rfl, ⟨hwf, st3, l3, rfl, hL, hm⟩ | ⟨hwf, st3, hl3, rfl⟩⟩
        · repeat (first | refine aops_put rfl ?_ | refine aops_end ?_ | refine aops_endb ?_ | refine aops_a tok rfl (by omega) (by omega) rfl rfl rfl ?_ | refine aops_p tok rfl rfl rfl rfl ?_ | refine acode_region ?_ | refine then_n ?_)
          refine ⟨(i + 1, st3, l3, false), ⟨by simp; omega, fun _ => ⟨hL.w, fun o h => hone o ((hL.one o).1 h), fun j hj => ?_⟩, fun h => by cases h⟩, by simp; omega, ⟨rfl, rfl, rfl, trivial⟩, rfl⟩
          by_cases h : j = i
          · subst h; exact hm
          · exact hL.sub j (hdone j (by simp at hj; omega))
        · repeat (first | refine aops_put rfl ?_ | refine aops_end ?_ | refine aops_endb ?_ | refine aops_a tok rfl (by omega) (by omega) rfl rfl rfl ?_ | refine aops_p tok rfl rfl rfl rfl ?_ | refine acode_region ?_ | refine then_n ?_)
          exact ⟨(i + 1, st3, l, true), ⟨by simp; omega, (fun h => by cases h), fun _ h => hwf (h.2 i hil)⟩, by simp; omega, ⟨rfl, rfl, rfl, trivial⟩, rfl⟩
    · have hge : i = f.nodes.length := by omega
      subst hge
      refine acode_exit ?_
      repeat (first | refine exit_then ?_ | refine exit_here ?_ | refine then_n ?_)
      repeat (first | refine aops_end ?_ | refine aops_p tok rfl rfl rfl rfl ?_ | refine aops_ld tok 0 rfl rfl rfl rfl rfl rfl rfl rfl ?_ | refine acode_seq ?_ | refine acode_region ?_)
      refine acode_drop0 (acode_drop0 (acode_ret ?_))
      skip
      cases bad with
      | true => exact ⟨_, ⟨.inr ⟨hB rfl, rfl⟩, rfl⟩, resOf_tmp rfl⟩
      | false => exact ⟨_, ⟨.inl ⟨⟨h0, fun i hi => (hG rfl).1.topo.wf i ((hG rfl).2.2 i hi)⟩, rfl⟩, rfl⟩, resOf_tmp rfl⟩
end Go.Proofs.Ytbnhmioijeagiaa.Ab
/- Chapter 24's reference: what fits: the walk. No condition. -/
set_option linter.unusedVariables false
set_option linter.unusedSimpArgs false
namespace Go.Proofs.Ytbnhmioijeagiaa.Ab
attribute [local irreducible] thenA inBlockA ACode AOps put IntKind.wrap

theorem rulesF_some {g : Gr} : ∀ (rs : List Ru) (i : Nat) (p : Int × Int), rulesF g i rs = some p → p.2 ≠ 0
  | [], _, _, h => by cases h
  | r :: rs, i, p, h => by
    rw [rulesF] at h
    split at h
    · rename_i h1; cases h; exact h1
    · exact rulesF_some rs _ p h
theorem rulesF_none {g : Gr} : ∀ (rs : List Ru) (i : Nat), rulesF g i rs = none → ∀ r ∈ rs, ruleF g r = 0
  | [], _, _ => by simp
  | r :: rs, i, h => by
    rw [rulesF] at h
    split at h
    · cases h
    · rename_i h1
      intro r' hr'
      rcases List.mem_cons.1 hr' with rfl | h2
      · exact Decidable.not_not.1 h1
      · exact rulesF_none rs _ h r' h2
theorem form_ok2 {g : Gr} (h : (formF g).2 = 0) : ¬ bigB g ∧ ∀ r ∈ g.rules, isName g r.left ∧ r.right.length ≤ 8 ∧ (∀ s ∈ r.right, isSym g s) ∧ -1000 ≤ r.dyn ∧ r.dyn ≤ 1000 := by
  unfold formF at h
  split at h
  · rename_i h1; exact absurd h h1
  · rename_i h1
    have hw : wholeF g = 0 := Decidable.not_not.1 h1
    unfold wholeF at hw
    split at hw
    · cases hw
    · rename_i h2
      split at hw
      · cases hw
      · rename_i h3
        refine ⟨h2, ?_⟩
        split at h
        · rename_i p hp; exact absurd h (rulesF_some _ _ p hp)
        · rename_i hp
          intro r hr
          have h4 := rulesF_none _ _ hp r hr
          unfold ruleF at h4
          split at h4
          · cases h4
          · rename_i h5
            split at h4
            · cases h4
            · rename_i h6
              split at h4
              · cases h4
              · rename_i h7
                refine ⟨Decidable.not_not.1 (fun h7 => h5 (.inl h7)), by omega, fun s hs => ?_, by omega, by omega⟩
                apply Decidable.not_not.1
                intro h8
                exact h5 (.inr (List.any_eq_true.2 ⟨s, hs, by simp [h8]⟩))
theorem dyn_ok {g : Gr} (h : (formF g).2 = 0) (r : Int) : -1000000 ≤ dynF g r ∧ dynF g r ≤ 1000000 := by
  unfold dynF
  split
  · rename_i h1
    have hm : ruleAt g r ∈ g.rules := List.mem_of_getElem? (ruleAt_at h1.1 h1.2)
    have := (form_ok2 h).2 _ hm
    omega
  · omega
end Go.Proofs.Ytbnhmioijeagiaa.Ab
/- Chapter 24's reference: Fits: the walk. No condition. -/
set_option linter.unusedVariables false
set_option linter.unusedSimpArgs false
namespace Go.Proofs.Ytbnhmioijeagiaa.Ab
attribute [local irreducible] thenA inBlockA ACode AOps put IntKind.wrap

def FitsP (g : Gr) (f : Fo) : Prop := (formF g).2 = 0 ∧ FForm f ∧ wholeB g f = true
def nodeB (g : Gr) (f : Fo) (n : Nd) : Bool := n.alts.all fun a => ofB g f n.sym a
theorem whole_all {g : Gr} {f : Fo} : wholeB g f = f.nodes.all (nodeB g f) := by
  unfold wholeB nodeB
  rw [List.not_any_eq_all_not]
  congr 1
  funext n
  rw [List.not_any_eq_all_not]
  congr 1
  funext a
  simp
end Go.Proofs.Ytbnhmioijeagiaa.Ab
/- Chapter 24's reference: Best: the walk. No condition. -/
set_option linter.unusedVariables false
set_option linter.unusedSimpArgs false
namespace Go.Proofs.Ytbnhmioijeagiaa.Ab
attribute [local irreducible] thenA inBlockA ACode AOps put IntKind.wrap

end Go.Proofs.Ytbnhmioijeagiaa.Ab
/- Chapter 24's law: alive. No condition. -/
set_option linter.unusedVariables false
set_option linter.unusedSimpArgs false
namespace Go.Proofs.Ytbnhmioijeagiaa.Ab
attribute [local irreducible] thenA inBlockA ACode AOps put IntKind.wrap

theorem num24_calls {n : Int} (M : List Ob) : ACalls Try.prog 20 [.int .i64 n] M (fun r M' => r = .int .i64 n ∧ M' = M) := by
  refine acalls_of_code 4 Try.func20 rfl rfl rfl ?_
  repeat (first | refine aops_end ?_ | refine aops_p tok rfl rfl rfl rfl ?_ | refine acode_seq ?_ | refine acode_region ?_)
  refine acode_ret ?_
  skip
  exact ⟨_, ⟨rfl, rfl⟩, resOf_tmp rfl⟩
def gA2 : Gr := ⟨1, 0, 0, [⟨0, [], 1⟩, ⟨0, [], 5⟩], [], [], []⟩
def fA2 : Fo := ⟨[⟨0, 0, 0, [⟨0, []⟩, ⟨1, []⟩]⟩], 0⟩
theorem fA2_kid {i : Nat} {k : Int} : ¬ Kid fA2 i k := by
  rintro ⟨a, ha, hk⟩
  by_cases hi : i = 0
  · subst hi
    have ha : a ∈ [(⟨0, []⟩ : Al), ⟨1, []⟩] := ha
    simp only [List.mem_cons, List.not_mem_nil, or_false] at ha
    rcases ha with rfl | rfl <;> cases hk
  · unfold altsOf at ha
    rw [List.getElem?_eq_none (by show 1 ≤ i; omega)] at ha
    cases ha
theorem fA2_wf : WF fA2 0 := .mk (by decide) (fun k hk => absurd hk fA2_kid) (fun k hk => absurd hk fA2_kid)
theorem fA2_form : FForm fA2 := ⟨by decide, fun i hi => by
  have : i = 0 := by have : i < 1 := hi; omega
  subst this; exact fA2_wf⟩
theorem fA2_pk : pkT gA2 fA2 0 = [.nd ⟨0, []⟩ 1 [], .nd ⟨1, []⟩ 5 []] := by
  rw [pkT_eq fA2_wf]; rfl
theorem fA2_best : bestR gA2 fA2 = .tup [trA (.mk 1 0 []), .int .i64 0] := by
  unfold bestR
  rw [show fA2.root.toNat = 0 from rfl, fA2_pk]
  rfl
theorem gA2_ok : GrOk gA2 := by
  refine ⟨by decide, by decide, by decide, by decide, ?_⟩
  show ∀ r ∈ gA2.rules, r.right.length ≤ 9223372036854775807 ∧ ∀ s ∈ r.right, -9223372036854775808 ≤ s ∧ s ≤ 9223372036854775807
  decide
theorem a2_calls (M : List Ob) : ACalls Try.prog 18 [grA gA2, foA fA2] M (fun x M' => x = .tup [trA (.mk 1 0 []), .int .i64 0] ∧ M' = M) := by
  have hfo : FoOk fA2 := by
    refine ⟨by decide, ?_⟩
    decide
  have h8 : ∀ i, ∀ a ∈ altsOf fA2 i, a.kids.length ≤ 1000 ∧ ∀ k ∈ a.kids, rng k := fun i a ha => by
    by_cases hi : i = 0
    · subst hi
      have ha : a ∈ [(⟨0, []⟩ : Al), ⟨1, []⟩] := ha
      simp only [List.mem_cons, List.not_mem_nil, or_false] at ha
      rcases ha with rfl | rfl <;> exact ⟨by decide, fun k hk => by cases hk⟩
    · unfold altsOf at ha
      rw [List.getElem?_eq_none (by show 1 ≤ i; omega)] at ha
      cases ha
  have h0 : (formF gA2).2 = 0 := by decide +kernel
  have hwh : wholeB gA2 fA2 = true := by decide +kernel
  have h := chbest_calls (g := gA2) (f := fA2) gA2_ok h0 hfo fA2_form hwh h8 (rows_ok (fun r => by have := dyn_ok h0 r; unfold rng; omega) hwh (fun i a ha => (h8 i a ha).1) fA2_form (by decide)) M
  rw [fA2_best] at h; exact h
theorem vwA2 (M : List Ob) : Vw M (.agg [.int .i64 1, .int .i64 0, .int .i64 0, .psl 2 [.int .i64 0, .nils, .int .i64 1, .int .i64 0, .nils, .int .i64 5], .nils, .nils, .nils]) (grA gA2) :=
  .agg (.cons (.refl _) (.cons (.refl _) (.cons (.refl _) (.cons (.psl (.cons (.refl _) (.cons .nils (.cons (.refl _) (.cons (.refl _) (.cons .nils (.cons (.refl _) .nil))))))) (.cons .nils (.cons .nils (.cons .nils .nil)))))))
theorem vwF2 (M : List Ob) : Vw M (.agg [.psl 1 [.int .i64 0, .int .i64 0, .int .i64 0, .psl 2 [.int .i64 0, .nils, .int .i64 1, .nils]], .int .i64 0]) (foA fA2) :=
  .agg (.cons (.psl (.cons (.refl _) (.cons (.refl _) (.cons (.refl _) (.cons (.psl (.cons (.refl _) (.cons .nils (.cons (.refl _) (.cons .nils .nil))))) .nil))))) (.cons (.refl _) .nil))
theorem n2_calls (M : List Ob) : ACalls Try.prog 18 [.agg [.int .i64 0, .int .i64 0, .int .i64 0, .nils, .nils, .nils, .nils], .agg [.nils, .int .i64 0]] M (fun x M' => x = .tup [noP, .int .i64 1] ∧ M' = M) := by
  have h := chbest_none (g := ⟨0, 0, 0, [], [], [], []⟩) (f := ⟨[], 0⟩) ⟨by decide, fun n hn => by cases hn⟩ (fun h => by have := h.1.2; simp at this) M
  exact acalls_arg (.cons (.agg (.cons (.refl _) (.cons (.refl _) (.cons (.refl _) (.cons .nils (.cons .nils (.cons .nils (.cons .nils .nil)))))))) (.cons (.agg (.cons .nils (.cons (.refl _) .nil))) .nil)) h
set_option maxHeartbeats 8000000 in
theorem alive24_calls (M : List Ob) : ACalls Try.prog 17 [] M (fun r M' => r = .bool true ∧ M' = M) := by
  have hdy : ∀ r, -1000000 ≤ dynF gA2 r ∧ dynF gA2 r ≤ 1000000 := fun r => by
    unfold dynF
    split
    · rename_i h
      obtain ⟨h1, h2⟩ := h
      have h2 : r < 2 := h2
      have : r = 0 ∨ r = 1 := by omega
      rcases this with rfl | rfl <;> decide
    · decide
  have hwt := chweight_calls (g := gA2) (t := .mk 1 0 []) hdy (by decide)
  rw [show wtT gA2 (.mk 1 0 []) = 5 from rfl] at hwt
  refine acalls_of_code 46 Try.func17 rfl rfl rfl ?_
  repeat (first | refine aops_end ?_ | refine aops_p tok rfl rfl rfl rfl ?_ | refine acode_seq ?_ | refine acode_region ?_)
  refine aops_callx Try.func18 rfl rfl rfl rfl (n2_calls _) rfl rfl rfl ?_
  repeat (refine aops_p tok rfl rfl rfl rfl ?_)
  refine aops_alloc tok rfl rfl rfl rfl rfl rfl fun b1 => ?_
  repeat (first | refine aops_p tok rfl rfl rfl rfl ?_ | refine aops_stn tok rfl rfl rfl rfl rfl rfl rfl rfl rfl ?_)
  refine aops_pubref0 1 rfl ?_
  repeat (first | refine aops_end ?_ | refine aops_p tok rfl rfl rfl rfl ?_ | refine acode_seq ?_ | refine acode_region ?_)
  refine aops_litn tok rfl rfl rfl rfl rfl rfl rfl ?_
  repeat (refine aops_p tok rfl rfl rfl rfl ?_)
  refine aops_alloc tok rfl rfl rfl rfl rfl rfl fun bg => ?_
  repeat (refine aops_stn tok rfl rfl rfl rfl rfl rfl rfl rfl rfl ?_)
  refine aops_pubref0 3 rfl ?_
  repeat (first | refine aops_end ?_ | refine aops_p tok rfl rfl rfl rfl ?_ | refine acode_seq ?_ | refine acode_region ?_)
  refine aops_litn tok rfl rfl rfl rfl rfl rfl rfl ?_
  repeat (refine aops_p tok rfl rfl rfl rfl ?_)
  refine aops_litn tok rfl rfl rfl rfl rfl rfl rfl ?_
  repeat (refine aops_p tok rfl rfl rfl rfl ?_)
  refine aops_callx Try.func18 rfl rfl rfl rfl (acalls_arg (.cons (vwA2 _) (.cons (vwF2 _) .nil)) (a2_calls _)) rfl rfl rfl ?_
  repeat (refine aops_p tok rfl rfl rfl rfl ?_)
  refine aops_alloc tok rfl rfl rfl rfl rfl rfl fun b2 => ?_
  repeat (first | refine aops_p tok rfl rfl rfl rfl ?_ | refine aops_stn tok rfl rfl rfl rfl rfl rfl rfl rfl rfl ?_)
  refine aops_pubref0 4 rfl ?_
  repeat (first | refine aops_end ?_ | refine aops_p tok rfl rfl rfl rfl ?_ | refine acode_seq ?_ | refine acode_region ?_)
  refine aops_callx Try.func20 rfl rfl rfl rfl (num24_calls _) rfl rfl rfl ?_
  repeat' (first | refine aops_pbt tok rfl (by first | omega | decide) rfl rfl rfl ?_ | refine aops_p tok rfl rfl rfl rfl ?_)
  try any_goals (exfalso; omega)
  refine aops_callx Try.func20 rfl rfl rfl rfl (num24_calls _) rfl rfl rfl ?_
  repeat' (first | refine aops_pbt tok rfl (by first | omega | decide) rfl rfl rfl ?_ | refine aops_p tok rfl rfl rfl rfl ?_)
  try any_goals (exfalso; omega)
  refine aops_callx Try.func25 rfl rfl rfl rfl (acalls_arg (.cons (vwA2 _) (.cons (.refl _) .nil)) (hwt _)) rfl rfl rfl ?_
  repeat' (first | refine aops_end ?_ | refine aops_pbt tok rfl (by first | omega | decide) rfl rfl rfl ?_ | refine aops_p tok rfl rfl rfl rfl ?_)
  try any_goals (exfalso; omega)
  refine acode_ret ?_
  skip
  exact ⟨_, ⟨rfl, rfl⟩, resOf_tmp rfl⟩
end Go.Proofs.Ytbnhmioijeagiaa.Ab
/- Two trees held against each other: the walk. No condition. -/
set_option linter.unusedVariables false
set_option linter.unusedSimpArgs false
namespace Go.Proofs.Ytbnhmioijeagiaa.Ab
attribute [local irreducible] thenA inBlockA ACode AOps put IntKind.wrap

set_option maxHeartbeats 2000000 in
theorem sameT_calls : ∀ (x : Tr), trSize x ≤ 9223372036854775807 → ∀ (y : Tr), trSize y ≤ 9223372036854775807 → ∀ (M : List Ob), ACalls Try.prog 19 [trA x, trA y] M (fun r M' => r = .bool (eqT x y) ∧ M' = M) := by
  refine Tr.ind fun x ih hx y hy M => ?_
  rw [trSize_eq] at hx hy
  have hxl := trsSize_len x.kids
  have hyl := trsSize_len y.kids
  rw [eqT_eq]
  refine acalls_of_code 46 Try.func19 rfl rfl rfl ?_
  repeat (first | refine acode_seq ?_ | refine acode_region ?_)
  refine aops_boxf rfl rfl rfl rfl rfl rfl rfl ?_
  refine aops_boxf rfl rfl rfl rfl rfl rfl rfl ?_
  repeat' (first | refine aops_end ?_ | refine aops_o rfl rfl rfl ?_ | (refine aops_pn tok rfl rfl rfl rfl ?_ ?_ <;> intro e_) | refine aops_p tok rfl rfl rfl rfl ?_ | refine acode_it rfl ?_ | refine acode_if rfl ?_ | refine acode_seq ?_ | refine acode_region ?_ | refine acode_block ?_ | refine acode_skip ?_ | refine then_n ?_)
  · refine acode_ret ?_
    repeat (refine ret_then ?_)
    exact ⟨.bool false, ⟨by rw [decide_eq_false e_]; rfl, rfl⟩, resOf_tmp rfl⟩
  · refine acode_ret ?_
    repeat (refine ret_then ?_)
    exact ⟨.bool false, ⟨by rw [decide_eq_false e_, Bool.and_false]; rfl, rfl⟩, resOf_tmp rfl⟩
  · refine acode_ret ?_
    repeat (refine ret_then ?_)
    exact ⟨.bool false, ⟨by rw [eqTs_len (by omega), Bool.and_false], rfl⟩, resOf_tmp rfl⟩
  · rename_i e1 e2
    have hlen : x.kids.length = y.kids.length := by omega
    rw [decide_eq_true e1, decide_eq_true e2, Bool.true_and, Bool.true_and]
    refine acode_loopS (ι := Nat) (fun i => [(2, .pp [.int .i64 x.rule, .int .i64 x.tok, .psl x.kids.length (encs trC x.kids)]), (3, .pp [.int .i64 y.rule, .int .i64 y.tok, .psl y.kids.length (encs trC y.kids)]), (5, .int .i64 i)]) (fun _ => M) (fun i => x.kids.length - i) (fun i => i ≤ x.kids.length ∧ eqTs (x.kids.drop i) (y.kids.drop i) = eqTs x.kids y.kids) 0 ⟨Nat.zero_le _, rfl⟩ ⟨rfl, rfl, rfl, trivial⟩ rfl ?_
    rintro i ⟨hi, hgo⟩
    repeat (first | refine aops_end ?_ | refine aops_p tok rfl rfl rfl rfl ?_ | refine acode_seq ?_ | refine acode_region ?_)
    refine acode_id rfl (fun e => ?_) (fun e => ?_)
    · have hil : i < x.kids.length := by omega
      obtain ⟨u, hu⟩ : ∃ u, x.kids[i]? = some u := ⟨x.kids[i], List.getElem?_eq_getElem hil⟩
      obtain ⟨v, hv⟩ : ∃ v, y.kids[i]? = some v := ⟨y.kids[i]'(by omega), List.getElem?_eq_getElem (by omega)⟩
      have hum := List.mem_of_getElem? hu
      have hus := trsSize_mem hum
      have hvs := trsSize_mem (List.mem_of_getElem? hv)
      rw [eqTs_step hu hv] at hgo
      repeat (first | refine acode_seq ?_ | refine acode_block ?_ | refine acode_skip ?_ | refine then_n ?_)
      refine acode_drawT 12 mixed (by kernel_rfl) (by kernel_rfl) ?_
      repeat (refine seqT_p tok rfl rfl rfl rfl ?_)
      refine seqT_ix tok [.int .i64 u.rule, .int .i64 u.tok, .psl u.kids.length (encs trC u.kids)] rfl rfl rfl rfl (by omega) (by omega) (by simp) (by rw [← trC_eq]; exact tr_at hu) rfl rfl rfl ?_
      repeat (refine seqT_p tok rfl rfl rfl rfl ?_)
      refine seqT_ix tok [.int .i64 v.rule, .int .i64 v.tok, .psl v.kids.length (encs trC v.kids)] rfl rfl rfl rfl (by omega) (by omega) (by simp) (by rw [← trC_eq]; exact tr_at hv) rfl rfl rfl ?_
      repeat (refine seqT_p tok rfl rfl rfl rfl ?_)
      refine seqT_call _ Try.func19 rfl rfl rfl rfl (ih u hum (by omega) v (by omega) M) rfl rfl rfl ?_
      cases he : eqT u v with
      | false =>
        rw [he] at hgo
        repeat (refine seqT_p tok rfl rfl rfl rfl ?_)
        refine SeqT.done ?_
        repeat' (first | refine aops_end ?_ | refine aops_p tok rfl rfl rfl rfl ?_ | refine acode_it rfl ?_ | refine acode_seq ?_ | refine acode_region ?_)
        refine acode_ret ?_
        repeat (first | refine ret_then ?_ | refine ret_block ?_)
        exact ⟨.bool false, ⟨by rw [← hgo]; rfl, rfl⟩, resOf_tmp rfl⟩
      | true =>
        rw [he] at hgo
        repeat (refine seqT_p tok rfl rfl rfl rfl ?_)
        refine SeqT.done ?_
        repeat' (first | refine aops_end ?_ | refine aops_a tok rfl (by omega) (by omega) rfl rfl rfl ?_ | refine aops_p tok rfl rfl rfl rfl ?_ | refine acode_if rfl ?_ | refine acode_region ?_ | refine acode_skip ?_ | refine then_n ?_ | refine block_n ?_)
        exact ⟨i + 1, ⟨by omega, by rw [← hgo]; rfl⟩, by omega, ⟨rfl, rfl, rfl, trivial⟩, rfl⟩
    · have hge : i = x.kids.length := by omega
      subst hge
      rw [List.drop_length, hlen, List.drop_length] at hgo
      refine acode_exit ?_
      repeat (first | refine exit_then ?_ | refine exit_here ?_ | refine then_n ?_)
      repeat (first | refine aops_end ?_ | refine aops_p tok rfl rfl rfl rfl ?_ | refine acode_seq ?_ | refine acode_region ?_)
      refine acode_ret ?_
      skip
      exact ⟨.bool true, ⟨by rw [← hgo]; rfl, rfl⟩, resOf_tmp rfl⟩

end Go.Proofs.Ytbnhmioijeagiaa.Ab

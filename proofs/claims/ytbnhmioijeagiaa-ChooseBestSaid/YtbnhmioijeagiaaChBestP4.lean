/- Texts of this proof, one behind the other (RfE, RfF, For6, RfG, RfH, RfI, Al24, Smt, For7, Unf6, Chk2, ChBe). No condition. -/
import Derived.Test.YtbnhmioijeagiaaChBestP3
/- Chapter 24's reference: the best of an Alt: the walk. No condition. -/
set_option linter.unusedVariables false
set_option linter.unusedSimpArgs false
namespace Go.Proofs.Ytbnhmioijeagiaa.Ab
section
variable {P : Program} {T : List TI} {N : Nat} {ops : Array Oper} {o : Oper} {Q : Exit → St → Prop} {E F : Env} {M : List Ob}
theorem yields_deep {n : Nat} {cs : List A} (h : Yields P N ops o (.psl n cs) F M) : Yields P N ops o (.psl n (deepL cs)) F M := by
  intro E hE rest Q next
  refine h E hE rest Q (aops_weaken (fun K G a w hi => ⟨G, inv_E hi fun t v hv => ?_⟩) next)
  cases hd : o.dst with
  | none => rw [hd] at hv; exact hv
  | some d =>
    rw [hd] at hv
    simp only [put, get] at hv ⊢
    cases hb : Nat.beq d t with
    | true =>
      rw [hb, cond_true] at hv
      rw [cond_true]
      have := deep_rep _ _ hv
      rwa [deep] at this
    | false => rw [hb, cond_false] at hv; exact hv
/-- A literal, its nil slices told as slices of nothing. -/
theorem seqO_litd (hT : TOk P T) {kp : List Ob} {al : List Nat} {i : Nat} {ll : List Oper} {m d : Nat} {t len e : Nat} {ei : TI} {parts : Array (Nat × Operand)} {r r' : List A} (hi : al.contains i = false) (ho : o.op = .buildSlice t len parts) (hs : sliceOf T t = some (e, ei)) (hsz : (Nat.blt 0 (len * ei.size) && Nat.ble (len * ei.size) 16777216 && Nat.beq ei.zero.length ei.size) = true)
    (hf : fillA (fun i => some (i * ei.size, ei.size)) (zerosA (ei.zero.map ofZ) len) (parts.toList.map fun (i, x) => (i, opA F x)) = some r) (hr : normL (deepL r) = some r') (hg : guardOn ops o F = some true) (hd : o.dst = some d) (hN : Nat.blt d N = true)
    (next : SeqO P N ops Q kp al (i + 1) ((d, .psl len r') :: F) M m ll) : SeqO P N ops Q kp al i F M (m + 1) (o :: ll) := by
  rw [normL_eq] at hr; cases hr
  exact seqO_y hi (fun M' => yields_deep (yields_lit hT ho hs hsz hf hg (by rw [hd]; exact hN))) hd next
/-- A call that changes what is one's own. -/
theorem seqO_callx {kp : List Ob} {al : List Nat} {i : Nat} {ll : List Oper} {n d : Nat} {g : Operand} {args : Array Operand} {tys : Array TypeId} {f : FuncId} {cap xs : List A} {fn : Func} (x : List Nat → A) (M2 : List Nat → List Ob) (hi : al.contains i = true) (hf : P.funcs[f]? = some fn) (ho : o.op = .call { callee := .value g, args, argTypes := tys }) (hgv : opA F g = .fn f cap)
    (hfn : callable fn = true) (has : args.toList.map (opA F) ++ cap = xs) (hc : ACalls P f xs M (fun r M' => ∃ z, r = x z ∧ M' = M2 z)) (hkp : ∀ z, ∀ o ∈ kp, o ∈ M2 z) (hg : guardOn ops o F = some true) (hd : o.dst = some d) (hN : Nat.blt d N = true)
    (next : ∀ z, SeqO P N ops Q kp al (i + 1) ((d, x z) :: F) (M2 z) n ll) : SeqO P N ops Q kp al i F M (n + 1) (o :: ll) := by
  refine SeqO.make (x := x) (M2 := M2) hi (fun E hE rest Q next => ?_) (fun z o ho => hkp z o ho) fun b => ?_
  · refine aops_call hf ho ((agree_op hE (by rw [ho]; simp [Op.operands, Call.operands])).trans hgv) hfn (by rw [map_congr_ops (E := E) (F := F) (fun y hy => agree_op hE (by rw [ho]; simp [Op.operands, Call.operands, hy]))]; exact has) hc ((agree_guard hE).trans hg) (by rw [hd]; exact hN) ?_
    rintro y M' ⟨z, rfl, rfl⟩
    exact next z
  · rw [hd]; exact next b
end
attribute [local irreducible] thenA inBlockA ACode AOps put IntKind.wrap

theorem pre_get {α : Type} {xs ys : List α} {o q : Nat} {x : α} (h : xs <+: ys.drop o) (hx : xs[q]? = some x) : ys[o + q]? = some x := by
  obtain ⟨t, ht⟩ := h
  have hq : q < xs.length := (List.getElem?_eq_some_iff.1 hx).1
  rw [← List.getElem?_drop, ← ht, List.getElem?_append_left hq]; exact hx
theorem goU_step {fb : List F3} {T : Nat → List Pk} {r : Int} {l : List Int} {p m : Nat} {k : Int} {cs : List A} (h : l[p]? = some k) : goU fb T r p (l.drop p) m cs = if k < 0 then goU fb T r (p + 1) (l.drop (p + 1)) (m + 1) (cs ++ trC (leafT k)) else
    if (bestF (mayP fb r p) (T k.toNat)).isTk then (false, m + 1, cs ++ kE (bestF (mayP fb r p) (T k.toNat))) else goU fb T r (p + 1) (l.drop (p + 1)) (m + 1) (cs ++ kE (bestF (mayP fb r p) (T k.toNat))) := by
  have e : l.drop p = k :: l.drop (p + 1) := by
    obtain ⟨h1, rfl⟩ := List.getElem?_eq_some_iff.1 h
    exact List.drop_eq_getElem_cons h1
  rw [e]; rfl
set_option maxHeartbeats 16000000 in
theorem alt_of {g : Gr} {f : Fo} (hf : FoOk f) {i j : Nat} (hi : i < f.nodes.length) {a : Al} (ha : (altsOf f i)[j]? = some a) (hr0 : 0 ≤ a.rule) (h8 : a.kids.length ≤ 1000) (hrng : ∀ k ∈ a.kids, rng k) (hkid : ∀ k : Nat, (k : Int) ∈ a.kids → UnderC g f k) : AltC g f i j := by
  intro pb bk capk rs L M
  obtain ⟨hf1, hf2⟩ := id hf
  obtain ⟨nd, hnd, hndm, hal⟩ := nodes_at hi
  obtain ⟨hal1, hal2⟩ := hf2 nd hndm
  have hj : j < (altsOf f i).length := (List.getElem?_eq_some_iff.1 ha).1
  have hjm : j < lenE f i := hj
  have hlm : ∀ i, lenE f i ≤ 4398046510976 := fun i => by
    unfold lenE
    by_cases h : i < f.nodes.length
    · obtain ⟨nd, _, hm, hal⟩ := nodes_at h
      rw [hal]; exact (hf2 nd hm).1
    · unfold altsOf; rw [List.getElem?_eq_none (by omega)]; simp
  have hae : altE g f i j = entU a.rule (goU g.forbid (pkT g f) a.rule 0 a.kids 0 []) := by
    unfold altE
    rw [List.getD_eq_getElem?_getD, ha]; rfl
  have hat := rowE_at (g := g) (f := f) (L := L) (i := i) hjm
  have hrl := rowE_len (g := g) (f := f) (L := L) (i := i) (m := lenE f i)
  have how := ownR_at (rs := rs) hi
  have hlj := hlm i
  have hM3 := rowsR_at (U := altE g f) (rs := rs) (L := L) hi M
  generalize hX : goU g.forbid (pkT g f) a.rule 0 a.kids 0 [] = X at *
  refine acalls_of_code 112 Try.func75 rfl rfl rfl ?_
  repeat (first | refine acode_seq ?_ | refine acode_region ?_)
  refine aops_alloc tok rfl rfl rfl rfl rfl rfl fun b6 => ?_
  repeat (first | refine aops_end ?_ | refine aops_p tok rfl rfl rfl rfl ?_ | refine aops_ld tok 1 rfl rfl rfl rfl rfl rfl rfl rfl ?_ | refine acode_seq ?_ | refine acode_region ?_)
  refine aops_ixo tok rfl rfl rfl rfl (by omega) (by omega) rfl rfl rfl ?_
  refine aops_ld tok 2 (y := .own (some (rs i)) (lenE f i) (lenE f i)) rfl rfl rfl rfl (by rw [headed_eq]; show (ownR f rs)[(i : Int).toNat * 1]? = _; rw [Nat.mul_one, Int.toNat_natCast]; exact how) rfl rfl rfl ?_
  repeat (refine aops_p tok rfl rfl rfl rfl ?_)
  refine aops_ixo tok rfl rfl rfl rfl (by omega) (by omega) rfl rfl rfl ?_
  repeat (refine aops_p tok rfl rfl rfl rfl ?_)
  cases hc : L.contains (codeE i j) with
  | true =>
    rw [if_pos hc, hae] at hat
    refine aops_ld tok (i + 3) (y := .bool true) rfl rfl rfl hM3 (by rw [headed_eq]; show (rowE (altE g f) L i (lenE f i))[(j : Int).toNat * 5 + 0]? = _; rw [Int.toNat_natCast]; exact pre_get hat rfl) rfl rfl rfl ?_
    refine aops_end ?_
    refine acode_it rfl ?_
    refine acode_seq ?_
    refine acode_region ?_
    repeat (first | refine aops_p tok rfl rfl rfl rfl ?_ | refine aops_ld tok 1 rfl rfl rfl rfl rfl rfl rfl rfl ?_)
    refine aops_ixo tok rfl rfl rfl rfl (by omega) (by omega) rfl rfl rfl ?_
    refine aops_ld tok 2 (y := .own (some (rs i)) (lenE f i) (lenE f i)) rfl rfl rfl rfl (by rw [headed_eq]; show (ownR f rs)[(i : Int).toNat * 1]? = _; rw [Nat.mul_one, Int.toNat_natCast]; exact how) rfl rfl rfl ?_
    repeat (refine aops_p tok rfl rfl rfl rfl ?_)
    refine aops_ixo tok rfl rfl rfl rfl (by omega) (by omega) rfl rfl rfl ?_
    refine aops_ld tok (i + 3) (y := .agg (entU a.rule X)) rfl rfl rfl hM3 (by
      rw [headed_eq]
      show (bif Nat.ble ((j : Int).toNat * 5 + 5) (rowE (altE g f) L i (lenE f i)).length then some (A.agg (((rowE (altE g f) L i (lenE f i)).drop ((j : Int).toNat * 5)).take 5)) else none) = _
      rw [Int.toNat_natCast, pre_take (n := 5) hat rfl, show Nat.ble (j * 5 + 5) (rowE (altE g f) L i (lenE f i)).length = true by rw [Nat.ble_eq, hrl]; omega]
      rfl) rfl rfl rfl ?_
    unfold entU
    repeat (first | refine aops_end ?_ | refine aops_stn tok rfl rfl rfl rfl rfl rfl rfl rfl rfl ?_)
    refine acode_pubref0 6 rfl ?_
    refine acode_ret ?_
    repeat (refine ret_then ?_)
    exact ⟨_, ⟨L, by rw [hae]; rfl, rfl⟩, resOf_pp tok rfl rfl rfl⟩
  | false =>
    rw [if_neg (by rw [hc]; simp)] at hat
    refine aops_ld tok (i + 3) (y := .bool false) rfl rfl rfl hM3 (by rw [headed_eq]; show (rowE (altE g f) L i (lenE f i))[(j : Int).toNat * 5 + 0]? = _; rw [Int.toNat_natCast]; exact pre_get hat rfl) rfl rfl rfl ?_
    refine aops_end ?_
    refine acode_if rfl ?_
    repeat (first | refine aops_p tok rfl rfl rfl rfl ?_ | refine aops_ld tok 1 rfl rfl rfl rfl rfl rfl rfl rfl ?_ | refine acode_seq ?_ | refine acode_region ?_ | refine acode_skip ?_ | refine then_n ?_)
    refine aops_ix tok (ndC nd) rfl rfl rfl rfl (by omega) (by omega) (by simp [ndC]) (nd_at hnd) rfl rfl rfl ?_
    repeat (refine aops_p tok rfl rfl rfl rfl ?_)
    have ha2 : nd.alts[j]? = some a := by rw [← hal]; exact ha
    have hjn : j < nd.alts.length := by rw [← hal]; exact hj
    refine aops_ix tok (alC a) rfl rfl rfl rfl (by omega) (by omega) (by simp [alC]) (al_at ha2) rfl rfl rfl ?_
    repeat (refine aops_p tok rfl rfl rfl rfl ?_)
    refine aops_alloc tok rfl rfl rfl rfl rfl rfl fun b7 => ?_
    repeat (refine aops_stn tok rfl rfl rfl rfl rfl rfl rfl rfl rfl ?_)
    refine aops_pubref0 7 rfl ?_
    repeat (first | refine aops_end ?_ | refine aops_p tok rfl rfl rfl rfl ?_ | refine acode_seq ?_ | refine acode_region ?_)
    refine aops_alloc tok rfl rfl rfl rfl rfl rfl fun b8 => ?_
    repeat (refine aops_stn tok rfl rfl rfl rfl rfl rfl rfl rfl rfl ?_)
    refine aops_adoptF 4 rfl rfl ?_
    repeat (first | refine aops_end ?_ | refine aops_p tok rfl rfl rfl rfl ?_ | refine acode_seq ?_ | refine acode_region ?_ | refine acode_block ?_)
    refine acode_loopS (ι := Nat × Bool × List A × (Option Nat × Nat) × List Nat) (fun q => [(0, .ref pb 0), (1, .int .i64 i), (2, .int .i64 j), (6, .ref b6 0), (7, .pp (alC a)), (8, .ref b8 0), (9, .int .i64 q.1)]) (fun q => ⟨some b8, 5, [.bool true, .bool q.2.1, .int .i64 a.rule, .int .i64 0, .own q.2.2.2.1.1 q.1 q.2.2.2.1.2]⟩ :: ⟨q.2.2.2.1.1, q.2.2.2.1.2 * 3, q.2.2.1⟩ :: ⟨some b6, 5, zeroE⟩ :: pkS g f pb bk capk rs q.2.2.2.2 M) (fun q => a.kids.length - q.1)
      (fun q => q.1 ≤ a.kids.length ∧ (q.2.1 = true ∧ goU g.forbid (pkT g f) a.rule q.1 (a.kids.drop q.1) q.1 q.2.2.1 = X ∨ q.2.1 = false ∧ X = (false, q.1, q.2.2.1)) ∧ q.2.2.1.length = q.1 * 3) (0, true, [], (none, 0), L) ⟨Nat.zero_le _, .inl ⟨rfl, hX⟩, rfl⟩ ⟨rfl, rfl, rfl, rfl, rfl, rfl, rfl, trivial⟩ rfl ?_
    rintro ⟨q, ok, cs, ⟨ob, cap⟩, L1⟩ ⟨hq, hgo, hcs⟩
    simp only at hq hgo hcs ⊢
    clear hat hM3 hrl
    have hend : X = (ok, q, cs) → ACode Try.prog 112 (.exit 0) (fun e s => True) ⟨[], []⟩ := fun _ => acode_exit trivial
    by_cases hlt : ok = true ∧ q < a.kids.length
    · obtain ⟨rfl, hql⟩ := hlt
      obtain ⟨k, hk⟩ : ∃ k, a.kids[q]? = some k := ⟨a.kids[q], List.getElem?_eq_getElem hql⟩
      have hkm := List.mem_of_getElem? hk
      have hgo : goU g.forbid (pkT g f) a.rule q (a.kids.drop q) q cs = X := by
        rcases hgo with ⟨_, h⟩ | ⟨h, _⟩
        · exact h
        · cases h
      rw [goU_step hk] at hgo
      repeat' (first | refine aops_end ?_ | refine aops_pbt tok rfl (by first | omega | decide) rfl rfl rfl ?_ | refine aops_p tok rfl rfl rfl rfl ?_ | refine acode_it rfl ?_ | refine aops_ld tok 0 rfl rfl rfl rfl rfl rfl rfl rfl ?_ | refine acode_seq ?_ | refine acode_region ?_ | refine acode_block ?_ | refine acode_skip ?_ | refine then_n ?_)
      all_goals try (exfalso; omega)
      refine aops_ix tok [A.int .i64 k] rfl rfl rfl rfl (by omega) (by omega) (by simp) (ints_at (j := q) (by simpa using hk)) rfl rfl rfl ?_
      by_cases hk0 : k < 0
      · rw [if_pos hk0] at hgo
        repeat' (first | refine aops_end ?_ | refine aops_pbt tok rfl (by first | omega | decide) rfl rfl rfl ?_ | refine aops_p tok rfl rfl rfl rfl ?_ | refine acode_it rfl ?_ | refine acode_seq ?_)
        all_goals try (exfalso; omega)
        obtain ⟨hkr1, hkr2⟩ := hrng k hkm
        refine acode_drawP [⟨some b8, 5, [.bool true, .bool true, .int .i64 a.rule, .int .i64 0, .own ob q cap]⟩] 12 [0, 1, 2, 3, 4, 5, 6, 7, 8, 9, 10, 11] [11] mixed (by kernel_rfl) (by kernel_rfl) rfl ?_
        repeat (first | refine seqO_p tok rfl rfl rfl rfl rfl ?_ | refine seqO_ld tok 0 rfl rfl rfl rfl rfl (by simp) rfl rfl rfl rfl ?_)
        refine seqO_ix tok [A.int .i64 k] rfl rfl rfl rfl rfl (by omega) (by omega) (by simp) (ints_at (j := q) (by simpa using hk)) rfl rfl rfl ?_
        repeat (first | refine seqO_a tok rfl rfl (by omega) (by omega) rfl rfl rfl ?_ | refine seqO_p tok rfl rfl rfl rfl rfl ?_)
        refine seqO_litd tok rfl rfl rfl rfl rfl rfl rfl rfl rfl ?_
        refine seqO_app tok 1 (m := 1) (ds := trC (leafT k)) rfl rfl rfl rfl (.inl rfl) rfl rfl (by rw [hcs]) rfl rfl rfl (by show _ * 40 ≤ _; omega) (by omega) (by intro y o ho; simp at ho ⊢; simp [ho]) rfl rfl rfl fun ob' cap' => ?_
        skip
        refine SeqO.done ?_
        refine aops_somed 76 rfl (by omega) fun c hc => ?_
        subst hc
        repeat (first | refine aops_p tok rfl rfl rfl rfl ?_ | refine aops_stn tok rfl rfl rfl rfl rfl rfl rfl rfl rfl ?_)
        refine aops_end ?_
        refine acode_exit ?_
        repeat (first | refine exit_then ?_ | refine exit_here ?_ | refine then_n ?_)
        repeat (first | refine aops_end ?_ | refine aops_a tok rfl (by omega) (by omega) rfl rfl rfl ?_ | refine aops_p tok rfl rfl rfl rfl ?_ | refine acode_region ?_)
        exact ⟨(q + 1, true, cs ++ trC (leafT k), (some c, cap'), L1), ⟨by simp only; omega, .inl ⟨rfl, hgo⟩, by simp [hcs, trC_len]; omega⟩, by simp only; omega, ⟨rfl, rfl, rfl, rfl, rfl, rfl, rfl, trivial⟩, rfl⟩
      · rw [if_neg hk0] at hgo
        obtain ⟨k', rfl⟩ := Int.eq_ofNat_of_zero_le (show 0 ≤ k by omega)
        repeat' (first | refine aops_end ?_ | refine aops_pbf tok rfl (by first | omega | decide) rfl rfl rfl ?_ | refine aops_p tok rfl rfl rfl rfl ?_ | refine acode_if rfl ?_ | refine acode_seq ?_ | refine acode_skip ?_ | refine then_n ?_)
        all_goals try (exfalso; omega)
        rw [Int.toNat_natCast] at hgo
        have hmr : mayR g.forbid a.rule q = mayP g.forbid a.rule q := by funext x; unfold mayR; rw [if_pos hr0]
        have huc := hkid k' hkm pb bk capk rs a.rule q L1
        rw [hmr] at huc
        generalize bestF (mayP g.forbid a.rule q) (pkT g f k') = B at *
        have hcall : ∀ (X : List Ob), ACalls Try.prog 42 [.ref pb 0, .int .i64 k', .int .i64 a.rule, .int .i64 q] (X ++ pkS g f pb bk capk rs L1 M) (fun x M' => ∃ z : List Nat, x = .agg (entR B) ∧ M' = X ++ pkS g f pb bk capk rs z M) := fun X => by
          have hperm : ∀ (L : List Nat) (X M : List Ob), (X ++ pkS g f pb bk capk rs L M).Perm (pkS g f pb bk capk rs L (X ++ M)) := fun L X M =>
            List.perm_append_comm_assoc X (⟨some pb, 10, pkCells g f bk capk⟩ :: ⟨some bk, capk * 1, ownR f rs⟩ :: rowsR f (altE g f) rs L) M
          refine acalls_perm (hperm L1 _ M) (huc _) ?_
          rintro x M' ⟨z, rfl, rfl⟩
          exact ⟨_, (hperm z _ M).symm, z, rfl, rfl⟩
        refine acode_joinI (ι := Nat × List Nat) (fun z => [(0, .ref pb 0), (1, .int .i64 i), (2, .int .i64 j), (6, .ref b6 0), (7, .pp (alC a)), (8, .ref b8 0), (9, .int .i64 q), (10, .ref z.1 0)]) (fun z => ⟨some z.1, 5, entR B⟩ :: ⟨some b8, 5, [.bool true, .bool true, .int .i64 a.rule, .int .i64 0, .own ob q cap]⟩ :: ⟨ob, cap * 3, cs⟩ :: ⟨some b6, 5, zeroE⟩ :: pkS g f pb bk capk rs z.2 M) (fun _ => True) ?_ ?_
        · refine acode_both 9 10 mixed rfl rfl rfl ?_ ?_
          · refine any_drawPC [] 11 [0, 1, 2, 3, 4, 5, 6, 7, 8, 9, 10] [9, 10] mixed (by kernel_rfl) (by kernel_rfl) rfl ?_
            repeat (refine seqO_p tok rfl rfl rfl rfl rfl ?_)
            refine seqO_ix tok [A.int .i64 k'] rfl rfl rfl rfl rfl (by omega) (by omega) (by simp) (ints_at (j := q) (by simpa using hk)) rfl rfl rfl ?_
            repeat (refine seqO_p tok rfl rfl rfl rfl rfl ?_)
            refine seqO_callx (fun _ => .agg (entR B)) (fun z => ⟨some b8, 5, [.bool true, .bool true, .int .i64 a.rule, .int .i64 0, .own ob q cap]⟩ :: ⟨ob, cap * 3, cs⟩ :: ⟨some b6, 5, zeroE⟩ :: pkS g f pb bk capk rs z M) rfl Try.func42 rfl rfl rfl rfl (hcall [_, _, _]) (by intro z o ho; cases ho) rfl rfl rfl fun z => ?_
            refine seqO_alloc tok rfl rfl rfl (by intro o ho; cases ho) rfl rfl rfl rfl fun b10 => ?_
            refine SeqO.done ?_
            cases B with
            | tk =>
              rw [entR_tk]
              repeat (first | refine aops_end ?_ | refine aops_stn tok rfl rfl rfl rfl rfl rfl rfl rfl rfl ?_)
              exact ⟨(b10, z), trivial, ⟨rfl, rfl, rfl, rfl, rfl, rfl, rfl, rfl, trivial⟩, rfl⟩
            | nd a2 w2 q2 =>
              rw [entR_nd]
              repeat (first | refine aops_end ?_ | refine aops_stn tok rfl rfl rfl rfl rfl rfl rfl rfl rfl ?_)
              exact ⟨(b10, z), trivial, ⟨rfl, rfl, rfl, rfl, rfl, rfl, rfl, rfl, trivial⟩, rfl⟩
          · refine any_drawPC [] 11 [0, 1, 2, 3, 4, 5, 6, 7, 8, 10, 9] [9, 10] mixed (by kernel_rfl) (by kernel_rfl) rfl ?_
            repeat (refine seqO_p tok rfl rfl rfl rfl rfl ?_)
            refine seqO_ix tok [A.int .i64 k'] rfl rfl rfl rfl rfl (by omega) (by omega) (by simp) (ints_at (j := q) (by simpa using hk)) rfl rfl rfl ?_
            repeat (refine seqO_p tok rfl rfl rfl rfl rfl ?_)
            refine seqO_alloc tok rfl rfl rfl (by intro o ho; cases ho) rfl rfl rfl rfl fun b10 => ?_
            refine seqO_callx (fun _ => .agg (entR B)) (fun z => ⟨some b10, 5, zeroE⟩ :: ⟨some b8, 5, [.bool true, .bool true, .int .i64 a.rule, .int .i64 0, .own ob q cap]⟩ :: ⟨ob, cap * 3, cs⟩ :: ⟨some b6, 5, zeroE⟩ :: pkS g f pb bk capk rs z M) rfl Try.func42 rfl rfl rfl rfl (hcall [_, _, _, _]) (by intro z o ho; cases ho) rfl rfl rfl fun z => ?_
            refine SeqO.done ?_
            cases B with
            | tk =>
              rw [entR_tk]
              repeat (first | refine aops_end ?_ | refine aops_stn tok rfl rfl rfl rfl rfl rfl rfl rfl rfl ?_)
              exact ⟨(b10, z), trivial, ⟨rfl, rfl, rfl, rfl, rfl, rfl, rfl, rfl, trivial⟩, rfl⟩
            | nd a2 w2 q2 =>
              rw [entR_nd]
              repeat (first | refine aops_end ?_ | refine aops_stn tok rfl rfl rfl rfl rfl rfl rfl rfl rfl ?_)
              exact ⟨(b10, z), trivial, ⟨rfl, rfl, rfl, rfl, rfl, rfl, rfl, rfl, trivial⟩, rfl⟩
        rintro ⟨b10, z⟩ -
        simp only
        cases B with
        | tk =>
          rw [if_pos (show Pk.isTk .tk = true from rfl)] at hgo
          rw [entR_tk]
          repeat (first | refine aops_end ?_ | refine aops_p tok rfl rfl rfl rfl ?_ | refine aops_ld tok 0 rfl rfl rfl rfl rfl rfl rfl rfl ?_ | refine aops_ld tok 1 rfl rfl rfl rfl rfl rfl rfl rfl ?_ | refine aops_stn1 tok rfl rfl rfl rfl rfl rfl rfl rfl rfl ?_ | refine acode_seq ?_ | refine acode_region ?_)
          refine aops_litn tok rfl rfl rfl rfl rfl rfl rfl ?_
          refine aops_append tok 2 (m := 1) (ds := kE .tk) rfl rfl rfl (.inl rfl) rfl rfl (by rw [hcs]) rfl rfl rfl (by show _ * 40 ≤ _; omega) (by omega) rfl rfl fun ob' cap' => ?_
          refine aops_put rfl ?_
          refine aops_somed 98 rfl (by omega) fun c hc => ?_
          subst hc
          repeat (first | refine aops_p tok rfl rfl rfl rfl ?_ | refine aops_stn1 tok rfl rfl rfl rfl rfl rfl rfl rfl rfl ?_)
          refine aops_drop0 ?_
          repeat (first | refine aops_end ?_ | refine aops_endb ?_ | refine aops_a tok rfl (by omega) (by omega) rfl rfl rfl ?_ | refine aops_p tok rfl rfl rfl rfl ?_ | refine acode_region ?_ | refine then_n ?_)
          exact ⟨(q + 1, false, cs ++ kE .tk, (some c, cap'), z), ⟨by simp only; omega, .inr ⟨rfl, hgo.symm⟩, by simp [hcs, kE, Pk.isTk]; omega⟩, by simp only; omega, ⟨rfl, rfl, rfl, rfl, rfl, rfl, rfl, trivial⟩, rfl⟩
        | nd a2 w2 q2 =>
          rw [if_neg (by simp [Pk.isTk])] at hgo
          have hke : kE (.nd a2 w2 q2) = trC (treeP (.nd a2 w2 q2)) := rfl
          rw [hke] at hgo
          rw [entR_nd]
          generalize treeP (.nd a2 w2 q2) = tr at *
          repeat (first | refine aops_end ?_ | refine aops_p tok rfl rfl rfl rfl ?_ | refine aops_ld tok 0 rfl rfl rfl rfl rfl rfl rfl rfl ?_ | refine aops_ld tok 1 rfl rfl rfl rfl rfl rfl rfl rfl ?_ | refine aops_stn1 tok rfl rfl rfl rfl rfl rfl rfl rfl rfl ?_ | refine acode_seq ?_ | refine acode_region ?_)
          refine aops_litn tok rfl rfl rfl rfl rfl rfl rfl ?_
          refine aops_append tok 2 (m := 1) (ds := [.int .i64 tr.rule, .int .i64 tr.tok, .psl tr.kids.length (encs trC tr.kids)]) rfl rfl rfl (.inl rfl) rfl rfl (by rw [hcs]) rfl rfl rfl (by show _ * 40 ≤ _; omega) (by omega) rfl rfl fun ob' cap' => ?_
          refine aops_put rfl ?_
          refine aops_somed 98 rfl (by omega) fun c hc => ?_
          subst hc
          repeat (first | refine aops_p tok rfl rfl rfl rfl ?_ | refine aops_stn1 tok rfl rfl rfl rfl rfl rfl rfl rfl rfl ?_)
          refine aops_drop0 ?_
          repeat (first | refine aops_end ?_ | refine aops_endb ?_ | refine aops_a tok rfl (by omega) (by omega) rfl rfl rfl ?_ | refine aops_p tok rfl rfl rfl rfl ?_ | refine acode_region ?_ | refine then_n ?_)
          rw [trC_eq] at hgo
          exact ⟨(q + 1, true, cs ++ [.int .i64 tr.rule, .int .i64 tr.tok, .psl tr.kids.length (encs trC tr.kids)], (some c, cap'), z), ⟨by simp only; omega, .inl ⟨rfl, hgo⟩, by simp [hcs]; omega⟩, by simp only; omega, ⟨rfl, rfl, rfl, rfl, rfl, rfl, rfl, trivial⟩, rfl⟩
    · have hX2 : X = (ok, q, cs) := by
        rcases hgo with ⟨rfl, h⟩ | ⟨rfl, h⟩
        · have : q = a.kids.length := by
            have : ¬ q < a.kids.length := fun h => hlt ⟨rfl, h⟩
            omega
          rw [← h, this, List.drop_length]; rfl
        · exact h
      subst hX2
      have hM3 := rowsR_at (U := altE g f) (rs := rs) (L := L1) hi M
      have hrl := rowE_len (g := g) (f := f) (L := L1) (i := i) (m := lenE f i)
      cases ok with
      | true =>
        have hge : ¬ q < a.kids.length := fun h => hlt ⟨rfl, h⟩
        repeat' (first | refine aops_end ?_ | refine aops_o rfl rfl rfl ?_ | refine aops_pbf tok rfl (by first | omega | decide) rfl rfl rfl ?_ | refine aops_p tok rfl rfl rfl rfl ?_ | refine acode_if rfl ?_ | refine acode_seq ?_ | refine acode_region ?_)
        all_goals try (exfalso; omega)
        refine acode_exit ?_
        repeat (first | refine exit_then ?_ | refine exit_here ?_ | refine then_n ?_)
        refine acode_pubFld (sz := 3) (cs' := [.bool true, .bool true, .int .i64 a.rule, .int .i64 0, .psl q cs]) 4 rfl rfl hcs (by decide) rfl ?_
        refine acode_seq ?_
        refine acode_drawT 9 mixed (by kernel_rfl) (by kernel_rfl) ?_
        repeat (refine seqT_p tok rfl rfl rfl rfl ?_)
        refine seqT_ld tok 2 (y := .own (some bk) f.nodes.length capk) rfl rfl rfl rfl rfl rfl rfl rfl ?_
        repeat (refine seqT_p tok rfl rfl rfl rfl ?_)
        refine seqT_ixo tok rfl rfl rfl rfl (by omega) (by omega) rfl rfl rfl ?_
        refine seqT_ld tok 3 (y := .own (some (rs i)) (lenE f i) (lenE f i)) rfl rfl rfl rfl (by rw [headed_eq]; show (ownR f rs)[(i : Int).toNat * 1]? = _; rw [Nat.mul_one, Int.toNat_natCast]; exact how) rfl rfl rfl ?_
        repeat (first | refine seqT_p tok rfl rfl rfl rfl ?_ | refine seqT_ld tok 0 rfl rfl rfl rfl rfl rfl rfl rfl ?_)
        refine SeqT.done ?_
        refine aops_ixo tok rfl rfl rfl rfl (by omega) (by omega) rfl rfl rfl ?_
        refine aops_stk tok (i + 4) (rowE (altE g f) (codeE i j :: L1) i (lenE f i)) (⟨some b8, 5, [.bool true, .bool true, .int .i64 a.rule, .int .i64 0, .psl q cs]⟩ :: ⟨some b6, 5, zeroE⟩ :: pkS g f pb bk capk rs (codeE i j :: L1) M) rfl rfl rfl rfl hM3 rfl (by show (j : Int).toNat * 5 + 5 ≤ _; rw [Int.toNat_natCast, hrl]; omega) (by
          have h := rowE_add (g := g) (f := f) (L := L1) (i := i) hjm hlj
          rw [hae] at h
          show (rowE (altE g f) L1 i (lenE f i)).take ((j : Int).toNat * 5) ++ (entU a.rule (true, q, cs) ++ (rowE (altE g f) L1 i (lenE f i)).drop ((j : Int).toNat * 5 + 5)) = _
          rw [Int.toNat_natCast]; exact h) (by
          show ⟨some b8, 5, [.bool true, .bool true, .int .i64 a.rule, .int .i64 0, .psl q cs]⟩ :: ⟨some b6, 5, zeroE⟩ :: ⟨some pb, 10, pkCells g f bk capk⟩ :: ⟨some bk, capk * 1, ownR f rs⟩ :: (rowsR f (altE g f) rs L1 ++ M).set i _ = _
          rw [rows_add hi hjm hlm M]) rfl rfl ?_
        refine aops_end ?_
        repeat (first | refine aops_end ?_ | refine aops_ld tok 0 rfl rfl rfl rfl rfl rfl rfl rfl ?_ | refine aops_stn1 tok rfl rfl rfl rfl rfl rfl rfl rfl rfl ?_ | refine acode_seq ?_ | refine acode_region ?_)
        refine acode_drop0 ?_
        refine acode_pubref0 6 rfl ?_
        refine acode_ret ?_
        skip
        exact ⟨_, ⟨codeE i j :: L1, by rw [hae]; rfl, rfl⟩, resOf_pp tok rfl rfl rfl⟩
      | false =>
        by_cases hq2 : q < a.kids.length
        · repeat' (first | refine aops_end ?_ | refine aops_pbt tok rfl (by first | omega | decide) rfl rfl rfl ?_ | refine aops_pbf tok rfl (by first | omega | decide) rfl rfl rfl ?_ | refine aops_p tok rfl rfl rfl rfl ?_ | refine acode_if rfl ?_ | refine aops_ld tok 0 rfl rfl rfl rfl rfl rfl rfl rfl ?_ | refine acode_seq ?_ | refine acode_region ?_)
          all_goals try (exfalso; omega)
          refine acode_exit ?_
          repeat (first | refine exit_then ?_ | refine exit_here ?_ | refine then_n ?_)
          refine acode_pubFld (sz := 3) (cs' := [.bool true, .bool false, .int .i64 a.rule, .int .i64 0, .psl q cs]) 4 rfl rfl hcs (by decide) rfl ?_
          refine acode_seq ?_
          refine acode_drawT 9 mixed (by kernel_rfl) (by kernel_rfl) ?_
          repeat (refine seqT_p tok rfl rfl rfl rfl ?_)
          refine seqT_ld tok 2 (y := .own (some bk) f.nodes.length capk) rfl rfl rfl rfl rfl rfl rfl rfl ?_
          repeat (refine seqT_p tok rfl rfl rfl rfl ?_)
          refine seqT_ixo tok rfl rfl rfl rfl (by omega) (by omega) rfl rfl rfl ?_
          refine seqT_ld tok 3 (y := .own (some (rs i)) (lenE f i) (lenE f i)) rfl rfl rfl rfl (by rw [headed_eq]; show (ownR f rs)[(i : Int).toNat * 1]? = _; rw [Nat.mul_one, Int.toNat_natCast]; exact how) rfl rfl rfl ?_
          repeat (first | refine seqT_p tok rfl rfl rfl rfl ?_ | refine seqT_ld tok 0 rfl rfl rfl rfl rfl rfl rfl rfl ?_)
          refine SeqT.done ?_
          refine aops_ixo tok rfl rfl rfl rfl (by omega) (by omega) rfl rfl rfl ?_
          refine aops_stk tok (i + 4) (rowE (altE g f) (codeE i j :: L1) i (lenE f i)) (⟨some b8, 5, [.bool true, .bool false, .int .i64 a.rule, .int .i64 0, .psl q cs]⟩ :: ⟨some b6, 5, zeroE⟩ :: pkS g f pb bk capk rs (codeE i j :: L1) M) rfl rfl rfl rfl hM3 rfl (by show (j : Int).toNat * 5 + 5 ≤ _; rw [Int.toNat_natCast, hrl]; omega) (by
            have h := rowE_add (g := g) (f := f) (L := L1) (i := i) hjm hlj
            rw [hae] at h
            show (rowE (altE g f) L1 i (lenE f i)).take ((j : Int).toNat * 5) ++ (entU a.rule (false, q, cs) ++ (rowE (altE g f) L1 i (lenE f i)).drop ((j : Int).toNat * 5 + 5)) = _
            rw [Int.toNat_natCast]; exact h) (by
            show ⟨some b8, 5, [.bool true, .bool false, .int .i64 a.rule, .int .i64 0, .psl q cs]⟩ :: ⟨some b6, 5, zeroE⟩ :: ⟨some pb, 10, pkCells g f bk capk⟩ :: ⟨some bk, capk * 1, ownR f rs⟩ :: (rowsR f (altE g f) rs L1 ++ M).set i _ = _
            rw [rows_add hi hjm hlm M]) rfl rfl ?_
          refine aops_end ?_
          repeat (first | refine aops_end ?_ | refine aops_ld tok 0 rfl rfl rfl rfl rfl rfl rfl rfl ?_ | refine aops_stn1 tok rfl rfl rfl rfl rfl rfl rfl rfl rfl ?_ | refine acode_seq ?_ | refine acode_region ?_)
          refine acode_drop0 ?_
          refine acode_pubref0 6 rfl ?_
          refine acode_ret ?_
          skip
          exact ⟨_, ⟨codeE i j :: L1, by rw [hae]; rfl, rfl⟩, resOf_pp tok rfl rfl rfl⟩
        · repeat' (first | refine aops_end ?_ | refine aops_o rfl rfl rfl ?_ | refine aops_pbf tok rfl (by first | omega | decide) rfl rfl rfl ?_ | refine aops_p tok rfl rfl rfl rfl ?_ | refine acode_if rfl ?_ | refine acode_seq ?_ | refine acode_region ?_)
          all_goals try (exfalso; omega)
          refine acode_exit ?_
          repeat (first | refine exit_then ?_ | refine exit_here ?_ | refine then_n ?_)
          refine acode_pubFld (sz := 3) (cs' := [.bool true, .bool false, .int .i64 a.rule, .int .i64 0, .psl q cs]) 4 rfl rfl hcs (by decide) rfl ?_
          refine acode_seq ?_
          refine acode_drawT 9 mixed (by kernel_rfl) (by kernel_rfl) ?_
          repeat (refine seqT_p tok rfl rfl rfl rfl ?_)
          refine seqT_ld tok 2 (y := .own (some bk) f.nodes.length capk) rfl rfl rfl rfl rfl rfl rfl rfl ?_
          repeat (refine seqT_p tok rfl rfl rfl rfl ?_)
          refine seqT_ixo tok rfl rfl rfl rfl (by omega) (by omega) rfl rfl rfl ?_
          refine seqT_ld tok 3 (y := .own (some (rs i)) (lenE f i) (lenE f i)) rfl rfl rfl rfl (by rw [headed_eq]; show (ownR f rs)[(i : Int).toNat * 1]? = _; rw [Nat.mul_one, Int.toNat_natCast]; exact how) rfl rfl rfl ?_
          repeat (first | refine seqT_p tok rfl rfl rfl rfl ?_ | refine seqT_ld tok 0 rfl rfl rfl rfl rfl rfl rfl rfl ?_)
          refine SeqT.done ?_
          refine aops_ixo tok rfl rfl rfl rfl (by omega) (by omega) rfl rfl rfl ?_
          refine aops_stk tok (i + 4) (rowE (altE g f) (codeE i j :: L1) i (lenE f i)) (⟨some b8, 5, [.bool true, .bool false, .int .i64 a.rule, .int .i64 0, .psl q cs]⟩ :: ⟨some b6, 5, zeroE⟩ :: pkS g f pb bk capk rs (codeE i j :: L1) M) rfl rfl rfl rfl hM3 rfl (by show (j : Int).toNat * 5 + 5 ≤ _; rw [Int.toNat_natCast, hrl]; omega) (by
            have h := rowE_add (g := g) (f := f) (L := L1) (i := i) hjm hlj
            rw [hae] at h
            show (rowE (altE g f) L1 i (lenE f i)).take ((j : Int).toNat * 5) ++ (entU a.rule (false, q, cs) ++ (rowE (altE g f) L1 i (lenE f i)).drop ((j : Int).toNat * 5 + 5)) = _
            rw [Int.toNat_natCast]; exact h) (by
            show ⟨some b8, 5, [.bool true, .bool false, .int .i64 a.rule, .int .i64 0, .psl q cs]⟩ :: ⟨some b6, 5, zeroE⟩ :: ⟨some pb, 10, pkCells g f bk capk⟩ :: ⟨some bk, capk * 1, ownR f rs⟩ :: (rowsR f (altE g f) rs L1 ++ M).set i _ = _
            rw [rows_add hi hjm hlm M]) rfl rfl ?_
          refine aops_end ?_
          repeat (first | refine aops_end ?_ | refine aops_ld tok 0 rfl rfl rfl rfl rfl rfl rfl rfl ?_ | refine aops_stn1 tok rfl rfl rfl rfl rfl rfl rfl rfl rfl ?_ | refine acode_seq ?_ | refine acode_region ?_)
          refine acode_drop0 ?_
          refine acode_pubref0 6 rfl ?_
          refine acode_ret ?_
          skip
          exact ⟨_, ⟨codeE i j :: L1, by rw [hae]; rfl, rfl⟩, resOf_pp tok rfl rfl rfl⟩
end Go.Proofs.Ytbnhmioijeagiaa.Ab
/- Chapter 24's reference: every node that counts promises what under promises. No condition. -/
set_option linter.unusedVariables false
set_option linter.unusedSimpArgs false
namespace Go.Proofs.Ytbnhmioijeagiaa.Ab

theorem big_kid {f : Fo} {i : Nat} (h : WF f i) (hb : big f i ≤ 1000000) {k : Nat} (hk : Kid f i k) : big f k ≤ 1000000 := by
  have hbM : bigM = 1099511627776 := rfl
  have hbe := big_eq h
  unfold bigN at hbe
  have h2 : bigA (big f) 0 (altsOf f i) + 1 = big f i := by
    split at hbe
    · omega
    · exact hbe.symm
  obtain ⟨a, ha, hm⟩ := hk
  have h1 := (bigA_mem (g := big f) (altsOf f i) 0 a ha).1
  have h4 : ∀ k : Nat, (k : Int) ∈ a.kids → 1 ≤ big f k := fun k hm => (big_is (h.kid ⟨a, ha, hm⟩)).1
  have h3 := bigK_exact (g := big f) a.kids 0 h4 (by omega)
  have := wgt_mem (g := big f) a.kids h4 k hm
  omega
theorem under_all {g : Gr} {f : Fo} (hgl : g.rules.length ≤ 1000000) (hfl : g.forbid.length ≤ 9223372036854775807) (hdy : ∀ r, -1000000 ≤ dynF g r ∧ dynF g r ≤ 1000000) (hf : FoOk f) (hwh : wholeB g f = true) (h8 : ∀ i, ∀ a ∈ altsOf f i, a.kids.length ≤ 1000 ∧ ∀ k ∈ a.kids, rng k) {k : Nat} (hw : WF f k) : big f k ≤ 1000000 → UnderC g f k := by
  have hdr : ∀ r, rng (dynF g r) := fun r => by have := hdy r; unfold rng; omega
  induction hw with
  | @mk i hi hk hs ih =>
    intro hb
    have hwf : WF f i := .mk hi hk hs
    refine under_of hgl hfl hdy hf hwf (fun p hp hpt => ?_) (fun j hj => ?_)
    · have hpa := pick_all hdr hwh (fun i a ha => (h8 i a ha).1) hwf p hp hpt
      have := big_tr hwf (by show _ < (1099511627776 : Int); omega) _ hpa.is.mem
      exact ⟨hpa, by omega⟩
    · have haj : (altsOf f i)[j]? = some (altsOf f i)[j] := List.getElem?_eq_getElem hj
      have ham := List.mem_of_getElem? haj
      obtain ⟨s, hof⟩ := whole_of hwh ham
      exact alt_of hf hi haj (of_filt hof).2.2.1 (h8 i _ ham).1 (h8 i _ ham).2 fun k hk => ih k ⟨_, ham, hk⟩ (big_kid hwf hb ⟨_, ham, hk⟩)
end Go.Proofs.Ytbnhmioijeagiaa.Ab
/- The reference's walk over a forest: which forests may be. No condition. -/
set_option linter.unusedVariables false
set_option linter.unusedSimpArgs false
namespace Go.Proofs.Ytbnhmioijeagiaa.Ab
attribute [local irreducible] thenA inBlockA ACode AOps put IntKind.wrap

abbrev wkR (f : Fo) (b bs : Nat) (bad : Bool) (st : List Int) (M : List Ob) : List Ob :=
  ⟨some b, 4, [.psl f.nodes.length (encs ndC f.nodes), .int .i64 f.root, .own (some bs) f.nodes.length f.nodes.length, .bool bad]⟩ :: ⟨some bs, f.nodes.length * 1, ints st⟩ :: M

theorem go1_bad {f : Fo} (b bs : Nat) (st : List Int) (i : Int) (M : List Ob) : ACalls Try.prog 76 [.ref b 0, .int .i64 i] (wkR f b bs true st M) (fun r M' => r = .tup [] ∧ M' = wkR f b bs true st M) := by
  refine acalls_of_code 88 Try.func76 rfl rfl rfl ?_
  repeat' (first | refine aops_end ?_ | refine aops_o rfl rfl rfl ?_ | refine aops_p tok rfl rfl rfl rfl ?_ | refine acode_it rfl ?_ | refine aops_ld tok 0 rfl rfl rfl rfl rfl rfl rfl rfl ?_ | refine acode_seq ?_ | refine acode_region ?_)
  refine acode_ret ?_
  repeat (refine ret_then ?_)
  exact ⟨_, ⟨rfl, rfl⟩, rfl⟩

set_option maxHeartbeats 4000000 in
theorem go1_calls {f : Fo} (hf : FoOk f) (hsm : ∀ i k, Kid f i k → k < f.nodes.length) (b bs : Nat) (M : List Ob) : ∀ (m : Nat) (st : List Int) (l : List Nat) (i : Nat), st.count 0 < m → Wk0 f st l → (∀ o : Nat, st[o]? = some 1 → Rch f o i) → i < f.nodes.length →
    ACalls Try.prog 76 [.ref b 0, .int .i64 i] (wkR f b bs false st M) (fun r M' => r = .tup [] ∧ ((WF f i ∧ ∃ st' l', M' = wkR f b bs false st' M ∧ Lp f st l st' l' ∧ i ∈ l') ∨ (¬ WF f i ∧ ∃ st', st'.length = f.nodes.length ∧ M' = wkR f b bs true st' M))) := by
  intro m
  induction m with
  | zero => intro st l i hm; omega
  | succ m ih =>
    intro st l i hm hw hopen hi
    obtain ⟨hf1, hf2⟩ := hf
    have hlt : i < st.length := by rw [hw.len]; exact hi
    obtain ⟨s, hs⟩ : ∃ s, st[i]? = some s := ⟨st[i], List.getElem?_eq_getElem hlt⟩
    have hsA : (ints st)[i * 1]? = some (A.int .i64 s) := by rw [Nat.mul_one]; exact ints_get hs
    refine acalls_of_code 88 Try.func76 rfl rfl rfl ?_
    repeat (first | refine aops_p tok rfl rfl rfl rfl ?_ | refine aops_ld tok 0 rfl rfl rfl rfl rfl rfl rfl rfl ?_ | refine acode_seq ?_ | refine acode_region ?_)
    refine aops_ixo tok rfl rfl rfl rfl (by omega) (by omega) rfl rfl rfl ?_
    refine aops_ld tok 1 (y := .int .i64 s) rfl rfl rfl rfl (by rw [headed_eq]; exact hsA) rfl rfl rfl ?_
    repeat' (first | refine aops_end ?_ | (refine aops_pd tok rfl rfl rfl rfl ?_ ?_ <;> intro e_) | refine aops_p tok rfl rfl rfl rfl ?_ | refine acode_it rfl ?_ | refine acode_if rfl ?_ | refine aops_ld tok 0 rfl rfl rfl rfl rfl rfl rfl rfl ?_ | refine acode_seq ?_ | refine acode_region ?_ | refine acode_skip ?_ | refine then_n ?_)
    · subst e_
      refine acode_ret ?_
      repeat (refine ret_then ?_)
      have hmem := (hw.don i).1 hs
      exact ⟨.tup [], ⟨rfl, .inl ⟨hw.topo.wf i hmem, st, l, rfl, ⟨hw, fun _ => Iff.rfl, fun _ h => h, Nat.le_refl _⟩, hmem⟩⟩, rfl⟩
    · have hne := e_
      refine aops_ixo tok rfl rfl rfl rfl (by omega) (by omega) rfl rfl rfl ?_
      refine aops_ld tok 1 (y := .int .i64 s) rfl rfl rfl rfl (by rw [headed_eq]; exact hsA) rfl rfl rfl ?_
      repeat' (first | refine aops_end ?_ | (refine aops_pd tok rfl rfl rfl rfl ?_ ?_ <;> intro e_) | refine aops_p tok rfl rfl rfl rfl ?_ | refine acode_it rfl ?_ | refine acode_if rfl ?_ | refine aops_ld tok 0 rfl rfl rfl rfl rfl rfl rfl rfl ?_ | refine aops_stn tok rfl rfl rfl rfl rfl rfl rfl rfl rfl ?_ | refine acode_seq ?_ | refine acode_region ?_ | refine acode_skip ?_ | refine then_n ?_)
      · subst e_
        refine acode_ret ?_
        repeat (refine ret_then ?_)
        exact ⟨.tup [], ⟨rfl, .inr ⟨fun hwf => hwf.noring (hopen i hs), st, hw.len, rfl⟩⟩, rfl⟩
      · have h0 : s = 0 := by rcases hw.val i s hs with h | h | h; exact h; exact absurd h e_; exact absurd h hne
        subst h0
        obtain ⟨hw1, hc1, hone1⟩ := wk_open hw hi hs
        obtain ⟨nd, hnd, hndm, hal⟩ := nodes_at hi
        obtain ⟨hal1, hal2⟩ := hf2 nd hndm
        refine aops_ixo tok rfl rfl rfl rfl (by omega) (by omega) rfl rfl rfl ?_
        refine aops_stk tok 1 (ints (st.set i 1)) (wkR f b bs false (st.set i 1) M) rfl rfl rfl rfl rfl rfl (by rw [ints_len]; show i * 1 + 1 ≤ _; omega) (ints_set1 hlt 1) rfl rfl rfl ?_
        have hL0 : Lp f (st.set i 1) l (st.set i 1) l := ⟨hw1, fun _ => Iff.rfl, fun _ h => h, Nat.le_refl _⟩
        generalize st.set i 1 = st1 at *
        repeat (first | refine aops_end ?_ | refine aops_p tok rfl rfl rfl rfl ?_ | refine aops_ld tok 0 rfl rfl rfl rfl rfl rfl rfl rfl ?_ | refine acode_seq ?_ | refine acode_region ?_)
        refine aops_ix tok (ndC nd) rfl rfl rfl rfl (by omega) (by omega) (by simp [ndC]) (nd_at hnd) rfl rfl rfl ?_
        repeat (first | refine aops_end ?_ | refine aops_p tok rfl rfl rfl rfl ?_ | refine acode_seq ?_ | refine acode_region ?_ | refine acode_block ?_)
        refine acode_loopS (ι := Nat × List Int × List Nat × Bool) (fun p => [(0, .ref b 0), (1, .int .i64 i), (4, .psl nd.alts.length (encs alC nd.alts)), (5, .int .i64 p.1)]) (fun p => wkR f b bs p.2.2.2 p.2.1 M) (fun p => nd.alts.length - p.1) (fun p => p.1 ≤ nd.alts.length ∧ (p.2.2.2 = false → Lp f st1 l p.2.1 p.2.2.1 ∧ Ahead f p.2.2.1 (nd.alts.take p.1)) ∧ (p.2.2.2 = true → ¬ WF f i ∧ p.2.1.length = f.nodes.length)) (0, st1, l, false) ⟨Nat.zero_le _, fun _ => ⟨hL0, by simp [Ahead]⟩, fun h => by cases h⟩ ⟨rfl, rfl, rfl, rfl, trivial⟩ rfl ?_
        rintro ⟨ai, st2, l2, bad2⟩ ⟨hai, hG2, hB2⟩
        simp only at hai hG2 hB2 ⊢
        repeat (first | refine aops_end ?_ | refine aops_p tok rfl rfl rfl rfl ?_ | refine acode_seq ?_ | refine acode_region ?_)
        refine acode_id rfl (fun e => ?_) (fun e => ?_)
        · have hail : ai < nd.alts.length := by omega
          obtain ⟨a, ha⟩ : ∃ a, nd.alts[ai]? = some a := ⟨nd.alts[ai], List.getElem?_eq_getElem hail⟩
          have ham := List.mem_of_getElem? ha
          have hkl := hal2 a ham
          repeat (first | refine aops_end ?_ | refine aops_p tok rfl rfl rfl rfl ?_ | refine acode_seq ?_ | refine acode_region ?_ | refine acode_block ?_ | refine acode_skip ?_ | refine then_n ?_)
          refine acode_loopS (ι := Nat × List Int × List Nat × Bool) (fun p => [(0, .ref b 0), (1, .int .i64 i), (4, .psl nd.alts.length (encs alC nd.alts)), (5, .int .i64 ai), (6, .int .i64 p.1)]) (fun p => wkR f b bs p.2.2.2 p.2.1 M) (fun p => a.kids.length - p.1) (fun p => p.1 ≤ a.kids.length ∧ (p.2.2.2 = false → Lp f st1 l p.2.1 p.2.2.1 ∧ Ahead f p.2.2.1 (nd.alts.take ai) ∧ ∀ k ∈ a.kids.take p.1, Dn f p.2.2.1 k) ∧ (p.2.2.2 = true → ¬ WF f i ∧ p.2.1.length = f.nodes.length)) (0, st2, l2, bad2) ⟨Nat.zero_le _, fun h => ⟨(hG2 h).1, (hG2 h).2, by simp⟩, hB2⟩ ⟨rfl, rfl, rfl, rfl, rfl, trivial⟩ rfl ?_
          clear hG2 hB2 st2 l2 bad2
          rintro ⟨ki, st2, l2, bad2⟩ ⟨hki, hG2, hB2⟩
          simp only at hki hG2 hB2 ⊢
          repeat (first | refine aops_p tok rfl rfl rfl rfl ?_ | refine acode_seq ?_ | refine acode_region ?_)
          refine aops_ix tok (alC a) rfl rfl rfl rfl (by omega) (by omega) (by simp [alC]) (al_at ha) rfl rfl rfl ?_
          repeat (first | refine aops_end ?_ | refine aops_p tok rfl rfl rfl rfl ?_)
          refine acode_id rfl (fun e2 => ?_) (fun e2 => ?_)
          · have hkil : ki < a.kids.length := by omega
            obtain ⟨k, hk⟩ : ∃ k, a.kids[ki]? = some k := ⟨a.kids[ki], List.getElem?_eq_getElem hkil⟩
            have hkid : Kid f i k := ⟨a, by rw [hal]; exact ham, List.mem_of_getElem? hk⟩
            have hkn := hsm i k hkid
            repeat (first | refine aops_p tok rfl rfl rfl rfl ?_ | refine acode_seq ?_ | refine acode_region ?_ | refine acode_block ?_ | refine acode_skip ?_ | refine then_n ?_)
            refine aops_ix tok (alC a) rfl rfl rfl rfl (by omega) (by omega) (by simp [alC]) (al_at ha) rfl rfl rfl ?_
            repeat (refine aops_p tok rfl rfl rfl rfl ?_)
            refine aops_ix tok [A.int .i64 k] rfl rfl rfl rfl (by omega) (by omega) (by simp) (ints_at (j := ki) (by simpa using hk)) rfl rfl rfl ?_
            repeat' (first | refine aops_end ?_ | refine aops_a tok rfl (by omega) (by omega) rfl rfl rfl ?_ | (refine aops_pd tok rfl rfl rfl rfl ?_ ?_ <;> intro e_) | refine aops_p tok rfl rfl rfl rfl ?_ | refine acode_it rfl ?_ | refine acode_if rfl ?_ | refine acode_region ?_ | refine acode_skip ?_ | refine then_n ?_ | refine block_n ?_)
            · refine aops_ix tok (alC a) rfl rfl rfl rfl (by omega) (by omega) (by simp [alC]) (al_at ha) rfl rfl rfl ?_
              repeat (refine aops_p tok rfl rfl rfl rfl ?_)
              refine aops_ix tok [A.int .i64 k] rfl rfl rfl rfl (by omega) (by omega) (by simp) (ints_at (j := ki) (by simpa using hk)) rfl rfl rfl ?_
              repeat (refine aops_p tok rfl rfl rfl rfl ?_)
              obtain ⟨k', rfl⟩ : ∃ k' : Nat, k = k' := ⟨k.toNat, by omega⟩
              cases bad2 with
              | true =>
                refine aops_call Try.func76 rfl rfl rfl rfl (go1_bad b bs st2 k' M) rfl rfl ?_
                rintro x M' ⟨rfl, rfl⟩
                repeat (first | refine aops_put rfl ?_ | refine aops_end ?_ | refine aops_endb ?_ | refine aops_a tok rfl (by omega) (by omega) rfl rfl rfl ?_ | refine aops_p tok rfl rfl rfl rfl ?_ | refine acode_region ?_ | refine then_n ?_)
                exact ⟨(ki + 1, st2, l2, true), ⟨by simp; omega, (fun h => by cases h), hB2⟩, by simp; omega, ⟨rfl, rfl, rfl, rfl, rfl, trivial⟩, rfl⟩
              | false =>
                obtain ⟨hL2, hA2, hK2⟩ := hG2 rfl
                refine aops_call Try.func76 rfl rfl rfl rfl (ih st2 l2 k' (by have := hL2.cnt; omega) hL2.w (fun o ho => ?_) (by omega)) rfl rfl ?_
                · rcases (hone1 o).1 ((hL2.one o).1 ho) with rfl | h
                  · exact .one hkid
                  · exact (hopen o h).snoc hkid
                · rintro x M' ⟨rfl, ⟨hwf, st3, l3, rfl, hL3, hm3⟩ | ⟨hwf, st3, hl3, rfl⟩⟩
                  · repeat (first | refine aops_put rfl ?_ | refine aops_end ?_ | refine aops_endb ?_ | refine aops_a tok rfl (by omega) (by omega) rfl rfl rfl ?_ | refine aops_p tok rfl rfl rfl rfl ?_ | refine acode_region ?_ | refine then_n ?_)
                    refine ⟨(ki + 1, st3, l3, false), ⟨by simp; omega, fun _ => ⟨hL2.trans hL3, hA2.mono hL3.sub, fun k hkm => ?_⟩, fun h => by cases h⟩, by simp; omega, ⟨rfl, rfl, rfl, rfl, rfl, trivial⟩, rfl⟩
                    rcases take_add_mem hk hkm with hkm | rfl
                    · exact (hK2 k hkm).mono hL3.sub
                    · exact ⟨hkn, fun k2 e => by rw [← Int.ofNat_inj.1 e]; exact hm3⟩
                  · repeat (first | refine aops_put rfl ?_ | refine aops_end ?_ | refine aops_endb ?_ | refine aops_a tok rfl (by omega) (by omega) rfl rfl rfl ?_ | refine aops_p tok rfl rfl rfl rfl ?_ | refine acode_region ?_ | refine then_n ?_)
                    exact ⟨(ki + 1, st3, l2, true), ⟨by simp; omega, (fun h => by cases h), fun _ => ⟨fun h => hwf (h.kid hkid), hl3⟩⟩, by simp; omega, ⟨rfl, rfl, rfl, rfl, rfl, trivial⟩, rfl⟩
            · refine ⟨(ki + 1, st2, l2, bad2), ⟨by simp; omega, fun h => ⟨(hG2 h).1, (hG2 h).2.1, fun k2 hkm => ?_⟩, hB2⟩, by simp; omega, ⟨rfl, rfl, rfl, rfl, rfl, trivial⟩, rfl⟩
              rcases take_add_mem hk hkm with hkm | rfl
              · exact (hG2 h).2.2 k2 hkm
              · exact ⟨hkn, fun k3 e => by omega⟩
          · have hge : ki = a.kids.length := by omega
            subst hge
            rw [List.take_length] at hG2
            refine acode_exit ?_
            repeat (first | refine exit_then ?_ | refine exit_here ?_ | refine then_n ?_ | refine block_n ?_)
            repeat (first | refine aops_end ?_ | refine aops_a tok rfl (by omega) (by omega) rfl rfl rfl ?_ | refine aops_p tok rfl rfl rfl rfl ?_ | refine acode_region ?_)
            exact ⟨(ai + 1, st2, l2, bad2), ⟨by simp; omega, fun h => ⟨(hG2 h).1, (hG2 h).2.1.add ha (hG2 h).2.2⟩, hB2⟩, by simp; omega, ⟨rfl, rfl, rfl, rfl, trivial⟩, rfl⟩
        · have hge : ai = nd.alts.length := by omega
          subst hge
          rw [List.take_length, ← hal] at hG2
          have hl2 : st2.length = f.nodes.length := by
            cases bad2 with
            | true => exact (hB2 rfl).2
            | false => exact (hG2 rfl).1.w.len
          have hlt2 : i < st2.length := by rw [hl2]; exact hi
          refine acode_exit ?_
          repeat (first | refine exit_then ?_ | refine exit_here ?_ | refine then_n ?_)
          repeat (first | refine aops_p tok rfl rfl rfl rfl ?_ | refine aops_ld tok 0 rfl rfl rfl rfl rfl rfl rfl rfl ?_ | refine acode_region ?_)
          refine aops_ixo tok rfl rfl rfl rfl (by omega) (by omega) rfl rfl rfl ?_
          refine aops_stk tok 1 (ints (st2.set i 2)) (wkR f b bs bad2 (st2.set i 2) M) rfl rfl rfl rfl rfl rfl (by rw [ints_len]; show i * 1 + 1 ≤ _; omega) (ints_set1 hlt2 2) rfl rfl rfl ?_
          refine aops_nil ?_
          cases bad2 with
          | true => exact ⟨.tup [], ⟨rfl, .inr ⟨(hB2 rfl).1, _, by simp [hl2], rfl⟩⟩, rfl⟩
          | false =>
            have hfin := wk_close hi hs hone1 hc1 (hG2 rfl).1 (hG2 rfl).2
            exact ⟨.tup [], ⟨rfl, .inl ⟨hfin.w.topo.wf i (by simp), _, _, rfl, hfin, by simp⟩⟩, rfl⟩

set_option maxHeartbeats 4000000 in
theorem rfform_calls {f : Fo} (hf : FoOk f) (M : List Ob) : ACalls Try.prog 43 [foA f] M (fun r M' => (FForm f ∧ r = .bool true ∨ ¬ FForm f ∧ r = .bool false) ∧ M' = M) := by
  obtain ⟨hf1, hf2⟩ := id hf
  refine acalls_of_code 83 Try.func43 rfl rfl rfl ?_
  repeat (first | refine acode_seq ?_ | refine acode_region ?_)
  refine aops_boxf rfl rfl rfl rfl rfl rfl rfl ?_
  repeat' (first | refine aops_end ?_ | refine aops_o rfl rfl rfl ?_ | (refine aops_pd tok rfl rfl rfl rfl ?_ ?_ <;> intro e_) | refine aops_p tok rfl rfl rfl rfl ?_ | refine acode_it rfl ?_ | refine acode_if rfl ?_ | refine acode_seq ?_ | refine acode_region ?_ | refine acode_block ?_ | refine acode_skip ?_ | refine then_n ?_)
  · refine acode_ret ?_
    repeat (refine ret_then ?_)
    exact ⟨_, ⟨.inr ⟨fun h => by have := h.1; omega, rfl⟩, rfl⟩, resOf_tmp rfl⟩
  · refine acode_ret ?_
    repeat (refine ret_then ?_)
    exact ⟨_, ⟨.inr ⟨fun h => by have := h.1; omega, rfl⟩, rfl⟩, resOf_tmp rfl⟩
  have h0 : 0 ≤ f.root ∧ f.root < f.nodes.length := by omega
  refine acode_loopS (ι := Nat) (fun p => [(1, .pp (foC f)), (3, .int .i64 p)]) (fun _ => M) (fun p => f.nodes.length - p) (fun p => p ≤ f.nodes.length ∧ ∀ i, i < p → ∀ k, Kid f i k → k < f.nodes.length) 0 ⟨Nat.zero_le _, fun i hi => by omega⟩ ⟨rfl, rfl, trivial⟩ rfl ?_
  rintro i ⟨hi, hsm⟩
  repeat (first | refine aops_end ?_ | refine aops_p tok rfl rfl rfl rfl ?_ | refine acode_seq ?_ | refine acode_region ?_)
  refine acode_id rfl (fun e => ?_) (fun e => ?_)
  · have hil : i < f.nodes.length := by omega
    obtain ⟨nd, hnd, hndm, hal⟩ := nodes_at hil
    obtain ⟨hal1, hal2⟩ := hf2 nd hndm
    repeat (first | refine aops_p tok rfl rfl rfl rfl ?_ | refine acode_seq ?_ | refine acode_region ?_ | refine acode_block ?_ | refine acode_skip ?_ | refine then_n ?_)
    refine aops_ix tok (ndC nd) rfl rfl rfl rfl (by omega) (by omega) (by simp [ndC]) (nd_at hnd) rfl rfl rfl ?_
    repeat (first | refine aops_end ?_ | refine aops_p tok rfl rfl rfl rfl ?_ | refine acode_seq ?_ | refine acode_region ?_ | refine acode_block ?_)
    refine acode_loopS (ι := Nat) (fun p => [(1, .pp (foC f)), (3, .int .i64 i), (4, .psl nd.alts.length (encs alC nd.alts)), (5, .int .i64 p)]) (fun _ => M) (fun p => nd.alts.length - p) (fun p => p ≤ nd.alts.length ∧ ∀ a ∈ nd.alts.take p, ∀ k ∈ a.kids, k < f.nodes.length) 0 ⟨Nat.zero_le _, by simp⟩ ⟨rfl, rfl, rfl, rfl, trivial⟩ rfl ?_
    rintro ai ⟨hai, hA⟩
    repeat (first | refine aops_end ?_ | refine aops_p tok rfl rfl rfl rfl ?_ | refine acode_seq ?_ | refine acode_region ?_)
    refine acode_id rfl (fun e2 => ?_) (fun e2 => ?_)
    · have hail : ai < nd.alts.length := by omega
      obtain ⟨a, ha⟩ : ∃ a, nd.alts[ai]? = some a := ⟨nd.alts[ai], List.getElem?_eq_getElem hail⟩
      have ham := List.mem_of_getElem? ha
      have hkl := hal2 a ham
      repeat (first | refine aops_end ?_ | refine aops_p tok rfl rfl rfl rfl ?_ | refine acode_seq ?_ | refine acode_region ?_ | refine acode_block ?_ | refine acode_skip ?_ | refine then_n ?_)
      refine acode_loopS (ι := Nat) (fun p => [(1, .pp (foC f)), (3, .int .i64 i), (4, .psl nd.alts.length (encs alC nd.alts)), (5, .int .i64 ai), (6, .int .i64 p)]) (fun _ => M) (fun p => a.kids.length - p) (fun p => p ≤ a.kids.length ∧ ∀ k ∈ a.kids.take p, k < f.nodes.length) 0 ⟨Nat.zero_le _, by simp⟩ ⟨rfl, rfl, rfl, rfl, rfl, trivial⟩ rfl ?_
      rintro ki ⟨hki, hK⟩
      repeat (first | refine aops_p tok rfl rfl rfl rfl ?_ | refine acode_seq ?_ | refine acode_region ?_)
      refine aops_ix tok (alC a) rfl rfl rfl rfl (by omega) (by omega) (by simp [alC]) (al_at ha) rfl rfl rfl ?_
      repeat (first | refine aops_end ?_ | refine aops_p tok rfl rfl rfl rfl ?_)
      refine acode_id rfl (fun e3 => ?_) (fun e3 => ?_)
      · have hkil : ki < a.kids.length := by omega
        obtain ⟨k, hk⟩ : ∃ k, a.kids[ki]? = some k := ⟨a.kids[ki], List.getElem?_eq_getElem hkil⟩
        have hkid : Kid f i k := ⟨a, by rw [hal]; exact ham, List.mem_of_getElem? hk⟩
        repeat (first | refine acode_seq ?_ | refine acode_block ?_ | refine acode_skip ?_ | refine then_n ?_)
        refine acode_drawT 12 mixed (by kernel_rfl) (by kernel_rfl) ?_
        repeat (refine seqT_p tok rfl rfl rfl rfl ?_)
        refine seqT_ix tok (alC a) rfl rfl rfl rfl (by omega) (by omega) (by simp [alC]) (al_at ha) rfl rfl rfl ?_
        repeat (refine seqT_p tok rfl rfl rfl rfl ?_)
        refine seqT_ix tok [A.int .i64 k] rfl rfl rfl rfl (by omega) (by omega) (by simp) (ints_at (j := ki) (by simpa using hk)) rfl rfl rfl ?_
        repeat (refine seqT_p tok rfl rfl rfl rfl ?_)
        refine SeqT.done ?_
        repeat (refine aops_end ?_)
        refine acode_id rfl (fun e4 => ?_) (fun e4 => ?_)
        · repeat (first | refine aops_end ?_ | refine aops_p tok rfl rfl rfl rfl ?_ | refine acode_seq ?_ | refine acode_region ?_)
          refine acode_ret ?_
          repeat (first | refine ret_then ?_ | refine ret_block ?_)
          exact ⟨_, ⟨.inr ⟨fun h => by have := (h.2 i hil).small hkid; omega, rfl⟩, rfl⟩, resOf_tmp rfl⟩
        · repeat (first | refine aops_end ?_ | refine aops_a tok rfl (by omega) (by omega) rfl rfl rfl ?_ | refine aops_p tok rfl rfl rfl rfl ?_ | refine acode_region ?_ | refine acode_skip ?_ | refine then_n ?_ | refine block_n ?_)
          refine ⟨ki + 1, ⟨by omega, fun k2 hkm => ?_⟩, by omega, ⟨rfl, rfl, rfl, rfl, rfl, trivial⟩, rfl⟩
          rcases take_add_mem hk hkm with hkm | rfl
          · exact hK k2 hkm
          · omega
      · have hge : ki = a.kids.length := by omega
        subst hge
        rw [List.take_length] at hK
        refine acode_exit ?_
        repeat (first | refine exit_then ?_ | refine exit_here ?_ | refine then_n ?_ | refine block_n ?_)
        repeat (first | refine aops_end ?_ | refine aops_a tok rfl (by omega) (by omega) rfl rfl rfl ?_ | refine aops_p tok rfl rfl rfl rfl ?_ | refine acode_region ?_)
        refine ⟨ai + 1, ⟨by omega, fun a2 ham2 => ?_⟩, by omega, ⟨rfl, rfl, rfl, rfl, trivial⟩, rfl⟩
        rcases take_add_mem ha ham2 with ham2 | rfl
        · exact hA a2 ham2
        · exact hK
    · have hge : ai = nd.alts.length := by omega
      subst hge
      rw [List.take_length, ← hal] at hA
      refine acode_exit ?_
      repeat (first | refine exit_then ?_ | refine exit_here ?_ | refine then_n ?_ | refine block_n ?_)
      repeat (first | refine aops_end ?_ | refine aops_a tok rfl (by omega) (by omega) rfl rfl rfl ?_ | refine aops_p tok rfl rfl rfl rfl ?_ | refine acode_region ?_)
      refine ⟨i + 1, ⟨by omega, fun j hj k hkid => ?_⟩, by omega, ⟨rfl, rfl, trivial⟩, rfl⟩
      by_cases h : j = i
      · subst h
        obtain ⟨a, ha, hk⟩ := hkid
        exact hA a ha k hk
      · exact hsm j (by omega) k hkid
  · have hge : i = f.nodes.length := by omega
    subst hge
    have hsm' : ∀ i k, Kid f i k → k < f.nodes.length := by
      intro i k hk
      by_cases h : i < f.nodes.length
      · exact hsm i h k hk
      · obtain ⟨a, ha, _⟩ := hk
        rw [altsOf, List.getElem?_eq_none (by omega)] at ha
        simp at ha
    refine acode_exit ?_
    repeat (first | refine exit_then ?_ | refine exit_here ?_ | refine then_n ?_)
    repeat (refine acode_seq ?_)
    refine acode_drawP [] 7 [0, 1, 2, 3, 4, 5, 6] [4, 6] mixed (by kernel_rfl) (by kernel_rfl) rfl ?_
    repeat (refine seqO_p tok rfl rfl rfl rfl rfl ?_)
    refine seqO_mk tok f.nodes.length rfl rfl rfl rfl rfl rfl rfl (by show _ * 8 ≤ _; omega) (by omega) (by simp) rfl rfl rfl fun bs => ?_
    repeat (refine seqO_p tok rfl rfl rfl rfl rfl ?_)
    refine seqO_boxo rfl rfl rfl rfl (by simp) rfl rfl rfl rfl fun b => ?_
    refine SeqO.done ?_
    repeat (refine aops_p tok rfl rfl rfl rfl ?_)
    refine aops_end ?_
    refine acode_M (M' := wkR f b bs false (List.replicate f.nodes.length 0) M) (by simp only [wkR]; rw [← ints_zeros]; rfl) ?_
    have hw0 := wk0_init f
    have hno : ∀ o : Nat, (List.replicate f.nodes.length (0 : Int))[o]? ≠ some 1 := fun o h => by have := count_zeros _ _ _ h; omega
    generalize List.replicate f.nodes.length (0 : Int) = st at *
    repeat (first | refine aops_end ?_ | refine aops_p tok rfl rfl rfl rfl ?_ | refine acode_seq ?_ | refine acode_region ?_ | refine acode_block ?_)
    refine acode_loopS (ι := Nat × List Int × List Nat × Bool) (fun p => [(1, .pp (foC f)), (7, .ref b 0), (8, .int .i64 p.1)]) (fun p => wkR f b bs p.2.2.2 p.2.1 M) (fun p => f.nodes.length - p.1) (fun p => p.1 ≤ f.nodes.length ∧ (p.2.2.2 = false → Wk0 f p.2.1 p.2.2.1 ∧ (∀ o : Nat, p.2.1[o]? ≠ some 1) ∧ ∀ j, j < p.1 → j ∈ p.2.2.1) ∧ (p.2.2.2 = true → ¬ FForm f)) (0, st, [], false) ⟨Nat.zero_le _, fun _ => ⟨hw0, hno, fun j hj => by simp at hj⟩, fun h => by cases h⟩ ⟨rfl, rfl, rfl, trivial⟩ rfl ?_
    rintro ⟨i, st1, l, bad⟩ ⟨hi, hG, hB⟩
    simp only at hi hG hB ⊢
    repeat (first | refine aops_end ?_ | refine aops_p tok rfl rfl rfl rfl ?_ | refine acode_seq ?_ | refine acode_region ?_)
    refine acode_id rfl (fun e => ?_) (fun e => ?_)
    · have hil : i < f.nodes.length := by omega
      repeat (first | refine aops_p tok rfl rfl rfl rfl ?_ | refine acode_seq ?_ | refine acode_region ?_ | refine acode_block ?_ | refine acode_skip ?_ | refine then_n ?_)
      cases bad with
      | true =>
        refine aops_call Try.func76 rfl rfl rfl rfl (go1_bad b bs st1 i M) rfl rfl ?_
        rintro x M' ⟨rfl, rfl⟩
        repeat (first | refine aops_put rfl ?_ | refine aops_end ?_ | refine aops_endb ?_ | refine aops_a tok rfl (by omega) (by omega) rfl rfl rfl ?_ | refine aops_p tok rfl rfl rfl rfl ?_ | refine acode_region ?_ | refine then_n ?_)
        exact ⟨(i + 1, st1, l, true), ⟨by simp; omega, (fun h => by cases h), hB⟩, by simp; omega, ⟨rfl, rfl, rfl, trivial⟩, rfl⟩
      | false =>
        obtain ⟨hw, hone, hdone⟩ := hG rfl
        refine aops_call Try.func76 rfl rfl rfl rfl (go1_calls hf hsm' b bs M (st1.count 0 + 1) st1 l i (by omega) hw (fun o h => absurd h (hone o)) hil) rfl rfl ?_
        rintro x M' ⟨rfl, ⟨hwf, st3, l3, rfl, hL, hm⟩ | ⟨hwf, st3, hl3, rfl⟩⟩
        · repeat (first | refine aops_put rfl ?_ | refine aops_end ?_ | refine aops_endb ?_ | refine aops_a tok rfl (by omega) (by omega) rfl rfl rfl ?_ | refine aops_p tok rfl rfl rfl rfl ?_ | refine acode_region ?_ | refine then_n ?_)
          refine ⟨(i + 1, st3, l3, false), ⟨by simp; omega, fun _ => ⟨hL.w, fun o h => hone o ((hL.one o).1 h), fun j hj => ?_⟩, fun h => by cases h⟩, by simp; omega, ⟨rfl, rfl, rfl, trivial⟩, rfl⟩
          by_cases h : j = i
          · subst h; exact hm
          · exact hL.sub j (hdone j (by simp at hj; omega))
        · repeat (first | refine aops_put rfl ?_ | refine aops_end ?_ | refine aops_endb ?_ | refine aops_a tok rfl (by omega) (by omega) rfl rfl rfl ?_ | refine aops_p tok rfl rfl rfl rfl ?_ | refine acode_region ?_ | refine then_n ?_)
          exact ⟨(i + 1, st3, l, true), ⟨by simp; omega, (fun h => by cases h), fun _ h => hwf (h.2 i hil)⟩, by simp; omega, ⟨rfl, rfl, rfl, trivial⟩, rfl⟩
    · have hge : i = f.nodes.length := by omega
      subst hge
      refine acode_exit ?_
      repeat (first | refine exit_then ?_ | refine exit_here ?_ | refine then_n ?_)
      repeat (first | refine aops_end ?_ | refine aops_p tok rfl rfl rfl rfl ?_ | refine aops_ld tok 0 rfl rfl rfl rfl rfl rfl rfl rfl ?_ | refine acode_seq ?_ | refine acode_region ?_)
      refine acode_drop0 (acode_drop0 (acode_ret ?_))
      skip
      cases bad with
      | true => exact ⟨_, ⟨.inr ⟨hB rfl, rfl⟩, rfl⟩, resOf_tmp rfl⟩
      | false => exact ⟨_, ⟨.inl ⟨⟨h0, fun i hi => (hG rfl).1.topo.wf i ((hG rfl).2.2 i hi)⟩, rfl⟩, rfl⟩, resOf_tmp rfl⟩
end Go.Proofs.Ytbnhmioijeagiaa.Ab
/- Chapter 24's reference: what fits: the walk. No condition. -/
set_option linter.unusedVariables false
set_option linter.unusedSimpArgs false
namespace Go.Proofs.Ytbnhmioijeagiaa.Ab
attribute [local irreducible] thenA inBlockA ACode AOps put IntKind.wrap

theorem rulesF_some {g : Gr} : ∀ (rs : List Ru) (i : Nat) (p : Int × Int), rulesF g i rs = some p → p.2 ≠ 0
  | [], _, _, h => by cases h
  | r :: rs, i, p, h => by
    rw [rulesF] at h
    split at h
    · rename_i h1; cases h; exact h1
    · exact rulesF_some rs _ p h
theorem rulesF_none {g : Gr} : ∀ (rs : List Ru) (i : Nat), rulesF g i rs = none → ∀ r ∈ rs, ruleF g r = 0
  | [], _, _ => by simp
  | r :: rs, i, h => by
    rw [rulesF] at h
    split at h
    · cases h
    · rename_i h1
      intro r' hr'
      rcases List.mem_cons.1 hr' with rfl | h2
      · exact Decidable.not_not.1 h1
      · exact rulesF_none rs _ h r' h2
theorem form_ok2 {g : Gr} (h : (formF g).2 = 0) : ¬ bigB g ∧ ∀ r ∈ g.rules, isName g r.left ∧ r.right.length ≤ 8 ∧ (∀ s ∈ r.right, isSym g s) ∧ -1000 ≤ r.dyn ∧ r.dyn ≤ 1000 := by
  unfold formF at h
  split at h
  · rename_i h1; exact absurd h h1
  · rename_i h1
    have hw : wholeF g = 0 := Decidable.not_not.1 h1
    unfold wholeF at hw
    split at hw
    · cases hw
    · rename_i h2
      split at hw
      · cases hw
      · rename_i h3
        refine ⟨h2, ?_⟩
        split at h
        · rename_i p hp; exact absurd h (rulesF_some _ _ p hp)
        · rename_i hp
          intro r hr
          have h4 := rulesF_none _ _ hp r hr
          unfold ruleF at h4
          split at h4
          · cases h4
          · rename_i h5
            split at h4
            · cases h4
            · rename_i h6
              split at h4
              · cases h4
              · rename_i h7
                refine ⟨Decidable.not_not.1 (fun h7 => h5 (.inl h7)), by omega, fun s hs => ?_, by omega, by omega⟩
                apply Decidable.not_not.1
                intro h8
                exact h5 (.inr (List.any_eq_true.2 ⟨s, hs, by simp [h8]⟩))
theorem dyn_ok {g : Gr} (h : (formF g).2 = 0) (r : Int) : -1000000 ≤ dynF g r ∧ dynF g r ≤ 1000000 := by
  unfold dynF
  split
  · rename_i h1
    have hm : ruleAt g r ∈ g.rules := List.mem_of_getElem? (ruleAt_at h1.1 h1.2)
    have := (form_ok2 h).2 _ hm
    omega
  · omega
set_option maxHeartbeats 16000000 in
theorem rfits_calls {g : Gr} {f : Fo} {sym : Int} {a : Al} (hg : GrOk g) (hsy : ∀ r ∈ g.rules, ∀ s ∈ r.right, isSym g s) (hal : a.kids.length ≤ 9223372036854775807) (hk : ∀ k ∈ a.kids, k < f.nodes.length) (M : List Ob) : ACalls Try.prog 74 [grA g, foA f, .int .i64 sym, .agg (alC a)] M (fun x M' => x = .bool (ofB g f sym a) ∧ M' = M) := by
  refine acalls_of_code 100 Try.func74 rfl rfl rfl ?_
  repeat (first | refine acode_seq ?_ | refine acode_region ?_)
  refine aops_boxf rfl rfl rfl rfl rfl rfl rfl ?_
  refine aops_boxf rfl rfl rfl rfl rfl rfl rfl ?_
  skip
  refine aops_boxf rfl rfl rfl rfl rfl rfl rfl ?_
  repeat (first | refine aops_end ?_ | refine aops_p tok rfl rfl rfl rfl ?_ | refine acode_seq ?_)
  by_cases h : 0 ≤ a.rule ∧ a.rule < g.rules.length
  rotate_left
  · have hF : ofB g f sym a = false := by unfold ofB; rw [decide_eq_false (fun h2 => h h2.1)]; rfl
    refine acode_drawT 36 mixed (by kernel_rfl) (by kernel_rfl) ?_
    repeat' (first | refine seqT_o rfl rfl rfl ?_ | (refine seqT_pd tok rfl rfl rfl rfl ?_ ?_ <;> intro e_) | refine seqT_p tok rfl rfl rfl rfl ?_)
    all_goals try (exfalso; omega)
    all_goals
      (refine SeqT.done ?_
       repeat' (first | refine aops_end ?_ | refine aops_p tok rfl rfl rfl rfl ?_ | refine acode_it rfl ?_ | refine acode_seq ?_ | refine acode_region ?_)
       refine acode_ret ?_
       repeat (refine ret_then ?_)
       exact ⟨.bool false, ⟨by rw [hF], rfl⟩, resOf_tmp rfl⟩)
  obtain ⟨h0, h1⟩ := h
  have hr : g.rules[a.rule.toNat]? = some (ruleAt g a.rule) := ruleAt_at h0 h1
  have hrm := List.mem_of_getElem? hr
  have hrr := (hg.rr _ hrm).1
  have hra := encs_at (e := ruC) (s := 3) (fun _ => rfl) hr
  have hsr := hsy _ hrm
  have hF : ofB g f sym a = (decide ((ruleAt g a.rule).left = sym ∧ a.kids.length = (ruleAt g a.rule).right.length) && (List.range a.kids.length).all fun i => fitB g f (a.kids.getD i 0) ((ruleAt g a.rule).right.getD i 0)) := by
    unfold ofB
    congr 1
    simp [h0, h1]
  generalize ruleAt g a.rule = u at *
  refine acode_joinI (ι := Unit) (fun _ => [(4, .pp (grC g)), (5, .pp (foC f)), (7, .pp (alC a)), (8, .bool false), (46, .bool (!decide (u.left = sym ∧ a.kids.length = u.right.length)))]) (fun _ => M) (fun _ => True) ?_ ?_
  · refine acode_drawT 36 mixed (by kernel_rfl) (by kernel_rfl) ?_
    repeat' (first | refine seqT_o rfl rfl rfl ?_ | (refine seqT_pd tok rfl rfl rfl rfl ?_ ?_ <;> intro e_) | refine seqT_p tok rfl rfl rfl rfl ?_)
    all_goals try (exfalso; omega)
    refine seqT_ix tok (ruC u) rfl rfl rfl rfl (by omega) (by omega) (by simp [ruC]) hra rfl rfl rfl ?_
    by_cases hl : u.left = sym
    rotate_left
    · rw [decide_eq_false (fun h => hl h.1)]
      repeat' (first | refine seqT_o rfl rfl rfl ?_ | (refine seqT_pn tok rfl rfl rfl rfl ?_ ?_ <;> intro e_) | refine seqT_p tok rfl rfl rfl rfl ?_)
      all_goals try (exfalso; omega)
      refine SeqT.done ?_
      repeat (refine aops_end ?_)
      exact ⟨(), trivial, ⟨rfl, rfl, rfl, rfl, rfl, trivial⟩, rfl⟩
    repeat' (first | refine seqT_o rfl rfl rfl ?_ | (refine seqT_pn tok rfl rfl rfl rfl ?_ ?_ <;> intro e_) | refine seqT_p tok rfl rfl rfl rfl ?_)
    all_goals try (exfalso; omega)
    refine seqT_ix tok (ruC u) rfl rfl rfl rfl (by omega) (by omega) (by simp [ruC]) hra rfl rfl rfl ?_
    by_cases hn : a.kids.length = u.right.length
    · rw [decide_eq_true ⟨hl, hn⟩]
      repeat' (first | (refine seqT_pn tok rfl rfl rfl rfl ?_ ?_ <;> intro e_) | refine seqT_p tok rfl rfl rfl rfl ?_)
      all_goals try (exfalso; omega)
      refine SeqT.done ?_
      repeat (refine aops_end ?_)
      exact ⟨(), trivial, ⟨rfl, rfl, rfl, rfl, rfl, trivial⟩, rfl⟩
    · rw [decide_eq_false (fun h => hn h.2)]
      repeat' (first | (refine seqT_pn tok rfl rfl rfl rfl ?_ ?_ <;> intro e_) | refine seqT_p tok rfl rfl rfl rfl ?_)
      all_goals try (exfalso; omega)
      refine SeqT.done ?_
      repeat (refine aops_end ?_)
      exact ⟨(), trivial, ⟨rfl, rfl, rfl, rfl, rfl, trivial⟩, rfl⟩
  rintro - -
  by_cases hb : u.left = sym ∧ a.kids.length = u.right.length
  rotate_left
  · rw [decide_eq_false hb] at hF
    rw [decide_eq_false hb]
    repeat' (first | refine aops_end ?_ | refine aops_p tok rfl rfl rfl rfl ?_ | refine acode_it rfl ?_ | refine acode_seq ?_ | refine acode_region ?_)
    refine acode_ret ?_
    repeat (refine ret_then ?_)
    exact ⟨.bool false, ⟨by rw [hF]; rfl, rfl⟩, resOf_tmp rfl⟩
  rw [decide_eq_true hb, Bool.true_and] at hF
  rw [decide_eq_true hb]
  obtain ⟨hl, hn⟩ := hb
  generalize hX : (fun i => fitB g f (a.kids.getD i 0) (u.right.getD i 0)) = X at hF
  repeat' (first | refine aops_end ?_ | refine aops_p tok rfl rfl rfl rfl ?_ | refine acode_if rfl ?_ | refine acode_seq ?_ | refine acode_region ?_ | refine acode_block ?_ | refine acode_skip ?_ | refine then_n ?_)
  refine acode_loopS (ι := Nat) (fun q => [(4, .pp (grC g)), (5, .pp (foC f)), (7, .pp (alC a)), (8, .bool false), (9, .int .i64 q)]) (fun _ => M) (fun q => a.kids.length - q) (fun q => q ≤ a.kids.length ∧ (List.range q).all X = true) 0 ⟨Nat.zero_le _, rfl⟩ ⟨rfl, rfl, rfl, rfl, rfl, trivial⟩ rfl ?_
  rintro q ⟨hq, hall⟩
  repeat (first | refine aops_end ?_ | refine aops_p tok rfl rfl rfl rfl ?_ | refine acode_seq ?_ | refine acode_region ?_)
  refine acode_id rfl (fun e => ?_) (fun e => ?_)
  · have hql : q < a.kids.length := by omega
    obtain ⟨k, hkk⟩ : ∃ k, a.kids[q]? = some k := ⟨a.kids[q], List.getElem?_eq_getElem hql⟩
    obtain ⟨s, hs⟩ : ∃ s, u.right[q]? = some s := ⟨u.right[q]'(by omega), List.getElem?_eq_getElem (by omega)⟩
    have hXq : X q = fitB g f k s := by rw [← hX]; simp only; rw [List.getD_eq_getElem?_getD, hkk, List.getD_eq_getElem?_getD, hs]; rfl
    have hsn : isName g s ↔ 0 ≤ s := by
      have := hsr s (List.mem_of_getElem? hs)
      unfold isSym isKind isName at *
      omega
    have hkl := hk k (List.mem_of_getElem? hkk)
    repeat (first | refine aops_p tok rfl rfl rfl rfl ?_ | refine acode_seq ?_ | refine acode_region ?_ | refine acode_block ?_ | refine acode_skip ?_ | refine then_n ?_)
    refine aops_ix tok (ruC u) rfl rfl rfl rfl (by omega) (by omega) (by simp [ruC]) hra rfl rfl rfl ?_
    repeat (refine aops_p tok rfl rfl rfl rfl ?_)
    refine aops_ix tok [A.int .i64 s] rfl rfl rfl rfl (by omega) (by omega) (by simp) (ints_at (j := q) (by simpa using hs)) rfl rfl rfl ?_
    repeat (first | refine aops_end ?_ | refine aops_p tok rfl rfl rfl rfl ?_ | refine acode_seq ?_)
    refine acode_joinI (ι := Unit) (fun _ => [(4, .pp (grC g)), (5, .pp (foC f)), (7, .pp (alC a)), (8, .bool false), (9, .int .i64 q), (99, .bool (!X q))]) (fun _ => M) (fun _ => True) ?_ ?_
    · unfold fitB at hXq
      refine acode_drawT 36 mixed (by kernel_rfl) (by kernel_rfl) ?_
      by_cases hs0 : s < 0
      · rw [if_neg (fun h => by have := hsn.1 h; omega)] at hXq
        repeat' (first | refine seqT_o rfl rfl rfl ?_ | (refine seqT_pd tok rfl rfl rfl rfl ?_ ?_ <;> intro e_) | refine seqT_p tok rfl rfl rfl rfl ?_)
        all_goals try (exfalso; omega)
        refine seqT_ix tok [A.int .i64 k] rfl rfl rfl rfl (by omega) (by omega) (by simp) (ints_at (j := q) (by simpa using hkk)) rfl rfl rfl ?_
        by_cases hk0 : k < 0
        · rw [hXq, decide_eq_true hk0]
          repeat' (first | refine seqT_o rfl rfl rfl ?_ | (refine seqT_pd tok rfl rfl rfl rfl ?_ ?_ <;> intro e_) | refine seqT_p tok rfl rfl rfl rfl ?_)
          all_goals try (exfalso; omega)
          refine SeqT.done ?_
          repeat (refine aops_end ?_)
          exact ⟨(), trivial, ⟨rfl, rfl, rfl, rfl, rfl, rfl, trivial⟩, rfl⟩
        · rw [hXq, decide_eq_false hk0]
          repeat' (first | refine seqT_o rfl rfl rfl ?_ | (refine seqT_pd tok rfl rfl rfl rfl ?_ ?_ <;> intro e_) | refine seqT_p tok rfl rfl rfl rfl ?_)
          all_goals try (exfalso; omega)
          refine SeqT.done ?_
          repeat (refine aops_end ?_)
          exact ⟨(), trivial, ⟨rfl, rfl, rfl, rfl, rfl, rfl, trivial⟩, rfl⟩
      · rw [if_pos (hsn.2 (by omega))] at hXq
        repeat' (first | refine seqT_o rfl rfl rfl ?_ | (refine seqT_pd tok rfl rfl rfl rfl ?_ ?_ <;> intro e_) | refine seqT_p tok rfl rfl rfl rfl ?_)
        all_goals try (exfalso; omega)
        refine seqT_ix tok [A.int .i64 k] rfl rfl rfl rfl (by omega) (by omega) (by simp) (ints_at (j := q) (by simpa using hkk)) rfl rfl rfl ?_
        by_cases hk0 : k < 0
        · rw [hXq, decide_eq_false (fun h => by omega)]
          repeat' (first | refine seqT_o rfl rfl rfl ?_ | (refine seqT_pd tok rfl rfl rfl rfl ?_ ?_ <;> intro e_) | refine seqT_p tok rfl rfl rfl rfl ?_)
          all_goals try (exfalso; omega)
          refine SeqT.done ?_
          repeat (refine aops_end ?_)
          exact ⟨(), trivial, ⟨rfl, rfl, rfl, rfl, rfl, rfl, trivial⟩, rfl⟩
        · have hnk := nodeD_at hkl (by omega)
          generalize f.nodes.getD k.toNat ⟨0, 0, 0, []⟩ = nk at *
          repeat' (first | refine seqT_o rfl rfl rfl ?_ | (refine seqT_pd tok rfl rfl rfl rfl ?_ ?_ <;> intro e_) | refine seqT_p tok rfl rfl rfl rfl ?_)
          all_goals try (exfalso; omega)
          refine seqT_ix tok [A.int .i64 k] rfl rfl rfl rfl (by omega) (by omega) (by simp) (ints_at (j := q) (by simpa using hkk)) rfl rfl rfl ?_
          repeat' (refine seqT_p tok rfl rfl rfl rfl ?_)
          all_goals try (exfalso; omega)
          refine seqT_ix tok (ndC nk) rfl rfl rfl rfl (by omega) (by omega) (by simp [ndC]) (nd_at hnk) rfl rfl rfl ?_
          by_cases hns : nk.sym = s
          · rw [hXq, decide_eq_true ⟨by omega, hns⟩]
            repeat' (first | (refine seqT_pn tok rfl rfl rfl rfl ?_ ?_ <;> intro e_) | refine seqT_p tok rfl rfl rfl rfl ?_)
            all_goals try (exfalso; omega)
            refine SeqT.done ?_
            repeat (refine aops_end ?_)
            exact ⟨(), trivial, ⟨rfl, rfl, rfl, rfl, rfl, rfl, trivial⟩, rfl⟩
          · rw [hXq, decide_eq_false (fun h => hns h.2)]
            repeat' (first | (refine seqT_pn tok rfl rfl rfl rfl ?_ ?_ <;> intro e_) | refine seqT_p tok rfl rfl rfl rfl ?_)
            all_goals try (exfalso; omega)
            refine SeqT.done ?_
            repeat (refine aops_end ?_)
            exact ⟨(), trivial, ⟨rfl, rfl, rfl, rfl, rfl, rfl, trivial⟩, rfl⟩
    rintro - -
    cases hx : X q with
    | true =>
      repeat' (first | refine aops_end ?_ | refine aops_a tok rfl (by omega) (by omega) rfl rfl rfl ?_ | refine aops_p tok rfl rfl rfl rfl ?_ | refine acode_if rfl ?_ | refine acode_region ?_ | refine acode_skip ?_ | refine then_n ?_ | refine block_n ?_)
      exact ⟨q + 1, ⟨by omega, by rw [List.range_succ, List.all_append, hall]; simp [hx]⟩, by omega, ⟨rfl, rfl, rfl, rfl, rfl, trivial⟩, rfl⟩
    | false =>
      repeat' (first | refine aops_end ?_ | refine aops_p tok rfl rfl rfl rfl ?_ | refine acode_it rfl ?_ | refine acode_seq ?_ | refine acode_region ?_)
      refine acode_ret ?_
      repeat (first | refine ret_then ?_ | refine ret_block ?_)
      have : (List.range a.kids.length).all X = false := by
        rw [List.all_eq_false]
        exact ⟨q, List.mem_range.2 hql, by simp [hx]⟩
      exact ⟨.bool false, ⟨by rw [hF, this], rfl⟩, resOf_tmp rfl⟩
  · obtain rfl : q = a.kids.length := by omega
    refine acode_exit ?_
    repeat (first | refine exit_then ?_ | refine exit_here ?_ | refine then_n ?_)
    repeat (first | refine aops_end ?_ | refine aops_p tok rfl rfl rfl rfl ?_ | refine acode_seq ?_ | refine acode_region ?_)
    refine acode_ret ?_
    skip
    exact ⟨.bool true, ⟨by rw [hF, hall], rfl⟩, resOf_tmp rfl⟩
end Go.Proofs.Ytbnhmioijeagiaa.Ab
/- Chapter 24's reference: Fits: the walk. No condition. -/
set_option linter.unusedVariables false
set_option linter.unusedSimpArgs false
namespace Go.Proofs.Ytbnhmioijeagiaa.Ab
attribute [local irreducible] thenA inBlockA ACode AOps put IntKind.wrap

def FitsP (g : Gr) (f : Fo) : Prop := (formF g).2 = 0 ∧ FForm f ∧ wholeB g f = true
def nodeB (g : Gr) (f : Fo) (n : Nd) : Bool := n.alts.all fun a => ofB g f n.sym a
theorem whole_all {g : Gr} {f : Fo} : wholeB g f = f.nodes.all (nodeB g f) := by
  unfold wholeB nodeB
  rw [List.not_any_eq_all_not]
  congr 1
  funext n
  rw [List.not_any_eq_all_not]
  congr 1
  funext a
  simp
theorem all_take {α : Type} {p : α → Bool} {l : List α} {i : Nat} {x : α} (hx : l[i]? = some x) (h : (l.take i).all p = true) : (l.take (i + 1)).all p = p x := by
  rw [List.take_add_one, hx, List.all_append, h]
  simp
set_option maxHeartbeats 16000000 in
theorem rfitsF_calls {g : Gr} {f : Fo} (hg : GrOk g) (hf : FoOk f) (M : List Ob) : ACalls Try.prog 41 [grA g, foA f] M (fun x M' => (FitsP g f ∧ x = .bool true ∨ ¬ FitsP g f ∧ x = .bool false) ∧ M' = M) := by
  obtain ⟨hf1, hf2⟩ := id hf
  refine acalls_of_code 55 Try.func41 rfl rfl rfl ?_
  repeat (first | refine acode_seq ?_ | refine acode_region ?_)
  refine aops_boxf rfl rfl rfl rfl rfl rfl rfl ?_
  refine aops_boxf rfl rfl rfl rfl rfl rfl rfl ?_
  repeat (first | refine aops_end ?_ | refine aops_p tok rfl rfl rfl rfl ?_ | refine acode_seq ?_ | refine acode_region ?_)
  refine aops_callx Try.func29 rfl rfl rfl rfl (rform_calls hg _) rfl rfl rfl ?_
  unfold tup2
  by_cases h0 : (formF g).2 = 0
  rotate_left
  · have hno : ¬ FitsP g f := fun h => h0 h.1
    repeat' (first | refine aops_end ?_ | refine aops_o rfl rfl rfl ?_ | (refine aops_pn tok rfl rfl rfl rfl ?_ ?_ <;> intro e_) | refine aops_p tok rfl rfl rfl rfl ?_ | refine acode_it rfl ?_ | refine acode_seq ?_ | refine acode_region ?_)
    all_goals try (exfalso; omega)
    refine acode_ret ?_
    repeat (refine ret_then ?_)
    exact ⟨.bool false, ⟨.inr ⟨hno, rfl⟩, rfl⟩, resOf_tmp rfl⟩
  have hsy : ∀ r ∈ g.rules, ∀ s ∈ r.right, isSym g s := fun r hr => ((form_ok2 h0).2 r hr).2.2.1
  repeat' (first | refine aops_end ?_ | refine aops_o rfl rfl rfl ?_ | (refine aops_pn tok rfl rfl rfl rfl ?_ ?_ <;> intro e_) | refine aops_p tok rfl rfl rfl rfl ?_ | refine acode_it rfl ?_ | refine acode_seq ?_ | refine acode_region ?_)
  all_goals try (exfalso; omega)
  refine aops_call Try.func43 rfl rfl rfl rfl (rfform_calls hf _) rfl rfl ?_
  rintro x M' ⟨hx, rfl⟩
  rcases hx with ⟨hF, rfl⟩ | ⟨hF, rfl⟩
  rotate_left
  · have hno : ¬ FitsP g f := fun h => hF h.2.1
    repeat' (first | refine aops_put rfl ?_ | refine aops_end ?_ | refine aops_p tok rfl rfl rfl rfl ?_ | refine acode_it rfl ?_ | refine acode_seq ?_ | refine acode_region ?_)
    refine acode_ret ?_
    repeat (refine ret_then ?_)
    exact ⟨.bool false, ⟨.inr ⟨hno, rfl⟩, rfl⟩, resOf_tmp rfl⟩
  have hsm : ∀ n ∈ f.nodes, n.alts.length ≤ 9223372036854775807 ∧ ∀ a ∈ n.alts, a.kids.length ≤ 9223372036854775807 ∧ ∀ k ∈ a.kids, k < f.nodes.length := by
    intro n hn
    refine ⟨by have := (hf2 n hn).1; omega, fun a ha => ⟨by have := (hf2 n hn).2 a ha; omega, fun k hk => ?_⟩⟩
    obtain ⟨i, hi, hni⟩ := List.getElem_of_mem hn
    refine (hF.2 i hi).small ⟨a, ?_, hk⟩
    unfold altsOf
    rw [List.getElem?_eq_getElem hi, hni]
    exact ha
  have hfp : FitsP g f ↔ f.nodes.all (nodeB g f) = true := by
    unfold FitsP
    rw [whole_all]
    exact ⟨fun h => h.2.2, fun h => ⟨h0, hF, h⟩⟩
  repeat' (first | refine aops_put rfl ?_ | refine aops_end ?_ | refine aops_p tok rfl rfl rfl rfl ?_ | refine acode_if rfl ?_ | refine acode_seq ?_ | refine acode_region ?_ | refine acode_block ?_ | refine acode_skip ?_ | refine then_n ?_)
  refine acode_loopS (ι := Nat) (fun i => [(2, .pp (grC g)), (3, .pp (foC f)), (4, .bool false), (7, .int .i64 i)]) (fun _ => M') (fun i => f.nodes.length - i) (fun i => i ≤ f.nodes.length ∧ (f.nodes.take i).all (nodeB g f) = true) 0 ⟨Nat.zero_le _, rfl⟩ ⟨rfl, rfl, rfl, rfl, trivial⟩ rfl ?_
  rintro i ⟨hi, hall⟩
  repeat (first | refine aops_end ?_ | refine aops_p tok rfl rfl rfl rfl ?_ | refine acode_seq ?_ | refine acode_region ?_)
  refine acode_id rfl (fun e => ?_) (fun e => ?_)
  · have hil : i < f.nodes.length := by omega
    obtain ⟨nd, hnd⟩ : ∃ nd, f.nodes[i]? = some nd := ⟨f.nodes[i], List.getElem?_eq_getElem hil⟩
    have hndm := List.mem_of_getElem? hnd
    obtain ⟨hn1, hn2⟩ := hsm nd hndm
    have hnx := all_take hnd hall
    repeat (first | refine aops_p tok rfl rfl rfl rfl ?_ | refine acode_seq ?_ | refine acode_region ?_ | refine acode_block ?_ | refine acode_skip ?_ | refine then_n ?_)
    refine aops_ix tok (ndC nd) rfl rfl rfl rfl (by omega) (by omega) (by simp [ndC]) (nd_at hnd) rfl rfl rfl ?_
    repeat (first | refine aops_end ?_ | refine aops_p tok rfl rfl rfl rfl ?_ | refine acode_seq ?_ | refine acode_region ?_ | refine acode_block ?_)
    refine acode_loopS (ι := Nat) (fun j => [(2, .pp (grC g)), (3, .pp (foC f)), (4, .bool false), (7, .int .i64 i), (8, .psl nd.alts.length (encs alC nd.alts)), (9, .int .i64 j)]) (fun _ => M') (fun j => nd.alts.length - j) (fun j => j ≤ nd.alts.length ∧ (nd.alts.take j).all (fun a => ofB g f nd.sym a) = true) 0 ⟨Nat.zero_le _, rfl⟩ ⟨rfl, rfl, rfl, rfl, rfl, rfl, trivial⟩ rfl ?_
    rintro j ⟨hj, hall2⟩
    repeat (first | refine aops_end ?_ | refine aops_p tok rfl rfl rfl rfl ?_ | refine acode_seq ?_ | refine acode_region ?_)
    refine acode_id rfl (fun e => ?_) (fun e => ?_)
    · have hjl : j < nd.alts.length := by omega
      obtain ⟨a, ha⟩ : ∃ a, nd.alts[j]? = some a := ⟨nd.alts[j], List.getElem?_eq_getElem hjl⟩
      have ham := List.mem_of_getElem? ha
      obtain ⟨ha1, ha2⟩ := hn2 a ham
      have hnx2 := all_take ha hall2
      have hfc := fun M => rfits_calls (sym := nd.sym) hg hsy ha1 ha2 M
      repeat (first | refine acode_seq ?_ | refine acode_block ?_ | refine acode_skip ?_ | refine then_n ?_)
      refine acode_drawT 14 mixed (by kernel_rfl) (by kernel_rfl) ?_
      repeat (refine seqT_p tok rfl rfl rfl rfl ?_)
      refine seqT_ix tok (ndC nd) rfl rfl rfl rfl (by omega) (by omega) (by simp [ndC]) (nd_at hnd) rfl rfl rfl ?_
      repeat (refine seqT_p tok rfl rfl rfl rfl ?_)
      refine seqT_ix tok (alC a) rfl rfl rfl rfl (by omega) (by omega) (by simp [alC]) (al_at ha) rfl rfl rfl ?_
      repeat (refine seqT_p tok rfl rfl rfl rfl ?_)
      refine seqT_call _ Try.func74 rfl rfl rfl rfl (hfc _) rfl rfl rfl ?_
      repeat (refine seqT_p tok rfl rfl rfl rfl ?_)
      refine SeqT.done ?_
      cases hx : ofB g f nd.sym a with
      | true =>
        repeat' (first | refine aops_end ?_ | refine aops_a tok rfl (by omega) (by omega) rfl rfl rfl ?_ | refine aops_p tok rfl rfl rfl rfl ?_ | refine acode_if rfl ?_ | refine acode_region ?_ | refine acode_skip ?_ | refine then_n ?_ | refine block_n ?_)
        exact ⟨j + 1, ⟨by omega, by rw [hnx2, hx]⟩, by omega, ⟨rfl, rfl, rfl, rfl, rfl, rfl, trivial⟩, rfl⟩
      | false =>
        repeat' (first | refine aops_end ?_ | refine aops_p tok rfl rfl rfl rfl ?_ | refine acode_it rfl ?_ | refine acode_seq ?_ | refine acode_region ?_)
        refine acode_ret ?_
        repeat (first | refine ret_then ?_ | refine ret_block ?_)
        refine ⟨.bool false, ⟨.inr ⟨fun h => ?_, rfl⟩, rfl⟩, resOf_tmp rfl⟩
        have h1 := List.all_eq_true.1 (hfp.1 h) nd hndm
        have h2 := List.all_eq_true.1 h1 a ham
        rw [hx] at h2; cases h2
    · obtain rfl : j = nd.alts.length := by omega
      rw [List.take_length] at hall2
      refine acode_exit ?_
      repeat (first | refine exit_then ?_ | refine exit_here ?_ | refine then_n ?_ | refine block_n ?_)
      repeat (first | refine aops_end ?_ | refine aops_a tok rfl (by omega) (by omega) rfl rfl rfl ?_ | refine aops_p tok rfl rfl rfl rfl ?_ | refine acode_region ?_)
      exact ⟨i + 1, ⟨by omega, by rw [hnx]; exact hall2⟩, by omega, ⟨rfl, rfl, rfl, rfl, trivial⟩, rfl⟩
  · obtain rfl : i = f.nodes.length := by omega
    rw [List.take_length] at hall
    refine acode_exit ?_
    repeat (first | refine exit_then ?_ | refine exit_here ?_ | refine then_n ?_)
    repeat (first | refine aops_end ?_ | refine aops_p tok rfl rfl rfl rfl ?_ | refine acode_seq ?_ | refine acode_region ?_)
    refine acode_ret ?_
    skip
    exact ⟨.bool true, ⟨.inl ⟨hfp.2 hall, rfl⟩, rfl⟩, resOf_tmp rfl⟩
end Go.Proofs.Ytbnhmioijeagiaa.Ab
/- Chapter 24's reference: Best: the walk. No condition. -/
set_option linter.unusedVariables false
set_option linter.unusedSimpArgs false
namespace Go.Proofs.Ytbnhmioijeagiaa.Ab
attribute [local irreducible] thenA inBlockA ACode AOps put IntKind.wrap

theorem rbest_none {g : Gr} {f : Fo} (hg : GrOk g) (hf : FoOk f) (hno : ¬ FitsP g f) (M : List Ob) : ACalls Try.prog 13 [grA g, foA f] M (fun x M' => x = .tup [noP, .int .i64 1] ∧ M' = M) := by
  refine acalls_of_code 52 Try.func13 rfl rfl rfl ?_
  repeat (first | refine acode_seq ?_ | refine acode_region ?_)
  refine aops_boxf rfl rfl rfl rfl rfl rfl rfl ?_
  refine aops_boxf rfl rfl rfl rfl rfl rfl rfl ?_
  refine aops_alloc tok rfl rfl rfl rfl rfl rfl fun b4 => ?_
  repeat (first | refine aops_end ?_ | refine aops_p tok rfl rfl rfl rfl ?_ | refine acode_seq ?_ | refine acode_region ?_)
  refine aops_call Try.func41 rfl rfl rfl rfl (rfitsF_calls hg hf _) rfl rfl ?_
  rintro x M' ⟨hx, hM⟩
  rw [hM]
  rcases hx with ⟨h, _⟩ | ⟨_, rfl⟩
  · exact absurd h hno
  repeat' (first | refine aops_put rfl ?_ | refine aops_end ?_ | refine aops_p tok rfl rfl rfl rfl ?_ | refine acode_it rfl ?_ | refine aops_stn tok rfl rfl rfl rfl rfl rfl rfl rfl rfl ?_ | refine acode_seq ?_ | refine acode_region ?_)
  refine acode_pubref0 4 rfl ?_
  refine acode_ret ?_
  repeat (refine ret_then ?_)
  exact ⟨_, ⟨rfl, rfl⟩, _, _, rfl, resOf_pp tok rfl rfl rfl, resOf_tmp rfl⟩
def ownI (f : Fo) (rs : Nat → Nat) (i : Nat) : List A := (List.range i).map fun i => A.own (some (rs i)) (lenE f i) (lenE f i)
def rowsI (f : Fo) (rs : Nat → Nat) (i : Nat) : List Ob := (List.range i).map fun i => ⟨some (rs i), lenE f i * 5, zerosA zeroE (lenE f i)⟩
theorem rowE_nil (U : Nat → Nat → List A) (i m : Nat) : rowE U [] i m = zerosA zeroE m := by
  unfold rowE zerosA encs
  induction m with
  | zero => rfl
  | succ m ih =>
    rw [List.range_succ, List.replicate_succ']
    simp [List.flatMap_append] at ih ⊢
    rw [ih]
theorem rowsI_all (f : Fo) (U : Nat → Nat → List A) (rs : Nat → Nat) : rowsI f rs f.nodes.length = rowsR f U rs [] := by
  unfold rowsI rowsR
  refine List.map_congr_left fun i _ => ?_
  rw [rowE_nil]
def rsA (rs : Nat → Nat) (i b : Nat) : Nat → Nat := fun j => if j = i then b else rs j
theorem ownI_add {f : Fo} {rs : Nat → Nat} {i b : Nat} : ownI f (rsA rs i b) (i + 1) = ownI f rs i ++ [A.own (some b) (lenE f i) (lenE f i)] := by
  unfold ownI
  rw [List.range_succ, List.map_append]
  congr 1
  · refine List.map_congr_left fun j hj => ?_
    have := List.mem_range.1 hj
    unfold rsA
    rw [if_neg (by omega)]
  · simp [rsA]
theorem rowsI_add {f : Fo} {rs : Nat → Nat} {i b : Nat} : rowsI f (rsA rs i b) (i + 1) = rowsI f rs i ++ [⟨some b, lenE f i * 5, zerosA zeroE (lenE f i)⟩] := by
  unfold rowsI
  rw [List.range_succ, List.map_append]
  congr 1
  · refine List.map_congr_left fun j hj => ?_
    have := List.mem_range.1 hj
    unfold rsA
    rw [if_neg (by omega)]
  · simp [rsA]
abbrev pkC (g : Gr) (f : Fo) (x : A) : List A := [.int .i64 g.names, .int .i64 g.kinds, .int .i64 g.start, .psl g.rules.length (encs ruC g.rules), .psl g.forbid.length (encs f3C g.forbid), .psl g.rc.length (ints g.rc), .psl g.kc.length (ints g.kc), .psl f.nodes.length (encs ndC f.nodes), .int .i64 f.root, x]
set_option maxHeartbeats 16000000 in
theorem rbest_calls {g : Gr} {f : Fo} (hg : GrOk g) (hf : FoOk f) (hfit : FitsP g f) (h8 : ∀ i, ∀ a ∈ altsOf f i, a.kids.length ≤ 1000 ∧ ∀ k ∈ a.kids, rng k) (hbig : big f f.root.toNat ≤ 1000000) (M : List Ob) : ACalls Try.prog 13 [grA g, foA f] M (fun x M' => x = bestR g f ∧ M' = M) := by
  obtain ⟨hf1, hf2⟩ := id hf
  obtain ⟨h0, hF, hwh⟩ := id hfit
  obtain ⟨⟨hr0, hr1⟩, hw⟩ := id hF
  have hgl : g.rules.length ≤ 60 := by
    have := (form_ok2 h0).1
    unfold bigB at this; omega
  refine acalls_of_code 52 Try.func13 rfl rfl rfl ?_
  repeat (first | refine acode_seq ?_ | refine acode_region ?_)
  refine aops_boxf rfl rfl rfl rfl rfl rfl rfl ?_
  refine aops_boxf rfl rfl rfl rfl rfl rfl rfl ?_
  refine aops_alloc tok rfl rfl rfl rfl rfl rfl fun b4 => ?_
  repeat (first | refine aops_end ?_ | refine aops_p tok rfl rfl rfl rfl ?_ | refine acode_seq ?_ | refine acode_region ?_)
  refine aops_call Try.func41 rfl rfl rfl rfl (rfitsF_calls hg hf _) rfl rfl ?_
  rintro x M' ⟨hx, hM⟩
  rw [hM]
  rcases hx with ⟨_, rfl⟩ | ⟨h, _⟩
  rotate_left
  · exact absurd hfit h
  repeat' (first | refine aops_put rfl ?_ | refine aops_end ?_ | refine aops_p tok rfl rfl rfl rfl ?_ | refine acode_if rfl ?_ | refine acode_seq ?_ | refine acode_region ?_ | refine acode_skip ?_ | refine then_n ?_)
  refine aops_boxo rfl rfl rfl rfl rfl rfl rfl fun pb => ?_
  repeat (refine aops_p tok rfl rfl rfl rfl ?_)
  refine aops_adoptF 9 rfl rfl ?_
  repeat (first | refine aops_end ?_ | refine aops_p tok rfl rfl rfl rfl ?_ | refine acode_seq ?_ | refine acode_region ?_ | refine acode_block ?_)
  refine acode_loopS (ι := Nat × (Option Nat × Nat) × (Nat → Nat)) (fun q => [(3, .pp (foC f)), (4, .ref b4 0), (6, .ref pb 0), (7, .int .i64 q.1)]) (fun q => ⟨some pb, 10, pkC g f (.own q.2.1.1 q.1 q.2.1.2)⟩ :: ⟨q.2.1.1, q.2.1.2 * 1, ownI f q.2.2 q.1⟩ :: (rowsI f q.2.2 q.1 ++ (⟨some b4, 3, [.int .i64 0, .int .i64 0, .nils]⟩ :: M))) (fun q => f.nodes.length - q.1)
    (fun q => q.1 ≤ f.nodes.length ∧ (q.1 = 0 ∨ ∃ c, q.2.1.1 = some c)) (0, (none, 0), fun _ => 0) ⟨Nat.zero_le _, .inl rfl⟩ ⟨rfl, rfl, rfl, rfl, trivial⟩ rfl ?_
  rintro ⟨i, ⟨ob, cap⟩, rs⟩ ⟨hi, hob⟩
  simp only at hi hob ⊢
  repeat (first | refine aops_end ?_ | refine aops_p tok rfl rfl rfl rfl ?_ | refine acode_seq ?_ | refine acode_region ?_)
  refine acode_id rfl (fun e => ?_) (fun e => ?_)
  · have hil : i < f.nodes.length := by omega
    obtain ⟨nd, hnd, hndm, hal⟩ := nodes_at hil
    obtain ⟨hal1, hal2⟩ := hf2 nd hndm
    have hle : lenE f i = nd.alts.length := by unfold lenE; rw [hal]
    repeat (first | refine acode_seq ?_ | refine acode_block ?_ | refine acode_skip ?_ | refine then_n ?_)
    refine acode_drawP [⟨some pb, 10, pkC g f (.own ob i cap)⟩] 15 [0, 1, 2, 3, 4, 5, 6, 7, 8, 9, 10, 11, 12, 13, 14] [12, 14] mixed (by kernel_rfl) (by kernel_rfl) rfl ?_
    repeat (first | refine seqO_p tok rfl rfl rfl rfl rfl ?_ | refine seqO_ld tok 0 rfl rfl rfl rfl rfl (by simp) rfl rfl rfl rfl ?_)
    refine seqO_ix tok (ndC nd) rfl rfl rfl rfl rfl (by omega) (by omega) (by simp [ndC]) (nd_at hnd) rfl rfl rfl ?_
    repeat (refine seqO_p tok rfl rfl rfl rfl rfl ?_)
    refine seqO_mk tok nd.alts.length rfl rfl rfl rfl rfl rfl rfl (by show _ * 48 ≤ _; omega) (by omega) (by simp) rfl rfl rfl fun b => ?_
    skip
    refine seqO_lit tok rfl rfl rfl rfl rfl rfl rfl rfl rfl ?_
    refine seqO_app tok 2 (m := 1) (ds := [.own (some b) nd.alts.length nd.alts.length]) rfl rfl rfl rfl (.inl rfl) rfl rfl (by simp [ownI]) rfl rfl rfl (by show _ * 24 ≤ _; omega) (by omega) (by intro y o ho; simp at ho ⊢; simp [ho]) rfl rfl rfl fun ob' cap' => ?_
    skip
    refine SeqO.done ?_
    refine aops_somed 39 rfl (by omega) fun c hc => ?_
    subst hc
    repeat (first | refine aops_p tok rfl rfl rfl rfl ?_ | refine aops_stn1 tok rfl rfl rfl rfl rfl rfl rfl rfl rfl ?_)
    refine aops_perm (⟨some pb, 10, pkC g f (.own (some c) (i + 1) cap')⟩ :: ⟨some c, cap' * 1, ownI f (rsA rs i b) (i + 1)⟩ :: (rowsI f (rsA rs i b) (i + 1) ++ (⟨some b4, 3, [.int .i64 0, .int .i64 0, .nils]⟩ :: M))) ?_ ?_
    · rw [ownI_add, rowsI_add, hle, List.append_assoc]
      exact (List.perm_middle (a := (⟨some b, nd.alts.length * 5, zerosA zeroE nd.alts.length⟩ : Ob)) (l₁ := ⟨some pb, 10, pkC g f (.own (some c) (i + 1) cap')⟩ :: ⟨some c, cap' * 1, ownI f rs i ++ [.own (some b) nd.alts.length nd.alts.length]⟩ :: rowsI f rs i)).symm
    repeat (first | refine aops_end ?_ | refine aops_endb ?_ | refine aops_a tok rfl (by omega) (by omega) rfl rfl rfl ?_ | refine aops_p tok rfl rfl rfl rfl ?_ | refine acode_region ?_ | refine then_n ?_)
    exact ⟨(i + 1, (some c, cap'), rsA rs i b), ⟨by simp only; omega, .inr ⟨c, rfl⟩⟩, by simp only; omega, ⟨rfl, rfl, rfl, rfl, trivial⟩, rfl⟩
  · obtain rfl : i = f.nodes.length := by omega
    obtain ⟨bk, hbk⟩ : ∃ c, ob = some c := by
      rcases hob with h | h
      · omega
      · exact h
    subst hbk
    refine acode_exit ?_
    repeat (first | refine exit_then ?_ | refine exit_here ?_ | refine then_n ?_)
    have hund := under_all (by omega) hg.fo (dyn_ok h0) hf hwh h8 (hw _ (show f.root.toNat < f.nodes.length by omega)) hbig pb bk cap rs (-1) 0 [] (⟨some b4, 3, [.int .i64 0, .int .i64 0, .nils]⟩ :: M)
    rw [show ((f.root.toNat : Nat) : Int) = f.root by omega] at hund
    have hmr : mayR g.forbid (-1) 0 = fun _ => true := by funext x; unfold mayR; rw [if_neg (by omega)]
    rw [hmr] at hund
    rw [rowsI_all f (altE g f) rs]
    unfold bestR
    generalize bestF (fun _ => true) (pkT g f f.root.toNat) = B at *
    repeat (first | refine aops_p tok rfl rfl rfl rfl ?_ | refine acode_seq ?_ | refine acode_region ?_)
    refine aops_perm (pkS g f pb bk cap rs [] (⟨some b4, 3, [.int .i64 0, .int .i64 0, .nils]⟩ :: M)) (List.Perm.refl _) ?_
    refine aops_call Try.func42 rfl rfl rfl rfl hund rfl rfl ?_
    rintro x M' ⟨L', rfl, rfl⟩
    refine aops_dropL [_] (aops_dropL [_] (aops_dropL (rowsR f (altE g f) rs L') ?_))
    cases B with
    | tk =>
      rw [show Pk.isTk .tk = true from rfl, if_pos rfl]
      rw [entR_tk]
      repeat (refine aops_put rfl ?_)
      refine aops_alloc tok rfl rfl rfl rfl rfl rfl fun b8 => ?_
      repeat' (first | refine aops_end ?_ | refine aops_p tok rfl rfl rfl rfl ?_ | refine acode_it rfl ?_ | refine aops_ld tok 0 rfl rfl rfl rfl rfl rfl rfl rfl ?_ | refine aops_stn tok rfl rfl rfl rfl rfl rfl rfl rfl rfl ?_ | refine aops_stn1 tok rfl rfl rfl rfl rfl rfl rfl rfl rfl ?_ | refine acode_seq ?_ | refine acode_region ?_)
      refine acode_drop0 ?_
      refine acode_pubref0 4 rfl ?_
      refine acode_ret ?_
      repeat (refine ret_then ?_)
      exact ⟨_, ⟨rfl, rfl⟩, _, _, rfl, resOf_pp tok rfl rfl rfl, resOf_tmp rfl⟩
    | nd a w q =>
      rw [show Pk.isTk (.nd a w q) = false from rfl, if_neg (by simp)]
      rw [entR_nd]
      generalize treeP (.nd a w q) = tr at *
      repeat (refine aops_put rfl ?_)
      refine aops_alloc tok rfl rfl rfl rfl rfl rfl fun b8 => ?_
      repeat' (first | refine aops_end ?_ | refine aops_p tok rfl rfl rfl rfl ?_ | refine acode_if rfl ?_ | refine aops_ld tok 0 rfl rfl rfl rfl rfl rfl rfl rfl ?_ | refine aops_stn tok rfl rfl rfl rfl rfl rfl rfl rfl rfl ?_ | refine aops_stn1 tok rfl rfl rfl rfl rfl rfl rfl rfl rfl ?_ | refine acode_seq ?_ | refine acode_region ?_ | refine acode_skip ?_ | refine then_n ?_)
      refine acode_drop0 ?_
      refine acode_pubref0 4 rfl ?_
      refine acode_ret ?_
      skip
      exact ⟨_, ⟨rfl, rfl⟩, _, _, rfl, resOf_pp tok rfl rfl rfl, resOf_tmp rfl⟩
end Go.Proofs.Ytbnhmioijeagiaa.Ab
/- Chapter 24's law: alive. No condition. -/
set_option linter.unusedVariables false
set_option linter.unusedSimpArgs false
namespace Go.Proofs.Ytbnhmioijeagiaa.Ab
attribute [local irreducible] thenA inBlockA ACode AOps put IntKind.wrap

theorem num24_calls {n : Int} (M : List Ob) : ACalls Try.prog 20 [.int .i64 n] M (fun r M' => r = .int .i64 n ∧ M' = M) := by
  refine acalls_of_code 4 Try.func20 rfl rfl rfl ?_
  repeat (first | refine aops_end ?_ | refine aops_p tok rfl rfl rfl rfl ?_ | refine acode_seq ?_ | refine acode_region ?_)
  refine acode_ret ?_
  skip
  exact ⟨_, ⟨rfl, rfl⟩, resOf_tmp rfl⟩
def gA2 : Gr := ⟨1, 0, 0, [⟨0, [], 1⟩, ⟨0, [], 5⟩], [], [], []⟩
def fA2 : Fo := ⟨[⟨0, 0, 0, [⟨0, []⟩, ⟨1, []⟩]⟩], 0⟩
theorem fA2_kid {i : Nat} {k : Int} : ¬ Kid fA2 i k := by
  rintro ⟨a, ha, hk⟩
  by_cases hi : i = 0
  · subst hi
    have ha : a ∈ [(⟨0, []⟩ : Al), ⟨1, []⟩] := ha
    simp only [List.mem_cons, List.not_mem_nil, or_false] at ha
    rcases ha with rfl | rfl <;> cases hk
  · unfold altsOf at ha
    rw [List.getElem?_eq_none (by show 1 ≤ i; omega)] at ha
    cases ha
theorem fA2_wf : WF fA2 0 := .mk (by decide) (fun k hk => absurd hk fA2_kid) (fun k hk => absurd hk fA2_kid)
theorem fA2_form : FForm fA2 := ⟨by decide, fun i hi => by
  have : i = 0 := by have : i < 1 := hi; omega
  subst this; exact fA2_wf⟩
theorem fA2_pk : pkT gA2 fA2 0 = [.nd ⟨0, []⟩ 1 [], .nd ⟨1, []⟩ 5 []] := by
  rw [pkT_eq fA2_wf]; rfl
theorem fA2_best : bestR gA2 fA2 = .tup [trA (.mk 1 0 []), .int .i64 0] := by
  unfold bestR
  rw [show fA2.root.toNat = 0 from rfl, fA2_pk]
  rfl
theorem gA2_ok : GrOk gA2 := by
  refine ⟨by decide, by decide, by decide, by decide, ?_⟩
  show ∀ r ∈ gA2.rules, r.right.length ≤ 9223372036854775807 ∧ ∀ s ∈ r.right, -9223372036854775808 ≤ s ∧ s ≤ 9223372036854775807
  decide
theorem a2_calls (M : List Ob) : ACalls Try.prog 18 [grA gA2, foA fA2] M (fun x M' => x = .tup [trA (.mk 1 0 []), .int .i64 0] ∧ M' = M) := by
  have hfo : FoOk fA2 := by
    refine ⟨by decide, ?_⟩
    decide
  have h8 : ∀ i, ∀ a ∈ altsOf fA2 i, a.kids.length ≤ 1000 ∧ ∀ k ∈ a.kids, rng k := fun i a ha => by
    by_cases hi : i = 0
    · subst hi
      have ha : a ∈ [(⟨0, []⟩ : Al), ⟨1, []⟩] := ha
      simp only [List.mem_cons, List.not_mem_nil, or_false] at ha
      rcases ha with rfl | rfl <;> exact ⟨by decide, fun k hk => by cases hk⟩
    · unfold altsOf at ha
      rw [List.getElem?_eq_none (by show 1 ≤ i; omega)] at ha
      cases ha
  have h0 : (formF gA2).2 = 0 := by decide +kernel
  have hwh : wholeB gA2 fA2 = true := by decide +kernel
  have h := chbest_calls (g := gA2) (f := fA2) gA2_ok h0 hfo fA2_form hwh h8 (rows_ok (fun r => by have := dyn_ok h0 r; unfold rng; omega) hwh (fun i a ha => (h8 i a ha).1) fA2_form (by decide)) M
  rw [fA2_best] at h; exact h
theorem vwA2 (M : List Ob) : Vw M (.agg [.int .i64 1, .int .i64 0, .int .i64 0, .psl 2 [.int .i64 0, .nils, .int .i64 1, .int .i64 0, .nils, .int .i64 5], .nils, .nils, .nils]) (grA gA2) :=
  .agg (.cons (.refl _) (.cons (.refl _) (.cons (.refl _) (.cons (.psl (.cons (.refl _) (.cons .nils (.cons (.refl _) (.cons (.refl _) (.cons .nils (.cons (.refl _) .nil))))))) (.cons .nils (.cons .nils (.cons .nils .nil)))))))
theorem vwF2 (M : List Ob) : Vw M (.agg [.psl 1 [.int .i64 0, .int .i64 0, .int .i64 0, .psl 2 [.int .i64 0, .nils, .int .i64 1, .nils]], .int .i64 0]) (foA fA2) :=
  .agg (.cons (.psl (.cons (.refl _) (.cons (.refl _) (.cons (.refl _) (.cons (.psl (.cons (.refl _) (.cons .nils (.cons (.refl _) (.cons .nils .nil))))) .nil))))) (.cons (.refl _) .nil))
theorem n2_calls (M : List Ob) : ACalls Try.prog 18 [.agg [.int .i64 0, .int .i64 0, .int .i64 0, .nils, .nils, .nils, .nils], .agg [.nils, .int .i64 0]] M (fun x M' => x = .tup [noP, .int .i64 1] ∧ M' = M) := by
  have h := chbest_none (g := ⟨0, 0, 0, [], [], [], []⟩) (f := ⟨[], 0⟩) ⟨by decide, fun n hn => by cases hn⟩ (fun h => by have := h.1.2; simp at this) M
  exact acalls_arg (.cons (.agg (.cons (.refl _) (.cons (.refl _) (.cons (.refl _) (.cons .nils (.cons .nils (.cons .nils (.cons .nils .nil)))))))) (.cons (.agg (.cons .nils (.cons (.refl _) .nil))) .nil)) h
set_option maxHeartbeats 8000000 in
theorem alive24_calls (M : List Ob) : ACalls Try.prog 17 [] M (fun r M' => r = .bool true ∧ M' = M) := by
  have hdy : ∀ r, -1000000 ≤ dynF gA2 r ∧ dynF gA2 r ≤ 1000000 := fun r => by
    unfold dynF
    split
    · rename_i h
      obtain ⟨h1, h2⟩ := h
      have h2 : r < 2 := h2
      have : r = 0 ∨ r = 1 := by omega
      rcases this with rfl | rfl <;> decide
    · decide
  have hwt := chweight_calls (g := gA2) (t := .mk 1 0 []) hdy (by decide)
  rw [show wtT gA2 (.mk 1 0 []) = 5 from rfl] at hwt
  refine acalls_of_code 46 Try.func17 rfl rfl rfl ?_
  repeat (first | refine aops_end ?_ | refine aops_p tok rfl rfl rfl rfl ?_ | refine acode_seq ?_ | refine acode_region ?_)
  refine aops_callx Try.func18 rfl rfl rfl rfl (n2_calls _) rfl rfl rfl ?_
  repeat (refine aops_p tok rfl rfl rfl rfl ?_)
  refine aops_alloc tok rfl rfl rfl rfl rfl rfl fun b1 => ?_
  repeat (first | refine aops_p tok rfl rfl rfl rfl ?_ | refine aops_stn tok rfl rfl rfl rfl rfl rfl rfl rfl rfl ?_)
  refine aops_pubref0 1 rfl ?_
  repeat (first | refine aops_end ?_ | refine aops_p tok rfl rfl rfl rfl ?_ | refine acode_seq ?_ | refine acode_region ?_)
  refine aops_litn tok rfl rfl rfl rfl rfl rfl rfl ?_
  repeat (refine aops_p tok rfl rfl rfl rfl ?_)
  refine aops_alloc tok rfl rfl rfl rfl rfl rfl fun bg => ?_
  repeat (refine aops_stn tok rfl rfl rfl rfl rfl rfl rfl rfl rfl ?_)
  refine aops_pubref0 3 rfl ?_
  repeat (first | refine aops_end ?_ | refine aops_p tok rfl rfl rfl rfl ?_ | refine acode_seq ?_ | refine acode_region ?_)
  refine aops_litn tok rfl rfl rfl rfl rfl rfl rfl ?_
  repeat (refine aops_p tok rfl rfl rfl rfl ?_)
  refine aops_litn tok rfl rfl rfl rfl rfl rfl rfl ?_
  repeat (refine aops_p tok rfl rfl rfl rfl ?_)
  refine aops_callx Try.func18 rfl rfl rfl rfl (acalls_arg (.cons (vwA2 _) (.cons (vwF2 _) .nil)) (a2_calls _)) rfl rfl rfl ?_
  repeat (refine aops_p tok rfl rfl rfl rfl ?_)
  refine aops_alloc tok rfl rfl rfl rfl rfl rfl fun b2 => ?_
  repeat (first | refine aops_p tok rfl rfl rfl rfl ?_ | refine aops_stn tok rfl rfl rfl rfl rfl rfl rfl rfl rfl ?_)
  refine aops_pubref0 4 rfl ?_
  repeat (first | refine aops_end ?_ | refine aops_p tok rfl rfl rfl rfl ?_ | refine acode_seq ?_ | refine acode_region ?_)
  refine aops_callx Try.func20 rfl rfl rfl rfl (num24_calls _) rfl rfl rfl ?_
  repeat' (first | refine aops_pbt tok rfl (by first | omega | decide) rfl rfl rfl ?_ | refine aops_p tok rfl rfl rfl rfl ?_)
  try any_goals (exfalso; omega)
  refine aops_callx Try.func20 rfl rfl rfl rfl (num24_calls _) rfl rfl rfl ?_
  repeat' (first | refine aops_pbt tok rfl (by first | omega | decide) rfl rfl rfl ?_ | refine aops_p tok rfl rfl rfl rfl ?_)
  try any_goals (exfalso; omega)
  refine aops_callx Try.func25 rfl rfl rfl rfl (acalls_arg (.cons (vwA2 _) (.cons (.refl _) .nil)) (hwt _)) rfl rfl rfl ?_
  repeat' (first | refine aops_end ?_ | refine aops_pbt tok rfl (by first | omega | decide) rfl rfl rfl ?_ | refine aops_p tok rfl rfl rfl rfl ?_)
  try any_goals (exfalso; omega)
  refine acode_ret ?_
  skip
  exact ⟨_, ⟨rfl, rfl⟩, resOf_tmp rfl⟩
end Go.Proofs.Ytbnhmioijeagiaa.Ab
/- Two trees held against each other: the walk. No condition. -/
set_option linter.unusedVariables false
set_option linter.unusedSimpArgs false
namespace Go.Proofs.Ytbnhmioijeagiaa.Ab
attribute [local irreducible] thenA inBlockA ACode AOps put IntKind.wrap

set_option maxHeartbeats 2000000 in
theorem sameT_calls : ∀ (x : Tr), trSize x ≤ 9223372036854775807 → ∀ (y : Tr), trSize y ≤ 9223372036854775807 → ∀ (M : List Ob), ACalls Try.prog 19 [trA x, trA y] M (fun r M' => r = .bool (eqT x y) ∧ M' = M) := by
  refine Tr.ind fun x ih hx y hy M => ?_
  rw [trSize_eq] at hx hy
  have hxl := trsSize_len x.kids
  have hyl := trsSize_len y.kids
  rw [eqT_eq]
  refine acalls_of_code 46 Try.func19 rfl rfl rfl ?_
  repeat (first | refine acode_seq ?_ | refine acode_region ?_)
  refine aops_boxf rfl rfl rfl rfl rfl rfl rfl ?_
  refine aops_boxf rfl rfl rfl rfl rfl rfl rfl ?_
  repeat' (first | refine aops_end ?_ | refine aops_o rfl rfl rfl ?_ | (refine aops_pn tok rfl rfl rfl rfl ?_ ?_ <;> intro e_) | refine aops_p tok rfl rfl rfl rfl ?_ | refine acode_it rfl ?_ | refine acode_if rfl ?_ | refine acode_seq ?_ | refine acode_region ?_ | refine acode_block ?_ | refine acode_skip ?_ | refine then_n ?_)
  · refine acode_ret ?_
    repeat (refine ret_then ?_)
    exact ⟨.bool false, ⟨by rw [decide_eq_false e_]; rfl, rfl⟩, resOf_tmp rfl⟩
  · refine acode_ret ?_
    repeat (refine ret_then ?_)
    exact ⟨.bool false, ⟨by rw [decide_eq_false e_, Bool.and_false]; rfl, rfl⟩, resOf_tmp rfl⟩
  · refine acode_ret ?_
    repeat (refine ret_then ?_)
    exact ⟨.bool false, ⟨by rw [eqTs_len (by omega), Bool.and_false], rfl⟩, resOf_tmp rfl⟩
  · rename_i e1 e2
    have hlen : x.kids.length = y.kids.length := by omega
    rw [decide_eq_true e1, decide_eq_true e2, Bool.true_and, Bool.true_and]
    refine acode_loopS (ι := Nat) (fun i => [(2, .pp [.int .i64 x.rule, .int .i64 x.tok, .psl x.kids.length (encs trC x.kids)]), (3, .pp [.int .i64 y.rule, .int .i64 y.tok, .psl y.kids.length (encs trC y.kids)]), (5, .int .i64 i)]) (fun _ => M) (fun i => x.kids.length - i) (fun i => i ≤ x.kids.length ∧ eqTs (x.kids.drop i) (y.kids.drop i) = eqTs x.kids y.kids) 0 ⟨Nat.zero_le _, rfl⟩ ⟨rfl, rfl, rfl, trivial⟩ rfl ?_
    rintro i ⟨hi, hgo⟩
    repeat (first | refine aops_end ?_ | refine aops_p tok rfl rfl rfl rfl ?_ | refine acode_seq ?_ | refine acode_region ?_)
    refine acode_id rfl (fun e => ?_) (fun e => ?_)
    · have hil : i < x.kids.length := by omega
      obtain ⟨u, hu⟩ : ∃ u, x.kids[i]? = some u := ⟨x.kids[i], List.getElem?_eq_getElem hil⟩
      obtain ⟨v, hv⟩ : ∃ v, y.kids[i]? = some v := ⟨y.kids[i]'(by omega), List.getElem?_eq_getElem (by omega)⟩
      have hum := List.mem_of_getElem? hu
      have hus := trsSize_mem hum
      have hvs := trsSize_mem (List.mem_of_getElem? hv)
      rw [eqTs_step hu hv] at hgo
      repeat (first | refine acode_seq ?_ | refine acode_block ?_ | refine acode_skip ?_ | refine then_n ?_)
      refine acode_drawT 12 mixed (by kernel_rfl) (by kernel_rfl) ?_
      repeat (refine seqT_p tok rfl rfl rfl rfl ?_)
      refine seqT_ix tok [.int .i64 u.rule, .int .i64 u.tok, .psl u.kids.length (encs trC u.kids)] rfl rfl rfl rfl (by omega) (by omega) (by simp) (by rw [← trC_eq]; exact tr_at hu) rfl rfl rfl ?_
      repeat (refine seqT_p tok rfl rfl rfl rfl ?_)
      refine seqT_ix tok [.int .i64 v.rule, .int .i64 v.tok, .psl v.kids.length (encs trC v.kids)] rfl rfl rfl rfl (by omega) (by omega) (by simp) (by rw [← trC_eq]; exact tr_at hv) rfl rfl rfl ?_
      repeat (refine seqT_p tok rfl rfl rfl rfl ?_)
      refine seqT_call _ Try.func19 rfl rfl rfl rfl (ih u hum (by omega) v (by omega) M) rfl rfl rfl ?_
      cases he : eqT u v with
      | false =>
        rw [he] at hgo
        repeat (refine seqT_p tok rfl rfl rfl rfl ?_)
        refine SeqT.done ?_
        repeat' (first | refine aops_end ?_ | refine aops_p tok rfl rfl rfl rfl ?_ | refine acode_it rfl ?_ | refine acode_seq ?_ | refine acode_region ?_)
        refine acode_ret ?_
        repeat (first | refine ret_then ?_ | refine ret_block ?_)
        exact ⟨.bool false, ⟨by rw [← hgo]; rfl, rfl⟩, resOf_tmp rfl⟩
      | true =>
        rw [he] at hgo
        repeat (refine seqT_p tok rfl rfl rfl rfl ?_)
        refine SeqT.done ?_
        repeat' (first | refine aops_end ?_ | refine aops_a tok rfl (by omega) (by omega) rfl rfl rfl ?_ | refine aops_p tok rfl rfl rfl rfl ?_ | refine acode_if rfl ?_ | refine acode_region ?_ | refine acode_skip ?_ | refine then_n ?_ | refine block_n ?_)
        exact ⟨i + 1, ⟨by omega, by rw [← hgo]; rfl⟩, by omega, ⟨rfl, rfl, rfl, trivial⟩, rfl⟩
    · have hge : i = x.kids.length := by omega
      subst hge
      rw [List.drop_length, hlen, List.drop_length] at hgo
      refine acode_exit ?_
      repeat (first | refine exit_then ?_ | refine exit_here ?_ | refine then_n ?_)
      repeat (first | refine aops_end ?_ | refine aops_p tok rfl rfl rfl rfl ?_ | refine acode_seq ?_ | refine acode_region ?_)
      refine acode_ret ?_
      skip
      exact ⟨.bool true, ⟨by rw [← hgo]; rfl, rfl⟩, resOf_tmp rfl⟩

end Go.Proofs.Ytbnhmioijeagiaa.Ab
/- The reference's numbers of trees, and how deep: the walk. No condition. -/
set_option linter.unusedVariables false
set_option linter.unusedSimpArgs false
namespace Go.Proofs.Ytbnhmioijeagiaa.Ab
attribute [local irreducible] thenA inBlockA ACode AOps put IntKind.wrap

/-- What a counter keeps. -/
structure Kp (f : Fo) (ks : List Int) : Prop where
  len : ks.length = f.nodes.length
  val : ∀ (j : Nat) x, ks[j]? = some x → x = -1 ∨ x = trees f j
end Go.Proofs.Ytbnhmioijeagiaa.Ab
/- How large the largest tree is: the walk. No condition. -/
set_option linter.unusedVariables false
set_option linter.unusedSimpArgs false
namespace Go.Proofs.Ytbnhmioijeagiaa.Ab
attribute [local irreducible] thenA inBlockA ACode AOps put IntKind.wrap

/-- What the reference keeps. -/
structure Kb (f : Fo) (ks : List Int) : Prop where
  len : ks.length = f.nodes.length
  val : ∀ (j : Nat) x, ks[j]? = some x → x = 0 ∨ x = big f j
def BigN (f : Fo) (bs : Nat) (M : List Ob) (i : Nat) : Prop := ∀ ks, Kb f ks →
  ACalls Try.prog 44 [foA f, .own (some bs) f.nodes.length f.nodes.length, .int .i64 i] (⟨some bs, f.nodes.length * 1, ints ks⟩ :: M) (fun r M' => r = .int .i64 (big f i) ∧ ∃ ks', Kb f ks' ∧ M' = ⟨some bs, f.nodes.length * 1, ints ks'⟩ :: M)
theorem bigK_step {g : Nat → Int} {ks : List Int} {r : Nat} {k x : Int} (h : ks[r]? = some k) (hx : x < bigM) : bigK g x (ks.drop r) = bigK g (if 0 ≤ k then x + g k.toNat else x + 1) (ks.drop (r + 1)) := by
  rw [drop_at h]; simp only [bigK]; rw [if_pos hx]
theorem bigK_stop {g : Nat → Int} {ks : List Int} {r : Nat} {x : Int} (hx : ¬ x < bigM) : bigK g x (ks.drop r) = x := by
  cases h : ks.drop r with
  | nil => rfl
  | cons k l => simp only [bigK]; rw [if_neg hx]
theorem bigA_step {g : Nat → Int} {l : List Al} {q : Nat} {a : Al} {m : Int} (h : l[q]? = some a) : bigA g m (l.drop q) = bigA g (if bigK g 0 a.kids > m then bigK g 0 a.kids else m) (l.drop (q + 1)) := by
  rw [drop_at h]; rfl

set_option maxHeartbeats 8000000 in
theorem large_calls {f : Fo} (hf : FoOk f) (bs : Nat) (M : List Ob) {i : Nat} (hwf : WF f i) : BigN f bs M i := by
  obtain ⟨hf1, hf2⟩ := id hf
  induction hwf with
  | @mk i hi hkn hkw ih =>
  intro ks hks
  have hwf : WF f i := .mk hi hkn hkw
  have hbM : bigM = 1099511627776 := rfl
  have hlt : i < ks.length := by rw [hks.len]; exact hi
  obtain ⟨s, hs⟩ : ∃ s, ks[i]? = some s := ⟨ks[i], List.getElem?_eq_getElem hlt⟩
  have hsA : (ints ks)[i * 1]? = some (A.int .i64 s) := by rw [Nat.mul_one]; exact ints_get hs
  obtain ⟨hd1, hd2⟩ := big_is hwf
  refine acalls_of_code 84 Try.func44 rfl rfl rfl ?_
  repeat (first | refine acode_seq ?_ | refine acode_region ?_)
  refine aops_boxf rfl rfl rfl rfl rfl rfl rfl ?_
  repeat (first | refine aops_end ?_ | refine aops_p tok rfl rfl rfl rfl ?_ | refine acode_seq ?_ | refine acode_region ?_)
  refine aops_ixo tok rfl rfl rfl rfl (by omega) (by omega) rfl rfl rfl ?_
  refine aops_ld tok 0 (y := .int .i64 s) rfl rfl rfl rfl (by rw [headed_eq]; exact hsA) rfl rfl rfl ?_
  repeat' (first | refine aops_end ?_ | (refine aops_pd tok rfl rfl rfl rfl ?_ ?_ <;> intro e_) | refine aops_p tok rfl rfl rfl rfl ?_ | refine acode_it rfl ?_ | refine acode_if rfl ?_ | refine acode_seq ?_ | refine acode_region ?_ | refine acode_skip ?_ | refine then_n ?_)
  · refine aops_ixo tok rfl rfl rfl rfl (by omega) (by omega) rfl rfl rfl ?_
    refine aops_ld tok 0 (y := .int .i64 s) rfl rfl rfl rfl (by rw [headed_eq]; exact hsA) rfl rfl rfl ?_
    repeat (first | refine aops_end ?_ | refine aops_p tok rfl rfl rfl rfl ?_)
    have : s = big f i := by rcases hks.val i s hs with h | h; omega; exact h
    subst this
    refine acode_ret ?_
    repeat (refine ret_then ?_)
    exact ⟨_, ⟨rfl, ks, hks, rfl⟩, resOf_tmp rfl⟩
  · obtain ⟨nd, hnd, hndm, hal⟩ := nodes_at hi
    obtain ⟨hal1, hal2⟩ := hf2 nd hndm
    have heq := big_eq hwf
    unfold bigN at heq
    rw [hal] at heq
    have hkd : ∀ a ∈ nd.alts, ∀ k : Nat, (k : Int) ∈ a.kids → Kid f i k := fun a ha k hk => ⟨a, by rw [hal]; exact ha, hk⟩
    refine aops_ix tok (ndC nd) rfl rfl rfl rfl (by omega) (by omega) (by simp [ndC]) (nd_at hnd) rfl rfl rfl ?_
    repeat (first | refine aops_end ?_ | refine aops_p tok rfl rfl rfl rfl ?_ | refine acode_seq ?_ | refine acode_region ?_ | refine acode_block ?_)
    refine acode_loopS (ι := Nat × Int × List Int) (fun p => [(1, .own (some bs) f.nodes.length f.nodes.length), (2, .int .i64 i), (3, .pp (foC f)), (8, .psl nd.alts.length (encs alC nd.alts)), (7, .int .i64 p.2.1), (9, .int .i64 p.1)]) (fun p => ⟨some bs, f.nodes.length * 1, ints p.2.2⟩ :: M) (fun p => nd.alts.length - p.1) (fun p => p.1 ≤ nd.alts.length ∧ Kb f p.2.2 ∧ (0 ≤ p.2.1 ∧ p.2.1 ≤ 2 * bigM) ∧ bigA (big f) p.2.1 (nd.alts.drop p.1) = bigA (big f) 0 nd.alts) (0, 0, ks) ⟨Nat.zero_le _, hks, ⟨show (0 : Int) ≤ 0 from by decide, show (0 : Int) ≤ 2 * bigM from by decide⟩, rfl⟩ ⟨rfl, rfl, rfl, rfl, rfl, rfl, trivial⟩ rfl ?_
    clear hsA hs hlt hks ks
    rintro ⟨q, m, ks⟩ ⟨hq, hks, hm, hgo⟩
    simp only at hq hks hm hgo ⊢
    repeat (first | refine aops_end ?_ | refine aops_p tok rfl rfl rfl rfl ?_ | refine acode_seq ?_ | refine acode_region ?_)
    refine acode_id rfl (fun e2 => ?_) (fun e2 => ?_)
    · have hql : q < nd.alts.length := by omega
      obtain ⟨a, ha⟩ : ∃ a, nd.alts[q]? = some a := ⟨nd.alts[q], List.getElem?_eq_getElem hql⟩
      have ham := List.mem_of_getElem? ha
      have hkl := hal2 a ham
      rw [bigA_step ha] at hgo
      refine acode_skip ?_
      repeat (refine then_n ?_)
      refine acode_seq ?_
      refine acode_block ?_
      refine acode_seq ?_
      refine acode_region ?_
      repeat (refine aops_p tok rfl rfl rfl rfl ?_)
      refine aops_end ?_
      refine acode_seq ?_
      refine acode_joinI (ι := List Int) (fun _ => [(1, .own (some bs) f.nodes.length f.nodes.length), (2, .int .i64 i), (3, .pp (foC f)), (8, .psl nd.alts.length (encs alC nd.alts)), (7, .int .i64 m), (9, .int .i64 q), (10, .int .i64 (bigK (big f) 0 a.kids))]) (fun ks => ⟨some bs, f.nodes.length * 1, ints ks⟩ :: M) (Kb f) ?_ ?_
      · repeat (first | refine aops_end ?_ | refine aops_p tok rfl rfl rfl rfl ?_ | refine acode_seq ?_ | refine acode_region ?_ | refine acode_block ?_)
        refine acode_loopS (ι := Nat × Int × List Int) (fun p => [(1, .own (some bs) f.nodes.length f.nodes.length), (2, .int .i64 i), (3, .pp (foC f)), (8, .psl nd.alts.length (encs alC nd.alts)), (7, .int .i64 m), (9, .int .i64 q), (11, .int .i64 p.1), (10, .int .i64 p.2.1)]) (fun p => ⟨some bs, f.nodes.length * 1, ints p.2.2⟩ :: M) (fun p => a.kids.length - p.1) (fun p => p.1 ≤ a.kids.length ∧ Kb f p.2.2 ∧ (0 ≤ p.2.1 ∧ p.2.1 ≤ 2 * bigM) ∧ bigK (big f) p.2.1 (a.kids.drop p.1) = bigK (big f) 0 a.kids) (0, 0, ks) ⟨Nat.zero_le _, hks, ⟨show (0 : Int) ≤ 0 from by decide, show (0 : Int) ≤ 2 * bigM from by decide⟩, rfl⟩ ⟨rfl, rfl, rfl, rfl, rfl, rfl, rfl, rfl, trivial⟩ rfl ?_
        clear hks ks
        rintro ⟨r, x, ks⟩ ⟨hr, hks, hx, hgo2⟩
        simp only at hr hks hx hgo2 ⊢
        repeat (first | refine aops_p tok rfl rfl rfl rfl ?_ | refine acode_seq ?_ | refine acode_region ?_)
        refine aops_ix tok (alC a) rfl rfl rfl rfl (by omega) (by omega) (by simp [alC]) (al_at ha) rfl rfl rfl ?_
        repeat' (first | refine aops_end ?_ | refine aops_o rfl rfl rfl ?_ | (refine aops_pd tok rfl rfl rfl rfl ?_ ?_ <;> intro e_) | refine aops_p tok rfl rfl rfl rfl ?_ | refine acode_it rfl ?_ | refine acode_if rfl ?_ | refine acode_seq ?_ | refine acode_region ?_ | refine acode_block ?_ | refine acode_skip ?_ | refine then_n ?_)
        · -- on
          have hrl : r < a.kids.length := by omega
          have hxM : x < bigM := by omega
          obtain ⟨k, hk⟩ : ∃ k, a.kids[r]? = some k := ⟨a.kids[r], List.getElem?_eq_getElem hrl⟩
          have hkm := List.mem_of_getElem? hk
          rw [bigK_step hk hxM] at hgo2
          refine aops_ix tok (alC a) rfl rfl rfl rfl (by omega) (by omega) (by simp [alC]) (al_at ha) rfl rfl rfl ?_
          repeat (refine aops_p tok rfl rfl rfl rfl ?_)
          refine aops_ix tok [A.int .i64 k] rfl rfl rfl rfl (by omega) (by omega) (by simp) (ints_at (j := r) (by simpa using hk)) rfl rfl rfl ?_
          repeat' (first | refine aops_end ?_ | refine aops_endb ?_ | refine aops_a tok rfl (by omega) (by omega) rfl rfl rfl ?_ | (refine aops_pd tok rfl rfl rfl rfl ?_ ?_ <;> intro e_) | refine aops_p tok rfl rfl rfl rfl ?_ | refine acode_it rfl ?_ | refine acode_if rfl ?_ | refine acode_region ?_ | refine then_n ?_)
          · rw [if_neg (by omega)] at hgo2
            exact ⟨(r + 1, x + 1, ks), ⟨by simp only; omega, hks, by simp only; omega, hgo2⟩, by simp only; omega, ⟨rfl, rfl, rfl, rfl, rfl, rfl, rfl, rfl, trivial⟩, rfl⟩
          · obtain ⟨k', rfl⟩ : ∃ k' : Nat, k = k' := ⟨k.toNat, by omega⟩
            rw [if_pos (by omega), Int.toNat_natCast] at hgo2
            have hkk := hkd a ham k' hkm
            obtain ⟨hk1, hk2⟩ := big_is (hkw k' hkk)
            obtain ⟨dk, hdk1, hdk2⟩ := decP (Kb f) hks
            refine acode_drawP [] 12 [0, 1, 2, 3, 4, 5, 6, 7, 8, 9, 10, 11] [11] mixed (by kernel_rfl) (by kernel_rfl) rfl ?_
            repeat (refine seqO_p tok rfl rfl rfl rfl rfl ?_)
            refine seqO_ix tok (alC a) rfl rfl rfl rfl rfl (by omega) (by omega) (by simp [alC]) (al_at ha) rfl rfl rfl ?_
            repeat (refine seqO_p tok rfl rfl rfl rfl rfl ?_)
            refine seqO_ix tok [A.int .i64 k'] rfl rfl rfl rfl rfl (by omega) (by omega) (by simp) (ints_at (j := r) (by simpa using hk)) rfl rfl rfl ?_
            repeat (refine seqO_p tok rfl rfl rfl rfl rfl ?_)
            refine seqO_callw (fun _ => .int .i64 (big f k')) (fun z => ⟨some bs, f.nodes.length * 1, ints (dk z)⟩ :: M) rfl Try.func44 rfl rfl rfl rfl ((ih k' hkk ks hks).mono ?_) (by simp) rfl rfl rfl fun z => ?_
            · rintro r M' ⟨rfl, ks', hks', rfl⟩
              obtain ⟨z, hz⟩ := hdk2 ks' hks'
              exact ⟨z, rfl, by rw [hz]⟩
            refine SeqO.done ?_
            repeat (first | refine aops_end ?_ | refine aops_endb ?_ | refine aops_a tok rfl (by omega) (by omega) rfl rfl rfl ?_ | refine aops_p tok rfl rfl rfl rfl ?_ | refine acode_region ?_ | refine then_n ?_)
            exact ⟨(r + 1, x + big f k', dk z), ⟨by simp only; omega, hdk1 z, by simp only; omega, hgo2⟩, by simp only; omega, ⟨rfl, rfl, rfl, rfl, rfl, rfl, rfl, rfl, trivial⟩, rfl⟩
        · rw [bigK_stop (by omega)] at hgo2
          subst hgo2
          refine acode_exit ?_
          repeat (first | refine exit_then ?_ | refine exit_here ?_ | refine then_n ?_)
          exact ⟨ks, hks, ⟨rfl, rfl, rfl, rfl, rfl, rfl, rfl, trivial⟩, rfl⟩
        · have hge : r = a.kids.length := by omega
          subst hge
          rw [List.drop_length] at hgo2
          have hgo2 : x = bigK (big f) 0 a.kids := hgo2
          subst hgo2
          refine acode_exit ?_
          repeat (first | refine exit_then ?_ | refine exit_here ?_ | refine then_n ?_)
          exact ⟨ks, hks, ⟨rfl, rfl, rfl, rfl, rfl, rfl, rfl, trivial⟩, rfl⟩
      · clear hks ks
        intro ks hks
        have hb := bigK_is (g := big f) a.kids 0 ⟨by decide, by decide⟩ (fun k hk => by have := big_is (hkw k (hkd a ham k hk)); exact ⟨by omega, this.2⟩)
        generalize bigK (big f) 0 a.kids = x at *
        repeat' (first | refine aops_end ?_ | refine aops_endb ?_ | refine aops_a tok rfl (by omega) (by omega) rfl rfl rfl ?_ | (refine aops_pd tok rfl rfl rfl rfl ?_ ?_ <;> intro e_) | refine aops_p tok rfl rfl rfl rfl ?_ | refine acode_it rfl ?_ | refine acode_if rfl ?_ | refine acode_seq ?_ | refine acode_region ?_ | refine acode_skip ?_ | refine then_n ?_ | refine block_n ?_)
        · rw [if_pos (by omega)] at hgo
          exact ⟨(q + 1, x, ks), ⟨by simp only; omega, hks, hb, hgo⟩, by simp only; omega, ⟨rfl, rfl, rfl, rfl, rfl, rfl, trivial⟩, rfl⟩
        · rw [if_neg (by omega)] at hgo
          exact ⟨(q + 1, m, ks), ⟨by simp only; omega, hks, hm, hgo⟩, by simp only; omega, ⟨rfl, rfl, rfl, rfl, rfl, rfl, trivial⟩, rfl⟩
    · have hge : q = nd.alts.length := by omega
      subst hge
      rw [List.drop_length] at hgo
      have hgo : m = bigA (big f) 0 nd.alts := hgo
      rw [← hgo] at heq
      have hlt : i < ks.length := by rw [hks.len]; exact hi
      have fin : ∀ v, v = big f i → Kb f (ks.set i v) := fun v hv => ⟨by simp [hks.len], fun j x hx => by
        rw [List.getElem?_set] at hx
        by_cases h : i = j
        · subst h; rw [if_pos rfl, if_pos hlt] at hx; rw [← hv]; exact .inr (Option.some.inj hx).symm
        · rw [if_neg h] at hx; exact hks.val j x hx⟩
      refine acode_exit ?_
      repeat (first | refine exit_then ?_ | refine exit_here ?_ | refine then_n ?_)
      repeat' (first | refine aops_end ?_ | refine aops_a tok rfl (by omega) (by omega) rfl rfl rfl ?_ | (refine aops_pd tok rfl rfl rfl rfl ?_ ?_ <;> intro e_) | refine aops_p tok rfl rfl rfl rfl ?_ | refine acode_it rfl ?_ | refine acode_if rfl ?_ | refine acode_seq ?_ | refine acode_region ?_ | refine acode_skip ?_ | refine then_n ?_)
      · rw [if_pos (by omega)] at heq
        refine aops_ixo tok rfl rfl rfl rfl (by omega) (by omega) rfl rfl rfl ?_
        refine aops_sto tok (ints (ks.set i (1099511627775 + 1))) rfl rfl rfl rfl rfl (by rw [ints_len]; show i * 1 + 1 ≤ _; omega) (ints_set1 hlt _) rfl rfl ?_
        repeat (first | refine aops_end ?_ | refine aops_a tok rfl (by omega) (by omega) rfl rfl rfl ?_ | refine aops_p tok rfl rfl rfl rfl ?_ | refine acode_seq ?_ | refine acode_region ?_)
        refine acode_ret ?_
        skip
        exact ⟨.int .i64 (1099511627775 + 1), ⟨by rw [heq]; rfl, _, fin _ (by rw [heq]; rfl), rfl⟩, resOf_tmp rfl⟩
      · rw [if_neg (by omega)] at heq
        refine aops_ixo tok rfl rfl rfl rfl (by omega) (by omega) rfl rfl rfl ?_
        refine aops_sto tok (ints (ks.set i (m + 1))) rfl rfl rfl rfl rfl (by rw [ints_len]; show i * 1 + 1 ≤ _; omega) (ints_set1 hlt _) rfl rfl ?_
        repeat (first | refine aops_end ?_ | refine aops_a tok rfl (by omega) (by omega) rfl rfl rfl ?_ | refine aops_p tok rfl rfl rfl rfl ?_ | refine acode_seq ?_ | refine acode_region ?_)
        refine acode_ret ?_
        skip
        exact ⟨.int .i64 (m + 1), ⟨by rw [heq], _, fin _ heq.symm, rfl⟩, resOf_tmp rfl⟩

theorem largest_calls {f : Fo} (hf : FoOk f) (M : List Ob) : ACalls Try.prog 14 [foA f] M (fun r M' => (FForm f ∧ r = .int .i64 (big f f.root.toNat) ∨ ¬ FForm f ∧ r = .int .i64 0) ∧ M' = M) := by
  obtain ⟨hf1, hf2⟩ := id hf
  refine acalls_of_code 14 Try.func14 rfl rfl rfl ?_
  repeat (first | refine acode_seq ?_ | refine acode_region ?_)
  refine aops_boxf rfl rfl rfl rfl rfl rfl rfl ?_
  repeat (first | refine aops_end ?_ | refine aops_p tok rfl rfl rfl rfl ?_ | refine acode_seq ?_ | refine acode_region ?_)
  refine aops_call Try.func43 rfl rfl rfl rfl (rfform_calls hf M) rfl rfl ?_
  rintro x M' ⟨hx, hM⟩
  obtain rfl : M = M' := hM.symm
  rcases hx with ⟨h, rfl⟩ | ⟨h, rfl⟩
  · obtain ⟨⟨h0, h1⟩, hw⟩ := id h
    obtain ⟨r, hr⟩ : ∃ r : Nat, f.root = r := ⟨f.root.toNat, by omega⟩
    have hwr : WF f r := hw r (by omega)
    repeat' (first | refine aops_put rfl ?_ | refine aops_end ?_ | refine aops_p tok rfl rfl rfl rfl ?_ | refine acode_if rfl ?_ | refine acode_seq ?_ | refine acode_skip ?_ | refine then_n ?_)
    refine acode_drawP [] 7 [0, 1, 2, 3, 5, 6, 4] [6] mixed (by kernel_rfl) (by kernel_rfl) rfl ?_
    repeat (refine seqO_p tok rfl rfl rfl rfl rfl ?_)
    refine seqO_mk tok f.nodes.length rfl rfl rfl rfl rfl rfl rfl (by show _ * 8 ≤ _; omega) (by omega) (by simp) rfl rfl rfl fun bs => ?_
    refine SeqO.done ?_
    refine aops_M (M' := ⟨some bs, f.nodes.length * 1, ints (List.replicate f.nodes.length 0)⟩ :: M) (by rw [← ints_zeros]; rfl) ?_
    have hdc := large_calls hf bs M hwr (List.replicate f.nodes.length 0) ⟨by simp, fun j x hx => .inl (count_zeros _ _ _ hx)⟩
    rw [← hr] at hdc
    refine aops_call Try.func44 rfl rfl rfl rfl hdc rfl rfl ?_
    rintro x M' ⟨rfl, ks2, hks2, rfl⟩
    repeat (first | refine aops_put rfl ?_ | refine aops_end ?_ | refine aops_p tok rfl rfl rfl rfl ?_)
    refine acode_drop0 (acode_ret ?_)
    skip
    exact ⟨.int .i64 (big f r), ⟨.inl ⟨h, by rw [hr, Int.toNat_natCast]⟩, rfl⟩, resOf_tmp rfl⟩
  · repeat' (first | refine aops_put rfl ?_ | refine aops_end ?_ | refine aops_p tok rfl rfl rfl rfl ?_ | refine acode_it rfl ?_ | refine acode_seq ?_ | refine acode_region ?_)
    refine acode_ret ?_
    repeat (refine ret_then ?_)
    exact ⟨_, ⟨.inr ⟨h, rfl⟩, rfl⟩, resOf_tmp rfl⟩
end Go.Proofs.Ytbnhmioijeagiaa.Ab
/- Chapter 11's and 12's reference, nullable and reachable: pulled out of Set1, Set4, Set8, SetA (printed by genchk.py). No condition. -/
set_option linter.unusedVariables false
set_option linter.unusedSimpArgs false
namespace Go.Proofs.Ytbnhmioijeagiaa.Ab
attribute [local irreducible] thenA inBlockA ACode AOps put IntKind.wrap

def fewB (g : Gr) : Prop := g.rules.length ≤ 70 ∧ g.forbid.length ≤ 250 ∧ g.rc.length ≤ 100 ∧ g.kc.length ≤ 100
instance (g : Gr) : Decidable (fewB g) := inferInstanceAs (Decidable (_ ∧ _ ∧ _ ∧ _))
theorem few_calls {g : Gr} (M : List Ob) : ACalls Try.prog 11 [grA g] M (fun r M' => r = .bool (decide (fewB g)) ∧ M' = M) := by
  refine acalls_of_code 25 Try.func11 rfl rfl rfl ?_
  repeat (first | refine acode_seq ?_ | refine acode_region ?_)
  refine aops_boxf rfl rfl rfl rfl rfl rfl rfl ?_
  repeat' (first | refine aops_end ?_ | refine aops_o rfl rfl rfl ?_ | (refine aops_pd tok rfl rfl rfl rfl ?_ ?_ <;> intro e_) | refine aops_p tok rfl rfl rfl rfl ?_ | refine acode_seq ?_ | refine acode_region ?_)
  all_goals
    refine acode_ret ?_
    skip
    exact ⟨.bool (decide (fewB g)), ⟨rfl, rfl⟩, resOf_tmp (by first | exact bt (by unfold fewB; omega) | exact bf (by unfold fewB; omega))⟩
end Go.Proofs.Ytbnhmioijeagiaa.Ab
/- The statement ChooseBest: the law's walk. No condition. -/
set_option linter.unusedVariables false
set_option linter.unusedSimpArgs false
namespace Go.Proofs.Ytbnhmioijeagiaa.Ab
attribute [local irreducible] thenA inBlockA ACode AOps put IntKind.wrap

theorem fits_h8 {g : Gr} {f : Fo} (hr : FoRng f) (h : FitsP g f) : ∀ i, ∀ a ∈ altsOf f i, a.kids.length ≤ 1000 ∧ ∀ k ∈ a.kids, rng k := fun i a ha => by
  obtain ⟨s, hof⟩ := whole_of h.2.2 ha
  obtain ⟨_, h2, h3, h4⟩ := of_filt hof
  have hm : ruleAt g a.rule ∈ g.rules := List.mem_of_getElem? (ruleAt_at h3 h4)
  have := ((form_ok2 h.1).2 _ hm).2.1
  refine ⟨by omega, ?_⟩
  by_cases hi : i < f.nodes.length
  · obtain ⟨nd, hnd, hndm, hal⟩ := nodes_at hi
    exact hr nd hndm a (by rw [← hal]; exact ha)
  · unfold altsOf at ha
    rw [List.getElem?_eq_none (by omega)] at ha
    cases ha
theorem vwNo (M : List Ob) : Vw M noP (trA ⟨0, 0, []⟩) := .agg (.cons (.refl _) (.cons (.refl _) (.cons .nils .nil)))
theorem sameNo (M : List Ob) : ACalls Try.prog 19 [noP, noP] M (fun r M' => r = .bool true ∧ M' = M) := by
  have h := sameT_calls ⟨0, 0, []⟩ (by simp [trSize, trsSize]) ⟨0, 0, []⟩ (by simp [trSize, trsSize]) M
  rw [eqT_self] at h
  exact acalls_arg (.cons (vwNo _) (.cons (vwNo _) .nil)) h
/-- Both answer the same. -/
theorem both_best {g : Gr} {f : Fo} (hg : GrOk g) (hf : FoOk f) (hr : FoRng f) (hn : f.nodes.length ≤ 60) (hb : FForm f → big f f.root.toNat ≤ 2000) : ∃ (t : A) (e : Int), (∀ M, ACalls Try.prog 18 [grA g, foA f] M (fun x M' => x = .tup [t, .int .i64 e] ∧ M' = M)) ∧ (∀ M, ACalls Try.prog 13 [grA g, foA f] M (fun x M' => x = .tup [t, .int .i64 e] ∧ M' = M)) ∧ (∃ a b x, t = .agg [.int .i64 a, .int .i64 b, x] ∧ (x = .nils ∨ ∃ n cs, x = .psl n cs)) ∧ (∀ M, ACalls Try.prog 19 [t, t] M (fun r M' => r = .bool true ∧ M' = M)) := by
  by_cases hfit : FitsP g f
  · have h8 := fits_h8 hr hfit
    obtain ⟨h0, hF, hwh⟩ := id hfit
    have hbig := hb hF
    have h1 := chbest_calls hg h0 hf hF hwh h8 (rows_ok (fun r => by have := dyn_ok h0 r; unfold rng; omega) hwh (fun i a ha => (h8 i a ha).1) hF (by omega))
    have h2 := rbest_calls hg hf hfit h8 (by omega)
    have hT : (bestF (fun _ => true) (pkT g f f.root.toNat)).isTk = false → trSize (treeP (bestF (fun _ => true) (pkT g f f.root.toNat))) ≤ 1000000 := fun h => by
      have hw := hF.2 _ (show f.root.toNat < f.nodes.length by have := hF.1; omega)
      have hp := pick_all (fun r => by have := dyn_ok h0 r; unfold rng; omega) hwh (fun i a ha => (h8 i a ha).1) hw _ (best_in h).1 h
      have := big_tr hw (by show _ < (1099511627776 : Int); omega) _ hp.is.mem
      omega
    unfold bestR at h1 h2
    generalize bestF (fun _ => true) (pkT g f f.root.toNat) = B at *
    cases hB : B.isTk with
    | true =>
      rw [if_pos hB] at h1 h2
      exact ⟨_, _, h1, h2, ⟨_, _, _, rfl, .inl rfl⟩, sameNo⟩
    | false =>
      rw [if_neg (by simp [hB])] at h1 h2
      refine ⟨_, _, h1, h2, ⟨_, _, _, rfl, .inr ⟨_, _, rfl⟩⟩, fun M => ?_⟩
      have h := sameT_calls (treeP B) (by have := hT hB; omega) (treeP B) (by have := hT hB; omega) M
      rw [eqT_self] at h
      exact h
  · have h2 := fun M => rbest_none hg hf hfit M
    by_cases hF : FForm f
    · have h1 := fun M => chbest_bad hg hf hF (by
        by_cases h0 : (formF g).2 = 0
        · right
          cases hw : wholeB g f with
          | false => rfl
          | true => exact absurd ⟨h0, hF, hw⟩ hfit
        · exact .inl h0) M
      exact ⟨_, _, h1, h2, ⟨_, _, _, rfl, .inl rfl⟩, sameNo⟩
    · have h1 := fun M => chbest_none (g := g) hf hF M
      exact ⟨_, _, h1, h2, ⟨_, _, _, rfl, .inl rfl⟩, sameNo⟩
set_option maxHeartbeats 8000000 in
theorem chBe_main {g : Gr} {f : Fo} (hg : GrOk g) (hf : FoOk f) (hr : FoRng f) : ACalls Try.prog 5 [grA g, foA f] [] (fun x _ => x = .bool true) := by
  obtain ⟨hf1, hf2⟩ := id hf
  refine acalls_of_code 51 Try.func5 rfl rfl rfl ?_
  repeat (first | refine acode_seq ?_ | refine acode_region ?_)
  refine aops_boxf rfl rfl rfl rfl rfl rfl rfl ?_
  refine aops_boxf rfl rfl rfl rfl rfl rfl rfl ?_
  repeat (first | refine aops_end ?_ | refine aops_p tok rfl rfl rfl rfl ?_ | refine acode_seq ?_ | refine acode_region ?_)
  refine aops_callx Try.func17 rfl rfl rfl rfl (alive24_calls _) rfl rfl rfl ?_
  repeat (first | refine aops_end ?_ | refine aops_p tok rfl rfl rfl rfl ?_ | refine acode_seq ?_ | refine acode_region ?_)
  refine aops_callx Try.func11 rfl rfl rfl rfl (few_calls _) rfl rfl rfl ?_
  by_cases hfew : fewB g
  rotate_left
  · rw [decide_eq_false hfew]
    repeat' (first | refine aops_end ?_ | refine aops_o rfl rfl rfl ?_ | refine aops_p tok rfl rfl rfl rfl ?_ | refine acode_it rfl ?_ | refine acode_seq ?_ | refine acode_region ?_)
    all_goals try (exfalso; omega)
    refine acode_ret ?_
    repeat (refine ret_then ?_)
    exact ⟨_, rfl, resOf_tmp rfl⟩
  rw [decide_eq_true hfew]
  by_cases hn : f.nodes.length ≤ 60
  rotate_left
  · repeat' (first | refine aops_end ?_ | refine aops_o rfl rfl rfl ?_ | refine aops_pbt tok rfl (by first | omega | decide) rfl rfl rfl ?_ | refine aops_p tok rfl rfl rfl rfl ?_ | refine acode_it rfl ?_ | refine acode_seq ?_ | refine acode_region ?_)
    all_goals try (exfalso; omega)
    refine acode_ret ?_
    repeat (refine ret_then ?_)
    exact ⟨_, rfl, resOf_tmp rfl⟩
  have hmain : ∀ b : Int, (FForm f ∧ b = big f f.root.toNat ∨ ¬ FForm f ∧ b = 0) → 0 ≤ b ∧ (b ≤ 2000 → (FForm f → big f f.root.toNat ≤ 2000)) := fun b h => by
    rcases h with ⟨hF, rfl⟩ | ⟨hF, rfl⟩
    · have := (big_is (hF.2 _ (show f.root.toNat < f.nodes.length by have := hF.1; omega))).1
      exact ⟨by omega, fun h _ => h⟩
    · exact ⟨by omega, fun _ h => absurd h hF⟩
  have hlarge : ∀ M, ACalls Try.prog 14 [foA f] M (fun r M' => ∃ b : Int, r = .int .i64 b ∧ (FForm f ∧ b = big f f.root.toNat ∨ ¬ FForm f ∧ b = 0) ∧ M' = M) := fun M =>
    (largest_calls hf M).mono fun r M' h => by
      rcases h with ⟨⟨hF, rfl⟩ | ⟨hF, rfl⟩, rfl⟩
      · exact ⟨_, rfl, .inl ⟨hF, rfl⟩, rfl⟩
      · exact ⟨_, rfl, .inr ⟨hF, rfl⟩, rfl⟩
  repeat' (first | refine aops_pbf tok rfl (by first | omega | decide) rfl rfl rfl ?_ | refine aops_p tok rfl rfl rfl rfl ?_)
  all_goals try (exfalso; omega)
  refine aops_call Try.func14 rfl rfl rfl rfl (hlarge _) rfl rfl ?_
  rintro x M' ⟨b, rfl, hb, rfl⟩
  obtain ⟨hb0, hb1⟩ := hmain b hb
  by_cases h2 : b ≤ 2000
  rotate_left
  · repeat' (first | refine aops_put rfl ?_ | refine aops_end ?_ | refine aops_pbt tok rfl (by first | omega | decide) rfl rfl rfl ?_ | refine aops_p tok rfl rfl rfl rfl ?_ | refine acode_it rfl ?_ | refine acode_seq ?_ | refine acode_region ?_)
    all_goals try (exfalso; omega)
    refine acode_ret ?_
    repeat (refine ret_then ?_)
    exact ⟨_, rfl, resOf_tmp rfl⟩
  obtain ⟨t, e, k1, k2, ⟨ta, tb, tx, rfl, hx⟩, k3⟩ := both_best hg hf hr hn (hb1 h2)
  rcases hx with rfl | ⟨n, cs, rfl⟩
  · repeat' (first | refine aops_put rfl ?_ | refine aops_end ?_ | refine aops_pbf tok rfl (by first | omega | decide) rfl rfl rfl ?_ | refine aops_p tok rfl rfl rfl rfl ?_ | refine acode_if rfl ?_ | refine acode_seq ?_ | refine acode_region ?_ | refine acode_skip ?_ | refine then_n ?_)
    all_goals try (exfalso; omega)
    refine aops_callx Try.func18 rfl rfl rfl rfl (k1 _) rfl rfl rfl ?_
    repeat (refine aops_p tok rfl rfl rfl rfl ?_)
    refine aops_alloc tok rfl rfl rfl rfl rfl rfl fun b6 => ?_
    repeat (first | refine aops_p tok rfl rfl rfl rfl ?_ | refine aops_stn tok rfl rfl rfl rfl rfl rfl rfl rfl rfl ?_)
    refine aops_pubref0 6 rfl ?_
    repeat (first | refine aops_end ?_ | refine aops_p tok rfl rfl rfl rfl ?_ | refine acode_seq ?_ | refine acode_region ?_)
    refine aops_callx Try.func13 rfl rfl rfl rfl (k2 _) rfl rfl rfl ?_
    repeat (refine aops_p tok rfl rfl rfl rfl ?_)
    refine aops_alloc tok rfl rfl rfl rfl rfl rfl fun b8 => ?_
    repeat (first | refine aops_p tok rfl rfl rfl rfl ?_ | refine aops_stn tok rfl rfl rfl rfl rfl rfl rfl rfl rfl ?_)
    refine aops_pubref0 8 rfl ?_
    repeat (first | refine aops_end ?_ | refine aops_p tok rfl rfl rfl rfl ?_ | refine acode_seq ?_ | refine acode_region ?_)
    refine aops_callx Try.func19 rfl rfl rfl rfl (k3 _) rfl rfl rfl ?_
    repeat' (refine aops_p tok rfl rfl rfl rfl ?_)
    all_goals try (exfalso; omega)
    refine aops_callx Try.func20 rfl rfl rfl rfl (num24_calls _) rfl rfl rfl ?_
    repeat' (first | refine aops_end ?_ | refine aops_pbt tok rfl (by first | omega | decide) rfl rfl rfl ?_ | refine aops_p tok rfl rfl rfl rfl ?_)
    all_goals try (exfalso; omega)
    refine acode_ret ?_
    skip
    exact ⟨_, rfl, resOf_tmp rfl⟩
  · repeat' (first | refine aops_put rfl ?_ | refine aops_end ?_ | refine aops_pbf tok rfl (by first | omega | decide) rfl rfl rfl ?_ | refine aops_p tok rfl rfl rfl rfl ?_ | refine acode_if rfl ?_ | refine acode_seq ?_ | refine acode_region ?_ | refine acode_skip ?_ | refine then_n ?_)
    all_goals try (exfalso; omega)
    refine aops_callx Try.func18 rfl rfl rfl rfl (k1 _) rfl rfl rfl ?_
    repeat (refine aops_p tok rfl rfl rfl rfl ?_)
    refine aops_alloc tok rfl rfl rfl rfl rfl rfl fun b6 => ?_
    repeat (first | refine aops_p tok rfl rfl rfl rfl ?_ | refine aops_stn tok rfl rfl rfl rfl rfl rfl rfl rfl rfl ?_)
    refine aops_pubref0 6 rfl ?_
    repeat (first | refine aops_end ?_ | refine aops_p tok rfl rfl rfl rfl ?_ | refine acode_seq ?_ | refine acode_region ?_)
    refine aops_callx Try.func13 rfl rfl rfl rfl (k2 _) rfl rfl rfl ?_
    repeat (refine aops_p tok rfl rfl rfl rfl ?_)
    refine aops_alloc tok rfl rfl rfl rfl rfl rfl fun b8 => ?_
    repeat (first | refine aops_p tok rfl rfl rfl rfl ?_ | refine aops_stn tok rfl rfl rfl rfl rfl rfl rfl rfl rfl ?_)
    refine aops_pubref0 8 rfl ?_
    repeat (first | refine aops_end ?_ | refine aops_p tok rfl rfl rfl rfl ?_ | refine acode_seq ?_ | refine acode_region ?_)
    refine aops_callx Try.func19 rfl rfl rfl rfl (k3 _) rfl rfl rfl ?_
    repeat' (refine aops_p tok rfl rfl rfl rfl ?_)
    all_goals try (exfalso; omega)
    refine aops_callx Try.func20 rfl rfl rfl rfl (num24_calls _) rfl rfl rfl ?_
    repeat' (first | refine aops_end ?_ | refine aops_pbt tok rfl (by first | omega | decide) rfl rfl rfl ?_ | refine aops_p tok rfl rfl rfl rfl ?_)
    all_goals try (exfalso; omega)
    refine acode_ret ?_
    skip
    exact ⟨_, rfl, resOf_tmp rfl⟩
theorem chooseBest_calls (zs : List A) (h : GoodL T [26, 33] zs) : ACalls Try.prog 5 zs [] (fun r _ => r = .bool true) := by
  obtain ⟨_, _, rfl, ⟨f1, g1⟩, _, _, rfl, ⟨f2, g2⟩, rfl⟩ := h
  obtain ⟨g, rfl, hg⟩ := good_gr g1
  obtain ⟨f, rfl, hf, hr⟩ := good_foR g2
  exact chBe_main hg hf hr
end Go.Proofs.Ytbnhmioijeagiaa.Ab

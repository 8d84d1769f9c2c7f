/- Texts of this proof, one behind the other (ScnA, SnV, TkA, LnP, ScnB, RegU, LnW). No condition. -/
import Derived.Test.YtobpbelgihilpaaScLongP3
/- Chapter 6's Next: the walk (as Scan1 and Scan2, by names). No condition. -/
set_option linter.unusedVariables false
set_option linter.unusedSimpArgs false
namespace Go.Proofs.Ytobpbelgihilpaa.Ab
attribute [local irreducible] thenA inBlockA ACode AOps put IntKind.wrap

def rows (nx : List (List Int)) : List A := nx.map fun r => A.psl r.length (ints r)
def dfaA (nx : List (List Int)) (ac : List Int) : A := .agg [.psl nx.length (rows nx), .psl ac.length (ints ac)]

theorem cell_at {α : Type} {f : α → A} {l : List α} {j : Int} {x : α} (h : l[j.toNat]? = some x) : [f x] <+: (l.map f).drop (j.toNat * 1) := by
  rw [Nat.mul_one]
  have hlt : j.toNat < l.length := (List.getElem?_eq_some_iff.1 h).1
  rw [List.drop_eq_getElem_cons (by simpa using hlt)]
  have h2 : (l.map f)[j.toNat]? = some (f x) := by simp [h]
  rw [List.getElem?_eq_some_iff] at h2
  obtain ⟨h3, h4⟩ := h2
  rw [h4]
  exact ⟨(l.map f).drop (j.toNat + 1), rfl⟩


theorem is_calls {nx : List (List Int)} {ac : List Int} {s : Int} (M : List Ob) : ACalls Try.prog 32 [dfaA nx ac, .int .i64 s] M (fun r M' => r = .bool (decide (isSt nx ac s)) ∧ M' = M) := by
  refine acalls_of_code 21 Try.func32 rfl rfl rfl ?_
  repeat (first | refine acode_seq ?_ | refine acode_region ?_)
  refine aops_boxf rfl rfl rfl rfl rfl rfl rfl ?_
  repeat (first | refine aops_end ?_ | refine aops_p tok rfl rfl rfl rfl ?_ | refine acode_seq ?_ | refine acode_region ?_)
  refine aops_case 7 rfl (fun e1 => ?_) (fun e1 => ?_)
  · repeat (refine aops_p tok rfl rfl rfl rfl ?_)
    refine aops_case 14 rfl (fun e2 => ?_) (fun e2 => ?_)
    · repeat (first | refine aops_end ?_ | refine aops_p tok rfl rfl rfl rfl ?_)
      refine acode_ret ?_
      skip
      exact ⟨_, ⟨rfl, rfl⟩, resOf_tmp (by show A.bool _ = A.bool _; congr 1; simp only [decide_eq_true_eq, decide_eq_false_iff_not] at e1 e2; rw [Bool.eq_iff_iff]; simp only [decide_eq_true_eq, Bool.false_eq_true]; unfold isSt; omega)⟩
    · repeat (first | refine aops_end ?_ | refine aops_o rfl rfl rfl ?_ | refine aops_p tok rfl rfl rfl rfl ?_)
      refine acode_ret ?_
      skip
      exact ⟨.bool (decide (isSt nx ac s)), ⟨rfl, rfl⟩, resOf_tmp (by
        have : ¬ isSt nx ac s := fun h => by obtain ⟨h1, h2, h3⟩ := h; simp at e1 e2; omega
        rw [decide_eq_false this]; rfl)⟩
  · repeat (first | refine aops_end ?_ | refine aops_o rfl rfl rfl ?_ | refine aops_p tok rfl rfl rfl rfl ?_)
    refine acode_ret ?_
    skip
    exact ⟨.bool (decide (isSt nx ac s)), ⟨rfl, rfl⟩, resOf_tmp (by
      have : ¬ isSt nx ac s := fun h => by obtain ⟨h1, h2, h3⟩ := h; simp at e1; omega
      rw [decide_eq_false this]; rfl)⟩

theorem row_at {nx : List (List Int)} {ac : List Int} {s : Int} (h : isSt nx ac s) : nx[s.toNat]? = some (nx.getD s.toNat []) := by
  obtain ⟨h0, h1, h2⟩ := h
  have : s.toNat < nx.length := by omega
  simp [List.getElem?_eq_getElem this]
theorem to_at {r : List Int} {c : Int} (h0 : 0 ≤ c) (h : c < r.length) : r[c.toNat]? = some (r.getD c.toNat 0) := by
  have : c.toNat < r.length := by omega
  simp [List.getElem?_eq_getElem this]

set_option maxHeartbeats 2000000 in
theorem step_calls {nx : List (List Int)} {ac : List Int} {s c : Int} (hc : 0 ≤ c ∧ c < 256) (M : List Ob) : ACalls Try.prog 19 [dfaA nx ac, .int .i64 s, .int .u8 c] M (fun r M' => r = .int .i64 (stepD nx ac s c) ∧ M' = M) := by
  have hw : IntKind.i64.wrap c = c := wrap64_small (by omega) (by omega)
  refine acalls_of_code 43 Try.func19 rfl rfl rfl ?_
  repeat (first | refine acode_seq ?_ | refine acode_region ?_)
  refine aops_boxf rfl rfl rfl rfl rfl rfl rfl ?_
  repeat (first | refine aops_end ?_ | refine aops_p tok rfl rfl rfl rfl ?_ | refine acode_seq ?_)
  refine acode_drawT 28 mixed (by kernel_rfl) (by kernel_rfl) ?_
  repeat (refine seqT_p tok rfl rfl rfl rfl ?_)
  refine seqT_call _ Try.func32 rfl rfl rfl rfl (is_calls _) rfl rfl rfl ?_
  by_cases hS : isSt nx ac s
  · rw [decide_eq_true hS]
    have hr := row_at hS
    have hS' := hS
    obtain ⟨s0, s1, s2⟩ := hS'
    repeat (first | refine seqT_a tok rfl (by omega) (by omega) rfl rfl rfl ?_ | refine seqT_p tok rfl rfl rfl rfl ?_)
    refine seqT_y (yields_index tok [A.psl (nx.getD s.toNat []).length (ints (nx.getD s.toNat []))] rfl rfl rfl rfl s0 s1 (by simp) (cell_at (f := fun r => A.psl r.length (ints r)) hr) rfl rfl) rfl ?_
    repeat (refine seqT_p tok rfl rfl rfl rfl ?_)
    generalize hrr : nx.getD s.toNat [] = r at *
    by_cases hC : c < (r.length : Int)
    · have hC' : decide (c ≥ (r.length : Int)) = false := by simp; omega
      rw [hC']
      have ht := to_at hc.1 hC
      generalize htt : r.getD c.toNat 0 = to at *
      repeat (refine seqT_p tok rfl rfl rfl rfl ?_)
      refine seqT_y (yields_index tok [A.psl r.length (ints r)] rfl rfl rfl rfl s0 s1 (by simp) (cell_at (f := fun r => A.psl r.length (ints r)) hr) rfl rfl) rfl ?_
      repeat (refine seqT_p tok rfl rfl rfl rfl ?_)
      refine seqT_y (yields_index tok [A.int .i64 to] rfl rfl rfl rfl hc.1 hC (by simp) (cell_at (f := A.int .i64) ht) rfl rfl) rfl ?_
      repeat (refine seqT_p tok rfl rfl rfl rfl ?_)
      refine seqT_call _ Try.func32 rfl rfl rfl rfl (is_calls _) rfl rfl rfl ?_
      repeat (refine seqT_p tok rfl rfl rfl rfl ?_)
      refine SeqT.done ?_
      repeat (refine aops_end ?_)
      by_cases hT : isSt nx ac to
      · rw [decide_eq_true hT]
        refine acode_cond rfl (fun e => by cases e) (fun e => ?_)
        repeat (first | refine aops_p tok rfl rfl rfl rfl ?_ | refine acode_seq ?_ | refine acode_region ?_ | refine acode_skip ?_ | refine then_n ?_)
        refine aops_index tok [A.psl r.length (ints r)] rfl rfl rfl rfl s0 s1 (by simp) (cell_at (f := fun r => A.psl r.length (ints r)) hr) rfl rfl ?_
        repeat (first | refine aops_put rfl ?_ | refine aops_p tok rfl rfl rfl rfl ?_)
        refine aops_index tok [A.int .i64 to] rfl rfl rfl rfl hc.1 hC (by simp) (cell_at (f := A.int .i64) ht) rfl rfl ?_
        repeat (first | refine aops_put rfl ?_ | refine aops_end ?_ | refine aops_p tok rfl rfl rfl rfl ?_)
        refine acode_ret ?_
        skip
        exact ⟨_, ⟨rfl, rfl⟩, resOf_tmp (by unfold stepD; rw [if_pos hS, hrr]; simp only [htt]; rw [if_pos hC, if_pos hT]; rfl)⟩
      · rw [decide_eq_false hT]
        refine acode_cond rfl (fun e => ?_) (fun e => by cases e)
        repeat (first | refine aops_end ?_ | refine aops_p tok rfl rfl rfl rfl ?_ | refine acode_seq ?_ | refine acode_region ?_)
        refine acode_ret ?_
        repeat (refine ret_then ?_)
        exact ⟨_, ⟨rfl, rfl⟩, resOf_tmp (by unfold stepD; rw [if_pos hS, hrr]; simp only [htt]; rw [if_pos hC, if_neg hT]; rfl)⟩
    · have hC' : decide (c ≥ (r.length : Int)) = true := by simp; omega
      rw [hC']
      repeat (first | refine seqT_o rfl rfl rfl ?_ | refine seqT_p tok rfl rfl rfl rfl ?_)
      refine SeqT.done ?_
      repeat (refine aops_end ?_)
      refine acode_cond rfl (fun e => ?_) (fun e => by cases e)
      repeat (first | refine aops_end ?_ | refine aops_p tok rfl rfl rfl rfl ?_ | refine acode_seq ?_ | refine acode_region ?_)
      refine acode_ret ?_
      repeat (refine ret_then ?_)
      exact ⟨_, ⟨rfl, rfl⟩, resOf_tmp (by unfold stepD; rw [if_pos hS, hrr]; simp only []; rw [if_neg hC]; rfl)⟩
  · rw [decide_eq_false hS]
    repeat (first | refine seqT_o rfl rfl rfl ?_ | refine seqT_p tok rfl rfl rfl rfl ?_)
    refine SeqT.done ?_
    repeat (refine aops_end ?_)
    refine acode_cond rfl (fun e => ?_) (fun e => by cases e)
    repeat (first | refine aops_end ?_ | refine aops_p tok rfl rfl rfl rfl ?_ | refine acode_seq ?_ | refine acode_region ?_)
    refine acode_ret ?_
    repeat (refine ret_then ?_)
    exact ⟨_, ⟨rfl, rfl⟩, resOf_tmp (by unfold stepD; rw [if_neg hS]; rfl)⟩

theorem accepts_calls {nx : List (List Int)} {ac : List Int} {s : Int} (M : List Ob) : ACalls Try.prog 20 [dfaA nx ac, .int .i64 s] M (fun r M' => r = .int .i64 (accD nx ac s) ∧ M' = M) := by
  refine acalls_of_code 15 Try.func20 rfl rfl rfl ?_
  repeat (first | refine acode_seq ?_ | refine acode_region ?_)
  refine aops_boxf rfl rfl rfl rfl rfl rfl rfl ?_
  repeat (first | refine aops_end ?_ | refine aops_p tok rfl rfl rfl rfl ?_ | refine acode_seq ?_ | refine acode_region ?_)
  refine aops_callx Try.func32 rfl rfl rfl rfl (is_calls _) rfl rfl rfl ?_
  by_cases hS : isSt nx ac s
  · rw [decide_eq_true hS]
    have hS' := hS
    obtain ⟨s0, s1, s2⟩ := hS'
    repeat (first | refine aops_end ?_ | refine aops_p tok rfl rfl rfl rfl ?_)
    refine acode_cond rfl (fun e => by cases e) (fun e => ?_)
    repeat (first | refine aops_p tok rfl rfl rfl rfl ?_ | refine acode_seq ?_ | refine acode_region ?_ | refine acode_skip ?_ | refine then_n ?_)
    refine aops_index tok [A.int .i64 (ac.getD s.toNat 0)] rfl rfl rfl rfl s0 s2 (by simp) (cell_at (f := A.int .i64) (to_at s0 s2)) rfl rfl ?_
    repeat (first | refine aops_put rfl ?_ | refine aops_end ?_ | refine aops_max tok rfl rfl rfl rfl rfl rfl ?_ | refine aops_p tok rfl rfl rfl rfl ?_)
    refine acode_ret ?_
    skip
    exact ⟨_, ⟨rfl, rfl⟩, resOf_tmp (by unfold accD; rw [if_pos hS]; rfl)⟩
  · rw [decide_eq_false hS]
    repeat (first | refine aops_end ?_ | refine aops_p tok rfl rfl rfl rfl ?_)
    refine acode_cond rfl (fun e => ?_) (fun e => by cases e)
    repeat (first | refine aops_end ?_ | refine aops_p tok rfl rfl rfl rfl ?_ | refine acode_seq ?_ | refine acode_region ?_)
    refine acode_ret ?_
    repeat (refine ret_then ?_)
    exact ⟨_, ⟨rfl, rfl⟩, resOf_tmp (by unfold accD; rw [if_neg hS]; rfl)⟩

def cAt (n a : Int) : Int := max 0 (min a (max 0 n))
theorem cAt_b (n a : Int) (h : 0 ≤ n) : 0 ≤ cAt n a ∧ cAt n a ≤ n := by unfold cAt; omega
theorem u8s_len (xs : List Int) : (u8s xs).length = xs.length := by simp [u8s]
theorem u8s_take (xs : List Int) (n : Nat) : (u8s xs).take n = u8s (xs.take n) := by simp [u8s, List.map_take]
theorem u8s_drop (xs : List Int) (n : Nat) : (u8s xs).drop n = u8s (xs.drop n) := by simp [u8s, List.map_drop]
def tup3 (p : Int × Int × Int) : A := .tup [.int .i64 p.1, .int .i64 p.2.1, .int .i64 p.2.2]
def nextF (nx : List (List Int)) (ac : List Int) (bs : List Int) (at_ : Int) : Int × Int × Int := runD nx ac 0 (-1) 0 0 (bs.drop (cAt bs.length at_).toNat)

set_option maxHeartbeats 2000000 in
theorem next_calls {nx : List (List Int)} {ac bs : List Int} {at_ : Int} (hb : bs.length ≤ 400000) (hw : ∀ n ∈ bs, 0 ≤ n ∧ n < 256) (M : List Ob) :
    ACalls Try.prog 8 [dfaA nx ac, .psl bs.length (u8s bs), .int .i64 at_] M (fun r M' => r = tup3 (nextF nx ac bs at_) ∧ M' = M) := by
  obtain ⟨a0, a1⟩ := cAt_b bs.length at_ (by omega)
  have hm : max 0 (min at_ (bs.length : Int)) = cAt bs.length at_ := by unfold cAt; omega
  refine acalls_of_code 53 Try.func8 rfl rfl rfl ?_
  repeat (first | refine acode_seq ?_ | refine acode_region ?_)
  refine aops_boxf rfl rfl rfl rfl rfl rfl rfl ?_
  repeat (first | refine aops_end ?_ | refine aops_max tok rfl rfl rfl rfl rfl rfl ?_ | refine aops_min tok rfl rfl rfl rfl rfl rfl ?_ | refine aops_p tok rfl rfl rfl rfl ?_ | refine acode_seq ?_ | refine acode_region ?_)
  rw [hm]
  refine aops_slc tok (bs.drop (cAt bs.length at_).toNat).length (u8s (bs.drop (cAt bs.length at_).toNat)) rfl rfl rfl rfl rfl a0 a1 (by omega) (by simp) (by rw [u8s_len]; exact (Nat.mul_one _).symm) (by simp [u8s_drop, u8s_take]; rw [List.take_of_length_le (by simp)]) rfl rfl rfl ?_
  have hw' : ∀ n ∈ bs.drop (cAt bs.length at_).toNat, 0 ≤ n ∧ n < 256 := fun n hn => hw n (List.mem_of_mem_drop hn)
  have hb' : (bs.drop (cAt bs.length at_).toNat).length ≤ 400000 := by simp; omega
  have hR : nextF nx ac bs at_ = runD nx ac 0 (-1) 0 0 (bs.drop (cAt bs.length at_).toNat) := rfl
  generalize bs.drop (cAt bs.length at_).toNat = cs at *
  rw [hR]
  repeat (first | refine aops_end ?_ | refine aops_p tok rfl rfl rfl rfl ?_ | refine acode_seq ?_ | refine acode_region ?_ | refine acode_block ?_)
  refine acode_loopS (ι := Nat × Int × Int × Int) (fun p => [(22, .psl cs.length (u8s cs)), (23, .int .i64 cs.length), (24, .int .i64 p.1), (11, .int .i64 p.2.1), (9, .int .i64 p.2.2.1), (10, .int .i64 p.2.2.2), (3, .pp [.psl nx.length (rows nx), .psl ac.length (ints ac)]), (1, .psl cs.length (u8s cs))]) (fun _ => M) (fun p => cs.length - p.1)
    (fun p => p.1 ≤ cs.length ∧ runD nx ac p.2.1 p.2.2.1 p.2.2.2 p.1 (cs.drop p.1) = runD nx ac 0 (-1) 0 0 cs) (0, 0, -1, 0) ⟨Nat.zero_le _, rfl⟩ ⟨rfl, rfl, rfl, rfl, rfl, rfl, rfl, rfl, trivial⟩ rfl ?_
  rintro ⟨i, s, r, l⟩ ⟨hi, hrun⟩
  simp only at hi hrun ⊢
  repeat (first | refine aops_end ?_ | refine aops_p tok rfl rfl rfl rfl ?_ | refine acode_seq ?_ | refine acode_region ?_)
  refine acode_cond rfl (fun e => ?_) (fun e => ?_)
  · have hlt : i < cs.length := by simpa using e
    obtain ⟨c, hc⟩ : ∃ c, cs[i]? = some c := ⟨cs[i], List.getElem?_eq_getElem hlt⟩
    have hcm := hw' c (List.mem_of_getElem? hc)
    have hdr : cs.drop i = c :: cs.drop (i + 1) := by
      rw [List.drop_eq_getElem_cons hlt]
      rw [List.getElem?_eq_getElem hlt] at hc
      rw [Option.some.inj hc]
    rw [hdr] at hrun
    repeat (first | refine aops_p tok rfl rfl rfl rfl ?_ | refine acode_seq ?_ | refine acode_region ?_ | refine acode_block ?_ | refine acode_skip ?_ | refine then_n ?_)
    refine aops_index tok [A.int .u8 c] rfl rfl rfl rfl (by omega) (by omega) (by simp) (u8s_at (j := i) (by simpa using hc)) rfl rfl ?_
    repeat (first | refine aops_put rfl ?_ | refine aops_end ?_ | refine aops_p tok rfl rfl rfl rfl ?_ | refine acode_seq ?_ | refine acode_region ?_)
    refine aops_callx Try.func19 rfl rfl rfl rfl (step_calls hcm _) rfl rfl rfl ?_
    repeat (first | refine aops_end ?_ | refine aops_p tok rfl rfl rfl rfl ?_ | refine acode_seq ?_ | refine acode_region ?_)
    refine acode_cond rfl (fun e => ?_) (fun e => ?_)
    · have e' : stepD nx ac s c < 0 := by simpa using e
      repeat (first | refine aops_end ?_ | refine aops_a tok rfl (by omega) (by omega) rfl rfl rfl ?_ | refine aops_p tok rfl rfl rfl rfl ?_ | refine acode_seq ?_ | refine acode_region ?_)
      refine acode_ret ?_
      repeat (first | refine ret_then ?_ | refine ret_block ?_)
      rw [runD, if_pos e'] at hrun
      rw [← hrun]
      exact ⟨_, ⟨rfl, rfl⟩, _, rfl, resOf_tmp rfl⟩
    · have e' : ¬ stepD nx ac s c < 0 := by simpa using e
      rw [runD, if_neg e'] at hrun
      repeat (first | refine aops_p tok rfl rfl rfl rfl ?_ | refine acode_seq ?_ | refine acode_region ?_ | refine acode_skip ?_ | refine then_n ?_)
      refine aops_callx Try.func20 rfl rfl rfl rfl (accepts_calls _) rfl rfl rfl ?_
      repeat (first | refine aops_end ?_ | refine aops_p tok rfl rfl rfl rfl ?_ | refine acode_seq ?_ | refine acode_region ?_)
      refine acode_cond rfl (fun e2 => ?_) (fun e2 => ?_)
      · have e3 : accD nx ac (stepD nx ac s c) ≥ 0 := by simpa using e2
        rw [if_pos e3] at hrun
        repeat (first | refine aops_end ?_ | refine aops_endb ?_ | refine aops_a tok rfl (by omega) (by omega) rfl rfl rfl ?_ | refine aops_p tok rfl rfl rfl rfl ?_ | refine acode_region ?_ | refine then_n ?_)
        exact ⟨(i + 1, stepD nx ac s c, accD nx ac (stepD nx ac s c), i + 1), ⟨by omega, hrun⟩, by simp; omega, ⟨rfl, rfl, rfl, rfl, rfl, rfl, rfl, rfl, trivial⟩, rfl⟩
      · have e3 : ¬ accD nx ac (stepD nx ac s c) ≥ 0 := by simpa using e2
        rw [if_neg e3] at hrun
        repeat (first | refine aops_end ?_ | refine aops_a tok rfl (by omega) (by omega) rfl rfl rfl ?_ | refine aops_p tok rfl rfl rfl rfl ?_ | refine acode_region ?_ | refine acode_skip ?_ | refine then_n ?_ | refine block_n ?_)
        exact ⟨(i + 1, stepD nx ac s c, r, l), ⟨by omega, hrun⟩, by simp; omega, ⟨rfl, rfl, rfl, rfl, rfl, rfl, rfl, rfl, trivial⟩, rfl⟩
  · have hge : i = cs.length := by simp at e; omega
    subst hge
    refine acode_exit ?_
    repeat (first | refine exit_then ?_ | refine exit_here ?_ | refine then_n ?_)
    repeat (first | refine aops_end ?_ | refine aops_a tok rfl (by omega) (by omega) rfl rfl rfl ?_ | refine aops_p tok rfl rfl rfl rfl ?_ | refine acode_seq ?_ | refine acode_region ?_)
    refine acode_ret ?_
    skip
    rw [List.drop_length, runD] at hrun
    rw [← hrun]
    exact ⟨_, ⟨rfl, rfl⟩, _, rfl, resOf_tmp rfl⟩

end Go.Proofs.Ytobpbelgihilpaa.Ab
/- Chapter 5: the reference's DFA: the walk. No condition. -/
set_option linter.unusedVariables false
set_option linter.unusedSimpArgs false
namespace Go.Proofs.Ytobpbelgihilpaa.Ab
attribute [local irreducible] thenA inBlockA ACode AOps put IntKind.wrap

theorem looseL_bools : ∀ l : List Bool, looseL (bools l) = true
  | [] => rfl
  | x :: l => by have := looseL_bools l; unfold bools at this ⊢; simp only [List.map_cons, looseL, looseA, Bool.true_and]; exact this
theorem bools_at {l : List Bool} {j : Int} {x : Bool} (h : l[j.toNat]? = some x) : [A.bool x] <+: (bools l).drop (j.toNat * 1) := cell_at (f := A.bool) h
theorem obX_len (rs : Nat → Nat) (nx : List (List Int)) : (obX rs nx).length = nx.length := by simp [obX]
theorem obX_at {rs : Nat → Nat} {nx : List (List Int)} {i : Nat} {r : List Int} (h : nx[i]? = some r) (a b : Ob) (T : List Ob) : (a :: b :: (obX rs nx ++ T))[i + 2]? = some ⟨some (rs i), 256, ints r⟩ := by
  have hi := (List.getElem?_eq_some_iff.1 h).1
  have e : nx.getD i [] = r := by rw [List.getD_eq_getElem?_getD, h]; rfl
  rw [List.getElem?_cons_succ, List.getElem?_cons_succ, List.getElem?_append_left (by rw [obX_len]; exact hi)]
  unfold obX
  rw [List.getElem?_map, List.getElem?_range hi]
  simp only [Option.map_some, e]
theorem obX_set {rs : Nat → Nat} {nx : List (List Int)} {i : Nat} (hi : i < nx.length) (L : List Int) (a b : Ob) (T : List Ob) : (a :: b :: (obX rs nx ++ T)).set (i + 2) ⟨some (rs i), 256, ints L⟩ = a :: b :: (obX rs (nx.set i L) ++ T) := by
  rw [List.set_cons_succ, List.set_cons_succ, List.set_append_left _ _ (by rw [obX_len]; exact hi)]
  congr 3
  unfold obX
  refine List.ext_getElem? fun k => ?_
  rw [List.getElem?_set, List.length_map, List.length_range, List.length_set]
  by_cases hk : k < nx.length
  · rw [List.getElem?_map, List.getElem?_map, List.getElem?_range hk]
    by_cases h : i = k
    · subst h
      rw [if_pos rfl, if_pos hi]
      simp only [Option.map_some, List.getD_eq_getElem?_getD]
      rw [List.getElem?_set, if_pos rfl, if_pos hi]; rfl
    · rw [if_neg h]
      simp only [Option.map_some, List.getD_eq_getElem?_getD]
      rw [List.getElem?_set, if_neg h]
  · rw [if_neg (by omega), List.getElem?_eq_none (by simp; omega), List.getElem?_eq_none (by simp; omega)]
theorem ownX_at {rs : Nat → Nat} {n i : Nat} (h : i < n) : (ownX rs n)[i * 1]? = some (.own (some (rs i)) 256 256) := by
  unfold ownX
  rw [Nat.mul_one, List.getElem?_map, List.getElem?_range h]; rfl
theorem rows_lsC (nx : List (List Int)) : rows nx = encs lsC nx := by
  unfold rows encs
  induction nx with
  | nil => rfl
  | cons x l ih => rw [List.map_cons, List.flatMap_cons, ih]; rfl
def natI (l : List Nat) : List Int := l.map fun (i : Nat) => (i : Int)
theorem natI_at {l : List Nat} {k o : Nat} (h : l[k]? = some o) : (natI l)[k]? = some (o : Int) := by simp [natI, h]
theorem natI_len (l : List Nat) : (natI l).length = l.length := by simp [natI]
abbrev zdO (b : Nat) : Ob := ⟨some b, 2, [.nils, .nils]⟩
abbrev dO (b : Nat) (nb : Option Nat) (n nc : Nat) (ab : Option Nat) (m bc : Nat) : Ob := ⟨some b, 2, [.own nb n nc, .own ab m bc]⟩
structure DfQ where
  order : List Nat
  dn : List (List Int)
  da : List Int
  ob : Nat
  oc : Nat
  nb : Option Nat
  nc : Nat
  ab : Option Nat
  bc : Nat
def DfaR (ps : List Ps) (r : A) : Prop := r = .tup [.agg [.nils, .nils], .int .i64 0, .bool false] ∨ ∃ dn da, DfaOk ps dn da ∧ r = .tup [dfaA dn da, .int .i64 0, .bool true]
set_option maxHeartbeats 32000000 in
theorem sdfa_calls {ps : List Ps} (hp : AllOk ps) (M : List Ob) : ACalls Try.prog 7 [.psl ps.length (encs psC ps)] M (fun r M' => DfaR ps r ∧ M' = M) := by
  have hpl := hp.1
  refine acalls_of_code 162 Try.func7 rfl rfl rfl ?_
  repeat (first | refine acode_seq ?_ | refine acode_region ?_)
  refine aops_alloc tok rfl rfl rfl rfl rfl rfl fun b2 => ?_
  repeat' (first | refine aops_end ?_ | refine aops_pbf tok rfl (by first | omega | decide) rfl rfl rfl ?_ | refine aops_p tok rfl rfl rfl rfl ?_ | refine acode_if rfl ?_ | refine acode_seq ?_ | refine acode_region ?_ | refine acode_skip ?_ | refine then_n ?_)
  all_goals try (exfalso; omega)
  refine aops_call Try.func16 rfl rfl rfl rfl (ssubsets_calls hp _) rfl rfl ?_
  rintro x M1 (⟨nb, n, nc, ab, k, kc, rfl, rfl⟩ | ⟨all, nx, ac, nb, nc, rs, hS, hW, h0, rfl, rfl⟩)
  · repeat (refine aops_put rfl ?_)
    refine aops_alloc tok rfl rfl rfl rfl rfl rfl fun b5 => ?_
    repeat' (first | refine aops_end ?_ | refine aops_p tok rfl rfl rfl rfl ?_ | refine acode_it rfl ?_ | refine aops_ld tok 0 rfl rfl rfl rfl rfl rfl rfl rfl ?_ | refine aops_stn tok rfl rfl rfl rfl rfl rfl rfl rfl rfl ?_ | refine aops_stn1 tok rfl rfl rfl rfl rfl rfl rfl rfl rfl ?_ | refine acode_seq ?_ | refine acode_region ?_)
    refine acode_drop0 ?_
    refine acode_pubref0 2 rfl ?_
    refine acode_ret ?_
    repeat (refine ret_then ?_)
    exact ⟨_, ⟨.inl rfl, rfl⟩, _, rfl, resOf_pp tok rfl rfl rfl⟩
  have hnl := hW.n
  have hln := hW.len
  repeat (refine aops_put rfl ?_)
  refine aops_alloc tok rfl rfl rfl rfl rfl rfl fun b5 => ?_
  repeat (refine aops_stn tok rfl rfl rfl rfl rfl rfl rfl rfl rfl ?_)
  refine aops_somedM 0 0 rfl rfl h0 fun b1 hb1 => ?_
  subst hb1
  repeat' (first | refine aops_end ?_ | refine aops_p tok rfl rfl rfl rfl ?_ | refine acode_if rfl ?_ | refine aops_ld tok 0 rfl rfl rfl rfl rfl rfl rfl rfl ?_ | refine acode_seq ?_ | refine acode_region ?_ | refine acode_skip ?_ | refine then_n ?_)
  refine aops_call Try.func17 rfl rfl rfl rfl (acalls_part (W := []) (.cons (.agg (.cons (.own (room := nc * 1) (sz := 1) (cs := ownX rs nx.length) (.tail _ (.head _)) rfl (by rw [ownX_len, Nat.mul_one]) (by decide) (vw_rows hW.row fun o ho => .tail _ (.tail _ (List.mem_append_left _ ho)))) (.cons (.refl _) (.cons (.refl _) .nil)))) .nil) (suseful_calls hW false []) ?_) rfl rfl ?_
  · rintro r M' ⟨ok, bo, _, rfl, rfl⟩
    exact ⟨rfl, fun o ho => by rw [List.mem_singleton.1 ho]; exact looseL_bools _⟩
  rintro x M2 ⟨M1, ⟨ok, bo, hU, rfl, rfl⟩, rfl⟩
  have hokl := hU.len
  repeat (first | refine aops_put rfl ?_ | refine aops_p tok rfl rfl rfl rfl ?_)
  refine aops_end ?_
  refine acode_pub0 6 1 rfl rfl (by rw [bools_len, Nat.mul_one]) rfl ?_
  refine acode_seq ?_
  refine acode_joinI (ι := Unit) (fun _ => [(2, .ref b2 0), (5, .ref b5 0)]) (fun _ => ⟨some b5, 3, [.own (some b1) nx.length nc, .psl ac.length (ints ac), .bool false]⟩ :: ⟨some b1, nc * 1, ownX rs nx.length⟩ :: (obX rs (cutR nx ok) ++ (zdO b2 :: M))) (fun _ => True) ?_ ?_
  · repeat (first | refine aops_end ?_ | refine aops_p tok rfl rfl rfl rfl ?_ | refine acode_seq ?_ | refine acode_region ?_ | refine acode_block ?_)
    refine acode_loopS (ι := Nat × List (List Int)) (fun q => [(2, .ref b2 0), (5, .ref b5 0), (6, .psl ok.length (bools ok)), (7, .int .i64 q.1)]) (fun q => ⟨some b5, 3, [.own (some b1) nx.length nc, .psl ac.length (ints ac), .bool false]⟩ :: ⟨some b1, nc * 1, ownX rs nx.length⟩ :: (obX rs q.2 ++ (zdO b2 :: M))) (fun q => nx.length - q.1) (fun q => q.1 ≤ nx.length ∧ CutI nx ok q.2 q.1 0) (0, nx) ⟨Nat.zero_le _, CutI.begin ok hW⟩ ⟨rfl, rfl, rfl, rfl, trivial⟩ rfl ?_
    rintro ⟨i, nz⟩ ⟨hi, hC⟩
    simp only at hi hC ⊢
    by_cases hil : i < nx.length
    · repeat' (first | refine aops_end ?_ | refine aops_pbt tok rfl (by first | omega | decide) rfl rfl rfl ?_ | refine aops_p tok rfl rfl rfl rfl ?_ | refine acode_it rfl ?_ | refine aops_ld tok 0 rfl rfl rfl rfl rfl rfl rfl rfl ?_ | refine acode_seq ?_ | refine acode_region ?_ | refine acode_block ?_ | refine acode_skip ?_ | refine then_n ?_)
      all_goals try (exfalso; omega)
      refine acode_loopS (ι := Nat × List (List Int)) (fun q => [(2, .ref b2 0), (5, .ref b5 0), (6, .psl ok.length (bools ok)), (7, .int .i64 i), (8, .int .i64 q.1)]) (fun q => ⟨some b5, 3, [.own (some b1) nx.length nc, .psl ac.length (ints ac), .bool false]⟩ :: ⟨some b1, nc * 1, ownX rs nx.length⟩ :: (obX rs q.2 ++ (zdO b2 :: M))) (fun q => 256 - q.1) (fun q => q.1 ≤ 256 ∧ CutI nx ok q.2 i q.1) (0, nz) ⟨Nat.zero_le _, hC⟩ ⟨rfl, rfl, rfl, rfl, rfl, trivial⟩ rfl ?_
      clear hC
      rintro ⟨c, nz⟩ ⟨hc, hC⟩
      simp only at hc hC ⊢
      by_cases hc2 : c < 256
      · obtain ⟨r, hr⟩ : ∃ r, nz[i]? = some r := ⟨_, List.getElem?_eq_getElem (by rw [hC.len]; exact hil)⟩
        have hrl := hC.row i r hr
        obtain ⟨_, _, _, _, w1, w2⟩ := hW.at hil hc2
        have hcell := hC.cell i c hil hc2
        rw [if_neg (by omega)] at hcell
        have hrc : r[c]? = some (cellI nx i c) := by
          rw [← hcell]
          unfold cellI
          rw [List.getD_eq_getElem?_getD (l := nz), hr, Option.getD_some, List.getD_eq_getElem?_getD, List.getElem?_eq_getElem (by omega)]; rfl
        have hstep := fun hv => hC.step hr hil hc2 hv
        have hkeep := fun hv => hC.keep (i := i) (c := c) hv
        have hcv : cutV ok (cellI nx i c) = if 0 ≤ cellI nx i c ∧ ok.getD (cellI nx i c).toNat false = false then -1 else cellI nx i c := rfl
        have hnzl := hC.len
        generalize cellI nx i c = v at *
        by_cases hv : 0 ≤ v
        · obtain ⟨z, hz⟩ : ∃ z, ok[v.toNat]? = some z := ⟨_, List.getElem?_eq_getElem (by omega)⟩
          have hzd : ok.getD v.toNat false = z := by rw [List.getD_eq_getElem?_getD, hz]; rfl
          repeat' (first | refine aops_end ?_ | refine aops_pbt tok rfl (by first | omega | decide) rfl rfl rfl ?_ | refine aops_p tok rfl rfl rfl rfl ?_ | refine acode_it rfl ?_ | refine aops_ld tok 0 rfl rfl rfl rfl rfl rfl rfl rfl ?_ | refine acode_seq ?_ | refine acode_region ?_ | refine acode_block ?_ | refine acode_skip ?_ | refine then_n ?_)
          all_goals try (exfalso; omega)
          refine aops_ixo tok rfl rfl rfl rfl (by omega) (by omega) rfl rfl rfl ?_
          refine aops_ld tok 1 (y := .own (some (rs i)) 256 256) rfl rfl rfl rfl (by rw [headed_eq]; exact ownX_at (i := i) hil) rfl rfl rfl ?_
          repeat (refine aops_p tok rfl rfl rfl rfl ?_)
          refine aops_ixo tok rfl rfl rfl rfl (by omega) (by omega) rfl rfl rfl ?_
          refine aops_ld tok (i + 2) (y := .int .i64 v) rfl rfl rfl (obX_at hr _ _ _) (by rw [headed_eq]; exact ints_own (j := c) hrc) rfl rfl rfl ?_
          repeat' (first | refine aops_pbt tok rfl (by first | omega | decide) rfl rfl rfl ?_ | refine aops_p tok rfl rfl rfl rfl ?_ | refine aops_ld tok 0 rfl rfl rfl rfl rfl rfl rfl rfl ?_)
          all_goals try (exfalso; omega)
          refine aops_ixo tok rfl rfl rfl rfl (by omega) (by omega) rfl rfl rfl ?_
          refine aops_ld tok 1 (y := .own (some (rs i)) 256 256) rfl rfl rfl rfl (by rw [headed_eq]; exact ownX_at (i := i) hil) rfl rfl rfl ?_
          repeat (refine aops_p tok rfl rfl rfl rfl ?_)
          refine aops_ixo tok rfl rfl rfl rfl (by omega) (by omega) rfl rfl rfl ?_
          refine aops_ld tok (i + 2) (y := .int .i64 v) rfl rfl rfl (obX_at hr _ _ _) (by rw [headed_eq]; exact ints_own (j := c) hrc) rfl rfl rfl ?_
          skip
          refine aops_ix tok [.bool z] rfl rfl rfl rfl hv (by omega) (by simp) (bools_at hz) rfl rfl rfl ?_
          cases z with
          | false =>
            rw [if_pos ⟨hv, hzd⟩] at hcv
            repeat' (first | refine aops_end ?_ | refine aops_p tok rfl rfl rfl rfl ?_ | refine acode_it rfl ?_ | refine aops_ld tok 0 rfl rfl rfl rfl rfl rfl rfl rfl ?_ | refine acode_region ?_)
            all_goals try (exfalso; omega)
            refine aops_ixo tok rfl rfl rfl rfl (by omega) (by omega) rfl rfl rfl ?_
            refine aops_ld tok 1 (y := .own (some (rs i)) 256 256) rfl rfl rfl rfl (by rw [headed_eq]; exact ownX_at (i := i) hil) rfl rfl rfl ?_
            repeat (refine aops_p tok rfl rfl rfl rfl ?_)
            refine aops_ixo tok rfl rfl rfl rfl (by omega) (by omega) rfl rfl rfl ?_
            refine aops_stk tok (i + 2) (ints (r.set c (-1))) (⟨some b5, 3, [.own (some b1) nx.length nc, .psl ac.length (ints ac), .bool false]⟩ :: ⟨some b1, nc * 1, ownX rs nx.length⟩ :: (obX rs (nz.set i (r.set c (-1))) ++ (zdO b2 :: M))) rfl rfl rfl rfl (obX_at hr _ _ _) rfl (by show _ * 1 + 1 ≤ _; rw [ints_len]; omega) (ints_set1 (j := ((c : Nat) : Int).toNat) (by omega) _) (obX_set (by omega) _ _ _ _) rfl rfl ?_
            repeat (first | refine aops_end ?_ | refine aops_endb ?_ | refine aops_a tok rfl (by omega) (by omega) rfl rfl rfl ?_ | refine aops_p tok rfl rfl rfl rfl ?_ | refine acode_region ?_ | refine then_n ?_)
            exact ⟨(c + 1, nz.set i (r.set c (-1))), ⟨by simp only; omega, hstep hcv⟩, by simp only; omega, ⟨rfl, rfl, rfl, rfl, rfl, trivial⟩, rfl⟩
          | true =>
            rw [if_neg (by rw [hzd]; simp)] at hcv
            repeat' (first | refine aops_end ?_ | refine aops_a tok rfl (by omega) (by omega) rfl rfl rfl ?_ | refine aops_p tok rfl rfl rfl rfl ?_ | refine acode_if rfl ?_ | refine acode_region ?_ | refine acode_skip ?_ | refine then_n ?_ | refine block_n ?_)
            all_goals try (exfalso; omega)
            exact ⟨(c + 1, nz), ⟨by simp only; omega, hkeep hcv⟩, by simp only; omega, ⟨rfl, rfl, rfl, rfl, rfl, trivial⟩, rfl⟩
        · rw [if_neg (by omega)] at hcv
          repeat' (first | refine aops_end ?_ | refine aops_pbt tok rfl (by first | omega | decide) rfl rfl rfl ?_ | refine aops_p tok rfl rfl rfl rfl ?_ | refine acode_it rfl ?_ | refine aops_ld tok 0 rfl rfl rfl rfl rfl rfl rfl rfl ?_ | refine acode_seq ?_ | refine acode_region ?_ | refine acode_block ?_ | refine acode_skip ?_ | refine then_n ?_)
          all_goals try (exfalso; omega)
          refine aops_ixo tok rfl rfl rfl rfl (by omega) (by omega) rfl rfl rfl ?_
          refine aops_ld tok 1 (y := .own (some (rs i)) 256 256) rfl rfl rfl rfl (by rw [headed_eq]; exact ownX_at (i := i) hil) rfl rfl rfl ?_
          repeat (refine aops_p tok rfl rfl rfl rfl ?_)
          refine aops_ixo tok rfl rfl rfl rfl (by omega) (by omega) rfl rfl rfl ?_
          refine aops_ld tok (i + 2) (y := .int .i64 v) rfl rfl rfl (obX_at hr _ _ _) (by rw [headed_eq]; exact ints_own (j := c) hrc) rfl rfl rfl ?_
          repeat' (first | refine aops_end ?_ | refine aops_o rfl rfl rfl ?_ | refine aops_a tok rfl (by omega) (by omega) rfl rfl rfl ?_ | refine aops_pbf tok rfl (by first | omega | decide) rfl rfl rfl ?_ | refine aops_p tok rfl rfl rfl rfl ?_ | refine acode_if rfl ?_ | refine acode_region ?_ | refine acode_skip ?_ | refine then_n ?_ | refine block_n ?_)
          all_goals try (exfalso; omega)
          exact ⟨(c + 1, nz), ⟨by simp only; omega, hkeep hcv⟩, by simp only; omega, ⟨rfl, rfl, rfl, rfl, rfl, trivial⟩, rfl⟩
      · obtain rfl : c = 256 := by omega
        repeat' (first | refine aops_end ?_ | refine aops_pbf tok rfl (by first | omega | decide) rfl rfl rfl ?_ | refine aops_p tok rfl rfl rfl rfl ?_ | refine acode_if rfl ?_ | refine acode_seq ?_ | refine acode_region ?_)
        all_goals try (exfalso; omega)
        refine acode_exit ?_
        repeat (first | refine exit_then ?_ | refine exit_here ?_ | refine then_n ?_ | refine block_n ?_)
        repeat (first | refine aops_end ?_ | refine aops_a tok rfl (by omega) (by omega) rfl rfl rfl ?_ | refine aops_p tok rfl rfl rfl rfl ?_ | refine acode_region ?_)
        exact ⟨(i + 1, nz), ⟨by simp only; omega, hC.next⟩, by simp only; omega, ⟨rfl, rfl, rfl, rfl, trivial⟩, rfl⟩
    · obtain rfl : i = nx.length := by omega
      have hfin := hC.done hW
      repeat' (first | refine aops_end ?_ | refine aops_pbf tok rfl (by first | omega | decide) rfl rfl rfl ?_ | refine aops_p tok rfl rfl rfl rfl ?_ | refine acode_if rfl ?_ | refine aops_ld tok 0 rfl rfl rfl rfl rfl rfl rfl rfl ?_ | refine acode_seq ?_ | refine acode_region ?_)
      all_goals try (exfalso; omega)
      refine acode_exit ?_
      repeat (first | refine exit_then ?_ | refine exit_here ?_ | refine then_n ?_)
      exact ⟨(), trivial, ⟨rfl, rfl, trivial⟩, by rw [hfin]⟩
  rintro - -
  have hz := cutR_ok ok hW
  have hzl : (cutR nx ok).length = nx.length := by simp [cutR]
  have hdf : ∀ cl order dn da, ClOk (cutR nx ok) ac cl → FinOk (cutR nx ok) ac cl order dn da → DfaOk ps dn da := fun cl order dn da h1 h2 => ⟨all, nx, ac, ok, cl, order, hS, hU, h1, h2⟩
  rw [← hzl]
  generalize cutR nx ok = nz at *
  have hac0 : 0 < ac.length := by omega
  clear hS hU hW hokl hln h0
  refine acode_freezeV (V := ⟨some b5, 3, [.own (some b1) nz.length nc, .psl ac.length (ints ac), .bool false]⟩ :: ⟨some b1, nc * 1, ownX rs nz.length⟩ :: obX rs nz) [(2, .ref b2 0), (5, .pp (rawC nz ac false))] ⟨.refl _, .ref (room := 3) (cs := [.own (some b1) nz.length nc, .psl ac.length (ints ac), .bool false]) (.head _) (.cons (.own (room := nc * 1) (sz := 1) (cs := ownX rs nz.length) (.tail _ (.head _)) rfl (by rw [ownX_len, Nat.mul_one]) (by decide) (vw_rows hz.row fun o ho => .tail _ (.tail _ ho))) (.cons (.refl _) (.cons (.refl _) .nil))), trivial⟩ ?_
  have hnzl := hz.n
  have hnza := hz.len
  have hclc := fun M => sclasses_calls hz false M
  repeat (first | refine aops_p tok rfl rfl rfl rfl ?_ | refine acode_seq ?_ | refine acode_region ?_)
  refine aops_call Try.func18 rfl rfl rfl rfl (hclc _) rfl rfl ?_
  rintro x M2 ⟨⟨cl, hC, rfl⟩, hM2⟩
  rw [hM2]
  clear hclc hM2
  have hcll := hC.len
  have hfd := fun order dn da (h : FinOk nz ac cl order dn da) => hdf cl order dn da hC h
  clear hdf
  have gcl : ∀ j : Nat, j < cl.length → cl[j]? = some (cl.getD j 0) := fun j hj => getD_at hj
  repeat (first | refine aops_put rfl ?_ | refine aops_end ?_ | refine aops_p tok rfl rfl rfl rfl ?_ | refine acode_seq ?_ | refine acode_region ?_)
  refine aops_alloc tok rfl rfl rfl rfl rfl rfl fun b10 => ?_
  refine aops_adoptF 0 rfl rfl ?_
  refine aops_adoptF 1 rfl rfl ?_
  repeat (first | refine aops_end ?_ | refine acode_seq ?_ | refine acode_region ?_)
  refine aops_lito1 tok (y := .int .i64 0) rfl rfl rfl rfl rfl rfl rfl rfl rfl fun ob0 => ?_
  repeat (first | refine aops_end ?_ | refine aops_p tok rfl rfl rfl rfl ?_ | refine acode_seq ?_ | refine acode_region ?_ | refine acode_block ?_)
  refine acode_loopS (ι := DfQ) (fun q => [(2, .ref b2 0), (5, .pp (rawC nz ac false)), (9, .psl cl.length (ints cl)), (10, .ref b10 0), (11, .own (some q.ob) q.order.length q.oc), (12, .int .i64 q.dn.length)])
    (fun q => ⟨some q.ob, q.oc * 1, ints (natI q.order)⟩ :: dO b10 q.nb q.dn.length q.nc q.ab q.da.length q.bc :: ⟨q.nb, q.nc * 1, encs lsC q.dn⟩ :: ⟨q.ab, q.bc * 1, ints q.da⟩ :: zdO b2 :: M)
    (fun q => 401 - q.dn.length) (fun q => FinI nz ac cl q.order q.dn q.da) ⟨[0], [], [], ob0, 1, none, 0, none, 0⟩ (FinI.begin hac0) ⟨rfl, rfl, rfl, rfl, rfl, rfl, trivial⟩ rfl ?_
  rintro ⟨order, dn, da, ob, oc, nb, nc, ab, bc⟩ hI
  simp only at hI ⊢
  have hsm := hI.small
  have hle := hI.le
  have hn2 := hI.n2
  by_cases hil : dn.length < order.length
  · obtain ⟨o, ho⟩ : ∃ o, order[dn.length]? = some o := ⟨_, List.getElem?_eq_getElem hil⟩
    have hol := hI.lt o (List.mem_of_getElem? ho)
    repeat' (first | refine aops_end ?_ | refine aops_pbt tok rfl (by first | omega | decide) rfl rfl rfl ?_ | refine aops_p tok rfl rfl rfl rfl ?_ | refine acode_it rfl ?_ | refine acode_seq ?_ | refine acode_region ?_ | refine acode_block ?_ | refine acode_skip ?_ | refine then_n ?_)
    all_goals try (exfalso; omega)
    refine aops_mk tok 256 rfl rfl rfl rfl rfl rfl (by decide) (by decide) rfl rfl rfl fun rb => ?_
    repeat (refine aops_p tok rfl rfl rfl rfl ?_)
    refine aops_end ?_
    refine acode_seq ?_
    refine acode_joinI (ι := List Int × List Nat × Nat × Nat) (fun q => [(2, .ref b2 0), (5, .pp (rawC nz ac false)), (9, .psl cl.length (ints cl)), (10, .ref b10 0), (11, .own (some q.2.2.1) q.2.1.length q.2.2.2), (12, .int .i64 dn.length), (13, .own (some rb) 256 256)]) (fun q => ⟨some rb, 256 * 1, ints q.1⟩ :: ⟨some q.2.2.1, q.2.2.2 * 1, ints (natI q.2.1)⟩ :: dO b10 nb dn.length nc ab da.length bc :: ⟨nb, nc * 1, encs lsC dn⟩ :: ⟨ab, bc * 1, ints da⟩ :: zdO b2 :: M) (fun q => FinI nz ac cl q.2.1 dn da ∧ FRow nz cl q.2.1 o q.1 256 ∧ q.2.1[dn.length]? = some o) ?_ ?_
    · repeat (first | refine aops_end ?_ | refine aops_p tok rfl rfl rfl rfl ?_ | refine acode_seq ?_ | refine acode_region ?_ | refine acode_block ?_)
      refine acode_loopS (ι := Nat × List Int × List Nat × Nat × Nat) (fun q => [(2, .ref b2 0), (5, .pp (rawC nz ac false)), (9, .psl cl.length (ints cl)), (10, .ref b10 0), (11, .own (some q.2.2.2.1) q.2.2.1.length q.2.2.2.2), (12, .int .i64 dn.length), (13, .own (some rb) 256 256), (14, .int .i64 q.1)]) (fun q => ⟨some rb, 256 * 1, ints q.2.1⟩ :: ⟨some q.2.2.2.1, q.2.2.2.2 * 1, ints (natI q.2.2.1)⟩ :: dO b10 nb dn.length nc ab da.length bc :: ⟨nb, nc * 1, encs lsC dn⟩ :: ⟨ab, bc * 1, ints da⟩ :: zdO b2 :: M) (fun q => 256 - q.1) (fun q => q.1 ≤ 256 ∧ FinI nz ac cl q.2.2.1 dn da ∧ FRow nz cl q.2.2.1 o q.2.1 q.1 ∧ q.2.2.1[dn.length]? = some o) (0, List.replicate 256 0, order, ob, oc) ⟨Nat.zero_le _, hI, ⟨List.length_replicate .., fun d hd => absurd hd (Nat.not_lt_zero d)⟩, ho⟩ ⟨rfl, rfl, rfl, rfl, rfl, rfl, rfl, rfl, trivial⟩ (by rw [← ints_zeros]; rfl) ?_
      clear hI hsm hle ho hil
      rintro ⟨c, L, order, ob, oc⟩ ⟨hc, hI, hR, ho⟩
      simp only at hc hI hR ho ⊢
      have hsm := hI.small
      have hil : dn.length < order.length := (List.getElem?_eq_some_iff.1 ho).1
      by_cases hc2 : c < 256
      · have hLl := hR.len
        obtain ⟨rr, r1, r2, r3, r4, r5⟩ := hz.at (show o < nz.length by omega) hc2
        have hv0 : cellI nz o c < 0 → FCell nz cl order o c (-1) := fun e => .inl ⟨e, rfl⟩
        have hv1 : ∀ k o' : Nat, 0 ≤ cellI nz o c → order[k]? = some o' → cl.getD o' 0 = cl.getD (cellI nz o c).toNat 0 → FCell nz cl order o c k := fun k o' e h1 h2 => .inr ⟨e, k, rfl, o', h1, h2⟩
        have hv2 : 0 ≤ cellI nz o c → FCell nz cl (order ++ [(cellI nz o c).toNat]) o c (order.length : Nat) := fun e => .inr ⟨e, order.length, rfl, (cellI nz o c).toNat, by rw [List.getElem?_append_right (Nat.le_refl _), Nat.sub_self]; rfl, rfl⟩
        have gto := gcl (cellI nz o c).toNat
        generalize cellI nz o c = to at *
        have hLv : ∀ v, (L.set c v)[c]? = some v := fun v => by rw [List.getElem?_set, if_pos rfl, if_pos (by omega)]
        have hss : ∀ v w : Int, (L.set c v).set c w = L.set c w := fun v w => List.set_set ..
        repeat' (first | refine aops_end ?_ | refine aops_pbt tok rfl (by first | omega | decide) rfl rfl rfl ?_ | refine aops_p tok rfl rfl rfl rfl ?_ | refine acode_it rfl ?_ | refine acode_seq ?_ | refine acode_region ?_ | refine acode_block ?_ | refine acode_skip ?_ | refine then_n ?_)
        all_goals try (exfalso; omega)
        refine aops_ixo tok rfl rfl rfl rfl (by omega) (by omega) rfl rfl rfl ?_
        refine aops_stk tok 0 (ints (L.set c (-1))) (⟨some rb, 256 * 1, ints (L.set c (-1))⟩ :: ⟨some ob, oc * 1, ints (natI order)⟩ :: dO b10 nb dn.length nc ab da.length bc :: ⟨nb, nc * 1, encs lsC dn⟩ :: ⟨ab, bc * 1, ints da⟩ :: zdO b2 :: M) rfl rfl rfl rfl rfl rfl (by show _ * 1 + 1 ≤ _; rw [ints_len]; omega) (ints_set1 (j := ((c : Nat) : Int).toNat) (by omega) _) rfl rfl rfl ?_
        repeat (first | refine aops_end ?_ | refine acode_seq ?_)
        refine acode_drawT 11 mixed (by kernel_rfl) (by kernel_rfl) ?_
        repeat (refine seqT_p tok rfl rfl rfl rfl ?_)
        refine seqT_ixo tok rfl rfl rfl rfl (by omega) (by omega) rfl rfl rfl ?_
        refine seqT_ld tok 1 (y := .int .i64 (o : Int)) rfl rfl rfl rfl (by rw [headed_eq]; exact ints_own (j := dn.length) (natI_at ho)) rfl rfl rfl ?_
        skip
        refine seqT_ix tok [.psl rr.length (ints rr)] rfl rfl rfl rfl (by omega) (by omega) (by simp) (row_cell (by simpa using r1)) rfl rfl rfl ?_
        repeat (refine seqT_p tok rfl rfl rfl rfl ?_)
        refine seqT_ix tok [.int .i64 to] rfl rfl rfl rfl (by omega) (by omega) (by simp) (ints_at (by simpa using r3)) rfl rfl rfl ?_
        repeat (refine seqT_p tok rfl rfl rfl rfl ?_)
        refine SeqT.done ?_
        by_cases hto : to < 0
        · have hR2 := hR.step hc2 (hv0 hto)
          repeat' (first | refine aops_end ?_ | refine aops_pbt tok rfl (by first | omega | decide) rfl rfl rfl ?_ | refine aops_p tok rfl rfl rfl rfl ?_ | refine acode_it rfl ?_ | refine acode_seq ?_ | refine acode_region ?_)
          all_goals try (exfalso; omega)
          refine acode_exit ?_
          repeat (first | refine exit_then ?_ | refine exit_here ?_ | refine then_n ?_)
          repeat (first | refine aops_end ?_ | refine aops_a tok rfl (by omega) (by omega) rfl rfl rfl ?_ | refine aops_p tok rfl rfl rfl rfl ?_ | refine acode_region ?_)
          exact ⟨(c + 1, L.set c (-1), order, ob, oc), ⟨by simp only; omega, hI, hR2, ho⟩, by simp only; omega, ⟨rfl, rfl, rfl, rfl, rfl, rfl, rfl, rfl, trivial⟩, rfl⟩
        · have hto0 : 0 ≤ to := by omega
          have gto := gto (by omega)
          have hnat : ((to.toNat : Nat) : Int) = to := by omega
          repeat (refine aops_p tok rfl rfl rfl rfl ?_)
          refine aops_end ?_
          refine acode_seq ?_
          refine acode_seq ?_
          refine acode_region ?_
          repeat (refine aops_p tok rfl rfl rfl rfl ?_)
          refine aops_end ?_
          refine acode_id rfl (fun e => by exfalso; omega) (fun e => ?_)
          repeat (first | refine acode_skip ?_ | refine then_n ?_)
          refine acode_seq ?_
          refine acode_joinI (ι := Int) (fun v => [(2, .ref b2 0), (5, .pp (rawC nz ac false)), (9, .psl cl.length (ints cl)), (10, .ref b10 0), (11, .own (some ob) order.length oc), (12, .int .i64 dn.length), (13, .own (some rb) 256 256), (14, .int .i64 c), (15, .int .i64 to)]) (fun v => ⟨some rb, 256 * 1, ints (L.set c v)⟩ :: ⟨some ob, oc * 1, ints (natI order)⟩ :: dO b10 nb dn.length nc ab da.length bc :: ⟨nb, nc * 1, encs lsC dn⟩ :: ⟨ab, bc * 1, ints da⟩ :: zdO b2 :: M) (fun v => (v = -1 ∧ ∀ j o' : Nat, order[j]? = some o' → cl.getD o' 0 ≠ cl.getD to.toNat 0) ∨ ∃ j o' : Nat, v = j ∧ order[j]? = some o' ∧ cl.getD o' 0 = cl.getD to.toNat 0) ?_ ?_
          · repeat (first | refine aops_end ?_ | refine aops_p tok rfl rfl rfl rfl ?_ | refine acode_seq ?_ | refine acode_region ?_ | refine acode_block ?_)
            refine acode_loopS (ι := Nat × Int) (fun q => [(2, .ref b2 0), (5, .pp (rawC nz ac false)), (9, .psl cl.length (ints cl)), (10, .ref b10 0), (11, .own (some ob) order.length oc), (12, .int .i64 dn.length), (13, .own (some rb) 256 256), (14, .int .i64 c), (15, .int .i64 to), (16, .int .i64 q.1)]) (fun q => ⟨some rb, 256 * 1, ints (L.set c q.2)⟩ :: ⟨some ob, oc * 1, ints (natI order)⟩ :: dO b10 nb dn.length nc ab da.length bc :: ⟨nb, nc * 1, encs lsC dn⟩ :: ⟨ab, bc * 1, ints da⟩ :: zdO b2 :: M) (fun q => order.length - q.1) (fun q => q.1 ≤ order.length ∧ ((q.2 = -1 ∧ ∀ j o' : Nat, j < q.1 → order[j]? = some o' → cl.getD o' 0 ≠ cl.getD to.toNat 0) ∨ ∃ j o' : Nat, q.2 = j ∧ order[j]? = some o' ∧ cl.getD o' 0 = cl.getD to.toNat 0)) (0, -1) ⟨Nat.zero_le _, .inl ⟨rfl, fun j o' hj => absurd hj (Nat.not_lt_zero j)⟩⟩ ⟨rfl, rfl, rfl, rfl, rfl, rfl, rfl, rfl, rfl, rfl, trivial⟩ rfl ?_
            rintro ⟨k, v⟩ ⟨hk, hv⟩
            simp only at hk hv ⊢
            by_cases hkl : k < order.length
            · rcases hv with ⟨rfl, hv⟩ | ⟨j, o', rfl, hj, hj2⟩
              · obtain ⟨s, hs⟩ : ∃ s, order[k]? = some s := ⟨_, List.getElem?_eq_getElem hkl⟩
                have hsl := hI.lt s (List.mem_of_getElem? hs)
                have gs := gcl s (by omega)
                have hvn := fun (hne : cl.getD s 0 ≠ cl.getD to.toNat 0) (j o' : Nat) (hj : j < k + 1) (hjo : order[j]? = some o') => (show cl.getD o' 0 ≠ cl.getD to.toNat 0 from by
                  by_cases hjk : j = k
                  · subst hjk; rw [hs] at hjo; cases hjo; exact hne
                  · exact hv j o' (by omega) hjo)
                repeat' (first | refine aops_pbt tok rfl (by first | omega | decide) rfl rfl rfl ?_ | refine aops_p tok rfl rfl rfl rfl ?_ | refine acode_seq ?_ | refine acode_region ?_)
                all_goals try (exfalso; omega)
                refine aops_ixo tok rfl rfl rfl rfl (by omega) (by omega) rfl rfl rfl ?_
                refine aops_ld tok 0 (y := .int .i64 (-1)) rfl rfl rfl rfl (by rw [headed_eq]; exact ints_own (j := c) (hLv (-1))) rfl rfl rfl ?_
                repeat' (first | refine aops_end ?_ | refine aops_pbt tok rfl (by first | omega | decide) rfl rfl rfl ?_ | refine aops_p tok rfl rfl rfl rfl ?_ | refine acode_it rfl ?_ | refine acode_seq ?_ | refine acode_block ?_ | refine acode_skip ?_ | refine then_n ?_)
                all_goals try (exfalso; omega)
                refine acode_drawT 12 mixed (by kernel_rfl) (by kernel_rfl) ?_
                repeat (refine seqT_p tok rfl rfl rfl rfl ?_)
                refine seqT_ixo tok rfl rfl rfl rfl (by omega) (by omega) rfl rfl rfl ?_
                refine seqT_ld tok 1 (y := .int .i64 (s : Int)) rfl rfl rfl rfl (by rw [headed_eq]; exact ints_own (j := k) (natI_at hs)) rfl rfl rfl ?_
                skip
                refine seqT_ix tok [.int .i64 (cl.getD s 0)] rfl rfl rfl rfl (by omega) (by omega) (by simp) (ints_at (by simpa using gs)) rfl rfl rfl ?_
                repeat (refine seqT_p tok rfl rfl rfl rfl ?_)
                refine seqT_ix tok [.int .i64 (cl.getD to.toNat 0)] rfl rfl rfl rfl (by omega) (by omega) (by simp) (ints_at gto) rfl rfl rfl ?_
                by_cases hst : cl.getD s 0 = cl.getD to.toNat 0
                · repeat' (first | (refine seqT_pd tok rfl rfl rfl rfl ?_ ?_ <;> intro e_) | refine seqT_p tok rfl rfl rfl rfl ?_)
                  all_goals try (exfalso; omega)
                  refine SeqT.done ?_
                  repeat' (first | refine aops_end ?_ | refine aops_p tok rfl rfl rfl rfl ?_ | refine acode_it rfl ?_ | refine acode_region ?_)
                  all_goals try (exfalso; omega)
                  refine aops_ixo tok rfl rfl rfl rfl (by omega) (by omega) rfl rfl rfl ?_
                  refine aops_stk tok 0 (ints (L.set c (k : Int))) (⟨some rb, 256 * 1, ints (L.set c (k : Int))⟩ :: ⟨some ob, oc * 1, ints (natI order)⟩ :: dO b10 nb dn.length nc ab da.length bc :: ⟨nb, nc * 1, encs lsC dn⟩ :: ⟨ab, bc * 1, ints da⟩ :: zdO b2 :: M) rfl rfl rfl rfl rfl rfl (by show _ * 1 + 1 ≤ _; rw [ints_len, List.length_set]; omega) (by rw [← hss (-1) (k : Int)]; exact ints_set1 (j := ((c : Nat) : Int).toNat) (by rw [List.length_set]; omega) _) rfl rfl rfl ?_
                  repeat (first | refine aops_end ?_ | refine aops_endb ?_ | refine aops_a tok rfl (by omega) (by omega) rfl rfl rfl ?_ | refine aops_p tok rfl rfl rfl rfl ?_ | refine acode_region ?_ | refine then_n ?_)
                  exact ⟨(k + 1, k), ⟨by simp only; omega, .inr ⟨k, s, rfl, hs, hst⟩⟩, by simp only; omega, ⟨rfl, rfl, rfl, rfl, rfl, rfl, rfl, rfl, rfl, rfl, trivial⟩, rfl⟩
                · repeat' (first | (refine seqT_pd tok rfl rfl rfl rfl ?_ ?_ <;> intro e_) | refine seqT_p tok rfl rfl rfl rfl ?_)
                  all_goals try (exfalso; omega)
                  refine SeqT.done ?_
                  repeat' (first | refine aops_end ?_ | refine aops_a tok rfl (by omega) (by omega) rfl rfl rfl ?_ | refine aops_p tok rfl rfl rfl rfl ?_ | refine acode_if rfl ?_ | refine acode_region ?_ | refine acode_skip ?_ | refine then_n ?_ | refine block_n ?_)
                  all_goals try (exfalso; omega)
                  exact ⟨(k + 1, -1), ⟨by simp only; omega, .inl ⟨rfl, hvn hst⟩⟩, by simp only; omega, ⟨rfl, rfl, rfl, rfl, rfl, rfl, rfl, rfl, rfl, rfl, trivial⟩, rfl⟩
              · repeat' (first | refine aops_pbt tok rfl (by first | omega | decide) rfl rfl rfl ?_ | refine aops_p tok rfl rfl rfl rfl ?_ | refine acode_seq ?_ | refine acode_region ?_)
                all_goals try (exfalso; omega)
                refine aops_ixo tok rfl rfl rfl rfl (by omega) (by omega) rfl rfl rfl ?_
                refine aops_ld tok 0 (y := .int .i64 (j : Int)) rfl rfl rfl rfl (by rw [headed_eq]; exact ints_own (j := c) (hLv _)) rfl rfl rfl ?_
                repeat' (first | refine aops_end ?_ | refine aops_pbf tok rfl (by first | omega | decide) rfl rfl rfl ?_ | refine aops_p tok rfl rfl rfl rfl ?_ | refine acode_if rfl ?_)
                all_goals try (exfalso; omega)
                refine acode_exit ?_
                repeat (first | refine exit_then ?_ | refine exit_here ?_ | refine then_n ?_)
                exact ⟨(j : Int), .inr ⟨j, o', rfl, hj, hj2⟩, ⟨rfl, rfl, rfl, rfl, rfl, rfl, rfl, rfl, rfl, trivial⟩, rfl⟩
            · repeat' (first | refine aops_end ?_ | refine aops_o rfl rfl rfl ?_ | refine aops_pbf tok rfl (by first | omega | decide) rfl rfl rfl ?_ | refine aops_p tok rfl rfl rfl rfl ?_ | refine acode_if rfl ?_ | refine acode_seq ?_ | refine acode_region ?_)
              all_goals try (exfalso; omega)
              refine acode_exit ?_
              repeat (first | refine exit_then ?_ | refine exit_here ?_ | refine then_n ?_)
              refine ⟨v, ?_, ⟨rfl, rfl, rfl, rfl, rfl, rfl, rfl, rfl, rfl, trivial⟩, rfl⟩
              rcases hv with ⟨e1, hv⟩ | hv
              · exact .inl ⟨e1, fun j o' hjo => hv j o' (by have := (List.getElem?_eq_some_iff.1 hjo).1; omega) hjo⟩
              · exact .inr hv
          rintro v hv
          rcases hv with ⟨rfl, hv⟩ | ⟨j, o', rfl, hj, hj2⟩
          · have hR2 := (hR.more to.toNat).step hc2 (hv2 hto0)
            have hI2 := hI.more (x := to.toNat) (by omega) (fun q hq => by
              obtain ⟨j, hj⟩ := List.mem_iff_getElem?.1 hq
              exact hv j q hj)
            have hcur2 : (order ++ [to.toNat])[dn.length]? = some o := by rw [List.getElem?_append_left hil]; exact ho
            repeat' (first | refine aops_p tok rfl rfl rfl rfl ?_ | refine acode_seq ?_ | refine acode_region ?_)
            all_goals try (exfalso; omega)
            refine aops_ixo tok rfl rfl rfl rfl (by omega) (by omega) rfl rfl rfl ?_
            refine aops_ld tok 0 (y := .int .i64 (-1)) rfl rfl rfl rfl (by rw [headed_eq]; exact ints_own (j := c) (hLv (-1))) rfl rfl rfl ?_
            repeat' (first | refine aops_end ?_ | refine aops_pbt tok rfl (by first | omega | decide) rfl rfl rfl ?_ | refine aops_p tok rfl rfl rfl rfl ?_ | refine acode_it rfl ?_ | refine acode_seq ?_ | refine acode_region ?_)
            all_goals try (exfalso; omega)
            refine aops_ixo tok rfl rfl rfl rfl (by omega) (by omega) rfl rfl rfl ?_
            refine aops_stk tok 0 (ints (L.set c (order.length : Int))) (⟨some rb, 256 * 1, ints (L.set c (order.length : Int))⟩ :: ⟨some ob, oc * 1, ints (natI order)⟩ :: dO b10 nb dn.length nc ab da.length bc :: ⟨nb, nc * 1, encs lsC dn⟩ :: ⟨ab, bc * 1, ints da⟩ :: zdO b2 :: M) rfl rfl rfl rfl rfl rfl (by show _ * 1 + 1 ≤ _; rw [ints_len, List.length_set]; omega) (by rw [← hss (-1) (order.length : Int)]; exact ints_set1 (j := ((c : Nat) : Int).toNat) (by rw [List.length_set]; omega) _) rfl rfl rfl ?_
            repeat (first | refine aops_end ?_ | refine aops_p tok rfl rfl rfl rfl ?_ | refine acode_region ?_)
            refine aops_litn tok rfl rfl rfl rfl rfl rfl rfl ?_
            refine aops_append tok 1 (m := 1) (ds := [.int .i64 to]) rfl rfl rfl (.inl rfl) rfl rfl (by rw [ints_len, natI_len, Nat.mul_one]) rfl rfl rfl (by show _ * 8 ≤ _; omega) (by omega) rfl rfl fun ob1 oc1 => ?_
            refine aops_put rfl ?_
            refine aops_somed 141 rfl (Nat.succ_pos _) fun ob2 hob => ?_
            subst hob
            repeat (first | refine aops_end ?_ | refine aops_endb ?_ | refine aops_a tok rfl (by omega) (by omega) rfl rfl rfl ?_ | refine aops_p tok rfl rfl rfl rfl ?_ | refine acode_region ?_ | refine then_n ?_)
            exact ⟨(c + 1, L.set c order.length, order ++ [to.toNat], ob2, oc1), ⟨by simp only; omega, hI2, hR2, hcur2⟩, by simp only; omega, ⟨rfl, rfl, rfl, rfl, by simp only [List.length_append]; rfl, rfl, rfl, rfl, trivial⟩, by simp only [natI, List.map_append, ints_app, List.map_cons, List.map_nil, hnat]; rfl⟩
          · have hR2 := hR.step hc2 (hv1 j o' hto0 hj hj2)
            repeat' (first | refine aops_p tok rfl rfl rfl rfl ?_ | refine acode_seq ?_ | refine acode_region ?_)
            all_goals try (exfalso; omega)
            refine aops_ixo tok rfl rfl rfl rfl (by omega) (by omega) rfl rfl rfl ?_
            refine aops_ld tok 0 (y := .int .i64 (j : Int)) rfl rfl rfl rfl (by rw [headed_eq]; exact ints_own (j := c) (hLv _)) rfl rfl rfl ?_
            repeat' (first | refine aops_end ?_ | refine aops_a tok rfl (by omega) (by omega) rfl rfl rfl ?_ | refine aops_pbf tok rfl (by first | omega | decide) rfl rfl rfl ?_ | refine aops_p tok rfl rfl rfl rfl ?_ | refine acode_if rfl ?_ | refine acode_region ?_ | refine acode_skip ?_ | refine then_n ?_ | refine block_n ?_)
            all_goals try (exfalso; omega)
            exact ⟨(c + 1, L.set c j, order, ob, oc), ⟨by simp only; omega, hI, hR2, ho⟩, by simp only; omega, ⟨rfl, rfl, rfl, rfl, rfl, rfl, rfl, rfl, trivial⟩, rfl⟩
      · obtain rfl : c = 256 := by omega
        repeat' (first | refine aops_end ?_ | refine aops_pbf tok rfl (by first | omega | decide) rfl rfl rfl ?_ | refine aops_p tok rfl rfl rfl rfl ?_ | refine acode_if rfl ?_ | refine acode_seq ?_ | refine acode_region ?_)
        all_goals try (exfalso; omega)
        refine acode_exit ?_
        repeat (first | refine exit_then ?_ | refine exit_here ?_ | refine then_n ?_)
        exact ⟨(L, order, ob, oc), ⟨hI, hR, ho⟩, ⟨rfl, rfl, rfl, rfl, rfl, rfl, rfl, trivial⟩, rfl⟩
    · clear hI hsm hle ho hil
      rintro ⟨L, order, ob, oc⟩ ⟨hI, hR, ho⟩
      simp only at hI hR ho ⊢
      have hsm := hI.small
      have hle := hI.le
      have hil : dn.length < order.length := (List.getElem?_eq_some_iff.1 ho).1
      have hLl := hR.len
      have hnext := hI.next ho hR
      have hao : ac[o]? = some (ac.getD o 0) := getD_at hol
      generalize ac.getD o 0 = a at *
      refine acode_pub0 13 1 rfl rfl (by rw [ints_len, hLl]) rfl ?_
      repeat (first | refine aops_p tok rfl rfl rfl rfl ?_ | refine aops_ld tok 1 rfl rfl rfl rfl rfl rfl rfl rfl ?_ | refine acode_seq ?_ | refine acode_region ?_)
      refine aops_litn tok rfl rfl rfl rfl rfl rfl rfl ?_
      refine aops_append tok 2 (m := 1) (ds := [.psl 256 (ints L)]) rfl rfl rfl (.inl rfl) rfl rfl (encs_len lsC_len dn) rfl rfl rfl (by show _ * 24 ≤ _; omega) (by omega) rfl rfl fun nb1 nc1 => ?_
      repeat (first | refine aops_put rfl ?_ | refine aops_end ?_ | refine aops_p tok rfl rfl rfl rfl ?_ | refine aops_stn1 tok rfl rfl rfl rfl rfl rfl rfl rfl rfl ?_)
      refine acode_drawP [dO b10 nb1 (dn.length + 1) nc1 ab da.length bc, ⟨some ob, oc * 1, ints (natI order)⟩] 12 [0, 1, 2, 3, 4, 5, 6, 7, 8, 9, 10, 11] [11] mixed (by kernel_rfl) (by kernel_rfl) rfl ?_
      repeat (first | refine seqO_p tok rfl rfl rfl rfl rfl ?_ | refine seqO_ld tok 0 rfl rfl rfl rfl rfl (by simp) rfl rfl rfl rfl ?_)
      refine seqO_ixo tok rfl rfl rfl rfl rfl (by omega) (by omega) rfl rfl rfl ?_
      refine seqO_ld tok 1 (y := .int .i64 (o : Int)) rfl rfl rfl rfl rfl (by simp) (by rw [headed_eq]; exact ints_own (j := dn.length) (natI_at ho)) rfl rfl rfl ?_
      skip
      refine seqO_ix tok [.int .i64 a] rfl rfl rfl rfl rfl (by omega) (by omega) (by simp) (ints_at (by simpa using hao)) rfl rfl rfl ?_
      repeat (refine seqO_p tok rfl rfl rfl rfl rfl ?_)
      refine seqO_lit tok rfl rfl rfl rfl rfl rfl rfl rfl rfl ?_
      refine seqO_app tok 3 (m := 1) (ds := [.int .i64 a]) rfl rfl rfl rfl (.inl rfl) rfl rfl (by rw [ints_len, Nat.mul_one]) rfl rfl rfl (by show _ * 8 ≤ _; omega) (by omega) (by intro y o ho; simp at ho ⊢; rcases ho with ho | ho <;> simp [ho]) rfl rfl rfl fun ab1 bc1 => ?_
      refine SeqO.done ?_
      repeat (first | refine aops_end ?_ | refine aops_endb ?_ | refine aops_a tok rfl (by omega) (by omega) rfl rfl rfl ?_ | refine aops_p tok rfl rfl rfl rfl ?_ | refine aops_stn1 tok rfl rfl rfl rfl rfl rfl rfl rfl rfl ?_ | refine acode_region ?_ | refine then_n ?_)
      exact ⟨⟨order, dn ++ [L], da ++ [a], ob, oc, nb1, nc1, ab1, bc1⟩, hnext, by simp only [List.length_append, List.length_singleton]; omega, ⟨rfl, rfl, rfl, rfl, rfl, by simp only [List.length_append]; rfl, trivial⟩, by simp only [List.length_append, encs_app, ints_app]; simp [encs, lsC, hLl]; rfl⟩
  · have he : dn.length = order.length := by omega
    have hdone := hfd order dn da (hI.done he)
    repeat' (first | refine aops_end ?_ | refine aops_pbf tok rfl (by first | omega | decide) rfl rfl rfl ?_ | refine aops_p tok rfl rfl rfl rfl ?_ | refine acode_if rfl ?_ | refine acode_seq ?_ | refine acode_region ?_)
    all_goals try (exfalso; omega)
    refine acode_exit ?_
    repeat (first | refine exit_then ?_ | refine exit_here ?_ | refine then_n ?_)
    refine acode_drop0 ?_
    refine acode_pubFld (sz := 1) (cs' := [.psl dn.length (encs lsC dn), .own ab da.length bc]) 0 rfl rfl (encs_len lsC_len dn) (by decide) rfl ?_
    refine acode_pubFld (sz := 1) (cs' := [.psl dn.length (encs lsC dn), .psl da.length (ints da)]) 1 rfl rfl (by rw [ints_len, Nat.mul_one]) (by decide) rfl ?_
    repeat (first | refine aops_end ?_ | refine aops_p tok rfl rfl rfl rfl ?_ | refine aops_ld tok 0 rfl rfl rfl rfl rfl rfl rfl rfl ?_ | refine aops_stn1 tok rfl rfl rfl rfl rfl rfl rfl rfl rfl ?_ | refine acode_seq ?_ | refine acode_region ?_)
    refine acode_drop0 ?_
    refine acode_pubref0 2 rfl ?_
    refine acode_ret ?_
    skip
    refine ⟨_, ⟨.inr ⟨dn, da, hdone, rfl⟩, rfl⟩, _, rfl, ?_⟩
    unfold dfaA
    rw [rows_lsC]
    exact resOf_pp tok rfl rfl rfl
end Go.Proofs.Ytobpbelgihilpaa.Ab
/- Chapter 4: the reference's Takes: the walk. No condition. -/
set_option linter.unusedVariables false
set_option linter.unusedSimpArgs false
namespace Go.Proofs.Ytobpbelgihilpaa.Ab
attribute [local irreducible] thenA inBlockA ACode AOps put IntKind.wrap

theorem hitF_cons {p : Ps} {q : Int} {now : List Int} {c : Nat} : hitF p (q :: now) c = if hitB p c q then q :: hitF p now c else hitF p now c := by
  unfold hitF; rw [List.filter_cons]
theorem folS_ok {p : Ps} {n : List Int} {q : Int} (hp : PsOk p) (hn : InN p.sets.length n ∧ Rise n) (hq : 0 ≤ q ∧ q < (p.sets.length : Int)) : InN p.sets.length (folS p n q) ∧ Rise (folS p n q) := by
  unfold folS
  split
  · have hl : q.toNat < p.follow.length := by rw [hp.len]; omega
    have := hp.follow (p.follow.getD q.toNat []) (by rw [List.getD_eq_getElem?_getD, List.getElem?_eq_getElem hl]; exact List.getElem_mem _)
    exact union_ok hn this
  · exact hn
set_option maxHeartbeats 16000000 in
theorem stakes_calls {p : Ps} {b : List Nat} (hp : PsOk p) (hb : ∀ c ∈ b, c < 256) (hbl : b.length ≤ 100000) (M : List Ob) : ACalls Try.prog 9 [.agg (psC p), .psl b.length (u8s (natI b))] M (fun r M' => r = .bool (takesF p b) ∧ M' = M) := by
  have hpe : psC p = [.psl p.sets.length (encs wordsA p.sets), .bool p.null, .psl p.first.length (ints p.first), .psl p.last.length (ints p.last), .psl p.follow.length (encs lsC p.follow)] := rfl
  rw [hpe]
  refine acalls_of_code 102 Try.func9 rfl rfl rfl ?_
  repeat (first | refine acode_seq ?_ | refine acode_region ?_)
  refine aops_boxf rfl rfl rfl rfl rfl rfl rfl ?_
  unfold takesF
  have hpn := hp.n
  have hpl := hp.len
  have hll := in_len hp.last hpn
  by_cases h0 : b = []
  · have hl0 : b.length = 0 := by rw [h0]; rfl
    rw [if_pos h0]
    repeat' (first | refine aops_end ?_ | refine aops_pbt tok rfl (by first | omega | decide) rfl rfl rfl ?_ | refine aops_p tok rfl rfl rfl rfl ?_ | refine acode_it rfl ?_ | refine acode_seq ?_ | refine acode_region ?_)
    all_goals try (exfalso; omega)
    refine acode_ret ?_
    repeat (refine ret_then ?_)
    exact ⟨_, ⟨rfl, rfl⟩, resOf_tmp rfl⟩
  have hl0 : b.length ≠ 0 := fun e => h0 (List.eq_nil_of_length_eq_zero e)
  rw [if_neg h0]
  generalize hTR : takesL p p.first b = TR
  repeat' (first | refine aops_end ?_ | refine aops_pbf tok rfl (by first | omega | decide) rfl rfl rfl ?_ | refine aops_p tok rfl rfl rfl rfl ?_ | refine acode_if rfl ?_ | refine acode_seq ?_ | refine acode_region ?_ | refine acode_block ?_ | refine acode_skip ?_ | refine then_n ?_)
  all_goals try (exfalso; omega)
  refine acode_loopS (ι := Nat × List Int) (fun q => [(1, .psl b.length (u8s (natI b))), (2, .pp [.psl p.sets.length (encs wordsA p.sets), .bool p.null, .psl p.first.length (ints p.first), .psl p.last.length (ints p.last), .psl p.follow.length (encs lsC p.follow)]), (5, .psl q.2.length (ints q.2)), (6, .int .i64 q.1)]) (fun _ => M) (fun q => b.length - q.1) (fun q => q.1 < b.length ∧ (InN p.sets.length q.2 ∧ Rise q.2) ∧ takesL p q.2 (b.drop q.1) = TR) (0, p.first) ⟨by show 0 < b.length; omega, hp.first, hTR⟩ ⟨rfl, rfl, rfl, rfl, trivial⟩ rfl ?_
  clear hTR
  rintro ⟨i, now⟩ ⟨hi, hnow, hgo⟩
  simp only at hi hnow hgo ⊢
  have hnl := in_len hnow hpn
  obtain ⟨c, hc⟩ : ∃ c, b[i]? = some c := ⟨_, List.getElem?_eq_getElem hi⟩
  have hc2 := hb c (List.mem_of_getElem? hc)
  have hcb : (natI b)[i]? = some (c : Int) := natI_at hc
  repeat (first | refine acode_seq ?_ | refine acode_region ?_)
  repeat (refine aops_p tok rfl rfl rfl rfl ?_)
  refine aops_end ?_
  refine acode_id rfl (fun e => ?_) (fun e => by exfalso; omega)
  repeat (first | refine acode_skip ?_ | refine then_n ?_ | refine acode_seq ?_ | refine acode_block ?_ | refine acode_region ?_)
  repeat (refine aops_p tok rfl rfl rfl rfl ?_)
  refine aops_softt 7 rfl ?_
  refine aops_end ?_
  refine acode_adopt 8 1 rfl ?_
  refine acode_seq ?_
  refine acode_joinI (ι := List Int × Option Nat × Nat) (fun q => [(1, .psl b.length (u8s (natI b))), (2, .pp [.psl p.sets.length (encs wordsA p.sets), .bool p.null, .psl p.first.length (ints p.first), .psl p.last.length (ints p.last), .psl p.follow.length (encs lsC p.follow)]), (6, .int .i64 i), (7, .psl q.1.length (ints q.1)), (8, .own q.2.1 (hitF p now c).length q.2.2)]) (fun q => ⟨q.2.1, q.2.2 * 1, ints (hitF p now c)⟩ :: M) (fun q => q.1 = folF p (hitF p now c) ∧ InN p.sets.length q.1 ∧ Rise q.1) ?_ ?_
  · repeat (first | refine aops_end ?_ | refine aops_p tok rfl rfl rfl rfl ?_ | refine acode_seq ?_ | refine acode_region ?_ | refine acode_block ?_)
    refine acode_loopS (ι := Nat × List Int × List Int × Option Nat × Nat) (fun q => [(1, .psl b.length (u8s (natI b))), (2, .pp [.psl p.sets.length (encs wordsA p.sets), .bool p.null, .psl p.first.length (ints p.first), .psl p.last.length (ints p.last), .psl p.follow.length (encs lsC p.follow)]), (5, .psl now.length (ints now)), (6, .int .i64 i), (7, .psl q.2.1.length (ints q.2.1)), (8, .own q.2.2.2.1 q.2.2.1.length q.2.2.2.2), (9, .int .i64 q.1)]) (fun q => ⟨q.2.2.2.1, q.2.2.2.2 * 1, ints q.2.2.1⟩ :: M) (fun q => now.length - q.1) (fun q => q.1 ≤ now.length ∧ q.2.2.1 ++ hitF p (now.drop q.1) c = hitF p now c ∧ (hitF p (now.drop q.1) c).foldl (folS p) q.2.1 = folF p (hitF p now c) ∧ (InN p.sets.length q.2.1 ∧ Rise q.2.1) ∧ q.2.2.1.length ≤ q.1) (0, [], [], none, 0) ⟨Nat.zero_le _, rfl, rfl, ⟨by simp [InN], trivial⟩, Nat.zero_le _⟩ ⟨rfl, rfl, rfl, rfl, rfl, rfl, rfl, trivial⟩ rfl ?_
    rintro ⟨k, nxt, hit, ob, cap⟩ ⟨hk, hg1, hg2, hnx, hhl⟩
    simp only at hk hg1 hg2 hnx hhl ⊢
    have hxl := in_len hnx hpn
    by_cases hkl : k < now.length
    · obtain ⟨q, hq⟩ : ∃ q, now[k]? = some q := ⟨_, List.getElem?_eq_getElem hkl⟩
      obtain ⟨q0, q1⟩ := hnow.1 q (List.mem_of_getElem? hq)
      rw [drop_at hq, hitF_cons] at hg1 hg2
      have hset : p.sets[q.toNat]? = some (p.sets.getD q.toNat 0) := by rw [List.getD_eq_getElem?_getD, List.getElem?_eq_getElem (by omega)]; rfl
      have hhb : hitB p c q = (p.sets.getD q.toNat 0).testBit c := by unfold hitB; rw [decide_eq_true ⟨q0, q1⟩, Bool.true_and]
      obtain ⟨fl, hfl⟩ : ∃ fl, p.follow[q.toNat]? = some fl := ⟨_, List.getElem?_eq_getElem (by omega)⟩
      have hfo := hp.follow fl (List.mem_of_getElem? hfl)
      have hfll := in_len hfo hpn
      have hfs : folS p nxt q = unionF nxt fl := by
        unfold folS
        rw [if_pos (by omega), List.getD_eq_getElem?_getD, hfl]; rfl
      have hfok := folS_ok hp hnx ⟨q0, q1⟩
      rw [hfs] at hfok
      have hun := fun M => sunion_calls (a := nxt) (b := fl) (by omega) (by omega) M
      rw [hhb] at hg1 hg2
      generalize p.sets.getD q.toNat 0 = W at *
      have hhas := fun M => refHas_calls (S := W) hc2 M
      cases hbt : W.testBit c with
      | true =>
        rw [hbt, if_pos rfl] at hg1 hg2
        simp only [hbt] at hhas
        rw [List.foldl_cons, hfs] at hg2
        repeat' (first | refine aops_end ?_ | refine aops_pbt tok rfl (by first | omega | decide) rfl rfl rfl ?_ | refine aops_p tok rfl rfl rfl rfl ?_ | refine acode_it rfl ?_ | refine acode_seq ?_ | refine acode_region ?_ | refine acode_block ?_ | refine acode_skip ?_ | refine then_n ?_)
        all_goals try (exfalso; omega)
        refine aops_ix tok [.int .i64 q] rfl rfl rfl rfl (by omega) (by omega) (by simp) (ints_at (by simpa using hq)) rfl rfl rfl ?_
        repeat (first | refine aops_end ?_ | refine aops_p tok rfl rfl rfl rfl ?_ | refine acode_seq ?_)
        refine acode_drawT 21 mixed (by kernel_rfl) (by kernel_rfl) ?_
        repeat' (first | refine seqT_o rfl rfl rfl ?_ | (refine seqT_pd tok rfl rfl rfl rfl ?_ ?_ <;> intro e_) | refine seqT_p tok rfl rfl rfl rfl ?_)
        all_goals try (exfalso; omega)
        refine seqT_ix tok (wordsA W) rfl rfl rfl rfl q0 q1 (by simp [wordsA]) (encs_at (e := wordsA) (s := 4) (fun _ => rfl) hset) rfl rfl rfl ?_
        repeat (refine seqT_p tok rfl rfl rfl rfl ?_)
        refine seqT_ix tok [.int .u8 (c : Int)] rfl rfl rfl rfl (by omega) (by omega) (by simp) (u8s_at (by simpa using hcb)) rfl rfl rfl ?_
        repeat (refine seqT_p tok rfl rfl rfl rfl ?_)
        refine seqT_call _ Try.func21 rfl rfl rfl rfl (hhas _) rfl rfl rfl ?_
        repeat (refine seqT_p tok rfl rfl rfl rfl ?_)
        refine SeqT.done ?_
        repeat' (first | refine aops_end ?_ | refine aops_p tok rfl rfl rfl rfl ?_ | refine acode_it rfl ?_ | refine acode_seq ?_ | refine acode_region ?_)
        refine aops_litn tok rfl rfl rfl rfl rfl rfl rfl ?_
        refine aops_append tok 0 (m := 1) (ds := ints [q]) rfl rfl rfl (.inl rfl) rfl rfl (by rw [ints_len]; exact (Nat.mul_one _).symm) rfl rfl rfl (by show _ * 8 ≤ _; omega) (by omega) rfl rfl fun ob1 cap1 => ?_
        repeat' (first | refine aops_put rfl ?_ | refine aops_end ?_ | refine aops_pbt tok rfl (by first | omega | decide) rfl rfl rfl ?_ | refine aops_p tok rfl rfl rfl rfl ?_ | refine acode_it rfl ?_ | refine acode_seq ?_ | refine acode_region ?_)
        all_goals try (exfalso; omega)
        refine aops_ix tok [.psl fl.length (ints fl)] rfl rfl rfl rfl (by omega) (by omega) (by simp) (encs_at (e := lsC) (s := 1) (fun _ => rfl) hfl) rfl rfl rfl ?_
        repeat (refine aops_p tok rfl rfl rfl rfl ?_)
        refine aops_callx Try.func22 rfl rfl rfl rfl (hun _) rfl rfl rfl ?_
        repeat (first | refine aops_end ?_ | refine aops_endb ?_ | refine aops_a tok rfl (by omega) (by omega) rfl rfl rfl ?_ | refine aops_p tok rfl rfl rfl rfl ?_ | refine acode_region ?_ | refine then_n ?_)
        exact ⟨(k + 1, unionF nxt fl, hit ++ [q], ob1, cap1), ⟨by simp only; omega, by simp only [List.append_assoc]; exact hg1, hg2, hfok, by simp only [List.length_append, List.length_singleton]; omega⟩, by simp only; omega, ⟨rfl, rfl, rfl, rfl, rfl, by simp only [List.length_append]; rfl, rfl, trivial⟩, by simp only [ints_app]; rfl⟩
      | false =>
        rw [hbt, if_neg (by simp)] at hg1 hg2
        simp only [hbt] at hhas
        repeat' (first | refine aops_end ?_ | refine aops_pbt tok rfl (by first | omega | decide) rfl rfl rfl ?_ | refine aops_p tok rfl rfl rfl rfl ?_ | refine acode_it rfl ?_ | refine acode_seq ?_ | refine acode_region ?_ | refine acode_block ?_ | refine acode_skip ?_ | refine then_n ?_)
        all_goals try (exfalso; omega)
        refine aops_ix tok [.int .i64 q] rfl rfl rfl rfl (by omega) (by omega) (by simp) (ints_at (by simpa using hq)) rfl rfl rfl ?_
        repeat (first | refine aops_end ?_ | refine aops_p tok rfl rfl rfl rfl ?_ | refine acode_seq ?_)
        refine acode_drawT 21 mixed (by kernel_rfl) (by kernel_rfl) ?_
        repeat' (first | refine seqT_o rfl rfl rfl ?_ | (refine seqT_pd tok rfl rfl rfl rfl ?_ ?_ <;> intro e_) | refine seqT_p tok rfl rfl rfl rfl ?_)
        all_goals try (exfalso; omega)
        refine seqT_ix tok (wordsA W) rfl rfl rfl rfl q0 q1 (by simp [wordsA]) (encs_at (e := wordsA) (s := 4) (fun _ => rfl) hset) rfl rfl rfl ?_
        repeat (refine seqT_p tok rfl rfl rfl rfl ?_)
        refine seqT_ix tok [.int .u8 (c : Int)] rfl rfl rfl rfl (by omega) (by omega) (by simp) (u8s_at (by simpa using hcb)) rfl rfl rfl ?_
        repeat (refine seqT_p tok rfl rfl rfl rfl ?_)
        refine seqT_call _ Try.func21 rfl rfl rfl rfl (hhas _) rfl rfl rfl ?_
        repeat (refine seqT_p tok rfl rfl rfl rfl ?_)
        refine SeqT.done ?_
        repeat' (first | refine aops_end ?_ | refine aops_a tok rfl (by omega) (by omega) rfl rfl rfl ?_ | refine aops_p tok rfl rfl rfl rfl ?_ | refine acode_if rfl ?_ | refine acode_region ?_ | refine acode_skip ?_ | refine then_n ?_ | refine block_n ?_)
        exact ⟨(k + 1, nxt, hit, ob, cap), ⟨by simp only; omega, hg1, hg2, hnx, by simp only; omega⟩, by simp only; omega, ⟨rfl, rfl, rfl, rfl, rfl, rfl, rfl, trivial⟩, rfl⟩
    · obtain rfl : k = now.length := by omega
      rw [List.drop_length] at hg1 hg2
      have hnil : hitF p [] c = [] := rfl
      rw [hnil] at hg1 hg2
      rw [List.append_nil] at hg1
      repeat' (first | refine aops_end ?_ | refine aops_pbf tok rfl (by first | omega | decide) rfl rfl rfl ?_ | refine aops_p tok rfl rfl rfl rfl ?_ | refine acode_if rfl ?_ | refine acode_seq ?_ | refine acode_region ?_)
      all_goals try (exfalso; omega)
      refine acode_exit ?_
      repeat (first | refine exit_then ?_ | refine exit_here ?_ | refine then_n ?_)
      exact ⟨(nxt, ob, cap), ⟨hg2, hnx⟩, ⟨rfl, rfl, rfl, rfl, by rw [hg1]; rfl, trivial⟩, by rw [hg1]⟩
  rintro ⟨nxt, ob, cap⟩ ⟨hn1, hn2⟩
  simp only at hn1 hn2 ⊢
  refine acode_pub0 8 1 rfl rfl (by rw [ints_len, Nat.mul_one]) rfl ?_
  have hdr := drop_at hc
  by_cases hlast : i + 1 = b.length
  · have hd2 : b.drop (i + 1) = [] := List.drop_eq_nil_of_le (by omega)
    rw [hdr, hd2, takesL] at hgo
    have hhl : (hitF p now c).length ≤ 150 := Nat.le_trans (List.length_filter_le _ _) hnl
    generalize hitF p now c = hit at *
    repeat' (first | refine aops_end ?_ | refine aops_a tok rfl (by omega) (by omega) rfl rfl rfl ?_ | refine aops_pbt tok rfl (by first | omega | decide) rfl rfl rfl ?_ | refine aops_p tok rfl rfl rfl rfl ?_ | refine acode_it rfl ?_ | refine acode_seq ?_ | refine acode_region ?_ | refine acode_block ?_)
    all_goals try (exfalso; omega)
    refine acode_loopS (ι := Nat) (fun j => [(1, .psl b.length (u8s (natI b))), (2, .pp [.psl p.sets.length (encs wordsA p.sets), .bool p.null, .psl p.first.length (ints p.first), .psl p.last.length (ints p.last), .psl p.follow.length (encs lsC p.follow)]), (8, .psl hit.length (ints hit)), (11, .int .i64 j)]) (fun _ => M) (fun j => hit.length - j) (fun j => j ≤ hit.length ∧ ((hit.drop j).any fun q => p.last.contains q) = TR) 0 ⟨Nat.zero_le _, hgo⟩ ⟨rfl, rfl, rfl, rfl, trivial⟩ rfl ?_
    rintro j ⟨hj, hj2⟩
    by_cases hjl : j < hit.length
    · obtain ⟨q, hq⟩ : ∃ q, hit[j]? = some q := ⟨_, List.getElem?_eq_getElem hjl⟩
      rw [drop_at hq, List.any_cons] at hj2
      repeat' (first | refine aops_end ?_ | refine aops_pbt tok rfl (by first | omega | decide) rfl rfl rfl ?_ | refine aops_p tok rfl rfl rfl rfl ?_ | refine acode_it rfl ?_ | refine acode_seq ?_ | refine acode_region ?_ | refine acode_block ?_ | refine acode_skip ?_ | refine then_n ?_)
      all_goals try (exfalso; omega)
      refine acode_loopS (ι := Nat) (fun m => [(1, .psl b.length (u8s (natI b))), (2, .pp [.psl p.sets.length (encs wordsA p.sets), .bool p.null, .psl p.first.length (ints p.first), .psl p.last.length (ints p.last), .psl p.follow.length (encs lsC p.follow)]), (8, .psl hit.length (ints hit)), (11, .int .i64 j), (12, .int .i64 m)]) (fun _ => M) (fun m => p.last.length - m) (fun m => m ≤ p.last.length ∧ (p.last.drop m).contains q = p.last.contains q) 0 ⟨Nat.zero_le _, rfl⟩ ⟨rfl, rfl, rfl, rfl, rfl, trivial⟩ rfl ?_
      rintro m ⟨hm, hm2⟩
      by_cases hml : m < p.last.length
      · obtain ⟨z, hz⟩ : ∃ z, p.last[m]? = some z := ⟨_, List.getElem?_eq_getElem hml⟩
        rw [drop_at hz, List.contains_cons] at hm2
        repeat' (first | refine aops_end ?_ | refine aops_pbt tok rfl (by first | omega | decide) rfl rfl rfl ?_ | refine aops_p tok rfl rfl rfl rfl ?_ | refine acode_it rfl ?_ | refine acode_seq ?_ | refine acode_region ?_ | refine acode_block ?_ | refine acode_skip ?_ | refine then_n ?_)
        all_goals try (exfalso; omega)
        refine acode_drawT 10 mixed (by kernel_rfl) (by kernel_rfl) ?_
        repeat (refine seqT_p tok rfl rfl rfl rfl ?_)
        refine seqT_ix tok [.int .i64 z] rfl rfl rfl rfl (by omega) (by omega) (by simp) (ints_at (by simpa using hz)) rfl rfl rfl ?_
        repeat (refine seqT_p tok rfl rfl rfl rfl ?_)
        refine seqT_ix tok [.int .i64 q] rfl rfl rfl rfl (by omega) (by omega) (by simp) (ints_at (by simpa using hq)) rfl rfl rfl ?_
        by_cases hzq : z = q
        · have hTT : TR = true := by rw [← hj2, ← hm2, hzq]; simp
          repeat' (first | (refine seqT_pd tok rfl rfl rfl rfl ?_ ?_ <;> intro e_) | refine seqT_p tok rfl rfl rfl rfl ?_)
          all_goals try (exfalso; omega)
          refine SeqT.done ?_
          repeat' (first | refine aops_end ?_ | refine aops_p tok rfl rfl rfl rfl ?_ | refine acode_it rfl ?_ | refine acode_seq ?_ | refine acode_region ?_)
          all_goals try (exfalso; omega)
          refine acode_ret ?_
          repeat (first | refine ret_then ?_ | refine ret_block ?_)
          exact ⟨_, ⟨rfl, rfl⟩, resOf_tmp (by rw [hTT]; rfl)⟩
        · have hqz : (q == z) = false := by simpa using fun e : q = z => hzq e.symm
          rw [hqz, Bool.false_or] at hm2
          repeat' (first | (refine seqT_pd tok rfl rfl rfl rfl ?_ ?_ <;> intro e_) | refine seqT_p tok rfl rfl rfl rfl ?_)
          all_goals try (exfalso; omega)
          refine SeqT.done ?_
          repeat' (first | refine aops_end ?_ | refine aops_a tok rfl (by omega) (by omega) rfl rfl rfl ?_ | refine aops_p tok rfl rfl rfl rfl ?_ | refine acode_if rfl ?_ | refine acode_region ?_ | refine acode_skip ?_ | refine then_n ?_ | refine block_n ?_)
          all_goals try (exfalso; omega)
          exact ⟨m + 1, ⟨by omega, hm2⟩, by omega, ⟨rfl, rfl, rfl, rfl, rfl, trivial⟩, rfl⟩
      · obtain rfl : m = p.last.length := by omega
        rw [List.drop_length] at hm2
        have hm3 : p.last.contains q = false := hm2.symm
        rw [hm3, Bool.false_or] at hj2
        repeat' (first | refine aops_end ?_ | refine aops_pbf tok rfl (by first | omega | decide) rfl rfl rfl ?_ | refine aops_p tok rfl rfl rfl rfl ?_ | refine acode_if rfl ?_ | refine acode_seq ?_ | refine acode_region ?_)
        all_goals try (exfalso; omega)
        refine acode_exit ?_
        repeat (first | refine exit_then ?_ | refine exit_here ?_ | refine then_n ?_ | refine block_n ?_)
        repeat (first | refine aops_end ?_ | refine aops_a tok rfl (by omega) (by omega) rfl rfl rfl ?_ | refine aops_p tok rfl rfl rfl rfl ?_ | refine acode_region ?_)
        exact ⟨j + 1, ⟨by omega, hj2⟩, by omega, ⟨rfl, rfl, rfl, rfl, trivial⟩, rfl⟩
    · obtain rfl : j = hit.length := by omega
      rw [List.drop_length] at hj2
      have hTF : TR = false := hj2.symm
      repeat' (first | refine aops_end ?_ | refine aops_pbf tok rfl (by first | omega | decide) rfl rfl rfl ?_ | refine aops_p tok rfl rfl rfl rfl ?_ | refine acode_if rfl ?_ | refine acode_seq ?_ | refine acode_region ?_)
      all_goals try (exfalso; omega)
      refine acode_exit ?_
      repeat (first | refine exit_then ?_ | refine exit_here ?_ | refine then_n ?_)
      repeat (first | refine aops_end ?_ | refine aops_p tok rfl rfl rfl rfl ?_ | refine acode_seq ?_ | refine acode_region ?_)
      refine acode_ret ?_
      repeat (first | refine ret_then ?_ | refine ret_block ?_)
      exact ⟨_, ⟨rfl, rfl⟩, resOf_tmp (by rw [hTF]; rfl)⟩
  · obtain ⟨d, hd⟩ : ∃ d, b[i + 1]? = some d := ⟨_, List.getElem?_eq_getElem (by omega)⟩
    rw [hdr, drop_at hd, takesL, ← drop_at hd, ← hn1] at hgo
    repeat' (first | refine aops_end ?_ | refine aops_endb ?_ | refine aops_a tok rfl (by omega) (by omega) rfl rfl rfl ?_ | refine aops_pbf tok rfl (by first | omega | decide) rfl rfl rfl ?_ | refine aops_p tok rfl rfl rfl rfl ?_ | refine acode_if rfl ?_ | refine acode_seq ?_ | refine acode_region ?_ | refine acode_skip ?_ | refine then_n ?_)
    all_goals try (exfalso; omega)
    exact ⟨(i + 1, nxt), ⟨by show i + 1 < b.length; omega, hn2, hgo⟩, by simp only; omega, ⟨rfl, rfl, rfl, rfl, trivial⟩, rfl⟩
end Go.Proofs.Ytobpbelgihilpaa.Ab
/- Chapter 6's law of the longest row, in plain terms: what is wanted, found by trying all rows. No condition. -/
set_option linter.unusedVariables false
set_option linter.unusedSimpArgs false
namespace Go.Proofs.Ytobpbelgihilpaa.Ab

/-- What is wanted when the patterns above a number were tried on a row of so many bytes. -/
def TryI (ps : List Ps) (w : List Nat) (x : Int × Int) (m : Int) (y : Int × Int) : Prop :=
  (y = x ∧ ∀ i : Nat, m < i → i < ps.length → takesF (psAt ps i) w = false) ∨ ∃ i : Nat, m < i ∧ i < ps.length ∧ takesF (psAt ps i) w = true ∧ (∀ j : Nat, m < j → j < i → takesF (psAt ps j) w = false) ∧ y = ((i : Int), (w.length : Int))
theorem TryI.begin (ps : List Ps) (w : List Nat) (x : Int × Int) : TryI ps w x ((ps.length : Int) - 1) x := .inl ⟨rfl, fun i h1 h2 => by omega⟩
theorem TryI.yes {ps : List Ps} {w : List Nat} {x y : Int × Int} {m : Nat} (hm : m < ps.length) (h : TryI ps w x m y) (ht : takesF (psAt ps m) w = true) : TryI ps w x ((m : Int) - 1) ((m : Int), (w.length : Int)) := .inr ⟨m, by omega, hm, ht, fun j h1 h2 => by omega, rfl⟩
theorem TryI.no {ps : List Ps} {w : List Nat} {x y : Int × Int} {m : Nat} (h : TryI ps w x m y) (ht : takesF (psAt ps m) w = false) : TryI ps w x ((m : Int) - 1) y := by
  have key : ∀ j : Nat, (m : Int) - 1 < j → ¬ (m : Int) < j → takesF (psAt ps j) w = false := fun j h1 h2 => by
    have : j = m := by omega
    rw [this]; exact ht
  rcases h with ⟨h1, h2⟩ | ⟨i, h1, h2, h3, h4, h5⟩
  · refine .inl ⟨h1, fun j hj hj2 => ?_⟩
    by_cases hjm : (m : Int) < j
    · exact h2 j hjm hj2
    · exact key j hj hjm
  · refine .inr ⟨i, by omega, h2, h3, fun j hj hj2 => ?_, h5⟩
    by_cases hjm : (m : Int) < j
    · exact h4 j hjm hj2
    · exact key j hj hjm
theorem TryI.done {ps : List Ps} (hp : ∀ r : Nat, r < ps.length → PsOk (psAt ps r)) {u : List Nat} {c : Nat} {x y : Int × Int} (h : TryI ps (u ++ [c]) x (-1) y) : y = if 0 ≤ acceptsF ps (runS ps (u ++ [c])) then (acceptsF ps (runS ps (u ++ [c])), (u.length : Int) + 1) else x := by
  rcases accepts_takes hp (w := u ++ [c]) (by simp) with ⟨h1, h2⟩ | ⟨i, h1, h2, h3, h4⟩
  · rw [h1, if_neg (by omega)]
    rcases h with ⟨g1, _⟩ | ⟨j, g1, g2, g3, g4, g5⟩
    · exact g1
    · rw [h2 j g2] at g3; cases g3
  · rw [h2, if_pos (by omega)]
    rcases h with ⟨g1, g2⟩ | ⟨j, g1, g2, g3, g4, g5⟩
    · rw [g2 i (by omega) h1] at h3; cases h3
    · have : j = i := by
        rcases Nat.lt_trichotomy j i with h' | h' | h'
        · rw [h4 j h'] at g3; cases g3
        · exact h'
        · rw [g4 i (by omega) h'] at h3; cases h3
      rw [g5, this]
      simp
theorem want_step {ps : List Ps} {cs : List Nat} {j : Nat} {c : Nat} {x y : Int × Int} {R : Int × Int} (hp : ∀ r : Nat, r < ps.length → PsOk (psAt ps r)) (hc : cs[j]? = some c) (h : wantL ps (cs.take j) x (cs.drop j) = R) (ht : TryI ps (cs.take (j + 1)) x (-1) y) : wantL ps (cs.take (j + 1)) y (cs.drop (j + 1)) = R := by
  have e : cs.take (j + 1) = cs.take j ++ [c] := by rw [List.take_add_one, hc]; rfl
  rw [drop_at hc, wantL] at h
  rw [e] at ht ⊢
  rw [ht.done hp]
  exact h
theorem want_end {ps : List Ps} {cs : List Nat} {x R : Int × Int} (h : wantL ps (cs.take cs.length) x (cs.drop cs.length) = R) : x = R := by
  rw [List.drop_length, wantL] at h
  exact h
/-- What Next answers is what is wanted, and it hangs on nothing behind what was looked at. -/
theorem next_law {ps : List Ps} {dn : List (List Int)} {da : List Int} (hD : DfaOk ps dn da) {b : List Nat} (hb : ∀ c ∈ b, c < 256) {at_ : Int} (h0 : 0 ≤ at_) (h1 : at_ ≤ b.length) :
    ((nextF dn da (natI b) at_).1, (nextF dn da (natI b) at_).2.1) = wantL ps [] (-1, 0) (b.drop at_.toNat) ∧ (nextF dn da (natI b) at_).2.1 ≤ (nextF dn da (natI b) at_).2.2 ∧ 1 ≤ (nextF dn da (natI b) at_).2.2 ∧ (nextF dn da (natI b) at_).2.2 ≤ (b.length : Int) - at_ + 1 ∧
    ((nextF dn da (natI b) at_).2.2 ≤ (b.length : Int) - at_ → ∀ other : List Int, nextF dn da (natI (b.take (at_ + (nextF dn da (natI b) at_).2.2).toNat) ++ other) at_ = nextF dn da (natI b) at_) := by
  have hat : cAt ((natI b).length : Int) at_ = at_ := by rw [natI_len]; unfold cAt; omega
  have hdr : (natI b).drop at_.toNat = natI (b.drop at_.toNat) := by unfold natI; rw [List.map_drop]
  have hn : nextF dn da (natI b) at_ = runD dn da 0 (-1) 0 0 (natI (b.drop at_.toNat)) := by unfold nextF; rw [hat, hdr]
  have hw := runD_want (b.drop at_.toNat) [] 0 (-1) 0 (fun c hc => hb c (List.mem_of_mem_drop hc)) (stands_zero hD) (by omega)
  have hl := runD_look (dn := dn) (da := da) (natI (b.drop at_.toNat)) 0 (-1) 0 0 (by omega) (by omega)
  have hw1 : (runD dn da 0 (-1) 0 0 (natI (b.drop at_.toNat))).1 = (wantL ps [] (-1, 0) (b.drop at_.toNat)).1 := hw.1
  have hw2 : (runD dn da 0 (-1) 0 0 (natI (b.drop at_.toNat))).2.1 = (wantL ps [] (-1, 0) (b.drop at_.toNat)).2 := hw.2
  have hlen : ((natI (b.drop at_.toNat)).length : Int) = (b.length : Int) - at_ := by rw [natI_len, List.length_drop]; omega
  rw [hlen] at hl
  obtain ⟨l1, l2, l3, l4⟩ := hl
  rw [hn]
  refine ⟨Prod.ext hw1 hw2, l1, by omega, by omega, fun hle other => ?_⟩
  have l5 := l4 (by omega) other
  generalize hR : runD dn da 0 (-1) 0 0 (natI (b.drop at_.toNat)) = R at *
  rw [show R.2.2 - 0 = R.2.2 by omega] at l5
  refine Eq.trans ?_ l5
  unfold nextF
  have e1 : ((natI (b.take (at_ + R.2.2).toNat) ++ other).length : Int) = at_ + R.2.2 + other.length := by
    rw [List.length_append, natI_len, List.length_take]; omega
  have e2 : cAt ((natI (b.take (at_ + R.2.2).toNat) ++ other).length : Int) at_ = at_ := by rw [e1]; unfold cAt; omega
  rw [e2]
  congr 1
  rw [List.drop_append_of_le_length (by rw [natI_len, List.length_take]; omega)]
  congr 1
  unfold natI
  rw [← List.map_drop, ← List.map_take]
  congr 1
  rw [List.drop_take]
  congr 1
  omega
end Go.Proofs.Ytobpbelgihilpaa.Ab
/- Chapter 6's laws: what any automaton takes, and what begins nothing. No condition. -/
set_option linter.unusedVariables false
set_option linter.unusedSimpArgs false
namespace Go.Proofs.Ytobpbelgihilpaa.Ab
attribute [local irreducible] thenA inBlockA ACode AOps put IntKind.wrap

def rowG (n i : Nat) : List A := List.replicate i (.int .i64 (-1)) ++ List.replicate (n - i) (.int .i64 0)
theorem rowG_len (n i : Nat) (h : i ≤ n) : (rowG n i).length = n := by simp [rowG]; omega
theorem rowG_next {n i : Nat} (h : i < n) : (rowG n i).take i ++ ([A.int .i64 (-1)] ++ (rowG n i).drop (i + 1)) = rowG n (i + 1) := by
  unfold rowG
  rw [List.take_append_of_le_length (by simp), List.take_of_length_le (by simp), List.drop_append]
  rw [List.drop_of_length_le (by simp), List.nil_append, List.drop_replicate, List.replicate_succ', List.length_replicate, List.append_assoc]
  rw [show n - i - (i + 1 - i) = n - (i + 1) from by omega]
theorem rowG_end (n : Nat) : rowG n n = ints (List.replicate n (-1)) := by simp [rowG, ints]
theorem rowG_start (n : Nat) : zerosA ([Value.int .i64 0].map ofZ) n = rowG n 0 := by
  show zerosA [.int .i64 0] n = _
  rw [zerosA_one]; rfl
theorem i64s_len (l : List Int) : (ints l).length = l.length := by simp [ints]
def rowI (i : Nat) : List A := rowG 256 i
theorem rowI_len (i : Nat) (h : i ≤ 256) : (rowI i).length = 256 := rowG_len _ _ h
theorem rowI_next {i : Nat} (h : i < 256) : (rowI i).take i ++ (A.cs (.int .i64 (-1)) ++ (rowI i).drop (i + 1)) = rowI (i + 1) := rowG_next h
theorem rowI_end : rowI 256 = ints (List.replicate 256 (-1)) := rowG_end _
theorem rowI_start : zerosA ([Value.int .i64 0].map ofZ) 256 = rowI 0 := rowG_start _

set_option maxHeartbeats 2000000 in
theorem alive6_calls (M : List Ob) : ACalls Try.prog 4 [] M (fun r M' => r = .bool true ∧ M' = M) := by
  refine acalls_of_code 58 Try.func4 rfl rfl rfl ?_
  repeat (first | refine aops_end ?_ | refine aops_p tok rfl rfl rfl rfl ?_ | refine acode_seq ?_ | refine acode_region ?_)
  refine aops_calls Try.func8 rfl rfl rfl rfl (next_calls (nx := []) (ac := []) (bs := []) (at_ := 0) (by decide) (by simp) _) rfl rfl rfl ?_
  repeat (first | refine aops_end ?_ | refine aops_p tok rfl rfl rfl rfl ?_ | refine acode_seq ?_ | refine acode_region ?_)
  refine aops_mk tok 256 rfl rfl rfl rfl rfl rfl (by decide) (by decide) rfl rfl rfl fun b => ?_
  refine aops_M (M' := ⟨some b, 256, rowI 0⟩ :: M) (by rw [← rowI_start]; rfl) ?_
  repeat (first | refine aops_end ?_ | refine aops_p tok rfl rfl rfl rfl ?_ | refine acode_seq ?_ | refine acode_region ?_ | refine acode_block ?_)
  refine acode_loopS (ι := Nat) (fun i => [(1, .int .i64 (-1)), (2, .int .i64 0), (3, .int .i64 1), (4, .own (some b) 256 256), (5, .int .i64 i)]) (fun i => ⟨some b, 256, rowI i⟩ :: M) (fun i => 256 - i) (fun i => i ≤ 256) 0 (by omega) ⟨rfl, rfl, rfl, rfl, rfl, trivial⟩ rfl ?_
  intro i hi
  repeat (first | refine aops_end ?_ | refine aops_p tok rfl rfl rfl rfl ?_ | refine acode_seq ?_ | refine acode_region ?_)
  refine acode_cond rfl (fun e => ?_) (fun e => ?_)
  · have hlt : i < 256 := by simp at e; omega
    repeat (first | refine aops_p tok rfl rfl rfl rfl ?_ | refine acode_seq ?_ | refine acode_region ?_ | refine acode_block ?_ | refine acode_skip ?_ | refine then_n ?_)
    refine aops_ixo tok rfl rfl rfl rfl (by omega) (by omega) rfl rfl rfl ?_
    skip
    refine aops_sto tok (rowI (i + 1)) rfl rfl rfl rfl rfl (by rw [rowI_len _ hi]; show _ * 1 + 1 ≤ _; omega) (by show (rowI i).take ((i : Int).toNat * 1) ++ _ = _; rw [Int.toNat_natCast, Nat.mul_one]; exact rowI_next hlt) rfl rfl ?_
    repeat (first | refine aops_end ?_ | refine aops_endb ?_ | refine aops_a tok rfl (by omega) (by omega) rfl rfl rfl ?_ | refine aops_p tok rfl rfl rfl rfl ?_ | refine acode_region ?_ | refine then_n ?_)
    exact ⟨i + 1, by omega, by omega, ⟨rfl, rfl, rfl, rfl, rfl, trivial⟩, rfl⟩
  · have hge : i = 256 := by have := of_decide_eq_false e; omega
    subst hge
    refine acode_exit ?_
    repeat (first | refine exit_then ?_ | refine exit_here ?_ | refine then_n ?_)
    repeat (first | refine aops_p tok rfl rfl rfl rfl ?_ | refine acode_seq ?_ | refine acode_region ?_)
    refine aops_ixo tok rfl rfl rfl rfl (by omega) (by omega) rfl rfl rfl ?_
    rw [rowI_end]
    refine aops_sto tok (ints ((List.replicate 256 (-1)).set 97 0)) rfl rfl rfl rfl rfl (by decide +kernel) (by kernel_rfl) rfl rfl ?_
    have hlen : ((List.replicate 256 (-1 : Int)).set 97 0).length = 256 := by rw [List.length_set, List.length_replicate]
    have h1 : nextF [(List.replicate 256 (-1)).set 97 0] [3] [97, 97, 98] 0 = (3, 2, 3) := by decide +kernel
    generalize (List.replicate 256 (-1 : Int)).set 97 0 = r at *
    repeat (first | refine aops_end ?_ | refine aops_p tok rfl rfl rfl rfl ?_ | refine acode_seq ?_ | refine acode_region ?_)
    refine aops_publish 26 0 1 rfl rfl rfl (by rw [i64s_len, hlen]) (by omega) ?_
    refine aops_litf tok rfl rfl rfl rfl rfl rfl rfl ?_
    refine aops_litf tok rfl rfl rfl rfl rfl rfl rfl ?_
    repeat (refine aops_p tok rfl rfl rfl rfl ?_)
    refine aops_lito tok rfl rfl rfl rfl rfl rfl rfl fun b => ?_
    skip
    refine aops_bytes tok rfl rfl rfl rfl rfl rfl rfl rfl rfl ?_
    refine aops_callx Try.func8 rfl rfl rfl (by show _ = [dfaA [r] [3], _, _]; simp only [dfaA, rows, List.map, hlen]; rfl) (next_calls (nx := [r]) (ac := [3]) (bs := [97, 97, 98]) (at_ := 0) (by decide) (by simp) _) rfl rfl rfl ?_
    rw [h1]
    repeat (first | refine aops_end ?_ | refine aops_p tok rfl rfl rfl rfl ?_ | refine acode_seq ?_ | refine acode_region ?_)
    refine acode_ret ?_
    skip
    exact ⟨_, ⟨rfl, rfl⟩, resOf_tmp rfl⟩
end Go.Proofs.Ytobpbelgihilpaa.Ab
/- Chapter 3: the law RegexParses. No condition. -/
set_option linter.unusedVariables false
set_option linter.unusedSimpArgs false
namespace Go.Proofs.Ytobpbelgihilpaa.Ab
theorem str_nums (s : ByteArray) : ∃ xs : List Int, s = strOfNums xs ∧ ∀ x ∈ xs, 0 ≤ x ∧ x ≤ 255 := by
  refine ⟨s.data.toList.map fun b => (b.toNat : Int), ?_, ?_⟩
  · unfold strOfNums
    rw [List.map_map]
    have : ((fun n : Int => UInt8.ofNat n.toNat) ∘ fun b : UInt8 => (b.toNat : Int)) = id := by
      funext b
      simp
    rw [this, List.map_id]
  · intro x hx
    obtain ⟨b, _, rfl⟩ := List.mem_map.1 hx
    have := b.toNat_lt
    omega
attribute [local irreducible] thenA inBlockA ACode AOps put IntKind.wrap
end Go.Proofs.Ytobpbelgihilpaa.Ab
/- The statement ScanLongest: the law's walk. No condition. -/
set_option linter.unusedVariables false
set_option linter.unusedSimpArgs false
namespace Go.Proofs.Ytobpbelgihilpaa.Ab
attribute [local irreducible] thenA inBlockA ACode AOps put IntKind.wrap

def strC (s : List Int) : List A := [.str (strOfNums s)]
theorem u8s_appL (a b : List Int) : u8s (a ++ b) = u8s a ++ u8s b := by simp [u8s]
theorem psAt_app {ps : List Ps} {p : Ps} {r : Nat} : psAt (ps ++ [p]) r = if r < ps.length then psAt ps r else if r = ps.length then p else psAt (ps ++ [p]) r := by
  split
  · rename_i h
    unfold psAt
    rw [Int.toNat_natCast, List.getD_eq_getElem?_getD, List.getElem?_append_left h, ← List.getD_eq_getElem?_getD]
  · split
    · rename_i h1 h2
      unfold psAt
      rw [Int.toNat_natCast, List.getD_eq_getElem?_getD, h2, List.getElem?_append_right (Nat.le_refl _), Nat.sub_self]; rfl
    · rfl
theorem allOk_snoc {ps : List Ps} {p : Ps} (h : AllOk ps) (hl : ps.length < 40) (hp : PsOk p) : AllOk (ps ++ [p]) := by
  refine ⟨by rw [List.length_append, List.length_singleton]; omega, fun r h0 h1 => ?_⟩
  rw [List.length_append, List.length_singleton] at h1
  obtain ⟨n, rfl⟩ : ∃ n : Nat, r = n := ⟨r.toNat, by omega⟩
  rw [psAt_app]
  split
  · exact h.2 n h0 (by omega)
  · rw [if_pos (by omega)]; exact hp
theorem natI_of {b : List Int} (h : ∀ n ∈ b, 0 ≤ n ∧ n < 256) : ∃ c : List Nat, b = natI c ∧ ∀ x ∈ c, x < 256 := by
  refine ⟨b.map Int.toNat, ?_, fun x hx => ?_⟩
  · unfold natI
    rw [List.map_map]
    conv => lhs; rw [← List.map_id b]
    refine List.map_congr_left fun n hn => ?_
    have := h n hn
    simp only [id_eq, Function.comp_apply]
    omega
  · obtain ⟨n, hn, rfl⟩ := List.mem_map.1 hx
    have := h n hn
    omega
theorem u8_rangeL {n : Int} (h : (Lit.int .u8 n).wf = true) : 0 ≤ n ∧ n < 256 := by
  simp only [Lit.wf, Bool.and_eq_true, decide_eq_true_eq] at h
  have h1 : IntKind.u8.min = 0 := rfl
  have h2 : IntKind.u8.max = 255 := rfl
  omega
set_option maxHeartbeats 32000000 in
theorem longest_main {l : List (List Int)} {b other : List Nat} {at_ : Int} (hl0 : l.length ≤ 9223372036854775807) (hl : ∀ s ∈ l, ∀ x ∈ s, 0 ≤ x ∧ x ≤ 255) (hbl : b.length ≤ 9223372036854775807) (hb : ∀ c ∈ b, c < 256) (hol : other.length ≤ 9223372036854775807) (ho : ∀ c ∈ other, c < 256) :
    ACalls Try.prog 3 [.psl l.length (encs strC l), .psl b.length (u8s (natI b)), .psl other.length (u8s (natI other)), .int .i64 at_] [] (fun r _ => r = .bool true) := by
  refine acalls_of_code 197 Try.func3 rfl rfl rfl ?_
  repeat (first | refine aops_end ?_ | refine aops_p tok rfl rfl rfl rfl ?_ | refine acode_seq ?_ | refine acode_region ?_)
  refine aops_callx Try.func4 rfl rfl rfl rfl (alive6_calls _) rfl rfl rfl ?_
  by_cases hg : l.length ≤ 6 ∧ b.length ≤ 60 ∧ other.length ≤ 60 ∧ 0 ≤ at_ ∧ at_ ≤ b.length
  rotate_left
  · repeat' (first | refine aops_end ?_ | refine aops_o rfl rfl rfl ?_ | refine aops_pbt tok rfl (by first | omega | decide) rfl rfl rfl ?_ | (refine aops_pd tok rfl rfl rfl rfl ?_ ?_ <;> intro e_) | refine aops_p tok rfl rfl rfl rfl ?_ | refine acode_it rfl ?_ | refine acode_seq ?_ | refine acode_region ?_)
    all_goals try (exfalso; omega)
    all_goals
      refine acode_ret ?_
      repeat (refine ret_then ?_)
      exact ⟨_, rfl, resOf_tmp rfl⟩
  obtain ⟨g1, g2, g3, g4, g5⟩ := hg
  repeat' (first | refine aops_end ?_ | refine aops_pbf tok rfl (by first | omega | decide) rfl rfl rfl ?_ | refine aops_p tok rfl rfl rfl rfl ?_ | refine acode_if rfl ?_ | refine acode_seq ?_ | refine acode_region ?_ | refine acode_block ?_ | refine acode_skip ?_ | refine then_n ?_)
  all_goals try (exfalso; omega)
  refine acode_adopt 10 5 rfl ?_
  refine acode_loopS (ι := List Ps × Option Nat × Nat) (fun q => [(0, .psl l.length (encs strC l)), (1, .psl b.length (u8s (natI b))), (2, .psl other.length (u8s (natI other))), (3, .int .i64 at_), (10, .own q.2.1 q.1.length q.2.2), (11, .int .i64 q.1.length)]) (fun q => [⟨q.2.1, q.2.2 * 5, encs psC q.1⟩]) (fun q => l.length - q.1.length) (fun q => q.1.length ≤ l.length ∧ AllOk q.1) ([], none, 0) ⟨Nat.zero_le _, ⟨Nat.zero_le _, fun r h0 h1 => by simp at h1; omega⟩⟩ ⟨rfl, rfl, rfl, rfl, rfl, rfl, trivial⟩ rfl ?_
  rintro ⟨ps, ob, cap⟩ ⟨hpl, hps⟩
  simp only at hpl hps ⊢
  by_cases hil : ps.length < l.length
  · obtain ⟨s, hs⟩ : ∃ s, l[ps.length]? = some s := ⟨_, List.getElem?_eq_getElem hil⟩
    have hpa := fun M => rparse_calls (hl s (List.mem_of_getElem? hs)) M
    have hre := parse_re s
    have hrh := parse_h s
    have hsz := str_len (s := s)
    generalize parseP s = q at *
    obtain ⟨y, a1, e1⟩ := q
    simp only at hpa hre hrh
    have hcell : [A.str (strOfNums s)] <+: (encs strC l).drop (ps.length * 1) := encs_at (e := strC) (s := 1) (fun _ => rfl) (i := ps.length) hs
    repeat' (first | refine aops_end ?_ | refine aops_pbt tok rfl (by first | omega | decide) rfl rfl rfl ?_ | refine aops_p tok rfl rfl rfl rfl ?_ | refine acode_it rfl ?_ | refine acode_seq ?_ | refine acode_region ?_ | refine acode_block ?_ | refine acode_skip ?_ | refine then_n ?_)
    all_goals try (exfalso; omega)
    refine aops_ix tok [.str (strOfNums s)] rfl rfl rfl rfl (by omega) (by omega) (by simp) (by simpa using hcell) rfl rfl rfl ?_
    repeat (refine aops_p tok rfl rfl rfl rfl ?_)
    refine aops_callx Try.func5 rfl rfl rfl rfl (hpa _) rfl rfl rfl ?_
    repeat (refine aops_p tok rfl rfl rfl rfl ?_)
    refine aops_alloc tok rfl rfl rfl rfl rfl rfl fun b12 => ?_
    refine aops_sto tok (reC y) rfl rfl rfl rfl (reC_ok y) (by decide) (sto_all rfl) rfl rfl ?_
    refine aops_pubref0 12 rfl ?_
    by_cases he : e1 = 0
    rotate_left
    · repeat' (first | refine aops_end ?_ | refine aops_o rfl rfl rfl ?_ | (refine aops_pn tok rfl rfl rfl rfl ?_ ?_ <;> intro e_) | refine aops_p tok rfl rfl rfl rfl ?_ | refine acode_it rfl ?_ | refine acode_seq ?_ | refine acode_region ?_)
      all_goals try (exfalso; omega)
      refine acode_ret ?_
      repeat (first | refine ret_then ?_ | refine ret_block ?_)
      exact ⟨_, rfl, resOf_tmp rfl⟩
    by_cases hs40 : s.length ≤ 40
    rotate_left
    · repeat' (first | refine aops_end ?_ | refine aops_o rfl rfl rfl ?_ | (refine aops_pn tok rfl rfl rfl rfl ?_ ?_ <;> intro e_) | refine aops_p tok rfl rfl rfl rfl ?_ | refine acode_it rfl ?_ | refine acode_seq ?_ | refine acode_region ?_)
      all_goals try (exfalso; omega)
      refine aops_ix tok [.str (strOfNums s)] rfl rfl rfl rfl (by omega) (by omega) (by simp) (by simpa using hcell) rfl rfl rfl ?_
      repeat' (first | refine aops_end ?_ | refine aops_pbt tok rfl (by first | omega | decide) rfl rfl rfl ?_ | refine aops_p tok rfl rfl rfl rfl ?_ | refine acode_it rfl ?_ | refine acode_seq ?_ | refine acode_region ?_)
      all_goals try (exfalso; omega)
      refine acode_ret ?_
      repeat (first | refine ret_then ?_ | refine ret_block ?_)
      exact ⟨_, rfl, resOf_tmp rfl⟩
    repeat' (first | refine aops_end ?_ | refine aops_o rfl rfl rfl ?_ | (refine aops_pn tok rfl rfl rfl rfl ?_ ?_ <;> intro e_) | refine aops_p tok rfl rfl rfl rfl ?_ | refine acode_it rfl ?_ | refine acode_seq ?_ | refine acode_region ?_)
    all_goals try (exfalso; omega)
    refine aops_ix tok [.str (strOfNums s)] rfl rfl rfl rfl (by omega) (by omega) (by simp) (by simpa using hcell) rfl rfl rfl ?_
    repeat' (first | refine aops_end ?_ | refine aops_pbf tok rfl (by first | omega | decide) rfl rfl rfl ?_ | refine aops_p tok rfl rfl rfl rfl ?_ | refine acode_if rfl ?_ | refine acode_seq ?_ | refine acode_region ?_ | refine acode_skip ?_ | refine then_n ?_)
    all_goals try (exfalso; omega)
    refine aops_ldagg tok rfl rfl rfl rfl (reC_len y) rfl rfl rfl ?_
    refine aops_call Try.func6 rfl rfl rfl rfl (acalls_arg (.cons (vw_re [] y) .nil) (posits_calls hre hrh _)) rfl rfl ?_
    rintro _ _ ⟨hR, rfl⟩
    rcases hR with ⟨f, hf, rfl⟩ | ⟨p, hp, rfl⟩
    · repeat (first | refine aops_put rfl ?_ | refine aops_p tok rfl rfl rfl rfl ?_)
      refine aops_alloc tok rfl rfl rfl rfl rfl rfl fun b15 => ?_
      repeat (first | refine aops_p tok rfl rfl rfl rfl ?_ | refine aops_stn tok rfl rfl rfl rfl rfl rfl rfl rfl rfl ?_)
      refine aops_pubref0 15 rfl ?_
      repeat' (first | refine aops_end ?_ | (refine aops_pn tok rfl rfl rfl rfl ?_ ?_ <;> intro e_) | refine aops_p tok rfl rfl rfl rfl ?_ | refine acode_it rfl ?_ | refine acode_if rfl ?_ | refine acode_seq ?_ | refine acode_region ?_ | refine acode_skip ?_ | refine then_n ?_)
      all_goals try (exfalso; omega)
      refine acode_ret ?_
      repeat (first | refine ret_then ?_ | refine ret_block ?_)
      exact ⟨_, rfl, resOf_tmp rfl⟩
    · have hpe : psC p = [.psl p.sets.length (encs wordsA p.sets), .bool p.null, .psl p.first.length (ints p.first), .psl p.last.length (ints p.last), .psl p.follow.length (encs lsC p.follow)] := rfl
      rw [hpe]
      repeat (first | refine aops_put rfl ?_ | refine aops_p tok rfl rfl rfl rfl ?_)
      refine aops_alloc tok rfl rfl rfl rfl rfl rfl fun b15 => ?_
      repeat (first | refine aops_p tok rfl rfl rfl rfl ?_ | refine aops_stn tok rfl rfl rfl rfl rfl rfl rfl rfl rfl ?_)
      refine aops_pubref0 15 rfl ?_
      repeat' (first | refine aops_end ?_ | refine aops_pbf tok rfl (by first | omega | decide) rfl rfl rfl ?_ | (refine aops_pn tok rfl rfl rfl rfl ?_ ?_ <;> intro e_) | refine aops_p tok rfl rfl rfl rfl ?_ | refine acode_it rfl ?_ | refine acode_if rfl ?_ | refine acode_seq ?_ | refine acode_region ?_ | refine acode_skip ?_ | refine then_n ?_)
      all_goals try (exfalso; omega)
      refine aops_litn tok rfl rfl rfl rfl rfl rfl rfl ?_
      refine aops_append tok 0 (m := 1) (ds := psC p) rfl rfl rfl (.inl rfl) rfl rfl (encs_len psC_len ps) rfl rfl rfl (by show _ * 104 ≤ _; omega) (by omega) rfl rfl fun ob1 cap1 => ?_
      repeat (first | refine aops_put rfl ?_ | refine aops_end ?_ | refine aops_endb ?_ | refine aops_a tok rfl (by omega) (by omega) rfl rfl rfl ?_ | refine aops_p tok rfl rfl rfl rfl ?_ | refine acode_region ?_ | refine then_n ?_)
      exact ⟨(ps ++ [p], ob1, cap1), ⟨by simp only [List.length_append, List.length_singleton]; omega, allOk_snoc hps (by omega) hp⟩, by simp only [List.length_append, List.length_singleton]; omega, ⟨rfl, rfl, rfl, rfl, by simp only [List.length_append]; rfl, by simp only [List.length_append]; rfl, trivial⟩, by simp only [encs_app]; simp [encs]⟩
  · have hpe : ps.length = l.length := by omega
    have hpl6 : ps.length ≤ 6 := by omega
    repeat' (first | refine aops_end ?_ | refine aops_pbf tok rfl (by first | omega | decide) rfl rfl rfl ?_ | refine aops_p tok rfl rfl rfl rfl ?_ | refine acode_if rfl ?_ | refine acode_seq ?_ | refine acode_region ?_)
    all_goals try (exfalso; omega)
    refine acode_exit ?_
    repeat (first | refine exit_then ?_ | refine exit_here ?_ | refine then_n ?_)
    refine acode_pub0 10 5 rfl rfl (encs_len psC_len ps) rfl ?_
    clear hl hl0 hil hpl hpe
    repeat (first | refine aops_p tok rfl rfl rfl rfl ?_ | refine acode_seq ?_ | refine acode_region ?_)
    refine aops_call Try.func7 rfl rfl rfl rfl (sdfa_calls hps _) rfl rfl ?_
    rintro _ _ ⟨hR, rfl⟩
    rcases hR with rfl | ⟨dn, da, hD, rfl⟩
    · repeat (first | refine aops_put rfl ?_ | refine aops_p tok rfl rfl rfl rfl ?_)
      refine aops_alloc tok rfl rfl rfl rfl rfl rfl fun b17 => ?_
      repeat (first | refine aops_p tok rfl rfl rfl rfl ?_ | refine aops_stn tok rfl rfl rfl rfl rfl rfl rfl rfl rfl ?_)
      refine aops_pubref0 17 rfl ?_
      repeat' (first | refine aops_end ?_ | refine aops_p tok rfl rfl rfl rfl ?_ | refine acode_it rfl ?_ | refine acode_seq ?_ | refine acode_region ?_)
      refine acode_ret ?_
      repeat (refine ret_then ?_)
      exact ⟨_, rfl, resOf_tmp rfl⟩
    have hps2 : ∀ r : Nat, r < ps.length → PsOk (psAt ps r) := fun r hr => hps.2 r (by omega) (by omega)
    have hbr : ∀ n ∈ natI b, 0 ≤ n ∧ n < 256 := fun n hn => by
      obtain ⟨c, hc, rfl⟩ := List.mem_map.1 hn
      have := hb c hc; omega
    have hor : ∀ n ∈ natI other, 0 ≤ n ∧ n < 256 := fun n hn => by
      obtain ⟨c, hc, rfl⟩ := List.mem_map.1 hn
      have := ho c hc; omega
    have hnx := fun M => next_calls (nx := dn) (ac := da) (bs := natI b) (at_ := at_) (by rw [natI_len]; omega) hbr M
    rw [natI_len] at hnx
    have hlaw := next_law hD hb g4 g5
    have hnx2 := fun (k : Int) (hk : 0 ≤ k) M => next_calls (nx := dn) (ac := da) (bs := natI (b.take (at_ + k).toNat) ++ natI other) (at_ := at_) (by rw [List.length_append, natI_len, natI_len, List.length_take]; omega) (fun n hn => by
      rcases List.mem_append.1 hn with h | h
      · refine hbr n ?_
        obtain ⟨c, hc, rfl⟩ := List.mem_map.1 h
        exact List.mem_map.2 ⟨c, List.mem_of_mem_take hc, rfl⟩
      · exact hor n h) M
    generalize hN : nextF dn da (natI b) at_ = Nx at *
    obtain ⟨rule, n, look⟩ := Nx
    simp only at hlaw
    obtain ⟨w1, w2, w3, w4, w5⟩ := hlaw
    have hcl : (b.drop at_.toNat).length = b.length - at_.toNat := List.length_drop ..
    unfold dfaA tup3 at hnx
    simp only at hnx
    unfold dfaA
    repeat (first | refine aops_put rfl ?_ | refine aops_p tok rfl rfl rfl rfl ?_)
    refine aops_alloc tok rfl rfl rfl rfl rfl rfl fun b17 => ?_
    repeat (first | refine aops_p tok rfl rfl rfl rfl ?_ | refine aops_stn tok rfl rfl rfl rfl rfl rfl rfl rfl rfl ?_)
    refine aops_pubref0 17 rfl ?_
    repeat' (first | refine aops_end ?_ | refine aops_p tok rfl rfl rfl rfl ?_ | refine acode_if rfl ?_ | refine acode_seq ?_ | refine acode_region ?_ | refine acode_skip ?_ | refine then_n ?_)
    refine aops_callx Try.func8 rfl rfl rfl rfl (hnx _) rfl rfl rfl ?_
    repeat (first | refine aops_end ?_ | refine aops_a tok rfl (by omega) (by omega) rfl rfl rfl ?_ | refine aops_p tok rfl rfl rfl rfl ?_ | refine acode_seq ?_ | refine acode_region ?_ | refine acode_block ?_)
    refine acode_loopS (ι := Nat × Int × Int) (fun q => [(1, .psl b.length (u8s (natI b))), (2, .psl other.length (u8s (natI other))), (3, .int .i64 at_), (10, .psl ps.length (encs psC ps)), (17, .pp [.psl dn.length (rows dn), .psl da.length (ints da)]), (20, .int .i64 rule), (21, .int .i64 n), (22, .int .i64 look), (23, .int .i64 q.2.1), (24, .int .i64 q.2.2), (25, .int .i64 (at_ + 1 + q.1))]) (fun _ => []) (fun q => b.length - at_.toNat - q.1) (fun q => q.1 ≤ b.length - at_.toNat ∧ wantL ps ((b.drop at_.toNat).take q.1) q.2 ((b.drop at_.toNat).drop q.1) = (rule, n)) (0, -1, 0) ⟨Nat.zero_le _, by rw [w1]; simp⟩ ⟨rfl, rfl, rfl, rfl, rfl, rfl, rfl, rfl, rfl, rfl, congrArg (A.int .i64) (by simp only; omega), trivial⟩ rfl ?_
    rintro ⟨j, x⟩ ⟨hj, hwj⟩
    simp only at hj hwj ⊢
    by_cases hjl : j < b.length - at_.toNat
    · obtain ⟨c, hc⟩ : ∃ c, (b.drop at_.toNat)[j]? = some c := ⟨_, List.getElem?_eq_getElem (by omega)⟩
      have hwl : ((b.drop at_.toNat).take (j + 1)).length = j + 1 := by rw [List.length_take]; omega
      have hwb : ∀ c ∈ (b.drop at_.toNat).take (j + 1), c < 256 := fun c hc => hb c (List.mem_of_mem_drop (List.mem_of_mem_take hc))
      have hnext := fun y (hy : TryI ps ((b.drop at_.toNat).take (j + 1)) x (-1) y) => want_step hps2 hc hwj hy
      have hsl : ((u8s (natI b)).drop (at_.toNat * 1)).take (((b.drop at_.toNat).take (j + 1)).length * 1) = u8s (natI ((b.drop at_.toNat).take (j + 1))) := by
        rw [hwl, Nat.mul_one, Nat.mul_one, u8s_drop, u8s_take]
        unfold natI
        rw [List.map_take, List.map_drop]
      have htk := fun (p : Ps) (hp : PsOk p) M => stakes_calls hp hwb (by omega) M
      generalize hw : (b.drop at_.toNat).take (j + 1) = w at *
      obtain ⟨x1, x2⟩ := x
      repeat' (first | refine aops_end ?_ | refine aops_a tok rfl (by omega) (by omega) rfl rfl rfl ?_ | refine aops_pbt tok rfl (by first | omega | decide) rfl rfl rfl ?_ | refine aops_p tok rfl rfl rfl rfl ?_ | refine acode_it rfl ?_ | refine acode_seq ?_ | refine acode_region ?_ | refine acode_block ?_ | refine acode_skip ?_ | refine then_n ?_)
      all_goals try (exfalso; omega)
      refine acode_loopS (ι := Int × Int × Int) (fun q => [(1, .psl b.length (u8s (natI b))), (2, .psl other.length (u8s (natI other))), (3, .int .i64 at_), (10, .psl ps.length (encs psC ps)), (17, .pp [.psl dn.length (rows dn), .psl da.length (ints da)]), (20, .int .i64 rule), (21, .int .i64 n), (22, .int .i64 look), (23, .int .i64 q.2.1), (24, .int .i64 q.2.2), (25, .int .i64 (at_ + 1 + j)), (26, .int .i64 q.1)]) (fun _ => []) (fun q => (q.1 + 1).toNat) (fun q => (-1 ≤ q.1 ∧ q.1 < (ps.length : Int)) ∧ TryI ps w (x1, x2) q.1 q.2) ((ps.length : Int) - 1, x1, x2) ⟨by simp only; omega, TryI.begin ps w (x1, x2)⟩ ⟨rfl, rfl, rfl, rfl, rfl, rfl, rfl, rfl, rfl, rfl, rfl, rfl, trivial⟩ rfl ?_
      rintro ⟨m, y1, y2⟩ ⟨⟨hm1, hm2⟩, hT⟩
      simp only at hm1 hm2 hT ⊢
      by_cases hm0 : 0 ≤ m
      · obtain ⟨k, rfl⟩ : ∃ k : Nat, m = k := ⟨m.toNat, by omega⟩
        have hkp := hps2 k (by omega)
        have htk2 := htk _ hkp
        have hpc : psC (psAt ps k) <+: (encs psC ps).drop (((k : Nat) : Int).toNat * 5) := psC_at hm0 hm2
        have hpe : psC (psAt ps k) = [.psl (psAt ps k).sets.length (encs wordsA (psAt ps k).sets), .bool (psAt ps k).null, .psl (psAt ps k).first.length (ints (psAt ps k).first), .psl (psAt ps k).last.length (ints (psAt ps k).last), .psl (psAt ps k).follow.length (encs lsC (psAt ps k).follow)] := rfl
        cases ht : takesF (psAt ps k) w with
        | true =>
          have hT2 := hT.yes (by omega) ht
          simp only [ht] at htk2
          repeat' (first | refine aops_end ?_ | refine aops_pbt tok rfl (by first | omega | decide) rfl rfl rfl ?_ | refine aops_p tok rfl rfl rfl rfl ?_ | refine acode_it rfl ?_ | refine acode_seq ?_ | refine acode_region ?_ | refine acode_block ?_ | refine acode_skip ?_ | refine then_n ?_)
          all_goals try (exfalso; omega)
          refine acode_drawT 9 mixed (by kernel_rfl) (by kernel_rfl) ?_
          repeat (refine seqT_p tok rfl rfl rfl rfl ?_)
          refine seqT_ix tok (psC (psAt ps k)) rfl rfl rfl rfl hm0 hm2 (by simp [psC]) hpc rfl rfl rfl ?_
          repeat (refine seqT_p tok rfl rfl rfl rfl ?_)
          refine seqT_y (yields_slice tok rfl rfl rfl rfl rfl g4 (by omega) (by omega) w.length (u8s (natI w)) (by omega) (by rw [u8s_len, natI_len, Nat.mul_one]) hsl rfl rfl) rfl ?_
          refine seqT_call _ Try.func9 rfl rfl rfl rfl (htk2 _) rfl rfl rfl ?_
          refine SeqT.done ?_
          repeat' (first | refine aops_end ?_ | refine aops_endb ?_ | refine aops_a tok rfl (by omega) (by omega) rfl rfl rfl ?_ | refine aops_p tok rfl rfl rfl rfl ?_ | refine acode_it rfl ?_ | refine acode_seq ?_ | refine acode_region ?_ | refine then_n ?_)
          refine ⟨((k : Int) - 1, (k : Int), (w.length : Int)), ⟨by simp only; omega, hT2⟩, by simp only; omega, ⟨rfl, rfl, rfl, rfl, rfl, rfl, rfl, rfl, rfl, congrArg (A.int .i64) (by simp only; omega), rfl, rfl, trivial⟩, rfl⟩
        | false =>
          have hT2 := hT.no ht
          simp only [ht] at htk2
          repeat' (first | refine aops_end ?_ | refine aops_pbt tok rfl (by first | omega | decide) rfl rfl rfl ?_ | refine aops_p tok rfl rfl rfl rfl ?_ | refine acode_it rfl ?_ | refine acode_seq ?_ | refine acode_region ?_ | refine acode_block ?_ | refine acode_skip ?_ | refine then_n ?_)
          all_goals try (exfalso; omega)
          refine acode_drawT 9 mixed (by kernel_rfl) (by kernel_rfl) ?_
          repeat (refine seqT_p tok rfl rfl rfl rfl ?_)
          refine seqT_ix tok (psC (psAt ps k)) rfl rfl rfl rfl hm0 hm2 (by simp [psC]) hpc rfl rfl rfl ?_
          repeat (refine seqT_p tok rfl rfl rfl rfl ?_)
          refine seqT_y (yields_slice tok rfl rfl rfl rfl rfl g4 (by omega) (by omega) w.length (u8s (natI w)) (by omega) (by rw [u8s_len, natI_len, Nat.mul_one]) hsl rfl rfl) rfl ?_
          refine seqT_call _ Try.func9 rfl rfl rfl rfl (htk2 _) rfl rfl rfl ?_
          refine SeqT.done ?_
          repeat' (first | refine aops_end ?_ | refine aops_a tok rfl (by omega) (by omega) rfl rfl rfl ?_ | refine aops_p tok rfl rfl rfl rfl ?_ | refine acode_if rfl ?_ | refine acode_region ?_ | refine acode_skip ?_ | refine then_n ?_ | refine block_n ?_)
          exact ⟨((k : Int) - 1, y1, y2), ⟨by simp only; omega, hT2⟩, by simp only; omega, ⟨rfl, rfl, rfl, rfl, rfl, rfl, rfl, rfl, rfl, rfl, rfl, rfl, trivial⟩, rfl⟩
      · obtain rfl : m = -1 := by omega
        have hfin := hnext _ hT
        repeat' (first | refine aops_end ?_ | refine aops_pbf tok rfl (by first | omega | decide) rfl rfl rfl ?_ | refine aops_p tok rfl rfl rfl rfl ?_ | refine acode_if rfl ?_ | refine acode_seq ?_ | refine acode_region ?_)
        all_goals try (exfalso; omega)
        refine acode_exit ?_
        repeat (first | refine exit_then ?_ | refine exit_here ?_ | refine then_n ?_ | refine block_n ?_)
        repeat (first | refine aops_end ?_ | refine aops_a tok rfl (by omega) (by omega) rfl rfl rfl ?_ | refine aops_p tok rfl rfl rfl rfl ?_ | refine acode_region ?_)
        exact ⟨(j + 1, y1, y2), ⟨by simp only; omega, by simp only; rw [hw]; exact hfin⟩, by simp only; omega, ⟨rfl, rfl, rfl, rfl, rfl, rfl, rfl, rfl, rfl, rfl, congrArg (A.int .i64) (by simp only; omega), trivial⟩, rfl⟩
    · obtain rfl : j = b.length - at_.toNat := by omega
      rw [← hcl] at hwj
      have hx := want_end hwj
      subst hx
      repeat' (first | refine aops_end ?_ | refine aops_pbf tok rfl (by first | omega | decide) rfl rfl rfl ?_ | refine aops_p tok rfl rfl rfl rfl ?_ | refine acode_if rfl ?_ | refine acode_seq ?_ | refine acode_region ?_)
      all_goals try (exfalso; omega)
      refine acode_exit ?_
      repeat (first | refine exit_then ?_ | refine exit_here ?_ | refine then_n ?_)
      by_cases hlk : look > (b.length : Int) - at_
      · repeat' (first | refine aops_end ?_ | refine aops_o rfl rfl rfl ?_ | refine aops_a tok rfl (by omega) (by omega) rfl rfl rfl ?_ | refine aops_pbt tok rfl (by first | omega | decide) rfl rfl rfl ?_ | refine aops_pbf tok rfl (by first | omega | decide) rfl rfl rfl ?_ | (refine aops_pn tok rfl rfl rfl rfl ?_ ?_ <;> intro e_) | refine aops_p tok rfl rfl rfl rfl ?_ | refine acode_it rfl ?_ | refine acode_if rfl ?_ | refine acode_seq ?_ | refine acode_region ?_ | refine acode_skip ?_ | refine then_n ?_)
        all_goals try (exfalso; omega)
        all_goals
          refine acode_ret ?_
          repeat (refine ret_then ?_)
          exact ⟨_, rfl, resOf_tmp rfl⟩
      · have h5 := w5 (by omega) (natI other)
        have hnx3 := hnx2 look (by omega)
        rw [h5] at hnx3
        unfold dfaA tup3 at hnx3
        simp only at hnx3
        repeat' (first | refine aops_end ?_ | refine aops_o rfl rfl rfl ?_ | refine aops_a tok rfl (by omega) (by omega) rfl rfl rfl ?_ | refine aops_pbf tok rfl (by first | omega | decide) rfl rfl rfl ?_ | (refine aops_pn tok rfl rfl rfl rfl ?_ ?_ <;> intro e_) | refine aops_p tok rfl rfl rfl rfl ?_ | refine acode_it rfl ?_ | refine acode_if rfl ?_ | refine acode_seq ?_ | refine acode_region ?_ | refine acode_skip ?_ | refine then_n ?_)
        all_goals try (exfalso; omega)
        simp only [List.length_append, natI_len, u8s_appL] at hnx3
        have hbt : (b.take (at_ + look).toNat).length = (at_ + look).toNat := by rw [List.length_take]; omega
        refine aops_slc tok (b.take (at_ + look).toNat).length (u8s (natI (b.take (at_ + look).toNat))) rfl rfl rfl rfl rfl (by omega) (by omega) (by omega) (by rw [hbt]; simp) (by rw [u8s_len, natI_len, Nat.mul_one]) (by
          rw [hbt, Nat.mul_one, show (0 : Int).toNat * 1 = 0 from rfl, List.drop_zero, u8s_take]
          unfold natI
          rw [List.map_take]) rfl rfl rfl ?_
        refine aops_append_nil tok rfl rfl rfl (.inl rfl) (by rw [u8s_len, natI_len]; exact (Nat.mul_one _).symm) (by simp [u8s, A.isCell]) rfl (by show _ * 1 ≤ _; rw [hbt]; omega) (by rw [hbt]; omega) rfl rfl fun ob1 cap1 => ?_
        refine aops_put rfl ?_
        repeat (refine aops_p tok rfl rfl rfl rfl ?_)
        refine aops_append tok 0 (m := other.length) (ds := u8s (natI other)) rfl rfl rfl (.inl rfl) rfl rfl (by rw [u8s_len, natI_len]; exact (Nat.mul_one _).symm) (by rw [u8s_len, natI_len]; exact (Nat.mul_one _).symm) (by simp [u8s, A.isCell]) rfl (by show _ * 1 ≤ _; rw [hbt]; omega) (by rw [hbt]; omega) rfl rfl fun ob2 cap2 => ?_
        repeat (first | refine aops_put rfl ?_ | refine aops_p tok rfl rfl rfl rfl ?_)
        refine aops_end ?_
        refine acode_pub0 27 1 rfl rfl (by rw [List.length_append, u8s_len, u8s_len, natI_len, natI_len, Nat.mul_one]) rfl ?_
        repeat (first | refine aops_p tok rfl rfl rfl rfl ?_ | refine acode_seq ?_ | refine acode_region ?_)
        refine aops_callx Try.func8 rfl rfl rfl rfl (hnx3 _) rfl rfl rfl ?_
        repeat' (first | refine aops_end ?_ | refine aops_pbt tok rfl (by first | omega | decide) rfl rfl rfl ?_ | refine aops_p tok rfl rfl rfl rfl ?_ | refine acode_seq ?_ | refine acode_region ?_)
        all_goals try (exfalso; omega)
        refine acode_ret ?_
        skip
        exact ⟨_, rfl, resOf_tmp rfl⟩
theorem scanLongest_calls (zs : List A) (h : GoodL T [22, 23, 23, 3] zs) : ACalls Try.prog 3 zs [] (fun r _ => r = .bool true) := by
  obtain ⟨_, _, rfl, ⟨f1, g1⟩, _, _, rfl, ⟨f2, g2⟩, _, _, rfl, ⟨f3, g3⟩, _, _, rfl, ⟨f4, g4⟩, rfl⟩ := h
  obtain ⟨l, rfl, hl, hlp⟩ := good_encs (g := fun s => A.str (strOfNums s)) (c := strC) (p := fun s : List Int => ∀ x ∈ s, 0 ≤ x ∧ x ≤ 255) (e := 9) rfl (fun f y hy => by
    obtain ⟨s, rfl, _⟩ := good_str rfl hy
    obtain ⟨xs, rfl, hb⟩ := str_nums s
    exact ⟨xs, rfl, hb⟩) (fun _ => rfl) g1
  obtain ⟨b, rfl, hb, hbw⟩ := good_bytes (e := 5) rfl rfl g2
  obtain ⟨o, rfl, ho, how⟩ := good_bytes (e := 5) rfl rfl g3
  obtain ⟨at_, rfl, hat⟩ := good_int (k := .i64) rfl g4
  obtain ⟨b', rfl, hb2⟩ := natI_of fun n hn => u8_rangeL (hbw n hn)
  obtain ⟨o', rfl, ho2⟩ := natI_of fun n hn => u8_rangeL (how n hn)
  rw [natI_len, natI_len]
  rw [natI_len] at hb ho
  exact longest_main (Nat.le_trans hl (by decide)) hlp (Nat.le_trans hb (by decide)) hb2 (Nat.le_trans ho (by decide)) ho2
end Go.Proofs.Ytobpbelgihilpaa.Ab

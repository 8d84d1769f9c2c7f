/- Chapter 25's small functions: the walk. No condition. -/
import Derived.Test.YtbnhmioijeagiaaTabA
import Derived.Test.YtbnhmioijeagiaaSpa1
import Derived.Test.YtbnhmioijeagiaaAbT
set_option linter.unusedVariables false
set_option linter.unusedSimpArgs false
namespace Go.Proofs.Ytbnhmioijeagiaa.Ab
attribute [local irreducible] thenA inBlockA ACode AOps put IntKind.wrap

def clF (l : List Int) (i : Int) : Int := if i < 0 ∨ i ≥ l.length then 0 else l.getD i.toNat 0
structure To where
  kind : Int
  at_ : Int
  len : Int
  look : Int
  mode : Int
def toC (t : To) : List A := [.int .i64 t.kind, .int .i64 t.at_, .int .i64 t.len, .int .i64 t.look, .int .i64 t.mode]
/-- What a painter knows: the rest of its grammar, its classes, its tokens. -/
structure Pa where
  a0 : A
  a1 : A
  a2 : A
  a3 : A
  a4 : A
  rc : List Int
  kc : List Int
  ts : List To
abbrev paM (p : Pa) (b : Nat) (ob : Option Nat) (cap : Nat) (l : List Sp) (M : List Ob) : List Ob :=
  ⟨some b, 9, [p.a0, p.a1, p.a2, p.a3, p.a4, .psl p.rc.length (ints p.rc), .psl p.kc.length (ints p.kc), .psl p.ts.length (encs toC p.ts), .own ob l.length cap]⟩ :: ⟨ob, cap * 3, encs spC l⟩ :: M
structure PaOk (p : Pa) : Prop where
  rc : p.rc.length ≤ 1000000
  kc : p.kc.length ≤ 1000000
  ts : p.ts.length ≤ 1000000
  tk : ∀ t ∈ p.ts, 0 ≤ t.at_ ∧ t.at_ ≤ 1000000 ∧ 0 ≤ t.len ∧ t.len ≤ 1000000

theorem cl_at {l : List Int} {i : Int} (h0 : 0 ≤ i) (h1 : i < l.length) : l[i.toNat]? = some (clF l i) := by
  rw [clF, if_neg (by omega), List.getD_eq_getElem?_getD, List.getElem?_eq_getElem (by omega)]; rfl
theorem at_calls {l : List Int} {i : Int} (hl : l.length ≤ 1000000) (M : List Ob) : ACalls Try.prog 78 [.psl l.length (ints l), .int .i64 i] M (fun r M' => r = .int .i64 (clF l i) ∧ M' = M) := by
  refine acalls_of_code 17 Try.func78 rfl rfl rfl ?_
  repeat' (first | refine aops_put rfl ?_ | refine aops_end ?_ | refine aops_endb ?_ | refine aops_o rfl rfl rfl ?_ | refine aops_max tok rfl rfl rfl rfl rfl rfl ?_ | refine aops_min tok rfl rfl rfl rfl rfl rfl ?_ | refine aops_a tok rfl (by omega) (by omega) rfl rfl rfl ?_ | (refine aops_pd tok rfl rfl rfl rfl ?_ ?_ <;> intro e_) | (refine aops_pe tok rfl rfl rfl rfl ?_ ?_ <;> intro e_) | (refine aops_pn tok rfl rfl rfl rfl ?_ ?_ <;> intro e_) | refine aops_p tok rfl rfl rfl rfl ?_ | refine acode_it rfl ?_ | refine acode_if rfl ?_ | refine aops_ixa tok rfl rfl rfl (by decide) rfl rfl rfl rfl ?_ | refine aops_ld tok 0 rfl rfl rfl rfl rfl rfl rfl rfl ?_ | refine aops_ld tok 1 rfl rfl rfl rfl rfl rfl rfl rfl ?_ | refine aops_stn tok rfl rfl rfl rfl rfl rfl rfl rfl rfl ?_ | refine aops_stn1 tok rfl rfl rfl rfl rfl rfl rfl rfl rfl ?_ | refine acode_seq ?_ | refine acode_region ?_ | refine acode_block ?_ | refine acode_skip ?_ | refine then_n ?_ | refine block_n ?_)
  · refine acode_ret ?_
    repeat (first | refine exit_then ?_ | refine exit_here ?_ | refine exit_out rfl ?_ | refine ret_then ?_ | refine ret_block ?_ | refine then_n ?_ | refine block_n ?_)
    exact ⟨.int .i64 (clF l i), ⟨rfl, rfl⟩, resOf_tmp (by show A.int _ _ = A.int _ _; unfold clF; rw [if_pos (by omega)])⟩
  · refine acode_ret ?_
    repeat (first | refine exit_then ?_ | refine exit_here ?_ | refine exit_out rfl ?_ | refine ret_then ?_ | refine ret_block ?_ | refine then_n ?_ | refine block_n ?_)
    exact ⟨.int .i64 (clF l i), ⟨rfl, rfl⟩, resOf_tmp (by show A.int _ _ = A.int _ _; unfold clF; rw [if_pos (by omega)])⟩
  · refine aops_ix tok [A.int .i64 (clF l i)] rfl rfl rfl rfl (by omega) (by omega) (by simp) (ints_at (cl_at (by omega) (by omega))) rfl rfl rfl ?_
    repeat (first | refine aops_put rfl ?_ | refine aops_end ?_ | refine aops_endb ?_ | refine aops_o rfl rfl rfl ?_ | refine aops_max tok rfl rfl rfl rfl rfl rfl ?_ | refine aops_min tok rfl rfl rfl rfl rfl rfl ?_ | refine aops_a tok rfl (by omega) (by omega) rfl rfl rfl ?_ | refine aops_p tok rfl rfl rfl rfl ?_ | refine aops_ixa tok rfl rfl rfl (by decide) rfl rfl rfl rfl ?_ | refine aops_ld tok 0 rfl rfl rfl rfl rfl rfl rfl rfl ?_ | refine aops_ld tok 1 rfl rfl rfl rfl rfl rfl rfl rfl ?_ | refine aops_stn tok rfl rfl rfl rfl rfl rfl rfl rfl rfl ?_ | refine aops_stn1 tok rfl rfl rfl rfl rfl rfl rfl rfl rfl ?_ | refine acode_seq ?_ | refine acode_region ?_ | refine acode_block ?_ | refine acode_skip ?_ | refine then_n ?_ | refine block_n ?_)
    refine acode_ret ?_
    repeat (first | refine exit_then ?_ | refine exit_here ?_ | refine exit_out rfl ?_ | refine ret_then ?_ | refine ret_block ?_ | refine then_n ?_ | refine block_n ?_)
    exact ⟨_, ⟨rfl, rfl⟩, resOf_tmp rfl⟩
theorem either_calls {c o : Int} (M : List Ob) : ACalls Try.prog 77 [.int .i64 c, .int .i64 o] M (fun r M' => r = .int .i64 (ei c o) ∧ M' = M) := by
  refine acalls_of_code 9 Try.func77 rfl rfl rfl ?_
  repeat' (first | refine aops_put rfl ?_ | refine aops_end ?_ | refine aops_endb ?_ | refine aops_o rfl rfl rfl ?_ | refine aops_max tok rfl rfl rfl rfl rfl rfl ?_ | refine aops_min tok rfl rfl rfl rfl rfl rfl ?_ | refine aops_a tok rfl (by omega) (by omega) rfl rfl rfl ?_ | (refine aops_pd tok rfl rfl rfl rfl ?_ ?_ <;> intro e_) | (refine aops_pe tok rfl rfl rfl rfl ?_ ?_ <;> intro e_) | (refine aops_pn tok rfl rfl rfl rfl ?_ ?_ <;> intro e_) | refine aops_p tok rfl rfl rfl rfl ?_ | refine acode_it rfl ?_ | refine acode_if rfl ?_ | refine aops_ixa tok rfl rfl rfl (by decide) rfl rfl rfl rfl ?_ | refine aops_ld tok 0 rfl rfl rfl rfl rfl rfl rfl rfl ?_ | refine aops_ld tok 1 rfl rfl rfl rfl rfl rfl rfl rfl ?_ | refine aops_stn tok rfl rfl rfl rfl rfl rfl rfl rfl rfl ?_ | refine aops_stn1 tok rfl rfl rfl rfl rfl rfl rfl rfl rfl ?_ | refine acode_seq ?_ | refine acode_region ?_ | refine acode_block ?_ | refine acode_skip ?_ | refine then_n ?_ | refine block_n ?_)
  · refine acode_ret ?_
    repeat (first | refine exit_then ?_ | refine exit_here ?_ | refine exit_out rfl ?_ | refine ret_then ?_ | refine ret_block ?_ | refine then_n ?_ | refine block_n ?_)
    exact ⟨.int .i64 (ei c o), ⟨rfl, rfl⟩, resOf_tmp (by show A.int _ _ = A.int _ _; unfold ei; rw [if_pos e_])⟩
  · refine acode_ret ?_
    repeat (first | refine exit_then ?_ | refine exit_here ?_ | refine exit_out rfl ?_ | refine ret_then ?_ | refine ret_block ?_ | refine then_n ?_ | refine block_n ?_)
    exact ⟨.int .i64 (ei c o), ⟨rfl, rfl⟩, resOf_tmp (by show A.int _ _ = A.int _ _; unfold ei; rw [if_neg e_])⟩
theorem kind_calls {p : Pa} (hp : PaOk p) {t : To} (b : Nat) (ob : Option Nat) (cap : Nat) (l : List Sp) (M : List Ob) : ACalls Try.prog 65 [.ref b 0, .agg (toC t)] (paM p b ob cap l M) (fun r M' => r = .int .i64 (clF p.kc t.kind) ∧ M' = paM p b ob cap l M) := by
  refine acalls_of_code 13 Try.func65 rfl rfl rfl ?_
  repeat (first | refine aops_put rfl ?_ | refine aops_end ?_ | refine aops_endb ?_ | refine aops_o rfl rfl rfl ?_ | refine aops_max tok rfl rfl rfl rfl rfl rfl ?_ | refine aops_min tok rfl rfl rfl rfl rfl rfl ?_ | refine aops_a tok rfl (by omega) (by omega) rfl rfl rfl ?_ | refine aops_p tok rfl rfl rfl rfl ?_ | refine aops_ixa tok rfl rfl rfl (by decide) rfl rfl rfl rfl ?_ | refine aops_ld tok 0 rfl rfl rfl rfl rfl rfl rfl rfl ?_ | refine aops_ld tok 1 rfl rfl rfl rfl rfl rfl rfl rfl ?_ | refine aops_stn tok rfl rfl rfl rfl rfl rfl rfl rfl rfl ?_ | refine aops_stn1 tok rfl rfl rfl rfl rfl rfl rfl rfl rfl ?_ | refine acode_seq ?_ | refine acode_region ?_ | refine acode_block ?_ | refine acode_skip ?_ | refine then_n ?_ | refine block_n ?_)
  refine aops_boxf rfl rfl rfl rfl rfl rfl rfl ?_
  repeat (first | refine aops_put rfl ?_ | refine aops_end ?_ | refine aops_endb ?_ | refine aops_o rfl rfl rfl ?_ | refine aops_max tok rfl rfl rfl rfl rfl rfl ?_ | refine aops_min tok rfl rfl rfl rfl rfl rfl ?_ | refine aops_a tok rfl (by omega) (by omega) rfl rfl rfl ?_ | refine aops_p tok rfl rfl rfl rfl ?_ | refine aops_ixa tok rfl rfl rfl (by decide) rfl rfl rfl rfl ?_ | refine aops_ld tok 0 rfl rfl rfl rfl rfl rfl rfl rfl ?_ | refine aops_ld tok 1 rfl rfl rfl rfl rfl rfl rfl rfl ?_ | refine aops_stn tok rfl rfl rfl rfl rfl rfl rfl rfl rfl ?_ | refine aops_stn1 tok rfl rfl rfl rfl rfl rfl rfl rfl rfl ?_ | refine acode_seq ?_ | refine acode_region ?_ | refine acode_block ?_ | refine acode_skip ?_ | refine then_n ?_ | refine block_n ?_)
  refine acode_drawT 8 mixed (by kernel_rfl) (by kernel_rfl) ?_
  repeat (first | refine seqT_put rfl ?_ | refine seqT_o rfl rfl rfl ?_ | refine seqT_max tok rfl rfl rfl rfl rfl rfl ?_ | refine seqT_min tok rfl rfl rfl rfl rfl rfl ?_ | refine seqT_a tok rfl (by omega) (by omega) rfl rfl rfl ?_ | refine seqT_p tok rfl rfl rfl rfl ?_ | refine seqT_ixa tok rfl rfl rfl (by decide) rfl rfl rfl rfl ?_ | refine seqT_ld tok 0 rfl rfl rfl rfl rfl rfl rfl rfl ?_ | refine seqT_ld tok 1 rfl rfl rfl rfl rfl rfl rfl rfl ?_)
  refine seqT_call _ Try.func78 rfl rfl rfl rfl (at_calls hp.kc _) rfl rfl rfl ?_
  refine SeqT.done ?_
  repeat (first | refine aops_put rfl ?_ | refine aops_end ?_ | refine aops_endb ?_ | refine aops_o rfl rfl rfl ?_ | refine aops_max tok rfl rfl rfl rfl rfl rfl ?_ | refine aops_min tok rfl rfl rfl rfl rfl rfl ?_ | refine aops_a tok rfl (by omega) (by omega) rfl rfl rfl ?_ | refine aops_p tok rfl rfl rfl rfl ?_ | refine aops_ixa tok rfl rfl rfl (by decide) rfl rfl rfl rfl ?_ | refine aops_ld tok 0 rfl rfl rfl rfl rfl rfl rfl rfl ?_ | refine aops_ld tok 1 rfl rfl rfl rfl rfl rfl rfl rfl ?_ | refine aops_stn tok rfl rfl rfl rfl rfl rfl rfl rfl rfl ?_ | refine aops_stn1 tok rfl rfl rfl rfl rfl rfl rfl rfl rfl ?_ | refine acode_seq ?_ | refine acode_region ?_ | refine acode_block ?_ | refine acode_skip ?_ | refine then_n ?_ | refine block_n ?_)
  refine acode_ret ?_
  repeat (first | refine exit_then ?_ | refine exit_here ?_ | refine exit_out rfl ?_ | refine ret_then ?_ | refine ret_block ?_ | refine then_n ?_ | refine block_n ?_)
  exact ⟨_, ⟨rfl, rfl⟩, resOf_tmp rfl⟩
def byC (x : Int × Int × Bool) : List A := [.int .i64 x.1, .int .i64 x.2.1, .bool x.2.2]
def tokF (ts : List To) (i : Int) : Int × Int × Bool := if i < 0 ∨ i ≥ ts.length then (0, 0, false) else match ts[i.toNat]? with
  | some t => (t.at_, t.at_ + t.len, true)
  | none => (0, 0, false)
theorem to_at {l : List To} {i : Nat} {x : To} (h : l[i]? = some x) : toC x <+: (encs toC l).drop (i * 5) := encs_at (e := toC) (s := 5) (fun _ => rfl) h
set_option maxHeartbeats 2000000 in
theorem token_calls {p : Pa} (hp : PaOk p) {i : Int} (b : Nat) (ob : Option Nat) (cap : Nat) (l : List Sp) (M : List Ob) : ACalls Try.prog 79 [.ref b 0, .int .i64 i] (paM p b ob cap l M) (fun r M' => r = .agg (byC (tokF p.ts i)) ∧ M' = paM p b ob cap l M) := by
  refine acalls_of_code 43 Try.func79 rfl rfl rfl ?_
  repeat (first | refine aops_put rfl ?_ | refine aops_end ?_ | refine aops_endb ?_ | refine aops_o rfl rfl rfl ?_ | refine aops_max tok rfl rfl rfl rfl rfl rfl ?_ | refine aops_min tok rfl rfl rfl rfl rfl rfl ?_ | refine aops_a tok rfl (by omega) (by omega) rfl rfl rfl ?_ | refine aops_p tok rfl rfl rfl rfl ?_ | refine aops_ixa tok rfl rfl rfl (by decide) rfl rfl rfl rfl ?_ | refine aops_ld tok 0 rfl rfl rfl rfl rfl rfl rfl rfl ?_ | refine aops_ld tok 1 rfl rfl rfl rfl rfl rfl rfl rfl ?_ | refine aops_stn tok rfl rfl rfl rfl rfl rfl rfl rfl rfl ?_ | refine aops_stn1 tok rfl rfl rfl rfl rfl rfl rfl rfl rfl ?_ | refine acode_seq ?_ | refine acode_region ?_ | refine acode_block ?_ | refine acode_skip ?_ | refine then_n ?_ | refine block_n ?_)
  refine aops_alloc tok rfl rfl rfl rfl rfl rfl fun br => ?_
  repeat' (first | refine aops_put rfl ?_ | refine aops_end ?_ | refine aops_endb ?_ | refine aops_o rfl rfl rfl ?_ | refine aops_max tok rfl rfl rfl rfl rfl rfl ?_ | refine aops_min tok rfl rfl rfl rfl rfl rfl ?_ | refine aops_a tok rfl (by omega) (by omega) rfl rfl rfl ?_ | (refine aops_pd tok rfl rfl rfl rfl ?_ ?_ <;> intro e_) | (refine aops_pe tok rfl rfl rfl rfl ?_ ?_ <;> intro e_) | (refine aops_pn tok rfl rfl rfl rfl ?_ ?_ <;> intro e_) | refine aops_p tok rfl rfl rfl rfl ?_ | refine acode_it rfl ?_ | refine acode_if rfl ?_ | refine aops_ixa tok rfl rfl rfl (by decide) rfl rfl rfl rfl ?_ | refine aops_ld tok 0 rfl rfl rfl rfl rfl rfl rfl rfl ?_ | refine aops_ld tok 1 rfl rfl rfl rfl rfl rfl rfl rfl ?_ | refine aops_stn tok rfl rfl rfl rfl rfl rfl rfl rfl rfl ?_ | refine aops_stn1 tok rfl rfl rfl rfl rfl rfl rfl rfl rfl ?_ | refine acode_seq ?_ | refine acode_region ?_ | refine acode_block ?_ | refine acode_skip ?_ | refine then_n ?_ | refine block_n ?_)
  · refine acode_pubref0 4 rfl ?_
    refine acode_ret ?_
    repeat (first | refine exit_then ?_ | refine exit_here ?_ | refine exit_out rfl ?_ | refine ret_then ?_ | refine ret_block ?_ | refine then_n ?_ | refine block_n ?_)
    exact ⟨.agg (byC (tokF p.ts i)), ⟨rfl, rfl⟩, by unfold tokF; rw [if_pos (by omega)]; exact resOf_pp tok rfl rfl rfl⟩
  · refine acode_pubref0 4 rfl ?_
    refine acode_ret ?_
    repeat (first | refine exit_then ?_ | refine exit_here ?_ | refine exit_out rfl ?_ | refine ret_then ?_ | refine ret_block ?_ | refine then_n ?_ | refine block_n ?_)
    exact ⟨.agg (byC (tokF p.ts i)), ⟨rfl, rfl⟩, by unfold tokF; rw [if_pos (by omega)]; exact resOf_pp tok rfl rfl rfl⟩
  · have hil : i.toNat < p.ts.length := by omega
    obtain ⟨t, ht⟩ : ∃ t, p.ts[i.toNat]? = some t := ⟨p.ts[i.toNat], List.getElem?_eq_getElem hil⟩
    obtain ⟨t1, t2, t3, t4⟩ := hp.tk t (List.mem_of_getElem? ht)
    refine acode_drawT 26 mixed (by kernel_rfl) (by kernel_rfl) ?_
    repeat (first | refine seqT_put rfl ?_ | refine seqT_o rfl rfl rfl ?_ | refine seqT_max tok rfl rfl rfl rfl rfl rfl ?_ | refine seqT_min tok rfl rfl rfl rfl rfl rfl ?_ | refine seqT_a tok rfl (by omega) (by omega) rfl rfl rfl ?_ | refine seqT_p tok rfl rfl rfl rfl ?_ | refine seqT_ixa tok rfl rfl rfl (by decide) rfl rfl rfl rfl ?_ | refine seqT_ld tok 0 rfl rfl rfl rfl rfl rfl rfl rfl ?_ | refine seqT_ld tok 1 rfl rfl rfl rfl rfl rfl rfl rfl ?_)
    refine seqT_ix tok (toC t) rfl rfl rfl rfl (by omega) (by omega) (by simp [toC]) (to_at ht) rfl rfl rfl ?_
    repeat (first | refine seqT_put rfl ?_ | refine seqT_o rfl rfl rfl ?_ | refine seqT_max tok rfl rfl rfl rfl rfl rfl ?_ | refine seqT_min tok rfl rfl rfl rfl rfl rfl ?_ | refine seqT_a tok rfl (by omega) (by omega) rfl rfl rfl ?_ | refine seqT_p tok rfl rfl rfl rfl ?_ | refine seqT_ixa tok rfl rfl rfl (by decide) rfl rfl rfl rfl ?_ | refine seqT_ld tok 0 rfl rfl rfl rfl rfl rfl rfl rfl ?_ | refine seqT_ld tok 1 rfl rfl rfl rfl rfl rfl rfl rfl ?_)
    refine seqT_ix tok (toC t) rfl rfl rfl rfl (by omega) (by omega) (by simp [toC]) (to_at ht) rfl rfl rfl ?_
    repeat (first | refine seqT_put rfl ?_ | refine seqT_o rfl rfl rfl ?_ | refine seqT_max tok rfl rfl rfl rfl rfl rfl ?_ | refine seqT_min tok rfl rfl rfl rfl rfl rfl ?_ | refine seqT_a tok rfl (by omega) (by omega) rfl rfl rfl ?_ | refine seqT_p tok rfl rfl rfl rfl ?_ | refine seqT_ixa tok rfl rfl rfl (by decide) rfl rfl rfl rfl ?_ | refine seqT_ld tok 0 rfl rfl rfl rfl rfl rfl rfl rfl ?_ | refine seqT_ld tok 1 rfl rfl rfl rfl rfl rfl rfl rfl ?_)
    refine seqT_ix tok (toC t) rfl rfl rfl rfl (by omega) (by omega) (by simp [toC]) (to_at ht) rfl rfl rfl ?_
    repeat (first | refine seqT_put rfl ?_ | refine seqT_o rfl rfl rfl ?_ | refine seqT_max tok rfl rfl rfl rfl rfl rfl ?_ | refine seqT_min tok rfl rfl rfl rfl rfl rfl ?_ | refine seqT_a tok rfl (by omega) (by omega) rfl rfl rfl ?_ | refine seqT_p tok rfl rfl rfl rfl ?_ | refine seqT_ixa tok rfl rfl rfl (by decide) rfl rfl rfl rfl ?_ | refine seqT_ld tok 0 rfl rfl rfl rfl rfl rfl rfl rfl ?_ | refine seqT_ld tok 1 rfl rfl rfl rfl rfl rfl rfl rfl ?_)
    refine SeqT.done ?_
    refine aops_stn tok rfl rfl rfl rfl rfl rfl rfl rfl rfl ?_
    refine aops_pubref0 4 rfl ?_
    repeat (first | refine aops_put rfl ?_ | refine aops_end ?_ | refine aops_endb ?_ | refine aops_o rfl rfl rfl ?_ | refine aops_max tok rfl rfl rfl rfl rfl rfl ?_ | refine aops_min tok rfl rfl rfl rfl rfl rfl ?_ | refine aops_a tok rfl (by omega) (by omega) rfl rfl rfl ?_ | refine aops_p tok rfl rfl rfl rfl ?_ | refine aops_ixa tok rfl rfl rfl (by decide) rfl rfl rfl rfl ?_ | refine aops_ld tok 0 rfl rfl rfl rfl rfl rfl rfl rfl ?_ | refine aops_ld tok 1 rfl rfl rfl rfl rfl rfl rfl rfl ?_ | refine aops_stn tok rfl rfl rfl rfl rfl rfl rfl rfl rfl ?_ | refine aops_stn1 tok rfl rfl rfl rfl rfl rfl rfl rfl rfl ?_ | refine acode_seq ?_ | refine acode_region ?_ | refine acode_block ?_ | refine acode_skip ?_ | refine then_n ?_ | refine block_n ?_)
    refine acode_ret ?_
    repeat (first | refine exit_then ?_ | refine exit_here ?_ | refine exit_out rfl ?_ | refine ret_then ?_ | refine ret_block ?_ | refine then_n ?_ | refine block_n ?_)
    exact ⟨.agg (byC (tokF p.ts i)), ⟨rfl, rfl⟩, by unfold tokF; rw [if_neg (by omega), ht]; exact resOf_pp tok rfl rfl rfl⟩
/-- One of a row laid otherwise. -/
theorem encs_set {α : Type} {e : α → List A} {s : Nat} (hs : ∀ x, (e x).length = s) {r : Nat} {y : A} (hr : r < s) : ∀ (l : List α) (i : Nat) (x x' : α), l[i]? = some x → e x' = (e x).set r y → (encs e l).take (i * s + r) ++ ([y] ++ (encs e l).drop (i * s + r + 1)) = encs e (l.set i x')
  | [], i, x, x', h, _ => by simp at h
  | z :: l, 0, x, x', h, hx => by
    simp at h; subst h
    simp only [encs, List.flatMap_cons, Nat.zero_mul, Nat.zero_add, List.set_cons_zero]
    rw [hx, List.take_append_of_le_length (by rw [hs]; omega), List.drop_append_of_le_length (by rw [hs]; omega), List.set_eq_take_append_cons_drop, if_pos (by rw [hs]; exact hr)]
    simp
  | z :: l, i + 1, x, x', h, hx => by
    simp at h
    have h1 := encs_set hs hr l i x x' h hx
    simp only [encs, List.flatMap_cons, List.set_cons_succ] at h1 ⊢
    rw [← h1, show (i + 1) * s + r = s + (i * s + r) from by rw [Nat.add_mul]; omega]
    rw [List.take_append, List.take_of_length_le (by rw [hs]; omega), hs, Nat.add_sub_cancel_left, Nat.add_assoc, List.drop_append, List.drop_eq_nil_of_le (by rw [hs]; omega), hs, Nat.add_sub_cancel_left]
    simp
theorem set_last {α : Type} : ∀ {l : List α} {k : Nat} (x : α), l.length = k + 1 → l.set k x = l.dropLast ++ [x]
  | [a], 0, x, _ => rfl
  | a :: b :: l, k + 1, x, h => by
    have := set_last (l := b :: l) (k := k) x (by simpa using h)
    rw [List.set_cons_succ, this]; rfl
  | [], _, _, h => by simp at h
  | [_], _ + 1, _, h => by simp at h
  | _ :: _ :: _, 0, _, h => by simp at h
theorem putF_join {l : List Sp} {k : Nat} {s : Sp} {fr to c : Int} (hk : l.length = k + 1) (hs : l.getLast? = some s) (h0 : ¬ (fr ≥ to ∨ c ≤ 0)) (h1 : s.to = fr ∧ s.cl = c) : putF l fr to c = l.set k ⟨s.fr, to, s.cl⟩ := by
  unfold putF
  rw [if_neg h0, hs, set_last _ hk]
  simp only
  rw [if_pos h1]
theorem putF_more {l : List Sp} {fr to c : Int} (h0 : ¬ (fr ≥ to ∨ c ≤ 0)) (h1 : ∀ s, l.getLast? = some s → ¬ (s.to = fr ∧ s.cl = c)) : putF l fr to c = l ++ [⟨fr, to, c⟩] := by
  unfold putF
  rw [if_neg h0]
  cases hs : l.getLast? with
  | none =>
    have : l = [] := by simpa using hs
    subst this; rfl
  | some s =>
    simp only
    rw [if_neg (h1 s hs)]
set_option maxHeartbeats 4000000 in
theorem put_calls {p : Pa} {fr to c : Int} (b : Nat) (ob : Option Nat) (cap : Nat) {l : List Sp} (hl : l.length ≤ 1000000) (M : List Ob) : ACalls Try.prog 64 [.ref b 0, .int .i64 fr, .int .i64 to, .int .i64 c] (paM p b ob cap l M) (fun r M' => r = .tup [] ∧ ∃ ob' cap', M' = paM p b ob' cap' (putF l fr to c) M) := by
  refine acalls_of_code 71 Try.func64 rfl rfl rfl ?_
  repeat' (first | refine aops_put rfl ?_ | refine aops_end ?_ | refine aops_endb ?_ | refine aops_o rfl rfl rfl ?_ | refine aops_max tok rfl rfl rfl rfl rfl rfl ?_ | refine aops_min tok rfl rfl rfl rfl rfl rfl ?_ | refine aops_a tok rfl (by omega) (by omega) rfl rfl rfl ?_ | (refine aops_pd tok rfl rfl rfl rfl ?_ ?_ <;> intro e_) | (refine aops_pe tok rfl rfl rfl rfl ?_ ?_ <;> intro e_) | (refine aops_pn tok rfl rfl rfl rfl ?_ ?_ <;> intro e_) | refine aops_p tok rfl rfl rfl rfl ?_ | refine acode_it rfl ?_ | refine acode_if rfl ?_ | refine aops_ixa tok rfl rfl rfl (by decide) rfl rfl rfl rfl ?_ | refine aops_ld tok 0 rfl rfl rfl rfl rfl rfl rfl rfl ?_ | refine aops_ld tok 1 rfl rfl rfl rfl rfl rfl rfl rfl ?_ | refine aops_stn tok rfl rfl rfl rfl rfl rfl rfl rfl rfl ?_ | refine aops_stn1 tok rfl rfl rfl rfl rfl rfl rfl rfl rfl ?_ | refine acode_seq ?_ | refine acode_region ?_ | refine acode_block ?_ | refine acode_skip ?_ | refine then_n ?_ | refine block_n ?_)
  · refine acode_ret ?_
    repeat (first | refine exit_then ?_ | refine exit_here ?_ | refine exit_out rfl ?_ | refine ret_then ?_ | refine ret_block ?_ | refine then_n ?_ | refine block_n ?_)
    exact ⟨.tup [], ⟨rfl, ob, cap, by unfold putF; rw [if_pos (by omega)]⟩, rfl⟩
  · refine acode_ret ?_
    repeat (first | refine exit_then ?_ | refine exit_here ?_ | refine exit_out rfl ?_ | refine ret_then ?_ | refine ret_block ?_ | refine then_n ?_ | refine block_n ?_)
    exact ⟨.tup [], ⟨rfl, ob, cap, by unfold putF; rw [if_pos (by omega)]⟩, rfl⟩
  -- the last one, if there is one
  · rename_i hlast
    obtain ⟨k, hk⟩ : ∃ k, l.length = k + 1 := ⟨l.length - 1, by omega⟩
    obtain ⟨s, hs⟩ : ∃ s, l[k]? = some s := ⟨l[k]'(by omega), List.getElem?_eq_getElem (by omega)⟩
    have hgl : l.getLast? = some s := by rw [List.getLast?_eq_getElem?, hk]; exact hs
    have hoff : ((l.length : Int) - 1).toNat = k := by omega
    have hat : ∀ r, r < 3 → (encs spC l)[((l.length : Int) - 1).toNat * 3 + r]? = (spC s)[r]? := fun r hr => by rw [hoff]; exact encs_get (e := spC) (s := 3) (fun _ => rfl) l k r s hs hr
    refine aops_somedM 0 8 rfl rfl (by omega) fun bO hbO => ?_
    subst hbO
    refine aops_ixo tok rfl rfl rfl rfl (by omega) (by omega) rfl rfl rfl ?_
    refine aops_p tok rfl rfl rfl rfl ?_
    refine aops_ld tok 1 (y := .int .i64 s.to) rfl rfl rfl rfl (by rw [headed_eq]; exact hat 1 (by decide)) rfl rfl rfl ?_
    repeat' (first | refine aops_put rfl ?_ | refine aops_end ?_ | refine aops_endb ?_ | refine aops_o rfl rfl rfl ?_ | refine aops_max tok rfl rfl rfl rfl rfl rfl ?_ | refine aops_min tok rfl rfl rfl rfl rfl rfl ?_ | refine aops_a tok rfl (by omega) (by omega) rfl rfl rfl ?_ | (refine aops_pd tok rfl rfl rfl rfl ?_ ?_ <;> intro e_) | (refine aops_pe tok rfl rfl rfl rfl ?_ ?_ <;> intro e_) | (refine aops_pn tok rfl rfl rfl rfl ?_ ?_ <;> intro e_) | refine aops_p tok rfl rfl rfl rfl ?_ | refine acode_it rfl ?_ | refine acode_if rfl ?_ | refine aops_ixa tok rfl rfl rfl (by decide) rfl rfl rfl rfl ?_ | refine aops_ld tok 0 rfl rfl rfl rfl rfl rfl rfl rfl ?_ | refine aops_ld tok 1 rfl rfl rfl rfl rfl rfl rfl rfl ?_ | refine aops_stn tok rfl rfl rfl rfl rfl rfl rfl rfl rfl ?_ | refine aops_stn1 tok rfl rfl rfl rfl rfl rfl rfl rfl rfl ?_ | refine acode_seq ?_ | refine acode_region ?_ | refine acode_block ?_ | refine acode_skip ?_ | refine then_n ?_ | refine block_n ?_)
    · have hto := e_
      refine aops_ixo tok rfl rfl rfl rfl (by omega) (by omega) rfl rfl rfl ?_
      refine aops_p tok rfl rfl rfl rfl ?_
      refine aops_ld tok 1 (y := .int .i64 s.cl) rfl rfl rfl rfl (by rw [headed_eq]; exact hat 2 (by decide)) rfl rfl rfl ?_
      repeat' (first | refine aops_put rfl ?_ | refine aops_end ?_ | refine aops_endb ?_ | refine aops_o rfl rfl rfl ?_ | refine aops_max tok rfl rfl rfl rfl rfl rfl ?_ | refine aops_min tok rfl rfl rfl rfl rfl rfl ?_ | refine aops_a tok rfl (by omega) (by omega) rfl rfl rfl ?_ | (refine aops_pd tok rfl rfl rfl rfl ?_ ?_ <;> intro e_) | (refine aops_pe tok rfl rfl rfl rfl ?_ ?_ <;> intro e_) | (refine aops_pn tok rfl rfl rfl rfl ?_ ?_ <;> intro e_) | refine aops_p tok rfl rfl rfl rfl ?_ | refine acode_it rfl ?_ | refine acode_if rfl ?_ | refine aops_ixa tok rfl rfl rfl (by decide) rfl rfl rfl rfl ?_ | refine aops_ld tok 0 rfl rfl rfl rfl rfl rfl rfl rfl ?_ | refine aops_ld tok 1 rfl rfl rfl rfl rfl rfl rfl rfl ?_ | refine aops_stn tok rfl rfl rfl rfl rfl rfl rfl rfl rfl ?_ | refine aops_stn1 tok rfl rfl rfl rfl rfl rfl rfl rfl rfl ?_ | refine acode_seq ?_ | refine acode_region ?_ | refine acode_block ?_ | refine acode_skip ?_ | refine then_n ?_ | refine block_n ?_)
      · have hj := putF_join (fr := fr) (to := to) (c := c) hk hgl (by omega) ⟨hto, e_⟩
        refine aops_ixo tok rfl rfl rfl rfl (by omega) (by omega) rfl rfl rfl ?_
        refine aops_p tok rfl rfl rfl rfl ?_
        refine aops_stk tok 1 (encs spC (l.set k ⟨s.fr, to, s.cl⟩)) _ rfl rfl rfl rfl rfl rfl (by rw [encs_len (e := spC) (s := 3) (fun _ => rfl) l, hk]; show (((k + 1 : Nat) : Int) - 1).toNat * 3 + 1 + 1 ≤ _; omega) (by
          have := encs_set (e := spC) (s := 3) (fun _ => rfl) (r := 1) (y := .int .i64 to) (by decide) l k s ⟨s.fr, to, s.cl⟩ hs rfl
          rw [← hoff] at this
          exact this.trans (by rw [hoff])) rfl rfl rfl ?_
        repeat (first | refine aops_put rfl ?_ | refine aops_end ?_ | refine aops_endb ?_ | refine aops_o rfl rfl rfl ?_ | refine aops_max tok rfl rfl rfl rfl rfl rfl ?_ | refine aops_min tok rfl rfl rfl rfl rfl rfl ?_ | refine aops_a tok rfl (by omega) (by omega) rfl rfl rfl ?_ | refine aops_p tok rfl rfl rfl rfl ?_ | refine aops_ixa tok rfl rfl rfl (by decide) rfl rfl rfl rfl ?_ | refine aops_ld tok 0 rfl rfl rfl rfl rfl rfl rfl rfl ?_ | refine aops_ld tok 1 rfl rfl rfl rfl rfl rfl rfl rfl ?_ | refine aops_stn tok rfl rfl rfl rfl rfl rfl rfl rfl rfl ?_ | refine aops_stn1 tok rfl rfl rfl rfl rfl rfl rfl rfl rfl ?_ | refine acode_seq ?_ | refine acode_region ?_ | refine acode_block ?_ | refine acode_skip ?_ | refine then_n ?_ | refine block_n ?_)
        refine acode_ret ?_
        repeat (first | refine exit_then ?_ | refine exit_here ?_ | refine exit_out rfl ?_ | refine ret_then ?_ | refine ret_block ?_ | refine then_n ?_ | refine block_n ?_)
        exact ⟨.tup [], ⟨rfl, some bO, cap, by rw [hj]; simp only [paM, List.length_set]; rfl⟩, rfl⟩
      · skip
        refine aops_litn tok rfl rfl rfl rfl rfl rfl rfl ?_
        refine aops_append tok 1 (m := 1) rfl rfl rfl (.inl rfl) rfl rfl (encs_len (e := spC) (s := 3) (fun _ => rfl) l) rfl rfl rfl (by show _ * 24 ≤ _; omega) (by omega) rfl rfl fun ob' cap' => ?_
        repeat (first | refine aops_put rfl ?_ | refine aops_o rfl rfl rfl ?_ | refine aops_max tok rfl rfl rfl rfl rfl rfl ?_ | refine aops_min tok rfl rfl rfl rfl rfl rfl ?_ | refine aops_a tok rfl (by omega) (by omega) rfl rfl rfl ?_ | refine aops_p tok rfl rfl rfl rfl ?_ | refine aops_ixa tok rfl rfl rfl (by decide) rfl rfl rfl rfl ?_ | refine aops_ld tok 0 rfl rfl rfl rfl rfl rfl rfl rfl ?_ | refine aops_ld tok 1 rfl rfl rfl rfl rfl rfl rfl rfl ?_ | refine aops_stn tok rfl rfl rfl rfl rfl rfl rfl rfl rfl ?_ | refine aops_stn1 tok rfl rfl rfl rfl rfl rfl rfl rfl rfl ?_)
        refine aops_nil ?_
        exact ⟨.tup [], ⟨rfl, ob', cap', by
          have e : putF l fr to c = l ++ [⟨fr, to, c⟩] := putF_more (by omega) (fun s' hs' h => by rw [hgl] at hs'; cases hs'; exact e_ h.2)
          rw [e]; simp only [paM, encs_app, List.length_append]; rfl⟩, rfl⟩
    · skip
      refine aops_litn tok rfl rfl rfl rfl rfl rfl rfl ?_
      refine aops_append tok 1 (m := 1) rfl rfl rfl (.inl rfl) rfl rfl (encs_len (e := spC) (s := 3) (fun _ => rfl) l) rfl rfl rfl (by show _ * 24 ≤ _; omega) (by omega) rfl rfl fun ob' cap' => ?_
      repeat (first | refine aops_put rfl ?_ | refine aops_o rfl rfl rfl ?_ | refine aops_max tok rfl rfl rfl rfl rfl rfl ?_ | refine aops_min tok rfl rfl rfl rfl rfl rfl ?_ | refine aops_a tok rfl (by omega) (by omega) rfl rfl rfl ?_ | refine aops_p tok rfl rfl rfl rfl ?_ | refine aops_ixa tok rfl rfl rfl (by decide) rfl rfl rfl rfl ?_ | refine aops_ld tok 0 rfl rfl rfl rfl rfl rfl rfl rfl ?_ | refine aops_ld tok 1 rfl rfl rfl rfl rfl rfl rfl rfl ?_ | refine aops_stn tok rfl rfl rfl rfl rfl rfl rfl rfl rfl ?_ | refine aops_stn1 tok rfl rfl rfl rfl rfl rfl rfl rfl rfl ?_)
      refine aops_nil ?_
      exact ⟨.tup [], ⟨rfl, ob', cap', by
        have e : putF l fr to c = l ++ [⟨fr, to, c⟩] := putF_more (by omega) (fun s' hs' h => by rw [hgl] at hs'; cases hs'; exact e_ h.1)
        rw [e]; simp only [paM, encs_app, List.length_append]; rfl⟩, rfl⟩
  · have h0 : l = [] := List.eq_nil_of_length_eq_zero (by omega)
    refine aops_litn tok rfl rfl rfl rfl rfl rfl rfl ?_
    refine aops_append tok 1 (m := 1) rfl rfl rfl (.inl rfl) rfl rfl (encs_len (e := spC) (s := 3) (fun _ => rfl) l) rfl rfl rfl (by show _ * 24 ≤ _; omega) (by omega) rfl rfl fun ob' cap' => ?_
    repeat (first | refine aops_put rfl ?_ | refine aops_o rfl rfl rfl ?_ | refine aops_max tok rfl rfl rfl rfl rfl rfl ?_ | refine aops_min tok rfl rfl rfl rfl rfl rfl ?_ | refine aops_a tok rfl (by omega) (by omega) rfl rfl rfl ?_ | refine aops_p tok rfl rfl rfl rfl ?_ | refine aops_ixa tok rfl rfl rfl (by decide) rfl rfl rfl rfl ?_ | refine aops_ld tok 0 rfl rfl rfl rfl rfl rfl rfl rfl ?_ | refine aops_ld tok 1 rfl rfl rfl rfl rfl rfl rfl rfl ?_ | refine aops_stn tok rfl rfl rfl rfl rfl rfl rfl rfl rfl ?_ | refine aops_stn1 tok rfl rfl rfl rfl rfl rfl rfl rfl rfl ?_)
    refine aops_nil ?_
    exact ⟨.tup [], ⟨rfl, ob', cap', by
      have e : putF l fr to c = l ++ [⟨fr, to, c⟩] := putF_more (by omega) (fun s' hs' h => by subst h0; simp at hs')
      rw [e]; simp only [paM, encs_app, List.length_append]; rfl⟩, rfl⟩
end Go.Proofs.Ytbnhmioijeagiaa.Ab

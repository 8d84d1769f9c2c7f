/- Chapter 25's measure: the walk. No condition. -/
import Derived.Test.YtbnhmioijeagiaaSpa2
set_option linter.unusedVariables false
set_option linter.unusedSimpArgs false
namespace Go.Proofs.Ytbnhmioijeagiaa.Ab
attribute [local irreducible] thenA inBlockA ACode AOps put IntKind.wrap

/-- A tree that has bytes: its rule, its token, its kids as trees and as measured ones. -/
structure It where
  r : Int
  tk : Int
  kn : Nat
  kt : List A
  km : List A
  fr : Int
  to : Int
def itT (x : It) : List A := [.int .i64 x.r, .int .i64 x.tk, .psl x.kn x.kt]
def itM (x : It) : List A := [.int .i64 x.r, .int .i64 x.tk, .psl x.kn x.kt, .int .i64 x.fr, .int .i64 x.to, .bool true, .psl x.kn x.km]
theorem itT_at {l : List It} {i : Nat} {x : It} (h : l[i]? = some x) : itT x <+: (encs itT l).drop (i * 3) := encs_at (e := itT) (s := 3) (fun _ => rfl) h
theorem itM_at {l : List It} {i : Nat} {x : It} (h : l[i]? = some x) : itM x <+: (encs itM l).drop (i * 7) := encs_at (e := itM) (s := 7) (fun _ => rfl) h
section
variable {P : Program} {T : List TI} {N : Nat} {ops : Array Oper} {Q : Exit → St → Prop} {E : Env} {M : List Ob}
theorem aops_rot22 {l : List Oper} {a b c d : Ob} (next : AOps P N ops l Q ⟨E, c :: d :: a :: b :: M⟩) : AOps P N ops l Q ⟨E, a :: b :: c :: d :: M⟩ :=
  aops_perm _ (List.perm_append_comm_assoc [a, b] [c, d] M) next
theorem aops_rot32 {l : List Oper} {a b c d e : Ob} (next : AOps P N ops l Q ⟨E, d :: e :: a :: b :: c :: M⟩) : AOps P N ops l Q ⟨E, a :: b :: c :: d :: e :: M⟩ :=
  aops_perm _ (List.perm_append_comm_assoc [a, b, c] [d, e] M) next
theorem aops_rot23 {l : List Oper} {a b c d e : Ob} (next : AOps P N ops l Q ⟨E, c :: d :: e :: a :: b :: M⟩) : AOps P N ops l Q ⟨E, a :: b :: c :: d :: e :: M⟩ :=
  aops_perm _ (List.perm_append_comm_assoc [a, b] [c, d, e] M) next
theorem resOf_deep {st : St} {rv : ResultVar} {x : A} (h : ResOf P N st rv x) : ResOf P N st rv (deep x) := by
  intro K G a w hi
  obtain ⟨v, h1, h2⟩ := h K G a w hi
  exact ⟨v, h1, deep_rep x v h2⟩
end
def Meas (p : Pa) (x : It) : Prop := ∀ (b : Nat) (ob : Option Nat) (cap : Nat) (l : List Sp) (M : List Ob),
  ACalls Try.prog 46 [.ref b 0, .agg (itT x)] (paM p b ob cap l M) (fun r M' => r = .agg (itM x) ∧ M' = paM p b ob cap l M)

set_option maxHeartbeats 4000000 in
theorem meas_tok {p : Pa} (hp : PaOk p) {x : It} (hr : x.r = -1) (hk : x.kn = 0 ∧ x.kt = [] ∧ x.km = []) (ht : tokF p.ts x.tk = (x.fr, x.to, true)) : Meas p x := by
  intro b ob cap l M
  obtain ⟨r, tk, kn, kt, km, fr, to⟩ := x
  simp only at hr hk ht
  obtain ⟨rfl, rfl, rfl⟩ := hk
  subst hr
  refine acalls_of_code 60 Try.func46 rfl rfl rfl ?_
  repeat (first | refine aops_put rfl ?_ | refine aops_end ?_ | refine aops_endb ?_ | refine aops_o rfl rfl rfl ?_ | refine aops_max tok rfl rfl rfl rfl rfl rfl ?_ | refine aops_min tok rfl rfl rfl rfl rfl rfl ?_ | refine aops_a tok rfl (by omega) (by omega) rfl rfl rfl ?_ | refine aops_p tok rfl rfl rfl rfl ?_ | refine aops_ixa tok rfl rfl rfl (by decide) rfl rfl rfl rfl ?_ | refine aops_ld tok 0 rfl rfl rfl rfl rfl rfl rfl rfl ?_ | refine aops_ld tok 1 rfl rfl rfl rfl rfl rfl rfl rfl ?_ | refine aops_stn tok rfl rfl rfl rfl rfl rfl rfl rfl rfl ?_ | refine aops_stn1 tok rfl rfl rfl rfl rfl rfl rfl rfl rfl ?_ | refine acode_seq ?_ | refine acode_region ?_ | refine acode_block ?_ | refine acode_skip ?_ | refine then_n ?_ | refine block_n ?_)
  refine aops_boxf rfl rfl rfl rfl rfl rfl rfl ?_
  refine aops_alloc tok rfl rfl rfl rfl rfl rfl fun br => ?_
  repeat (first | refine aops_put rfl ?_ | refine aops_end ?_ | refine aops_endb ?_ | refine aops_o rfl rfl rfl ?_ | refine aops_max tok rfl rfl rfl rfl rfl rfl ?_ | refine aops_min tok rfl rfl rfl rfl rfl rfl ?_ | refine aops_a tok rfl (by omega) (by omega) rfl rfl rfl ?_ | refine aops_p tok rfl rfl rfl rfl ?_ | refine aops_ixa tok rfl rfl rfl (by decide) rfl rfl rfl rfl ?_ | refine aops_ld tok 0 rfl rfl rfl rfl rfl rfl rfl rfl ?_ | refine aops_ld tok 1 rfl rfl rfl rfl rfl rfl rfl rfl ?_ | refine aops_stn tok rfl rfl rfl rfl rfl rfl rfl rfl rfl ?_ | refine aops_stn1 tok rfl rfl rfl rfl rfl rfl rfl rfl rfl ?_ | refine acode_seq ?_ | refine acode_region ?_ | refine acode_block ?_ | refine acode_skip ?_ | refine then_n ?_ | refine block_n ?_)
  refine aops_alloc tok rfl rfl rfl rfl rfl rfl fun b5 => ?_
  repeat' (first | refine aops_put rfl ?_ | refine aops_end ?_ | refine aops_endb ?_ | refine aops_o rfl rfl rfl ?_ | refine aops_max tok rfl rfl rfl rfl rfl rfl ?_ | refine aops_min tok rfl rfl rfl rfl rfl rfl ?_ | refine aops_a tok rfl (by omega) (by omega) rfl rfl rfl ?_ | refine aops_pbt tok rfl (by first | omega | decide) rfl rfl rfl ?_ | refine aops_pbf tok rfl (by first | omega | decide) rfl rfl rfl ?_ | refine aops_pet tok rfl (by omega) rfl rfl rfl ?_ | refine aops_pef tok rfl (by omega) rfl rfl rfl ?_ | (refine aops_pd tok rfl rfl rfl rfl ?_ ?_ <;> intro e_) | (refine aops_pe tok rfl rfl rfl rfl ?_ ?_ <;> intro e_) | (refine aops_pn tok rfl rfl rfl rfl ?_ ?_ <;> intro e_) | refine aops_p tok rfl rfl rfl rfl ?_ | refine acode_it rfl ?_ | refine acode_if rfl ?_ | refine aops_ixa tok rfl rfl rfl (by decide) rfl rfl rfl rfl ?_ | refine aops_ld tok 0 rfl rfl rfl rfl rfl rfl rfl rfl ?_ | refine aops_ld tok 1 rfl rfl rfl rfl rfl rfl rfl rfl ?_ | refine aops_stn tok rfl rfl rfl rfl rfl rfl rfl rfl rfl ?_ | refine aops_stn1 tok rfl rfl rfl rfl rfl rfl rfl rfl rfl ?_ | refine acode_seq ?_ | refine acode_region ?_ | refine acode_block ?_ | refine acode_skip ?_ | refine then_n ?_ | refine block_n ?_)
  rotate_left
  · exact absurd rfl e_
  refine aops_rot22 ?_
  refine aops_callx Try.func79 rfl rfl rfl rfl (token_calls hp b ob cap l _) rfl rfl rfl ?_
  rw [ht]
  refine aops_rot22 ?_
  repeat (first | refine aops_put rfl ?_ | refine aops_end ?_ | refine aops_endb ?_ | refine aops_o rfl rfl rfl ?_ | refine aops_max tok rfl rfl rfl rfl rfl rfl ?_ | refine aops_min tok rfl rfl rfl rfl rfl rfl ?_ | refine aops_a tok rfl (by omega) (by omega) rfl rfl rfl ?_ | refine aops_p tok rfl rfl rfl rfl ?_ | refine aops_ixa tok rfl rfl rfl (by decide) rfl rfl rfl rfl ?_ | refine aops_ld tok 0 rfl rfl rfl rfl rfl rfl rfl rfl ?_ | refine aops_ld tok 1 rfl rfl rfl rfl rfl rfl rfl rfl ?_ | refine aops_stn tok rfl rfl rfl rfl rfl rfl rfl rfl rfl ?_ | refine aops_stn1 tok rfl rfl rfl rfl rfl rfl rfl rfl rfl ?_ | refine acode_seq ?_ | refine acode_region ?_ | refine acode_block ?_ | refine acode_skip ?_ | refine then_n ?_ | refine block_n ?_)
  refine acode_drop0 (acode_pubref0 4 rfl ?_)
  refine acode_ret ?_
  repeat (first | refine exit_then ?_ | refine exit_here ?_ | refine exit_out rfl ?_ | refine ret_then ?_ | refine ret_block ?_ | refine then_n ?_ | refine block_n ?_)
  exact ⟨.agg (itM ⟨-1, tk, 0, [], [], fr, to⟩), ⟨rfl, rfl⟩, resOf_deep (x := .agg [.int .i64 (-1), .int .i64 tk, .psl 0 [], .int .i64 fr, .int .i64 to, .bool true, .nils]) (resOf_pp tok rfl rfl rfl)⟩

def frJ (ks : List It) (j : Nat) : Int := if j = 0 then 0 else (ks.head?.map (·.fr)).getD 0
def toJ (ks : List It) (j : Nat) : Int := if j = 0 then 0 else (ks[j - 1]?.map (·.to)).getD 0
abbrev msM (p : Pa) (b : Nat) (ob : Option Nat) (cap : Nat) (l : List Sp) (ks : List It) (r tk : Int) (b5 br : Nat) (j : Nat) (obK : Option Nat) (capK : Nat) (M : List Ob) : List Ob :=
  ⟨some b5, 7, [.int .i64 r, .int .i64 tk, .psl ks.length (encs itT ks), .int .i64 (frJ ks j), .int .i64 (toJ ks j), .bool (Nat.blt 0 j), .own obK j capK]⟩ :: ⟨obK, capK * 7, encs itM (ks.take j)⟩ :: ⟨some br, 7, [.int .i64 0, .int .i64 0, .nils, .int .i64 0, .int .i64 0, .bool false, .nils]⟩ :: paM p b ob cap l M
set_option maxHeartbeats 8000000 in
theorem meas_node {p : Pa} {ks : List It} {r tk : Int} (hr : r ≠ -1) (hne : ks ≠ []) (hl : ks.length ≤ 1000) (hk : ∀ x ∈ ks, Meas p x) :
    Meas p ⟨r, tk, ks.length, encs itT ks, encs itM ks, frJ ks ks.length, toJ ks ks.length⟩ := by
  intro b ob cap l M
  have hpos : 0 < ks.length := List.length_pos_iff.2 hne
  refine acalls_of_code 60 Try.func46 rfl rfl rfl ?_
  repeat (first | refine aops_put rfl ?_ | refine aops_end ?_ | refine aops_endb ?_ | refine aops_o rfl rfl rfl ?_ | refine aops_max tok rfl rfl rfl rfl rfl rfl ?_ | refine aops_min tok rfl rfl rfl rfl rfl rfl ?_ | refine aops_a tok rfl (by omega) (by omega) rfl rfl rfl ?_ | refine aops_p tok rfl rfl rfl rfl ?_ | refine aops_ixa tok rfl rfl rfl (by decide) rfl rfl rfl rfl ?_ | refine aops_ld tok 0 rfl rfl rfl rfl rfl rfl rfl rfl ?_ | refine aops_ld tok 1 rfl rfl rfl rfl rfl rfl rfl rfl ?_ | refine aops_stn tok rfl rfl rfl rfl rfl rfl rfl rfl rfl ?_ | refine aops_stn1 tok rfl rfl rfl rfl rfl rfl rfl rfl rfl ?_ | refine acode_seq ?_ | refine acode_region ?_ | refine acode_block ?_ | refine acode_skip ?_ | refine then_n ?_ | refine block_n ?_)
  refine aops_boxf rfl rfl rfl rfl rfl rfl rfl ?_
  refine aops_alloc tok rfl rfl rfl rfl rfl rfl fun br => ?_
  repeat (first | refine aops_put rfl ?_ | refine aops_end ?_ | refine aops_endb ?_ | refine aops_o rfl rfl rfl ?_ | refine aops_max tok rfl rfl rfl rfl rfl rfl ?_ | refine aops_min tok rfl rfl rfl rfl rfl rfl ?_ | refine aops_a tok rfl (by omega) (by omega) rfl rfl rfl ?_ | refine aops_p tok rfl rfl rfl rfl ?_ | refine aops_ixa tok rfl rfl rfl (by decide) rfl rfl rfl rfl ?_ | refine aops_ld tok 0 rfl rfl rfl rfl rfl rfl rfl rfl ?_ | refine aops_ld tok 1 rfl rfl rfl rfl rfl rfl rfl rfl ?_ | refine aops_stn tok rfl rfl rfl rfl rfl rfl rfl rfl rfl ?_ | refine aops_stn1 tok rfl rfl rfl rfl rfl rfl rfl rfl rfl ?_ | refine acode_seq ?_ | refine acode_region ?_ | refine acode_block ?_ | refine acode_skip ?_ | refine then_n ?_ | refine block_n ?_)
  refine aops_alloc tok rfl rfl rfl rfl rfl rfl fun b5 => ?_
  refine aops_stn tok rfl rfl rfl rfl rfl rfl rfl rfl rfl ?_
  refine aops_adoptF 6 rfl rfl ?_
  repeat' (first | refine aops_put rfl ?_ | refine aops_end ?_ | refine aops_endb ?_ | refine aops_o rfl rfl rfl ?_ | refine aops_max tok rfl rfl rfl rfl rfl rfl ?_ | refine aops_min tok rfl rfl rfl rfl rfl rfl ?_ | refine aops_a tok rfl (by omega) (by omega) rfl rfl rfl ?_ | refine aops_pbt tok rfl (by first | omega | decide) rfl rfl rfl ?_ | refine aops_pbf tok rfl (by first | omega | decide) rfl rfl rfl ?_ | refine aops_pet tok rfl (by omega) rfl rfl rfl ?_ | refine aops_pef tok rfl (by omega) rfl rfl rfl ?_ | (refine aops_pd tok rfl rfl rfl rfl ?_ ?_ <;> intro e_) | (refine aops_pe tok rfl rfl rfl rfl ?_ ?_ <;> intro e_) | (refine aops_pn tok rfl rfl rfl rfl ?_ ?_ <;> intro e_) | refine aops_p tok rfl rfl rfl rfl ?_ | refine acode_it rfl ?_ | refine acode_if rfl ?_ | refine aops_ixa tok rfl rfl rfl (by decide) rfl rfl rfl rfl ?_ | refine aops_ld tok 0 rfl rfl rfl rfl rfl rfl rfl rfl ?_ | refine aops_ld tok 1 rfl rfl rfl rfl rfl rfl rfl rfl ?_ | refine aops_stn tok rfl rfl rfl rfl rfl rfl rfl rfl rfl ?_ | refine aops_stn1 tok rfl rfl rfl rfl rfl rfl rfl rfl rfl ?_ | refine acode_seq ?_ | refine acode_region ?_ | refine acode_block ?_ | refine acode_skip ?_ | refine then_n ?_ | refine block_n ?_)
  refine acode_loopS (ι := Nat × Option Nat × Nat) (fun q => [(0, .ref b 0), (4, .ref br 0), (5, .ref b5 0), (21, .psl ks.length (encs itT ks)), (22, .int .i64 ks.length), (23, .int .i64 q.1)]) (fun q => msM p b ob cap l ks r tk b5 br q.1 q.2.1 q.2.2 M) (fun q => ks.length - q.1) (fun q => q.1 ≤ ks.length) (0, none, 0) (Nat.zero_le _) ⟨rfl, rfl, rfl, rfl, rfl, rfl, trivial⟩ rfl ?_
  rintro ⟨j, obK, capK⟩ hj
  simp only at hj ⊢
  repeat (first | refine aops_put rfl ?_ | refine aops_end ?_ | refine aops_endb ?_ | refine aops_o rfl rfl rfl ?_ | refine aops_max tok rfl rfl rfl rfl rfl rfl ?_ | refine aops_min tok rfl rfl rfl rfl rfl rfl ?_ | refine aops_a tok rfl (by omega) (by omega) rfl rfl rfl ?_ | refine aops_p tok rfl rfl rfl rfl ?_ | refine aops_ixa tok rfl rfl rfl (by decide) rfl rfl rfl rfl ?_ | refine aops_ld tok 0 rfl rfl rfl rfl rfl rfl rfl rfl ?_ | refine aops_ld tok 1 rfl rfl rfl rfl rfl rfl rfl rfl ?_ | refine aops_stn tok rfl rfl rfl rfl rfl rfl rfl rfl rfl ?_ | refine aops_stn1 tok rfl rfl rfl rfl rfl rfl rfl rfl rfl ?_ | refine acode_seq ?_ | refine acode_region ?_ | refine acode_block ?_ | refine acode_skip ?_ | refine then_n ?_ | refine block_n ?_)
  refine acode_id rfl (fun e => ?_) (fun e => ?_)
  · have hjl : j < ks.length := by omega
    obtain ⟨x, hx⟩ : ∃ x, ks[j]? = some x := ⟨ks[j], List.getElem?_eq_getElem hjl⟩
    repeat (first | refine aops_put rfl ?_ | refine aops_end ?_ | refine aops_endb ?_ | refine aops_o rfl rfl rfl ?_ | refine aops_max tok rfl rfl rfl rfl rfl rfl ?_ | refine aops_min tok rfl rfl rfl rfl rfl rfl ?_ | refine aops_a tok rfl (by omega) (by omega) rfl rfl rfl ?_ | refine aops_p tok rfl rfl rfl rfl ?_ | refine aops_ixa tok rfl rfl rfl (by decide) rfl rfl rfl rfl ?_ | refine aops_ld tok 0 rfl rfl rfl rfl rfl rfl rfl rfl ?_ | refine aops_ld tok 1 rfl rfl rfl rfl rfl rfl rfl rfl ?_ | refine aops_stn tok rfl rfl rfl rfl rfl rfl rfl rfl rfl ?_ | refine aops_stn1 tok rfl rfl rfl rfl rfl rfl rfl rfl rfl ?_ | refine acode_seq ?_ | refine acode_region ?_ | refine acode_block ?_ | refine acode_skip ?_ | refine then_n ?_ | refine block_n ?_)
    refine aops_ix tok (itT x) rfl rfl rfl rfl (by omega) (by omega) (by simp [itT]) (itT_at hx) rfl rfl rfl ?_
    repeat (first | refine aops_put rfl ?_ | refine aops_end ?_ | refine aops_endb ?_ | refine aops_o rfl rfl rfl ?_ | refine aops_max tok rfl rfl rfl rfl rfl rfl ?_ | refine aops_min tok rfl rfl rfl rfl rfl rfl ?_ | refine aops_a tok rfl (by omega) (by omega) rfl rfl rfl ?_ | refine aops_p tok rfl rfl rfl rfl ?_ | refine aops_ixa tok rfl rfl rfl (by decide) rfl rfl rfl rfl ?_ | refine aops_ld tok 0 rfl rfl rfl rfl rfl rfl rfl rfl ?_ | refine aops_ld tok 1 rfl rfl rfl rfl rfl rfl rfl rfl ?_ | refine aops_stn tok rfl rfl rfl rfl rfl rfl rfl rfl rfl ?_ | refine aops_stn1 tok rfl rfl rfl rfl rfl rfl rfl rfl rfl ?_ | refine acode_seq ?_ | refine acode_region ?_ | refine acode_block ?_ | refine acode_skip ?_ | refine then_n ?_ | refine block_n ?_)
    refine aops_alloc tok rfl rfl rfl rfl rfl rfl fun b7 => ?_
    refine aops_stn tok rfl rfl rfl rfl rfl rfl rfl rfl rfl ?_
    refine aops_pubref0 7 rfl ?_
    repeat (first | refine aops_put rfl ?_ | refine aops_end ?_ | refine aops_endb ?_ | refine aops_o rfl rfl rfl ?_ | refine aops_max tok rfl rfl rfl rfl rfl rfl ?_ | refine aops_min tok rfl rfl rfl rfl rfl rfl ?_ | refine aops_a tok rfl (by omega) (by omega) rfl rfl rfl ?_ | refine aops_p tok rfl rfl rfl rfl ?_ | refine aops_ixa tok rfl rfl rfl (by decide) rfl rfl rfl rfl ?_ | refine aops_ld tok 0 rfl rfl rfl rfl rfl rfl rfl rfl ?_ | refine aops_ld tok 1 rfl rfl rfl rfl rfl rfl rfl rfl ?_ | refine aops_stn tok rfl rfl rfl rfl rfl rfl rfl rfl rfl ?_ | refine aops_stn1 tok rfl rfl rfl rfl rfl rfl rfl rfl rfl ?_ | refine acode_seq ?_ | refine acode_region ?_ | refine acode_block ?_ | refine acode_skip ?_ | refine then_n ?_ | refine block_n ?_)
    refine aops_rot32 ?_
    refine aops_callx Try.func46 rfl rfl rfl rfl (hk x (List.mem_of_getElem? hx) b ob cap l _) rfl rfl rfl ?_
    refine aops_rot23 ?_
    refine aops_alloc tok rfl rfl rfl rfl rfl rfl fun b8 => ?_
    refine aops_stn tok rfl rfl rfl rfl rfl rfl rfl rfl rfl ?_
    refine aops_pubref0 8 rfl ?_
    repeat (first | refine aops_put rfl ?_ | refine aops_end ?_ | refine aops_endb ?_ | refine aops_o rfl rfl rfl ?_ | refine aops_max tok rfl rfl rfl rfl rfl rfl ?_ | refine aops_min tok rfl rfl rfl rfl rfl rfl ?_ | refine aops_a tok rfl (by omega) (by omega) rfl rfl rfl ?_ | refine aops_p tok rfl rfl rfl rfl ?_ | refine aops_ixa tok rfl rfl rfl (by decide) rfl rfl rfl rfl ?_ | refine aops_ld tok 0 rfl rfl rfl rfl rfl rfl rfl rfl ?_ | refine aops_ld tok 1 rfl rfl rfl rfl rfl rfl rfl rfl ?_ | refine aops_stn tok rfl rfl rfl rfl rfl rfl rfl rfl rfl ?_ | refine aops_stn1 tok rfl rfl rfl rfl rfl rfl rfl rfl rfl ?_ | refine acode_seq ?_ | refine acode_region ?_ | refine acode_block ?_ | refine acode_skip ?_ | refine then_n ?_ | refine block_n ?_)
    refine aops_litn tok rfl rfl rfl rfl rfl rfl rfl ?_
    refine aops_append tok 1 (m := 1) rfl rfl rfl (.inl rfl) rfl rfl (by rw [encs_len (e := itM) (s := 7) (fun _ => rfl), List.length_take, Nat.min_eq_left hj]) rfl rfl rfl (by show _ * 88 ≤ _; omega) (by omega) rfl rfl fun obK' capK' => ?_
    repeat (first | refine aops_put rfl ?_ | refine aops_o rfl rfl rfl ?_ | refine aops_max tok rfl rfl rfl rfl rfl rfl ?_ | refine aops_min tok rfl rfl rfl rfl rfl rfl ?_ | refine aops_a tok rfl (by omega) (by omega) rfl rfl rfl ?_ | refine aops_p tok rfl rfl rfl rfl ?_ | refine aops_ixa tok rfl rfl rfl (by decide) rfl rfl rfl rfl ?_ | refine aops_ld tok 0 rfl rfl rfl rfl rfl rfl rfl rfl ?_ | refine aops_ld tok 1 rfl rfl rfl rfl rfl rfl rfl rfl ?_ | refine aops_stn tok rfl rfl rfl rfl rfl rfl rfl rfl rfl ?_ | refine aops_stn1 tok rfl rfl rfl rfl rfl rfl rfl rfl rfl ?_)
    have htake : encs itM (ks.take (j + 1)) = encs itM (ks.take j) ++ itM x := by
      rw [List.take_add_one, hx, encs_app]; simp [encs]
    have hto : toJ ks (j + 1) = x.to := by simp [toJ, hx]
    cases j with
    | zero =>
      have hfr : frJ ks 1 = x.fr := by
        cases ks with
        | nil => simp at hx
        | cons y ys => simp at hx; subst hx; simp [frJ]
      repeat' (first | refine aops_put rfl ?_ | refine aops_end ?_ | refine aops_endb ?_ | refine aops_o rfl rfl rfl ?_ | refine aops_max tok rfl rfl rfl rfl rfl rfl ?_ | refine aops_min tok rfl rfl rfl rfl rfl rfl ?_ | refine aops_a tok rfl (by omega) (by omega) rfl rfl rfl ?_ | refine aops_pbt tok rfl (by first | omega | decide) rfl rfl rfl ?_ | refine aops_pbf tok rfl (by first | omega | decide) rfl rfl rfl ?_ | refine aops_pet tok rfl (by omega) rfl rfl rfl ?_ | refine aops_pef tok rfl (by omega) rfl rfl rfl ?_ | (refine aops_pd tok rfl rfl rfl rfl ?_ ?_ <;> intro e_) | (refine aops_pe tok rfl rfl rfl rfl ?_ ?_ <;> intro e_) | (refine aops_pn tok rfl rfl rfl rfl ?_ ?_ <;> intro e_) | refine aops_p tok rfl rfl rfl rfl ?_ | refine acode_it rfl ?_ | refine acode_if rfl ?_ | refine aops_ixa tok rfl rfl rfl (by decide) rfl rfl rfl rfl ?_ | refine aops_ld tok 0 rfl rfl rfl rfl rfl rfl rfl rfl ?_ | refine aops_ld tok 1 rfl rfl rfl rfl rfl rfl rfl rfl ?_ | refine aops_stn tok rfl rfl rfl rfl rfl rfl rfl rfl rfl ?_ | refine aops_stn1 tok rfl rfl rfl rfl rfl rfl rfl rfl rfl ?_ | refine acode_seq ?_ | refine acode_region ?_ | refine acode_block ?_ | refine acode_skip ?_ | refine then_n ?_ | refine block_n ?_)
      exact ⟨(1, obK', capK'), by simp; omega, by simp; omega, ⟨rfl, rfl, rfl, rfl, rfl, rfl, trivial⟩, by simp only [msM]; rw [htake, hto, hfr]; rfl⟩
    | succ j =>
      have hfr : frJ ks (j + 1 + 1) = frJ ks (j + 1) := by simp [frJ]
      repeat' (first | refine aops_put rfl ?_ | refine aops_end ?_ | refine aops_endb ?_ | refine aops_o rfl rfl rfl ?_ | refine aops_max tok rfl rfl rfl rfl rfl rfl ?_ | refine aops_min tok rfl rfl rfl rfl rfl rfl ?_ | refine aops_a tok rfl (by omega) (by omega) rfl rfl rfl ?_ | refine aops_pbt tok rfl (by first | omega | decide) rfl rfl rfl ?_ | refine aops_pbf tok rfl (by first | omega | decide) rfl rfl rfl ?_ | refine aops_pet tok rfl (by omega) rfl rfl rfl ?_ | refine aops_pef tok rfl (by omega) rfl rfl rfl ?_ | (refine aops_pd tok rfl rfl rfl rfl ?_ ?_ <;> intro e_) | (refine aops_pe tok rfl rfl rfl rfl ?_ ?_ <;> intro e_) | (refine aops_pn tok rfl rfl rfl rfl ?_ ?_ <;> intro e_) | refine aops_p tok rfl rfl rfl rfl ?_ | refine acode_it rfl ?_ | refine acode_if rfl ?_ | refine aops_ixa tok rfl rfl rfl (by decide) rfl rfl rfl rfl ?_ | refine aops_ld tok 0 rfl rfl rfl rfl rfl rfl rfl rfl ?_ | refine aops_ld tok 1 rfl rfl rfl rfl rfl rfl rfl rfl ?_ | refine aops_stn tok rfl rfl rfl rfl rfl rfl rfl rfl rfl ?_ | refine aops_stn1 tok rfl rfl rfl rfl rfl rfl rfl rfl rfl ?_ | refine acode_seq ?_ | refine acode_region ?_ | refine acode_block ?_ | refine acode_skip ?_ | refine then_n ?_ | refine block_n ?_)
      exact ⟨(j + 1 + 1, obK', capK'), by simp; omega, by simp; omega, ⟨rfl, rfl, rfl, rfl, rfl, rfl, trivial⟩, by simp only [msM]; rw [htake, hto, hfr]; rfl⟩
  · have hge : j = ks.length := by omega
    subst hge
    refine acode_exit ?_
    repeat (first | refine exit_then ?_ | refine exit_here ?_ | refine exit_out rfl ?_ | refine ret_then ?_ | refine ret_block ?_ | refine then_n ?_ | refine block_n ?_)
    refine acode_somedM 0 6 rfl rfl hpos fun bK hbK => ?_
    subst hbK
    have hblt : Nat.blt 0 ks.length = true := by simpa using hpos
    simp only [msM]
    rw [hblt, List.take_length]
    refine acode_seq ?_
    refine acode_region ?_
    refine aops_ld tok 0 rfl rfl rfl rfl rfl rfl rfl rfl ?_
    refine aops_pubwk 59 1 (.agg [.int .i64 r, .int .i64 tk, .psl ks.length (encs itT ks), .int .i64 (frJ ks ks.length), .int .i64 (toJ ks ks.length), .bool true, .psl ks.length (encs itM ks)]) 7 rfl rfl rfl (encs_len (e := itM) (s := 7) (fun _ => rfl) ks) (by decide) (.agg (.cons (.refl _) (.cons (.refl _) (.cons (.refl _) (.cons (.refl _) (.cons (.refl _) (.cons (.refl _) (.cons .own .nil)))))))) ?_
    refine aops_stn1 tok rfl rfl rfl rfl rfl rfl rfl rfl rfl ?_
    refine aops_drop0 ?_
    refine aops_pubref0 4 rfl ?_
    repeat (first | refine aops_put rfl ?_ | refine aops_end ?_ | refine aops_endb ?_ | refine aops_o rfl rfl rfl ?_ | refine aops_max tok rfl rfl rfl rfl rfl rfl ?_ | refine aops_min tok rfl rfl rfl rfl rfl rfl ?_ | refine aops_a tok rfl (by omega) (by omega) rfl rfl rfl ?_ | refine aops_p tok rfl rfl rfl rfl ?_ | refine aops_ixa tok rfl rfl rfl (by decide) rfl rfl rfl rfl ?_ | refine aops_ld tok 0 rfl rfl rfl rfl rfl rfl rfl rfl ?_ | refine aops_ld tok 1 rfl rfl rfl rfl rfl rfl rfl rfl ?_ | refine aops_stn tok rfl rfl rfl rfl rfl rfl rfl rfl rfl ?_ | refine aops_stn1 tok rfl rfl rfl rfl rfl rfl rfl rfl rfl ?_ | refine acode_seq ?_ | refine acode_region ?_ | refine acode_block ?_ | refine acode_skip ?_ | refine then_n ?_ | refine block_n ?_)
    refine acode_ret ?_
    repeat (first | refine exit_then ?_ | refine exit_here ?_ | refine exit_out rfl ?_ | refine ret_then ?_ | refine ret_block ?_ | refine then_n ?_ | refine block_n ?_)
    exact ⟨_, ⟨rfl, rfl⟩, resOf_pp tok rfl rfl rfl⟩
end Go.Proofs.Ytbnhmioijeagiaa.Ab

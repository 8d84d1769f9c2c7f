/- Chapter 25's law of nodes within nodes: the walk. No condition. -/
import Derived.Test.YtbnhmioijeagiaaSpa6
set_option linter.unusedVariables false
set_option linter.unusedSimpArgs false
namespace Go.Proofs.Ytbnhmioijeagiaa.Ab
attribute [local irreducible] thenA inBlockA ACode AOps put IntKind.wrap
section
variable {P : Program} {N : Nat} {Q : Exit → St → Prop} {E : Env} {M : List Ob}
/-- The second object, a slice that a field of the first one holds, is frozen there. -/
theorem acode_pubF {c : Code} (i : Nat) {b room r2 n cap sz : Nat} {ob : Option Nat} {cs ds cs' : List A} (hc : cs[i]? = some (.own ob n cap)) (hr : r2 = cap * sz) (hcs : ds.length = n * sz) (hsz : 0 < sz) (he : cs.set i (.psl n ds) = cs')
    (next : ACode P N c Q ⟨E, ⟨some b, room, cs'⟩ :: M⟩) : ACode P N c Q ⟨E, ⟨some b, room, cs⟩ :: ⟨ob, r2, ds⟩ :: M⟩ := by
  subst he
  refine acode_weaken (st' := ⟨E, ⟨some b, room, cs.set i (.psl n ds)⟩ :: M⟩) (fun K G a w hi => ?_) next
  obtain ⟨G', hle, hok, hb, hn⟩ := ok_publish hi.ok (k := 1) rfl
  refine ⟨G', ?_, hi.sz, hi.df, fun s => (hi.ev s).mono hle⟩
  have hok' : Ok K G' (⟨some b, room, cs⟩ :: M) w := hok
  refine hok'.cast (fun o' ho => ?_) (by simpa [List.filterMap_cons] using hok'.nd)
  simp only [List.mem_cons] at ho
  rcases ho with rfl | ho
  · refine .inr ⟨⟨some b, room, cs⟩, List.mem_cons_self .., rfl, rfl, fun vs hv => repL_set_same hv hc (fun v hr' => ?_), fun h => by cases h⟩
    cases ob with
    | none =>
      obtain ⟨hv, rfl, rfl⟩ := hr'
      obtain ⟨rfl, _⟩ := hn rfl
      exact ⟨none, 0, hv, Nat.le_refl _, by simp, [], rfl, .inl rfl⟩
    | some b2 =>
      simp only [Rep] at hr'
      obtain ⟨vs, hl, hat, hle'⟩ := hb b2 rfl
      have hlen := hl.length
      exact ⟨_, cap, hr', Nat.le_of_mul_le_mul_right (show n * sz ≤ cap * sz by omega) hsz, by simp, vs, hl, .inr ⟨b2, 0, rfl, hat⟩⟩
  · exact .inr ⟨o', by simp [ho], rfl, rfl, fun vs hv => hv, fun hb => (hok'.vn o' (by simp [ho]) hb).1⟩
mutual
theorem vw0_rep {G : Gh} : ∀ (x y : A) (v : Value), Vw [] x y → Rep G x v → Rep G y v
  | _, _, v, .refl x, h => h
  | _, _, v, .own hm _ _ _ _, h => by simp at hm
  | _, _, v, .none, h => by
    obtain ⟨rfl, _, _⟩ := h
    exact ⟨Option.none, 0, rfl, Nat.le_refl _, by simp, [], rfl, .inl rfl⟩
  | _, _, v, .nils, h => nils_psl h
  | _, _, v, .ref hm _, h => by simp at hm
  | _, _, v, .agg hl, h => by
    obtain ⟨vs, e, hl'⟩ := h
    exact ⟨vs, e, vw0L_rep _ _ vs hl hl'⟩
  | _, _, v, .psl hl, h => by
    obtain ⟨a, cap, e, hn, h0, vs, hl', hz⟩ := h
    refine ⟨a, cap, e, hn, h0, vs, vw0L_rep _ _ vs hl hl', ?_⟩
    rcases hz with rfl | hz
    · exact .inl hl.nil_of
    · exact .inr hz
theorem vw0L_rep {G : Gh} : ∀ (xs ys : List A) (vs : List Value), VwL [] xs ys → RepL G xs vs → RepL G ys vs
  | _, _, vs, .nil, h => h
  | _, _, vs, .cons h1 h2, h => by
    obtain ⟨v, vs', e, h3, h4⟩ := h
    exact ⟨v, vs', e, vw0_rep _ _ v h1 h3, vw0L_rep _ _ vs' h2 h4⟩
end
/-- A contract of the same arguments, nil slices told as empty ones. -/
theorem acalls_as {f : FuncId} {xs ys : List A} {R : A → List Ob → Prop} (hv : VwL [] xs ys) (hc : ACalls P f ys M R) : ACalls P f xs M R :=
  fun G w vs hok hl => hc G w vs hok (vw0L_rep _ _ _ hv hl)
end
def c3 (c : Int) : Int := IntKind.i64.wrap ((BitVec.ofInt 64 c &&& BitVec.ofInt 64 3).toNat : Int)
theorem c3_b (c : Int) : 0 ≤ c3 c ∧ c3 c ≤ 3 := by
  have h : (BitVec.ofInt 64 c &&& BitVec.ofInt 64 3).toNat ≤ 3 := by
    rw [BitVec.toNat_and]
    exact Nat.le_trans Nat.and_le_right (by decide)
  unfold c3
  rw [wrap64_small (by omega) (by omega)]
  omega
def tokT (k : Nat) : List A := [.int .i64 (-1), .int .i64 k, .nils]
def chT (n : Nat) : Nat → List A
  | 0 => tokT n
  | D + 1 => [.int .i64 ((n - (D + 1) : Nat) : Int), .int .i64 0, .psl 3 (tokT (n - (D + 1)) ++ (chT n D ++ tokT (n + (D + 1))))]
theorem vw_ch {M : List Ob} (n : Nat) : ∀ D, VwL M (chT n D) (itT (chI n D))
  | 0 => .cons (.refl _) (.cons (.refl _) (.cons .nils .nil))
  | D + 1 => .cons (.refl _) (.cons (.refl _) (.cons (.psl (by
    show VwL M _ (itT (tokI (n - (D + 1))) ++ (itT (chI n D) ++ (itT (tokI (n + (D + 1))) ++ [])))
    rw [List.append_nil]
    exact VwL.app (.cons (.refl _) (.cons (.refl _) (.cons .nils .nil))) (VwL.app (vw_ch n D) (.cons (.refl _) (.cons (.refl _) (.cons .nils .nil)))))) .nil))
set_option maxHeartbeats 8000000 in
theorem nested_main {cl : List Int} {own : Int} (h1 : 1 ≤ cl.length) (h2 : cl.length ≤ 20) (h3 : 0 ≤ own) (h4 : own ≤ 100) : ACalls Try.prog 4 [.psl cl.length (ints cl), .int .i64 own] [] (fun r _ => r = .bool true) := by
  generalize hn : cl.length = n at *
  refine acalls_of_code 147 Try.func4 rfl rfl rfl ?_
  repeat (first | refine aops_put rfl ?_ | refine aops_end ?_ | refine aops_endb ?_ | refine aops_o rfl rfl rfl ?_ | refine aops_max tok rfl rfl rfl rfl rfl rfl ?_ | refine aops_min tok rfl rfl rfl rfl rfl rfl ?_ | refine aops_a tok rfl (by omega) (by omega) rfl rfl rfl ?_ | refine aops_p tok rfl rfl rfl rfl ?_ | refine aops_ixa tok rfl rfl rfl (by decide) rfl rfl rfl rfl ?_ | refine aops_ld tok 0 rfl rfl rfl rfl rfl rfl rfl rfl ?_ | refine aops_ld tok 1 rfl rfl rfl rfl rfl rfl rfl rfl ?_ | refine aops_stn tok rfl rfl rfl rfl rfl rfl rfl rfl rfl ?_ | refine aops_stn1 tok rfl rfl rfl rfl rfl rfl rfl rfl rfl ?_ | refine acode_seq ?_ | refine acode_region ?_ | refine acode_block ?_ | refine acode_skip ?_ | refine then_n ?_ | refine block_n ?_)
  refine aops_callx Try.func9 rfl rfl rfl rfl (alive25_calls _) rfl rfl rfl ?_
  repeat' (first | refine aops_put rfl ?_ | refine aops_end ?_ | refine aops_endb ?_ | refine aops_o rfl rfl rfl ?_ | refine aops_max tok rfl rfl rfl rfl rfl rfl ?_ | refine aops_min tok rfl rfl rfl rfl rfl rfl ?_ | refine aops_a tok rfl (by omega) (by omega) rfl rfl rfl ?_ | refine aops_pbt tok rfl (by first | omega | decide) rfl rfl rfl ?_ | refine aops_pbf tok rfl (by first | omega | decide) rfl rfl rfl ?_ | refine aops_pet tok rfl (by omega) rfl rfl rfl ?_ | refine aops_pef tok rfl (by omega) rfl rfl rfl ?_ | (refine aops_pd tok rfl rfl rfl rfl ?_ ?_ <;> intro e_) | (refine aops_pe tok rfl rfl rfl rfl ?_ ?_ <;> intro e_) | (refine aops_pn tok rfl rfl rfl rfl ?_ ?_ <;> intro e_) | refine aops_p tok rfl rfl rfl rfl ?_ | refine acode_it rfl ?_ | refine acode_if rfl ?_ | refine aops_ixa tok rfl rfl rfl (by decide) rfl rfl rfl rfl ?_ | refine aops_ld tok 0 rfl rfl rfl rfl rfl rfl rfl rfl ?_ | refine aops_ld tok 1 rfl rfl rfl rfl rfl rfl rfl rfl ?_ | refine aops_stn tok rfl rfl rfl rfl rfl rfl rfl rfl rfl ?_ | refine aops_stn1 tok rfl rfl rfl rfl rfl rfl rfl rfl rfl ?_ | refine acode_seq ?_ | refine acode_region ?_ | refine acode_block ?_ | refine acode_skip ?_ | refine then_n ?_ | refine block_n ?_)
  refine aops_litn tok rfl rfl rfl rfl rfl rfl rfl ?_
  repeat (first | refine aops_put rfl ?_ | refine aops_end ?_ | refine aops_endb ?_ | refine aops_o rfl rfl rfl ?_ | refine aops_max tok rfl rfl rfl rfl rfl rfl ?_ | refine aops_min tok rfl rfl rfl rfl rfl rfl ?_ | refine aops_a tok rfl (by omega) (by omega) rfl rfl rfl ?_ | refine aops_p tok rfl rfl rfl rfl ?_ | refine aops_ixa tok rfl rfl rfl (by decide) rfl rfl rfl rfl ?_ | refine aops_ld tok 0 rfl rfl rfl rfl rfl rfl rfl rfl ?_ | refine aops_ld tok 1 rfl rfl rfl rfl rfl rfl rfl rfl ?_ | refine aops_stn tok rfl rfl rfl rfl rfl rfl rfl rfl rfl ?_ | refine aops_stn1 tok rfl rfl rfl rfl rfl rfl rfl rfl rfl ?_ | refine acode_seq ?_ | refine acode_region ?_ | refine acode_block ?_ | refine acode_skip ?_ | refine then_n ?_ | refine block_n ?_)
  refine aops_alloc tok rfl rfl rfl rfl rfl rfl fun bg => ?_
  refine aops_stn tok rfl rfl rfl rfl rfl rfl rfl rfl rfl ?_
  repeat (first | refine aops_put rfl ?_ | refine aops_end ?_ | refine aops_endb ?_ | refine aops_o rfl rfl rfl ?_ | refine aops_max tok rfl rfl rfl rfl rfl rfl ?_ | refine aops_min tok rfl rfl rfl rfl rfl rfl ?_ | refine aops_a tok rfl (by omega) (by omega) rfl rfl rfl ?_ | refine aops_p tok rfl rfl rfl rfl ?_ | refine aops_ixa tok rfl rfl rfl (by decide) rfl rfl rfl rfl ?_ | refine aops_ld tok 0 rfl rfl rfl rfl rfl rfl rfl rfl ?_ | refine aops_ld tok 1 rfl rfl rfl rfl rfl rfl rfl rfl ?_ | refine aops_stn tok rfl rfl rfl rfl rfl rfl rfl rfl rfl ?_ | refine aops_stn1 tok rfl rfl rfl rfl rfl rfl rfl rfl rfl ?_ | refine acode_seq ?_ | refine acode_region ?_ | refine acode_block ?_ | refine acode_skip ?_ | refine then_n ?_ | refine block_n ?_)
  refine aops_alloc tok rfl rfl rfl rfl rfl rfl fun bt => ?_
  refine aops_stn tok rfl rfl rfl rfl rfl rfl rfl rfl rfl ?_
  repeat (first | refine aops_put rfl ?_ | refine aops_end ?_ | refine aops_endb ?_ | refine aops_o rfl rfl rfl ?_ | refine aops_max tok rfl rfl rfl rfl rfl rfl ?_ | refine aops_min tok rfl rfl rfl rfl rfl rfl ?_ | refine aops_a tok rfl (by omega) (by omega) rfl rfl rfl ?_ | refine aops_p tok rfl rfl rfl rfl ?_ | refine aops_ixa tok rfl rfl rfl (by decide) rfl rfl rfl rfl ?_ | refine aops_ld tok 0 rfl rfl rfl rfl rfl rfl rfl rfl ?_ | refine aops_ld tok 1 rfl rfl rfl rfl rfl rfl rfl rfl ?_ | refine aops_stn tok rfl rfl rfl rfl rfl rfl rfl rfl rfl ?_ | refine aops_stn1 tok rfl rfl rfl rfl rfl rfl rfl rfl rfl ?_ | refine acode_seq ?_ | refine acode_region ?_ | refine acode_block ?_ | refine acode_skip ?_ | refine then_n ?_ | refine block_n ?_)
  -- the nodes, from the innermost one
  refine acode_loopS (ι := Nat) (fun D => [(0, .psl n (ints cl)), (1, .int .i64 own), (6, .int .i64 n), (7, .ref bg 0), (8, .ref bt 0), (9, .int .i64 ((n : Int) - 1 - D))]) (fun D => [⟨some bt, 3, chT n D⟩, ⟨some bg, 7, [.int .i64 0, .int .i64 1, .int .i64 0, .nils, .nils, .nils, .psl 1 [.int .i64 own]]⟩]) (fun D => n - D) (fun D => D ≤ n) 0 (Nat.zero_le _) ⟨rfl, rfl, rfl, rfl, rfl, by show A.int _ _ = A.int _ _; congr 1; omega, trivial⟩ rfl ?_
  intro D hD
  repeat (first | refine aops_put rfl ?_ | refine aops_end ?_ | refine aops_endb ?_ | refine aops_o rfl rfl rfl ?_ | refine aops_max tok rfl rfl rfl rfl rfl rfl ?_ | refine aops_min tok rfl rfl rfl rfl rfl rfl ?_ | refine aops_a tok rfl (by omega) (by omega) rfl rfl rfl ?_ | refine aops_p tok rfl rfl rfl rfl ?_ | refine aops_ixa tok rfl rfl rfl (by decide) rfl rfl rfl rfl ?_ | refine aops_ld tok 0 rfl rfl rfl rfl rfl rfl rfl rfl ?_ | refine aops_ld tok 1 rfl rfl rfl rfl rfl rfl rfl rfl ?_ | refine aops_stn tok rfl rfl rfl rfl rfl rfl rfl rfl rfl ?_ | refine aops_stn1 tok rfl rfl rfl rfl rfl rfl rfl rfl rfl ?_ | refine acode_seq ?_ | refine acode_region ?_ | refine acode_block ?_ | refine acode_skip ?_ | refine then_n ?_ | refine block_n ?_)
  refine acode_id rfl (fun e => ?_) (fun e => ?_)
  · have e1 : (n : Int) - 1 - D = ((n - (D + 1) : Nat) : Int) := by omega
    have e2 : 2 * (n : Int) - ((n - (D + 1) : Nat) : Int) = ((n + (D + 1) : Nat) : Int) := by omega
    rw [e1]
    cases D with
    | zero =>
      repeat (first | refine aops_put rfl ?_ | refine aops_end ?_ | refine aops_endb ?_ | refine aops_o rfl rfl rfl ?_ | refine aops_max tok rfl rfl rfl rfl rfl rfl ?_ | refine aops_min tok rfl rfl rfl rfl rfl rfl ?_ | refine aops_a tok rfl (by omega) (by omega) rfl rfl rfl ?_ | refine aops_p tok rfl rfl rfl rfl ?_ | refine aops_ixa tok rfl rfl rfl (by decide) rfl rfl rfl rfl ?_ | refine aops_ld tok 0 rfl rfl rfl rfl rfl rfl rfl rfl ?_ | refine aops_ld tok 1 rfl rfl rfl rfl rfl rfl rfl rfl ?_ | refine aops_stn tok rfl rfl rfl rfl rfl rfl rfl rfl rfl ?_ | refine aops_stn1 tok rfl rfl rfl rfl rfl rfl rfl rfl rfl ?_ | refine acode_seq ?_ | refine acode_region ?_ | refine acode_block ?_ | refine acode_skip ?_ | refine then_n ?_ | refine block_n ?_)
      refine aops_litn tok rfl rfl rfl rfl rfl rfl rfl ?_
      repeat (first | refine aops_put rfl ?_ | refine aops_end ?_ | refine aops_endb ?_ | refine aops_o rfl rfl rfl ?_ | refine aops_max tok rfl rfl rfl rfl rfl rfl ?_ | refine aops_min tok rfl rfl rfl rfl rfl rfl ?_ | refine aops_a tok rfl (by omega) (by omega) rfl rfl rfl ?_ | refine aops_p tok rfl rfl rfl rfl ?_ | refine aops_ixa tok rfl rfl rfl (by decide) rfl rfl rfl rfl ?_ | refine aops_ld tok 0 rfl rfl rfl rfl rfl rfl rfl rfl ?_ | refine aops_ld tok 1 rfl rfl rfl rfl rfl rfl rfl rfl ?_ | refine aops_stn tok rfl rfl rfl rfl rfl rfl rfl rfl rfl ?_ | refine aops_stn1 tok rfl rfl rfl rfl rfl rfl rfl rfl rfl ?_ | refine acode_seq ?_ | refine acode_region ?_ | refine acode_block ?_ | refine acode_skip ?_ | refine then_n ?_ | refine block_n ?_)
      rw [e2]
      exact ⟨1, by omega, by omega, ⟨rfl, rfl, rfl, rfl, rfl, by show A.int _ _ = A.int _ _; congr 1; omega, trivial⟩, rfl⟩
    | succ D =>
      repeat (first | refine aops_put rfl ?_ | refine aops_end ?_ | refine aops_endb ?_ | refine aops_o rfl rfl rfl ?_ | refine aops_max tok rfl rfl rfl rfl rfl rfl ?_ | refine aops_min tok rfl rfl rfl rfl rfl rfl ?_ | refine aops_a tok rfl (by omega) (by omega) rfl rfl rfl ?_ | refine aops_p tok rfl rfl rfl rfl ?_ | refine aops_ixa tok rfl rfl rfl (by decide) rfl rfl rfl rfl ?_ | refine aops_ld tok 0 rfl rfl rfl rfl rfl rfl rfl rfl ?_ | refine aops_ld tok 1 rfl rfl rfl rfl rfl rfl rfl rfl ?_ | refine aops_stn tok rfl rfl rfl rfl rfl rfl rfl rfl rfl ?_ | refine aops_stn1 tok rfl rfl rfl rfl rfl rfl rfl rfl rfl ?_ | refine acode_seq ?_ | refine acode_region ?_ | refine acode_block ?_ | refine acode_skip ?_ | refine then_n ?_ | refine block_n ?_)
      refine aops_litn tok rfl rfl rfl rfl rfl rfl rfl ?_
      repeat (first | refine aops_put rfl ?_ | refine aops_end ?_ | refine aops_endb ?_ | refine aops_o rfl rfl rfl ?_ | refine aops_max tok rfl rfl rfl rfl rfl rfl ?_ | refine aops_min tok rfl rfl rfl rfl rfl rfl ?_ | refine aops_a tok rfl (by omega) (by omega) rfl rfl rfl ?_ | refine aops_p tok rfl rfl rfl rfl ?_ | refine aops_ixa tok rfl rfl rfl (by decide) rfl rfl rfl rfl ?_ | refine aops_ld tok 0 rfl rfl rfl rfl rfl rfl rfl rfl ?_ | refine aops_ld tok 1 rfl rfl rfl rfl rfl rfl rfl rfl ?_ | refine aops_stn tok rfl rfl rfl rfl rfl rfl rfl rfl rfl ?_ | refine aops_stn1 tok rfl rfl rfl rfl rfl rfl rfl rfl rfl ?_ | refine acode_seq ?_ | refine acode_region ?_ | refine acode_block ?_ | refine acode_skip ?_ | refine then_n ?_ | refine block_n ?_)
      rw [e2]
      exact ⟨D + 1 + 1, by omega, by omega, ⟨rfl, rfl, rfl, rfl, rfl, by show A.int _ _ = A.int _ _; congr 1; omega, trivial⟩, rfl⟩
  · have hge : D = n := by omega
    subst hge
    have hrl : (cl.map c3).length = D := by rw [List.length_map, hn]
    refine acode_exit ?_
    repeat (first | refine exit_then ?_ | refine exit_here ?_ | refine exit_out rfl ?_ | refine ret_then ?_ | refine ret_block ?_ | refine then_n ?_ | refine block_n ?_)
    obtain ⟨d, rfl⟩ : ∃ d, D = d + 1 := ⟨D - 1, by omega⟩
    refine acode_pubref0 8 rfl ?_
    refine acode_adoptF 5 rfl rfl ?_
    repeat (first | refine aops_put rfl ?_ | refine aops_end ?_ | refine aops_endb ?_ | refine aops_o rfl rfl rfl ?_ | refine aops_max tok rfl rfl rfl rfl rfl rfl ?_ | refine aops_min tok rfl rfl rfl rfl rfl rfl ?_ | refine aops_a tok rfl (by omega) (by omega) rfl rfl rfl ?_ | refine aops_p tok rfl rfl rfl rfl ?_ | refine aops_ixa tok rfl rfl rfl (by decide) rfl rfl rfl rfl ?_ | refine aops_ld tok 0 rfl rfl rfl rfl rfl rfl rfl rfl ?_ | refine aops_ld tok 1 rfl rfl rfl rfl rfl rfl rfl rfl ?_ | refine aops_stn tok rfl rfl rfl rfl rfl rfl rfl rfl rfl ?_ | refine aops_stn1 tok rfl rfl rfl rfl rfl rfl rfl rfl rfl ?_ | refine acode_seq ?_ | refine acode_region ?_ | refine acode_block ?_ | refine acode_skip ?_ | refine then_n ?_ | refine block_n ?_)
    -- the rules' classes
    refine acode_loopS (ι := Nat × Option Nat × Nat) (fun q => [(0, .psl (d + 1) (ints cl)), (1, .int .i64 own), (6, .int .i64 ((d + 1 : Nat) : Int)), (7, .ref bg 0), (8, .pp (chT (d + 1) (d + 1))), (10, .int .i64 q.1)]) (fun q => [⟨some bg, 7, [.int .i64 0, .int .i64 1, .int .i64 0, .nils, .nils, .own q.2.1 q.1 q.2.2, .psl 1 [.int .i64 own]]⟩, ⟨q.2.1, q.2.2 * 1, ints ((cl.map c3).take q.1)⟩]) (fun q => d + 1 - q.1) (fun q => q.1 ≤ d + 1) (0, none, 0) (Nat.zero_le _) ⟨rfl, rfl, rfl, rfl, rfl, rfl, trivial⟩ rfl ?_
    rintro ⟨i, ob, cap⟩ hi
    simp only at hi ⊢
    repeat (first | refine aops_put rfl ?_ | refine aops_end ?_ | refine aops_endb ?_ | refine aops_o rfl rfl rfl ?_ | refine aops_max tok rfl rfl rfl rfl rfl rfl ?_ | refine aops_min tok rfl rfl rfl rfl rfl rfl ?_ | refine aops_a tok rfl (by omega) (by omega) rfl rfl rfl ?_ | refine aops_p tok rfl rfl rfl rfl ?_ | refine aops_ixa tok rfl rfl rfl (by decide) rfl rfl rfl rfl ?_ | refine aops_ld tok 0 rfl rfl rfl rfl rfl rfl rfl rfl ?_ | refine aops_ld tok 1 rfl rfl rfl rfl rfl rfl rfl rfl ?_ | refine aops_stn tok rfl rfl rfl rfl rfl rfl rfl rfl rfl ?_ | refine aops_stn1 tok rfl rfl rfl rfl rfl rfl rfl rfl rfl ?_ | refine acode_seq ?_ | refine acode_region ?_ | refine acode_block ?_ | refine acode_skip ?_ | refine then_n ?_ | refine block_n ?_)
    refine acode_id rfl (fun e2 => ?_) (fun e2 => ?_)
    · have hil : i < cl.length := by omega
      obtain ⟨c, hc⟩ : ∃ c, cl[i]? = some c := ⟨cl[i], List.getElem?_eq_getElem hil⟩
      have htk : ints ((cl.map c3).take (i + 1)) = ints ((cl.map c3).take i) ++ [.int .i64 (c3 c)] := by
        rw [List.take_add_one, List.getElem?_map, hc, ints_app]; rfl
      repeat (first | refine aops_put rfl ?_ | refine aops_end ?_ | refine aops_endb ?_ | refine aops_o rfl rfl rfl ?_ | refine aops_max tok rfl rfl rfl rfl rfl rfl ?_ | refine aops_min tok rfl rfl rfl rfl rfl rfl ?_ | refine aops_a tok rfl (by omega) (by omega) rfl rfl rfl ?_ | refine aops_p tok rfl rfl rfl rfl ?_ | refine aops_ixa tok rfl rfl rfl (by decide) rfl rfl rfl rfl ?_ | refine aops_ld tok 0 rfl rfl rfl rfl rfl rfl rfl rfl ?_ | refine aops_ld tok 1 rfl rfl rfl rfl rfl rfl rfl rfl ?_ | refine aops_stn tok rfl rfl rfl rfl rfl rfl rfl rfl rfl ?_ | refine aops_stn1 tok rfl rfl rfl rfl rfl rfl rfl rfl rfl ?_ | refine acode_seq ?_ | refine acode_region ?_ | refine acode_block ?_ | refine acode_skip ?_ | refine then_n ?_ | refine block_n ?_)
      refine acode_drawP [] 8 [0, 1, 2, 3, 4, 5, 6, 7] [] mixed (by kernel_rfl) (by kernel_rfl) rfl (seqO_T rfl ?_)
      repeat (first | refine seqT_put rfl ?_ | refine seqT_o rfl rfl rfl ?_ | refine seqT_max tok rfl rfl rfl rfl rfl rfl ?_ | refine seqT_min tok rfl rfl rfl rfl rfl rfl ?_ | refine seqT_a tok rfl (by omega) (by omega) rfl rfl rfl ?_ | refine seqT_p tok rfl rfl rfl rfl ?_ | refine seqT_ixa tok rfl rfl rfl (by decide) rfl rfl rfl rfl ?_ | refine seqT_ld tok 0 rfl rfl rfl rfl rfl rfl rfl rfl ?_ | refine seqT_ld tok 1 rfl rfl rfl rfl rfl rfl rfl rfl ?_)
      refine seqT_ix tok [A.int .i64 c] rfl rfl rfl rfl (by omega) (by omega) (by simp) (ints_at (j := i) (by simpa using hc)) rfl rfl rfl ?_
      repeat (first | refine seqT_put rfl ?_ | refine seqT_o rfl rfl rfl ?_ | refine seqT_max tok rfl rfl rfl rfl rfl rfl ?_ | refine seqT_min tok rfl rfl rfl rfl rfl rfl ?_ | refine seqT_a tok rfl (by omega) (by omega) rfl rfl rfl ?_ | refine seqT_p tok rfl rfl rfl rfl ?_ | refine seqT_ixa tok rfl rfl rfl (by decide) rfl rfl rfl rfl ?_ | refine seqT_ld tok 0 rfl rfl rfl rfl rfl rfl rfl rfl ?_ | refine seqT_ld tok 1 rfl rfl rfl rfl rfl rfl rfl rfl ?_)
      refine seqT_litn tok rfl rfl rfl rfl rfl rfl rfl rfl ?_
      refine SeqT.done ?_
      refine aops_append tok 1 (m := 1) rfl rfl rfl (.inl rfl) rfl rfl (by rw [ints_len, List.length_take, hrl, Nat.min_eq_left hi, Nat.mul_one]) rfl rfl rfl (by show _ * 8 ≤ _; omega) (by omega) rfl rfl fun ob' cap' => ?_
      repeat (first | refine aops_put rfl ?_ | refine aops_end ?_ | refine aops_endb ?_ | refine aops_o rfl rfl rfl ?_ | refine aops_max tok rfl rfl rfl rfl rfl rfl ?_ | refine aops_min tok rfl rfl rfl rfl rfl rfl ?_ | refine aops_a tok rfl (by omega) (by omega) rfl rfl rfl ?_ | refine aops_p tok rfl rfl rfl rfl ?_ | refine aops_ixa tok rfl rfl rfl (by decide) rfl rfl rfl rfl ?_ | refine aops_ld tok 0 rfl rfl rfl rfl rfl rfl rfl rfl ?_ | refine aops_ld tok 1 rfl rfl rfl rfl rfl rfl rfl rfl ?_ | refine aops_stn tok rfl rfl rfl rfl rfl rfl rfl rfl rfl ?_ | refine aops_stn1 tok rfl rfl rfl rfl rfl rfl rfl rfl rfl ?_ | refine acode_seq ?_ | refine acode_region ?_ | refine acode_block ?_ | refine acode_skip ?_ | refine then_n ?_ | refine block_n ?_)
      exact ⟨(i + 1, ob', cap'), by simp; omega, by simp; omega, ⟨rfl, rfl, rfl, rfl, rfl, rfl, trivial⟩, by simp only; rw [htk]; rfl⟩
    · have hge : i = d + 1 := by omega
      subst hge
      refine acode_exit ?_
      repeat (first | refine exit_then ?_ | refine exit_here ?_ | refine exit_out rfl ?_ | refine ret_then ?_ | refine ret_block ?_ | refine then_n ?_ | refine block_n ?_)
      refine acode_pubF (sz := 1) 5 rfl rfl (by rw [ints_len, List.length_take, hrl, Nat.min_self, Nat.mul_one]) (by decide) rfl ?_
      rw [List.take_of_length_le (by rw [hrl]; exact Nat.le_refl _)]
      refine acode_pubref0 7 rfl ?_
      repeat (first | refine aops_put rfl ?_ | refine aops_end ?_ | refine aops_endb ?_ | refine aops_o rfl rfl rfl ?_ | refine aops_max tok rfl rfl rfl rfl rfl rfl ?_ | refine aops_min tok rfl rfl rfl rfl rfl rfl ?_ | refine aops_a tok rfl (by omega) (by omega) rfl rfl rfl ?_ | refine aops_p tok rfl rfl rfl rfl ?_ | refine aops_ixa tok rfl rfl rfl (by decide) rfl rfl rfl rfl ?_ | refine aops_ld tok 0 rfl rfl rfl rfl rfl rfl rfl rfl ?_ | refine aops_ld tok 1 rfl rfl rfl rfl rfl rfl rfl rfl ?_ | refine aops_stn tok rfl rfl rfl rfl rfl rfl rfl rfl rfl ?_ | refine aops_stn1 tok rfl rfl rfl rfl rfl rfl rfl rfl rfl ?_ | refine acode_seq ?_ | refine acode_region ?_ | refine acode_block ?_ | refine acode_skip ?_ | refine then_n ?_ | refine block_n ?_)
      refine acode_adopt 11 5 rfl ?_
      -- the tokens
      refine acode_loopS (ι := Nat × Option Nat × Nat) (fun q => [(1, .int .i64 own), (6, .int .i64 ((d + 1 : Nat) : Int)), (7, .pp [.int .i64 0, .int .i64 1, .int .i64 0, .nils, .nils, .psl (d + 1) (ints (cl.map c3)), .psl 1 [.int .i64 own]]), (8, .pp (chT (d + 1) (d + 1))), (11, .own q.2.1 q.1 q.2.2), (12, .int .i64 q.1)]) (fun q => [⟨q.2.1, q.2.2 * 5, encs toC (tksN q.1)⟩]) (fun q => 2 * (d + 1) + 1 - q.1) (fun q => q.1 ≤ 2 * (d + 1) + 1) (0, none, 0) (Nat.zero_le _) ⟨rfl, rfl, rfl, rfl, rfl, rfl, trivial⟩ rfl ?_
      clear ob cap hi e2
      rintro ⟨i, ob, cap⟩ hi
      simp only at hi ⊢
      repeat (first | refine aops_put rfl ?_ | refine aops_end ?_ | refine aops_endb ?_ | refine aops_o rfl rfl rfl ?_ | refine aops_max tok rfl rfl rfl rfl rfl rfl ?_ | refine aops_min tok rfl rfl rfl rfl rfl rfl ?_ | refine aops_a tok rfl (by omega) (by omega) rfl rfl rfl ?_ | refine aops_p tok rfl rfl rfl rfl ?_ | refine aops_ixa tok rfl rfl rfl (by decide) rfl rfl rfl rfl ?_ | refine aops_ld tok 0 rfl rfl rfl rfl rfl rfl rfl rfl ?_ | refine aops_ld tok 1 rfl rfl rfl rfl rfl rfl rfl rfl ?_ | refine aops_stn tok rfl rfl rfl rfl rfl rfl rfl rfl rfl ?_ | refine aops_stn1 tok rfl rfl rfl rfl rfl rfl rfl rfl rfl ?_ | refine acode_seq ?_ | refine acode_region ?_ | refine acode_block ?_ | refine acode_skip ?_ | refine then_n ?_ | refine block_n ?_)
      refine acode_id rfl (fun e2 => ?_) (fun e2 => ?_)
      · have htk : encs toC (tksN (i + 1)) = encs toC (tksN i) ++ toC (tkN i) := by
          simp only [tksN, List.range_succ, List.map_append, encs_app]; rfl
        repeat (first | refine aops_put rfl ?_ | refine aops_end ?_ | refine aops_endb ?_ | refine aops_o rfl rfl rfl ?_ | refine aops_max tok rfl rfl rfl rfl rfl rfl ?_ | refine aops_min tok rfl rfl rfl rfl rfl rfl ?_ | refine aops_a tok rfl (by omega) (by omega) rfl rfl rfl ?_ | refine aops_p tok rfl rfl rfl rfl ?_ | refine aops_ixa tok rfl rfl rfl (by decide) rfl rfl rfl rfl ?_ | refine aops_ld tok 0 rfl rfl rfl rfl rfl rfl rfl rfl ?_ | refine aops_ld tok 1 rfl rfl rfl rfl rfl rfl rfl rfl ?_ | refine aops_stn tok rfl rfl rfl rfl rfl rfl rfl rfl rfl ?_ | refine aops_stn1 tok rfl rfl rfl rfl rfl rfl rfl rfl rfl ?_ | refine acode_seq ?_ | refine acode_region ?_ | refine acode_block ?_ | refine acode_skip ?_ | refine then_n ?_ | refine block_n ?_)
        refine aops_litn tok rfl rfl rfl rfl rfl rfl rfl ?_
        refine aops_append tok 0 (m := 1) rfl rfl rfl (.inl rfl) rfl rfl (by rw [encs_len (e := toC) (s := 5) (fun _ => rfl), tks_len]) rfl rfl rfl (by show _ * 40 ≤ _; omega) (by omega) rfl rfl fun ob' cap' => ?_
        repeat (first | refine aops_put rfl ?_ | refine aops_end ?_ | refine aops_endb ?_ | refine aops_o rfl rfl rfl ?_ | refine aops_max tok rfl rfl rfl rfl rfl rfl ?_ | refine aops_min tok rfl rfl rfl rfl rfl rfl ?_ | refine aops_a tok rfl (by omega) (by omega) rfl rfl rfl ?_ | refine aops_p tok rfl rfl rfl rfl ?_ | refine aops_ixa tok rfl rfl rfl (by decide) rfl rfl rfl rfl ?_ | refine aops_ld tok 0 rfl rfl rfl rfl rfl rfl rfl rfl ?_ | refine aops_ld tok 1 rfl rfl rfl rfl rfl rfl rfl rfl ?_ | refine aops_stn tok rfl rfl rfl rfl rfl rfl rfl rfl rfl ?_ | refine aops_stn1 tok rfl rfl rfl rfl rfl rfl rfl rfl rfl ?_ | refine acode_seq ?_ | refine acode_region ?_ | refine acode_block ?_ | refine acode_skip ?_ | refine then_n ?_ | refine block_n ?_)
        exact ⟨(i + 1, ob', cap'), by simp; omega, by simp; omega, ⟨rfl, rfl, rfl, rfl, rfl, rfl, trivial⟩, by simp only; rw [htk]; rfl⟩
      · have hge : i = 2 * (d + 1) + 1 := by omega
        subst hge
        refine acode_exit ?_
        repeat (first | refine exit_then ?_ | refine exit_here ?_ | refine exit_out rfl ?_ | refine ret_then ?_ | refine ret_block ?_ | refine then_n ?_ | refine block_n ?_)
        refine acode_pub0 11 5 rfl rfl (by rw [encs_len (e := toC) (s := 5) (fun _ => rfl), tks_len]) rfl ?_
        have hpa : PaOk (paG (cl.map c3) [own] (tksN (2 * (d + 1) + 1))) := paN_ok (by omega) (by omega)
        have hme := ch_meas hpa (n := d + 1) rfl (Nat.le_refl _)
        obtain ⟨w, hw, hpn⟩ := ch_pnt hpa (n := d + 1) (own := own) rfl rfl (Nat.le_refl _)
        have hof := of_calls (rc := cl.map c3) (kc := [own]) hme hpn (by omega) []
        have hlen := chP_len (d + 1) own (fun k => clF (cl.map c3) k) (d + 1) 0 []
        rw [List.length_nil] at hlen
        have hat : ∀ b : Int, 0 ≤ b → b ≤ 4 * ((d + 1 : Nat) : Int) → atF (chP (d + 1) own (fun k => clF (cl.map c3) k) (d + 1) 0 []) b = fin (d + 1) own (fun k => clF (cl.map c3) k) b := fun b b0 b1 => ch_at (by omega) b0 b1
        change ACalls Try.prog _ _ [] (fun r M' => r = .psl (chP (d + 1) own (fun k => clF (cl.map c3) k) (d + 1) 0 []).length (encs spC (chP (d + 1) own (fun k => clF (cl.map c3) k) (d + 1) 0 [])) ∧ M' = []) at hof
        generalize chP (d + 1) own (fun k => clF (cl.map c3) k) (d + 1) 0 [] = L at *
        repeat (first | refine aops_put rfl ?_ | refine aops_end ?_ | refine aops_endb ?_ | refine aops_o rfl rfl rfl ?_ | refine aops_max tok rfl rfl rfl rfl rfl rfl ?_ | refine aops_min tok rfl rfl rfl rfl rfl rfl ?_ | refine aops_a tok rfl (by omega) (by omega) rfl rfl rfl ?_ | refine aops_p tok rfl rfl rfl rfl ?_ | refine aops_ixa tok rfl rfl rfl (by decide) rfl rfl rfl rfl ?_ | refine aops_ld tok 0 rfl rfl rfl rfl rfl rfl rfl rfl ?_ | refine aops_ld tok 1 rfl rfl rfl rfl rfl rfl rfl rfl ?_ | refine aops_stn tok rfl rfl rfl rfl rfl rfl rfl rfl rfl ?_ | refine aops_stn1 tok rfl rfl rfl rfl rfl rfl rfl rfl rfl ?_ | refine acode_seq ?_ | refine acode_region ?_ | refine acode_block ?_ | refine acode_skip ?_ | refine then_n ?_ | refine block_n ?_)
        refine aops_callx Try.func15 rfl rfl rfl rfl (acalls_as (.cons (.agg (.cons (.refl _) (.cons (.refl _) (.cons (.refl _) (.cons .nils (.cons .nils (.cons (by rw [hrl]; exact .refl _) (.cons (.refl _) .nil)))))))) (.cons (.agg (vw_ch (d + 1) (d + 1))) (.cons (by rw [tks_len]; exact .refl _) .nil))) hof) rfl rfl rfl ?_
        repeat (first | refine aops_put rfl ?_ | refine aops_end ?_ | refine aops_endb ?_ | refine aops_o rfl rfl rfl ?_ | refine aops_max tok rfl rfl rfl rfl rfl rfl ?_ | refine aops_min tok rfl rfl rfl rfl rfl rfl ?_ | refine aops_a tok rfl (by omega) (by omega) rfl rfl rfl ?_ | refine aops_p tok rfl rfl rfl rfl ?_ | refine aops_ixa tok rfl rfl rfl (by decide) rfl rfl rfl rfl ?_ | refine aops_ld tok 0 rfl rfl rfl rfl rfl rfl rfl rfl ?_ | refine aops_ld tok 1 rfl rfl rfl rfl rfl rfl rfl rfl ?_ | refine aops_stn tok rfl rfl rfl rfl rfl rfl rfl rfl rfl ?_ | refine aops_stn1 tok rfl rfl rfl rfl rfl rfl rfl rfl rfl ?_ | refine acode_seq ?_ | refine acode_region ?_ | refine acode_block ?_ | refine acode_skip ?_ | refine then_n ?_ | refine block_n ?_)
        refine acode_loopS (ι := Nat) (fun j => [(1, .int .i64 own), (6, .int .i64 ((d + 1 : Nat) : Int)), (7, .pp [.int .i64 0, .int .i64 1, .int .i64 0, .nils, .nils, .psl (d + 1) (ints (cl.map c3)), .psl 1 [.int .i64 own]]), (13, .psl L.length (encs spC L)), (14, .int .i64 j)]) (fun _ => []) (fun j => 4 * (d + 1) + 1 - j) (fun j => j ≤ 4 * (d + 1) + 1) 0 (Nat.zero_le _) ⟨rfl, rfl, rfl, rfl, rfl, trivial⟩ rfl ?_
        intro j hj
        repeat (first | refine aops_put rfl ?_ | refine aops_end ?_ | refine aops_endb ?_ | refine aops_o rfl rfl rfl ?_ | refine aops_max tok rfl rfl rfl rfl rfl rfl ?_ | refine aops_min tok rfl rfl rfl rfl rfl rfl ?_ | refine aops_a tok rfl (by omega) (by omega) rfl rfl rfl ?_ | refine aops_p tok rfl rfl rfl rfl ?_ | refine aops_ixa tok rfl rfl rfl (by decide) rfl rfl rfl rfl ?_ | refine aops_ld tok 0 rfl rfl rfl rfl rfl rfl rfl rfl ?_ | refine aops_ld tok 1 rfl rfl rfl rfl rfl rfl rfl rfl ?_ | refine aops_stn tok rfl rfl rfl rfl rfl rfl rfl rfl rfl ?_ | refine aops_stn1 tok rfl rfl rfl rfl rfl rfl rfl rfl rfl ?_ | refine acode_seq ?_ | refine acode_region ?_ | refine acode_block ?_ | refine acode_skip ?_ | refine then_n ?_ | refine block_n ?_)
        refine acode_id rfl (fun e => ?_) (fun e => ?_)
        · have hatj := hat j (by omega) (by omega)
          repeat (first | refine aops_put rfl ?_ | refine aops_end ?_ | refine aops_endb ?_ | refine aops_o rfl rfl rfl ?_ | refine aops_max tok rfl rfl rfl rfl rfl rfl ?_ | refine aops_min tok rfl rfl rfl rfl rfl rfl ?_ | refine aops_a tok rfl (by omega) (by omega) rfl rfl rfl ?_ | refine aops_p tok rfl rfl rfl rfl ?_ | refine aops_ixa tok rfl rfl rfl (by decide) rfl rfl rfl rfl ?_ | refine aops_ld tok 0 rfl rfl rfl rfl rfl rfl rfl rfl ?_ | refine aops_ld tok 1 rfl rfl rfl rfl rfl rfl rfl rfl ?_ | refine aops_stn tok rfl rfl rfl rfl rfl rfl rfl rfl rfl ?_ | refine aops_stn1 tok rfl rfl rfl rfl rfl rfl rfl rfl rfl ?_ | refine acode_seq ?_ | refine acode_region ?_ | refine acode_block ?_ | refine acode_skip ?_ | refine then_n ?_ | refine block_n ?_)
          refine aops_quo rfl rfl rfl (by omega) (by omega) (by decide) rfl rfl rfl ?_
          repeat (first | refine aops_put rfl ?_ | refine aops_end ?_ | refine aops_endb ?_ | refine aops_o rfl rfl rfl ?_ | refine aops_max tok rfl rfl rfl rfl rfl rfl ?_ | refine aops_min tok rfl rfl rfl rfl rfl rfl ?_ | refine aops_a tok rfl (by omega) (by omega) rfl rfl rfl ?_ | refine aops_p tok rfl rfl rfl rfl ?_ | refine aops_ixa tok rfl rfl rfl (by decide) rfl rfl rfl rfl ?_ | refine aops_ld tok 0 rfl rfl rfl rfl rfl rfl rfl rfl ?_ | refine aops_ld tok 1 rfl rfl rfl rfl rfl rfl rfl rfl ?_ | refine aops_stn tok rfl rfl rfl rfl rfl rfl rfl rfl rfl ?_ | refine aops_stn1 tok rfl rfl rfl rfl rfl rfl rfl rfl rfl ?_ | refine acode_seq ?_ | refine acode_region ?_ | refine acode_block ?_ | refine acode_skip ?_ | refine then_n ?_ | refine block_n ?_)
          refine acode_join [(1, .int .i64 own), (6, .int .i64 ((d + 1 : Nat) : Int)), (7, .pp [.int .i64 0, .int .i64 1, .int .i64 0, .nils, .nils, .psl (d + 1) (ints (cl.map c3)), .psl 1 [.int .i64 own]]), (13, .psl L.length (encs spC L)), (14, .int .i64 j), (15, .int .i64 (if (j : Int) > 2 * ((d + 1 : Nat) : Int) then (4 * ((d + 1 : Nat) : Int) - j) / 2 else (j : Int) / 2))] [] ?_ ?_
          · refine acode_id rfl (fun h => ?_) (fun h => ?_)
            · repeat (first | refine aops_put rfl ?_ | refine aops_end ?_ | refine aops_endb ?_ | refine aops_o rfl rfl rfl ?_ | refine aops_max tok rfl rfl rfl rfl rfl rfl ?_ | refine aops_min tok rfl rfl rfl rfl rfl rfl ?_ | refine aops_a tok rfl (by omega) (by omega) rfl rfl rfl ?_ | refine aops_p tok rfl rfl rfl rfl ?_ | refine aops_ixa tok rfl rfl rfl (by decide) rfl rfl rfl rfl ?_ | refine aops_ld tok 0 rfl rfl rfl rfl rfl rfl rfl rfl ?_ | refine aops_ld tok 1 rfl rfl rfl rfl rfl rfl rfl rfl ?_ | refine aops_stn tok rfl rfl rfl rfl rfl rfl rfl rfl rfl ?_ | refine aops_stn1 tok rfl rfl rfl rfl rfl rfl rfl rfl rfl ?_ | refine acode_seq ?_ | refine acode_region ?_ | refine acode_block ?_ | refine acode_skip ?_ | refine then_n ?_ | refine block_n ?_)
              refine aops_quo rfl rfl rfl (by omega) (by omega) (by decide) rfl rfl rfl ?_
              repeat (first | refine aops_put rfl ?_ | refine aops_end ?_ | refine aops_endb ?_ | refine aops_o rfl rfl rfl ?_ | refine aops_max tok rfl rfl rfl rfl rfl rfl ?_ | refine aops_min tok rfl rfl rfl rfl rfl rfl ?_ | refine aops_a tok rfl (by omega) (by omega) rfl rfl rfl ?_ | refine aops_p tok rfl rfl rfl rfl ?_ | refine aops_ixa tok rfl rfl rfl (by decide) rfl rfl rfl rfl ?_ | refine aops_ld tok 0 rfl rfl rfl rfl rfl rfl rfl rfl ?_ | refine aops_ld tok 1 rfl rfl rfl rfl rfl rfl rfl rfl ?_ | refine aops_stn tok rfl rfl rfl rfl rfl rfl rfl rfl rfl ?_ | refine aops_stn1 tok rfl rfl rfl rfl rfl rfl rfl rfl rfl ?_ | refine acode_seq ?_ | refine acode_region ?_ | refine acode_block ?_ | refine acode_skip ?_ | refine then_n ?_ | refine block_n ?_)
              exact ⟨⟨rfl, rfl, rfl, rfl, rfl, by show A.int _ _ = A.int _ _; rw [if_pos h], trivial⟩, rfl⟩
            · repeat (first | refine aops_put rfl ?_ | refine aops_end ?_ | refine aops_endb ?_ | refine aops_o rfl rfl rfl ?_ | refine aops_max tok rfl rfl rfl rfl rfl rfl ?_ | refine aops_min tok rfl rfl rfl rfl rfl rfl ?_ | refine aops_a tok rfl (by omega) (by omega) rfl rfl rfl ?_ | refine aops_p tok rfl rfl rfl rfl ?_ | refine aops_ixa tok rfl rfl rfl (by decide) rfl rfl rfl rfl ?_ | refine aops_ld tok 0 rfl rfl rfl rfl rfl rfl rfl rfl ?_ | refine aops_ld tok 1 rfl rfl rfl rfl rfl rfl rfl rfl ?_ | refine aops_stn tok rfl rfl rfl rfl rfl rfl rfl rfl rfl ?_ | refine aops_stn1 tok rfl rfl rfl rfl rfl rfl rfl rfl rfl ?_ | refine acode_seq ?_ | refine acode_region ?_ | refine acode_block ?_ | refine acode_skip ?_ | refine then_n ?_ | refine block_n ?_)
              exact ⟨⟨rfl, rfl, rfl, rfl, rfl, by show A.int _ _ = A.int _ _; rw [if_neg h], trivial⟩, rfl⟩
          have hdp : dpN (d + 1) j = min (if (j : Int) > 2 * ((d + 1 : Nat) : Int) then (4 * ((d + 1 : Nat) : Int) - j) / 2 else (j : Int) / 2) (((d + 1 : Nat) : Int) - 1) := rfl
          have hb0 : 0 ≤ (if (j : Int) > 2 * ((d + 1 : Nat) : Int) then (4 * ((d + 1 : Nat) : Int) - j) / 2 else (j : Int) / 2) ∧ (if (j : Int) > 2 * ((d + 1 : Nat) : Int) then (4 * ((d + 1 : Nat) : Int) - j) / 2 else (j : Int) / 2) ≤ 1000 := by split <;> omega
          generalize (if (j : Int) > 2 * ((d + 1 : Nat) : Int) then (4 * ((d + 1 : Nat) : Int) - j) / 2 else (j : Int) / 2) = x at *
          repeat (first | refine aops_put rfl ?_ | refine aops_end ?_ | refine aops_endb ?_ | refine aops_o rfl rfl rfl ?_ | refine aops_max tok rfl rfl rfl rfl rfl rfl ?_ | refine aops_min tok rfl rfl rfl rfl rfl rfl ?_ | refine aops_a tok rfl (by omega) (by omega) rfl rfl rfl ?_ | refine aops_p tok rfl rfl rfl rfl ?_ | refine aops_ixa tok rfl rfl rfl (by decide) rfl rfl rfl rfl ?_ | refine aops_ld tok 0 rfl rfl rfl rfl rfl rfl rfl rfl ?_ | refine aops_ld tok 1 rfl rfl rfl rfl rfl rfl rfl rfl ?_ | refine aops_stn tok rfl rfl rfl rfl rfl rfl rfl rfl rfl ?_ | refine aops_stn1 tok rfl rfl rfl rfl rfl rfl rfl rfl rfl ?_ | refine acode_seq ?_ | refine acode_region ?_ | refine acode_block ?_ | refine acode_skip ?_ | refine then_n ?_ | refine block_n ?_)
          refine acode_join [(1, .int .i64 own), (6, .int .i64 ((d + 1 : Nat) : Int)), (7, .pp [.int .i64 0, .int .i64 1, .int .i64 0, .nils, .nils, .psl (d + 1) (ints (cl.map c3)), .psl 1 [.int .i64 own]]), (13, .psl L.length (encs spC L)), (14, .int .i64 j), (15, .int .i64 (dpN (d + 1) j))] [] ?_ ?_
          · refine acode_id rfl (fun h => ?_) (fun h => ?_)
            · repeat (first | refine aops_put rfl ?_ | refine aops_end ?_ | refine aops_endb ?_ | refine aops_o rfl rfl rfl ?_ | refine aops_max tok rfl rfl rfl rfl rfl rfl ?_ | refine aops_min tok rfl rfl rfl rfl rfl rfl ?_ | refine aops_a tok rfl (by omega) (by omega) rfl rfl rfl ?_ | refine aops_p tok rfl rfl rfl rfl ?_ | refine aops_ixa tok rfl rfl rfl (by decide) rfl rfl rfl rfl ?_ | refine aops_ld tok 0 rfl rfl rfl rfl rfl rfl rfl rfl ?_ | refine aops_ld tok 1 rfl rfl rfl rfl rfl rfl rfl rfl ?_ | refine aops_stn tok rfl rfl rfl rfl rfl rfl rfl rfl rfl ?_ | refine aops_stn1 tok rfl rfl rfl rfl rfl rfl rfl rfl rfl ?_ | refine acode_seq ?_ | refine acode_region ?_ | refine acode_block ?_ | refine acode_skip ?_ | refine then_n ?_ | refine block_n ?_)
              exact ⟨⟨rfl, rfl, rfl, rfl, rfl, by show A.int _ _ = A.int _ _; congr 1; omega, trivial⟩, rfl⟩
            · repeat (first | refine aops_put rfl ?_ | refine aops_end ?_ | refine aops_endb ?_ | refine aops_o rfl rfl rfl ?_ | refine aops_max tok rfl rfl rfl rfl rfl rfl ?_ | refine aops_min tok rfl rfl rfl rfl rfl rfl ?_ | refine aops_a tok rfl (by omega) (by omega) rfl rfl rfl ?_ | refine aops_p tok rfl rfl rfl rfl ?_ | refine aops_ixa tok rfl rfl rfl (by decide) rfl rfl rfl rfl ?_ | refine aops_ld tok 0 rfl rfl rfl rfl rfl rfl rfl rfl ?_ | refine aops_ld tok 1 rfl rfl rfl rfl rfl rfl rfl rfl ?_ | refine aops_stn tok rfl rfl rfl rfl rfl rfl rfl rfl rfl ?_ | refine aops_stn1 tok rfl rfl rfl rfl rfl rfl rfl rfl rfl ?_ | refine acode_seq ?_ | refine acode_region ?_ | refine acode_block ?_ | refine acode_skip ?_ | refine then_n ?_ | refine block_n ?_)
              exact ⟨⟨rfl, rfl, rfl, rfl, rfl, by show A.int _ _ = A.int _ _; congr 1; omega, trivial⟩, rfl⟩
          have hd0 : 0 ≤ dpN (d + 1) j ∧ dpN (d + 1) j ≤ d := by omega
          have hfin : fin (d + 1) own (fun k => clF (cl.map c3) k) j = if (j : Int) % 2 = 0 ∧ own > 0 then own else wv (fun k => clF (cl.map c3) k) ((dpN (d + 1) j).toNat + 1) := rfl
          generalize dpN (d + 1) j = dp at *
          clear hdp hb0 x
          repeat (first | refine aops_put rfl ?_ | refine aops_end ?_ | refine aops_endb ?_ | refine aops_o rfl rfl rfl ?_ | refine aops_max tok rfl rfl rfl rfl rfl rfl ?_ | refine aops_min tok rfl rfl rfl rfl rfl rfl ?_ | refine aops_a tok rfl (by omega) (by omega) rfl rfl rfl ?_ | refine aops_p tok rfl rfl rfl rfl ?_ | refine aops_ixa tok rfl rfl rfl (by decide) rfl rfl rfl rfl ?_ | refine aops_ld tok 0 rfl rfl rfl rfl rfl rfl rfl rfl ?_ | refine aops_ld tok 1 rfl rfl rfl rfl rfl rfl rfl rfl ?_ | refine aops_stn tok rfl rfl rfl rfl rfl rfl rfl rfl rfl ?_ | refine aops_stn1 tok rfl rfl rfl rfl rfl rfl rfl rfl rfl ?_ | refine acode_seq ?_ | refine acode_region ?_ | refine acode_block ?_ | refine acode_skip ?_ | refine then_n ?_ | refine block_n ?_)
          refine acode_loopS (ι := Nat) (fun k => [(1, .int .i64 own), (6, .int .i64 ((d + 1 : Nat) : Int)), (7, .pp [.int .i64 0, .int .i64 1, .int .i64 0, .nils, .nils, .psl (d + 1) (ints (cl.map c3)), .psl 1 [.int .i64 own]]), (13, .psl L.length (encs spC L)), (14, .int .i64 j), (15, .int .i64 dp), (16, .int .i64 (wv (fun k => clF (cl.map c3) k) k)), (17, .int .i64 k)]) (fun _ => []) (fun k => dp.toNat + 1 - k) (fun k => k ≤ dp.toNat + 1) 0 (Nat.zero_le _) ⟨rfl, rfl, rfl, rfl, rfl, rfl, rfl, rfl, trivial⟩ rfl ?_
          intro k hk
          repeat (first | refine aops_put rfl ?_ | refine aops_end ?_ | refine aops_endb ?_ | refine aops_o rfl rfl rfl ?_ | refine aops_max tok rfl rfl rfl rfl rfl rfl ?_ | refine aops_min tok rfl rfl rfl rfl rfl rfl ?_ | refine aops_a tok rfl (by omega) (by omega) rfl rfl rfl ?_ | refine aops_p tok rfl rfl rfl rfl ?_ | refine aops_ixa tok rfl rfl rfl (by decide) rfl rfl rfl rfl ?_ | refine aops_ld tok 0 rfl rfl rfl rfl rfl rfl rfl rfl ?_ | refine aops_ld tok 1 rfl rfl rfl rfl rfl rfl rfl rfl ?_ | refine aops_stn tok rfl rfl rfl rfl rfl rfl rfl rfl rfl ?_ | refine aops_stn1 tok rfl rfl rfl rfl rfl rfl rfl rfl rfl ?_ | refine acode_seq ?_ | refine acode_region ?_ | refine acode_block ?_ | refine acode_skip ?_ | refine then_n ?_ | refine block_n ?_)
          refine acode_id rfl (fun e3 => ?_) (fun e3 => ?_)
          · have hgk := cl_at (l := cl.map c3) (i := k) (by omega) (by omega)
            repeat (first | refine aops_put rfl ?_ | refine aops_end ?_ | refine aops_endb ?_ | refine aops_o rfl rfl rfl ?_ | refine aops_max tok rfl rfl rfl rfl rfl rfl ?_ | refine aops_min tok rfl rfl rfl rfl rfl rfl ?_ | refine aops_a tok rfl (by omega) (by omega) rfl rfl rfl ?_ | refine aops_p tok rfl rfl rfl rfl ?_ | refine aops_ixa tok rfl rfl rfl (by decide) rfl rfl rfl rfl ?_ | refine aops_ld tok 0 rfl rfl rfl rfl rfl rfl rfl rfl ?_ | refine aops_ld tok 1 rfl rfl rfl rfl rfl rfl rfl rfl ?_ | refine aops_stn tok rfl rfl rfl rfl rfl rfl rfl rfl rfl ?_ | refine aops_stn1 tok rfl rfl rfl rfl rfl rfl rfl rfl rfl ?_ | refine acode_seq ?_ | refine acode_region ?_ | refine acode_block ?_ | refine acode_skip ?_ | refine then_n ?_ | refine block_n ?_)
            refine aops_ix tok [A.int .i64 (clF (cl.map c3) k)] rfl rfl rfl rfl (by omega) (by omega) (by simp) (ints_at hgk) rfl rfl rfl ?_
            repeat' (first | refine aops_put rfl ?_ | refine aops_end ?_ | refine aops_endb ?_ | refine aops_o rfl rfl rfl ?_ | refine aops_max tok rfl rfl rfl rfl rfl rfl ?_ | refine aops_min tok rfl rfl rfl rfl rfl rfl ?_ | refine aops_a tok rfl (by omega) (by omega) rfl rfl rfl ?_ | (refine aops_pd tok rfl rfl rfl rfl ?_ ?_ <;> intro e_) | (refine aops_pe tok rfl rfl rfl rfl ?_ ?_ <;> intro e_) | (refine aops_pn tok rfl rfl rfl rfl ?_ ?_ <;> intro e_) | refine aops_p tok rfl rfl rfl rfl ?_ | refine acode_it rfl ?_ | refine acode_if rfl ?_ | refine aops_ixa tok rfl rfl rfl (by decide) rfl rfl rfl rfl ?_ | refine aops_ld tok 0 rfl rfl rfl rfl rfl rfl rfl rfl ?_ | refine aops_ld tok 1 rfl rfl rfl rfl rfl rfl rfl rfl ?_ | refine aops_stn tok rfl rfl rfl rfl rfl rfl rfl rfl rfl ?_ | refine aops_stn1 tok rfl rfl rfl rfl rfl rfl rfl rfl rfl ?_ | refine acode_seq ?_ | refine acode_region ?_ | refine acode_block ?_ | refine acode_skip ?_ | refine then_n ?_ | refine block_n ?_)
            · refine aops_ix tok [A.int .i64 (clF (cl.map c3) k)] rfl rfl rfl rfl (by omega) (by omega) (by simp) (ints_at hgk) rfl rfl rfl ?_
              repeat (first | refine aops_put rfl ?_ | refine aops_end ?_ | refine aops_endb ?_ | refine aops_o rfl rfl rfl ?_ | refine aops_max tok rfl rfl rfl rfl rfl rfl ?_ | refine aops_min tok rfl rfl rfl rfl rfl rfl ?_ | refine aops_a tok rfl (by omega) (by omega) rfl rfl rfl ?_ | refine aops_p tok rfl rfl rfl rfl ?_ | refine aops_ixa tok rfl rfl rfl (by decide) rfl rfl rfl rfl ?_ | refine aops_ld tok 0 rfl rfl rfl rfl rfl rfl rfl rfl ?_ | refine aops_ld tok 1 rfl rfl rfl rfl rfl rfl rfl rfl ?_ | refine aops_stn tok rfl rfl rfl rfl rfl rfl rfl rfl rfl ?_ | refine aops_stn1 tok rfl rfl rfl rfl rfl rfl rfl rfl rfl ?_ | refine acode_seq ?_ | refine acode_region ?_ | refine acode_block ?_ | refine acode_skip ?_ | refine then_n ?_ | refine block_n ?_)
              exact ⟨k + 1, by omega, by omega, ⟨rfl, rfl, rfl, rfl, rfl, rfl, by show A.int _ _ = A.int _ (ei (clF (cl.map c3) k) _); unfold ei; rw [if_pos e_], rfl, trivial⟩, rfl⟩
            · exact ⟨k + 1, by omega, by omega, ⟨rfl, rfl, rfl, rfl, rfl, rfl, by show A.int _ _ = A.int _ (ei (clF (cl.map c3) k) _); unfold ei; rw [if_neg e_], rfl, trivial⟩, rfl⟩
          · have hge : k = dp.toNat + 1 := by omega
            subst hge
            refine acode_exit ?_
            repeat (first | refine exit_then ?_ | refine exit_here ?_ | refine exit_out rfl ?_ | refine ret_then ?_ | refine ret_block ?_ | refine then_n ?_ | refine block_n ?_)
            repeat (first | refine aops_put rfl ?_ | refine aops_end ?_ | refine aops_endb ?_ | refine aops_o rfl rfl rfl ?_ | refine aops_max tok rfl rfl rfl rfl rfl rfl ?_ | refine aops_min tok rfl rfl rfl rfl rfl rfl ?_ | refine aops_a tok rfl (by omega) (by omega) rfl rfl rfl ?_ | refine aops_p tok rfl rfl rfl rfl ?_ | refine aops_ixa tok rfl rfl rfl (by decide) rfl rfl rfl rfl ?_ | refine aops_ld tok 0 rfl rfl rfl rfl rfl rfl rfl rfl ?_ | refine aops_ld tok 1 rfl rfl rfl rfl rfl rfl rfl rfl ?_ | refine aops_stn tok rfl rfl rfl rfl rfl rfl rfl rfl rfl ?_ | refine aops_stn1 tok rfl rfl rfl rfl rfl rfl rfl rfl rfl ?_ | refine acode_seq ?_ | refine acode_region ?_ | refine acode_block ?_ | refine acode_skip ?_ | refine then_n ?_ | refine block_n ?_)
            refine aops_rem rfl rfl rfl (by omega) (by omega) (by decide) rfl rfl rfl ?_
            rw [hfin] at hatj
            repeat' (first | refine aops_put rfl ?_ | refine aops_end ?_ | refine aops_endb ?_ | refine aops_o rfl rfl rfl ?_ | refine aops_max tok rfl rfl rfl rfl rfl rfl ?_ | refine aops_min tok rfl rfl rfl rfl rfl rfl ?_ | refine aops_a tok rfl (by omega) (by omega) rfl rfl rfl ?_ | (refine aops_pd tok rfl rfl rfl rfl ?_ ?_ <;> intro e_) | (refine aops_pe tok rfl rfl rfl rfl ?_ ?_ <;> intro e_) | (refine aops_pn tok rfl rfl rfl rfl ?_ ?_ <;> intro e_) | refine aops_p tok rfl rfl rfl rfl ?_ | refine acode_it rfl ?_ | refine acode_if rfl ?_ | refine aops_ixa tok rfl rfl rfl (by decide) rfl rfl rfl rfl ?_ | refine aops_ld tok 0 rfl rfl rfl rfl rfl rfl rfl rfl ?_ | refine aops_ld tok 1 rfl rfl rfl rfl rfl rfl rfl rfl ?_ | refine aops_stn tok rfl rfl rfl rfl rfl rfl rfl rfl rfl ?_ | refine aops_stn1 tok rfl rfl rfl rfl rfl rfl rfl rfl rfl ?_ | refine acode_seq ?_ | refine acode_region ?_ | refine acode_block ?_ | refine acode_skip ?_ | refine then_n ?_ | refine block_n ?_)
            all_goals
              refine aops_callx Try.func16 rfl rfl rfl rfl (spAt_calls (by omega) []) rfl rfl rfl ?_
              repeat' (first | refine aops_put rfl ?_ | refine aops_end ?_ | refine aops_endb ?_ | refine aops_o rfl rfl rfl ?_ | refine aops_max tok rfl rfl rfl rfl rfl rfl ?_ | refine aops_min tok rfl rfl rfl rfl rfl rfl ?_ | refine aops_a tok rfl (by omega) (by omega) rfl rfl rfl ?_ | (refine aops_pd tok rfl rfl rfl rfl ?_ ?_ <;> intro e_) | (refine aops_pe tok rfl rfl rfl rfl ?_ ?_ <;> intro e_) | (refine aops_pn tok rfl rfl rfl rfl ?_ ?_ <;> intro e_) | refine aops_p tok rfl rfl rfl rfl ?_ | refine acode_it rfl ?_ | refine acode_if rfl ?_ | refine aops_ixa tok rfl rfl rfl (by decide) rfl rfl rfl rfl ?_ | refine aops_ld tok 0 rfl rfl rfl rfl rfl rfl rfl rfl ?_ | refine aops_ld tok 1 rfl rfl rfl rfl rfl rfl rfl rfl ?_ | refine aops_stn tok rfl rfl rfl rfl rfl rfl rfl rfl rfl ?_ | refine aops_stn1 tok rfl rfl rfl rfl rfl rfl rfl rfl rfl ?_ | refine acode_seq ?_ | refine acode_region ?_ | refine acode_block ?_ | refine acode_skip ?_ | refine then_n ?_ | refine block_n ?_)
              · first
                  | (rw [if_pos ⟨by assumption, by assumption⟩] at hatj; exact absurd hatj e_)
                  | (rw [if_neg (by omega)] at hatj; exact absurd hatj e_)
              · exact ⟨j + 1, by omega, by omega, ⟨rfl, rfl, rfl, rfl, rfl, trivial⟩, rfl⟩
        · refine acode_exit ?_
          repeat (first | refine exit_then ?_ | refine exit_here ?_ | refine exit_out rfl ?_ | refine ret_then ?_ | refine ret_block ?_ | refine then_n ?_ | refine block_n ?_)
          repeat (first | refine aops_put rfl ?_ | refine aops_end ?_ | refine aops_endb ?_ | refine aops_o rfl rfl rfl ?_ | refine aops_max tok rfl rfl rfl rfl rfl rfl ?_ | refine aops_min tok rfl rfl rfl rfl rfl rfl ?_ | refine aops_a tok rfl (by omega) (by omega) rfl rfl rfl ?_ | refine aops_p tok rfl rfl rfl rfl ?_ | refine aops_ixa tok rfl rfl rfl (by decide) rfl rfl rfl rfl ?_ | refine aops_ld tok 0 rfl rfl rfl rfl rfl rfl rfl rfl ?_ | refine aops_ld tok 1 rfl rfl rfl rfl rfl rfl rfl rfl ?_ | refine aops_stn tok rfl rfl rfl rfl rfl rfl rfl rfl rfl ?_ | refine aops_stn1 tok rfl rfl rfl rfl rfl rfl rfl rfl rfl ?_ | refine acode_seq ?_ | refine acode_region ?_ | refine acode_block ?_ | refine acode_skip ?_ | refine then_n ?_ | refine block_n ?_)
          refine acode_ret ?_
          repeat (first | refine exit_then ?_ | refine exit_here ?_ | refine exit_out rfl ?_ | refine ret_then ?_ | refine ret_block ?_ | refine then_n ?_ | refine block_n ?_)
          exact ⟨_, rfl, resOf_tmp rfl⟩
set_option maxHeartbeats 4000000 in
theorem nested_else {cl : List Int} {own : Int} (h : ¬ (1 ≤ cl.length ∧ cl.length ≤ 20 ∧ 0 ≤ own ∧ own ≤ 100)) : ACalls Try.prog 4 [.psl cl.length (ints cl), .int .i64 own] [] (fun r _ => r = .bool true) := by
  refine acalls_of_code 147 Try.func4 rfl rfl rfl ?_
  repeat (first | refine aops_put rfl ?_ | refine aops_end ?_ | refine aops_endb ?_ | refine aops_o rfl rfl rfl ?_ | refine aops_max tok rfl rfl rfl rfl rfl rfl ?_ | refine aops_min tok rfl rfl rfl rfl rfl rfl ?_ | refine aops_a tok rfl (by omega) (by omega) rfl rfl rfl ?_ | refine aops_p tok rfl rfl rfl rfl ?_ | refine aops_ixa tok rfl rfl rfl (by decide) rfl rfl rfl rfl ?_ | refine aops_ld tok 0 rfl rfl rfl rfl rfl rfl rfl rfl ?_ | refine aops_ld tok 1 rfl rfl rfl rfl rfl rfl rfl rfl ?_ | refine aops_stn tok rfl rfl rfl rfl rfl rfl rfl rfl rfl ?_ | refine aops_stn1 tok rfl rfl rfl rfl rfl rfl rfl rfl rfl ?_ | refine acode_seq ?_ | refine acode_region ?_ | refine acode_block ?_ | refine acode_skip ?_ | refine then_n ?_ | refine block_n ?_)
  refine aops_callx Try.func9 rfl rfl rfl rfl (alive25_calls _) rfl rfl rfl ?_
  repeat' (first | refine aops_put rfl ?_ | refine aops_end ?_ | refine aops_endb ?_ | refine aops_o rfl rfl rfl ?_ | refine aops_max tok rfl rfl rfl rfl rfl rfl ?_ | refine aops_min tok rfl rfl rfl rfl rfl rfl ?_ | refine aops_a tok rfl (by omega) (by omega) rfl rfl rfl ?_ | (refine aops_pd tok rfl rfl rfl rfl ?_ ?_ <;> intro e_) | (refine aops_pe tok rfl rfl rfl rfl ?_ ?_ <;> intro e_) | (refine aops_pn tok rfl rfl rfl rfl ?_ ?_ <;> intro e_) | refine aops_p tok rfl rfl rfl rfl ?_ | refine acode_it rfl ?_ | refine acode_if rfl ?_ | refine aops_ixa tok rfl rfl rfl (by decide) rfl rfl rfl rfl ?_ | refine aops_ld tok 0 rfl rfl rfl rfl rfl rfl rfl rfl ?_ | refine aops_ld tok 1 rfl rfl rfl rfl rfl rfl rfl rfl ?_ | refine aops_stn tok rfl rfl rfl rfl rfl rfl rfl rfl rfl ?_ | refine aops_stn1 tok rfl rfl rfl rfl rfl rfl rfl rfl rfl ?_ | refine acode_seq ?_ | refine acode_region ?_ | refine acode_block ?_ | refine acode_skip ?_ | refine then_n ?_ | refine block_n ?_)
  all_goals first
    | (exfalso; omega)
    | (refine acode_ret ?_
       repeat (first | refine exit_then ?_ | refine exit_here ?_ | refine exit_out rfl ?_ | refine ret_then ?_ | refine ret_block ?_ | refine then_n ?_ | refine block_n ?_)
       exact ⟨_, rfl, resOf_tmp rfl⟩)
theorem spansNested_calls (zs : List A) (h : GoodL T [24, 3] zs) : ACalls Try.prog 4 zs [] (fun r _ => r = .bool true) := by
  obtain ⟨_, _, rfl, ⟨f1, g1⟩, _, _, rfl, ⟨f2, g2⟩, rfl⟩ := h
  obtain ⟨l, rfl, hl⟩ := good_ints (e := 3) (k := .i64) rfl rfl g1
  obtain ⟨own, rfl, _⟩ := good_int (k := .i64) rfl g2
  by_cases hh : 1 ≤ l.length ∧ l.length ≤ 20 ∧ 0 ≤ own ∧ own ≤ 100
  · exact nested_main hh.1 hh.2.1 hh.2.2.1 hh.2.2.2
  · exact nested_else hh
end Go.Proofs.Ytbnhmioijeagiaa.Ab

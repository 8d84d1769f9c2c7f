/- Texts of this proof, one behind the other (ChF, AbU, RfA, RfB, Tpo, RfP, RfC, RfD, Neb, Cu2, Bth, RfE, RfF, For6, RfG, RfH, RfI, Al24, Smt, For7, Unf6). No condition. -/
import Derived.Test.YtbnhmioijeagiaaChBestP3
/- Package choose's Weight and the reference's Yield: the walk. No condition. -/
set_option linter.unusedVariables false
set_option linter.unusedSimpArgs false
namespace Go.Proofs.Ytbnhmioijeagiaa.Ab
attribute [local irreducible] thenA inBlockA ACode AOps put IntKind.wrap

theorem rulesT_eq (t : Tr) : rulesT t = if t.rule = -1 then [] else t.rule :: rulessT t.kids := by cases t; rw [rulesT]; rfl
theorem rules_step {l : List Tr} {i : Nat} {x : Tr} (hx : l[i]? = some x) : rulessT (l.drop i) = rulesT x ++ rulessT (l.drop (i + 1)) := by rw [drop_at hx, rulessT]
mutual
theorem rulesT_len : ∀ t : Tr, (rulesT t).length ≤ trSize t
  | .mk r t ks => by
    have := rulessT_len ks
    rw [rulesT, trSize]
    split
    · simp
    · rw [List.length_cons]; omega
theorem rulessT_len : ∀ ts : List Tr, (rulessT ts).length ≤ trsSize ts
  | [] => by simp [rulessT, trsSize]
  | t :: ts => by
    have := rulesT_len t
    have := rulessT_len ts
    rw [rulessT, trsSize, List.length_append]; omega
end
set_option maxHeartbeats 2000000 in
theorem urules0_calls : ∀ (t : Tr) (l : List Int), trSize t + l.length ≤ 1000000000 → ∀ (ob : Option Nat) (cap : Nat) (M : List Ob), ACalls Try.prog 93 [.own ob l.length cap, trA t] (⟨ob, cap * 1, ints l⟩ :: M) (fun r M' => ∃ ob' cap', r = .own ob' (l ++ rulesT t).length cap' ∧ M' = ⟨ob', cap' * 1, ints (l ++ rulesT t)⟩ :: M) := by
  refine Tr.ind fun t ih l hsz ob cap M => ?_
  rw [trSize_eq] at hsz
  have hkl := trsSize_len t.kids
  rw [rulesT_eq]
  refine acalls_of_code 28 Try.func93 rfl rfl rfl ?_
  repeat (first | refine acode_seq ?_ | refine acode_region ?_)
  refine aops_boxf rfl rfl rfl rfl rfl rfl rfl ?_
  repeat' (first | refine aops_end ?_ | (refine aops_pd tok rfl rfl rfl rfl ?_ ?_ <;> intro e_) | refine aops_p tok rfl rfl rfl rfl ?_ | refine acode_it rfl ?_ | refine acode_if rfl ?_ | refine acode_seq ?_ | refine acode_region ?_ | refine acode_skip ?_ | refine then_n ?_)
  · rw [if_pos e_]
    refine acode_ret ?_
    repeat (refine ret_then ?_)
    exact ⟨_, ⟨ob, cap, rfl, by rw [List.append_nil]⟩, resOf_tmp (by rw [List.append_nil]; rfl)⟩
  · rw [if_neg e_]
    refine aops_litn tok rfl rfl rfl rfl rfl rfl rfl ?_
    refine aops_append tok 0 (m := 1) (ds := ints [t.rule]) rfl rfl rfl (.inl rfl) rfl rfl (by rw [ints_len]; exact (Nat.mul_one _).symm) rfl rfl rfl (by show _ * 8 ≤ _; omega) (by omega) rfl rfl fun ob1 cap1 => ?_
    repeat (first | refine aops_put rfl ?_ | refine aops_end ?_ | refine aops_p tok rfl rfl rfl rfl ?_ | refine acode_seq ?_ | refine acode_region ?_ | refine acode_block ?_)
    refine acode_loopS (ι := Nat × List Int × Option Nat × Nat) (fun q => [(0, .own q.2.2.1 q.2.1.length q.2.2.2), (17, .psl t.kids.length (encs trC t.kids)), (18, .int .i64 t.kids.length), (19, .int .i64 q.1)]) (fun q => ⟨q.2.2.1, q.2.2.2 * 1, ints q.2.1⟩ :: M) (fun q => t.kids.length - q.1) (fun q => q.1 ≤ t.kids.length ∧ q.2.1 ++ rulessT (t.kids.drop q.1) = l ++ t.rule :: rulessT t.kids) (0, l ++ [t.rule], ob1, cap1) ⟨Nat.zero_le _, by simp⟩ ⟨by rw [List.length_append]; rfl, rfl, rfl, rfl, trivial⟩ (by simp only [ints_app]; rfl) ?_
    rintro ⟨i, l', ob, cap⟩ ⟨hi, hgo⟩
    simp only at hi hgo ⊢
    repeat (first | refine aops_end ?_ | refine aops_p tok rfl rfl rfl rfl ?_ | refine acode_seq ?_ | refine acode_region ?_)
    refine acode_id rfl (fun e => ?_) (fun e => ?_)
    · have hil : i < t.kids.length := by omega
      obtain ⟨u, hu⟩ : ∃ u, t.kids[i]? = some u := ⟨t.kids[i], List.getElem?_eq_getElem hil⟩
      have hum := List.mem_of_getElem? hu
      have hus := trsSize_mem hum
      have hl' : l'.length ≤ l.length + 1 + (rulessT t.kids).length := by
        have := congrArg List.length hgo
        simp only [List.length_append, List.length_cons] at this
        omega
      have hyl := rulessT_len t.kids
      have hdr : trSize u + l'.length ≤ 1000000000 := by
        have h1 := congrArg List.length hgo
        rw [rules_step hu] at h1
        simp only [List.length_append, List.length_cons] at h1
        have h2 : l'.length ≤ l.length + 1 + trsSize (t.kids.take i) := by
          have hsplit : rulessT t.kids = rulessT (t.kids.take i) ++ rulessT (t.kids.drop i) := by
            have key : ∀ (x y : List Tr), rulessT (x ++ y) = rulessT x ++ rulessT y := by
              intro x y
              induction x with
              | nil => rfl
              | cons z x ihx => simp only [List.cons_append, rulessT, ihx, List.append_assoc]
            rw [← key, List.take_append_drop]
          have h3 := congrArg List.length hgo
          rw [hsplit] at h3
          simp only [List.length_append, List.length_cons] at h3
          have := rulessT_len (t.kids.take i)
          omega
        have h4 : trsSize (t.kids.take i) + trSize u ≤ trsSize t.kids := by
          have key : ∀ (x y : List Tr), trsSize (x ++ y) = trsSize x + trsSize y := by
            intro x y
            induction x with
            | nil => simp [trsSize]
            | cons z x ihx => simp only [List.cons_append, trsSize, ihx]; omega
          have := key (t.kids.take i) (t.kids.drop i)
          rw [List.take_append_drop, drop_at hu, trsSize] at this
          omega
        omega
      rw [rules_step hu, ← List.append_assoc] at hgo
      repeat (first | refine acode_seq ?_ | refine acode_region ?_ | refine acode_block ?_ | refine acode_skip ?_ | refine then_n ?_)
      refine aops_ix tok [.int .i64 u.rule, .int .i64 u.tok, .psl u.kids.length (encs trC u.kids)] rfl rfl rfl rfl (by omega) (by omega) (by simp) (by rw [← trC_eq]; exact tr_at hu) rfl rfl rfl ?_
      repeat (refine aops_p tok rfl rfl rfl rfl ?_)
      refine aops_alloc tok rfl rfl rfl rfl rfl rfl fun ba => ?_
      repeat (refine aops_stn tok rfl rfl rfl rfl rfl rfl rfl rfl rfl ?_)
      refine aops_pubref0 6 rfl ?_
      repeat (first | refine aops_end ?_ | refine aops_p tok rfl rfl rfl rfl ?_ | refine acode_region ?_)
      refine aops_call Try.func93 rfl rfl rfl rfl (ih u hum l' hdr ob cap M) rfl rfl ?_
      rintro x M' ⟨ob', cap', rfl, rfl⟩
      repeat (first | refine aops_put rfl ?_ | refine aops_end ?_ | refine aops_endb ?_ | refine aops_a tok rfl (by omega) (by omega) rfl rfl rfl ?_ | refine aops_p tok rfl rfl rfl rfl ?_ | refine acode_region ?_ | refine then_n ?_)
      exact ⟨(i + 1, l' ++ rulesT u, ob', cap'), ⟨by simp only; omega, hgo⟩, by simp only; omega, ⟨rfl, rfl, rfl, rfl, trivial⟩, rfl⟩
    · have hge : i = t.kids.length := by omega
      subst hge
      rw [List.drop_length, rulessT, List.append_nil] at hgo
      subst hgo
      refine acode_exit ?_
      repeat (first | refine exit_then ?_ | refine exit_here ?_ | refine then_n ?_)
      repeat (first | refine aops_end ?_ | refine aops_p tok rfl rfl rfl rfl ?_ | refine acode_seq ?_ | refine acode_region ?_)
      refine acode_ret ?_
      skip
      exact ⟨_, ⟨ob, cap, rfl, rfl⟩, resOf_tmp rfl⟩
theorem urules_calls {t : Tr} (hsz : trSize t ≤ 1000000000) (M : List Ob) : ACalls Try.prog 62 [trA t] M (fun r M' => r = .psl (rulesT t).length (ints (rulesT t)) ∧ M' = M) := by
  refine acalls_frozen (sz := 1) (by rw [ints_len, Nat.mul_one]) (by decide) ?_
  refine acalls_of_code 5 Try.func62 rfl rfl rfl ?_
  repeat (first | refine acode_seq ?_ | refine acode_region ?_)
  refine aops_boxf rfl rfl rfl rfl rfl rfl rfl ?_
  repeat (first | refine aops_end ?_ | refine aops_p tok rfl rfl rfl rfl ?_ | refine acode_seq ?_ | refine acode_region ?_)
  refine aops_call Try.func93 rfl rfl rfl rfl (acalls_nil0 (ys := [.own none 0 0, trA t]) (fun G vs h => ?_) (urules0_calls t [] (by simpa using hsz) none 0 M)) rfl rfl ?_
  · obtain ⟨v, vs', rfl, h1, h2⟩ := h
    exact ⟨v, vs', rfl, rep_nils_own G h1, h2⟩
  rintro x M' ⟨ob', cap', rfl, rfl⟩
  rw [List.nil_append]
  repeat (first | refine aops_put rfl ?_ | refine aops_end ?_ | refine aops_p tok rfl rfl rfl rfl ?_)
  refine acode_ret ?_
  skip
  exact ⟨_, ⟨ob', cap', rfl, rfl⟩, resOf_tmp rfl⟩
theorem sumD_bound {g : Gr} (hd : ∀ r, -1000000 ≤ dynF g r ∧ dynF g r ≤ 1000000) : ∀ l : List Int, -1000000 * (l.length : Int) ≤ sumD g l ∧ sumD g l ≤ 1000000 * (l.length : Int)
  | [] => by simp [sumD]
  | r :: l => by
    have := hd r
    have := sumD_bound hd l
    rw [sumD, List.length_cons]
    omega
theorem sumD_snoc (g : Gr) (l : List Int) (r : Int) : sumD g (l ++ [r]) = sumD g l + dynF g r := by rw [sumD_app]; simp [sumD]
set_option maxHeartbeats 2000000 in
theorem chweight_calls {g : Gr} {t : Tr} (hd : ∀ r, -1000000 ≤ dynF g r ∧ dynF g r ≤ 1000000) (hsz : trSize t ≤ 1000000) (M : List Ob) : ACalls Try.prog 25 [grA g, trA t] M (fun r M' => r = .int .i64 (wtT g t) ∧ M' = M) := by
  have hrl := rulesT_len t
  unfold wtT
  have huc := fun M => urules_calls (t := t) (by omega) M
  generalize rulesT t = l at *
  refine acalls_of_code 22 Try.func25 rfl rfl rfl ?_
  repeat (first | refine acode_seq ?_ | refine acode_region ?_)
  refine aops_boxf rfl rfl rfl rfl rfl rfl rfl ?_
  refine aops_boxf rfl rfl rfl rfl rfl rfl rfl ?_
  repeat (first | refine aops_end ?_ | refine aops_p tok rfl rfl rfl rfl ?_ | refine acode_seq ?_ | refine acode_region ?_)
  refine aops_callx Try.func62 rfl rfl rfl rfl (huc _) rfl rfl rfl ?_
  repeat (first | refine aops_end ?_ | refine aops_p tok rfl rfl rfl rfl ?_ | refine acode_block ?_)
  refine acode_loopS (ι := Nat) (fun i => [(2, .pp (grC g)), (5, .int .i64 (sumD g (l.take i))), (9, .psl l.length (ints l)), (10, .int .i64 l.length), (11, .int .i64 i)]) (fun _ => M) (fun i => l.length - i) (fun i => i ≤ l.length) 0 (Nat.zero_le _) ⟨rfl, rfl, rfl, rfl, rfl, trivial⟩ rfl ?_
  rintro i hi
  have hb := sumD_bound hd (l.take i)
  have htl : ((l.take i).length : Int) ≤ 1000000 := by rw [List.length_take]; omega
  repeat (first | refine aops_end ?_ | refine aops_p tok rfl rfl rfl rfl ?_ | refine acode_seq ?_ | refine acode_region ?_)
  refine acode_id rfl (fun e => ?_) (fun e => ?_)
  · have hil : i < l.length := by omega
    obtain ⟨r, hr⟩ : ∃ r, l[i]? = some r := ⟨l[i], List.getElem?_eq_getElem hil⟩
    have htk : l.take (i + 1) = l.take i ++ [r] := by rw [List.take_add_one, hr]; rfl
    have hdr := hd r
    have hdc := fun M => dyn_calls (g := g) (r := r) M
    have hs := sumD_snoc g (l.take i) r
    generalize dynF g r = d at *
    repeat (first | refine acode_seq ?_ | refine acode_region ?_ | refine acode_block ?_ | refine acode_skip ?_ | refine then_n ?_)
    refine aops_ix tok [A.int .i64 r] rfl rfl rfl rfl (by omega) (by omega) (by simp) (ints_at (j := i) (by simpa using hr)) rfl rfl rfl ?_
    repeat (first | refine aops_end ?_ | refine aops_p tok rfl rfl rfl rfl ?_ | refine acode_region ?_)
    refine aops_callx Try.func63 rfl rfl rfl rfl (hdc _) rfl rfl rfl ?_
    repeat (first | refine aops_end ?_ | refine aops_endb ?_ | refine aops_a tok rfl (by omega) (by omega) rfl rfl rfl ?_ | refine aops_p tok rfl rfl rfl rfl ?_ | refine acode_region ?_ | refine then_n ?_)
    exact ⟨i + 1, by omega, by omega, ⟨rfl, congrArg (A.int .i64) (by rw [htk, hs]), rfl, rfl, rfl, trivial⟩, rfl⟩
  · obtain rfl : i = l.length := by omega
    rw [List.take_length]
    refine acode_exit ?_
    repeat (first | refine exit_then ?_ | refine exit_here ?_ | refine then_n ?_)
    repeat (first | refine aops_end ?_ | refine aops_p tok rfl rfl rfl rfl ?_ | refine acode_seq ?_ | refine acode_region ?_)
    refine acode_ret ?_
    skip
    exact ⟨_, ⟨rfl, rfl⟩, resOf_tmp rfl⟩
set_option maxHeartbeats 4000000 in
theorem ryield_calls : ∀ (t : Tr), trSize t ≤ 1000000 → ∀ (M : List Ob), ACalls Try.prog 26 [trA t] M (fun r M' => r = .psl (yieldF t).length (ints (yieldF t)) ∧ M' = M) := by
  refine Tr.ind fun t ih hsz M => ?_
  have hyl := yieldF_len t
  rw [trSize_eq] at hsz
  have hkl := trsSize_len t.kids
  have hys := yieldsF_len t.kids
  rw [yieldF_eq]
  refine acalls_of_code 27 Try.func26 rfl rfl rfl ?_
  repeat (first | refine acode_seq ?_ | refine acode_region ?_)
  refine aops_boxf rfl rfl rfl rfl rfl rfl rfl ?_
  by_cases h1 : t.rule = -1
  · rw [if_pos h1]
    repeat' (first | refine aops_end ?_ | refine aops_pbt tok rfl (by first | omega | decide) rfl rfl rfl ?_ | refine aops_p tok rfl rfl rfl rfl ?_ | refine acode_it rfl ?_ | refine acode_seq ?_ | refine acode_region ?_)
    try any_goals (exfalso; omega)
    refine aops_litn tok rfl rfl rfl rfl rfl rfl rfl ?_
    repeat (first | refine aops_end ?_ | refine aops_p tok rfl rfl rfl rfl ?_)
    refine acode_ret ?_
    repeat (refine ret_then ?_)
    exact ⟨_, ⟨rfl, rfl⟩, resOf_tmp rfl⟩
  rw [if_neg h1]
  repeat' (first | refine aops_end ?_ | refine aops_pbf tok rfl (by first | omega | decide) rfl rfl rfl ?_ | refine aops_p tok rfl rfl rfl rfl ?_ | refine acode_if rfl ?_ | refine acode_seq ?_ | refine acode_region ?_ | refine acode_block ?_ | refine acode_skip ?_ | refine then_n ?_)
  try any_goals (exfalso; omega)
  refine acode_adopt 3 1 rfl ?_
  refine acode_loopS (ι := Nat × List Int × Option Nat × Nat) (fun q => [(1, .pp [.int .i64 t.rule, .int .i64 t.tok, .psl t.kids.length (encs trC t.kids)]), (3, .own q.2.2.1 q.2.1.length q.2.2.2), (4, .int .i64 q.1)]) (fun q => ⟨q.2.2.1, q.2.2.2 * 1, ints q.2.1⟩ :: M) (fun q => t.kids.length - q.1) (fun q => q.1 ≤ t.kids.length ∧ q.2.1 ++ yieldsF (t.kids.drop q.1) = yieldsF t.kids) (0, [], none, 0) ⟨Nat.zero_le _, rfl⟩ ⟨rfl, rfl, rfl, trivial⟩ rfl ?_
  rintro ⟨i, l', ob, cap⟩ ⟨hi, hgo⟩
  simp only at hi hgo ⊢
  have hl' := congrArg List.length hgo
  rw [List.length_append] at hl'
  repeat (first | refine aops_end ?_ | refine aops_p tok rfl rfl rfl rfl ?_ | refine acode_seq ?_ | refine acode_region ?_)
  refine acode_id rfl (fun e => ?_) (fun e => ?_)
  · have hil : i < t.kids.length := by omega
    obtain ⟨u, hu⟩ : ∃ u, t.kids[i]? = some u := ⟨t.kids[i], List.getElem?_eq_getElem hil⟩
    have hum := List.mem_of_getElem? hu
    have hus := trsSize_mem hum
    have hc := ih u hum (by omega)
    have hul := yieldF_len u
    rw [yields_step hu, ← List.append_assoc] at hgo
    generalize yieldF u = yu at *
    repeat (first | refine aops_p tok rfl rfl rfl rfl ?_ | refine acode_seq ?_ | refine acode_region ?_ | refine acode_block ?_ | refine acode_skip ?_ | refine then_n ?_)
    refine aops_ix tok [.int .i64 u.rule, .int .i64 u.tok, .psl u.kids.length (encs trC u.kids)] rfl rfl rfl rfl (by omega) (by omega) (by simp) (by rw [← trC_eq]; exact tr_at (by simpa using hu)) rfl rfl rfl ?_
    repeat (refine aops_p tok rfl rfl rfl rfl ?_)
    refine aops_callx Try.func26 rfl rfl rfl rfl (hc _) rfl rfl rfl ?_
    skip
    refine aops_append tok 0 (m := yu.length) (ds := ints yu) rfl rfl rfl (.inl rfl) rfl rfl (by rw [ints_len]; exact (Nat.mul_one _).symm) (by rw [ints_len]; exact (Nat.mul_one _).symm) (ints_cell yu) rfl (by show _ * 8 ≤ _; omega) (by omega) rfl rfl fun ob' cap' => ?_
    repeat (first | refine aops_put rfl ?_ | refine aops_end ?_ | refine aops_endb ?_ | refine aops_a tok rfl (by omega) (by omega) rfl rfl rfl ?_ | refine aops_p tok rfl rfl rfl rfl ?_ | refine acode_region ?_ | refine then_n ?_)
    exact ⟨(i + 1, l' ++ yu, ob', cap'), ⟨by simp only; omega, hgo⟩, by simp only; omega, ⟨rfl, by rw [List.length_append]; rfl, rfl, trivial⟩, by simp only [ints_app]; rfl⟩
  · obtain rfl : i = t.kids.length := by omega
    rw [List.drop_length, yieldsF, List.append_nil] at hgo
    subst hgo
    refine acode_exit ?_
    repeat (first | refine exit_then ?_ | refine exit_here ?_ | refine then_n ?_)
    refine acode_pub0 3 1 rfl rfl (by rw [ints_len, Nat.mul_one]) rfl ?_
    repeat (first | refine aops_end ?_ | refine aops_p tok rfl rfl rfl rfl ?_ | refine acode_seq ?_ | refine acode_region ?_)
    refine acode_ret ?_
    skip
    exact ⟨_, ⟨rfl, rfl⟩, resOf_tmp rfl⟩
end Go.Proofs.Ytbnhmioijeagiaa.Ab
/- Structs of numbers held against each other. No condition. -/
set_option linter.unusedVariables false
set_option linter.unusedSimpArgs false
namespace Go.Proofs.Ytbnhmioijeagiaa.Ab
section
variable {P : Program} {T : List TI} {N : Nat} {ops : Array Oper} {rest : List Oper} {o : Oper} {Q : Exit → St → Prop} {E F : Env} {M : List Ob}
theorem ints_repL (G : Gh) : ∀ l : List Int, RepL G (ints l) (l.map (Value.int .i64))
  | [] => rfl
  | x :: l => ⟨_, _, rfl, rfl, ints_repL G l⟩
theorem ints_val {G : Gh} : ∀ {l : List Int} {vs : List Value}, RepL G (ints l) vs → vs = l.map (Value.int .i64)
  | [], _, h => h
  | x :: l, _, h => by
    obtain ⟨v, vs', rfl, h1, h2⟩ := h
    simp only [Rep] at h1
    rw [h1, ints_val h2]; rfl
theorem part_int {e : Nat} {ei : TI} (he : TG P e ei) (hk : ei.k = .int .i64) {l : List Int} {k : Nat} {x : Int} (h : l[k]? = some x) (w : World) : (part e (l.map (Value.int .i64)).toArray k).run P w = .ok (.int .i64 x) w := by
  obtain ⟨v, h1, h2⟩ := part_run (w := w) he (ints_repL ⟨fun _ => [], fun _ => none, fun _ => False, fun _ => none⟩ l) (off := k) (r := .int .i64 x) (by rw [hk]; exact ints_get h)
  simp only [Rep] at h2
  rw [h1, h2]
theorem eqFields_ints {e : Nat} {ei : TI} (he : TG P e ei) (hk : ei.k = .int .i64) (xs ys : List Int) (d : Nat) (w : World) : ∀ (gs : List Field) (k : Nat), gs.map (fun f => (f.offset, f.type)) = (List.range' k gs.length).map (fun i => (i, e)) → (∀ f ∈ gs, f.name ≠ "_") → k + gs.length = xs.length → k + gs.length = ys.length →
    (Op.eqFields (d + 1) (xs.map (Value.int .i64)).toArray (ys.map (Value.int .i64)).toArray gs).run P w = .ok (xs.drop k == ys.drop k) w
  | [], k, _, _, hx, hy => by
    simp only [List.length_nil, Nat.add_zero] at hx hy
    simp only [Op.eqFields, Sem.run_pure]
    rw [List.drop_eq_nil_of_le (by omega), List.drop_eq_nil_of_le (by omega)]; rfl
  | f :: gs, k, hm, hn, hx, hy => by
    simp only [List.length_cons, List.range'_succ, List.map_cons, List.cons.injEq, Prod.mk.injEq] at hm hx hy
    obtain ⟨⟨ho, ht⟩, hm⟩ := hm
    have h1 : xs[k]? = some (xs[k]'(by omega)) := List.getElem?_eq_getElem (by omega)
    have h2 : ys[k]? = some (ys[k]'(by omega)) := List.getElem?_eq_getElem (by omega)
    have ih := eqFields_ints he hk xs ys d w gs (k + 1) hm (fun f hf => hn f (by simp [hf])) (by omega) (by omega)
    have hu := und_int he hk
    rw [List.drop_eq_getElem_cons (show k < xs.length by omega), List.drop_eq_getElem_cons (show k < ys.length by omega)]
    simp only [Op.eqFields, if_pos (hn f (by simp)), Sem.run_bind, ho, ht, part_int he hk h1, part_int he hk h2, Result.andThen_ok, run_equalIn_int w d e .i64 .i64 _ _ hu]
    rw [List.cons_beq_cons]
    cases hb : (xs[k]'(by omega) == ys[k]'(by omega)) with
    | true => simp only [Bool.not_true, Bool.false_eq_true, if_false, Bool.true_and]; exact ih
    | false => simp
def eqstB (P : Program) (t : Nat) : Bool := (P.fieldsOf t).all (fun f => f.name != "_") && !P.stoodInHeld t && !P.eqGuardType P.depth t
theorem aops_eqst (hT : TOk P T) {t t' d e : Nat} {x y : Operand} (l m : List Int) (ho : o.op = .binOp .eql t x y t') (ht : kindOf T t = some (.struct ((List.range' 0 l.length).map fun i => (i, e)))) (he : kindOf T e = some (.int .i64)) (hB : eqstB P t = true) (hx : opA E x = .agg (ints l)) (hy : opA E y = .agg (ints m)) (hlm : l.length = m.length) (hg : guardOn ops o E = some true) (hd : o.dst = some d) (hN : Nat.blt d N = true)
    (next : AOps P N ops rest Q ⟨(d, .bool (l == m)) :: E, M⟩) : AOps P N ops (o :: rest) Q ⟨E, M⟩ := by
  refine aops_val hg (by rw [hd]; exact hN) (.bool (l == m)) M (fun K G av w hi => ?_) (by rw [hd]; exact next)
  have hrx := opA_rep hi x
  have hry := opA_rep hi y
  rw [hx] at hrx; rw [hy] at hry
  obtain ⟨vx, ex, rx⟩ := hrx
  obtain ⟨vy, ey, ry⟩ := hry
  have e1 := ints_val rx
  have e2 := ints_val ry
  subst e1; subst e2
  simp only [eqstB, Bool.and_eq_true, Bool.not_eq_true'] at hB
  obtain ⟨⟨b1, b2⟩, b3⟩ := hB
  obtain ⟨ti, hti, hk⟩ := Option.map_eq_some_iff.1 ht
  obtain ⟨k1, k2⟩ := known_spec hti
  obtain ⟨tk, ts, tb, tz⟩ := ti
  simp only at hk
  subst hk
  obtain ⟨gs, hu, hgs⟩ := und_struct (hT.get k1 k2)
  have hfo : P.fieldsOf t = gs := by simp [Program.fieldsOf, hu]
  obtain ⟨ei, hei, hke⟩ := Option.map_eq_some_iff.1 he
  obtain ⟨k3, k4⟩ := known_spec hei
  have hlen : gs.toList.length = l.length := by have := congrArg List.length hgs; simpa using this
  have hF := eqFields_ints (hT.get k3 k4) hke l m 9998 w gs.toList 0 (by rw [hlen]; exact hgs) (fun f hf => by
    have := Array.all_eq_true_iff_forall_mem.1 b1 f (by rw [hfo]; exact Array.mem_toList_iff.1 hf)
    simpa using this) (by omega) (by omega)
  refine ⟨.bool (l == m), w, G, ?_, hi.ok, G.le_refl, rfl⟩
  have hq : (binOp .eql t (.agg (l.map (Value.int .i64)).toArray) (.agg (m.map (Value.int .i64)).toArray)).run P w = .ok (.bool (l == m)) w := by
    rw [run_eql_struct, run_equalIn_agg w 9999 t _ _ (by rw [hfo]; exact hu) b2, hfo, hF]
    rfl
  simp only [execOp, ho, ex, ey, Sem.run_bind, run_eqGuard_agg w .eql t x y _ _ b3, hq, Result.andThen_ok]
  rfl
end
end Go.Proofs.Ytbnhmioijeagiaa.Ab
/- Chapter 24's reference: what is forbidden, the weight of a tree, which of two is the better one: the walk. No condition. -/
set_option linter.unusedVariables false
set_option linter.unusedSimpArgs false
namespace Go.Proofs.Ytbnhmioijeagiaa.Ab
section
variable {P : Program} {T : List TI} {N : Nat} {ops : Array Oper} {rest : List Oper} {o : Oper} {Q : Exit → St → Prop} {E F : Env} {M : List Ob}
/-- Rows of numbers held against each other. -/
theorem aops_eqar (hT : TOk P T) {t t' d n e : Nat} {ei : TI} {x y : Operand} (l m : List Int) (ho : o.op = .binOp .eql t x y t') (ht : arrayOf T t = some (n, e, ei)) (he : kindOf T e = some (.int .i64)) (hsz : Nat.beq ei.size 1 = true) (hB : (!P.eqGuardType P.depth t) = true) (hx : opA E x = .agg (ints l)) (hy : opA E y = .agg (ints m)) (hl : l.length = n) (hm : m.length = n) (hg : guardOn ops o E = some true) (hd : o.dst = some d) (hN : Nat.blt d N = true)
    (next : AOps P N ops rest Q ⟨(d, .bool (decide (l = m))) :: E, M⟩) : AOps P N ops (o :: rest) Q ⟨E, M⟩ := by
  refine aops_val hg (by rw [hd]; exact hN) (.bool (decide (l = m))) M (fun K G av w hi => ?_) (by rw [hd]; exact next)
  have hrx := opA_rep hi x
  have hry := opA_rep hi y
  rw [hx] at hrx; rw [hy] at hry
  obtain ⟨vx, ex, rx⟩ := hrx
  obtain ⟨vy, ey, ry⟩ := hry
  have e1 := ints_val rx
  have e2 := ints_val ry
  subst e1; subst e2
  obtain ⟨hu, hgt, _⟩ := arrayOf_spec hT ht
  have hue := kindOf_int hT he
  have hs : ∀ w, (sizeOf e).run P w = .ok 1 w := fun w => by
    have h1 : ei.size = 1 := Nat.eq_of_beq_eq_true hsz
    have := run_size hgt (w := w)
    rw [h1] at this; exact this
  have hq : (binOp .eql t (.agg (l.map (Value.int .i64)).toArray) (.agg (m.map (Value.int .i64)).toArray)).run P w = .ok (.bool (decide (l = m))) w := by
    have h := run_eqInts w 9998 t e n .i64 hu hue hs l m hl hm
    have e' : Op.maxDepth = 9998 + 2 := rfl
    simp only [binOp, Op.equal, e', Sem.run_bind, h, Result.andThen_ok]
    rfl
  refine ⟨.bool (decide (l = m)), w, G, ?_, hi.ok, G.le_refl, rfl⟩
  have hB : P.eqGuardType P.depth t = false := by simpa using hB
  simp only [execOp, ho, ex, ey, Sem.run_bind, run_eqGuard_agg w .eql t x y _ _ hB, hq, Result.andThen_ok]
  rfl
end
attribute [local irreducible] thenA inBlockA ACode AOps put IntKind.wrap
def l3R (f : F3) : List Int := [f.1, f.2.1, f.2.2]
theorem l3R_inj {a b : F3} : l3R a = l3R b ↔ a = b := by
  obtain ⟨a1, a2, a3⟩ := a; obtain ⟨b1, b2, b3⟩ := b
  simp [l3R]
theorem rforb_calls {g : Gr} (hl : g.forbid.length ≤ 9223372036854775807) {r p q : Int} (M : List Ob) : ACalls Try.prog 58 [grA g, .int .i64 r, .int .i64 p, .int .i64 q] M (fun x M' => x = .bool (decide ((r, p, q) ∈ g.forbid)) ∧ M' = M) := by
  refine acalls_of_code 27 Try.func58 rfl rfl rfl ?_
  repeat (first | refine acode_seq ?_ | refine acode_region ?_)
  refine aops_boxf rfl rfl rfl rfl rfl rfl rfl ?_
  repeat (first | refine aops_end ?_ | refine aops_p tok rfl rfl rfl rfl ?_ | refine acode_seq ?_ | refine acode_region ?_ | refine acode_block ?_)
  refine acode_loopS (ι := Nat) (fun i => [(1, .int .i64 r), (2, .int .i64 p), (3, .int .i64 q), (4, .pp (grC g)), (9, .int .i64 i)]) (fun _ => M) (fun i => g.forbid.length - i) (fun i => i ≤ g.forbid.length ∧ (r, p, q) ∉ g.forbid.take i) 0 ⟨Nat.zero_le _, by simp⟩ ⟨rfl, rfl, rfl, rfl, rfl, trivial⟩ rfl ?_
  rintro i ⟨hi, hn⟩
  repeat (first | refine aops_end ?_ | refine aops_p tok rfl rfl rfl rfl ?_ | refine acode_seq ?_ | refine acode_region ?_)
  refine acode_id rfl (fun e => ?_) (fun e => ?_)
  · have hlt : i < g.forbid.length := by omega
    obtain ⟨f, hf⟩ : ∃ f, g.forbid[i]? = some f := ⟨g.forbid[i], List.getElem?_eq_getElem hlt⟩
    have htk : g.forbid.take (i + 1) = g.forbid.take i ++ [f] := by rw [List.take_add_one, hf]; rfl
    repeat (first | refine aops_p tok rfl rfl rfl rfl ?_ | refine acode_seq ?_ | refine acode_region ?_ | refine acode_block ?_ | refine acode_skip ?_ | refine then_n ?_)
    refine aops_ix tok (f3C f) rfl rfl rfl rfl (by omega) (by omega) (by simp [f3C]) (encs_at (e := f3C) (s := 3) (fun _ => rfl) (i := (i : Int).toNat) (by simpa using hf)) rfl rfl rfl ?_
    repeat (refine aops_p tok rfl rfl rfl rfl ?_)
    refine aops_eqar tok (l3R f) (l3R (r, p, q)) rfl rfl rfl rfl (by kernel_rfl) rfl rfl rfl rfl rfl rfl rfl ?_
    refine aops_end ?_
    refine acode_cond rfl (fun h => ?_) (fun h => ?_)
    · have h := l3R_inj.1 (of_decide_eq_true h)
      repeat (first | refine aops_end ?_ | refine aops_p tok rfl rfl rfl rfl ?_ | refine acode_seq ?_ | refine acode_region ?_)
      refine acode_ret ?_
      repeat (first | refine ret_then ?_ | refine ret_block ?_)
      refine ⟨.bool true, ⟨?_, rfl⟩, resOf_tmp rfl⟩
      rw [decide_eq_true]
      rw [← h]; exact List.mem_of_getElem? hf
    · have h : ¬ f = (r, p, q) := fun e => of_decide_eq_false h (l3R_inj.2 e)
      repeat (first | refine aops_end ?_ | refine aops_a tok rfl (by omega) (by omega) rfl rfl rfl ?_ | refine aops_p tok rfl rfl rfl rfl ?_ | refine acode_region ?_ | refine acode_skip ?_ | refine then_n ?_ | refine block_n ?_)
      refine ⟨i + 1, ⟨by omega, ?_⟩, by omega, ⟨rfl, rfl, rfl, rfl, rfl, trivial⟩, rfl⟩
      rw [htk]
      simp only [List.mem_append, List.mem_singleton, not_or]
      exact ⟨hn, fun e => h e.symm⟩
  · obtain rfl : i = g.forbid.length := by omega
    rw [List.take_length] at hn
    refine acode_exit ?_
    repeat (first | refine exit_then ?_ | refine exit_here ?_ | refine then_n ?_)
    repeat (first | refine aops_end ?_ | refine aops_p tok rfl rfl rfl rfl ?_ | refine acode_seq ?_ | refine acode_region ?_)
    refine acode_ret ?_
    skip
    exact ⟨.bool false, ⟨by rw [decide_eq_false hn], rfl⟩, resOf_tmp rfl⟩
set_option maxHeartbeats 4000000 in
theorem rrules0_calls : ∀ (t : Tr), trSize t ≤ 1000000 → ∀ (M : List Ob), ACalls Try.prog 61 [trA t] M (fun r M' => (t.rule = -1 ∧ r = .nils ∨ t.rule ≠ -1 ∧ r = .psl (rulesT t).length (ints (rulesT t))) ∧ M' = M) := by
  refine Tr.ind fun t ih hsz M => ?_
  have hyl := rulesT_len t
  have hsz0 := hsz
  rw [trSize_eq] at hsz
  have hkl := trsSize_len t.kids
  refine acalls_of_code 27 Try.func61 rfl rfl rfl ?_
  repeat (first | refine acode_seq ?_ | refine acode_region ?_)
  refine aops_boxf rfl rfl rfl rfl rfl rfl rfl ?_
  by_cases h1 : t.rule = -1
  · repeat' (first | refine aops_end ?_ | refine aops_pbt tok rfl (by first | omega | decide) rfl rfl rfl ?_ | refine aops_p tok rfl rfl rfl rfl ?_ | refine acode_it rfl ?_ | refine acode_seq ?_ | refine acode_region ?_)
    try any_goals (exfalso; omega)
    refine acode_ret ?_
    repeat (refine ret_then ?_)
    exact ⟨.nils, ⟨.inl ⟨h1, rfl⟩, rfl⟩, resOf_tmp rfl⟩
  have hrt : rulesT t = t.rule :: rulessT t.kids := by rw [rulesT_eq, if_neg h1]
  rw [hrt] at hyl ⊢
  have hyl2 := rulessT_len t.kids
  repeat' (first | refine aops_end ?_ | refine aops_pbf tok rfl (by first | omega | decide) rfl rfl rfl ?_ | refine aops_p tok rfl rfl rfl rfl ?_ | refine acode_if rfl ?_ | refine acode_seq ?_ | refine acode_region ?_ | refine acode_skip ?_ | refine then_n ?_)
  try any_goals (exfalso; omega)
  refine aops_lito tok rfl rfl rfl rfl rfl rfl rfl fun ob0 => ?_
  repeat (first | refine aops_end ?_ | refine aops_p tok rfl rfl rfl rfl ?_ | refine acode_seq ?_ | refine acode_region ?_ | refine acode_block ?_)
  refine acode_loopS (ι := Nat × List Int × Option Nat × Nat) (fun q => [(1, .pp [.int .i64 t.rule, .int .i64 t.tok, .psl t.kids.length (encs trC t.kids)]), (3, .own q.2.2.1 q.2.1.length q.2.2.2), (4, .int .i64 q.1)]) (fun q => ⟨q.2.2.1, q.2.2.2 * 1, ints q.2.1⟩ :: M) (fun q => t.kids.length - q.1) (fun q => q.1 ≤ t.kids.length ∧ q.2.1 ++ rulessT (t.kids.drop q.1) = t.rule :: rulessT t.kids) (0, [t.rule], some ob0, 1) ⟨Nat.zero_le _, rfl⟩ ⟨rfl, rfl, rfl, trivial⟩ rfl ?_
  rintro ⟨i, l', ob, cap⟩ ⟨hi, hgo⟩
  simp only at hi hgo ⊢
  have hl' := congrArg List.length hgo
  rw [List.length_append, List.length_cons] at hl'
  repeat (first | refine aops_end ?_ | refine aops_p tok rfl rfl rfl rfl ?_ | refine acode_seq ?_ | refine acode_region ?_)
  refine acode_id rfl (fun e => ?_) (fun e => ?_)
  · have hil : i < t.kids.length := by omega
    obtain ⟨u, hu⟩ : ∃ u, t.kids[i]? = some u := ⟨t.kids[i], List.getElem?_eq_getElem hil⟩
    have hum := List.mem_of_getElem? hu
    have hus := trsSize_mem hum
    have hc := ih u hum (by omega)
    have hul := rulesT_len u
    have hu1 : u.rule = -1 → rulesT u = [] := fun h => by rw [rulesT_eq, if_pos h]
    rw [rules_step hu, ← List.append_assoc] at hgo
    have hc2 : ∀ M, ACalls Try.prog 61 [trA u] M (fun r M' => r = .psl (rulesT u).length (ints (rulesT u)) ∧ M' = M) := fun M => by
      refine acalls_res (hc M) ?_
      rintro r M' ⟨⟨h, rfl⟩ | ⟨h, rfl⟩, rfl⟩
      · rw [hu1 h]; exact ⟨_, .nils, rfl, rfl⟩
      · exact ⟨_, .refl _, rfl, rfl⟩
    generalize rulesT u = yu at *
    repeat (first | refine aops_p tok rfl rfl rfl rfl ?_ | refine acode_seq ?_ | refine acode_region ?_ | refine acode_block ?_ | refine acode_skip ?_ | refine then_n ?_)
    refine aops_ix tok [.int .i64 u.rule, .int .i64 u.tok, .psl u.kids.length (encs trC u.kids)] rfl rfl rfl rfl (by omega) (by omega) (by simp) (by rw [← trC_eq]; exact tr_at (by simpa using hu)) rfl rfl rfl ?_
    repeat (refine aops_p tok rfl rfl rfl rfl ?_)
    refine aops_callx Try.func61 rfl rfl rfl rfl (hc2 _) rfl rfl rfl ?_
    skip
    refine aops_append tok 0 (m := yu.length) (ds := ints yu) rfl rfl rfl (.inl rfl) rfl rfl (by rw [ints_len]; exact (Nat.mul_one _).symm) (by rw [ints_len]; exact (Nat.mul_one _).symm) (ints_cell yu) rfl (by show _ * 8 ≤ _; omega) (by omega) rfl rfl fun ob' cap' => ?_
    repeat (first | refine aops_put rfl ?_ | refine aops_end ?_ | refine aops_endb ?_ | refine aops_a tok rfl (by omega) (by omega) rfl rfl rfl ?_ | refine aops_p tok rfl rfl rfl rfl ?_ | refine acode_region ?_ | refine then_n ?_)
    exact ⟨(i + 1, l' ++ yu, ob', cap'), ⟨by simp only; omega, hgo⟩, by simp only; omega, ⟨rfl, by rw [List.length_append]; rfl, rfl, trivial⟩, by simp only [ints_app]; rfl⟩
  · obtain rfl : i = t.kids.length := by omega
    rw [List.drop_length, rulessT, List.append_nil] at hgo
    subst hgo
    refine acode_exit ?_
    repeat (first | refine exit_then ?_ | refine exit_here ?_ | refine then_n ?_)
    refine acode_pub0 3 1 rfl rfl (by rw [ints_len, Nat.mul_one]) rfl ?_
    repeat (first | refine aops_end ?_ | refine aops_p tok rfl rfl rfl rfl ?_ | refine acode_seq ?_ | refine acode_region ?_)
    refine acode_ret ?_
    skip
    exact ⟨_, ⟨.inr ⟨h1, rfl⟩, rfl⟩, resOf_tmp rfl⟩
theorem rrules_calls {t : Tr} (hsz : trSize t ≤ 1000000) (M : List Ob) : ACalls Try.prog 61 [trA t] M (fun r M' => r = .psl (rulesT t).length (ints (rulesT t)) ∧ M' = M) := by
  refine acalls_res (rrules0_calls t hsz M) ?_
  rintro r M' ⟨⟨h, rfl⟩ | ⟨h, rfl⟩, rfl⟩
  · rw [show rulesT t = [] by rw [rulesT_eq, if_pos h]]; exact ⟨_, .nils, rfl, rfl⟩
  · exact ⟨_, .refl _, rfl, rfl⟩
theorem cmpL_drop {a b : List Int} : ∀ {i : Nat} {x : Int}, a.take i = b.take i → a[i]? = some x → b[i]? = some x → a.take (i + 1) = b.take (i + 1) := fun {i x} h h1 h2 => by
  rw [List.take_add_one, List.take_add_one, h, h1, h2]
theorem cmpL_at {a b : List Int} {i : Nat} (h : a.take i = b.take i) : cmpL a b = cmpL (a.drop i) (b.drop i) := by
  have := cmpL_app (a.take i) (a.drop i) (b.drop i)
  rw [List.take_append_drop, h, List.take_append_drop] at this
  exact this
theorem cmpI'_neg {x y : Int} (h : x ≠ y) : cmpI' x y < 0 ↔ x < y := by
  unfold cmpI'
  split
  · omega
  · split <;> omega
theorem first_calls {a b : List Int} (ha : a.length ≤ 9223372036854775807) (hb : b.length ≤ 9223372036854775807) (M : List Ob) : ACalls Try.prog 60 [.psl a.length (ints a), .psl b.length (ints b)] M (fun r M' => r = .bool (decide (cmpL a b < 0)) ∧ M' = M) := by
  refine acalls_of_code 41 Try.func60 rfl rfl rfl ?_
  repeat (first | refine aops_end ?_ | refine aops_p tok rfl rfl rfl rfl ?_ | refine acode_seq ?_ | refine acode_region ?_ | refine acode_block ?_)
  refine acode_loopS (ι := Nat) (fun i => [(0, .psl a.length (ints a)), (1, .psl b.length (ints b)), (5, .int .i64 i)]) (fun _ => M) (fun i => a.length - i) (fun i => i ≤ a.length ∧ i ≤ b.length ∧ a.take i = b.take i) 0 ⟨Nat.zero_le _, Nat.zero_le _, rfl⟩ ⟨rfl, rfl, rfl, trivial⟩ rfl ?_
  rintro i ⟨hi, hj, he⟩
  have hc := cmpL_at he
  by_cases h1 : i < a.length
  · by_cases h2 : i < b.length
    · obtain ⟨x, hx⟩ : ∃ x, a[i]? = some x := ⟨a[i], List.getElem?_eq_getElem h1⟩
      obtain ⟨y, hy⟩ : ∃ y, b[i]? = some y := ⟨b[i], List.getElem?_eq_getElem h2⟩
      have dx : a.drop i = x :: a.drop (i + 1) := by
        rw [List.drop_eq_getElem_cons h1]; rw [List.getElem?_eq_getElem h1] at hx; rw [Option.some.inj hx]
      have dy : b.drop i = y :: b.drop (i + 1) := by
        rw [List.drop_eq_getElem_cons h2]; rw [List.getElem?_eq_getElem h2] at hy; rw [Option.some.inj hy]
      rw [dx, dy, cmpL] at hc
      repeat' (first | refine aops_end ?_ | refine aops_pbt tok rfl (by first | omega | decide) rfl rfl rfl ?_ | refine aops_p tok rfl rfl rfl rfl ?_ | refine acode_it rfl ?_ | refine acode_seq ?_ | refine acode_region ?_ | refine acode_block ?_ | refine acode_skip ?_ | refine then_n ?_)
      all_goals try (exfalso; omega)
      refine acode_drawT 9 mixed (by kernel_rfl) (by kernel_rfl) ?_
      repeat (refine seqT_p tok rfl rfl rfl rfl ?_)
      refine seqT_ix tok [A.int .i64 x] rfl rfl rfl rfl (by omega) (by omega) (by simp) (ints_at (j := i) (by simpa using hx)) rfl rfl rfl ?_
      repeat (refine seqT_p tok rfl rfl rfl rfl ?_)
      refine seqT_ix tok [A.int .i64 y] rfl rfl rfl rfl (by omega) (by omega) (by simp) (ints_at (j := i) (by simpa using hy)) rfl rfl rfl ?_
      repeat' (first | (refine seqT_pn tok rfl rfl rfl rfl ?_ ?_ <;> intro e_) | refine seqT_p tok rfl rfl rfl rfl ?_)
      · refine SeqT.done ?_
        repeat' (first | refine aops_end ?_ | refine acode_it rfl ?_ | refine acode_seq ?_)
        refine acode_drawT 9 mixed (by kernel_rfl) (by kernel_rfl) ?_
        repeat (refine seqT_p tok rfl rfl rfl rfl ?_)
        refine seqT_ix tok [A.int .i64 x] rfl rfl rfl rfl (by omega) (by omega) (by simp) (ints_at (j := i) (by simpa using hx)) rfl rfl rfl ?_
        repeat (refine seqT_p tok rfl rfl rfl rfl ?_)
        refine seqT_ix tok [A.int .i64 y] rfl rfl rfl rfl (by omega) (by omega) (by simp) (ints_at (j := i) (by simpa using hy)) rfl rfl rfl ?_
        repeat (refine seqT_p tok rfl rfl rfl rfl ?_)
        refine SeqT.done ?_
        repeat (first | refine aops_end ?_ | refine aops_p tok rfl rfl rfl rfl ?_)
        refine acode_ret ?_
        repeat (first | refine ret_then ?_ | refine ret_block ?_)
        have hne := e_
        refine ⟨.bool (decide (x < y)), ⟨?_, rfl⟩, resOf_tmp rfl⟩
        rw [hc, if_neg hne]
        congr 1
        exact decide_eq_decide.2 (cmpI'_neg hne).symm
      · have heq := e_
        refine SeqT.done ?_
        repeat' (first | refine aops_end ?_ | refine aops_a tok rfl (by omega) (by omega) rfl rfl rfl ?_ | refine aops_p tok rfl rfl rfl rfl ?_ | refine acode_if rfl ?_ | refine acode_region ?_ | refine acode_skip ?_ | refine then_n ?_ | refine block_n ?_)
        exact ⟨i + 1, ⟨by omega, by omega, cmpL_drop he hx (by rw [heq]; exact hy)⟩, by omega, ⟨rfl, rfl, rfl, trivial⟩, rfl⟩
    · have hd : cmpL a b = 1 := by
        rw [hc, List.drop_eq_getElem_cons h1, List.drop_eq_nil_of_le (by omega : b.length ≤ i)]; rfl
      repeat' (first | refine aops_end ?_ | refine aops_pbt tok rfl (by first | omega | decide) rfl rfl rfl ?_ | refine aops_pbf tok rfl (by first | omega | decide) rfl rfl rfl ?_ | refine aops_p tok rfl rfl rfl rfl ?_ | refine acode_if rfl ?_ | refine acode_seq ?_ | refine acode_region ?_)
      all_goals try (exfalso; omega)
      refine acode_exit ?_
      repeat (first | refine exit_then ?_ | refine exit_here ?_ | refine then_n ?_)
      repeat (first | refine aops_end ?_ | refine aops_p tok rfl rfl rfl rfl ?_ | refine acode_seq ?_ | refine acode_region ?_)
      refine acode_ret ?_
      skip
      refine ⟨.bool (decide ((a.length : Int) < b.length)), ⟨?_, rfl⟩, resOf_tmp rfl⟩
      rw [hd, decide_eq_false (by omega), decide_eq_false (by omega)]
  · have hd : cmpL a b < 0 ↔ a.length < b.length := by
      rw [hc, List.drop_eq_nil_of_le (by omega : a.length ≤ i)]
      by_cases h2 : i < b.length
      · rw [List.drop_eq_getElem_cons h2]
        exact ⟨fun _ => by omega, fun _ => by rw [cmpL]; omega⟩
      · rw [List.drop_eq_nil_of_le (by omega)]
        exact ⟨fun h => by rw [cmpL] at h; omega, fun h => by omega⟩
    repeat' (first | refine aops_end ?_ | refine aops_o rfl rfl rfl ?_ | refine aops_pbf tok rfl (by first | omega | decide) rfl rfl rfl ?_ | refine aops_p tok rfl rfl rfl rfl ?_ | refine acode_if rfl ?_ | refine acode_seq ?_ | refine acode_region ?_)
    all_goals try (exfalso; omega)
    refine acode_exit ?_
    repeat (first | refine exit_then ?_ | refine exit_here ?_ | refine then_n ?_)
    repeat (first | refine aops_end ?_ | refine aops_p tok rfl rfl rfl rfl ?_ | refine acode_seq ?_ | refine acode_region ?_)
    refine acode_ret ?_
    skip
    refine ⟨.bool (decide ((a.length : Int) < b.length)), ⟨?_, rfl⟩, resOf_tmp rfl⟩
    congr 1
    exact decide_eq_decide.2 (by rw [hd]; omega)
end Go.Proofs.Ytbnhmioijeagiaa.Ab
/- Chapter 24's reference: the weight of a tree, which of two is the better one: the walk. No condition. -/
set_option linter.unusedVariables false
set_option linter.unusedSimpArgs false
namespace Go.Proofs.Ytbnhmioijeagiaa.Ab
attribute [local irreducible] thenA inBlockA ACode AOps put IntKind.wrap
theorem rulessT_step {l : List Tr} {i : Nat} {x : Tr} (hx : l[i]? = some x) (g : Gr) : sumD g (rulessT (l.drop i)) = wtT g x + sumD g (rulessT (l.drop (i + 1))) := by
  rw [rules_step hx, sumD_app]; rfl
theorem trs_drop (l : List Tr) (i : Nat) : trsSize (l.drop i) ≤ trsSize l := by
  have key : ∀ (x y : List Tr), trsSize (x ++ y) = trsSize x + trsSize y := by
    intro x y
    induction x with
    | nil => simp [trsSize]
    | cons z x ihx => simp only [List.cons_append, trsSize, ihx]; omega
  have := key (l.take i) (l.drop i)
  rw [List.take_append_drop] at this
  omega
theorem dyn_at {g : Gr} {r : Int} (h0 : 0 ≤ r) (h1 : r < g.rules.length) : ∃ ru, g.rules[r.toNat]? = some ru ∧ dynF g r = ru.dyn := by
  have := ruleAt_at (g := g) h0 h1
  exact ⟨_, this, by unfold dynF; rw [if_pos ⟨h0, h1⟩]⟩
set_option maxHeartbeats 4000000 in
theorem rweight_calls {g : Gr} (hg : g.rules.length ≤ 1000000) (hdy : ∀ r, -1000000 ≤ dynF g r ∧ dynF g r ≤ 1000000) : ∀ (t : Tr), trSize t ≤ 1000000 → ∀ (M : List Ob), ACalls Try.prog 59 [grA g, trA t] M (fun r M' => r = .int .i64 (wtT g t) ∧ M' = M) := by
  refine Tr.ind fun t ih hsz M => ?_
  have hsz0 := hsz
  rw [trSize_eq] at hsz
  have hkl := trsSize_len t.kids
  have hd0 := hdy t.rule
  have hwt : wtT g t = if t.rule = -1 then 0 else dynF g t.rule + sumD g (rulessT t.kids) := by
    unfold wtT
    rw [rulesT_eq]
    split
    · rfl
    · rw [sumD]
  have hneg : ¬ (0 ≤ t.rule ∧ t.rule < g.rules.length) → dynF g t.rule = 0 := fun h => by unfold dynF; rw [if_neg h]
  refine acalls_of_code 47 Try.func59 rfl rfl rfl ?_
  repeat (first | refine acode_seq ?_ | refine acode_region ?_)
  refine aops_boxf rfl rfl rfl rfl rfl rfl rfl ?_
  refine aops_boxf rfl rfl rfl rfl rfl rfl rfl ?_
  repeat (refine aops_p tok rfl rfl rfl rfl ?_)
  refine aops_end ?_
  refine acode_seq ?_
  refine acode_region ?_
  repeat (refine aops_p tok rfl rfl rfl rfl ?_)
  refine aops_end ?_
  refine acode_seq ?_
  refine acode_joinI (ι := Unit) (fun _ => [(2, .pp (grC g)), (3, .pp [.int .i64 t.rule, .int .i64 t.tok, .psl t.kids.length (encs trC t.kids)]), (5, .int .i64 (dynF g t.rule))]) (fun _ => M) (fun _ => True) ?_ ?_
  · by_cases h0 : 0 ≤ t.rule
    · by_cases h1 : t.rule < g.rules.length
      · obtain ⟨ru, hru, hde⟩ := dyn_at h0 h1
        rw [hde]
        repeat' (first | refine aops_end ?_ | refine aops_pbt tok rfl (by first | omega | decide) rfl rfl rfl ?_ | refine aops_p tok rfl rfl rfl rfl ?_ | refine acode_it rfl ?_ | refine acode_seq ?_ | refine acode_region ?_)
        try any_goals (exfalso; omega)
        refine aops_ix tok (ruC ru) rfl rfl rfl rfl h0 h1 (by simp [ruC]) (encs_at (e := ruC) (s := 3) (fun _ => rfl) hru) rfl rfl rfl ?_
        repeat (first | refine aops_end ?_ | refine aops_p tok rfl rfl rfl rfl ?_)
        exact ⟨(), trivial, ⟨rfl, rfl, rfl, trivial⟩, rfl⟩
      · rw [hneg (by omega)]
        repeat' (first | refine aops_end ?_ | refine aops_pbt tok rfl (by first | omega | decide) rfl rfl rfl ?_ | refine aops_pbf tok rfl (by first | omega | decide) rfl rfl rfl ?_ | refine aops_p tok rfl rfl rfl rfl ?_ | refine acode_if rfl ?_ | refine acode_seq ?_ | refine acode_region ?_ | refine acode_skip ?_ | refine then_n ?_)
        try any_goals (exfalso; omega)
        exact ⟨(), trivial, ⟨rfl, rfl, rfl, trivial⟩, rfl⟩
    · rw [hneg (by omega)]
      repeat' (first | refine aops_end ?_ | refine aops_o rfl rfl rfl ?_ | refine aops_pbf tok rfl (by first | omega | decide) rfl rfl rfl ?_ | refine aops_p tok rfl rfl rfl rfl ?_ | refine acode_if rfl ?_ | refine acode_seq ?_ | refine acode_region ?_ | refine acode_skip ?_ | refine then_n ?_)
      try any_goals (exfalso; omega)
      exact ⟨(), trivial, ⟨rfl, rfl, rfl, trivial⟩, rfl⟩
  rintro - -
  by_cases hm : t.rule = -1
  · rw [if_pos hm] at hwt
    have : dynF g t.rule = 0 := hneg (by omega)
    rw [this, hwt]
    repeat (first | refine aops_end ?_ | refine aops_p tok rfl rfl rfl rfl ?_ | refine acode_seq ?_ | refine acode_region ?_ | refine acode_block ?_)
    refine acode_loopS (ι := Unit) (fun _ => [(3, .pp [.int .i64 t.rule, .int .i64 t.tok, .psl t.kids.length (encs trC t.kids)]), (5, .int .i64 0), (6, .int .i64 0)]) (fun _ => M) (fun _ => 0) (fun _ => True) () trivial ⟨rfl, rfl, rfl, trivial⟩ rfl ?_
    rintro - -
    repeat' (first | refine aops_end ?_ | refine aops_o rfl rfl rfl ?_ | (refine aops_pd tok rfl rfl rfl rfl ?_ ?_ <;> intro e_) | (refine aops_pn tok rfl rfl rfl rfl ?_ ?_ <;> intro e_) | refine aops_p tok rfl rfl rfl rfl ?_ | refine acode_it rfl ?_ | refine acode_if rfl ?_ | refine acode_seq ?_ | refine acode_region ?_ | refine acode_block ?_ | refine acode_skip ?_ | refine then_n ?_)
    all_goals try (exfalso; omega)
    all_goals
      refine acode_exit ?_
      repeat (first | refine exit_then ?_ | refine exit_here ?_ | refine then_n ?_)
      repeat (first | refine aops_end ?_ | refine aops_p tok rfl rfl rfl rfl ?_ | refine acode_seq ?_ | refine acode_region ?_)
      refine acode_ret ?_
      skip
      exact ⟨_, ⟨rfl, rfl⟩, resOf_tmp rfl⟩
  rw [if_neg hm] at hwt
  rw [hwt]
  have hb := sumD_bound hdy
  repeat (first | refine aops_end ?_ | refine aops_p tok rfl rfl rfl rfl ?_ | refine acode_seq ?_ | refine acode_region ?_ | refine acode_block ?_)
  refine acode_loopS (ι := Nat × Int) (fun q => [(2, .pp (grC g)), (3, .pp [.int .i64 t.rule, .int .i64 t.tok, .psl t.kids.length (encs trC t.kids)]), (5, .int .i64 q.2), (6, .int .i64 q.1)]) (fun _ => M) (fun q => t.kids.length - q.1) (fun q => q.1 ≤ t.kids.length ∧ q.2 + sumD g (rulessT (t.kids.drop q.1)) = dynF g t.rule + sumD g (rulessT t.kids)) (0, dynF g t.rule) ⟨Nat.zero_le _, rfl⟩ ⟨rfl, rfl, rfl, rfl, trivial⟩ rfl ?_
  rintro ⟨i, n⟩ ⟨hi, hgo⟩
  simp only at hi hgo ⊢
  have hb1 := hb (rulessT t.kids)
  have hb2 := hb (rulessT (t.kids.drop i))
  have hl1 := rulessT_len t.kids
  have hl2 := rulessT_len (t.kids.drop i)
  have hl3 := trs_drop t.kids i
  have hb3 := hb (rulessT (t.kids.drop (i + 1)))
  have hl4 := rulessT_len (t.kids.drop (i + 1))
  have hl5 := trs_drop t.kids (i + 1)
  by_cases hil : i < t.kids.length
  · obtain ⟨u, hu⟩ : ∃ u, t.kids[i]? = some u := ⟨t.kids[i], List.getElem?_eq_getElem hil⟩
    have hum := List.mem_of_getElem? hu
    have hus := trsSize_mem hum
    have hc := ih u hum (by omega)
    rw [rulessT_step hu] at hgo
    have hwu : -1000000000000 ≤ wtT g u ∧ wtT g u ≤ 1000000000000 := by
      have h1 := hb (rulesT u)
      have h2 := rulesT_len u
      unfold wtT
      omega
    have hn : -10000000000000 ≤ n ∧ n ≤ 10000000000000 := by omega
    generalize wtT g u = wu at *
    repeat' (first | refine aops_end ?_ | refine aops_pbt tok rfl (by first | omega | decide) rfl rfl rfl ?_ | (refine aops_pn tok rfl rfl rfl rfl ?_ ?_ <;> intro e_) | refine aops_p tok rfl rfl rfl rfl ?_ | refine acode_it rfl ?_ | refine acode_if rfl ?_ | refine acode_seq ?_ | refine acode_region ?_ | refine acode_block ?_ | refine acode_skip ?_ | refine then_n ?_)
    all_goals try (exfalso; omega)
    refine acode_drawT 9 mixed (by kernel_rfl) (by kernel_rfl) ?_
    repeat (refine seqT_p tok rfl rfl rfl rfl ?_)
    refine seqT_ix tok [.int .i64 u.rule, .int .i64 u.tok, .psl u.kids.length (encs trC u.kids)] rfl rfl rfl rfl (by omega) (by omega) (by simp) (by rw [← trC_eq]; exact tr_at (by simpa using hu)) rfl rfl rfl ?_
    repeat (refine seqT_p tok rfl rfl rfl rfl ?_)
    refine seqT_call _ Try.func59 rfl rfl rfl rfl (hc _) rfl rfl rfl ?_
    repeat (refine seqT_a tok rfl (by omega) (by omega) rfl rfl rfl ?_)
    refine SeqT.done ?_
    repeat (first | refine aops_end ?_ | refine aops_endb ?_ | refine aops_a tok rfl (by omega) (by omega) rfl rfl rfl ?_ | refine aops_p tok rfl rfl rfl rfl ?_ | refine acode_region ?_ | refine then_n ?_)
    exact ⟨(i + 1, n + wu), ⟨by simp only; omega, by simp only; omega⟩, by simp only; omega, ⟨rfl, rfl, rfl, rfl, trivial⟩, rfl⟩
  · obtain rfl : i = t.kids.length := by omega
    rw [List.drop_length, rulessT, sumD, Int.add_zero] at hgo
    rw [← hgo]
    repeat' (first | refine aops_end ?_ | refine aops_o rfl rfl rfl ?_ | refine aops_pbf tok rfl (by first | omega | decide) rfl rfl rfl ?_ | refine aops_p tok rfl rfl rfl rfl ?_ | refine acode_if rfl ?_ | refine acode_seq ?_ | refine acode_region ?_)
    all_goals try (exfalso; omega)
    refine acode_exit ?_
    repeat (first | refine exit_then ?_ | refine exit_here ?_ | refine then_n ?_)
    repeat (first | refine aops_end ?_ | refine aops_p tok rfl rfl rfl rfl ?_ | refine acode_seq ?_ | refine acode_region ?_)
    refine acode_ret ?_
    skip
    exact ⟨_, ⟨rfl, rfl⟩, resOf_tmp rfl⟩
/-- Is a tree the better one? -/
def lessT (g : Gr) (a b : Tr) : Bool := if wtT g a ≠ wtT g b then decide (wtT g a > wtT g b) else decide (cmpL (rulesT a) (rulesT b) < 0)
theorem rless_calls {g : Gr} (hg : g.rules.length ≤ 1000000) (hdy : ∀ r, -1000000 ≤ dynF g r ∧ dynF g r ≤ 1000000) {a b : Tr} (ha : trSize a ≤ 1000000) (hb : trSize b ≤ 1000000) (M : List Ob) : ACalls Try.prog 24 [grA g, trA a, trA b] M (fun r M' => r = .bool (lessT g a b) ∧ M' = M) := by
  have h1 := fun M => rweight_calls hg hdy a ha M
  have h2 := fun M => rweight_calls hg hdy b hb M
  have h3 := fun M => rrules_calls ha M
  have h4 := fun M => rrules_calls hb M
  have l1 := rulesT_len a
  have l2 := rulesT_len b
  have h5 := fun M => first_calls (a := rulesT a) (b := rulesT b) (by omega) (by omega) M
  unfold lessT
  generalize wtT g a = wa at *
  generalize wtT g b = wb at *
  refine acalls_of_code 26 Try.func24 rfl rfl rfl ?_
  repeat (first | refine acode_seq ?_ | refine acode_region ?_)
  refine aops_boxf rfl rfl rfl rfl rfl rfl rfl ?_
  refine aops_boxf rfl rfl rfl rfl rfl rfl rfl ?_
  refine aops_boxf rfl rfl rfl rfl rfl rfl rfl ?_
  repeat (first | refine aops_end ?_ | refine aops_p tok rfl rfl rfl rfl ?_ | refine acode_seq ?_ | refine acode_region ?_)
  refine aops_callx Try.func59 rfl rfl rfl rfl (h1 _) rfl rfl rfl ?_
  repeat (first | refine aops_end ?_ | refine aops_p tok rfl rfl rfl rfl ?_ | refine acode_seq ?_ | refine acode_region ?_)
  refine aops_callx Try.func59 rfl rfl rfl rfl (h2 _) rfl rfl rfl ?_
  by_cases hw : wa = wb
  · rw [if_neg (by simpa using hw)]
    repeat' (first | refine aops_end ?_ | refine aops_pbt tok rfl (by first | omega | decide) rfl rfl rfl ?_ | (refine aops_pn tok rfl rfl rfl rfl ?_ ?_ <;> intro e_) | refine aops_p tok rfl rfl rfl rfl ?_ | refine acode_it rfl ?_ | refine acode_if rfl ?_ | refine acode_seq ?_ | refine acode_region ?_ | refine acode_skip ?_ | refine then_n ?_)
    all_goals try (exfalso; omega)
    refine acode_drawT 5 mixed (by kernel_rfl) (by kernel_rfl) ?_
    repeat (refine seqT_p tok rfl rfl rfl rfl ?_)
    refine seqT_call _ Try.func61 rfl rfl rfl rfl (h3 _) rfl rfl rfl ?_
    repeat (refine seqT_p tok rfl rfl rfl rfl ?_)
    refine seqT_call _ Try.func61 rfl rfl rfl rfl (h4 _) rfl rfl rfl ?_
    refine seqT_call _ Try.func60 rfl rfl rfl rfl (h5 _) rfl rfl rfl ?_
    refine SeqT.done ?_
    repeat (first | refine aops_end ?_ | refine aops_p tok rfl rfl rfl rfl ?_)
    refine acode_ret ?_
    skip
    exact ⟨_, ⟨rfl, rfl⟩, resOf_tmp rfl⟩
  · rw [if_pos hw]
    by_cases hgt : wa > wb
    · rw [decide_eq_true hgt]
      repeat' (first | refine aops_end ?_ | refine aops_pbt tok rfl (by first | omega | decide) rfl rfl rfl ?_ | (refine aops_pn tok rfl rfl rfl rfl ?_ ?_ <;> intro e_) | refine aops_p tok rfl rfl rfl rfl ?_ | refine acode_it rfl ?_ | refine acode_if rfl ?_ | refine acode_seq ?_ | refine acode_region ?_ | refine acode_skip ?_ | refine then_n ?_)
      all_goals try (exfalso; omega)
      refine acode_ret ?_
      repeat (refine ret_then ?_)
      exact ⟨.bool true, ⟨rfl, rfl⟩, resOf_tmp rfl⟩
    · rw [decide_eq_false hgt]
      repeat' (first | refine aops_end ?_ | refine aops_pbf tok rfl (by first | omega | decide) rfl rfl rfl ?_ | (refine aops_pn tok rfl rfl rfl rfl ?_ ?_ <;> intro e_) | refine aops_p tok rfl rfl rfl rfl ?_ | refine acode_it rfl ?_ | refine acode_if rfl ?_ | refine acode_seq ?_ | refine acode_region ?_ | refine acode_skip ?_ | refine then_n ?_)
      all_goals try (exfalso; omega)
      refine acode_ret ?_
      repeat (refine ret_then ?_)
      exact ⟨.bool false, ⟨rfl, rfl⟩, resOf_tmp rfl⟩
end Go.Proofs.Ytbnhmioijeagiaa.Ab
/- A forest's nodes in an order in which each stands behind its kids. No condition. -/
set_option linter.unusedVariables false
namespace Go.Proofs.Ytbnhmioijeagiaa.Ab
theorem next_ex {f : Fo} {l : List Nat} {i : Nat} (h : WF f i) (hn : i ∉ l) : ∃ j, j ∉ l ∧ WF f j ∧ ∀ k : Nat, Kid f j k → k ∈ l := by
  induction h with
  | @mk i hi hk hs ih =>
    by_cases hall : ∀ k : Nat, Kid f i k → k ∈ l
    · exact ⟨i, hn, .mk hi hk hs, hall⟩
    · obtain ⟨k, hk'⟩ := Classical.not_forall.1 hall
      obtain ⟨h1, h2⟩ := Classical.not_imp.1 hk'
      exact ih k h1 h2
theorem topo_grow {f : Fo} (hw : ∀ i, i < f.nodes.length → WF f i) : ∀ (d : Nat) (l : List Nat), Topo f l → f.nodes.length - l.length = d → ∃ l, Topo f l ∧ ∀ i, i < f.nodes.length → i ∈ l := by
  intro d
  induction d with
  | zero =>
    intro l ht hd
    refine ⟨l, ht, fun i hi => ?_⟩
    apply Classical.byContradiction
    intro hn
    obtain ⟨j, h1, h2, h3⟩ := next_ex (hw i hi) hn
    have := (Topo.snoc ht h2.lt h1 (fun k hk => h2.small hk) h3).len
    simp at this
    omega
  | succ d ih =>
    intro l ht hd
    by_cases hall : ∀ i, i < f.nodes.length → i ∈ l
    · exact ⟨l, ht, hall⟩
    · obtain ⟨i, hi⟩ := Classical.not_forall.1 hall
      obtain ⟨h1, h2⟩ := Classical.not_imp.1 hi
      obtain ⟨j, h1, h2, h3⟩ := next_ex (hw i h1) h2
      exact ih (l ++ [j]) (Topo.snoc ht h2.lt h1 (fun k hk => h2.small hk) h3) (by simp; omega)
theorem topo_ex {f : Fo} (hw : ∀ i, i < f.nodes.length → WF f i) : ∃ l, Topo f l ∧ ∀ i, i < f.nodes.length → i ∈ l := topo_grow hw _ [] .nil rfl
end Go.Proofs.Ytbnhmioijeagiaa.Ab
/- Chapter 24's reference in plain terms: what is kept of an Alt, and how picks and trees hang together. No condition. -/
set_option linter.unusedVariables false
set_option linter.unusedSimpArgs false
namespace Go.Proofs.Ytbnhmioijeagiaa.Ab

/-- The tree of a kid as it is kept, whether there is one or not. -/
def kE (B : Pk) : List A := if B.isTk then [.int .i64 0, .int .i64 0, .nils] else trC (treeP B)
def goU (fb : List F3) (T : Nat → List Pk) (r : Int) : Nat → List Int → Nat → List A → Bool × Nat × List A
  | _, [], m, cs => (true, m, cs)
  | p, k :: l, m, cs => if k < 0 then goU fb T r (p + 1) l (m + 1) (cs ++ trC (leafT k)) else
    if (bestF (mayP fb r p) (T k.toNat)).isTk then (false, m + 1, cs ++ kE (bestF (mayP fb r p) (T k.toNat))) else goU fb T r (p + 1) l (m + 1) (cs ++ kE (bestF (mayP fb r p) (T k.toNat)))
def entU (r : Int) (x : Bool × Nat × List A) : List A := [.bool true, .bool x.1, .int .i64 r, .int .i64 0, .psl x.2.1 x.2.2]
/-- What is kept of an Alt. -/
def altU (g : Gr) (T : Nat → List Pk) (a : Al) : List A := entU a.rule (goU g.forbid T a.rule 0 a.kids 0 [])
/-- What is answered of a node. -/
def entR (B : Pk) : List A := if B.isTk then [.bool true, .bool false, .int .i64 0, .int .i64 0, .nils] else [.bool true, .bool true] ++ trC (treeP B)
theorem goU_goP {fb : List F3} {T : Nat → List Pk} {r : Int} : ∀ (l : List Int) (p : Nat) (w : Int) (ks : List Pk) (m : Nat) (cs : List A), (goP fb T r p l w ks = none ∧ (goU fb T r p l m cs).1 = false) ∨ ∃ w' es, goP fb T r p l w ks = some (w', ks ++ es) ∧ es.length = l.length ∧ goU fb T r p l m cs = (true, m + l.length, cs ++ encs trC (treesP l es))
  | [], p, w, ks, m, cs => .inr ⟨w, [], by simp [goP], rfl, by simp [goU, treesP, encs]⟩
  | k :: l, p, w, ks, m, cs => by
    simp only [goP, goU]
    by_cases h0 : k < 0
    · rw [if_pos h0, if_pos h0]
      rcases goU_goP (fb := fb) (T := T) (r := r) l (p + 1) w (ks ++ [.tk]) (m + 1) (cs ++ trC (leafT k)) with h | ⟨w', es, h1, h2, h3⟩
      · exact .inl h
      · refine .inr ⟨w', .tk :: es, by rw [h1]; simp, by simp [h2], ?_⟩
        rw [h3, treesP]
        simp [encs]; omega
    · rw [if_neg h0, if_neg h0]
      by_cases hb : (bestF (mayP fb r p) (T k.toNat)).isTk = true
      · rw [if_pos hb, if_pos hb]
        exact .inl ⟨rfl, rfl⟩
      · rw [if_neg hb, if_neg hb]
        generalize bestF (mayP fb r p) (T k.toNat) = B at *
        rcases goU_goP (fb := fb) (T := T) (r := r) l (p + 1) (IntKind.i64.wrap (w + B.wt)) (ks ++ [B]) (m + 1) (cs ++ kE B) with h | ⟨w', es, h1, h2, h3⟩
        · exact .inl h
        · refine .inr ⟨w', B :: es, by rw [h1]; simp, by simp [h2], ?_⟩
          rw [h3]
          cases B with
          | tk => exact absurd rfl hb
          | nd a w q =>
            rw [treesP]
            have : kE (.nd a w q) = trC (treeP (.nd a w q)) := rfl
            rw [this]
            simp [encs]; omega
theorem altU_tk {g : Gr} {T : Nat → List Pk} {a : Al} (h : (altP g T a).isTk = true) : (goU g.forbid T a.rule 0 a.kids 0 []).1 = false := by
  unfold altP at h
  rcases goU_goP (fb := g.forbid) (T := T) (r := a.rule) a.kids 0 (dynF g a.rule) [] 0 [] with ⟨h1, h2⟩ | ⟨w', es, h1, h2, h3⟩
  · exact h2
  · rw [h1] at h; cases h
theorem altU_nd {g : Gr} {T : Nat → List Pk} {a : Al} (h : (altP g T a).isTk = false) : altU g T a = entR (altP g T a) := by
  unfold entR
  rw [if_neg (by simp [h])]
  unfold altP at h ⊢
  unfold altU
  rcases goU_goP (fb := g.forbid) (T := T) (r := a.rule) a.kids 0 (dynF g a.rule) [] 0 [] with ⟨h1, h2⟩ | ⟨w', es, h1, h2, h3⟩
  · rw [h1] at h; cases h
  · rw [h1, h3]
    simp only [List.nil_append, Nat.zero_add]
    rw [treeP, trC_eq]
    have := treesP_len a.kids es h2
    show _ = [A.bool true, A.bool true] ++ [A.int .i64 a.rule, A.int .i64 0, A.psl (treesP a.kids es).length (encs trC (treesP a.kids es))]
    rw [this, h2]
    rfl
/-! ### picks and rules -/
theorem rulessP {l : List Int} : ∀ {l : List Int} {ks : List Pk}, ks.length = l.length → (∀ q ∈ ks, q.isTk = false → rulesT (treeP q) = rulesP q) → rulessT (treesP l ks) = rulesPs ks
  | [], [], _, _ => by simp [treesP, rulessT, rulesPs]
  | [], _ :: _, h, _ => by simp at h
  | _ :: _, [], h, _ => by simp at h
  | k :: l, .tk :: ks, h, hk => by
    rw [treesP, rulessT, rulessP (l := l) (by simpa using h) fun q hq => hk q (by simp [hq]), rulesPs, rulesP]
    unfold leafT
    rw [rulesT]; simp
  | k :: l, .nd a w q :: ks, h, hk => by
    rw [treesP, rulessT, rulessP (l := l) (by simpa using h) fun q hq => hk q (by simp [hq]), rulesPs, hk _ (by simp) rfl]
theorem goP_nds {fb : List F3} {T : Nat → List Pk} {r : Int} : ∀ {l : List Int} {p : Nat} {w : Int} {ks : List Pk} {w' : Int} {ks' : List Pk}, goP fb T r p l w ks = some (w', ks') → (ndsP ks').length = (ndsP ks).length + (l.filter fun k => decide (0 ≤ k)).length
  | [], p, w, ks, w', ks', h => by
    simp only [goP, Option.some.injEq, Prod.mk.injEq] at h
    rw [h.2]; simp
  | k :: l, p, w, ks, w', ks', h => by
    simp only [goP] at h
    split at h
    · rename_i h0
      have := goP_nds h
      rw [this, List.filter_cons_of_neg (by simp; omega)]
      unfold ndsP
      rw [List.filter_append]
      simp [Pk.isTk]
    · rename_i h0
      split at h
      · cases h
      · rename_i hb
        have := goP_nds h
        rw [this, List.filter_cons_of_pos (by simp; omega)]
        unfold ndsP
        rw [List.filter_append]
        simp at hb
        simp [hb]; omega
def arOf (g : Gr) (r : Int) : Nat := ((ruleAt g r).right.filter fun s => decide (isName g s)).length
theorem filt_len {p : Int → Bool} {q : Int → Bool} : ∀ {l m : List Int}, l.length = m.length → (∀ i, i < l.length → p (l.getD i 0) = q (m.getD i 0)) → (l.filter p).length = (m.filter q).length
  | [], [], _, _ => rfl
  | [], _ :: _, h, _ => by simp at h
  | _ :: _, [], h, _ => by simp at h
  | x :: l, y :: m, h, hi => by
    have h0 := hi 0 (by simp)
    simp at h0
    have ih := filt_len (p := p) (q := q) (l := l) (m := m) (by simpa using h) fun i hl => by simpa using hi (i + 1) (by simpa using hl)
    rw [List.filter_cons, List.filter_cons, h0]
    split <;> simp [ih]
theorem of_filt {g : Gr} {f : Fo} {s : Int} {a : Al} (h : ofB g f s a = true) : (a.kids.filter fun k => decide (0 ≤ k)).length = arOf g a.rule ∧ a.kids.length = (ruleAt g a.rule).right.length ∧ 0 ≤ a.rule ∧ a.rule < g.rules.length := by
  unfold ofB at h
  rw [Bool.and_eq_true, decide_eq_true_eq, List.all_eq_true] at h
  obtain ⟨⟨h1, _, h2⟩, h3⟩ := h
  refine ⟨?_, h2, h1.1, h1.2⟩
  unfold arOf
  refine filt_len h2 fun i hi => ?_
  have := h3 i (List.mem_range.2 hi)
  unfold fitB at this
  split at this
  · rename_i hn
    simp only [decide_eq_true_eq] at this
    rw [decide_eq_true this.1, decide_eq_true hn]
  · rename_i hn
    simp only [decide_eq_true_eq] at this
    rw [decide_eq_false (by omega), decide_eq_false hn]
theorem whole_of {g : Gr} {f : Fo} (h : wholeB g f = true) {i : Nat} {a : Al} (ha : a ∈ altsOf f i) : ∃ s, ofB g f s a = true := by
  by_cases hi : i < f.nodes.length
  · obtain ⟨nd, hnd, hndm, hal⟩ := nodes_at hi
    rw [hal] at ha
    unfold wholeB at h
    simp only [Bool.not_eq_true', List.any_eq_false, Bool.not_eq_true, Bool.not_eq_false'] at h
    refine ⟨nd.sym, ?_⟩
    have := h nd hndm
    simpa using this a ha
  · unfold altsOf at ha
    rw [List.getElem?_eq_none (by omega)] at ha
    cases ha
/-- All that is told of a pick. -/
structure PkAll (g : Gr) (f : Fo) (i : Nat) (p : Pk) : Prop where
  is : PkIs g (trL f i) p
  ar : PkAr (arOf g) p
  rules : rulesT (treeP p) = rulesP p
theorem pick_all {g : Gr} {f : Fo} (hdy : ∀ r, rng (dynF g r)) (hwh : wholeB g f = true) (h8 : ∀ i, ∀ a ∈ altsOf f i, a.kids.length ≤ 1000) {i : Nat} (hw : WF f i) : ∀ p ∈ pkT g f i, p.isTk = false → PkAll g f i p := by
  have hr : ∀ i, ∀ a ∈ altsOf f i, a.rule ≠ -1 := fun i a ha => by
    obtain ⟨s, h⟩ := whole_of hwh ha
    have := (of_filt h).2.2
    omega
  induction hw with
  | @mk i hi hk hs ih =>
    have hwf : WF f i := .mk hi hk hs
    intro p hp hpt
    have his := pick_is hdy hr hwf p hp hpt
    rw [pkT_eq hwf] at hp
    obtain ⟨a, ha, rfl⟩ := List.mem_map.1 hp
    have h8a := h8 i a ha
    have hra := hr i a ha
    obtain ⟨s, hof⟩ := whole_of hwh ha
    obtain ⟨o1, o2, o3, o4⟩ := of_filt hof
    unfold altP at hpt his ⊢
    cases hgo : goP g.forbid (pkT g f) a.rule 0 a.kids (dynF g a.rule) [] with
    | none => rw [hgo] at hpt; cases hpt
    | some x =>
      obtain ⟨w, ks⟩ := x
      rw [hgo] at his
      obtain ⟨k1, k2⟩ := goP_kids hgo
      have k3 := goP_nds hgo
      simp only [List.length_nil, Nat.zero_add, ndsP, List.filter_nil] at k1 k3
      have hkid : ∀ q ∈ ks, q.isTk = false → ∃ k : Nat, PkAll g f k q := fun q hq hqt => by
        rcases k2 q hq with h | h | ⟨k, h1, h2⟩
        · cases h
        · rw [h] at hqt; cases hqt
        · exact ⟨k, ih k ⟨a, ha, h1⟩ q h2 hqt⟩
      have ht : treeP (.nd a w ks) = .mk a.rule 0 (treesP a.kids ks) := by rw [treeP]
      refine ⟨his, .nd (by simp only at k1 ⊢; omega) (by rw [← o1]; exact k3) fun q hq hqt => ?_, ?_⟩
      · obtain ⟨k, h⟩ := hkid q hq hqt
        exact h.ar
      · show rulesT (treeP (.nd a w ks)) = rulesP (.nd a w ks)
        rw [ht, rulesT, if_neg hra, rulesP, rulessP (l := a.kids) k1 fun q hq hqt => by obtain ⟨k, h⟩ := hkid q hq hqt; exact h.rules]
/-- How deep picks are. -/
theorem dp_topo {g : Gr} {f : Fo} {l : List Nat} (h : Topo f l) : ∀ i ∈ l, ∀ p ∈ pkT g f i, dpP p ≤ l.length := by
  induction h with
  | nil => simp
  | @snoc l j ht hi hn hb hk ih =>
    intro i hil p hp
    rw [List.length_append, List.length_singleton]
    rcases List.mem_append.1 hil with h | h
    · have := ih i h p hp; omega
    · rw [List.mem_singleton.1 h] at hp
      have hwf : WF f j := .mk hi hb fun k hkk => ht.wf k (hk k hkk)
      rw [pkT_eq hwf] at hp
      obtain ⟨a, ha, rfl⟩ := List.mem_map.1 hp
      unfold altP
      cases hgo : goP g.forbid (pkT g f) a.rule 0 a.kids (dynF g a.rule) [] with
      | none => simp [dpP]
      | some x =>
        obtain ⟨w, ks⟩ := x
        obtain ⟨_, k2⟩ := goP_kids hgo
        show dpP (.nd a w ks) ≤ _
        rw [dpP]
        have : dpPs ks ≤ l.length := dpPs_le fun q hq => by
          rcases k2 q hq with h | h | ⟨k, h1, h2⟩
          · cases h
          · cases q with
            | tk => simp [dpP]
            | nd a w ks => cases h
          · exact ih k (hk k ⟨a, ha, h1⟩) q h2
        omega
theorem rows_ok {g : Gr} {f : Fo} (hdy : ∀ r, rng (dynF g r)) (hwh : wholeB g f = true) (h8 : ∀ i, ∀ a ∈ altsOf f i, a.kids.length ≤ 1000) (hF : FForm f) (hn : f.nodes.length ≤ 900) : ∀ i, i < f.nodes.length → RowOk (arOf g) (pkT g f i) := fun i hi p hp hpt => by
  obtain ⟨l, ht, hall⟩ := topo_ex hF.2
  have := dp_topo (g := g) ht i (hall i hi) p hp
  have := ht.len
  exact ⟨(pick_all hdy hwh h8 (hF.2 i hi) p hp hpt).ar, by omega⟩
theorem wt_small {g : Gr} (hdy : ∀ r, -1000000 ≤ dynF g r ∧ dynF g r ≤ 1000000) {t : Tr} (h : trSize t ≤ 1000000) : IntKind.i64.wrap (wtT g t) = wtT g t := by
  have h1 := sumD_bound hdy (rulesT t)
  have h2 := rulesT_len t
  refine wrap64_small ?_ ?_ <;> (unfold wtT; omega)
theorem less_bet {g : Gr} (hdy : ∀ r, -1000000 ≤ dynF g r ∧ dynF g r ≤ 1000000) {f : Fo} {i : Nat} {p q : Pk} (hp : PkAll g f i p) (hq : PkAll g f i q) (sp : trSize (treeP p) ≤ 1000000) (sq : trSize (treeP q) ≤ 1000000) : lessT g (treeP p) (treeP q) = betP p q := by
  unfold lessT betP
  have e1 : wtT g (treeP p) = p.wt := by rw [hp.is.wt, wt_small hdy sp]
  have e2 : wtT g (treeP q) = q.wt := by rw [hq.is.wt, wt_small hdy sq]
  rw [e1, e2, hp.rules, hq.rules]
  by_cases h : p.wt = q.wt
  · rw [if_neg (by simpa using h), h]; simp
  · rw [if_pos h, decide_eq_false (p := p.wt = q.wt) h]; simp
end Go.Proofs.Ytbnhmioijeagiaa.Ab
/- Chapter 24's reference: the best of a node: the walk. No condition. -/
set_option linter.unusedVariables false
set_option linter.unusedSimpArgs false
namespace Go.Proofs.Ytbnhmioijeagiaa.Ab
attribute [local irreducible] thenA inBlockA ACode AOps put IntKind.wrap

/-- The name of an Alt. -/
def codeE (i j : Nat) : Nat := i * 4398046510977 + j
def zeroE : List A := [.bool false, .bool false, .int .i64 0, .int .i64 0, .nils]
/-- What is kept: of those in L what they come to, of others nothing. -/
def rowE (U : Nat → Nat → List A) (L : List Nat) (i m : Nat) : List A := encs (fun j => if L.contains (codeE i j) then U i j else zeroE) (List.range m)
def lenE (f : Fo) (i : Nat) : Nat := (altsOf f i).length
def ownR (f : Fo) (rs : Nat → Nat) : List A := (List.range f.nodes.length).map fun i => A.own (some (rs i)) (lenE f i) (lenE f i)
def rowsR (f : Fo) (U : Nat → Nat → List A) (rs : Nat → Nat) (L : List Nat) : List Ob := (List.range f.nodes.length).map fun i => ⟨some (rs i), lenE f i * 5, rowE U L i (lenE f i)⟩
noncomputable def altE (g : Gr) (f : Fo) (i j : Nat) : List A := altU g (pkT g f) ((altsOf f i).getD j ⟨0, []⟩)
abbrev pkCells (g : Gr) (f : Fo) (bk capk : Nat) : List A := [.int .i64 g.names, .int .i64 g.kinds, .int .i64 g.start, .psl g.rules.length (encs ruC g.rules), .psl g.forbid.length (encs f3C g.forbid), .psl g.rc.length (ints g.rc), .psl g.kc.length (ints g.kc), .psl f.nodes.length (encs ndC f.nodes), .int .i64 f.root, .own (some bk) f.nodes.length capk]
noncomputable abbrev pkS (g : Gr) (f : Fo) (pb bk capk : Nat) (rs : Nat → Nat) (L : List Nat) (M : List Ob) : List Ob := ⟨some pb, 10, pkCells g f bk capk⟩ :: ⟨some bk, capk * 1, ownR f rs⟩ :: (rowsR f (altE g f) rs L ++ M)
def mayR (fb : List F3) (r p : Int) (q : Int) : Bool := if 0 ≤ r then mayP fb r p q else true
/-- What under promises of a node. -/
def UnderC (g : Gr) (f : Fo) (k : Nat) : Prop := ∀ (pb bk capk : Nat) (rs : Nat → Nat) (r p : Int) (L : List Nat) (M : List Ob), ACalls Try.prog 42 [.ref pb 0, .int .i64 k, .int .i64 r, .int .i64 p] (pkS g f pb bk capk rs L M) (fun x M' => ∃ L', x = .agg (entR (bestF (mayR g.forbid r p) (pkT g f k))) ∧ M' = pkS g f pb bk capk rs L' M)
def AltC (g : Gr) (f : Fo) (i j : Nat) : Prop := ∀ (pb bk capk : Nat) (rs : Nat → Nat) (L : List Nat) (M : List Ob), ACalls Try.prog 75 [.ref pb 0, .int .i64 i, .int .i64 j] (pkS g f pb bk capk rs L M) (fun x M' => ∃ L', x = .agg (altE g f i j) ∧ M' = pkS g f pb bk capk rs L' M)
theorem entR_tk : entR .tk = [.bool true, .bool false, .int .i64 0, .int .i64 0, .nils] := rfl
theorem entR_nd (a : Al) (w : Int) (q : List Pk) : entR (.nd a w q) = [.bool true, .bool true, .int .i64 (treeP (.nd a w q)).rule, .int .i64 (treeP (.nd a w q)).tok, .psl (treeP (.nd a w q)).kids.length (encs trC (treeP (.nd a w q)).kids)] := by
  unfold entR
  rw [if_neg (by simp [Pk.isTk]), trC_eq]
  rfl
set_option maxHeartbeats 16000000 in
theorem under_of {g : Gr} {f : Fo} (hgl : g.rules.length ≤ 1000000) (hfl : g.forbid.length ≤ 9223372036854775807) (hdy : ∀ r, -1000000 ≤ dynF g r ∧ dynF g r ≤ 1000000) (hf : FoOk f) {k : Nat} (hw : WF f k) (hall : ∀ p ∈ pkT g f k, p.isTk = false → PkAll g f k p ∧ trSize (treeP p) ≤ 1000000) (halt : ∀ j, j < (altsOf f k).length → AltC g f k j) : UnderC g f k := by
  intro pb bk capk rs r p L M
  obtain ⟨hf1, hf2⟩ := id hf
  have hi := hw.lt
  obtain ⟨nd, hnd, hndm, hal⟩ := nodes_at hi
  obtain ⟨hal1, hal2⟩ := hf2 nd hndm
  have hT := pkT_eq (g := g) hw
  have hTl := pkT_len (g := g) hw
  unfold rowP at hT
  rw [hal] at hT hTl halt
  refine acalls_of_code 69 Try.func42 rfl rfl rfl ?_
  repeat (first | refine acode_seq ?_ | refine acode_region ?_)
  refine aops_alloc tok rfl rfl rfl rfl rfl rfl fun b8 => ?_
  repeat (first | refine aops_end ?_ | refine aops_p tok rfl rfl rfl rfl ?_ | refine acode_seq ?_ | refine acode_region ?_)
  refine aops_alloc tok rfl rfl rfl rfl rfl rfl fun b9 => ?_
  repeat (first | refine aops_end ?_ | refine aops_p tok rfl rfl rfl rfl ?_ | refine aops_stn tok rfl rfl rfl rfl rfl rfl rfl rfl rfl ?_ | refine acode_seq ?_ | refine acode_region ?_)
  refine aops_ld tok 2 (y := .psl f.nodes.length (encs ndC f.nodes)) rfl rfl rfl rfl rfl rfl rfl rfl ?_
  repeat (refine aops_p tok rfl rfl rfl rfl ?_)
  refine aops_ix tok (ndC nd) rfl rfl rfl rfl (by omega) (by omega) (by simp [ndC]) (nd_at hnd) rfl rfl rfl ?_
  repeat (first | refine aops_end ?_ | refine aops_p tok rfl rfl rfl rfl ?_ | refine acode_seq ?_ | refine acode_region ?_ | refine acode_block ?_)
  refine acode_loopS (ι := Nat × Pk × List Nat) (fun q => [(0, .ref pb 0), (1, .int .i64 k), (2, .int .i64 r), (3, .int .i64 p), (8, .ref b8 0), (9, .ref b9 0), (10, .psl nd.alts.length (encs alC nd.alts)), (11, .int .i64 q.1)]) (fun q => ⟨some b9, 5, entR q.2.1⟩ :: ⟨some b8, 5, zeroE⟩ :: pkS g f pb bk capk rs q.2.2 M) (fun q => nd.alts.length - q.1)
    (fun q => q.1 ≤ nd.alts.length ∧ ((pkT g f k).drop q.1).foldl (bestS (mayR g.forbid r p)) q.2.1 = bestF (mayR g.forbid r p) (pkT g f k) ∧ (q.2.1.isTk = false → q.2.1 ∈ pkT g f k)) (0, .tk, L) ⟨Nat.zero_le _, rfl, fun h => by cases h⟩ ⟨rfl, rfl, rfl, rfl, rfl, rfl, rfl, rfl, trivial⟩ rfl ?_
  rintro ⟨j, out, L1⟩ ⟨hj, hfold, hout⟩
  simp only at hj hfold hout ⊢
  repeat (first | refine aops_end ?_ | refine aops_p tok rfl rfl rfl rfl ?_ | refine acode_seq ?_ | refine acode_region ?_)
  refine acode_id rfl (fun e => ?_) (fun e => ?_)
  · have hjl : j < nd.alts.length := by omega
    obtain ⟨a, ha⟩ : ∃ a, nd.alts[j]? = some a := ⟨nd.alts[j], List.getElem?_eq_getElem hjl⟩
    have hpj : (pkT g f k)[j]? = some (altP g (pkT g f) a) := by rw [hT, List.getElem?_map, ha]; rfl
    have hpm := List.mem_of_getElem? hpj
    have hdp : (pkT g f k).drop j = altP g (pkT g f) a :: (pkT g f k).drop (j + 1) := by
      have hl : j < (pkT g f k).length := by omega
      rw [List.drop_eq_getElem_cons hl]
      rw [List.getElem?_eq_getElem hl] at hpj
      rw [Option.some.inj hpj]
    have hae : altE g f k j = altU g (pkT g f) a := by
      unfold altE
      rw [hal, List.getD_eq_getElem?_getD, ha]; rfl
    have hac := halt j hjl
    have hrule : (altP g (pkT g f) a).isTk = false → (altP g (pkT g f) a).rule = a.rule := fun h => by
      unfold altP at h ⊢
      cases hgo : goP g.forbid (pkT g f) a.rule 0 a.kids (dynF g a.rule) [] with
      | none => rw [hgo] at h; cases h
      | some x => rfl
    rw [hdp, List.foldl_cons] at hfold
    have htk := altU_tk (g := g) (T := pkT g f) (a := a)
    have hnd := altU_nd (g := g) (T := pkT g f) (a := a)
    have hpall := hall _ hpm
    generalize altP g (pkT g f) a = P at *
    have hforb := fun M => rforb_calls hfl (r := r) (p := p) (q := a.rule) M
    have hperm : ∀ (L : List Nat) (X M : List Ob), (X ++ pkS g f pb bk capk rs L M).Perm (pkS g f pb bk capk rs L (X ++ M)) := fun L X M =>
      List.perm_append_comm_assoc X (⟨some pb, 10, pkCells g f bk capk⟩ :: ⟨some bk, capk * 1, ownR f rs⟩ :: rowsR f (altE g f) rs L) M
    have hskip : mayR g.forbid r p a.rule = false → bestS (mayR g.forbid r p) out P = out := fun h => by
      cases hp : P.isTk with
      | true => exact bestS_no (by rw [hp]; rfl)
      | false => exact bestS_no (by rw [hrule hp, h]; simp)
    have hmv : mayR g.forbid r p a.rule = !(decide (0 ≤ r) && decide ((r, p, a.rule) ∈ g.forbid)) := by
      unfold mayR mayP
      by_cases h : 0 ≤ r <;> simp [h]
    have hgoal : ∀ (fv : Bool), fv = (decide (0 ≤ r) && decide ((r, p, a.rule) ∈ g.forbid)) → ∀ (E : Env), subE [(0, .ref pb 0), (1, .int .i64 k), (2, .int .i64 r), (3, .int .i64 p), (8, .ref b8 0), (9, .ref b9 0), (10, .psl nd.alts.length (encs alC nd.alts)), (11, .int .i64 j), (44, .bool fv)] E → True := fun _ _ _ _ => trivial
    refine acode_skip (then_n ?_)
    refine acode_seq ?_
    refine acode_block ?_
    refine acode_seq ?_
    refine acode_seq ?_
    refine acode_joinI (ι := Unit) (fun _ => [(0, .ref pb 0), (1, .int .i64 k), (2, .int .i64 r), (3, .int .i64 p), (8, .ref b8 0), (9, .ref b9 0), (10, .psl nd.alts.length (encs alC nd.alts)), (11, .int .i64 j), (44, .bool (decide (0 ≤ r) && decide ((r, p, a.rule) ∈ g.forbid)))]) (fun _ => ⟨some b9, 5, entR out⟩ :: ⟨some b8, 5, zeroE⟩ :: pkS g f pb bk capk rs L1 M) (fun _ => True) ?_ ?_
    · by_cases h0 : 0 ≤ r
      · rw [decide_eq_true h0, Bool.true_and]
        refine acode_drawT 16 mixed (by kernel_rfl) (by kernel_rfl) ?_
        repeat' (first | refine seqT_o rfl rfl rfl ?_ | (refine seqT_pd tok rfl rfl rfl rfl ?_ ?_ <;> intro e_) | refine seqT_p tok rfl rfl rfl rfl ?_)
        all_goals try (exfalso; omega)
        refine seqT_ld tok 2 (y := grA g) rfl rfl rfl rfl rfl rfl rfl rfl ?_
        repeat (refine seqT_p tok rfl rfl rfl rfl ?_)
        refine seqT_ix tok (alC a) rfl rfl rfl rfl (by omega) (by omega) (by simp [alC]) (al_at ha) rfl rfl rfl ?_
        repeat (refine seqT_p tok rfl rfl rfl rfl ?_)
        refine seqT_call _ Try.func58 rfl rfl rfl rfl (hforb _) rfl rfl rfl ?_
        repeat (refine seqT_p tok rfl rfl rfl rfl ?_)
        refine SeqT.done ?_
        repeat (refine aops_end ?_)
        exact ⟨(), trivial, ⟨rfl, rfl, rfl, rfl, rfl, rfl, rfl, rfl, rfl, trivial⟩, rfl⟩
      · rw [decide_eq_false h0, Bool.false_and]
        refine acode_drawT 16 mixed (by kernel_rfl) (by kernel_rfl) ?_
        repeat' (first | refine seqT_o rfl rfl rfl ?_ | (refine seqT_pd tok rfl rfl rfl rfl ?_ ?_ <;> intro e_) | refine seqT_p tok rfl rfl rfl rfl ?_)
        all_goals try (exfalso; omega)
        refine SeqT.done ?_
        repeat (refine aops_end ?_)
        exact ⟨(), trivial, ⟨rfl, rfl, rfl, rfl, rfl, rfl, rfl, rfl, rfl, trivial⟩, rfl⟩
    rintro - -
    refine acode_cond rfl (fun hfb => ?_) (fun hfb => ?_)
    · rw [hskip (by rw [hmv, hfb]; rfl)] at hfold
      refine acode_exit ?_
      repeat (first | refine exit_then ?_ | refine exit_here ?_ | refine then_n ?_)
      repeat (first | refine aops_end ?_ | refine aops_a tok rfl (by omega) (by omega) rfl rfl rfl ?_ | refine aops_p tok rfl rfl rfl rfl ?_ | refine acode_region ?_)
      exact ⟨(j + 1, out, L1), ⟨by simp only; omega, hfold, hout⟩, by simp only; omega, ⟨rfl, rfl, rfl, rfl, rfl, rfl, rfl, rfl, trivial⟩, rfl⟩
    · have hmay : mayR g.forbid r p a.rule = true := by rw [hmv, hfb]; rfl
      repeat (first | refine aops_p tok rfl rfl rfl rfl ?_ | refine acode_seq ?_ | refine acode_region ?_ | refine acode_skip ?_ | refine then_n ?_)
      refine aops_perm (pkS g f pb bk capk rs L1 ([⟨some b9, 5, entR out⟩, ⟨some b8, 5, zeroE⟩] ++ M)) ?_ ?_
      · exact hperm L1 [⟨some b9, 5, entR out⟩, ⟨some b8, 5, zeroE⟩] M
      refine aops_call Try.func75 rfl rfl rfl rfl (hac pb bk capk rs L1 _) rfl rfl ?_
      rintro x M' ⟨L', rfl, rfl⟩
      refine aops_perm (⟨some b9, 5, entR out⟩ :: ⟨some b8, 5, zeroE⟩ :: pkS g f pb bk capk rs L' M) ?_ ?_
      · exact (hperm L' [⟨some b9, 5, entR out⟩, ⟨some b8, 5, zeroE⟩] M).symm
      rw [hae]
      cases P with
      | tk =>
        rw [bestS_no (p := .tk) rfl] at hfold
        have htk := htk rfl
        unfold altU entU
        rw [htk]
        repeat (refine aops_put rfl ?_)
        refine aops_alloc tok rfl rfl rfl rfl rfl rfl fun b12 => ?_
        repeat (first | refine aops_end ?_ | refine aops_stn tok rfl rfl rfl rfl rfl rfl rfl rfl rfl ?_ | refine acode_seq ?_)
        refine acode_drawT 18 mixed (by kernel_rfl) (by kernel_rfl) ?_
        repeat (first | refine seqT_o rfl rfl rfl ?_ | refine seqT_p tok rfl rfl rfl rfl ?_ | refine seqT_ld tok 0 rfl rfl rfl rfl rfl rfl rfl rfl ?_)
        refine SeqT.done ?_
        refine aops_drop0 ?_
        repeat' (first | refine aops_end ?_ | refine aops_a tok rfl (by omega) (by omega) rfl rfl rfl ?_ | refine aops_p tok rfl rfl rfl rfl ?_ | refine acode_if rfl ?_ | refine acode_region ?_ | refine acode_skip ?_ | refine then_n ?_ | refine block_n ?_)
        exact ⟨(j + 1, out, L'), ⟨by simp only; omega, hfold, hout⟩, by simp only; omega, ⟨rfl, rfl, rfl, rfl, rfl, rfl, rfl, rfl, trivial⟩, rfl⟩
      | nd a2 w2 q2 =>
        obtain ⟨hpa, hps⟩ := hpall rfl
        have hmay2 : mayR g.forbid r p (Pk.nd a2 w2 q2).rule = true := by rw [hrule rfl]; exact hmay
        rw [hnd rfl, entR_nd]
        cases out with
        | tk =>
          rw [bestS_tk (p := .nd a2 w2 q2) rfl hmay2] at hfold
          rw [entR_tk]
          have hent := entR_nd a2 w2 q2
          generalize treeP (.nd a2 w2 q2) = tr at *
          repeat (refine aops_put rfl ?_)
          refine aops_alloc tok rfl rfl rfl rfl rfl rfl fun b12 => ?_
          repeat (first | refine aops_end ?_ | refine aops_stn tok rfl rfl rfl rfl rfl rfl rfl rfl rfl ?_ | refine acode_seq ?_)
          refine acode_drawT 18 mixed (by kernel_rfl) (by kernel_rfl) ?_
          repeat (first | refine seqT_o rfl rfl rfl ?_ | refine seqT_p tok rfl rfl rfl rfl ?_ | refine seqT_ld tok 0 rfl rfl rfl rfl rfl rfl rfl rfl ?_ | refine seqT_ld tok 1 rfl rfl rfl rfl rfl rfl rfl rfl ?_)
          refine SeqT.done ?_
          refine aops_end ?_
          refine acode_it rfl ?_
          refine acode_region ?_
          repeat (first | refine aops_ld tok 0 rfl rfl rfl rfl rfl rfl rfl rfl ?_ | refine aops_stn1 tok rfl rfl rfl rfl rfl rfl rfl rfl rfl ?_)
          refine aops_drop0 ?_
          repeat (first | refine aops_end ?_ | refine aops_endb ?_ | refine aops_a tok rfl (by omega) (by omega) rfl rfl rfl ?_ | refine aops_p tok rfl rfl rfl rfl ?_ | refine acode_region ?_ | refine then_n ?_)
          refine ⟨(j + 1, .nd a2 w2 q2, L'), ⟨by simp only; omega, hfold, fun _ => hpm⟩, by simp only; omega, ⟨rfl, rfl, rfl, rfl, rfl, rfl, rfl, rfl, trivial⟩, ?_⟩
          simp only [hent]
        | nd a3 w3 q3 =>
          obtain ⟨hoa, hos⟩ := hall _ (hout rfl) rfl
          have hless := fun M => rless_calls hgl hdy hps hos M
          rw [less_bet hdy hpa hoa hps hos] at hless
          have hbs : bestS (mayR g.forbid r p) (.nd a3 w3 q3) (.nd a2 w2 q2) = if betP (.nd a2 w2 q2) (.nd a3 w3 q3) = true then .nd a2 w2 q2 else .nd a3 w3 q3 := by
            unfold bestS
            rw [hmay2, if_neg (by simp [Pk.isTk])]
            rfl
          rw [hbs] at hfold
          generalize betP (.nd a2 w2 q2) (.nd a3 w3 q3) = bt at *
          have hent := entR_nd a2 w2 q2
          have hent3 := entR_nd a3 w3 q3
          rw [entR_nd a3 w3 q3]
          have htA : ∀ t : Tr, trA t = .agg [.int .i64 t.rule, .int .i64 t.tok, .psl t.kids.length (encs trC t.kids)] := fun t => rfl
          rw [htA, htA] at hless
          generalize treeP (.nd a2 w2 q2) = tr at *
          generalize treeP (.nd a3 w3 q3) = tr3 at *
          repeat (refine aops_put rfl ?_)
          refine aops_alloc tok rfl rfl rfl rfl rfl rfl fun b12 => ?_
          repeat (first | refine aops_end ?_ | refine aops_stn tok rfl rfl rfl rfl rfl rfl rfl rfl rfl ?_ | refine acode_seq ?_)
          refine acode_drawT 18 mixed (by kernel_rfl) (by kernel_rfl) ?_
          repeat (first | refine seqT_p tok rfl rfl rfl rfl ?_ | refine seqT_ld tok 0 rfl rfl rfl rfl rfl rfl rfl rfl ?_ | refine seqT_ld tok 1 rfl rfl rfl rfl rfl rfl rfl rfl ?_)
          refine seqT_ld tok 3 (y := grA g) rfl rfl rfl rfl rfl rfl rfl rfl ?_
          repeat (first | refine seqT_p tok rfl rfl rfl rfl ?_ | refine seqT_ld tok 0 rfl rfl rfl rfl rfl rfl rfl rfl ?_ | refine seqT_ld tok 1 rfl rfl rfl rfl rfl rfl rfl rfl ?_)
          refine seqT_call _ Try.func24 rfl rfl rfl rfl (hless _) rfl rfl rfl ?_
          repeat (refine seqT_p tok rfl rfl rfl rfl ?_)
          refine SeqT.done ?_
          refine aops_end ?_
          cases bt with
          | true =>
            rw [if_pos rfl] at hfold
            refine acode_it rfl ?_
            refine acode_region ?_
            repeat (first | refine aops_ld tok 0 rfl rfl rfl rfl rfl rfl rfl rfl ?_ | refine aops_stn1 tok rfl rfl rfl rfl rfl rfl rfl rfl rfl ?_)
            refine aops_drop0 ?_
            repeat (first | refine aops_end ?_ | refine aops_endb ?_ | refine aops_a tok rfl (by omega) (by omega) rfl rfl rfl ?_ | refine aops_p tok rfl rfl rfl rfl ?_ | refine acode_region ?_ | refine then_n ?_)
            refine ⟨(j + 1, .nd a2 w2 q2, L'), ⟨by simp only; omega, hfold, fun _ => hpm⟩, by simp only; omega, ⟨rfl, rfl, rfl, rfl, rfl, rfl, rfl, rfl, trivial⟩, ?_⟩
            simp only [hent]
          | false =>
            rw [if_neg Bool.false_ne_true] at hfold
            refine acode_if rfl ?_
            refine acode_drop0 ?_
            repeat (first | refine aops_end ?_ | refine aops_a tok rfl (by omega) (by omega) rfl rfl rfl ?_ | refine aops_p tok rfl rfl rfl rfl ?_ | refine acode_region ?_ | refine acode_skip ?_ | refine then_n ?_ | refine block_n ?_)
            refine ⟨(j + 1, .nd a3 w3 q3, L'), ⟨by simp only; omega, hfold, hout⟩, by simp only; omega, ⟨rfl, rfl, rfl, rfl, rfl, rfl, rfl, rfl, trivial⟩, ?_⟩
            simp only [hent3]
  · obtain rfl : j = nd.alts.length := by omega
    rw [← hTl, List.drop_length, List.foldl_nil] at hfold
    rw [← hfold]
    refine acode_exit ?_
    repeat (first | refine exit_then ?_ | refine exit_here ?_ | refine then_n ?_)
    cases out with
    | tk =>
      rw [entR_tk]
      repeat (first | refine aops_end ?_ | refine aops_ld tok 0 rfl rfl rfl rfl rfl rfl rfl rfl ?_ | refine aops_stn1 tok rfl rfl rfl rfl rfl rfl rfl rfl rfl ?_ | refine acode_seq ?_ | refine acode_region ?_)
      refine acode_drop0 ?_
      refine acode_pubref0 8 rfl ?_
      refine acode_ret ?_
      skip
      exact ⟨.agg [.bool true, .bool false, .int .i64 0, .int .i64 0, .nils], ⟨L1, rfl, rfl⟩, resOf_pp tok rfl rfl rfl⟩
    | nd a2 w2 q2 =>
      rw [entR_nd]
      generalize treeP (.nd a2 w2 q2) = tr at *
      repeat (first | refine aops_end ?_ | refine aops_ld tok 0 rfl rfl rfl rfl rfl rfl rfl rfl ?_ | refine aops_stn1 tok rfl rfl rfl rfl rfl rfl rfl rfl rfl ?_ | refine acode_seq ?_ | refine acode_region ?_)
      refine acode_drop0 ?_
      refine acode_pubref0 8 rfl ?_
      refine acode_ret ?_
      skip
      exact ⟨.agg [.bool true, .bool true, .int .i64 tr.rule, .int .i64 tr.tok, .psl tr.kids.length (encs trC tr.kids)], ⟨L1, rfl, rfl⟩, resOf_pp tok rfl rfl rfl⟩
end Go.Proofs.Ytbnhmioijeagiaa.Ab
/- Chapter 24's reference: the best of an Alt: the walk. No condition. -/
set_option linter.unusedVariables false
set_option linter.unusedSimpArgs false
namespace Go.Proofs.Ytbnhmioijeagiaa.Ab
attribute [local irreducible] thenA inBlockA ACode AOps put IntKind.wrap

theorem altE_len (g : Gr) (f : Fo) (i j : Nat) : (altE g f i j).length = 5 := rfl
theorem ownR_at {f : Fo} {rs : Nat → Nat} {i : Nat} (hi : i < f.nodes.length) : (ownR f rs)[i]? = some (.own (some (rs i)) (lenE f i) (lenE f i)) := by
  simp [ownR, List.getElem?_range hi]
theorem rowsR_at {f : Fo} {U : Nat → Nat → List A} {rs : Nat → Nat} {L : List Nat} {i : Nat} (hi : i < f.nodes.length) (M : List Ob) : (rowsR f U rs L ++ M)[i]? = some ⟨some (rs i), lenE f i * 5, rowE U L i (lenE f i)⟩ := by
  rw [List.getElem?_append_left (by simp [rowsR]; exact hi)]
  simp [rowsR, List.getElem?_range hi]
theorem rowE_at {g : Gr} {f : Fo} {L : List Nat} {i j m : Nat} (hj : j < m) : (if L.contains (codeE i j) then altE g f i j else zeroE) <+: (rowE (altE g f) L i m).drop (j * 5) := by
  refine encs_at (e := fun j => if L.contains (codeE i j) then altE g f i j else zeroE) (s := 5) (fun j => ?_) (List.getElem?_range hj)
  split <;> rfl
theorem rowE_len {g : Gr} {f : Fo} {L : List Nat} {i m : Nat} : (rowE (altE g f) L i m).length = m * 5 := by
  unfold rowE
  rw [encs_len (s := 5) fun j => by split <;> rfl, List.length_range]
theorem codeE_inj {i j i' j' : Nat} (hj : j < 4398046510977) (hj' : j' < 4398046510977) : codeE i j = codeE i' j' ↔ i = i' ∧ j = j' := by
  unfold codeE
  constructor
  · intro h; omega
  · rintro ⟨rfl, rfl⟩; rfl
theorem pre_take {α : Type} {xs ys : List α} {i n : Nat} (h : xs <+: ys.drop i) (hn : xs.length = n) : (ys.drop i).take n = xs := by
  obtain ⟨t, ht⟩ := h
  rw [← ht, ← hn, List.take_left]
theorem encs_congr {α : Type} {e e' : α → List A} : ∀ {l : List α}, (∀ x ∈ l, e x = e' x) → encs e l = encs e' l
  | [], _ => rfl
  | x :: l, h => by
    show e x ++ encs e l = e' x ++ encs e' l
    rw [h x (by simp), encs_congr fun y hy => h y (by simp [hy])]
/-- One more of them is kept. -/
theorem rowE_add {g : Gr} {f : Fo} {L : List Nat} {i j m : Nat} (hj : j < m) (hm : m ≤ 4398046510976) : (rowE (altE g f) L i m).take (j * 5) ++ (altE g f i j ++ (rowE (altE g f) L i m).drop (j * 5 + 5)) = rowE (altE g f) (codeE i j :: L) i m := by
  unfold rowE
  have h5 : ∀ (L : List Nat) (x : Nat), (if L.contains (codeE i x) then altE g f i x else zeroE).length = 5 := fun L x => by split <;> rfl
  have hsp : List.range m = List.range j ++ (j :: (List.range m).drop (j + 1)) := by
    have h1 : (List.range m).take j = List.range j := by rw [List.take_range, Nat.min_eq_left (by omega)]
    have h2 : (List.range m).drop j = j :: (List.range m).drop (j + 1) := by
      rw [List.drop_eq_getElem_cons (by simpa using hj)]; simp
    rw [← h1, ← h2, List.take_append_drop]
  have hne : ∀ x ∈ (List.range m).drop (j + 1), x ≠ j ∧ x < m := fun x hx => by
    obtain ⟨k, hk, rfl⟩ := List.getElem_of_mem hx
    rw [List.getElem_drop, List.getElem_range]
    rw [List.length_drop, List.length_range] at hk
    omega
  rw [hsp, encs_app, encs_app]
  have hl : (encs (fun x => if L.contains (codeE i x) then altE g f i x else zeroE) (List.range j)).length = j * 5 := by
    rw [encs_len (s := 5) fun x => h5 L x, List.length_range]
  have hc : ∀ {x : Nat}, x ≠ j → x < m → (codeE i j :: L).contains (codeE i x) = L.contains (codeE i x) := fun {x} h1 h2 => by
    rw [List.contains_cons]
    have : (codeE i x == codeE i j) = false := by
      rw [beq_eq_false_iff_ne]
      intro e
      exact h1 ((codeE_inj (by omega) (by omega)).1 e).2
    rw [this, Bool.false_or]
  rw [List.take_left' hl, ← List.drop_drop, List.drop_left' hl]
  congr 1
  · refine encs_congr fun x hx => ?_
    have := List.mem_range.1 hx
    rw [hc (by omega) (by omega)]
  · show _ = encs _ (j :: _)
    rw [show ∀ (e : Nat → List A) (l : List Nat), encs e (j :: l) = e j ++ encs e l from fun _ _ => rfl, show ∀ (e : Nat → List A) (l : List Nat), encs e (j :: l) = e j ++ encs e l from fun _ _ => rfl]
    rw [List.drop_left' (h5 L j)]
    have : (codeE i j :: L).contains (codeE i j) = true := by simp
    simp only [this, if_true]
    congr 1
    refine encs_congr fun x hx => ?_
    have := hne x hx
    rw [hc this.1 this.2]
theorem rows_add {g : Gr} {f : Fo} {rs : Nat → Nat} {L : List Nat} {i j : Nat} (hi : i < f.nodes.length) (hj : j < lenE f i) (hm : ∀ i, lenE f i ≤ 4398046510976) (M : List Ob) : (rowsR f (altE g f) rs L ++ M).set i ⟨some (rs i), lenE f i * 5, rowE (altE g f) (codeE i j :: L) i (lenE f i)⟩ = rowsR f (altE g f) rs (codeE i j :: L) ++ M := by
  have hlen : ∀ L, (rowsR f (altE g f) rs L).length = f.nodes.length := fun L => by simp [rowsR]
  rw [List.set_append_left _ _ (by rw [hlen]; exact hi)]
  congr 1
  refine List.ext_getElem? fun k => ?_
  rw [List.getElem?_set, hlen]
  by_cases hk : k < f.nodes.length
  · have e1 : ∀ L, (rowsR f (altE g f) rs L)[k]? = some ⟨some (rs k), lenE f k * 5, rowE (altE g f) L k (lenE f k)⟩ := fun L => by simp [rowsR, List.getElem?_range hk]
    rw [e1, e1]
    by_cases h : i = k
    · subst h; rw [if_pos rfl, if_pos hk]
    · rw [if_neg h]
      congr 2
      unfold rowE
      refine encs_congr fun x hx => ?_
      have hx := List.mem_range.1 hx
      have := hm k
      have := hm i
      have : (codeE i j :: L).contains (codeE k x) = L.contains (codeE k x) := by
        rw [List.contains_cons]
        have : (codeE k x == codeE i j) = false := by
          rw [beq_eq_false_iff_ne]
          intro e
          exact h ((codeE_inj (by omega) (by omega)).1 e).1.symm
        rw [this, Bool.false_or]
      rw [this]
  · rw [List.getElem?_eq_none (by rw [hlen]; omega), List.getElem?_eq_none (by rw [hlen]; omega)]
    split
    · exfalso; omega
    · rfl
end Go.Proofs.Ytbnhmioijeagiaa.Ab
/- Truth values held against each other by !=: rules of the walk. No condition. -/
set_option linter.unusedVariables false
set_option linter.unusedSimpArgs false
namespace Go.Proofs.Ytbnhmioijeagiaa.Ab
section
variable {P : Program} {T : List TI} {N : Nat} {ops : Array Oper} {o : Oper} {rest : List Oper} {Q : Exit → St → Prop} {E F : Env} {M : List Ob}
theorem neb_run {t : Nat} (h : P.underlying t = some .bool) (a b : Bool) (w : World) : (binOp .neq t (.bool a) (.bool b)).run P w = .ok (.bool (!(a == b))) w := by
  have := equalIn_bool h 9999 a b w
  have e : Op.maxDepth = 9999 + 1 := rfl
  simp only [binOp, Op.equal, e]
  simp [this]
theorem aops_neb (hT : TOk P T) {t t' d : Nat} {x y : Operand} {a b : Bool} (ho : o.op = .binOp .neq t x y t') (ht : kindOf T t = some .bool) (hx : opA E x = .bool a) (hy : opA E y = .bool b) (hg : guardOn ops o E = some true) (hd : o.dst = some d) (hN : Nat.blt d N = true)
    (next : AOps P N ops rest Q ⟨(d, .bool (!(a == b))) :: E, M⟩) : AOps P N ops (o :: rest) Q ⟨E, M⟩ := by
  refine aops_val hg (by rw [hd]; exact hN) (.bool (!(a == b))) M (fun K G av w hi => ?_) (by rw [hd]; exact next)
  have hrx := opA_rep hi x
  have hry := opA_rep hi y
  rw [hx] at hrx; rw [hy] at hry
  simp only [Rep] at hrx hry
  refine ⟨.bool (!(a == b)), w, G, ?_, hi.ok, G.le_refl, rfl⟩
  simp only [execOp, ho, hrx, hry, Sem.run_bind, eqGuard_run (P := P) (w := w) (op := .neq) (t := t) (x := x) (y := y) (u := .bool a) (v := .bool b) (.inr (.inr (.inl ⟨_, rfl⟩))), neb_run (kindOf_bool hT ht), Result.andThen_ok]
  rfl
theorem seqT_neb (hT : TOk P T) {l : List Oper} {n : Nat} {t t' d : Nat} {x y : Operand} {a b : Bool} (ho : o.op = .binOp .neq t x y t') (ht : kindOf T t = some .bool) (hx : opA F x = .bool a) (hy : opA F y = .bool b) (hg : guardOn ops o F = some true) (hd : o.dst = some d) (hN : Nat.blt d N = true)
    (next : SeqT P N ops Q M ((d, .bool (!(a == b))) :: F) n l) : SeqT P N ops Q M F (n + 1) (o :: l) := by
  refine seqT_y (x := .bool (!(a == b))) (fun E hE rest Q next => ?_) hd next
  refine aops_neb hT ho ht ((agree_op hE (by rw [ho]; simp [Op.operands])).trans hx) ((agree_op hE (by rw [ho]; simp [Op.operands])).trans hy) ((agree_guard hE).trans hg) hd hN ?_
  rwa [hd] at next
theorem seqO_st (hT : TOk P T) {kp : List Ob} {al : List Nat} {q : Nat} {ll : List Oper} {n : Nat} (k : Nat) {t : Nat} {p x : Operand} {b off : Nat} {i : TI} {y : A} {room : Nat} {cs : List A} (cs' : List A) (M' : List Ob) (hi : al.contains q = true) (ho : o.op = .store t p x) (hp : opA F p = .ref b off) (hx : opA F x = y) (hk : known T t = some i)
    (hM : M[k]? = some ⟨some b, room, cs⟩) (hy : (Nat.beq y.cs.length i.size && cellsOk y) = true) (hoff : off + i.size ≤ cs.length) (hcs : cs.take off ++ (y.cs ++ cs.drop (off + i.size)) = cs') (hM' : M.set k ⟨some b, room, cs'⟩ = M') (hkp : ∀ o ∈ kp, o ∈ M')
    (hg : guardOn ops o F = some true) (hd : o.dst = none) (next : SeqO P N ops Q kp al (q + 1) F M' n ll) : SeqO P N ops Q kp al q F M (n + 1) (o :: ll) := by
  refine SeqO.make (x := fun _ => .any) (M2 := fun _ => M') hi (fun E hE rest Q next => ?_) (fun z o ho => hkp o ho) fun b => ?_
  · refine aops_stk hT k cs' M' ho ((agree_op hE (by rw [ho]; simp [Op.operands])).trans hp) ((agree_op hE (by rw [ho]; simp [Op.operands])).trans hx) hk hM hy hoff hcs hM' ((agree_guard hE).trans hg) hd ?_
    have := next []
    rw [hd] at this
    exact this
  · rw [hd]; exact next
end
end Go.Proofs.Ytbnhmioijeagiaa.Ab
/- An object made in a drawn region. No condition. -/
set_option linter.unusedVariables false
set_option linter.unusedSimpArgs false
namespace Go.Proofs.Ytbnhmioijeagiaa.Ab
section
variable {P : Program} {T : List TI} {N : Nat} {ops : Array Oper} {Q : Exit → St → Prop} {o : Oper} {F : Env} {M : List Ob}
theorem seqO_alloc (hT : TOk P T) {kp : List Ob} {al : List Nat} {i : Nat} {ll : List Oper} {m : Nat} {e d : Nat} {ti : TI} (hi : al.contains i = true) (ho : o.op = .alloc e) (hk : known T e = some ti) (hkp : ∀ o ∈ kp, o ∈ M) (hg : guardOn ops o F = some true) (hd : o.dst = some d) (hN : Nat.blt d N = true)
    {cs : List A} (hcs : normL (ti.zero.map ofZ) = some cs) (next : ∀ b, SeqO P N ops Q kp al (i + 1) ((d, .ref b 0) :: F) (⟨some b, ti.zero.length, cs⟩ :: M) m ll) : SeqO P N ops Q kp al i F M (m + 1) (o :: ll) := by
  refine SeqO.make (x := fun z => .ref (z.headD 0) 0) (M2 := fun z => ⟨some (z.headD 0), ti.zero.length, cs⟩ :: M) hi (fun E hE rest Q next => ?_) (fun z o ho => List.mem_cons_of_mem _ (hkp o ho)) fun b => ?_
  · exact aops_alloc hT ho hk ((agree_guard hE).trans hg) hd hN hcs fun b => by have := next [b]; rwa [hd] at this
  · rw [hd]; exact next _
end
end Go.Proofs.Ytbnhmioijeagiaa.Ab
/- A region whose order is drawn: with one more edge each way. No condition. -/
set_option linter.unusedVariables false
set_option linter.unusedSimpArgs false
namespace Go.Proofs.Ytbnhmioijeagiaa.Ab
section
variable {P : Program} {T : List TI} {N : Nat} {ops : Array Oper} {rest : List Oper} {o : Oper} {Q : Exit → St → Prop} {E F : Env} {M : List Ob}
def edgeO (i : Nat) (o : Oper) : Oper := { o with after := o.after.push { on := i, ground := .data } }
/-- j waits for i too. -/
def edgeL (i : Nat) : Nat → List Oper → List Oper
  | _, [] => []
  | 0, o :: l => edgeO i o :: l
  | j + 1, o :: l => o :: edgeL i j l
theorem edgeL_at {i : Nat} : ∀ (j : Nat) (l : List Oper) (k : Nat), (edgeL i j l)[k]? = (l[k]?).map fun o => if k = j then edgeO i o else o
  | _, [], k => by cases ‹Nat› <;> simp [edgeL]
  | 0, o :: l, k => by
    cases k with
    | zero => simp [edgeL]
    | succ k => simp [edgeL]
  | j + 1, o :: l, k => by
    cases k with
    | zero => simp [edgeL]
    | succ k => simp [edgeL, edgeL_at j l k]
theorem edgeL_len {i j : Nat} {l : List Oper} : (edgeL i j l).length = l.length := by
  induction l generalizing j with
  | nil => cases j <;> rfl
  | cons o l ih => cases j <;> simp [edgeL, ih]
/-- A row that is such an order. -/
def RunR (ops : Array Oper) : Nat → Array Bool → List Nat → Prop
  | 0, _, s => s = []
  | f + 1, listed, s => (s = [] ∧ Region.ready .any ops listed = []) ∨ ∃ i s', s = i :: s' ∧ i ∈ Region.ready .any ops listed ∧ RunR ops f (listed.setIfInBounds i true) s'
theorem runR_any {Q : Exit → Act → World → Prop} : ∀ (f : Nat) (listed : Array Bool) (s : List Nat) (a : Act) (w : World), wpAny P .any ops Q f listed a w → RunR ops f listed s → wpOps P ops Q s a w
  | 0, listed, s, a, w, h, hr => by
    rw [show s = [] from hr]; exact h.2
  | f + 1, listed, s, a, w, h, hr => by
    rcases hr with ⟨rfl, he⟩ | ⟨i, s', rfl, hi, hr⟩
    · exact h.1 he
    · rw [wpOps_cons]
      exact wpOp_mono (fun a w ha => runR_any f _ s' a w ha hr) (h.2 i hi)
theorem runR_lin : ∀ (f t : Nat) (listed : Array Bool), RunR ops f listed (Region.linearise.go .any ops f t listed [])
  | 0, t, listed => by simp [Region.linearise.go, RunR]
  | f + 1, t, listed => by
    simp only [Region.linearise.go]
    change RunR ops (f + 1) listed (match (Region.ready .any ops listed)[t % (Region.ready .any ops listed).length]? with
      | some i => Region.linearise.go .any ops f (t / (Region.ready .any ops listed).length) (listed.setIfInBounds i true) [i]
      | none => [].reverse)
    cases hi : (Region.ready .any ops listed)[t % (Region.ready .any ops listed).length]? with
    | none =>
      refine .inl ⟨rfl, ?_⟩
      cases hr : Region.ready .any ops listed with
      | nil => rfl
      | cons x xs =>
        rw [hr] at hi
        have hlt : t % (x :: xs).length < (x :: xs).length := Nat.mod_lt _ (by simp)
        rw [List.getElem?_eq_getElem hlt] at hi
        cases hi
    | some i =>
      simp only []
      rw [linearise_go_acc, List.reverse_singleton, List.singleton_append]
      exact .inr ⟨i, _, rfl, List.mem_of_getElem? hi, runR_lin f _ _⟩
theorem edge_ready {i j k : Nat} {l : List Oper} {listed : Array Bool} : k ∈ Region.ready .any (edgeL i j l).toArray listed ↔ k ∈ Region.ready .any l.toArray listed ∧ (k = j → listed.getD i false = true) := by
  rw [mem_ready, mem_ready]
  simp only [List.getElem?_toArray, edgeL_at]
  constructor
  · rintro ⟨h1, o, ho, h2⟩
    obtain ⟨o', ho', rfl⟩ := Option.map_eq_some_iff.1 ho
    by_cases hk : k = j
    · rw [if_pos hk] at h2
      refine ⟨⟨h1, o', ho', fun e he => h2 e (by simp [edgeO, he])⟩, fun _ => ?_⟩
      exact h2 ⟨i, .data⟩ (by simp [edgeO]) rfl
    · rw [if_neg hk] at h2
      exact ⟨⟨h1, o', ho', h2⟩, fun h => absurd h hk⟩
  · rintro ⟨⟨h1, o, ho, h2⟩, h3⟩
    refine ⟨h1, _, by rw [ho]; rfl, ?_⟩
    show ∀ e ∈ (if k = j then edgeO i o else o).after, _
    by_cases hk : k = j
    · rw [if_pos hk]
      intro e he hb
      rcases Array.mem_push.1 he with he | rfl
      · exact h2 e he hb
      · exact h3 hk
    · rw [if_neg hk]; exact h2
theorem nil_of {α : Type} {l : List α} (h : ∀ x, x ∉ l) : l = [] := List.eq_nil_iff_forall_not_mem.2 h
theorem run_edge {i j : Nat} {l : List Oper} : ∀ (f : Nat) (listed : Array Bool) (s : List Nat), listed.size = l.length → listed.getD i false = true → RunR l.toArray f listed s → RunR (edgeL i j l).toArray f listed s
  | 0, _, _, _, _, h => h
  | f + 1, listed, s, hsz, hi, h => by
    rcases h with ⟨rfl, he⟩ | ⟨k, s', rfl, hk, hr⟩
    · exact .inl ⟨rfl, nil_of fun x hx => by rw [edge_ready, he] at hx; simp at hx⟩
    · refine .inr ⟨k, s', rfl, edge_ready.2 ⟨hk, fun _ => hi⟩, run_edge f _ s' (by simpa using hsz) ?_ hr⟩
      have hil : i < listed.size := by
        apply Classical.byContradiction
        intro h
        rw [Array.getD_eq_getD_getElem?, Array.getElem?_eq_none (by omega)] at hi
        cases hi
      rw [Array.getD_eq_getD_getElem?] at hi ⊢
      rw [Array.getElem?_setIfInBounds]
      split
      · rw [if_pos (by omega)]; rfl
      · exact hi
theorem run_both {i j : Nat} {l : List Oper} (hij : i ≠ j) (hi : i < l.length) (hj : j < l.length) : ∀ (f : Nat) (listed : Array Bool) (s : List Nat), listed.size = l.length → RunR l.toArray f listed s → RunR (edgeL i j l).toArray f listed s ∨ RunR (edgeL j i l).toArray f listed s
  | 0, _, _, _, h => .inl h
  | f + 1, listed, s, hsz, h => by
    rcases h with ⟨rfl, he⟩ | ⟨k, s', rfl, hk, hr⟩
    · exact .inl (.inl ⟨rfl, nil_of fun x hx => by rw [edge_ready, he] at hx; simp at hx⟩)
    · by_cases hki : k = i
      · subst hki
        refine .inl (.inr ⟨k, s', rfl, edge_ready.2 ⟨hk, fun e => absurd e hij⟩, run_edge f _ s' (by simpa using hsz) ?_ hr⟩)
        rw [getD_set' _ _ _ (by omega), if_pos rfl]
      · by_cases hkj : k = j
        · subst hkj
          refine .inr (.inr ⟨k, s', rfl, edge_ready.2 ⟨hk, fun e => absurd e hki⟩, run_edge f _ s' (by simpa using hsz) ?_ hr⟩)
          rw [getD_set' _ _ _ (by omega), if_pos rfl]
        · rcases run_both hij hi hj f _ s' (by simpa using hsz) hr with h | h
          · exact .inl (.inr ⟨k, s', rfl, edge_ready.2 ⟨hk, fun e => absurd e hkj⟩, h⟩)
          · exact .inr (.inr ⟨k, s', rfl, edge_ready.2 ⟨hk, fun e => absurd e hki⟩, h⟩)
theorem edge_yielded {i j : Nat} {l : List Oper} (tm : Array Value) : yielded (edgeL i j l).toArray tm = yielded l.toArray tm := by
  funext k
  unfold yielded
  simp only [List.getElem?_toArray, edgeL_at]
  cases l[k]? with
  | none => rfl
  | some o =>
    have : (if k = j then edgeO i o else o).dst = o.dst := by split <;> rfl
    simp only [Option.map_some, Option.bind_some, this]
theorem edge_wpOps {i j : Nat} {l : List Oper} {Q : Exit → Act → World → Prop} : ∀ (s : List Nat) (a : Act) (w : World), wpOps P (edgeL i j l).toArray Q s a w → wpOps P l.toArray Q s a w
  | [], a, w, h => h
  | k :: s, a, w, h => by
    rw [wpOps_cons] at h ⊢
    unfold wpOp at h ⊢
    simp only [List.getElem?_toArray, edgeL_at, edge_yielded] at h ⊢
    cases ho : l[k]? with
    | none => rw [ho] at h; exact edge_wpOps s a w h
    | some o =>
      rw [ho] at h
      simp only [Option.map_some] at h ⊢
      have hmono := fun a w => edge_wpOps (i := i) (j := j) (l := l) (Q := Q) s a w
      split at h
      · change (if Region.wanted o (yielded l.toArray a.tmps) then o.wp P a w (wpOps P (edgeL i j l).toArray Q s) Q ∨ (o.asks P a w ∧ LetsOut Q) else wpOps P (edgeL i j l).toArray Q s (a.put o.dst undef) w) at h
        split at h
        · rename_i hw; rw [if_pos hw]; exact h.imp (Oper.wp_mono hmono) id
        · rename_i hw; rw [if_neg hw]; exact hmono _ _ h
      · split at h
        · rename_i hw; rw [if_pos hw]; exact h.imp (Oper.wp_mono hmono) id
        · rename_i hw; rw [if_neg hw]; exact hmono _ _ h
def AnyC (P : Program) (N : Nat) (l : List Oper) (Q : Exit → St → Prop) (s : St) : Prop := ∀ K G a w, Inv K N G s a w → wpAny P .any l.toArray (lift K N Q) l.toArray.size (Array.replicate l.toArray.size false) a w.drew
/-- Two that do not wait for each other: either may come first. -/
theorem acode_both {id : Nat} {l : List Oper} {s : St} (i j : Nat) (hm : P.follows .mixedOrders = true) (hij : Nat.beq i j = false) (hi : Nat.blt i l.length = true) (hj : Nat.blt j l.length = true)
    (h1 : AnyC P N (edgeL i j l) Q s) (h2 : AnyC P N (edgeL j i l) Q s) : ACode P N (.region id l.toArray true) Q s := by
  intro K G a w hinv
  refine wp_region_draw fun t => ?_
  simp only [Region.schedule, hm, Bool.true_or, if_true]
  have hrun := runR_lin (ops := l.toArray) l.toArray.size t (Array.replicate l.toArray.size false)
  have e1 := h1 K G a w hinv
  have e2 := h2 K G a w hinv
  have hz : ∀ i j, (edgeL i j l).toArray.size = l.toArray.size := fun i j => by simp [edgeL_len]
  rw [hz] at e1 e2
  have hij' : i ≠ j := fun e => by subst e; simp at hij
  rcases run_both hij' (by simpa using hi) (by simpa using hj) _ _ _ (by simp) hrun with h | h
  · exact edge_wpOps _ _ _ (runR_any _ _ _ _ _ e1 h)
  · exact edge_wpOps _ _ _ (runR_any _ _ _ _ _ e2 h)
/-- The form of such a region; js: the order of the first n; al: the places in it of those that make something. -/
def drawP2 (ops : Array Oper) (js al : List Nat) (n : Nat) : Bool :=
  Nat.ble n ops.size && Nat.beq js.length n &&
  ((List.range n).all fun i => ((ops[i]?).map fun o => (o.after.all fun e => !Region.binds .any e || Nat.blt e.on n) && (o.looksAt ops).all fun t => (List.range n).all fun j => !((ops[j]?).bind (·.dst) == some t) || (Region.waitsFor .any ops i j || Region.waitsFor .any ops j i)).getD false) &&
  ((List.range n).all fun i => (List.range n).all fun j => Nat.beq i j || (match (ops[i]?).bind (·.dst) with | some d => !((ops[j]?).bind (·.dst) == some d) | none => true)) &&
  ((List.range ops.size).all fun k => Nat.blt k n || (List.range n).all fun j => waitsT ops 12 k j) &&
  (al.all fun p => (List.range n).all fun q => Nat.ble q p || waitsT ops 12 (js.getD q 0) (js.getD p 0)) &&
  ((List.range n).all fun i => js.contains i) &&
  (js.all fun i => Nat.blt i n) &&
  ((List.range n).all fun p => (List.range n).all fun q => Nat.blt q p || !Region.waitsFor .any ops (js.getD p 0) (js.getD q 0)) &&
  ((List.range n).all fun p => (List.range n).all fun q => Nat.beq p q || !Nat.beq (js.getD p 0) (js.getD q 0))

theorem any_drawP2 {l l' : List Oper} (kp : List Ob) (n : Nat) (js al : List Nat) (hm : P.follows .mixedOrders = true) (hB : drawP2 l.toArray js al n = true)
    (hseq : Region.seqB .any l.toArray (l.drop n).length n (((List.range l.length).map fun i => Nat.blt i n).toArray) = true)
    (hl' : pickL l (js ++ (List.range l.length).drop n) = some l')
    (h : SeqO P N l.toArray Q kp al 0 E M n l') : ∀ K G a w, Inv K N G ⟨E, M⟩ a w → wpAny P .any l.toArray (lift K N Q) l.toArray.size (Array.replicate l.toArray.size false) a w.drew := by
  obtain ⟨vals, Fs, Ms, s⟩ := h.split
  intro K G a w hi
  have hi' : Inv K N G ⟨E, M⟩ a w.drew := ⟨hi.ok.drew, hi.sz, hi.df, hi.ev⟩
  change wpAny P .any l.toArray (lift K N Q) l.toArray.size (Array.replicate l.toArray.size false) a w.drew
  simp only [drawP2, Bool.and_eq_true] at hB
  obtain ⟨⟨⟨⟨⟨⟨⟨⟨⟨hn, hjn⟩, hlook⟩, hdst⟩, htail⟩, hal⟩, hcov⟩, hjlt⟩, hord⟩, hinj⟩ := hB
  have hn : n ≤ l.length := by simpa using Nat.le_of_ble_eq_true hn
  have hjn : js.length = n := Nat.eq_of_beq_eq_true hjn
  obtain ⟨hll, hlat⟩ := pickL_at hl'
  have hll : l'.length = l.length := by rw [hll]; simp; omega
  -- the places
  have hcov' : ∀ i, i < n → ∃ p, p < n ∧ js.getD p 0 = i := by
    intro i hi
    have := List.all_eq_true.1 hcov i (List.mem_range.2 hi)
    have hm : i ∈ js := by simpa using this
    obtain ⟨p, hp, e⟩ := List.getElem_of_mem hm
    exact ⟨p, by omega, by rw [List.getD_eq_getElem?_getD, List.getElem?_eq_getElem hp, e]; rfl⟩
  have hjlt' : ∀ p, p < n → js.getD p 0 < n := by
    intro p hp
    have hp' : p < js.length := by omega
    have := List.all_eq_true.1 hjlt js[p] (List.getElem_mem hp')
    rw [List.getD_eq_getElem?_getD, List.getElem?_eq_getElem hp']
    simpa using this
  have hinj' : ∀ p q, p < n → q < n → js.getD p 0 = js.getD q 0 → p = q := by
    intro p q hp hq e
    have := List.all_eq_true.1 (List.all_eq_true.1 hinj p (List.mem_range.2 hp)) q (List.mem_range.2 hq)
    simp only [Bool.or_eq_true, Bool.not_eq_true'] at this
    rcases this with h | h
    · exact Nat.eq_of_beq_eq_true h
    · rw [e] at h; simp at h
  have hord' : ∀ p q, p < n → q < n → Region.waitsFor .any l.toArray (js.getD p 0) (js.getD q 0) = true → q < p := by
    intro p q hp hq e
    have := List.all_eq_true.1 (List.all_eq_true.1 hord p (List.mem_range.2 hp)) q (List.mem_range.2 hq)
    simp only [Bool.or_eq_true, Bool.not_eq_true'] at this
    rcases this with h | h
    · simpa using h
    · rw [e] at h; cases h
  have hat : ∀ p, p < n → l'[p]? = l[js.getD p 0]? := by
    intro p hp
    rw [hlat p, List.getElem?_append_left (by omega), List.getD_eq_getElem?_getD, List.getElem?_eq_getElem (show p < js.length by omega)]
    rfl
  have hdropEq : l'.drop n = l.drop n := by
    apply List.ext_getElem?
    intro p
    rw [List.getElem?_drop, List.getElem?_drop, hlat (n + p), List.getElem?_append_right (by omega), hjn, Nat.add_sub_cancel_left, List.getElem?_drop]
    by_cases h : n + p < l.length
    · rw [List.getElem?_range h]; rfl
    · rw [List.getElem?_eq_none (by simp; omega), List.getElem?_eq_none (by omega)]; rfl
  have hdat : ∀ p, p < n → dstAt l'.toArray p = dstAt l.toArray (js.getD p 0) := by
    intro p hp
    simp [dstAt, hat p hp]
  have hdst' : ∀ t i j, i < n → j < n → dstAt l.toArray i = some t → dstAt l.toArray j = some t → i = j := by
    intro t i j h1 h2 e1 e2
    have := List.all_eq_true.1 (List.all_eq_true.1 hdst i (List.mem_range.2 h1)) j (List.mem_range.2 h2)
    unfold dstAt at e1 e2
    rw [e1] at this
    simp only [Bool.or_eq_true] at this
    rcases this with h | h
    · exact Nat.eq_of_beq_eq_true h
    · rw [e2] at h; simp at h
  have hdstP : ∀ t p q, p < n → q < n → dstAt l'.toArray p = some t → dstAt l'.toArray q = some t → p = q := by
    intro t p q h1 h2 e1 e2
    rw [hdat p h1] at e1; rw [hdat q h2] at e2
    exact hinj' p q h1 h2 (hdst' t _ _ (hjlt' p h1) (hjlt' q h2) e1 e2)
  have hal' : ∀ p q, al.contains p = true → p < q → q < n → waitsT l.toArray 12 (js.getD q 0) (js.getD p 0) = true := by
    intro i j hc hij hj
    have h1 := List.all_eq_true.1 (List.all_eq_true.1 hal i (by simpa using hc)) j (List.mem_range.2 hj)
    simp only [Bool.or_eq_true] at h1
    rcases h1 with h1 | h1
    · have := Nat.le_of_ble_eq_true h1; omega
    · exact h1
  let pos : Nat → Nat := fun i => js.idxOf i
  have hpos : ∀ i, i < n → pos i < n ∧ js.getD (pos i) 0 = i := by
    intro i hi
    have hm : i ∈ js := by simpa using List.all_eq_true.1 hcov i (List.mem_range.2 hi)
    have h1 : js.idxOf i < js.length := List.idxOf_lt_length_of_mem hm
    have h2 : js.idxOf i < n := by omega
    refine ⟨h2, ?_⟩
    show js.getD (js.idxOf i) 0 = i
    rw [List.getD_eq_getElem?_getD, List.getElem?_eq_getElem h1, List.getElem_idxOf]; rfl
  let V : (Nat → List Nat) → List A := fun β => (List.range n).map fun i => vals β (pos i)
  have hV : ∀ β i, i < n → (V β).getD i .any = vals β (pos i) := fun β i hi => getD_map_range _ _ _ hi
  have body : ∀ (c : Nat) (listed : Array Bool), todo listed n = c → listed.size = l.length → (∀ k, n ≤ k → listed.getD k false = false) →
      (∀ k j, listed.getD k false = true → Region.waitsFor .any l.toArray k j = true → listed.getD j false = true) →
      ∀ (β : Nat → List Nat) (top : Nat), top ≤ n → (∀ p, p < top → al.contains p = true → listed.getD (js.getD p 0) false = true) → (∀ p, top ≤ p → p < n → al.contains p = true → listed.getD (js.getD p 0) false = false) →
      ∀ G a w, Inv K N G ⟨envS l.toArray (V β) listed n E, Ms β top⟩ a w →
      wpAny P .any l.toArray (lift K N Q) (c + (l.length - n)) listed a w := by
    intro c
    induction c with
    | zero =>
      intro listed hc hsz hno hcl β top htn ht1 ht2 G a w hi
      have hall : ∀ i, i < n → listed.getD i false = true := by
        intro i hin
        have : i ∉ (List.range n).filter fun i => !listed.getD i false := by
          have h0 := List.eq_nil_of_length_eq_zero hc
          rw [h0]; simp
        simp [hin] at this
        cases hb : listed.getD i false with
        | true => rfl
        | false => rw [Array.getD_eq_getD_getElem?] at hb; simp [hb] at this
      have he : listed = ((List.range l.length).map fun i => Nat.blt i n).toArray := by
        apply Array.ext (by simp [hsz])
        intro i h1 h2
        have e1 : listed.getD i false = listed[i] := by simp [h1]
        by_cases hin : i < n
        · have := hall i hin
          rw [e1] at this
          rw [this]; simp [hin]
        · have := hno i (by omega)
          rw [e1] at this
          rw [this]
          have : Nat.blt i n = false := by cases hb : Nat.blt i n with | false => rfl | true => exact absurd (by simpa using hb) hin
          simp [this]
      have hM : Ms β n = Ms β top := by
        obtain ⟨d, rfl⟩ : ∃ d, n = top + d := ⟨n - top, by omega⟩
        refine (splitO_grow s (by omega) β top d (Nat.le_refl _)).2 fun k h0 h1 => ?_
        cases hb : al.contains k with
        | false => rfl
        | true => have := ht2 k h0 h1 hb; rw [hall _ (hjlt' k h1)] at this; cases this
      have hi2 : Inv K N G ⟨Fs β n, Ms β n⟩ a w := by
        rw [hM]
        refine inv_E hi (fun t v hr => ?_)
        have hg : get (envS l.toArray (V β) listed n E) t = get (Fs β n) t := by
          obtain ⟨p1, p2⟩ := envS_get (ops := l.toArray) (V β) listed E t n (fun i j => hdst' t i j)
          obtain ⟨q1, q2⟩ := splitO_get s (by omega) β t (fun i j => hdstP t i j) n (Nat.le_refl _)
          by_cases hex : ∃ i, i < n ∧ dstAt l.toArray i = some t
          · obtain ⟨i, h1, h2⟩ := hex
            obtain ⟨k1, k2⟩ := hpos i h1
            rw [p1 i h1 h2 (hall i h1), q1 (pos i) k1 (by rw [hdat _ k1, k2]; exact h2), hV β i h1]
          · rw [p2 (fun i h1 h2 => absurd ⟨i, h1, h2⟩ hex), q2 (fun i h1 h2 => absurd ⟨_, hjlt' i h1, by rw [← hdat i h1]; exact h2⟩ hex)]
        rw [← hg]; exact hr
      have := wpAny_of_seq (P := P) (Q' := lift K N Q) (l.drop n) n listed a w (fun j => by simp) (by rw [he]; exact hseq) (hdropEq ▸ s.last β K G a w hi2)
      rw [Nat.zero_add, show l.length - n = (l.drop n).length from by simp]
      exact this
    | succ c ih =>
      intro listed hc hsz hno hcl β top htn ht1 ht2 G a w hi
      rw [Nat.succ_add]
      obtain ⟨p0, hp0, hmin⟩ : ∃ p, (p < n ∧ listed.getD (js.getD p 0) false = false) ∧ ∀ j, j < p → ¬ (j < n ∧ listed.getD (js.getD j 0) false = false) := by
        have hne : ((List.range n).filter fun i => !listed.getD i false) ≠ [] := by
          intro h; unfold todo at hc; rw [h] at hc; simp at hc
        obtain ⟨i, hmem⟩ := List.exists_mem_of_ne_nil _ hne
        simp only [List.mem_filter, List.mem_range, Bool.not_eq_true'] at hmem
        obtain ⟨p, hp, hpe⟩ := hcov' i hmem.1
        have : ∀ m p, p ≤ m → (p < n ∧ listed.getD (js.getD p 0) false = false) → ∃ i, (i < n ∧ listed.getD (js.getD i 0) false = false) ∧ ∀ j, j < i → ¬ (j < n ∧ listed.getD (js.getD j 0) false = false) := by
          intro m
          induction m with
          | zero => intro i him hp; exact ⟨i, hp, fun j hj => by omega⟩
          | succ m ihm =>
            intro i him hp
            by_cases hj : ∃ j, j < i ∧ (j < n ∧ listed.getD (js.getD j 0) false = false)
            · obtain ⟨j, h1, h2⟩ := hj
              exact ihm j (by omega) h2
            · exact ⟨i, hp, fun j hj' hp' => hj ⟨j, hj', hp'⟩⟩
        exact this p p (Nat.le_refl _) ⟨hp, by rw [hpe]; exact hmem.2⟩
      obtain ⟨i0, hi0e⟩ : ∃ i0, i0 = js.getD p0 0 := ⟨_, rfl⟩
      have hi0 : i0 < n ∧ listed.getD i0 false = false := by rw [hi0e]; exact ⟨hjlt' p0 hp0.1, hp0.2⟩
      have hready0 : i0 ∈ Region.ready .any l.toArray listed := by
        have hoi : ∃ o, l[i0]? = some o := ⟨l[i0]'(by omega), List.getElem?_eq_getElem (by omega)⟩
        obtain ⟨oi, hoi⟩ := hoi
        refine mem_ready.2 ⟨getD_in (by omega) hi0.2, oi, by simpa using hoi, fun e he hb => ?_⟩
        have h1 := List.all_eq_true.1 hlook i0 (List.mem_range.2 hi0.1)
        have h2 : (l.toArray[i0]?) = some oi := by simpa using hoi
        rw [h2] at h1
        simp only [Option.map_some, Option.getD_some, Bool.and_eq_true] at h1
        have h3 := Array.all_eq_true'.1 h1.1 e he
        simp only [Bool.or_eq_true, Bool.not_eq_true'] at h3
        rcases h3 with h3 | h3
        · rw [hb] at h3; cases h3
        · have hlt : e.on < n := by simpa using h3
          have hw : Region.waitsFor .any l.toArray i0 e.on = true := by
            unfold Region.waitsFor
            rw [h2]
            simp only [Option.map_some, Option.getD_some]
            exact Array.any_eq_true'.2 ⟨e, he, by simp [hb]⟩
          obtain ⟨q, hq, hqe⟩ := hcov' e.on hlt
          have := hmin q (hord' p0 q hp0.1 hq (by rw [hqe, ← hi0e]; exact hw))
          cases hx : listed.getD e.on false with
          | true => rfl
          | false => exact absurd ⟨hq, by rw [hqe]; exact hx⟩ this
      refine ⟨fun h => (by rw [h] at hready0; cases hready0), fun i hir => ?_⟩
      obtain ⟨hun, oi, hoi, hall⟩ := mem_ready.1 hir
      have hoi' : l[i]? = some oi := by simpa using hoi
      have hil : i < l.length := (List.getElem?_eq_some_iff.1 hoi').1
      have hun' := getD_both hun
      have hrd : ∀ j, Region.waitsFor .any l.toArray i j = true → listed.getD j false = true := by
        intro j hw
        obtain ⟨oj, hoj, e, he, hbind, hon⟩ := Region.waitsFor_spec hw
        have : oj = oi := Option.some.inj (hoj.symm.trans hoi)
        subst this
        have h3 := hall e he hbind
        rwa [hon] at h3
      have hrdT := fun f j h => waitsT_ready hcl hrd f j h
      have hin : i < n := by
        apply Classical.byContradiction
        intro hge
        have h1 := List.all_eq_true.1 htail i (List.mem_range.2 (by simpa using hil))
        have hb : Nat.blt i n = false := by cases hb : Nat.blt i n with | false => rfl | true => exact absurd (by simpa using hb) hge
        rw [hb, Bool.false_or] at h1
        have h2 := List.all_eq_true.1 h1 i0 (List.mem_range.2 hi0.1)
        have := hrdT _ _ h2
        rw [hi0.2] at this
        cases this
      obtain ⟨hpn, hpi⟩ := hpos i hin
      have hop : l'[pos i]? = some oi := by rw [hat _ hpn, hpi]; exact hoi'
      have hlk := List.all_eq_true.1 hlook i (List.mem_range.2 hin)
      rw [hoi] at hlk
      simp only [Option.map_some, Option.getD_some, Bool.and_eq_true] at hlk
      have hE : ∀ t ∈ oi.looksAt l.toArray, get (envS l.toArray (V β) listed n E) t = get (Fs β (pos i)) t := by
        intro t ht
        have h2 := List.all_eq_true.1 hlk.2 t ht
        obtain ⟨p1, p2⟩ := envS_get (ops := l.toArray) (V β) listed E t n (fun i j => hdst' t i j)
        obtain ⟨q1, q2⟩ := splitO_get s (by omega) β t (fun i j => hdstP t i j) (pos i) (by omega)
        by_cases hex : ∃ j, j < n ∧ dstAt l.toArray j = some t
        · obtain ⟨j, hj, hdj⟩ := hex
          have h3 := List.all_eq_true.1 h2 j (List.mem_range.2 hj)
          have hdj' := hdj
          unfold dstAt at hdj'
          rw [hdj'] at h3
          simp only [beq_self_eq_true, Bool.not_true, Bool.false_or, Bool.or_eq_true] at h3
          obtain ⟨k1, k2⟩ := hpos j hj
          rcases h3 with h3 | h3
          · have hlj := hrd j h3
            have hji : pos j < pos i := hord' (pos i) (pos j) hpn k1 (by rw [hpi, k2]; exact h3)
            rw [p1 j hj hdj hlj, q1 (pos j) hji (by rw [hdat _ k1, k2]; exact hdj), hV β j hj]
          · have hlj : listed.getD j false = false := by
              cases hb : listed.getD j false with
              | false => rfl
              | true =>
                have := hcl j i hb h3
                rw [hun'] at this; cases this
            have hij : pos i < pos j := hord' (pos j) (pos i) k1 hpn (by rw [hpi, k2]; exact h3)
            have uniq : ∀ k, k < n → dstAt l.toArray k = some t → k = j := fun k hk hdk => hdst' t k j hk hj hdk hdj
            rw [p2 (fun k hk hdk => by rw [uniq k hk hdk]; exact hlj), q2 (fun p hp hdp => by
              have hp' : p < n := by omega
              rw [hdat p hp'] at hdp
              have e1 := uniq _ (hjlt' p hp') hdp
              have e2 : p = pos j := hinj' p (pos j) hp' k1 (by rw [e1, k2])
              omega)]
        · rw [p2 (fun j h1 h2 => absurd ⟨j, h1, h2⟩ hex), q2 (fun j h1 h2 => absurd ⟨_, hjlt' j (by omega), by rw [← hdat j (by omega)]; exact h2⟩ hex)]
      have hdi : dstAt l.toArray i = oi.dst := by simp [dstAt, hoi']
      have hbetw : ∀ k, top ≤ k → k < pos i → al.contains k = false := by
        intro k h0 h1
        cases hb : al.contains k with
        | false => rfl
        | true =>
          have h2 := hrdT 12 (js.getD k 0) (by have := hal' k (pos i) hb h1 hpn; rwa [hpi] at this)
          rw [ht2 k h0 (by omega) hb] at h2
          cases h2
      have hcl' : ∀ k j, (listed.setIfInBounds i true).getD k false = true → Region.waitsFor .any l.toArray k j = true → (listed.setIfInBounds i true).getD j false = true := by
        intro k j hk hw
        rw [getD_set' _ _ _ (by omega)] at hk ⊢
        split
        · rfl
        · by_cases hik : i = k
          · subst hik; exact hrd j hw
          · rw [if_neg hik] at hk; exact hcl k j hk hw
      have hno' : ∀ k, n ≤ k → (listed.setIfInBounds i true).getD k false = false := fun k hk => by rw [getD_set' _ _ _ (by omega), if_neg (by omega)]; exact hno k hk
      have htodo' : todo (listed.setIfInBounds i true) n = c := by have := todo_set listed n i hin (by omega) hun'; omega
      have henv : ∀ (W : List A) (t : Nat), (∀ j, j < n → listed.getD j false = true → W.getD j .any = (V β).getD j .any) → get (envS l.toArray W (listed.setIfInBounds i true) n E) t = get (put (envS l.toArray (V β) listed n E) oi.dst (W.getD i .any)) t := by
        intro W t hW
        rw [get_put']
        obtain ⟨p1, p2⟩ := envS_get (ops := l.toArray) (V β) listed E t n (fun i j => hdst' t i j)
        obtain ⟨q1, q2⟩ := envS_get (ops := l.toArray) W (listed.setIfInBounds i true) E t n (fun i j => hdst' t i j)
        by_cases hdt : oi.dst = some t
        · rw [if_pos hdt]
          exact q1 i hin (hdi.trans hdt) (by rw [getD_set' _ _ _ (by omega), if_pos rfl])
        · rw [if_neg hdt]
          by_cases hex : ∃ j, j < n ∧ dstAt l.toArray j = some t
          · obtain ⟨j, hj, hdj⟩ := hex
            have hji : i ≠ j := by rintro rfl; exact hdt (hdi.symm.trans hdj)
            cases hlj : listed.getD j false with
            | true => rw [p1 j hj hdj hlj, q1 j hj hdj (by rw [getD_set' _ _ _ (by omega), if_neg hji]; exact hlj), hW j hj hlj]
            | false =>
              have uniq : ∀ k, k < n → dstAt l.toArray k = some t → k = j := fun k hk hdk => hdst' t k j hk hj hdk hdj
              rw [p2 (fun k hk hdk => by rw [uniq k hk hdk]; exact hlj), q2 (fun k hk hdk => by rw [uniq k hk hdk, getD_set' _ _ _ (by omega), if_neg hji]; exact hlj)]
          · rw [p2 (fun j h1 h2 => absurd ⟨j, h1, h2⟩ hex), q2 (fun j h1 h2 => absurd ⟨j, h1, h2⟩ hex)]
      unfold wpOp
      rw [hoi]
      rcases (s.step (pos i) oi hpn hop β).2 with ⟨a1, a2, hy⟩ | ⟨a1, a2, hy⟩
      · rw [Nat.zero_add] at a1
        have hpe : Ms β top = Ms β (pos i) ∨ (∀ o ∈ kp, o ∈ Ms β top) ∧ ∃ j ∈ al, 0 + pos i < j := by
          by_cases hti : top ≤ pos i
          · obtain ⟨d, hd⟩ : ∃ d, pos i = top + d := ⟨pos i - top, by omega⟩
            have := (splitO_grow s (by omega) β top d (by omega)).2 fun k h0 h1 => hbetw k h0 (by omega)
            exact .inl (by rw [hd, this])
          · obtain ⟨d, rfl⟩ : ∃ d, top = pos i + d := ⟨top - pos i, by omega⟩
            obtain ⟨h1, h2⟩ := splitO_grow s (by omega) β (pos i) d htn
            by_cases hsome : ∃ k, pos i ≤ k ∧ k < pos i + d ∧ al.contains k = true
            · obtain ⟨k, k1, k2, k3⟩ := hsome
              have hne : k ≠ pos i := by rintro rfl; rw [a1] at k3; cases k3
              exact h1.imp (fun e => e) fun h1 => ⟨h1, k, by simpa using k3, by omega⟩
            · exact .inl (h2 fun k k1 k2 => by
                cases hb : al.contains k with
                | false => rfl
                | true => exact absurd ⟨k, k1, k2, hb⟩ hsome)
        have hstep := fun Kn hKn => ((hy _ hpe).wp (K := K) hE hi (Kn := Kn) (Q' := lift K N Q) hKn)
        have fin : ∀ G' a' w', Inv K N G' ⟨put (envS l.toArray (V β) listed n E) oi.dst (vals β (pos i)), Ms β top⟩ a' w' → wpAny P .any l.toArray (lift K N Q) (c + (l.length - n)) (listed.setIfInBounds i true) a' w' := by
          intro G' a' w' hi'
          refine ih (listed.setIfInBounds i true) htodo' (by simp [hsz]) hno' hcl' β top htn (fun k hk hc => ?_) (fun k hk hkn hc => ?_) G' a' w' ?_
          · rw [getD_set' _ _ _ (by omega)]; split; rfl; exact ht1 k hk hc
          · have : i ≠ js.getD k 0 := by
              intro e
              have : pos i = k := hinj' _ _ hpn hkn (by rw [hpi]; exact e)
              rw [this] at a1; rw [a1] at hc; cases hc
            rw [getD_set' _ _ _ (by omega), if_neg this]; exact ht2 k hk hkn hc
          · refine inv_E hi' (fun t v hr => ?_)
            rw [henv (V β) t fun _ _ _ => rfl, hV β i hin]; exact hr
        have := hstep _ fin
        split at this
        · rename_i hw; simp only [hw, if_true]; exact .inl this
        · rename_i hw; simp only [hw]; exact this
      · rw [Nat.zero_add] at a1
        have hti : top ≤ pos i := by
          apply Classical.byContradiction
          intro h
          have := ht1 (pos i) (by omega) a1
          rw [hpi, hun'] at this; cases this
        have hMi : Ms β top = Ms β (pos i) := by
          obtain ⟨d, hd⟩ : ∃ d, pos i = top + d := ⟨pos i - top, by omega⟩
          have := (splitO_grow s (by omega) β top d (by omega)).2 fun k h0 h1 => hbetw k h0 (by omega)
          rw [hd, this]
        rw [hMi] at hi
        have hgoal : ∀ b G' a' w', Inv K N G' ⟨put (envS l.toArray (V β) listed n E) oi.dst (vals (fun j => if j = pos i then b else β j) (pos i)), Ms (fun j => if j = pos i then b else β j) (pos i + 1)⟩ a' w' → wpAny P .any l.toArray (lift K N Q) (c + (l.length - n)) (listed.setIfInBounds i true) a' w' := by
          intro b G' a' w' hi'
          refine ih (listed.setIfInBounds i true) htodo' (by simp [hsz]) hno' hcl' (fun j => if j = pos i then b else β j) (pos i + 1) (by omega) (fun k hk hc => ?_) (fun k hk hkn hc => ?_) G' a' w' ?_
          · rw [getD_set' _ _ _ (by omega)]
            by_cases hik : i = js.getD k 0
            · rw [if_pos hik]
            · rw [if_neg hik]
              by_cases hkt : k < top
              · exact ht1 k hkt hc
              · have : k ≠ pos i := by rintro rfl; exact hik hpi.symm
                rw [hbetw k (by omega) (by omega)] at hc; cases hc
          · have : i ≠ js.getD k 0 := by
              intro e
              have : pos i = k := hinj' _ _ hpn hkn (by rw [hpi]; exact e)
              omega
            rw [getD_set' _ _ _ (by omega), if_neg this]; exact ht2 k (by omega) hkn hc
          · refine inv_E hi' (fun t v hr => ?_)
            rw [henv (V fun j => if j = pos i then b else β j) t fun j hj hlj => ?_, hV _ i hin]
            · exact hr
            · rw [hV _ j hj, hV _ j hj]
              obtain ⟨k1, k2⟩ := hpos j hj
              refine s.vb _ _ (pos j) fun m hm => ?_
              by_cases hmi : m = pos i
              · subst hmi
                exfalso
                by_cases hjm : pos j = pos i
                · have : j = i := by rw [← k2, ← hpi, hjm]
                  subst this; rw [hun'] at hlj; cases hlj
                · have h2 := waitsT_listed hcl 12 j i hlj (by have := hal' (pos i) (pos j) a1 (by omega) k1; rwa [k2, hpi] at this)
                  rw [hun'] at h2; cases h2
              · simp only [if_neg hmi]
        have h1 := hy _ hE [] (fun e st => e = .normal ∧ ∃ b, st = ⟨put (envS l.toArray (V β) listed n E) oi.dst (vals (fun j => if j = pos i then b else β j) (pos i)), Ms (fun j => if j = pos i then b else β j) (pos i + 1)⟩) (fun b => aops_nil ⟨rfl, b, rfl⟩) K G a w hi
        have hnil : ∀ a' w', wpList P l.toArray (lift K N fun e st => e = .normal ∧ ∃ b, st = ⟨put (envS l.toArray (V β) listed n E) oi.dst (vals (fun j => if j = pos i then b else β j) (pos i)), Ms (fun j => if j = pos i then b else β j) (pos i + 1)⟩) [] a' w' → wpAny P .any l.toArray (lift K N Q) (c + (l.length - n)) (listed.setIfInBounds i true) a' w' := by
          rintro a' w' ⟨G', st, ⟨_, b, rfl⟩, hi'⟩
          exact hgoal b G' a' w' hi'
        simp only [wpList] at h1
        split at h1
        · rename_i hw
          simp only [hw, if_true]
          rcases h1 with h1 | ⟨_, a0, w0, G', st, ⟨he, _⟩, _⟩
          · refine .inl ?_
            unfold Oper.wp at h1 ⊢
            generalize (execOp a.eval oi).run P w = r at h1 ⊢
            cases r with
            | ok n w' =>
              cases n <;> simp only [Oper.upon] at h1 ⊢ <;> first
                | exact hnil _ _ h1
                | exact h1
                | (refine Calls.mono h1 (fun e w'' he => ?_)
                   cases e with
                   | returned v => exact hnil _ _ he
                   | panicked ch => obtain ⟨G', s, ⟨he, _⟩, _⟩ := he; cases he
                   | outgrown => obtain ⟨a0, w0, G', s, ⟨he, _⟩, _⟩ := he; cases he)
                | exact Rows.mono h1 (fun _ _ he => hnil _ _ he)
            | halt e w' =>
              cases e <;> simp only [Oper.upon] at h1 ⊢
              obtain ⟨G', st, ⟨he, _⟩, _⟩ := h1
              cases he
          · cases he
        · rename_i hw
          simp only [hw]
          exact hnil _ _ h1
  have hinit : Inv K N G ⟨envS l.toArray (V fun _ => []) (Array.replicate l.length false) n E, Ms (fun _ => []) 0⟩ a w.drew := by
    rw [s.m0]
    refine inv_E hi' (fun t v hr => ?_)
    obtain ⟨_, p2⟩ := envS_get (ops := l.toArray) (V fun _ => []) (Array.replicate l.length false) E t n (fun i j => hdst' t i j)
    rw [p2 (fun i _ _ => getD_replicate_false _ _)]
    exact hr
  have htodo : todo (Array.replicate l.length false) n = n := by
    simp only [todo]
    rw [List.filter_eq_self.2 (fun i _ => by rw [getD_replicate_false]; rfl)]
    simp
  have := body n (Array.replicate l.length false) htodo (by simp) (fun k _ => getD_replicate_false _ _) (fun k j hk => by rw [getD_replicate_false] at hk; cases hk) (fun _ => []) 0 (Nat.zero_le _) (fun k hk => by omega) (fun k _ _ _ => getD_replicate_false _ _) G a w.drew hinit
  simpa [show n + (l.length - n) = l.length from by omega] using this
theorem any_drawPC {l l' : List Oper} (kp : List Ob) (n : Nat) (js al : List Nat) (hm : P.follows .mixedOrders = true) (hB : drawP2 l.toArray js al n = true)
    (hseq : Region.seqB .any l.toArray (l.drop n).length n (((List.range l.length).map fun i => Nat.blt i n).toArray) = true)
    (hl' : pickL l (js ++ (List.range l.length).drop n) = some l')
    (h : SeqO P N l.toArray Q kp al 0 E M n l') : AnyC P N l Q ⟨E, M⟩ := any_drawP2 kp n js al hm hB hseq hl' h
end
end Go.Proofs.Ytbnhmioijeagiaa.Ab
/- Chapter 24's reference: the best of an Alt: the walk. No condition. -/
set_option linter.unusedVariables false
set_option linter.unusedSimpArgs false
namespace Go.Proofs.Ytbnhmioijeagiaa.Ab
section
variable {P : Program} {T : List TI} {N : Nat} {ops : Array Oper} {o : Oper} {Q : Exit → St → Prop} {E F : Env} {M : List Ob}
theorem yields_deep {n : Nat} {cs : List A} (h : Yields P N ops o (.psl n cs) F M) : Yields P N ops o (.psl n (deepL cs)) F M := by
  intro E hE rest Q next
  refine h E hE rest Q (aops_weaken (fun K G a w hi => ⟨G, inv_E hi fun t v hv => ?_⟩) next)
  cases hd : o.dst with
  | none => rw [hd] at hv; exact hv
  | some d =>
    rw [hd] at hv
    simp only [put, get] at hv ⊢
    cases hb : Nat.beq d t with
    | true =>
      rw [hb, cond_true] at hv
      rw [cond_true]
      have := deep_rep _ _ hv
      rwa [deep] at this
    | false => rw [hb, cond_false] at hv; exact hv
/-- A literal, its nil slices told as slices of nothing. -/
theorem seqO_litd (hT : TOk P T) {kp : List Ob} {al : List Nat} {i : Nat} {ll : List Oper} {m d : Nat} {t len e : Nat} {ei : TI} {parts : Array (Nat × Operand)} {r r' : List A} (hi : al.contains i = false) (ho : o.op = .buildSlice t len parts) (hs : sliceOf T t = some (e, ei)) (hsz : (Nat.blt 0 (len * ei.size) && Nat.ble (len * ei.size) 16777216 && Nat.beq ei.zero.length ei.size) = true)
    (hf : fillA (fun i => some (i * ei.size, ei.size)) (zerosA (ei.zero.map ofZ) len) (parts.toList.map fun (i, x) => (i, opA F x)) = some r) (hr : normL (deepL r) = some r') (hg : guardOn ops o F = some true) (hd : o.dst = some d) (hN : Nat.blt d N = true)
    (next : SeqO P N ops Q kp al (i + 1) ((d, .psl len r') :: F) M m ll) : SeqO P N ops Q kp al i F M (m + 1) (o :: ll) := by
  rw [normL_eq] at hr; cases hr
  exact seqO_y hi (fun M' => yields_deep (yields_lit hT ho hs hsz hf hg (by rw [hd]; exact hN))) hd next
/-- A call that changes what is one's own. -/
theorem seqO_callx {kp : List Ob} {al : List Nat} {i : Nat} {ll : List Oper} {n d : Nat} {g : Operand} {args : Array Operand} {tys : Array TypeId} {f : FuncId} {cap xs : List A} {fn : Func} (x : List Nat → A) (M2 : List Nat → List Ob) (hi : al.contains i = true) (hf : P.funcs[f]? = some fn) (ho : o.op = .call { callee := .value g, args, argTypes := tys }) (hgv : opA F g = .fn f cap)
    (hfn : callable fn = true) (has : args.toList.map (opA F) ++ cap = xs) (hc : ACalls P f xs M (fun r M' => ∃ z, r = x z ∧ M' = M2 z)) (hkp : ∀ z, ∀ o ∈ kp, o ∈ M2 z) (hg : guardOn ops o F = some true) (hd : o.dst = some d) (hN : Nat.blt d N = true)
    (next : ∀ z, SeqO P N ops Q kp al (i + 1) ((d, x z) :: F) (M2 z) n ll) : SeqO P N ops Q kp al i F M (n + 1) (o :: ll) := by
  refine SeqO.make (x := x) (M2 := M2) hi (fun E hE rest Q next => ?_) (fun z o ho => hkp z o ho) fun b => ?_
  · refine aops_call hf ho ((agree_op hE (by rw [ho]; simp [Op.operands, Call.operands])).trans hgv) hfn (by rw [map_congr_ops (E := E) (F := F) (fun y hy => agree_op hE (by rw [ho]; simp [Op.operands, Call.operands, hy]))]; exact has) hc ((agree_guard hE).trans hg) (by rw [hd]; exact hN) ?_
    rintro y M' ⟨z, rfl, rfl⟩
    exact next z
  · rw [hd]; exact next b
end
attribute [local irreducible] thenA inBlockA ACode AOps put IntKind.wrap

theorem pre_get {α : Type} {xs ys : List α} {o q : Nat} {x : α} (h : xs <+: ys.drop o) (hx : xs[q]? = some x) : ys[o + q]? = some x := by
  obtain ⟨t, ht⟩ := h
  have hq : q < xs.length := (List.getElem?_eq_some_iff.1 hx).1
  rw [← List.getElem?_drop, ← ht, List.getElem?_append_left hq]; exact hx
theorem goU_step {fb : List F3} {T : Nat → List Pk} {r : Int} {l : List Int} {p m : Nat} {k : Int} {cs : List A} (h : l[p]? = some k) : goU fb T r p (l.drop p) m cs = if k < 0 then goU fb T r (p + 1) (l.drop (p + 1)) (m + 1) (cs ++ trC (leafT k)) else
    if (bestF (mayP fb r p) (T k.toNat)).isTk then (false, m + 1, cs ++ kE (bestF (mayP fb r p) (T k.toNat))) else goU fb T r (p + 1) (l.drop (p + 1)) (m + 1) (cs ++ kE (bestF (mayP fb r p) (T k.toNat))) := by
  have e : l.drop p = k :: l.drop (p + 1) := by
    obtain ⟨h1, rfl⟩ := List.getElem?_eq_some_iff.1 h
    exact List.drop_eq_getElem_cons h1
  rw [e]; rfl
set_option maxHeartbeats 16000000 in
theorem alt_of {g : Gr} {f : Fo} (hf : FoOk f) {i j : Nat} (hi : i < f.nodes.length) {a : Al} (ha : (altsOf f i)[j]? = some a) (hr0 : 0 ≤ a.rule) (h8 : a.kids.length ≤ 1000) (hrng : ∀ k ∈ a.kids, rng k) (hkid : ∀ k : Nat, (k : Int) ∈ a.kids → UnderC g f k) : AltC g f i j := by
  intro pb bk capk rs L M
  obtain ⟨hf1, hf2⟩ := id hf
  obtain ⟨nd, hnd, hndm, hal⟩ := nodes_at hi
  obtain ⟨hal1, hal2⟩ := hf2 nd hndm
  have hj : j < (altsOf f i).length := (List.getElem?_eq_some_iff.1 ha).1
  have hjm : j < lenE f i := hj
  have hlm : ∀ i, lenE f i ≤ 4398046510976 := fun i => by
    unfold lenE
    by_cases h : i < f.nodes.length
    · obtain ⟨nd, _, hm, hal⟩ := nodes_at h
      rw [hal]; exact (hf2 nd hm).1
    · unfold altsOf; rw [List.getElem?_eq_none (by omega)]; simp
  have hae : altE g f i j = entU a.rule (goU g.forbid (pkT g f) a.rule 0 a.kids 0 []) := by
    unfold altE
    rw [List.getD_eq_getElem?_getD, ha]; rfl
  have hat := rowE_at (g := g) (f := f) (L := L) (i := i) hjm
  have hrl := rowE_len (g := g) (f := f) (L := L) (i := i) (m := lenE f i)
  have how := ownR_at (rs := rs) hi
  have hlj := hlm i
  have hM3 := rowsR_at (U := altE g f) (rs := rs) (L := L) hi M
  generalize hX : goU g.forbid (pkT g f) a.rule 0 a.kids 0 [] = X at *
  refine acalls_of_code 112 Try.func75 rfl rfl rfl ?_
  repeat (first | refine acode_seq ?_ | refine acode_region ?_)
  refine aops_alloc tok rfl rfl rfl rfl rfl rfl fun b6 => ?_
  repeat (first | refine aops_end ?_ | refine aops_p tok rfl rfl rfl rfl ?_ | refine aops_ld tok 1 rfl rfl rfl rfl rfl rfl rfl rfl ?_ | refine acode_seq ?_ | refine acode_region ?_)
  refine aops_ixo tok rfl rfl rfl rfl (by omega) (by omega) rfl rfl rfl ?_
  refine aops_ld tok 2 (y := .own (some (rs i)) (lenE f i) (lenE f i)) rfl rfl rfl rfl (by rw [headed_eq]; show (ownR f rs)[(i : Int).toNat * 1]? = _; rw [Nat.mul_one, Int.toNat_natCast]; exact how) rfl rfl rfl ?_
  repeat (refine aops_p tok rfl rfl rfl rfl ?_)
  refine aops_ixo tok rfl rfl rfl rfl (by omega) (by omega) rfl rfl rfl ?_
  repeat (refine aops_p tok rfl rfl rfl rfl ?_)
  cases hc : L.contains (codeE i j) with
  | true =>
    rw [if_pos hc, hae] at hat
    refine aops_ld tok (i + 3) (y := .bool true) rfl rfl rfl hM3 (by rw [headed_eq]; show (rowE (altE g f) L i (lenE f i))[(j : Int).toNat * 5 + 0]? = _; rw [Int.toNat_natCast]; exact pre_get hat rfl) rfl rfl rfl ?_
    refine aops_end ?_
    refine acode_it rfl ?_
    refine acode_seq ?_
    refine acode_region ?_
    repeat (first | refine aops_p tok rfl rfl rfl rfl ?_ | refine aops_ld tok 1 rfl rfl rfl rfl rfl rfl rfl rfl ?_)
    refine aops_ixo tok rfl rfl rfl rfl (by omega) (by omega) rfl rfl rfl ?_
    refine aops_ld tok 2 (y := .own (some (rs i)) (lenE f i) (lenE f i)) rfl rfl rfl rfl (by rw [headed_eq]; show (ownR f rs)[(i : Int).toNat * 1]? = _; rw [Nat.mul_one, Int.toNat_natCast]; exact how) rfl rfl rfl ?_
    repeat (refine aops_p tok rfl rfl rfl rfl ?_)
    refine aops_ixo tok rfl rfl rfl rfl (by omega) (by omega) rfl rfl rfl ?_
    refine aops_ld tok (i + 3) (y := .agg (entU a.rule X)) rfl rfl rfl hM3 (by
      rw [headed_eq]
      show (bif Nat.ble ((j : Int).toNat * 5 + 5) (rowE (altE g f) L i (lenE f i)).length then some (A.agg (((rowE (altE g f) L i (lenE f i)).drop ((j : Int).toNat * 5)).take 5)) else none) = _
      rw [Int.toNat_natCast, pre_take (n := 5) hat rfl, show Nat.ble (j * 5 + 5) (rowE (altE g f) L i (lenE f i)).length = true by rw [Nat.ble_eq, hrl]; omega]
      rfl) rfl rfl rfl ?_
    unfold entU
    repeat (first | refine aops_end ?_ | refine aops_stn tok rfl rfl rfl rfl rfl rfl rfl rfl rfl ?_)
    refine acode_pubref0 6 rfl ?_
    refine acode_ret ?_
    repeat (refine ret_then ?_)
    exact ⟨_, ⟨L, by rw [hae]; rfl, rfl⟩, resOf_pp tok rfl rfl rfl⟩
  | false =>
    rw [if_neg (by rw [hc]; simp)] at hat
    refine aops_ld tok (i + 3) (y := .bool false) rfl rfl rfl hM3 (by rw [headed_eq]; show (rowE (altE g f) L i (lenE f i))[(j : Int).toNat * 5 + 0]? = _; rw [Int.toNat_natCast]; exact pre_get hat rfl) rfl rfl rfl ?_
    refine aops_end ?_
    refine acode_if rfl ?_
    repeat (first | refine aops_p tok rfl rfl rfl rfl ?_ | refine aops_ld tok 1 rfl rfl rfl rfl rfl rfl rfl rfl ?_ | refine acode_seq ?_ | refine acode_region ?_ | refine acode_skip ?_ | refine then_n ?_)
    refine aops_ix tok (ndC nd) rfl rfl rfl rfl (by omega) (by omega) (by simp [ndC]) (nd_at hnd) rfl rfl rfl ?_
    repeat (refine aops_p tok rfl rfl rfl rfl ?_)
    have ha2 : nd.alts[j]? = some a := by rw [← hal]; exact ha
    have hjn : j < nd.alts.length := by rw [← hal]; exact hj
    refine aops_ix tok (alC a) rfl rfl rfl rfl (by omega) (by omega) (by simp [alC]) (al_at ha2) rfl rfl rfl ?_
    repeat (refine aops_p tok rfl rfl rfl rfl ?_)
    refine aops_alloc tok rfl rfl rfl rfl rfl rfl fun b7 => ?_
    repeat (refine aops_stn tok rfl rfl rfl rfl rfl rfl rfl rfl rfl ?_)
    refine aops_pubref0 7 rfl ?_
    repeat (first | refine aops_end ?_ | refine aops_p tok rfl rfl rfl rfl ?_ | refine acode_seq ?_ | refine acode_region ?_)
    refine aops_alloc tok rfl rfl rfl rfl rfl rfl fun b8 => ?_
    repeat (refine aops_stn tok rfl rfl rfl rfl rfl rfl rfl rfl rfl ?_)
    refine aops_adoptF 4 rfl rfl ?_
    repeat (first | refine aops_end ?_ | refine aops_p tok rfl rfl rfl rfl ?_ | refine acode_seq ?_ | refine acode_region ?_ | refine acode_block ?_)
    refine acode_loopS (ι := Nat × Bool × List A × (Option Nat × Nat) × List Nat) (fun q => [(0, .ref pb 0), (1, .int .i64 i), (2, .int .i64 j), (6, .ref b6 0), (7, .pp (alC a)), (8, .ref b8 0), (9, .int .i64 q.1)]) (fun q => ⟨some b8, 5, [.bool true, .bool q.2.1, .int .i64 a.rule, .int .i64 0, .own q.2.2.2.1.1 q.1 q.2.2.2.1.2]⟩ :: ⟨q.2.2.2.1.1, q.2.2.2.1.2 * 3, q.2.2.1⟩ :: ⟨some b6, 5, zeroE⟩ :: pkS g f pb bk capk rs q.2.2.2.2 M) (fun q => a.kids.length - q.1)
      (fun q => q.1 ≤ a.kids.length ∧ (q.2.1 = true ∧ goU g.forbid (pkT g f) a.rule q.1 (a.kids.drop q.1) q.1 q.2.2.1 = X ∨ q.2.1 = false ∧ X = (false, q.1, q.2.2.1)) ∧ q.2.2.1.length = q.1 * 3) (0, true, [], (none, 0), L) ⟨Nat.zero_le _, .inl ⟨rfl, hX⟩, rfl⟩ ⟨rfl, rfl, rfl, rfl, rfl, rfl, rfl, trivial⟩ rfl ?_
    rintro ⟨q, ok, cs, ⟨ob, cap⟩, L1⟩ ⟨hq, hgo, hcs⟩
    simp only at hq hgo hcs ⊢
    clear hat hM3 hrl
    have hend : X = (ok, q, cs) → ACode Try.prog 112 (.exit 0) (fun e s => True) ⟨[], []⟩ := fun _ => acode_exit trivial
    by_cases hlt : ok = true ∧ q < a.kids.length
    · obtain ⟨rfl, hql⟩ := hlt
      obtain ⟨k, hk⟩ : ∃ k, a.kids[q]? = some k := ⟨a.kids[q], List.getElem?_eq_getElem hql⟩
      have hkm := List.mem_of_getElem? hk
      have hgo : goU g.forbid (pkT g f) a.rule q (a.kids.drop q) q cs = X := by
        rcases hgo with ⟨_, h⟩ | ⟨h, _⟩
        · exact h
        · cases h
      rw [goU_step hk] at hgo
      repeat' (first | refine aops_end ?_ | refine aops_pbt tok rfl (by first | omega | decide) rfl rfl rfl ?_ | refine aops_p tok rfl rfl rfl rfl ?_ | refine acode_it rfl ?_ | refine aops_ld tok 0 rfl rfl rfl rfl rfl rfl rfl rfl ?_ | refine acode_seq ?_ | refine acode_region ?_ | refine acode_block ?_ | refine acode_skip ?_ | refine then_n ?_)
      all_goals try (exfalso; omega)
      refine aops_ix tok [A.int .i64 k] rfl rfl rfl rfl (by omega) (by omega) (by simp) (ints_at (j := q) (by simpa using hk)) rfl rfl rfl ?_
      by_cases hk0 : k < 0
      · rw [if_pos hk0] at hgo
        repeat' (first | refine aops_end ?_ | refine aops_pbt tok rfl (by first | omega | decide) rfl rfl rfl ?_ | refine aops_p tok rfl rfl rfl rfl ?_ | refine acode_it rfl ?_ | refine acode_seq ?_)
        all_goals try (exfalso; omega)
        obtain ⟨hkr1, hkr2⟩ := hrng k hkm
        refine acode_drawP [⟨some b8, 5, [.bool true, .bool true, .int .i64 a.rule, .int .i64 0, .own ob q cap]⟩] 12 [0, 1, 2, 3, 4, 5, 6, 7, 8, 9, 10, 11] [11] mixed (by kernel_rfl) (by kernel_rfl) rfl ?_
        repeat (first | refine seqO_p tok rfl rfl rfl rfl rfl ?_ | refine seqO_ld tok 0 rfl rfl rfl rfl rfl (by simp) rfl rfl rfl rfl ?_)
        refine seqO_ix tok [A.int .i64 k] rfl rfl rfl rfl rfl (by omega) (by omega) (by simp) (ints_at (j := q) (by simpa using hk)) rfl rfl rfl ?_
        repeat (first | refine seqO_a tok rfl rfl (by omega) (by omega) rfl rfl rfl ?_ | refine seqO_p tok rfl rfl rfl rfl rfl ?_)
        refine seqO_litd tok rfl rfl rfl rfl rfl rfl rfl rfl rfl ?_
        refine seqO_app tok 1 (m := 1) (ds := trC (leafT k)) rfl rfl rfl rfl (.inl rfl) rfl rfl (by rw [hcs]) rfl rfl rfl (by show _ * 40 ≤ _; omega) (by omega) (by intro y o ho; simp at ho ⊢; simp [ho]) rfl rfl rfl fun ob' cap' => ?_
        skip
        refine SeqO.done ?_
        refine aops_somed 76 rfl (by omega) fun c hc => ?_
        subst hc
        repeat (first | refine aops_p tok rfl rfl rfl rfl ?_ | refine aops_stn tok rfl rfl rfl rfl rfl rfl rfl rfl rfl ?_)
        refine aops_end ?_
        refine acode_exit ?_
        repeat (first | refine exit_then ?_ | refine exit_here ?_ | refine then_n ?_)
        repeat (first | refine aops_end ?_ | refine aops_a tok rfl (by omega) (by omega) rfl rfl rfl ?_ | refine aops_p tok rfl rfl rfl rfl ?_ | refine acode_region ?_)
        exact ⟨(q + 1, true, cs ++ trC (leafT k), (some c, cap'), L1), ⟨by simp only; omega, .inl ⟨rfl, hgo⟩, by simp [hcs, trC_len]; omega⟩, by simp only; omega, ⟨rfl, rfl, rfl, rfl, rfl, rfl, rfl, trivial⟩, rfl⟩
      · rw [if_neg hk0] at hgo
        obtain ⟨k', rfl⟩ := Int.eq_ofNat_of_zero_le (show 0 ≤ k by omega)
        repeat' (first | refine aops_end ?_ | refine aops_pbf tok rfl (by first | omega | decide) rfl rfl rfl ?_ | refine aops_p tok rfl rfl rfl rfl ?_ | refine acode_if rfl ?_ | refine acode_seq ?_ | refine acode_skip ?_ | refine then_n ?_)
        all_goals try (exfalso; omega)
        rw [Int.toNat_natCast] at hgo
        have hmr : mayR g.forbid a.rule q = mayP g.forbid a.rule q := by funext x; unfold mayR; rw [if_pos hr0]
        have huc := hkid k' hkm pb bk capk rs a.rule q L1
        rw [hmr] at huc
        generalize bestF (mayP g.forbid a.rule q) (pkT g f k') = B at *
        have hcall : ∀ (X : List Ob), ACalls Try.prog 42 [.ref pb 0, .int .i64 k', .int .i64 a.rule, .int .i64 q] (X ++ pkS g f pb bk capk rs L1 M) (fun x M' => ∃ z : List Nat, x = .agg (entR B) ∧ M' = X ++ pkS g f pb bk capk rs z M) := fun X => by
          have hperm : ∀ (L : List Nat) (X M : List Ob), (X ++ pkS g f pb bk capk rs L M).Perm (pkS g f pb bk capk rs L (X ++ M)) := fun L X M =>
            List.perm_append_comm_assoc X (⟨some pb, 10, pkCells g f bk capk⟩ :: ⟨some bk, capk * 1, ownR f rs⟩ :: rowsR f (altE g f) rs L) M
          refine acalls_perm (hperm L1 _ M) (huc _) ?_
          rintro x M' ⟨z, rfl, rfl⟩
          exact ⟨_, (hperm z _ M).symm, z, rfl, rfl⟩
        refine acode_joinI (ι := Nat × List Nat) (fun z => [(0, .ref pb 0), (1, .int .i64 i), (2, .int .i64 j), (6, .ref b6 0), (7, .pp (alC a)), (8, .ref b8 0), (9, .int .i64 q), (10, .ref z.1 0)]) (fun z => ⟨some z.1, 5, entR B⟩ :: ⟨some b8, 5, [.bool true, .bool true, .int .i64 a.rule, .int .i64 0, .own ob q cap]⟩ :: ⟨ob, cap * 3, cs⟩ :: ⟨some b6, 5, zeroE⟩ :: pkS g f pb bk capk rs z.2 M) (fun _ => True) ?_ ?_
        · refine acode_both 9 10 mixed rfl rfl rfl ?_ ?_
          · refine any_drawPC [] 11 [0, 1, 2, 3, 4, 5, 6, 7, 8, 9, 10] [9, 10] mixed (by kernel_rfl) (by kernel_rfl) rfl ?_
            repeat (refine seqO_p tok rfl rfl rfl rfl rfl ?_)
            refine seqO_ix tok [A.int .i64 k'] rfl rfl rfl rfl rfl (by omega) (by omega) (by simp) (ints_at (j := q) (by simpa using hk)) rfl rfl rfl ?_
            repeat (refine seqO_p tok rfl rfl rfl rfl rfl ?_)
            refine seqO_callx (fun _ => .agg (entR B)) (fun z => ⟨some b8, 5, [.bool true, .bool true, .int .i64 a.rule, .int .i64 0, .own ob q cap]⟩ :: ⟨ob, cap * 3, cs⟩ :: ⟨some b6, 5, zeroE⟩ :: pkS g f pb bk capk rs z M) rfl Try.func42 rfl rfl rfl rfl (hcall [_, _, _]) (by intro z o ho; cases ho) rfl rfl rfl fun z => ?_
            refine seqO_alloc tok rfl rfl rfl (by intro o ho; cases ho) rfl rfl rfl rfl fun b10 => ?_
            refine SeqO.done ?_
            cases B with
            | tk =>
              rw [entR_tk]
              repeat (first | refine aops_end ?_ | refine aops_stn tok rfl rfl rfl rfl rfl rfl rfl rfl rfl ?_)
              exact ⟨(b10, z), trivial, ⟨rfl, rfl, rfl, rfl, rfl, rfl, rfl, rfl, trivial⟩, rfl⟩
            | nd a2 w2 q2 =>
              rw [entR_nd]
              repeat (first | refine aops_end ?_ | refine aops_stn tok rfl rfl rfl rfl rfl rfl rfl rfl rfl ?_)
              exact ⟨(b10, z), trivial, ⟨rfl, rfl, rfl, rfl, rfl, rfl, rfl, rfl, trivial⟩, rfl⟩
          · refine any_drawPC [] 11 [0, 1, 2, 3, 4, 5, 6, 7, 8, 10, 9] [9, 10] mixed (by kernel_rfl) (by kernel_rfl) rfl ?_
            repeat (refine seqO_p tok rfl rfl rfl rfl rfl ?_)
            refine seqO_ix tok [A.int .i64 k'] rfl rfl rfl rfl rfl (by omega) (by omega) (by simp) (ints_at (j := q) (by simpa using hk)) rfl rfl rfl ?_
            repeat (refine seqO_p tok rfl rfl rfl rfl rfl ?_)
            refine seqO_alloc tok rfl rfl rfl (by intro o ho; cases ho) rfl rfl rfl rfl fun b10 => ?_
            refine seqO_callx (fun _ => .agg (entR B)) (fun z => ⟨some b10, 5, zeroE⟩ :: ⟨some b8, 5, [.bool true, .bool true, .int .i64 a.rule, .int .i64 0, .own ob q cap]⟩ :: ⟨ob, cap * 3, cs⟩ :: ⟨some b6, 5, zeroE⟩ :: pkS g f pb bk capk rs z M) rfl Try.func42 rfl rfl rfl rfl (hcall [_, _, _, _]) (by intro z o ho; cases ho) rfl rfl rfl fun z => ?_
            refine SeqO.done ?_
            cases B with
            | tk =>
              rw [entR_tk]
              repeat (first | refine aops_end ?_ | refine aops_stn tok rfl rfl rfl rfl rfl rfl rfl rfl rfl ?_)
              exact ⟨(b10, z), trivial, ⟨rfl, rfl, rfl, rfl, rfl, rfl, rfl, rfl, trivial⟩, rfl⟩
            | nd a2 w2 q2 =>
              rw [entR_nd]
              repeat (first | refine aops_end ?_ | refine aops_stn tok rfl rfl rfl rfl rfl rfl rfl rfl rfl ?_)
              exact ⟨(b10, z), trivial, ⟨rfl, rfl, rfl, rfl, rfl, rfl, rfl, rfl, trivial⟩, rfl⟩
        rintro ⟨b10, z⟩ -
        simp only
        cases B with
        | tk =>
          rw [if_pos (show Pk.isTk .tk = true from rfl)] at hgo
          rw [entR_tk]
          repeat (first | refine aops_end ?_ | refine aops_p tok rfl rfl rfl rfl ?_ | refine aops_ld tok 0 rfl rfl rfl rfl rfl rfl rfl rfl ?_ | refine aops_ld tok 1 rfl rfl rfl rfl rfl rfl rfl rfl ?_ | refine aops_stn1 tok rfl rfl rfl rfl rfl rfl rfl rfl rfl ?_ | refine acode_seq ?_ | refine acode_region ?_)
          refine aops_litn tok rfl rfl rfl rfl rfl rfl rfl ?_
          refine aops_append tok 2 (m := 1) (ds := kE .tk) rfl rfl rfl (.inl rfl) rfl rfl (by rw [hcs]) rfl rfl rfl (by show _ * 40 ≤ _; omega) (by omega) rfl rfl fun ob' cap' => ?_
          refine aops_put rfl ?_
          refine aops_somed 98 rfl (by omega) fun c hc => ?_
          subst hc
          repeat (first | refine aops_p tok rfl rfl rfl rfl ?_ | refine aops_stn1 tok rfl rfl rfl rfl rfl rfl rfl rfl rfl ?_)
          refine aops_drop0 ?_
          repeat (first | refine aops_end ?_ | refine aops_endb ?_ | refine aops_a tok rfl (by omega) (by omega) rfl rfl rfl ?_ | refine aops_p tok rfl rfl rfl rfl ?_ | refine acode_region ?_ | refine then_n ?_)
          exact ⟨(q + 1, false, cs ++ kE .tk, (some c, cap'), z), ⟨by simp only; omega, .inr ⟨rfl, hgo.symm⟩, by simp [hcs, kE, Pk.isTk]; omega⟩, by simp only; omega, ⟨rfl, rfl, rfl, rfl, rfl, rfl, rfl, trivial⟩, rfl⟩
        | nd a2 w2 q2 =>
          rw [if_neg (by simp [Pk.isTk])] at hgo
          have hke : kE (.nd a2 w2 q2) = trC (treeP (.nd a2 w2 q2)) := rfl
          rw [hke] at hgo
          rw [entR_nd]
          generalize treeP (.nd a2 w2 q2) = tr at *
          repeat (first | refine aops_end ?_ | refine aops_p tok rfl rfl rfl rfl ?_ | refine aops_ld tok 0 rfl rfl rfl rfl rfl rfl rfl rfl ?_ | refine aops_ld tok 1 rfl rfl rfl rfl rfl rfl rfl rfl ?_ | refine aops_stn1 tok rfl rfl rfl rfl rfl rfl rfl rfl rfl ?_ | refine acode_seq ?_ | refine acode_region ?_)
          refine aops_litn tok rfl rfl rfl rfl rfl rfl rfl ?_
          refine aops_append tok 2 (m := 1) (ds := [.int .i64 tr.rule, .int .i64 tr.tok, .psl tr.kids.length (encs trC tr.kids)]) rfl rfl rfl (.inl rfl) rfl rfl (by rw [hcs]) rfl rfl rfl (by show _ * 40 ≤ _; omega) (by omega) rfl rfl fun ob' cap' => ?_
          refine aops_put rfl ?_
          refine aops_somed 98 rfl (by omega) fun c hc => ?_
          subst hc
          repeat (first | refine aops_p tok rfl rfl rfl rfl ?_ | refine aops_stn1 tok rfl rfl rfl rfl rfl rfl rfl rfl rfl ?_)
          refine aops_drop0 ?_
          repeat (first | refine aops_end ?_ | refine aops_endb ?_ | refine aops_a tok rfl (by omega) (by omega) rfl rfl rfl ?_ | refine aops_p tok rfl rfl rfl rfl ?_ | refine acode_region ?_ | refine then_n ?_)
          rw [trC_eq] at hgo
          exact ⟨(q + 1, true, cs ++ [.int .i64 tr.rule, .int .i64 tr.tok, .psl tr.kids.length (encs trC tr.kids)], (some c, cap'), z), ⟨by simp only; omega, .inl ⟨rfl, hgo⟩, by simp [hcs]; omega⟩, by simp only; omega, ⟨rfl, rfl, rfl, rfl, rfl, rfl, rfl, trivial⟩, rfl⟩
    · have hX2 : X = (ok, q, cs) := by
        rcases hgo with ⟨rfl, h⟩ | ⟨rfl, h⟩
        · have : q = a.kids.length := by
            have : ¬ q < a.kids.length := fun h => hlt ⟨rfl, h⟩
            omega
          rw [← h, this, List.drop_length]; rfl
        · exact h
      subst hX2
      have hM3 := rowsR_at (U := altE g f) (rs := rs) (L := L1) hi M
      have hrl := rowE_len (g := g) (f := f) (L := L1) (i := i) (m := lenE f i)
      cases ok with
      | true =>
        have hge : ¬ q < a.kids.length := fun h => hlt ⟨rfl, h⟩
        repeat' (first | refine aops_end ?_ | refine aops_o rfl rfl rfl ?_ | refine aops_pbf tok rfl (by first | omega | decide) rfl rfl rfl ?_ | refine aops_p tok rfl rfl rfl rfl ?_ | refine acode_if rfl ?_ | refine acode_seq ?_ | refine acode_region ?_)
        all_goals try (exfalso; omega)
        refine acode_exit ?_
        repeat (first | refine exit_then ?_ | refine exit_here ?_ | refine then_n ?_)
        refine acode_pubFld (sz := 3) (cs' := [.bool true, .bool true, .int .i64 a.rule, .int .i64 0, .psl q cs]) 4 rfl rfl hcs (by decide) rfl ?_
        refine acode_seq ?_
        refine acode_drawT 9 mixed (by kernel_rfl) (by kernel_rfl) ?_
        repeat (refine seqT_p tok rfl rfl rfl rfl ?_)
        refine seqT_ld tok 2 (y := .own (some bk) f.nodes.length capk) rfl rfl rfl rfl rfl rfl rfl rfl ?_
        repeat (refine seqT_p tok rfl rfl rfl rfl ?_)
        refine seqT_ixo tok rfl rfl rfl rfl (by omega) (by omega) rfl rfl rfl ?_
        refine seqT_ld tok 3 (y := .own (some (rs i)) (lenE f i) (lenE f i)) rfl rfl rfl rfl (by rw [headed_eq]; show (ownR f rs)[(i : Int).toNat * 1]? = _; rw [Nat.mul_one, Int.toNat_natCast]; exact how) rfl rfl rfl ?_
        repeat (first | refine seqT_p tok rfl rfl rfl rfl ?_ | refine seqT_ld tok 0 rfl rfl rfl rfl rfl rfl rfl rfl ?_)
        refine SeqT.done ?_
        refine aops_ixo tok rfl rfl rfl rfl (by omega) (by omega) rfl rfl rfl ?_
        refine aops_stk tok (i + 4) (rowE (altE g f) (codeE i j :: L1) i (lenE f i)) (⟨some b8, 5, [.bool true, .bool true, .int .i64 a.rule, .int .i64 0, .psl q cs]⟩ :: ⟨some b6, 5, zeroE⟩ :: pkS g f pb bk capk rs (codeE i j :: L1) M) rfl rfl rfl rfl hM3 rfl (by show (j : Int).toNat * 5 + 5 ≤ _; rw [Int.toNat_natCast, hrl]; omega) (by
          have h := rowE_add (g := g) (f := f) (L := L1) (i := i) hjm hlj
          rw [hae] at h
          show (rowE (altE g f) L1 i (lenE f i)).take ((j : Int).toNat * 5) ++ (entU a.rule (true, q, cs) ++ (rowE (altE g f) L1 i (lenE f i)).drop ((j : Int).toNat * 5 + 5)) = _
          rw [Int.toNat_natCast]; exact h) (by
          show ⟨some b8, 5, [.bool true, .bool true, .int .i64 a.rule, .int .i64 0, .psl q cs]⟩ :: ⟨some b6, 5, zeroE⟩ :: ⟨some pb, 10, pkCells g f bk capk⟩ :: ⟨some bk, capk * 1, ownR f rs⟩ :: (rowsR f (altE g f) rs L1 ++ M).set i _ = _
          rw [rows_add hi hjm hlm M]) rfl rfl ?_
        refine aops_end ?_
        repeat (first | refine aops_end ?_ | refine aops_ld tok 0 rfl rfl rfl rfl rfl rfl rfl rfl ?_ | refine aops_stn1 tok rfl rfl rfl rfl rfl rfl rfl rfl rfl ?_ | refine acode_seq ?_ | refine acode_region ?_)
        refine acode_drop0 ?_
        refine acode_pubref0 6 rfl ?_
        refine acode_ret ?_
        skip
        exact ⟨_, ⟨codeE i j :: L1, by rw [hae]; rfl, rfl⟩, resOf_pp tok rfl rfl rfl⟩
      | false =>
        by_cases hq2 : q < a.kids.length
        · repeat' (first | refine aops_end ?_ | refine aops_pbt tok rfl (by first | omega | decide) rfl rfl rfl ?_ | refine aops_pbf tok rfl (by first | omega | decide) rfl rfl rfl ?_ | refine aops_p tok rfl rfl rfl rfl ?_ | refine acode_if rfl ?_ | refine aops_ld tok 0 rfl rfl rfl rfl rfl rfl rfl rfl ?_ | refine acode_seq ?_ | refine acode_region ?_)
          all_goals try (exfalso; omega)
          refine acode_exit ?_
          repeat (first | refine exit_then ?_ | refine exit_here ?_ | refine then_n ?_)
          refine acode_pubFld (sz := 3) (cs' := [.bool true, .bool false, .int .i64 a.rule, .int .i64 0, .psl q cs]) 4 rfl rfl hcs (by decide) rfl ?_
          refine acode_seq ?_
          refine acode_drawT 9 mixed (by kernel_rfl) (by kernel_rfl) ?_
          repeat (refine seqT_p tok rfl rfl rfl rfl ?_)
          refine seqT_ld tok 2 (y := .own (some bk) f.nodes.length capk) rfl rfl rfl rfl rfl rfl rfl rfl ?_
          repeat (refine seqT_p tok rfl rfl rfl rfl ?_)
          refine seqT_ixo tok rfl rfl rfl rfl (by omega) (by omega) rfl rfl rfl ?_
          refine seqT_ld tok 3 (y := .own (some (rs i)) (lenE f i) (lenE f i)) rfl rfl rfl rfl (by rw [headed_eq]; show (ownR f rs)[(i : Int).toNat * 1]? = _; rw [Nat.mul_one, Int.toNat_natCast]; exact how) rfl rfl rfl ?_
          repeat (first | refine seqT_p tok rfl rfl rfl rfl ?_ | refine seqT_ld tok 0 rfl rfl rfl rfl rfl rfl rfl rfl ?_)
          refine SeqT.done ?_
          refine aops_ixo tok rfl rfl rfl rfl (by omega) (by omega) rfl rfl rfl ?_
          refine aops_stk tok (i + 4) (rowE (altE g f) (codeE i j :: L1) i (lenE f i)) (⟨some b8, 5, [.bool true, .bool false, .int .i64 a.rule, .int .i64 0, .psl q cs]⟩ :: ⟨some b6, 5, zeroE⟩ :: pkS g f pb bk capk rs (codeE i j :: L1) M) rfl rfl rfl rfl hM3 rfl (by show (j : Int).toNat * 5 + 5 ≤ _; rw [Int.toNat_natCast, hrl]; omega) (by
            have h := rowE_add (g := g) (f := f) (L := L1) (i := i) hjm hlj
            rw [hae] at h
            show (rowE (altE g f) L1 i (lenE f i)).take ((j : Int).toNat * 5) ++ (entU a.rule (false, q, cs) ++ (rowE (altE g f) L1 i (lenE f i)).drop ((j : Int).toNat * 5 + 5)) = _
            rw [Int.toNat_natCast]; exact h) (by
            show ⟨some b8, 5, [.bool true, .bool false, .int .i64 a.rule, .int .i64 0, .psl q cs]⟩ :: ⟨some b6, 5, zeroE⟩ :: ⟨some pb, 10, pkCells g f bk capk⟩ :: ⟨some bk, capk * 1, ownR f rs⟩ :: (rowsR f (altE g f) rs L1 ++ M).set i _ = _
            rw [rows_add hi hjm hlm M]) rfl rfl ?_
          refine aops_end ?_
          repeat (first | refine aops_end ?_ | refine aops_ld tok 0 rfl rfl rfl rfl rfl rfl rfl rfl ?_ | refine aops_stn1 tok rfl rfl rfl rfl rfl rfl rfl rfl rfl ?_ | refine acode_seq ?_ | refine acode_region ?_)
          refine acode_drop0 ?_
          refine acode_pubref0 6 rfl ?_
          refine acode_ret ?_
          skip
          exact ⟨_, ⟨codeE i j :: L1, by rw [hae]; rfl, rfl⟩, resOf_pp tok rfl rfl rfl⟩
        · repeat' (first | refine aops_end ?_ | refine aops_o rfl rfl rfl ?_ | refine aops_pbf tok rfl (by first | omega | decide) rfl rfl rfl ?_ | refine aops_p tok rfl rfl rfl rfl ?_ | refine acode_if rfl ?_ | refine acode_seq ?_ | refine acode_region ?_)
          all_goals try (exfalso; omega)
          refine acode_exit ?_
          repeat (first | refine exit_then ?_ | refine exit_here ?_ | refine then_n ?_)
          refine acode_pubFld (sz := 3) (cs' := [.bool true, .bool false, .int .i64 a.rule, .int .i64 0, .psl q cs]) 4 rfl rfl hcs (by decide) rfl ?_
          refine acode_seq ?_
          refine acode_drawT 9 mixed (by kernel_rfl) (by kernel_rfl) ?_
          repeat (refine seqT_p tok rfl rfl rfl rfl ?_)
          refine seqT_ld tok 2 (y := .own (some bk) f.nodes.length capk) rfl rfl rfl rfl rfl rfl rfl rfl ?_
          repeat (refine seqT_p tok rfl rfl rfl rfl ?_)
          refine seqT_ixo tok rfl rfl rfl rfl (by omega) (by omega) rfl rfl rfl ?_
          refine seqT_ld tok 3 (y := .own (some (rs i)) (lenE f i) (lenE f i)) rfl rfl rfl rfl (by rw [headed_eq]; show (ownR f rs)[(i : Int).toNat * 1]? = _; rw [Nat.mul_one, Int.toNat_natCast]; exact how) rfl rfl rfl ?_
          repeat (first | refine seqT_p tok rfl rfl rfl rfl ?_ | refine seqT_ld tok 0 rfl rfl rfl rfl rfl rfl rfl rfl ?_)
          refine SeqT.done ?_
          refine aops_ixo tok rfl rfl rfl rfl (by omega) (by omega) rfl rfl rfl ?_
          refine aops_stk tok (i + 4) (rowE (altE g f) (codeE i j :: L1) i (lenE f i)) (⟨some b8, 5, [.bool true, .bool false, .int .i64 a.rule, .int .i64 0, .psl q cs]⟩ :: ⟨some b6, 5, zeroE⟩ :: pkS g f pb bk capk rs (codeE i j :: L1) M) rfl rfl rfl rfl hM3 rfl (by show (j : Int).toNat * 5 + 5 ≤ _; rw [Int.toNat_natCast, hrl]; omega) (by
            have h := rowE_add (g := g) (f := f) (L := L1) (i := i) hjm hlj
            rw [hae] at h
            show (rowE (altE g f) L1 i (lenE f i)).take ((j : Int).toNat * 5) ++ (entU a.rule (false, q, cs) ++ (rowE (altE g f) L1 i (lenE f i)).drop ((j : Int).toNat * 5 + 5)) = _
            rw [Int.toNat_natCast]; exact h) (by
            show ⟨some b8, 5, [.bool true, .bool false, .int .i64 a.rule, .int .i64 0, .psl q cs]⟩ :: ⟨some b6, 5, zeroE⟩ :: ⟨some pb, 10, pkCells g f bk capk⟩ :: ⟨some bk, capk * 1, ownR f rs⟩ :: (rowsR f (altE g f) rs L1 ++ M).set i _ = _
            rw [rows_add hi hjm hlm M]) rfl rfl ?_
          refine aops_end ?_
          repeat (first | refine aops_end ?_ | refine aops_ld tok 0 rfl rfl rfl rfl rfl rfl rfl rfl ?_ | refine aops_stn1 tok rfl rfl rfl rfl rfl rfl rfl rfl rfl ?_ | refine acode_seq ?_ | refine acode_region ?_)
          refine acode_drop0 ?_
          refine acode_pubref0 6 rfl ?_
          refine acode_ret ?_
          skip
          exact ⟨_, ⟨codeE i j :: L1, by rw [hae]; rfl, rfl⟩, resOf_pp tok rfl rfl rfl⟩
end Go.Proofs.Ytbnhmioijeagiaa.Ab
/- Chapter 24's reference: every node that counts promises what under promises. No condition. -/
set_option linter.unusedVariables false
set_option linter.unusedSimpArgs false
namespace Go.Proofs.Ytbnhmioijeagiaa.Ab

theorem big_kid {f : Fo} {i : Nat} (h : WF f i) (hb : big f i ≤ 1000000) {k : Nat} (hk : Kid f i k) : big f k ≤ 1000000 := by
  have hbM : bigM = 1099511627776 := rfl
  have hbe := big_eq h
  unfold bigN at hbe
  have h2 : bigA (big f) 0 (altsOf f i) + 1 = big f i := by
    split at hbe
    · omega
    · exact hbe.symm
  obtain ⟨a, ha, hm⟩ := hk
  have h1 := (bigA_mem (g := big f) (altsOf f i) 0 a ha).1
  have h4 : ∀ k : Nat, (k : Int) ∈ a.kids → 1 ≤ big f k := fun k hm => (big_is (h.kid ⟨a, ha, hm⟩)).1
  have h3 := bigK_exact (g := big f) a.kids 0 h4 (by omega)
  have := wgt_mem (g := big f) a.kids h4 k hm
  omega
theorem under_all {g : Gr} {f : Fo} (hgl : g.rules.length ≤ 1000000) (hfl : g.forbid.length ≤ 9223372036854775807) (hdy : ∀ r, -1000000 ≤ dynF g r ∧ dynF g r ≤ 1000000) (hf : FoOk f) (hwh : wholeB g f = true) (h8 : ∀ i, ∀ a ∈ altsOf f i, a.kids.length ≤ 1000 ∧ ∀ k ∈ a.kids, rng k) {k : Nat} (hw : WF f k) : big f k ≤ 1000000 → UnderC g f k := by
  have hdr : ∀ r, rng (dynF g r) := fun r => by have := hdy r; unfold rng; omega
  induction hw with
  | @mk i hi hk hs ih =>
    intro hb
    have hwf : WF f i := .mk hi hk hs
    refine under_of hgl hfl hdy hf hwf (fun p hp hpt => ?_) (fun j hj => ?_)
    · have hpa := pick_all hdr hwh (fun i a ha => (h8 i a ha).1) hwf p hp hpt
      have := big_tr hwf (by show _ < (1099511627776 : Int); omega) _ hpa.is.mem
      exact ⟨hpa, by omega⟩
    · have haj : (altsOf f i)[j]? = some (altsOf f i)[j] := List.getElem?_eq_getElem hj
      have ham := List.mem_of_getElem? haj
      obtain ⟨s, hof⟩ := whole_of hwh ham
      exact alt_of hf hi haj (of_filt hof).2.2.1 (h8 i _ ham).1 (h8 i _ ham).2 fun k hk => ih k ⟨_, ham, hk⟩ (big_kid hwf hb ⟨_, ham, hk⟩)
end Go.Proofs.Ytbnhmioijeagiaa.Ab
/- The reference's walk over a forest: which forests may be. No condition. -/
set_option linter.unusedVariables false
set_option linter.unusedSimpArgs false
namespace Go.Proofs.Ytbnhmioijeagiaa.Ab
attribute [local irreducible] thenA inBlockA ACode AOps put IntKind.wrap

abbrev wkR (f : Fo) (b bs : Nat) (bad : Bool) (st : List Int) (M : List Ob) : List Ob :=
  ⟨some b, 4, [.psl f.nodes.length (encs ndC f.nodes), .int .i64 f.root, .own (some bs) f.nodes.length f.nodes.length, .bool bad]⟩ :: ⟨some bs, f.nodes.length * 1, ints st⟩ :: M

theorem go1_bad {f : Fo} (b bs : Nat) (st : List Int) (i : Int) (M : List Ob) : ACalls Try.prog 76 [.ref b 0, .int .i64 i] (wkR f b bs true st M) (fun r M' => r = .tup [] ∧ M' = wkR f b bs true st M) := by
  refine acalls_of_code 88 Try.func76 rfl rfl rfl ?_
  repeat' (first | refine aops_end ?_ | refine aops_o rfl rfl rfl ?_ | refine aops_p tok rfl rfl rfl rfl ?_ | refine acode_it rfl ?_ | refine aops_ld tok 0 rfl rfl rfl rfl rfl rfl rfl rfl ?_ | refine acode_seq ?_ | refine acode_region ?_)
  refine acode_ret ?_
  repeat (refine ret_then ?_)
  exact ⟨_, ⟨rfl, rfl⟩, rfl⟩

set_option maxHeartbeats 4000000 in
theorem go1_calls {f : Fo} (hf : FoOk f) (hsm : ∀ i k, Kid f i k → k < f.nodes.length) (b bs : Nat) (M : List Ob) : ∀ (m : Nat) (st : List Int) (l : List Nat) (i : Nat), st.count 0 < m → Wk0 f st l → (∀ o : Nat, st[o]? = some 1 → Rch f o i) → i < f.nodes.length →
    ACalls Try.prog 76 [.ref b 0, .int .i64 i] (wkR f b bs false st M) (fun r M' => r = .tup [] ∧ ((WF f i ∧ ∃ st' l', M' = wkR f b bs false st' M ∧ Lp f st l st' l' ∧ i ∈ l') ∨ (¬ WF f i ∧ ∃ st', st'.length = f.nodes.length ∧ M' = wkR f b bs true st' M))) := by
  intro m
  induction m with
  | zero => intro st l i hm; omega
  | succ m ih =>
    intro st l i hm hw hopen hi
    obtain ⟨hf1, hf2⟩ := hf
    have hlt : i < st.length := by rw [hw.len]; exact hi
    obtain ⟨s, hs⟩ : ∃ s, st[i]? = some s := ⟨st[i], List.getElem?_eq_getElem hlt⟩
    have hsA : (ints st)[i * 1]? = some (A.int .i64 s) := by rw [Nat.mul_one]; exact ints_get hs
    refine acalls_of_code 88 Try.func76 rfl rfl rfl ?_
    repeat (first | refine aops_p tok rfl rfl rfl rfl ?_ | refine aops_ld tok 0 rfl rfl rfl rfl rfl rfl rfl rfl ?_ | refine acode_seq ?_ | refine acode_region ?_)
    refine aops_ixo tok rfl rfl rfl rfl (by omega) (by omega) rfl rfl rfl ?_
    refine aops_ld tok 1 (y := .int .i64 s) rfl rfl rfl rfl (by rw [headed_eq]; exact hsA) rfl rfl rfl ?_
    repeat' (first | refine aops_end ?_ | (refine aops_pd tok rfl rfl rfl rfl ?_ ?_ <;> intro e_) | refine aops_p tok rfl rfl rfl rfl ?_ | refine acode_it rfl ?_ | refine acode_if rfl ?_ | refine aops_ld tok 0 rfl rfl rfl rfl rfl rfl rfl rfl ?_ | refine acode_seq ?_ | refine acode_region ?_ | refine acode_skip ?_ | refine then_n ?_)
    · subst e_
      refine acode_ret ?_
      repeat (refine ret_then ?_)
      have hmem := (hw.don i).1 hs
      exact ⟨.tup [], ⟨rfl, .inl ⟨hw.topo.wf i hmem, st, l, rfl, ⟨hw, fun _ => Iff.rfl, fun _ h => h, Nat.le_refl _⟩, hmem⟩⟩, rfl⟩
    · have hne := e_
      refine aops_ixo tok rfl rfl rfl rfl (by omega) (by omega) rfl rfl rfl ?_
      refine aops_ld tok 1 (y := .int .i64 s) rfl rfl rfl rfl (by rw [headed_eq]; exact hsA) rfl rfl rfl ?_
      repeat' (first | refine aops_end ?_ | (refine aops_pd tok rfl rfl rfl rfl ?_ ?_ <;> intro e_) | refine aops_p tok rfl rfl rfl rfl ?_ | refine acode_it rfl ?_ | refine acode_if rfl ?_ | refine aops_ld tok 0 rfl rfl rfl rfl rfl rfl rfl rfl ?_ | refine aops_stn tok rfl rfl rfl rfl rfl rfl rfl rfl rfl ?_ | refine acode_seq ?_ | refine acode_region ?_ | refine acode_skip ?_ | refine then_n ?_)
      · subst e_
        refine acode_ret ?_
        repeat (refine ret_then ?_)
        exact ⟨.tup [], ⟨rfl, .inr ⟨fun hwf => hwf.noring (hopen i hs), st, hw.len, rfl⟩⟩, rfl⟩
      · have h0 : s = 0 := by rcases hw.val i s hs with h | h | h; exact h; exact absurd h e_; exact absurd h hne
        subst h0
        obtain ⟨hw1, hc1, hone1⟩ := wk_open hw hi hs
        obtain ⟨nd, hnd, hndm, hal⟩ := nodes_at hi
        obtain ⟨hal1, hal2⟩ := hf2 nd hndm
        refine aops_ixo tok rfl rfl rfl rfl (by omega) (by omega) rfl rfl rfl ?_
        refine aops_stk tok 1 (ints (st.set i 1)) (wkR f b bs false (st.set i 1) M) rfl rfl rfl rfl rfl rfl (by rw [ints_len]; show i * 1 + 1 ≤ _; omega) (ints_set1 hlt 1) rfl rfl rfl ?_
        have hL0 : Lp f (st.set i 1) l (st.set i 1) l := ⟨hw1, fun _ => Iff.rfl, fun _ h => h, Nat.le_refl _⟩
        generalize st.set i 1 = st1 at *
        repeat (first | refine aops_end ?_ | refine aops_p tok rfl rfl rfl rfl ?_ | refine aops_ld tok 0 rfl rfl rfl rfl rfl rfl rfl rfl ?_ | refine acode_seq ?_ | refine acode_region ?_)
        refine aops_ix tok (ndC nd) rfl rfl rfl rfl (by omega) (by omega) (by simp [ndC]) (nd_at hnd) rfl rfl rfl ?_
        repeat (first | refine aops_end ?_ | refine aops_p tok rfl rfl rfl rfl ?_ | refine acode_seq ?_ | refine acode_region ?_ | refine acode_block ?_)
        refine acode_loopS (ι := Nat × List Int × List Nat × Bool) (fun p => [(0, .ref b 0), (1, .int .i64 i), (4, .psl nd.alts.length (encs alC nd.alts)), (5, .int .i64 p.1)]) (fun p => wkR f b bs p.2.2.2 p.2.1 M) (fun p => nd.alts.length - p.1) (fun p => p.1 ≤ nd.alts.length ∧ (p.2.2.2 = false → Lp f st1 l p.2.1 p.2.2.1 ∧ Ahead f p.2.2.1 (nd.alts.take p.1)) ∧ (p.2.2.2 = true → ¬ WF f i ∧ p.2.1.length = f.nodes.length)) (0, st1, l, false) ⟨Nat.zero_le _, fun _ => ⟨hL0, by simp [Ahead]⟩, fun h => by cases h⟩ ⟨rfl, rfl, rfl, rfl, trivial⟩ rfl ?_
        rintro ⟨ai, st2, l2, bad2⟩ ⟨hai, hG2, hB2⟩
        simp only at hai hG2 hB2 ⊢
        repeat (first | refine aops_end ?_ | refine aops_p tok rfl rfl rfl rfl ?_ | refine acode_seq ?_ | refine acode_region ?_)
        refine acode_id rfl (fun e => ?_) (fun e => ?_)
        · have hail : ai < nd.alts.length := by omega
          obtain ⟨a, ha⟩ : ∃ a, nd.alts[ai]? = some a := ⟨nd.alts[ai], List.getElem?_eq_getElem hail⟩
          have ham := List.mem_of_getElem? ha
          have hkl := hal2 a ham
          repeat (first | refine aops_end ?_ | refine aops_p tok rfl rfl rfl rfl ?_ | refine acode_seq ?_ | refine acode_region ?_ | refine acode_block ?_ | refine acode_skip ?_ | refine then_n ?_)
          refine acode_loopS (ι := Nat × List Int × List Nat × Bool) (fun p => [(0, .ref b 0), (1, .int .i64 i), (4, .psl nd.alts.length (encs alC nd.alts)), (5, .int .i64 ai), (6, .int .i64 p.1)]) (fun p => wkR f b bs p.2.2.2 p.2.1 M) (fun p => a.kids.length - p.1) (fun p => p.1 ≤ a.kids.length ∧ (p.2.2.2 = false → Lp f st1 l p.2.1 p.2.2.1 ∧ Ahead f p.2.2.1 (nd.alts.take ai) ∧ ∀ k ∈ a.kids.take p.1, Dn f p.2.2.1 k) ∧ (p.2.2.2 = true → ¬ WF f i ∧ p.2.1.length = f.nodes.length)) (0, st2, l2, bad2) ⟨Nat.zero_le _, fun h => ⟨(hG2 h).1, (hG2 h).2, by simp⟩, hB2⟩ ⟨rfl, rfl, rfl, rfl, rfl, trivial⟩ rfl ?_
          clear hG2 hB2 st2 l2 bad2
          rintro ⟨ki, st2, l2, bad2⟩ ⟨hki, hG2, hB2⟩
          simp only at hki hG2 hB2 ⊢
          repeat (first | refine aops_p tok rfl rfl rfl rfl ?_ | refine acode_seq ?_ | refine acode_region ?_)
          refine aops_ix tok (alC a) rfl rfl rfl rfl (by omega) (by omega) (by simp [alC]) (al_at ha) rfl rfl rfl ?_
          repeat (first | refine aops_end ?_ | refine aops_p tok rfl rfl rfl rfl ?_)
          refine acode_id rfl (fun e2 => ?_) (fun e2 => ?_)
          · have hkil : ki < a.kids.length := by omega
            obtain ⟨k, hk⟩ : ∃ k, a.kids[ki]? = some k := ⟨a.kids[ki], List.getElem?_eq_getElem hkil⟩
            have hkid : Kid f i k := ⟨a, by rw [hal]; exact ham, List.mem_of_getElem? hk⟩
            have hkn := hsm i k hkid
            repeat (first | refine aops_p tok rfl rfl rfl rfl ?_ | refine acode_seq ?_ | refine acode_region ?_ | refine acode_block ?_ | refine acode_skip ?_ | refine then_n ?_)
            refine aops_ix tok (alC a) rfl rfl rfl rfl (by omega) (by omega) (by simp [alC]) (al_at ha) rfl rfl rfl ?_
            repeat (refine aops_p tok rfl rfl rfl rfl ?_)
            refine aops_ix tok [A.int .i64 k] rfl rfl rfl rfl (by omega) (by omega) (by simp) (ints_at (j := ki) (by simpa using hk)) rfl rfl rfl ?_
            repeat' (first | refine aops_end ?_ | refine aops_a tok rfl (by omega) (by omega) rfl rfl rfl ?_ | (refine aops_pd tok rfl rfl rfl rfl ?_ ?_ <;> intro e_) | refine aops_p tok rfl rfl rfl rfl ?_ | refine acode_it rfl ?_ | refine acode_if rfl ?_ | refine acode_region ?_ | refine acode_skip ?_ | refine then_n ?_ | refine block_n ?_)
            · refine aops_ix tok (alC a) rfl rfl rfl rfl (by omega) (by omega) (by simp [alC]) (al_at ha) rfl rfl rfl ?_
              repeat (refine aops_p tok rfl rfl rfl rfl ?_)
              refine aops_ix tok [A.int .i64 k] rfl rfl rfl rfl (by omega) (by omega) (by simp) (ints_at (j := ki) (by simpa using hk)) rfl rfl rfl ?_
              repeat (refine aops_p tok rfl rfl rfl rfl ?_)
              obtain ⟨k', rfl⟩ : ∃ k' : Nat, k = k' := ⟨k.toNat, by omega⟩
              cases bad2 with
              | true =>
                refine aops_call Try.func76 rfl rfl rfl rfl (go1_bad b bs st2 k' M) rfl rfl ?_
                rintro x M' ⟨rfl, rfl⟩
                repeat (first | refine aops_put rfl ?_ | refine aops_end ?_ | refine aops_endb ?_ | refine aops_a tok rfl (by omega) (by omega) rfl rfl rfl ?_ | refine aops_p tok rfl rfl rfl rfl ?_ | refine acode_region ?_ | refine then_n ?_)
                exact ⟨(ki + 1, st2, l2, true), ⟨by simp; omega, (fun h => by cases h), hB2⟩, by simp; omega, ⟨rfl, rfl, rfl, rfl, rfl, trivial⟩, rfl⟩
              | false =>
                obtain ⟨hL2, hA2, hK2⟩ := hG2 rfl
                refine aops_call Try.func76 rfl rfl rfl rfl (ih st2 l2 k' (by have := hL2.cnt; omega) hL2.w (fun o ho => ?_) (by omega)) rfl rfl ?_
                · rcases (hone1 o).1 ((hL2.one o).1 ho) with rfl | h
                  · exact .one hkid
                  · exact (hopen o h).snoc hkid
                · rintro x M' ⟨rfl, ⟨hwf, st3, l3, rfl, hL3, hm3⟩ | ⟨hwf, st3, hl3, rfl⟩⟩
                  · repeat (first | refine aops_put rfl ?_ | refine aops_end ?_ | refine aops_endb ?_ | refine aops_a tok rfl (by omega) (by omega) rfl rfl rfl ?_ | refine aops_p tok rfl rfl rfl rfl ?_ | refine acode_region ?_ | refine then_n ?_)
                    refine ⟨(ki + 1, st3, l3, false), ⟨by simp; omega, fun _ => ⟨hL2.trans hL3, hA2.mono hL3.sub, fun k hkm => ?_⟩, fun h => by cases h⟩, by simp; omega, ⟨rfl, rfl, rfl, rfl, rfl, trivial⟩, rfl⟩
                    rcases take_add_mem hk hkm with hkm | rfl
                    · exact (hK2 k hkm).mono hL3.sub
                    · exact ⟨hkn, fun k2 e => by rw [← Int.ofNat_inj.1 e]; exact hm3⟩
                  · repeat (first | refine aops_put rfl ?_ | refine aops_end ?_ | refine aops_endb ?_ | refine aops_a tok rfl (by omega) (by omega) rfl rfl rfl ?_ | refine aops_p tok rfl rfl rfl rfl ?_ | refine acode_region ?_ | refine then_n ?_)
                    exact ⟨(ki + 1, st3, l2, true), ⟨by simp; omega, (fun h => by cases h), fun _ => ⟨fun h => hwf (h.kid hkid), hl3⟩⟩, by simp; omega, ⟨rfl, rfl, rfl, rfl, rfl, trivial⟩, rfl⟩
            · refine ⟨(ki + 1, st2, l2, bad2), ⟨by simp; omega, fun h => ⟨(hG2 h).1, (hG2 h).2.1, fun k2 hkm => ?_⟩, hB2⟩, by simp; omega, ⟨rfl, rfl, rfl, rfl, rfl, trivial⟩, rfl⟩
              rcases take_add_mem hk hkm with hkm | rfl
              · exact (hG2 h).2.2 k2 hkm
              · exact ⟨hkn, fun k3 e => by omega⟩
          · have hge : ki = a.kids.length := by omega
            subst hge
            rw [List.take_length] at hG2
            refine acode_exit ?_
            repeat (first | refine exit_then ?_ | refine exit_here ?_ | refine then_n ?_ | refine block_n ?_)
            repeat (first | refine aops_end ?_ | refine aops_a tok rfl (by omega) (by omega) rfl rfl rfl ?_ | refine aops_p tok rfl rfl rfl rfl ?_ | refine acode_region ?_)
            exact ⟨(ai + 1, st2, l2, bad2), ⟨by simp; omega, fun h => ⟨(hG2 h).1, (hG2 h).2.1.add ha (hG2 h).2.2⟩, hB2⟩, by simp; omega, ⟨rfl, rfl, rfl, rfl, trivial⟩, rfl⟩
        · have hge : ai = nd.alts.length := by omega
          subst hge
          rw [List.take_length, ← hal] at hG2
          have hl2 : st2.length = f.nodes.length := by
            cases bad2 with
            | true => exact (hB2 rfl).2
            | false => exact (hG2 rfl).1.w.len
          have hlt2 : i < st2.length := by rw [hl2]; exact hi
          refine acode_exit ?_
          repeat (first | refine exit_then ?_ | refine exit_here ?_ | refine then_n ?_)
          repeat (first | refine aops_p tok rfl rfl rfl rfl ?_ | refine aops_ld tok 0 rfl rfl rfl rfl rfl rfl rfl rfl ?_ | refine acode_region ?_)
          refine aops_ixo tok rfl rfl rfl rfl (by omega) (by omega) rfl rfl rfl ?_
          refine aops_stk tok 1 (ints (st2.set i 2)) (wkR f b bs bad2 (st2.set i 2) M) rfl rfl rfl rfl rfl rfl (by rw [ints_len]; show i * 1 + 1 ≤ _; omega) (ints_set1 hlt2 2) rfl rfl rfl ?_
          refine aops_nil ?_
          cases bad2 with
          | true => exact ⟨.tup [], ⟨rfl, .inr ⟨(hB2 rfl).1, _, by simp [hl2], rfl⟩⟩, rfl⟩
          | false =>
            have hfin := wk_close hi hs hone1 hc1 (hG2 rfl).1 (hG2 rfl).2
            exact ⟨.tup [], ⟨rfl, .inl ⟨hfin.w.topo.wf i (by simp), _, _, rfl, hfin, by simp⟩⟩, rfl⟩

set_option maxHeartbeats 4000000 in
theorem rfform_calls {f : Fo} (hf : FoOk f) (M : List Ob) : ACalls Try.prog 43 [foA f] M (fun r M' => (FForm f ∧ r = .bool true ∨ ¬ FForm f ∧ r = .bool false) ∧ M' = M) := by
  obtain ⟨hf1, hf2⟩ := id hf
  refine acalls_of_code 83 Try.func43 rfl rfl rfl ?_
  repeat (first | refine acode_seq ?_ | refine acode_region ?_)
  refine aops_boxf rfl rfl rfl rfl rfl rfl rfl ?_
  repeat' (first | refine aops_end ?_ | refine aops_o rfl rfl rfl ?_ | (refine aops_pd tok rfl rfl rfl rfl ?_ ?_ <;> intro e_) | refine aops_p tok rfl rfl rfl rfl ?_ | refine acode_it rfl ?_ | refine acode_if rfl ?_ | refine acode_seq ?_ | refine acode_region ?_ | refine acode_block ?_ | refine acode_skip ?_ | refine then_n ?_)
  · refine acode_ret ?_
    repeat (refine ret_then ?_)
    exact ⟨_, ⟨.inr ⟨fun h => by have := h.1; omega, rfl⟩, rfl⟩, resOf_tmp rfl⟩
  · refine acode_ret ?_
    repeat (refine ret_then ?_)
    exact ⟨_, ⟨.inr ⟨fun h => by have := h.1; omega, rfl⟩, rfl⟩, resOf_tmp rfl⟩
  have h0 : 0 ≤ f.root ∧ f.root < f.nodes.length := by omega
  refine acode_loopS (ι := Nat) (fun p => [(1, .pp (foC f)), (3, .int .i64 p)]) (fun _ => M) (fun p => f.nodes.length - p) (fun p => p ≤ f.nodes.length ∧ ∀ i, i < p → ∀ k, Kid f i k → k < f.nodes.length) 0 ⟨Nat.zero_le _, fun i hi => by omega⟩ ⟨rfl, rfl, trivial⟩ rfl ?_
  rintro i ⟨hi, hsm⟩
  repeat (first | refine aops_end ?_ | refine aops_p tok rfl rfl rfl rfl ?_ | refine acode_seq ?_ | refine acode_region ?_)
  refine acode_id rfl (fun e => ?_) (fun e => ?_)
  · have hil : i < f.nodes.length := by omega
    obtain ⟨nd, hnd, hndm, hal⟩ := nodes_at hil
    obtain ⟨hal1, hal2⟩ := hf2 nd hndm
    repeat (first | refine aops_p tok rfl rfl rfl rfl ?_ | refine acode_seq ?_ | refine acode_region ?_ | refine acode_block ?_ | refine acode_skip ?_ | refine then_n ?_)
    refine aops_ix tok (ndC nd) rfl rfl rfl rfl (by omega) (by omega) (by simp [ndC]) (nd_at hnd) rfl rfl rfl ?_
    repeat (first | refine aops_end ?_ | refine aops_p tok rfl rfl rfl rfl ?_ | refine acode_seq ?_ | refine acode_region ?_ | refine acode_block ?_)
    refine acode_loopS (ι := Nat) (fun p => [(1, .pp (foC f)), (3, .int .i64 i), (4, .psl nd.alts.length (encs alC nd.alts)), (5, .int .i64 p)]) (fun _ => M) (fun p => nd.alts.length - p) (fun p => p ≤ nd.alts.length ∧ ∀ a ∈ nd.alts.take p, ∀ k ∈ a.kids, k < f.nodes.length) 0 ⟨Nat.zero_le _, by simp⟩ ⟨rfl, rfl, rfl, rfl, trivial⟩ rfl ?_
    rintro ai ⟨hai, hA⟩
    repeat (first | refine aops_end ?_ | refine aops_p tok rfl rfl rfl rfl ?_ | refine acode_seq ?_ | refine acode_region ?_)
    refine acode_id rfl (fun e2 => ?_) (fun e2 => ?_)
    · have hail : ai < nd.alts.length := by omega
      obtain ⟨a, ha⟩ : ∃ a, nd.alts[ai]? = some a := ⟨nd.alts[ai], List.getElem?_eq_getElem hail⟩
      have ham := List.mem_of_getElem? ha
      have hkl := hal2 a ham
      repeat (first | refine aops_end ?_ | refine aops_p tok rfl rfl rfl rfl ?_ | refine acode_seq ?_ | refine acode_region ?_ | refine acode_block ?_ | refine acode_skip ?_ | refine then_n ?_)
      refine acode_loopS (ι := Nat) (fun p => [(1, .pp (foC f)), (3, .int .i64 i), (4, .psl nd.alts.length (encs alC nd.alts)), (5, .int .i64 ai), (6, .int .i64 p)]) (fun _ => M) (fun p => a.kids.length - p) (fun p => p ≤ a.kids.length ∧ ∀ k ∈ a.kids.take p, k < f.nodes.length) 0 ⟨Nat.zero_le _, by simp⟩ ⟨rfl, rfl, rfl, rfl, rfl, trivial⟩ rfl ?_
      rintro ki ⟨hki, hK⟩
      repeat (first | refine aops_p tok rfl rfl rfl rfl ?_ | refine acode_seq ?_ | refine acode_region ?_)
      refine aops_ix tok (alC a) rfl rfl rfl rfl (by omega) (by omega) (by simp [alC]) (al_at ha) rfl rfl rfl ?_
      repeat (first | refine aops_end ?_ | refine aops_p tok rfl rfl rfl rfl ?_)
      refine acode_id rfl (fun e3 => ?_) (fun e3 => ?_)
      · have hkil : ki < a.kids.length := by omega
        obtain ⟨k, hk⟩ : ∃ k, a.kids[ki]? = some k := ⟨a.kids[ki], List.getElem?_eq_getElem hkil⟩
        have hkid : Kid f i k := ⟨a, by rw [hal]; exact ham, List.mem_of_getElem? hk⟩
        repeat (first | refine acode_seq ?_ | refine acode_block ?_ | refine acode_skip ?_ | refine then_n ?_)
        refine acode_drawT 12 mixed (by kernel_rfl) (by kernel_rfl) ?_
        repeat (refine seqT_p tok rfl rfl rfl rfl ?_)
        refine seqT_ix tok (alC a) rfl rfl rfl rfl (by omega) (by omega) (by simp [alC]) (al_at ha) rfl rfl rfl ?_
        repeat (refine seqT_p tok rfl rfl rfl rfl ?_)
        refine seqT_ix tok [A.int .i64 k] rfl rfl rfl rfl (by omega) (by omega) (by simp) (ints_at (j := ki) (by simpa using hk)) rfl rfl rfl ?_
        repeat (refine seqT_p tok rfl rfl rfl rfl ?_)
        refine SeqT.done ?_
        repeat (refine aops_end ?_)
        refine acode_id rfl (fun e4 => ?_) (fun e4 => ?_)
        · repeat (first | refine aops_end ?_ | refine aops_p tok rfl rfl rfl rfl ?_ | refine acode_seq ?_ | refine acode_region ?_)
          refine acode_ret ?_
          repeat (first | refine ret_then ?_ | refine ret_block ?_)
          exact ⟨_, ⟨.inr ⟨fun h => by have := (h.2 i hil).small hkid; omega, rfl⟩, rfl⟩, resOf_tmp rfl⟩
        · repeat (first | refine aops_end ?_ | refine aops_a tok rfl (by omega) (by omega) rfl rfl rfl ?_ | refine aops_p tok rfl rfl rfl rfl ?_ | refine acode_region ?_ | refine acode_skip ?_ | refine then_n ?_ | refine block_n ?_)
          refine ⟨ki + 1, ⟨by omega, fun k2 hkm => ?_⟩, by omega, ⟨rfl, rfl, rfl, rfl, rfl, trivial⟩, rfl⟩
          rcases take_add_mem hk hkm with hkm | rfl
          · exact hK k2 hkm
          · omega
      · have hge : ki = a.kids.length := by omega
        subst hge
        rw [List.take_length] at hK
        refine acode_exit ?_
        repeat (first | refine exit_then ?_ | refine exit_here ?_ | refine then_n ?_ | refine block_n ?_)
        repeat (first | refine aops_end ?_ | refine aops_a tok rfl (by omega) (by omega) rfl rfl rfl ?_ | refine aops_p tok rfl rfl rfl rfl ?_ | refine acode_region ?_)
        refine ⟨ai + 1, ⟨by omega, fun a2 ham2 => ?_⟩, by omega, ⟨rfl, rfl, rfl, rfl, trivial⟩, rfl⟩
        rcases take_add_mem ha ham2 with ham2 | rfl
        · exact hA a2 ham2
        · exact hK
    · have hge : ai = nd.alts.length := by omega
      subst hge
      rw [List.take_length, ← hal] at hA
      refine acode_exit ?_
      repeat (first | refine exit_then ?_ | refine exit_here ?_ | refine then_n ?_ | refine block_n ?_)
      repeat (first | refine aops_end ?_ | refine aops_a tok rfl (by omega) (by omega) rfl rfl rfl ?_ | refine aops_p tok rfl rfl rfl rfl ?_ | refine acode_region ?_)
      refine ⟨i + 1, ⟨by omega, fun j hj k hkid => ?_⟩, by omega, ⟨rfl, rfl, trivial⟩, rfl⟩
      by_cases h : j = i
      · subst h
        obtain ⟨a, ha, hk⟩ := hkid
        exact hA a ha k hk
      · exact hsm j (by omega) k hkid
  · have hge : i = f.nodes.length := by omega
    subst hge
    have hsm' : ∀ i k, Kid f i k → k < f.nodes.length := by
      intro i k hk
      by_cases h : i < f.nodes.length
      · exact hsm i h k hk
      · obtain ⟨a, ha, _⟩ := hk
        rw [altsOf, List.getElem?_eq_none (by omega)] at ha
        simp at ha
    refine acode_exit ?_
    repeat (first | refine exit_then ?_ | refine exit_here ?_ | refine then_n ?_)
    repeat (refine acode_seq ?_)
    refine acode_drawP [] 7 [0, 1, 2, 3, 4, 5, 6] [4, 6] mixed (by kernel_rfl) (by kernel_rfl) rfl ?_
    repeat (refine seqO_p tok rfl rfl rfl rfl rfl ?_)
    refine seqO_mk tok f.nodes.length rfl rfl rfl rfl rfl rfl rfl (by show _ * 8 ≤ _; omega) (by omega) (by simp) rfl rfl rfl fun bs => ?_
    repeat (refine seqO_p tok rfl rfl rfl rfl rfl ?_)
    refine seqO_boxo rfl rfl rfl rfl (by simp) rfl rfl rfl rfl fun b => ?_
    refine SeqO.done ?_
    repeat (refine aops_p tok rfl rfl rfl rfl ?_)
    refine aops_end ?_
    refine acode_M (M' := wkR f b bs false (List.replicate f.nodes.length 0) M) (by simp only [wkR]; rw [← ints_zeros]; rfl) ?_
    have hw0 := wk0_init f
    have hno : ∀ o : Nat, (List.replicate f.nodes.length (0 : Int))[o]? ≠ some 1 := fun o h => by have := count_zeros _ _ _ h; omega
    generalize List.replicate f.nodes.length (0 : Int) = st at *
    repeat (first | refine aops_end ?_ | refine aops_p tok rfl rfl rfl rfl ?_ | refine acode_seq ?_ | refine acode_region ?_ | refine acode_block ?_)
    refine acode_loopS (ι := Nat × List Int × List Nat × Bool) (fun p => [(1, .pp (foC f)), (7, .ref b 0), (8, .int .i64 p.1)]) (fun p => wkR f b bs p.2.2.2 p.2.1 M) (fun p => f.nodes.length - p.1) (fun p => p.1 ≤ f.nodes.length ∧ (p.2.2.2 = false → Wk0 f p.2.1 p.2.2.1 ∧ (∀ o : Nat, p.2.1[o]? ≠ some 1) ∧ ∀ j, j < p.1 → j ∈ p.2.2.1) ∧ (p.2.2.2 = true → ¬ FForm f)) (0, st, [], false) ⟨Nat.zero_le _, fun _ => ⟨hw0, hno, fun j hj => by simp at hj⟩, fun h => by cases h⟩ ⟨rfl, rfl, rfl, trivial⟩ rfl ?_
    rintro ⟨i, st1, l, bad⟩ ⟨hi, hG, hB⟩
    simp only at hi hG hB ⊢
    repeat (first | refine aops_end ?_ | refine aops_p tok rfl rfl rfl rfl ?_ | refine acode_seq ?_ | refine acode_region ?_)
    refine acode_id rfl (fun e => ?_) (fun e => ?_)
    · have hil : i < f.nodes.length := by omega
      repeat (first | refine aops_p tok rfl rfl rfl rfl ?_ | refine acode_seq ?_ | refine acode_region ?_ | refine acode_block ?_ | refine acode_skip ?_ | refine then_n ?_)
      cases bad with
      | true =>
        refine aops_call Try.func76 rfl rfl rfl rfl (go1_bad b bs st1 i M) rfl rfl ?_
        rintro x M' ⟨rfl, rfl⟩
        repeat (first | refine aops_put rfl ?_ | refine aops_end ?_ | refine aops_endb ?_ | refine aops_a tok rfl (by omega) (by omega) rfl rfl rfl ?_ | refine aops_p tok rfl rfl rfl rfl ?_ | refine acode_region ?_ | refine then_n ?_)
        exact ⟨(i + 1, st1, l, true), ⟨by simp; omega, (fun h => by cases h), hB⟩, by simp; omega, ⟨rfl, rfl, rfl, trivial⟩, rfl⟩
      | false =>
        obtain ⟨hw, hone, hdone⟩ := hG rfl
        refine aops_call Try.func76 rfl rfl rfl rfl (go1_calls hf hsm' b bs M (st1.count 0 + 1) st1 l i (by omega) hw (fun o h => absurd h (hone o)) hil) rfl rfl ?_
        rintro x M' ⟨rfl, ⟨hwf, st3, l3, rfl, hL, hm⟩ | ⟨hwf, st3, hl3, rfl⟩⟩
        · repeat (first | refine aops_put rfl ?_ | refine aops_end ?_ | refine aops_endb ?_ | refine aops_a tok rfl (by omega) (by omega) rfl rfl rfl ?_ | refine aops_p tok rfl rfl rfl rfl ?_ | refine acode_region ?_ | refine then_n ?_)
          refine ⟨(i + 1, st3, l3, false), ⟨by simp; omega, fun _ => ⟨hL.w, fun o h => hone o ((hL.one o).1 h), fun j hj => ?_⟩, fun h => by cases h⟩, by simp; omega, ⟨rfl, rfl, rfl, trivial⟩, rfl⟩
          by_cases h : j = i
          · subst h; exact hm
          · exact hL.sub j (hdone j (by simp at hj; omega))
        · repeat (first | refine aops_put rfl ?_ | refine aops_end ?_ | refine aops_endb ?_ | refine aops_a tok rfl (by omega) (by omega) rfl rfl rfl ?_ | refine aops_p tok rfl rfl rfl rfl ?_ | refine acode_region ?_ | refine then_n ?_)
          exact ⟨(i + 1, st3, l, true), ⟨by simp; omega, (fun h => by cases h), fun _ h => hwf (h.2 i hil)⟩, by simp; omega, ⟨rfl, rfl, rfl, trivial⟩, rfl⟩
    · have hge : i = f.nodes.length := by omega
      subst hge
      refine acode_exit ?_
      repeat (first | refine exit_then ?_ | refine exit_here ?_ | refine then_n ?_)
      repeat (first | refine aops_end ?_ | refine aops_p tok rfl rfl rfl rfl ?_ | refine aops_ld tok 0 rfl rfl rfl rfl rfl rfl rfl rfl ?_ | refine acode_seq ?_ | refine acode_region ?_)
      refine acode_drop0 (acode_drop0 (acode_ret ?_))
      skip
      cases bad with
      | true => exact ⟨_, ⟨.inr ⟨hB rfl, rfl⟩, rfl⟩, resOf_tmp rfl⟩
      | false => exact ⟨_, ⟨.inl ⟨⟨h0, fun i hi => (hG rfl).1.topo.wf i ((hG rfl).2.2 i hi)⟩, rfl⟩, rfl⟩, resOf_tmp rfl⟩
end Go.Proofs.Ytbnhmioijeagiaa.Ab
/- Chapter 24's reference: what fits: the walk. No condition. -/
set_option linter.unusedVariables false
set_option linter.unusedSimpArgs false
namespace Go.Proofs.Ytbnhmioijeagiaa.Ab
attribute [local irreducible] thenA inBlockA ACode AOps put IntKind.wrap

theorem rulesF_some {g : Gr} : ∀ (rs : List Ru) (i : Nat) (p : Int × Int), rulesF g i rs = some p → p.2 ≠ 0
  | [], _, _, h => by cases h
  | r :: rs, i, p, h => by
    rw [rulesF] at h
    split at h
    · rename_i h1; cases h; exact h1
    · exact rulesF_some rs _ p h
theorem rulesF_none {g : Gr} : ∀ (rs : List Ru) (i : Nat), rulesF g i rs = none → ∀ r ∈ rs, ruleF g r = 0
  | [], _, _ => by simp
  | r :: rs, i, h => by
    rw [rulesF] at h
    split at h
    · cases h
    · rename_i h1
      intro r' hr'
      rcases List.mem_cons.1 hr' with rfl | h2
      · exact Decidable.not_not.1 h1
      · exact rulesF_none rs _ h r' h2
theorem form_ok2 {g : Gr} (h : (formF g).2 = 0) : ¬ bigB g ∧ ∀ r ∈ g.rules, isName g r.left ∧ r.right.length ≤ 8 ∧ (∀ s ∈ r.right, isSym g s) ∧ -1000 ≤ r.dyn ∧ r.dyn ≤ 1000 := by
  unfold formF at h
  split at h
  · rename_i h1; exact absurd h h1
  · rename_i h1
    have hw : wholeF g = 0 := Decidable.not_not.1 h1
    unfold wholeF at hw
    split at hw
    · cases hw
    · rename_i h2
      split at hw
      · cases hw
      · rename_i h3
        refine ⟨h2, ?_⟩
        split at h
        · rename_i p hp; exact absurd h (rulesF_some _ _ p hp)
        · rename_i hp
          intro r hr
          have h4 := rulesF_none _ _ hp r hr
          unfold ruleF at h4
          split at h4
          · cases h4
          · rename_i h5
            split at h4
            · cases h4
            · rename_i h6
              split at h4
              · cases h4
              · rename_i h7
                refine ⟨Decidable.not_not.1 (fun h7 => h5 (.inl h7)), by omega, fun s hs => ?_, by omega, by omega⟩
                apply Decidable.not_not.1
                intro h8
                exact h5 (.inr (List.any_eq_true.2 ⟨s, hs, by simp [h8]⟩))
theorem dyn_ok {g : Gr} (h : (formF g).2 = 0) (r : Int) : -1000000 ≤ dynF g r ∧ dynF g r ≤ 1000000 := by
  unfold dynF
  split
  · rename_i h1
    have hm : ruleAt g r ∈ g.rules := List.mem_of_getElem? (ruleAt_at h1.1 h1.2)
    have := (form_ok2 h).2 _ hm
    omega
  · omega
set_option maxHeartbeats 16000000 in
theorem rfits_calls {g : Gr} {f : Fo} {sym : Int} {a : Al} (hg : GrOk g) (hsy : ∀ r ∈ g.rules, ∀ s ∈ r.right, isSym g s) (hal : a.kids.length ≤ 9223372036854775807) (hk : ∀ k ∈ a.kids, k < f.nodes.length) (M : List Ob) : ACalls Try.prog 74 [grA g, foA f, .int .i64 sym, .agg (alC a)] M (fun x M' => x = .bool (ofB g f sym a) ∧ M' = M) := by
  refine acalls_of_code 100 Try.func74 rfl rfl rfl ?_
  repeat (first | refine acode_seq ?_ | refine acode_region ?_)
  refine aops_boxf rfl rfl rfl rfl rfl rfl rfl ?_
  refine aops_boxf rfl rfl rfl rfl rfl rfl rfl ?_
  skip
  refine aops_boxf rfl rfl rfl rfl rfl rfl rfl ?_
  repeat (first | refine aops_end ?_ | refine aops_p tok rfl rfl rfl rfl ?_ | refine acode_seq ?_)
  by_cases h : 0 ≤ a.rule ∧ a.rule < g.rules.length
  rotate_left
  · have hF : ofB g f sym a = false := by unfold ofB; rw [decide_eq_false (fun h2 => h h2.1)]; rfl
    refine acode_drawT 36 mixed (by kernel_rfl) (by kernel_rfl) ?_
    repeat' (first | refine seqT_o rfl rfl rfl ?_ | (refine seqT_pd tok rfl rfl rfl rfl ?_ ?_ <;> intro e_) | refine seqT_p tok rfl rfl rfl rfl ?_)
    all_goals try (exfalso; omega)
    all_goals
      (refine SeqT.done ?_
       repeat' (first | refine aops_end ?_ | refine aops_p tok rfl rfl rfl rfl ?_ | refine acode_it rfl ?_ | refine acode_seq ?_ | refine acode_region ?_)
       refine acode_ret ?_
       repeat (refine ret_then ?_)
       exact ⟨.bool false, ⟨by rw [hF], rfl⟩, resOf_tmp rfl⟩)
  obtain ⟨h0, h1⟩ := h
  have hr : g.rules[a.rule.toNat]? = some (ruleAt g a.rule) := ruleAt_at h0 h1
  have hrm := List.mem_of_getElem? hr
  have hrr := (hg.rr _ hrm).1
  have hra := encs_at (e := ruC) (s := 3) (fun _ => rfl) hr
  have hsr := hsy _ hrm
  have hF : ofB g f sym a = (decide ((ruleAt g a.rule).left = sym ∧ a.kids.length = (ruleAt g a.rule).right.length) && (List.range a.kids.length).all fun i => fitB g f (a.kids.getD i 0) ((ruleAt g a.rule).right.getD i 0)) := by
    unfold ofB
    congr 1
    simp [h0, h1]
  generalize ruleAt g a.rule = u at *
  refine acode_joinI (ι := Unit) (fun _ => [(4, .pp (grC g)), (5, .pp (foC f)), (7, .pp (alC a)), (8, .bool false), (46, .bool (!decide (u.left = sym ∧ a.kids.length = u.right.length)))]) (fun _ => M) (fun _ => True) ?_ ?_
  · refine acode_drawT 36 mixed (by kernel_rfl) (by kernel_rfl) ?_
    repeat' (first | refine seqT_o rfl rfl rfl ?_ | (refine seqT_pd tok rfl rfl rfl rfl ?_ ?_ <;> intro e_) | refine seqT_p tok rfl rfl rfl rfl ?_)
    all_goals try (exfalso; omega)
    refine seqT_ix tok (ruC u) rfl rfl rfl rfl (by omega) (by omega) (by simp [ruC]) hra rfl rfl rfl ?_
    by_cases hl : u.left = sym
    rotate_left
    · rw [decide_eq_false (fun h => hl h.1)]
      repeat' (first | refine seqT_o rfl rfl rfl ?_ | (refine seqT_pn tok rfl rfl rfl rfl ?_ ?_ <;> intro e_) | refine seqT_p tok rfl rfl rfl rfl ?_)
      all_goals try (exfalso; omega)
      refine SeqT.done ?_
      repeat (refine aops_end ?_)
      exact ⟨(), trivial, ⟨rfl, rfl, rfl, rfl, rfl, trivial⟩, rfl⟩
    repeat' (first | refine seqT_o rfl rfl rfl ?_ | (refine seqT_pn tok rfl rfl rfl rfl ?_ ?_ <;> intro e_) | refine seqT_p tok rfl rfl rfl rfl ?_)
    all_goals try (exfalso; omega)
    refine seqT_ix tok (ruC u) rfl rfl rfl rfl (by omega) (by omega) (by simp [ruC]) hra rfl rfl rfl ?_
    by_cases hn : a.kids.length = u.right.length
    · rw [decide_eq_true ⟨hl, hn⟩]
      repeat' (first | (refine seqT_pn tok rfl rfl rfl rfl ?_ ?_ <;> intro e_) | refine seqT_p tok rfl rfl rfl rfl ?_)
      all_goals try (exfalso; omega)
      refine SeqT.done ?_
      repeat (refine aops_end ?_)
      exact ⟨(), trivial, ⟨rfl, rfl, rfl, rfl, rfl, trivial⟩, rfl⟩
    · rw [decide_eq_false (fun h => hn h.2)]
      repeat' (first | (refine seqT_pn tok rfl rfl rfl rfl ?_ ?_ <;> intro e_) | refine seqT_p tok rfl rfl rfl rfl ?_)
      all_goals try (exfalso; omega)
      refine SeqT.done ?_
      repeat (refine aops_end ?_)
      exact ⟨(), trivial, ⟨rfl, rfl, rfl, rfl, rfl, trivial⟩, rfl⟩
  rintro - -
  by_cases hb : u.left = sym ∧ a.kids.length = u.right.length
  rotate_left
  · rw [decide_eq_false hb] at hF
    rw [decide_eq_false hb]
    repeat' (first | refine aops_end ?_ | refine aops_p tok rfl rfl rfl rfl ?_ | refine acode_it rfl ?_ | refine acode_seq ?_ | refine acode_region ?_)
    refine acode_ret ?_
    repeat (refine ret_then ?_)
    exact ⟨.bool false, ⟨by rw [hF]; rfl, rfl⟩, resOf_tmp rfl⟩
  rw [decide_eq_true hb, Bool.true_and] at hF
  rw [decide_eq_true hb]
  obtain ⟨hl, hn⟩ := hb
  generalize hX : (fun i => fitB g f (a.kids.getD i 0) (u.right.getD i 0)) = X at hF
  repeat' (first | refine aops_end ?_ | refine aops_p tok rfl rfl rfl rfl ?_ | refine acode_if rfl ?_ | refine acode_seq ?_ | refine acode_region ?_ | refine acode_block ?_ | refine acode_skip ?_ | refine then_n ?_)
  refine acode_loopS (ι := Nat) (fun q => [(4, .pp (grC g)), (5, .pp (foC f)), (7, .pp (alC a)), (8, .bool false), (9, .int .i64 q)]) (fun _ => M) (fun q => a.kids.length - q) (fun q => q ≤ a.kids.length ∧ (List.range q).all X = true) 0 ⟨Nat.zero_le _, rfl⟩ ⟨rfl, rfl, rfl, rfl, rfl, trivial⟩ rfl ?_
  rintro q ⟨hq, hall⟩
  repeat (first | refine aops_end ?_ | refine aops_p tok rfl rfl rfl rfl ?_ | refine acode_seq ?_ | refine acode_region ?_)
  refine acode_id rfl (fun e => ?_) (fun e => ?_)
  · have hql : q < a.kids.length := by omega
    obtain ⟨k, hkk⟩ : ∃ k, a.kids[q]? = some k := ⟨a.kids[q], List.getElem?_eq_getElem hql⟩
    obtain ⟨s, hs⟩ : ∃ s, u.right[q]? = some s := ⟨u.right[q]'(by omega), List.getElem?_eq_getElem (by omega)⟩
    have hXq : X q = fitB g f k s := by rw [← hX]; simp only; rw [List.getD_eq_getElem?_getD, hkk, List.getD_eq_getElem?_getD, hs]; rfl
    have hsn : isName g s ↔ 0 ≤ s := by
      have := hsr s (List.mem_of_getElem? hs)
      unfold isSym isKind isName at *
      omega
    have hkl := hk k (List.mem_of_getElem? hkk)
    repeat (first | refine aops_p tok rfl rfl rfl rfl ?_ | refine acode_seq ?_ | refine acode_region ?_ | refine acode_block ?_ | refine acode_skip ?_ | refine then_n ?_)
    refine aops_ix tok (ruC u) rfl rfl rfl rfl (by omega) (by omega) (by simp [ruC]) hra rfl rfl rfl ?_
    repeat (refine aops_p tok rfl rfl rfl rfl ?_)
    refine aops_ix tok [A.int .i64 s] rfl rfl rfl rfl (by omega) (by omega) (by simp) (ints_at (j := q) (by simpa using hs)) rfl rfl rfl ?_
    repeat (first | refine aops_end ?_ | refine aops_p tok rfl rfl rfl rfl ?_ | refine acode_seq ?_)
    refine acode_joinI (ι := Unit) (fun _ => [(4, .pp (grC g)), (5, .pp (foC f)), (7, .pp (alC a)), (8, .bool false), (9, .int .i64 q), (99, .bool (!X q))]) (fun _ => M) (fun _ => True) ?_ ?_
    · unfold fitB at hXq
      refine acode_drawT 36 mixed (by kernel_rfl) (by kernel_rfl) ?_
      by_cases hs0 : s < 0
      · rw [if_neg (fun h => by have := hsn.1 h; omega)] at hXq
        repeat' (first | refine seqT_o rfl rfl rfl ?_ | (refine seqT_pd tok rfl rfl rfl rfl ?_ ?_ <;> intro e_) | refine seqT_p tok rfl rfl rfl rfl ?_)
        all_goals try (exfalso; omega)
        refine seqT_ix tok [A.int .i64 k] rfl rfl rfl rfl (by omega) (by omega) (by simp) (ints_at (j := q) (by simpa using hkk)) rfl rfl rfl ?_
        by_cases hk0 : k < 0
        · rw [hXq, decide_eq_true hk0]
          repeat' (first | refine seqT_o rfl rfl rfl ?_ | (refine seqT_pd tok rfl rfl rfl rfl ?_ ?_ <;> intro e_) | refine seqT_p tok rfl rfl rfl rfl ?_)
          all_goals try (exfalso; omega)
          refine SeqT.done ?_
          repeat (refine aops_end ?_)
          exact ⟨(), trivial, ⟨rfl, rfl, rfl, rfl, rfl, rfl, trivial⟩, rfl⟩
        · rw [hXq, decide_eq_false hk0]
          repeat' (first | refine seqT_o rfl rfl rfl ?_ | (refine seqT_pd tok rfl rfl rfl rfl ?_ ?_ <;> intro e_) | refine seqT_p tok rfl rfl rfl rfl ?_)
          all_goals try (exfalso; omega)
          refine SeqT.done ?_
          repeat (refine aops_end ?_)
          exact ⟨(), trivial, ⟨rfl, rfl, rfl, rfl, rfl, rfl, trivial⟩, rfl⟩
      · rw [if_pos (hsn.2 (by omega))] at hXq
        repeat' (first | refine seqT_o rfl rfl rfl ?_ | (refine seqT_pd tok rfl rfl rfl rfl ?_ ?_ <;> intro e_) | refine seqT_p tok rfl rfl rfl rfl ?_)
        all_goals try (exfalso; omega)
        refine seqT_ix tok [A.int .i64 k] rfl rfl rfl rfl (by omega) (by omega) (by simp) (ints_at (j := q) (by simpa using hkk)) rfl rfl rfl ?_
        by_cases hk0 : k < 0
        · rw [hXq, decide_eq_false (fun h => by omega)]
          repeat' (first | refine seqT_o rfl rfl rfl ?_ | (refine seqT_pd tok rfl rfl rfl rfl ?_ ?_ <;> intro e_) | refine seqT_p tok rfl rfl rfl rfl ?_)
          all_goals try (exfalso; omega)
          refine SeqT.done ?_
          repeat (refine aops_end ?_)
          exact ⟨(), trivial, ⟨rfl, rfl, rfl, rfl, rfl, rfl, trivial⟩, rfl⟩
        · have hnk := nodeD_at hkl (by omega)
          generalize f.nodes.getD k.toNat ⟨0, 0, 0, []⟩ = nk at *
          repeat' (first | refine seqT_o rfl rfl rfl ?_ | (refine seqT_pd tok rfl rfl rfl rfl ?_ ?_ <;> intro e_) | refine seqT_p tok rfl rfl rfl rfl ?_)
          all_goals try (exfalso; omega)
          refine seqT_ix tok [A.int .i64 k] rfl rfl rfl rfl (by omega) (by omega) (by simp) (ints_at (j := q) (by simpa using hkk)) rfl rfl rfl ?_
          repeat' (refine seqT_p tok rfl rfl rfl rfl ?_)
          all_goals try (exfalso; omega)
          refine seqT_ix tok (ndC nk) rfl rfl rfl rfl (by omega) (by omega) (by simp [ndC]) (nd_at hnk) rfl rfl rfl ?_
          by_cases hns : nk.sym = s
          · rw [hXq, decide_eq_true ⟨by omega, hns⟩]
            repeat' (first | (refine seqT_pn tok rfl rfl rfl rfl ?_ ?_ <;> intro e_) | refine seqT_p tok rfl rfl rfl rfl ?_)
            all_goals try (exfalso; omega)
            refine SeqT.done ?_
            repeat (refine aops_end ?_)
            exact ⟨(), trivial, ⟨rfl, rfl, rfl, rfl, rfl, rfl, trivial⟩, rfl⟩
          · rw [hXq, decide_eq_false (fun h => hns h.2)]
            repeat' (first | (refine seqT_pn tok rfl rfl rfl rfl ?_ ?_ <;> intro e_) | refine seqT_p tok rfl rfl rfl rfl ?_)
            all_goals try (exfalso; omega)
            refine SeqT.done ?_
            repeat (refine aops_end ?_)
            exact ⟨(), trivial, ⟨rfl, rfl, rfl, rfl, rfl, rfl, trivial⟩, rfl⟩
    rintro - -
    cases hx : X q with
    | true =>
      repeat' (first | refine aops_end ?_ | refine aops_a tok rfl (by omega) (by omega) rfl rfl rfl ?_ | refine aops_p tok rfl rfl rfl rfl ?_ | refine acode_if rfl ?_ | refine acode_region ?_ | refine acode_skip ?_ | refine then_n ?_ | refine block_n ?_)
      exact ⟨q + 1, ⟨by omega, by rw [List.range_succ, List.all_append, hall]; simp [hx]⟩, by omega, ⟨rfl, rfl, rfl, rfl, rfl, trivial⟩, rfl⟩
    | false =>
      repeat' (first | refine aops_end ?_ | refine aops_p tok rfl rfl rfl rfl ?_ | refine acode_it rfl ?_ | refine acode_seq ?_ | refine acode_region ?_)
      refine acode_ret ?_
      repeat (first | refine ret_then ?_ | refine ret_block ?_)
      have : (List.range a.kids.length).all X = false := by
        rw [List.all_eq_false]
        exact ⟨q, List.mem_range.2 hql, by simp [hx]⟩
      exact ⟨.bool false, ⟨by rw [hF, this], rfl⟩, resOf_tmp rfl⟩
  · obtain rfl : q = a.kids.length := by omega
    refine acode_exit ?_
    repeat (first | refine exit_then ?_ | refine exit_here ?_ | refine then_n ?_)
    repeat (first | refine aops_end ?_ | refine aops_p tok rfl rfl rfl rfl ?_ | refine acode_seq ?_ | refine acode_region ?_)
    refine acode_ret ?_
    skip
    exact ⟨.bool true, ⟨by rw [hF, hall], rfl⟩, resOf_tmp rfl⟩
end Go.Proofs.Ytbnhmioijeagiaa.Ab
/- Chapter 24's reference: Fits: the walk. No condition. -/
set_option linter.unusedVariables false
set_option linter.unusedSimpArgs false
namespace Go.Proofs.Ytbnhmioijeagiaa.Ab
attribute [local irreducible] thenA inBlockA ACode AOps put IntKind.wrap

def FitsP (g : Gr) (f : Fo) : Prop := (formF g).2 = 0 ∧ FForm f ∧ wholeB g f = true
def nodeB (g : Gr) (f : Fo) (n : Nd) : Bool := n.alts.all fun a => ofB g f n.sym a
theorem whole_all {g : Gr} {f : Fo} : wholeB g f = f.nodes.all (nodeB g f) := by
  unfold wholeB nodeB
  rw [List.not_any_eq_all_not]
  congr 1
  funext n
  rw [List.not_any_eq_all_not]
  congr 1
  funext a
  simp
theorem all_take {α : Type} {p : α → Bool} {l : List α} {i : Nat} {x : α} (hx : l[i]? = some x) (h : (l.take i).all p = true) : (l.take (i + 1)).all p = p x := by
  rw [List.take_add_one, hx, List.all_append, h]
  simp
set_option maxHeartbeats 16000000 in
theorem rfitsF_calls {g : Gr} {f : Fo} (hg : GrOk g) (hf : FoOk f) (M : List Ob) : ACalls Try.prog 41 [grA g, foA f] M (fun x M' => (FitsP g f ∧ x = .bool true ∨ ¬ FitsP g f ∧ x = .bool false) ∧ M' = M) := by
  obtain ⟨hf1, hf2⟩ := id hf
  refine acalls_of_code 55 Try.func41 rfl rfl rfl ?_
  repeat (first | refine acode_seq ?_ | refine acode_region ?_)
  refine aops_boxf rfl rfl rfl rfl rfl rfl rfl ?_
  refine aops_boxf rfl rfl rfl rfl rfl rfl rfl ?_
  repeat (first | refine aops_end ?_ | refine aops_p tok rfl rfl rfl rfl ?_ | refine acode_seq ?_ | refine acode_region ?_)
  refine aops_callx Try.func29 rfl rfl rfl rfl (rform_calls hg _) rfl rfl rfl ?_
  unfold tup2
  by_cases h0 : (formF g).2 = 0
  rotate_left
  · have hno : ¬ FitsP g f := fun h => h0 h.1
    repeat' (first | refine aops_end ?_ | refine aops_o rfl rfl rfl ?_ | (refine aops_pn tok rfl rfl rfl rfl ?_ ?_ <;> intro e_) | refine aops_p tok rfl rfl rfl rfl ?_ | refine acode_it rfl ?_ | refine acode_seq ?_ | refine acode_region ?_)
    all_goals try (exfalso; omega)
    refine acode_ret ?_
    repeat (refine ret_then ?_)
    exact ⟨.bool false, ⟨.inr ⟨hno, rfl⟩, rfl⟩, resOf_tmp rfl⟩
  have hsy : ∀ r ∈ g.rules, ∀ s ∈ r.right, isSym g s := fun r hr => ((form_ok2 h0).2 r hr).2.2.1
  repeat' (first | refine aops_end ?_ | refine aops_o rfl rfl rfl ?_ | (refine aops_pn tok rfl rfl rfl rfl ?_ ?_ <;> intro e_) | refine aops_p tok rfl rfl rfl rfl ?_ | refine acode_it rfl ?_ | refine acode_seq ?_ | refine acode_region ?_)
  all_goals try (exfalso; omega)
  refine aops_call Try.func43 rfl rfl rfl rfl (rfform_calls hf _) rfl rfl ?_
  rintro x M' ⟨hx, rfl⟩
  rcases hx with ⟨hF, rfl⟩ | ⟨hF, rfl⟩
  rotate_left
  · have hno : ¬ FitsP g f := fun h => hF h.2.1
    repeat' (first | refine aops_put rfl ?_ | refine aops_end ?_ | refine aops_p tok rfl rfl rfl rfl ?_ | refine acode_it rfl ?_ | refine acode_seq ?_ | refine acode_region ?_)
    refine acode_ret ?_
    repeat (refine ret_then ?_)
    exact ⟨.bool false, ⟨.inr ⟨hno, rfl⟩, rfl⟩, resOf_tmp rfl⟩
  have hsm : ∀ n ∈ f.nodes, n.alts.length ≤ 9223372036854775807 ∧ ∀ a ∈ n.alts, a.kids.length ≤ 9223372036854775807 ∧ ∀ k ∈ a.kids, k < f.nodes.length := by
    intro n hn
    refine ⟨by have := (hf2 n hn).1; omega, fun a ha => ⟨by have := (hf2 n hn).2 a ha; omega, fun k hk => ?_⟩⟩
    obtain ⟨i, hi, hni⟩ := List.getElem_of_mem hn
    refine (hF.2 i hi).small ⟨a, ?_, hk⟩
    unfold altsOf
    rw [List.getElem?_eq_getElem hi, hni]
    exact ha
  have hfp : FitsP g f ↔ f.nodes.all (nodeB g f) = true := by
    unfold FitsP
    rw [whole_all]
    exact ⟨fun h => h.2.2, fun h => ⟨h0, hF, h⟩⟩
  repeat' (first | refine aops_put rfl ?_ | refine aops_end ?_ | refine aops_p tok rfl rfl rfl rfl ?_ | refine acode_if rfl ?_ | refine acode_seq ?_ | refine acode_region ?_ | refine acode_block ?_ | refine acode_skip ?_ | refine then_n ?_)
  refine acode_loopS (ι := Nat) (fun i => [(2, .pp (grC g)), (3, .pp (foC f)), (4, .bool false), (7, .int .i64 i)]) (fun _ => M') (fun i => f.nodes.length - i) (fun i => i ≤ f.nodes.length ∧ (f.nodes.take i).all (nodeB g f) = true) 0 ⟨Nat.zero_le _, rfl⟩ ⟨rfl, rfl, rfl, rfl, trivial⟩ rfl ?_
  rintro i ⟨hi, hall⟩
  repeat (first | refine aops_end ?_ | refine aops_p tok rfl rfl rfl rfl ?_ | refine acode_seq ?_ | refine acode_region ?_)
  refine acode_id rfl (fun e => ?_) (fun e => ?_)
  · have hil : i < f.nodes.length := by omega
    obtain ⟨nd, hnd⟩ : ∃ nd, f.nodes[i]? = some nd := ⟨f.nodes[i], List.getElem?_eq_getElem hil⟩
    have hndm := List.mem_of_getElem? hnd
    obtain ⟨hn1, hn2⟩ := hsm nd hndm
    have hnx := all_take hnd hall
    repeat (first | refine aops_p tok rfl rfl rfl rfl ?_ | refine acode_seq ?_ | refine acode_region ?_ | refine acode_block ?_ | refine acode_skip ?_ | refine then_n ?_)
    refine aops_ix tok (ndC nd) rfl rfl rfl rfl (by omega) (by omega) (by simp [ndC]) (nd_at hnd) rfl rfl rfl ?_
    repeat (first | refine aops_end ?_ | refine aops_p tok rfl rfl rfl rfl ?_ | refine acode_seq ?_ | refine acode_region ?_ | refine acode_block ?_)
    refine acode_loopS (ι := Nat) (fun j => [(2, .pp (grC g)), (3, .pp (foC f)), (4, .bool false), (7, .int .i64 i), (8, .psl nd.alts.length (encs alC nd.alts)), (9, .int .i64 j)]) (fun _ => M') (fun j => nd.alts.length - j) (fun j => j ≤ nd.alts.length ∧ (nd.alts.take j).all (fun a => ofB g f nd.sym a) = true) 0 ⟨Nat.zero_le _, rfl⟩ ⟨rfl, rfl, rfl, rfl, rfl, rfl, trivial⟩ rfl ?_
    rintro j ⟨hj, hall2⟩
    repeat (first | refine aops_end ?_ | refine aops_p tok rfl rfl rfl rfl ?_ | refine acode_seq ?_ | refine acode_region ?_)
    refine acode_id rfl (fun e => ?_) (fun e => ?_)
    · have hjl : j < nd.alts.length := by omega
      obtain ⟨a, ha⟩ : ∃ a, nd.alts[j]? = some a := ⟨nd.alts[j], List.getElem?_eq_getElem hjl⟩
      have ham := List.mem_of_getElem? ha
      obtain ⟨ha1, ha2⟩ := hn2 a ham
      have hnx2 := all_take ha hall2
      have hfc := fun M => rfits_calls (sym := nd.sym) hg hsy ha1 ha2 M
      repeat (first | refine acode_seq ?_ | refine acode_block ?_ | refine acode_skip ?_ | refine then_n ?_)
      refine acode_drawT 14 mixed (by kernel_rfl) (by kernel_rfl) ?_
      repeat (refine seqT_p tok rfl rfl rfl rfl ?_)
      refine seqT_ix tok (ndC nd) rfl rfl rfl rfl (by omega) (by omega) (by simp [ndC]) (nd_at hnd) rfl rfl rfl ?_
      repeat (refine seqT_p tok rfl rfl rfl rfl ?_)
      refine seqT_ix tok (alC a) rfl rfl rfl rfl (by omega) (by omega) (by simp [alC]) (al_at ha) rfl rfl rfl ?_
      repeat (refine seqT_p tok rfl rfl rfl rfl ?_)
      refine seqT_call _ Try.func74 rfl rfl rfl rfl (hfc _) rfl rfl rfl ?_
      repeat (refine seqT_p tok rfl rfl rfl rfl ?_)
      refine SeqT.done ?_
      cases hx : ofB g f nd.sym a with
      | true =>
        repeat' (first | refine aops_end ?_ | refine aops_a tok rfl (by omega) (by omega) rfl rfl rfl ?_ | refine aops_p tok rfl rfl rfl rfl ?_ | refine acode_if rfl ?_ | refine acode_region ?_ | refine acode_skip ?_ | refine then_n ?_ | refine block_n ?_)
        exact ⟨j + 1, ⟨by omega, by rw [hnx2, hx]⟩, by omega, ⟨rfl, rfl, rfl, rfl, rfl, rfl, trivial⟩, rfl⟩
      | false =>
        repeat' (first | refine aops_end ?_ | refine aops_p tok rfl rfl rfl rfl ?_ | refine acode_it rfl ?_ | refine acode_seq ?_ | refine acode_region ?_)
        refine acode_ret ?_
        repeat (first | refine ret_then ?_ | refine ret_block ?_)
        refine ⟨.bool false, ⟨.inr ⟨fun h => ?_, rfl⟩, rfl⟩, resOf_tmp rfl⟩
        have h1 := List.all_eq_true.1 (hfp.1 h) nd hndm
        have h2 := List.all_eq_true.1 h1 a ham
        rw [hx] at h2; cases h2
    · obtain rfl : j = nd.alts.length := by omega
      rw [List.take_length] at hall2
      refine acode_exit ?_
      repeat (first | refine exit_then ?_ | refine exit_here ?_ | refine then_n ?_ | refine block_n ?_)
      repeat (first | refine aops_end ?_ | refine aops_a tok rfl (by omega) (by omega) rfl rfl rfl ?_ | refine aops_p tok rfl rfl rfl rfl ?_ | refine acode_region ?_)
      exact ⟨i + 1, ⟨by omega, by rw [hnx]; exact hall2⟩, by omega, ⟨rfl, rfl, rfl, rfl, trivial⟩, rfl⟩
  · obtain rfl : i = f.nodes.length := by omega
    rw [List.take_length] at hall
    refine acode_exit ?_
    repeat (first | refine exit_then ?_ | refine exit_here ?_ | refine then_n ?_)
    repeat (first | refine aops_end ?_ | refine aops_p tok rfl rfl rfl rfl ?_ | refine acode_seq ?_ | refine acode_region ?_)
    refine acode_ret ?_
    skip
    exact ⟨.bool true, ⟨.inl ⟨hfp.2 hall, rfl⟩, rfl⟩, resOf_tmp rfl⟩
end Go.Proofs.Ytbnhmioijeagiaa.Ab
/- Chapter 24's reference: Best: the walk. No condition. -/
set_option linter.unusedVariables false
set_option linter.unusedSimpArgs false
namespace Go.Proofs.Ytbnhmioijeagiaa.Ab
attribute [local irreducible] thenA inBlockA ACode AOps put IntKind.wrap

theorem rbest_none {g : Gr} {f : Fo} (hg : GrOk g) (hf : FoOk f) (hno : ¬ FitsP g f) (M : List Ob) : ACalls Try.prog 13 [grA g, foA f] M (fun x M' => x = .tup [noP, .int .i64 1] ∧ M' = M) := by
  refine acalls_of_code 52 Try.func13 rfl rfl rfl ?_
  repeat (first | refine acode_seq ?_ | refine acode_region ?_)
  refine aops_boxf rfl rfl rfl rfl rfl rfl rfl ?_
  refine aops_boxf rfl rfl rfl rfl rfl rfl rfl ?_
  refine aops_alloc tok rfl rfl rfl rfl rfl rfl fun b4 => ?_
  repeat (first | refine aops_end ?_ | refine aops_p tok rfl rfl rfl rfl ?_ | refine acode_seq ?_ | refine acode_region ?_)
  refine aops_call Try.func41 rfl rfl rfl rfl (rfitsF_calls hg hf _) rfl rfl ?_
  rintro x M' ⟨hx, hM⟩
  rw [hM]
  rcases hx with ⟨h, _⟩ | ⟨_, rfl⟩
  · exact absurd h hno
  repeat' (first | refine aops_put rfl ?_ | refine aops_end ?_ | refine aops_p tok rfl rfl rfl rfl ?_ | refine acode_it rfl ?_ | refine aops_stn tok rfl rfl rfl rfl rfl rfl rfl rfl rfl ?_ | refine acode_seq ?_ | refine acode_region ?_)
  refine acode_pubref0 4 rfl ?_
  refine acode_ret ?_
  repeat (refine ret_then ?_)
  exact ⟨_, ⟨rfl, rfl⟩, _, _, rfl, resOf_pp tok rfl rfl rfl, resOf_tmp rfl⟩
def ownI (f : Fo) (rs : Nat → Nat) (i : Nat) : List A := (List.range i).map fun i => A.own (some (rs i)) (lenE f i) (lenE f i)
def rowsI (f : Fo) (rs : Nat → Nat) (i : Nat) : List Ob := (List.range i).map fun i => ⟨some (rs i), lenE f i * 5, zerosA zeroE (lenE f i)⟩
theorem rowE_nil (U : Nat → Nat → List A) (i m : Nat) : rowE U [] i m = zerosA zeroE m := by
  unfold rowE zerosA encs
  induction m with
  | zero => rfl
  | succ m ih =>
    rw [List.range_succ, List.replicate_succ']
    simp [List.flatMap_append] at ih ⊢
    rw [ih]
theorem rowsI_all (f : Fo) (U : Nat → Nat → List A) (rs : Nat → Nat) : rowsI f rs f.nodes.length = rowsR f U rs [] := by
  unfold rowsI rowsR
  refine List.map_congr_left fun i _ => ?_
  rw [rowE_nil]
def rsA (rs : Nat → Nat) (i b : Nat) : Nat → Nat := fun j => if j = i then b else rs j
theorem ownI_add {f : Fo} {rs : Nat → Nat} {i b : Nat} : ownI f (rsA rs i b) (i + 1) = ownI f rs i ++ [A.own (some b) (lenE f i) (lenE f i)] := by
  unfold ownI
  rw [List.range_succ, List.map_append]
  congr 1
  · refine List.map_congr_left fun j hj => ?_
    have := List.mem_range.1 hj
    unfold rsA
    rw [if_neg (by omega)]
  · simp [rsA]
theorem rowsI_add {f : Fo} {rs : Nat → Nat} {i b : Nat} : rowsI f (rsA rs i b) (i + 1) = rowsI f rs i ++ [⟨some b, lenE f i * 5, zerosA zeroE (lenE f i)⟩] := by
  unfold rowsI
  rw [List.range_succ, List.map_append]
  congr 1
  · refine List.map_congr_left fun j hj => ?_
    have := List.mem_range.1 hj
    unfold rsA
    rw [if_neg (by omega)]
  · simp [rsA]
abbrev pkC (g : Gr) (f : Fo) (x : A) : List A := [.int .i64 g.names, .int .i64 g.kinds, .int .i64 g.start, .psl g.rules.length (encs ruC g.rules), .psl g.forbid.length (encs f3C g.forbid), .psl g.rc.length (ints g.rc), .psl g.kc.length (ints g.kc), .psl f.nodes.length (encs ndC f.nodes), .int .i64 f.root, x]
set_option maxHeartbeats 16000000 in
theorem rbest_calls {g : Gr} {f : Fo} (hg : GrOk g) (hf : FoOk f) (hfit : FitsP g f) (h8 : ∀ i, ∀ a ∈ altsOf f i, a.kids.length ≤ 1000 ∧ ∀ k ∈ a.kids, rng k) (hbig : big f f.root.toNat ≤ 1000000) (M : List Ob) : ACalls Try.prog 13 [grA g, foA f] M (fun x M' => x = bestR g f ∧ M' = M) := by
  obtain ⟨hf1, hf2⟩ := id hf
  obtain ⟨h0, hF, hwh⟩ := id hfit
  obtain ⟨⟨hr0, hr1⟩, hw⟩ := id hF
  have hgl : g.rules.length ≤ 60 := by
    have := (form_ok2 h0).1
    unfold bigB at this; omega
  refine acalls_of_code 52 Try.func13 rfl rfl rfl ?_
  repeat (first | refine acode_seq ?_ | refine acode_region ?_)
  refine aops_boxf rfl rfl rfl rfl rfl rfl rfl ?_
  refine aops_boxf rfl rfl rfl rfl rfl rfl rfl ?_
  refine aops_alloc tok rfl rfl rfl rfl rfl rfl fun b4 => ?_
  repeat (first | refine aops_end ?_ | refine aops_p tok rfl rfl rfl rfl ?_ | refine acode_seq ?_ | refine acode_region ?_)
  refine aops_call Try.func41 rfl rfl rfl rfl (rfitsF_calls hg hf _) rfl rfl ?_
  rintro x M' ⟨hx, hM⟩
  rw [hM]
  rcases hx with ⟨_, rfl⟩ | ⟨h, _⟩
  rotate_left
  · exact absurd hfit h
  repeat' (first | refine aops_put rfl ?_ | refine aops_end ?_ | refine aops_p tok rfl rfl rfl rfl ?_ | refine acode_if rfl ?_ | refine acode_seq ?_ | refine acode_region ?_ | refine acode_skip ?_ | refine then_n ?_)
  refine aops_boxo rfl rfl rfl rfl rfl rfl rfl fun pb => ?_
  repeat (refine aops_p tok rfl rfl rfl rfl ?_)
  refine aops_adoptF 9 rfl rfl ?_
  repeat (first | refine aops_end ?_ | refine aops_p tok rfl rfl rfl rfl ?_ | refine acode_seq ?_ | refine acode_region ?_ | refine acode_block ?_)
  refine acode_loopS (ι := Nat × (Option Nat × Nat) × (Nat → Nat)) (fun q => [(3, .pp (foC f)), (4, .ref b4 0), (6, .ref pb 0), (7, .int .i64 q.1)]) (fun q => ⟨some pb, 10, pkC g f (.own q.2.1.1 q.1 q.2.1.2)⟩ :: ⟨q.2.1.1, q.2.1.2 * 1, ownI f q.2.2 q.1⟩ :: (rowsI f q.2.2 q.1 ++ (⟨some b4, 3, [.int .i64 0, .int .i64 0, .nils]⟩ :: M))) (fun q => f.nodes.length - q.1)
    (fun q => q.1 ≤ f.nodes.length ∧ (q.1 = 0 ∨ ∃ c, q.2.1.1 = some c)) (0, (none, 0), fun _ => 0) ⟨Nat.zero_le _, .inl rfl⟩ ⟨rfl, rfl, rfl, rfl, trivial⟩ rfl ?_
  rintro ⟨i, ⟨ob, cap⟩, rs⟩ ⟨hi, hob⟩
  simp only at hi hob ⊢
  repeat (first | refine aops_end ?_ | refine aops_p tok rfl rfl rfl rfl ?_ | refine acode_seq ?_ | refine acode_region ?_)
  refine acode_id rfl (fun e => ?_) (fun e => ?_)
  · have hil : i < f.nodes.length := by omega
    obtain ⟨nd, hnd, hndm, hal⟩ := nodes_at hil
    obtain ⟨hal1, hal2⟩ := hf2 nd hndm
    have hle : lenE f i = nd.alts.length := by unfold lenE; rw [hal]
    repeat (first | refine acode_seq ?_ | refine acode_block ?_ | refine acode_skip ?_ | refine then_n ?_)
    refine acode_drawP [⟨some pb, 10, pkC g f (.own ob i cap)⟩] 15 [0, 1, 2, 3, 4, 5, 6, 7, 8, 9, 10, 11, 12, 13, 14] [12, 14] mixed (by kernel_rfl) (by kernel_rfl) rfl ?_
    repeat (first | refine seqO_p tok rfl rfl rfl rfl rfl ?_ | refine seqO_ld tok 0 rfl rfl rfl rfl rfl (by simp) rfl rfl rfl rfl ?_)
    refine seqO_ix tok (ndC nd) rfl rfl rfl rfl rfl (by omega) (by omega) (by simp [ndC]) (nd_at hnd) rfl rfl rfl ?_
    repeat (refine seqO_p tok rfl rfl rfl rfl rfl ?_)
    refine seqO_mk tok nd.alts.length rfl rfl rfl rfl rfl rfl rfl (by show _ * 48 ≤ _; omega) (by omega) (by simp) rfl rfl rfl fun b => ?_
    skip
    refine seqO_lit tok rfl rfl rfl rfl rfl rfl rfl rfl rfl ?_
    refine seqO_app tok 2 (m := 1) (ds := [.own (some b) nd.alts.length nd.alts.length]) rfl rfl rfl rfl (.inl rfl) rfl rfl (by simp [ownI]) rfl rfl rfl (by show _ * 24 ≤ _; omega) (by omega) (by intro y o ho; simp at ho ⊢; simp [ho]) rfl rfl rfl fun ob' cap' => ?_
    skip
    refine SeqO.done ?_
    refine aops_somed 39 rfl (by omega) fun c hc => ?_
    subst hc
    repeat (first | refine aops_p tok rfl rfl rfl rfl ?_ | refine aops_stn1 tok rfl rfl rfl rfl rfl rfl rfl rfl rfl ?_)
    refine aops_perm (⟨some pb, 10, pkC g f (.own (some c) (i + 1) cap')⟩ :: ⟨some c, cap' * 1, ownI f (rsA rs i b) (i + 1)⟩ :: (rowsI f (rsA rs i b) (i + 1) ++ (⟨some b4, 3, [.int .i64 0, .int .i64 0, .nils]⟩ :: M))) ?_ ?_
    · rw [ownI_add, rowsI_add, hle, List.append_assoc]
      exact (List.perm_middle (a := (⟨some b, nd.alts.length * 5, zerosA zeroE nd.alts.length⟩ : Ob)) (l₁ := ⟨some pb, 10, pkC g f (.own (some c) (i + 1) cap')⟩ :: ⟨some c, cap' * 1, ownI f rs i ++ [.own (some b) nd.alts.length nd.alts.length]⟩ :: rowsI f rs i)).symm
    repeat (first | refine aops_end ?_ | refine aops_endb ?_ | refine aops_a tok rfl (by omega) (by omega) rfl rfl rfl ?_ | refine aops_p tok rfl rfl rfl rfl ?_ | refine acode_region ?_ | refine then_n ?_)
    exact ⟨(i + 1, (some c, cap'), rsA rs i b), ⟨by simp only; omega, .inr ⟨c, rfl⟩⟩, by simp only; omega, ⟨rfl, rfl, rfl, rfl, trivial⟩, rfl⟩
  · obtain rfl : i = f.nodes.length := by omega
    obtain ⟨bk, hbk⟩ : ∃ c, ob = some c := by
      rcases hob with h | h
      · omega
      · exact h
    subst hbk
    refine acode_exit ?_
    repeat (first | refine exit_then ?_ | refine exit_here ?_ | refine then_n ?_)
    have hund := under_all (by omega) hg.fo (dyn_ok h0) hf hwh h8 (hw _ (show f.root.toNat < f.nodes.length by omega)) hbig pb bk cap rs (-1) 0 [] (⟨some b4, 3, [.int .i64 0, .int .i64 0, .nils]⟩ :: M)
    rw [show ((f.root.toNat : Nat) : Int) = f.root by omega] at hund
    have hmr : mayR g.forbid (-1) 0 = fun _ => true := by funext x; unfold mayR; rw [if_neg (by omega)]
    rw [hmr] at hund
    rw [rowsI_all f (altE g f) rs]
    unfold bestR
    generalize bestF (fun _ => true) (pkT g f f.root.toNat) = B at *
    repeat (first | refine aops_p tok rfl rfl rfl rfl ?_ | refine acode_seq ?_ | refine acode_region ?_)
    refine aops_perm (pkS g f pb bk cap rs [] (⟨some b4, 3, [.int .i64 0, .int .i64 0, .nils]⟩ :: M)) (List.Perm.refl _) ?_
    refine aops_call Try.func42 rfl rfl rfl rfl hund rfl rfl ?_
    rintro x M' ⟨L', rfl, rfl⟩
    refine aops_dropL [_] (aops_dropL [_] (aops_dropL (rowsR f (altE g f) rs L') ?_))
    cases B with
    | tk =>
      rw [show Pk.isTk .tk = true from rfl, if_pos rfl]
      rw [entR_tk]
      repeat (refine aops_put rfl ?_)
      refine aops_alloc tok rfl rfl rfl rfl rfl rfl fun b8 => ?_
      repeat' (first | refine aops_end ?_ | refine aops_p tok rfl rfl rfl rfl ?_ | refine acode_it rfl ?_ | refine aops_ld tok 0 rfl rfl rfl rfl rfl rfl rfl rfl ?_ | refine aops_stn tok rfl rfl rfl rfl rfl rfl rfl rfl rfl ?_ | refine aops_stn1 tok rfl rfl rfl rfl rfl rfl rfl rfl rfl ?_ | refine acode_seq ?_ | refine acode_region ?_)
      refine acode_drop0 ?_
      refine acode_pubref0 4 rfl ?_
      refine acode_ret ?_
      repeat (refine ret_then ?_)
      exact ⟨_, ⟨rfl, rfl⟩, _, _, rfl, resOf_pp tok rfl rfl rfl, resOf_tmp rfl⟩
    | nd a w q =>
      rw [show Pk.isTk (.nd a w q) = false from rfl, if_neg (by simp)]
      rw [entR_nd]
      generalize treeP (.nd a w q) = tr at *
      repeat (refine aops_put rfl ?_)
      refine aops_alloc tok rfl rfl rfl rfl rfl rfl fun b8 => ?_
      repeat' (first | refine aops_end ?_ | refine aops_p tok rfl rfl rfl rfl ?_ | refine acode_if rfl ?_ | refine aops_ld tok 0 rfl rfl rfl rfl rfl rfl rfl rfl ?_ | refine aops_stn tok rfl rfl rfl rfl rfl rfl rfl rfl rfl ?_ | refine aops_stn1 tok rfl rfl rfl rfl rfl rfl rfl rfl rfl ?_ | refine acode_seq ?_ | refine acode_region ?_ | refine acode_skip ?_ | refine then_n ?_)
      refine acode_drop0 ?_
      refine acode_pubref0 4 rfl ?_
      refine acode_ret ?_
      skip
      exact ⟨_, ⟨rfl, rfl⟩, _, _, rfl, resOf_pp tok rfl rfl rfl, resOf_tmp rfl⟩
end Go.Proofs.Ytbnhmioijeagiaa.Ab
/- Chapter 24's law: alive. No condition. -/
set_option linter.unusedVariables false
set_option linter.unusedSimpArgs false
namespace Go.Proofs.Ytbnhmioijeagiaa.Ab
attribute [local irreducible] thenA inBlockA ACode AOps put IntKind.wrap

theorem num24_calls {n : Int} (M : List Ob) : ACalls Try.prog 20 [.int .i64 n] M (fun r M' => r = .int .i64 n ∧ M' = M) := by
  refine acalls_of_code 4 Try.func20 rfl rfl rfl ?_
  repeat (first | refine aops_end ?_ | refine aops_p tok rfl rfl rfl rfl ?_ | refine acode_seq ?_ | refine acode_region ?_)
  refine acode_ret ?_
  skip
  exact ⟨_, ⟨rfl, rfl⟩, resOf_tmp rfl⟩
def gA2 : Gr := ⟨1, 0, 0, [⟨0, [], 1⟩, ⟨0, [], 5⟩], [], [], []⟩
def fA2 : Fo := ⟨[⟨0, 0, 0, [⟨0, []⟩, ⟨1, []⟩]⟩], 0⟩
theorem fA2_kid {i : Nat} {k : Int} : ¬ Kid fA2 i k := by
  rintro ⟨a, ha, hk⟩
  by_cases hi : i = 0
  · subst hi
    have ha : a ∈ [(⟨0, []⟩ : Al), ⟨1, []⟩] := ha
    simp only [List.mem_cons, List.not_mem_nil, or_false] at ha
    rcases ha with rfl | rfl <;> cases hk
  · unfold altsOf at ha
    rw [List.getElem?_eq_none (by show 1 ≤ i; omega)] at ha
    cases ha
theorem fA2_wf : WF fA2 0 := .mk (by decide) (fun k hk => absurd hk fA2_kid) (fun k hk => absurd hk fA2_kid)
theorem fA2_form : FForm fA2 := ⟨by decide, fun i hi => by
  have : i = 0 := by have : i < 1 := hi; omega
  subst this; exact fA2_wf⟩
theorem fA2_pk : pkT gA2 fA2 0 = [.nd ⟨0, []⟩ 1 [], .nd ⟨1, []⟩ 5 []] := by
  rw [pkT_eq fA2_wf]; rfl
theorem fA2_best : bestR gA2 fA2 = .tup [trA (.mk 1 0 []), .int .i64 0] := by
  unfold bestR
  rw [show fA2.root.toNat = 0 from rfl, fA2_pk]
  rfl
theorem gA2_ok : GrOk gA2 := by
  refine ⟨by decide, by decide, by decide, by decide, ?_⟩
  show ∀ r ∈ gA2.rules, r.right.length ≤ 9223372036854775807 ∧ ∀ s ∈ r.right, -9223372036854775808 ≤ s ∧ s ≤ 9223372036854775807
  decide
theorem a2_calls (M : List Ob) : ACalls Try.prog 18 [grA gA2, foA fA2] M (fun x M' => x = .tup [trA (.mk 1 0 []), .int .i64 0] ∧ M' = M) := by
  have hfo : FoOk fA2 := by
    refine ⟨by decide, ?_⟩
    decide
  have h8 : ∀ i, ∀ a ∈ altsOf fA2 i, a.kids.length ≤ 1000 ∧ ∀ k ∈ a.kids, rng k := fun i a ha => by
    by_cases hi : i = 0
    · subst hi
      have ha : a ∈ [(⟨0, []⟩ : Al), ⟨1, []⟩] := ha
      simp only [List.mem_cons, List.not_mem_nil, or_false] at ha
      rcases ha with rfl | rfl <;> exact ⟨by decide, fun k hk => by cases hk⟩
    · unfold altsOf at ha
      rw [List.getElem?_eq_none (by show 1 ≤ i; omega)] at ha
      cases ha
  have h0 : (formF gA2).2 = 0 := by decide +kernel
  have hwh : wholeB gA2 fA2 = true := by decide +kernel
  have h := chbest_calls (g := gA2) (f := fA2) gA2_ok h0 hfo fA2_form hwh h8 (rows_ok (fun r => by have := dyn_ok h0 r; unfold rng; omega) hwh (fun i a ha => (h8 i a ha).1) fA2_form (by decide)) M
  rw [fA2_best] at h; exact h
theorem vwA2 (M : List Ob) : Vw M (.agg [.int .i64 1, .int .i64 0, .int .i64 0, .psl 2 [.int .i64 0, .nils, .int .i64 1, .int .i64 0, .nils, .int .i64 5], .nils, .nils, .nils]) (grA gA2) :=
  .agg (.cons (.refl _) (.cons (.refl _) (.cons (.refl _) (.cons (.psl (.cons (.refl _) (.cons .nils (.cons (.refl _) (.cons (.refl _) (.cons .nils (.cons (.refl _) .nil))))))) (.cons .nils (.cons .nils (.cons .nils .nil)))))))
theorem vwF2 (M : List Ob) : Vw M (.agg [.psl 1 [.int .i64 0, .int .i64 0, .int .i64 0, .psl 2 [.int .i64 0, .nils, .int .i64 1, .nils]], .int .i64 0]) (foA fA2) :=
  .agg (.cons (.psl (.cons (.refl _) (.cons (.refl _) (.cons (.refl _) (.cons (.psl (.cons (.refl _) (.cons .nils (.cons (.refl _) (.cons .nils .nil))))) .nil))))) (.cons (.refl _) .nil))
theorem n2_calls (M : List Ob) : ACalls Try.prog 18 [.agg [.int .i64 0, .int .i64 0, .int .i64 0, .nils, .nils, .nils, .nils], .agg [.nils, .int .i64 0]] M (fun x M' => x = .tup [noP, .int .i64 1] ∧ M' = M) := by
  have h := chbest_none (g := ⟨0, 0, 0, [], [], [], []⟩) (f := ⟨[], 0⟩) ⟨by decide, fun n hn => by cases hn⟩ (fun h => by have := h.1.2; simp at this) M
  exact acalls_arg (.cons (.agg (.cons (.refl _) (.cons (.refl _) (.cons (.refl _) (.cons .nils (.cons .nils (.cons .nils (.cons .nils .nil)))))))) (.cons (.agg (.cons .nils (.cons (.refl _) .nil))) .nil)) h
set_option maxHeartbeats 8000000 in
theorem alive24_calls (M : List Ob) : ACalls Try.prog 17 [] M (fun r M' => r = .bool true ∧ M' = M) := by
  have hdy : ∀ r, -1000000 ≤ dynF gA2 r ∧ dynF gA2 r ≤ 1000000 := fun r => by
    unfold dynF
    split
    · rename_i h
      obtain ⟨h1, h2⟩ := h
      have h2 : r < 2 := h2
      have : r = 0 ∨ r = 1 := by omega
      rcases this with rfl | rfl <;> decide
    · decide
  have hwt := chweight_calls (g := gA2) (t := .mk 1 0 []) hdy (by decide)
  rw [show wtT gA2 (.mk 1 0 []) = 5 from rfl] at hwt
  refine acalls_of_code 46 Try.func17 rfl rfl rfl ?_
  repeat (first | refine aops_end ?_ | refine aops_p tok rfl rfl rfl rfl ?_ | refine acode_seq ?_ | refine acode_region ?_)
  refine aops_callx Try.func18 rfl rfl rfl rfl (n2_calls _) rfl rfl rfl ?_
  repeat (refine aops_p tok rfl rfl rfl rfl ?_)
  refine aops_alloc tok rfl rfl rfl rfl rfl rfl fun b1 => ?_
  repeat (first | refine aops_p tok rfl rfl rfl rfl ?_ | refine aops_stn tok rfl rfl rfl rfl rfl rfl rfl rfl rfl ?_)
  refine aops_pubref0 1 rfl ?_
  repeat (first | refine aops_end ?_ | refine aops_p tok rfl rfl rfl rfl ?_ | refine acode_seq ?_ | refine acode_region ?_)
  refine aops_litn tok rfl rfl rfl rfl rfl rfl rfl ?_
  repeat (refine aops_p tok rfl rfl rfl rfl ?_)
  refine aops_alloc tok rfl rfl rfl rfl rfl rfl fun bg => ?_
  repeat (refine aops_stn tok rfl rfl rfl rfl rfl rfl rfl rfl rfl ?_)
  refine aops_pubref0 3 rfl ?_
  repeat (first | refine aops_end ?_ | refine aops_p tok rfl rfl rfl rfl ?_ | refine acode_seq ?_ | refine acode_region ?_)
  refine aops_litn tok rfl rfl rfl rfl rfl rfl rfl ?_
  repeat (refine aops_p tok rfl rfl rfl rfl ?_)
  refine aops_litn tok rfl rfl rfl rfl rfl rfl rfl ?_
  repeat (refine aops_p tok rfl rfl rfl rfl ?_)
  refine aops_callx Try.func18 rfl rfl rfl rfl (acalls_arg (.cons (vwA2 _) (.cons (vwF2 _) .nil)) (a2_calls _)) rfl rfl rfl ?_
  repeat (refine aops_p tok rfl rfl rfl rfl ?_)
  refine aops_alloc tok rfl rfl rfl rfl rfl rfl fun b2 => ?_
  repeat (first | refine aops_p tok rfl rfl rfl rfl ?_ | refine aops_stn tok rfl rfl rfl rfl rfl rfl rfl rfl rfl ?_)
  refine aops_pubref0 4 rfl ?_
  repeat (first | refine aops_end ?_ | refine aops_p tok rfl rfl rfl rfl ?_ | refine acode_seq ?_ | refine acode_region ?_)
  refine aops_callx Try.func20 rfl rfl rfl rfl (num24_calls _) rfl rfl rfl ?_
  repeat' (first | refine aops_pbt tok rfl (by first | omega | decide) rfl rfl rfl ?_ | refine aops_p tok rfl rfl rfl rfl ?_)
  try any_goals (exfalso; omega)
  refine aops_callx Try.func20 rfl rfl rfl rfl (num24_calls _) rfl rfl rfl ?_
  repeat' (first | refine aops_pbt tok rfl (by first | omega | decide) rfl rfl rfl ?_ | refine aops_p tok rfl rfl rfl rfl ?_)
  try any_goals (exfalso; omega)
  refine aops_callx Try.func25 rfl rfl rfl rfl (acalls_arg (.cons (vwA2 _) (.cons (.refl _) .nil)) (hwt _)) rfl rfl rfl ?_
  repeat' (first | refine aops_end ?_ | refine aops_pbt tok rfl (by first | omega | decide) rfl rfl rfl ?_ | refine aops_p tok rfl rfl rfl rfl ?_)
  try any_goals (exfalso; omega)
  refine acode_ret ?_
  skip
  exact ⟨_, ⟨rfl, rfl⟩, resOf_tmp rfl⟩
end Go.Proofs.Ytbnhmioijeagiaa.Ab
/- Two trees held against each other: the walk. No condition. -/
set_option linter.unusedVariables false
set_option linter.unusedSimpArgs false
namespace Go.Proofs.Ytbnhmioijeagiaa.Ab
attribute [local irreducible] thenA inBlockA ACode AOps put IntKind.wrap

set_option maxHeartbeats 2000000 in
theorem sameT_calls : ∀ (x : Tr), trSize x ≤ 9223372036854775807 → ∀ (y : Tr), trSize y ≤ 9223372036854775807 → ∀ (M : List Ob), ACalls Try.prog 19 [trA x, trA y] M (fun r M' => r = .bool (eqT x y) ∧ M' = M) := by
  refine Tr.ind fun x ih hx y hy M => ?_
  rw [trSize_eq] at hx hy
  have hxl := trsSize_len x.kids
  have hyl := trsSize_len y.kids
  rw [eqT_eq]
  refine acalls_of_code 46 Try.func19 rfl rfl rfl ?_
  repeat (first | refine acode_seq ?_ | refine acode_region ?_)
  refine aops_boxf rfl rfl rfl rfl rfl rfl rfl ?_
  refine aops_boxf rfl rfl rfl rfl rfl rfl rfl ?_
  repeat' (first | refine aops_end ?_ | refine aops_o rfl rfl rfl ?_ | (refine aops_pn tok rfl rfl rfl rfl ?_ ?_ <;> intro e_) | refine aops_p tok rfl rfl rfl rfl ?_ | refine acode_it rfl ?_ | refine acode_if rfl ?_ | refine acode_seq ?_ | refine acode_region ?_ | refine acode_block ?_ | refine acode_skip ?_ | refine then_n ?_)
  · refine acode_ret ?_
    repeat (refine ret_then ?_)
    exact ⟨.bool false, ⟨by rw [decide_eq_false e_]; rfl, rfl⟩, resOf_tmp rfl⟩
  · refine acode_ret ?_
    repeat (refine ret_then ?_)
    exact ⟨.bool false, ⟨by rw [decide_eq_false e_, Bool.and_false]; rfl, rfl⟩, resOf_tmp rfl⟩
  · refine acode_ret ?_
    repeat (refine ret_then ?_)
    exact ⟨.bool false, ⟨by rw [eqTs_len (by omega), Bool.and_false], rfl⟩, resOf_tmp rfl⟩
  · rename_i e1 e2
    have hlen : x.kids.length = y.kids.length := by omega
    rw [decide_eq_true e1, decide_eq_true e2, Bool.true_and, Bool.true_and]
    refine acode_loopS (ι := Nat) (fun i => [(2, .pp [.int .i64 x.rule, .int .i64 x.tok, .psl x.kids.length (encs trC x.kids)]), (3, .pp [.int .i64 y.rule, .int .i64 y.tok, .psl y.kids.length (encs trC y.kids)]), (5, .int .i64 i)]) (fun _ => M) (fun i => x.kids.length - i) (fun i => i ≤ x.kids.length ∧ eqTs (x.kids.drop i) (y.kids.drop i) = eqTs x.kids y.kids) 0 ⟨Nat.zero_le _, rfl⟩ ⟨rfl, rfl, rfl, trivial⟩ rfl ?_
    rintro i ⟨hi, hgo⟩
    repeat (first | refine aops_end ?_ | refine aops_p tok rfl rfl rfl rfl ?_ | refine acode_seq ?_ | refine acode_region ?_)
    refine acode_id rfl (fun e => ?_) (fun e => ?_)
    · have hil : i < x.kids.length := by omega
      obtain ⟨u, hu⟩ : ∃ u, x.kids[i]? = some u := ⟨x.kids[i], List.getElem?_eq_getElem hil⟩
      obtain ⟨v, hv⟩ : ∃ v, y.kids[i]? = some v := ⟨y.kids[i]'(by omega), List.getElem?_eq_getElem (by omega)⟩
      have hum := List.mem_of_getElem? hu
      have hus := trsSize_mem hum
      have hvs := trsSize_mem (List.mem_of_getElem? hv)
      rw [eqTs_step hu hv] at hgo
      repeat (first | refine acode_seq ?_ | refine acode_block ?_ | refine acode_skip ?_ | refine then_n ?_)
      refine acode_drawT 12 mixed (by kernel_rfl) (by kernel_rfl) ?_
      repeat (refine seqT_p tok rfl rfl rfl rfl ?_)
      refine seqT_ix tok [.int .i64 u.rule, .int .i64 u.tok, .psl u.kids.length (encs trC u.kids)] rfl rfl rfl rfl (by omega) (by omega) (by simp) (by rw [← trC_eq]; exact tr_at hu) rfl rfl rfl ?_
      repeat (refine seqT_p tok rfl rfl rfl rfl ?_)
      refine seqT_ix tok [.int .i64 v.rule, .int .i64 v.tok, .psl v.kids.length (encs trC v.kids)] rfl rfl rfl rfl (by omega) (by omega) (by simp) (by rw [← trC_eq]; exact tr_at hv) rfl rfl rfl ?_
      repeat (refine seqT_p tok rfl rfl rfl rfl ?_)
      refine seqT_call _ Try.func19 rfl rfl rfl rfl (ih u hum (by omega) v (by omega) M) rfl rfl rfl ?_
      cases he : eqT u v with
      | false =>
        rw [he] at hgo
        repeat (refine seqT_p tok rfl rfl rfl rfl ?_)
        refine SeqT.done ?_
        repeat' (first | refine aops_end ?_ | refine aops_p tok rfl rfl rfl rfl ?_ | refine acode_it rfl ?_ | refine acode_seq ?_ | refine acode_region ?_)
        refine acode_ret ?_
        repeat (first | refine ret_then ?_ | refine ret_block ?_)
        exact ⟨.bool false, ⟨by rw [← hgo]; rfl, rfl⟩, resOf_tmp rfl⟩
      | true =>
        rw [he] at hgo
        repeat (refine seqT_p tok rfl rfl rfl rfl ?_)
        refine SeqT.done ?_
        repeat' (first | refine aops_end ?_ | refine aops_a tok rfl (by omega) (by omega) rfl rfl rfl ?_ | refine aops_p tok rfl rfl rfl rfl ?_ | refine acode_if rfl ?_ | refine acode_region ?_ | refine acode_skip ?_ | refine then_n ?_ | refine block_n ?_)
        exact ⟨i + 1, ⟨by omega, by rw [← hgo]; rfl⟩, by omega, ⟨rfl, rfl, rfl, trivial⟩, rfl⟩
    · have hge : i = x.kids.length := by omega
      subst hge
      rw [List.drop_length, hlen, List.drop_length] at hgo
      refine acode_exit ?_
      repeat (first | refine exit_then ?_ | refine exit_here ?_ | refine then_n ?_)
      repeat (first | refine aops_end ?_ | refine aops_p tok rfl rfl rfl rfl ?_ | refine acode_seq ?_ | refine acode_region ?_)
      refine acode_ret ?_
      skip
      exact ⟨.bool true, ⟨by rw [← hgo]; rfl, rfl⟩, resOf_tmp rfl⟩

end Go.Proofs.Ytbnhmioijeagiaa.Ab
/- The reference's numbers of trees, and how deep: the walk. No condition. -/
set_option linter.unusedVariables false
set_option linter.unusedSimpArgs false
namespace Go.Proofs.Ytbnhmioijeagiaa.Ab
attribute [local irreducible] thenA inBlockA ACode AOps put IntKind.wrap

theorem isN_one : isN 1 := ⟨by decide, by decide⟩
theorem plus_calls {a b : Int} (ha : isN a) (hb : isN b) (M : List Ob) : ACalls Try.prog 90 [.int .i64 a, .int .i64 b] M (fun r M' => r = .int .i64 (addN a b) ∧ M' = M) := by
  obtain ⟨a0, a1⟩ := ha; obtain ⟨b0, b1⟩ := hb
  unfold great at a1 b1
  refine acalls_of_code 12 Try.func90 rfl rfl rfl ?_
  repeat' (first | refine aops_end ?_ | refine aops_a tok rfl (by omega) (by omega) rfl rfl rfl ?_ | (refine aops_pd tok rfl rfl rfl rfl ?_ ?_ <;> intro e_) | refine aops_p tok rfl rfl rfl rfl ?_ | refine acode_it rfl ?_ | refine acode_if rfl ?_ | refine acode_seq ?_ | refine acode_region ?_ | refine acode_skip ?_ | refine then_n ?_)
  · refine acode_ret ?_
    repeat (refine ret_then ?_)
    exact ⟨.int .i64 (addN a b), ⟨rfl, rfl⟩, resOf_tmp (by show A.int _ _ = A.int _ _; unfold addN great; rw [if_pos e_])⟩
  · refine acode_ret ?_
    skip
    exact ⟨.int .i64 (addN a b), ⟨rfl, rfl⟩, resOf_tmp (by show A.int _ _ = A.int _ _; unfold addN great; rw [if_neg e_])⟩

theorem rtimes_calls {a b : Int} (ha : isN a) (hb : isN b) (M : List Ob) : ACalls Try.prog 92 [.int .i64 a, .int .i64 b] M (fun r M' => r = .int .i64 (mulN a b) ∧ M' = M) := by
  obtain ⟨a0, a1⟩ := ha; obtain ⟨b0, b1⟩ := hb
  unfold great at a1 b1
  refine acalls_of_code 18 Try.func92 rfl rfl rfl ?_
  repeat' (first | refine aops_end ?_ | refine aops_o rfl rfl rfl ?_ | (refine aops_pd tok rfl rfl rfl rfl ?_ ?_ <;> intro e_) | refine aops_p tok rfl rfl rfl rfl ?_ | refine acode_it rfl ?_ | refine acode_if rfl ?_ | refine acode_seq ?_ | refine acode_region ?_ | refine acode_skip ?_ | refine then_n ?_)
  · refine acode_ret ?_
    repeat (refine ret_then ?_)
    exact ⟨.int .i64 (mulN a b), ⟨rfl, rfl⟩, resOf_tmp (by show A.int _ _ = A.int _ _; unfold mulN; rw [if_pos (.inl e_)])⟩
  · refine acode_ret ?_
    repeat (refine ret_then ?_)
    exact ⟨.int .i64 (mulN a b), ⟨rfl, rfl⟩, resOf_tmp (by show A.int _ _ = A.int _ _; unfold mulN; rw [if_pos (.inr e_)])⟩
  · rename_i e1
    have hne : ¬ (a = 0 ∨ b = 0) := by rintro (h | h); exact e1 h; exact e_ h
    have hb : 0 < b := by omega
    refine aops_quo rfl rfl rfl (by decide) (by decide) hb rfl rfl rfl ?_
    repeat' (first | refine aops_end ?_ | (refine aops_pd tok rfl rfl rfl rfl ?_ ?_ <;> intro e_) | refine aops_p tok rfl rfl rfl rfl ?_ | refine acode_it rfl ?_ | refine acode_if rfl ?_ | refine acode_seq ?_ | refine acode_region ?_ | refine acode_skip ?_ | refine then_n ?_)
    · refine acode_ret ?_
      repeat (refine ret_then ?_)
      exact ⟨.int .i64 (mulN a b), ⟨rfl, rfl⟩, resOf_tmp (by show A.int _ _ = A.int _ _; unfold mulN great; rw [if_neg hne, if_pos e_])⟩
    · have hle : a * b ≤ 4611686018427387903 := mul_le_of hb (by unfold great; omega)
      have h0 : 0 ≤ a * b := Int.mul_nonneg a0 b0
      have hwr : IntKind.i64.wrap (a * b) = a * b := wrap64_small (by omega) (by omega)
      refine acode_ret ?_
      skip
      exact ⟨.int .i64 (mulN a b), ⟨rfl, rfl⟩, resOf_tmp (by show A.int _ (IntKind.i64.wrap (a * b)) = A.int _ _; rw [hwr]; unfold mulN great; rw [if_neg hne, if_neg e_])⟩

/-- What a counter keeps. -/
structure Kp (f : Fo) (ks : List Int) : Prop where
  len : ks.length = f.nodes.length
  val : ∀ (j : Nat) x, ks[j]? = some x → x = -1 ∨ x = trees f j
abbrev wkC (f : Fo) (b bs : Nat) (ks : List Int) (M : List Ob) : List Ob :=
  ⟨some b, 3, [.psl f.nodes.length (encs ndC f.nodes), .int .i64 f.root, .own (some bs) f.nodes.length f.nodes.length]⟩ :: ⟨some bs, f.nodes.length * 1, ints ks⟩ :: M
/-- That a node is counted. -/
def CntN (f : Fo) (b bs : Nat) (M : List Ob) (i : Nat) : Prop := ∀ ks, Kp f ks →
  ACalls Try.prog 56 [.ref b 0, .int .i64 i] (wkC f b bs ks M) (fun r M' => r = .int .i64 (trees f i) ∧ ∃ ks', Kp f ks' ∧ M' = wkC f b bs ks' M)

theorem ralt_calls {f : Fo} {b bs : Nat} {M : List Ob} {a : Al} (ha : a.kids.length ≤ 9223372036854775807) (hw : ∀ k : Nat, (k : Int) ∈ a.kids → WF f k ∧ CntN f b bs M k) {ks : List Int} (hks : Kp f ks) :
    ACalls Try.prog 91 [.ref b 0, .agg (alC a)] (wkC f b bs ks M) (fun r M' => r = .int .i64 (altF (trees f) 1 a.kids) ∧ ∃ ks', Kp f ks' ∧ M' = wkC f b bs ks' M) := by
  refine acalls_of_code 30 Try.func91 rfl rfl rfl ?_
  repeat (first | refine acode_seq ?_ | refine acode_region ?_)
  refine aops_boxf rfl rfl rfl rfl rfl rfl rfl ?_
  repeat (first | refine aops_end ?_ | refine aops_p tok rfl rfl rfl rfl ?_ | refine acode_seq ?_ | refine acode_region ?_ | refine acode_block ?_)
  refine acode_loopS (ι := Nat × Int × List Int) (fun p => [(0, .ref b 0), (3, .pp (alC a)), (5, .int .i64 p.2.1), (6, .int .i64 p.1)]) (fun p => wkC f b bs p.2.2 M) (fun p => a.kids.length - p.1) (fun p => p.1 ≤ a.kids.length ∧ isN p.2.1 ∧ Kp f p.2.2 ∧ altF (trees f) p.2.1 (a.kids.drop p.1) = altF (trees f) 1 a.kids) (0, 1, ks) ⟨Nat.zero_le _, isN_one, hks, rfl⟩ ⟨rfl, rfl, rfl, rfl, trivial⟩ rfl ?_
  clear hks ks
  rintro ⟨i, n, ks⟩ ⟨hi, hn, hks, hF⟩
  simp only at hi hn hks hF ⊢
  repeat (first | refine aops_end ?_ | refine aops_p tok rfl rfl rfl rfl ?_ | refine acode_seq ?_ | refine acode_region ?_)
  refine acode_id rfl (fun e => ?_) (fun e => ?_)
  · have hil : i < a.kids.length := by omega
    obtain ⟨k, hk'⟩ : ∃ k, a.kids[i]? = some k := ⟨a.kids[i], List.getElem?_eq_getElem hil⟩
    have hkm := List.mem_of_getElem? hk'
    have hdr : a.kids.drop i = k :: a.kids.drop (i + 1) := by
      rw [List.drop_eq_getElem_cons hil]
      rw [List.getElem?_eq_getElem hil] at hk'
      rw [Option.some.inj hk']
    rw [hdr] at hF
    simp only [altF, List.foldl_cons] at hF
    repeat (first | refine aops_p tok rfl rfl rfl rfl ?_ | refine acode_seq ?_ | refine acode_region ?_ | refine acode_block ?_ | refine acode_skip ?_ | refine then_n ?_)
    refine aops_ix tok [A.int .i64 k] rfl rfl rfl rfl (by omega) (by omega) (by simp) (ints_at (j := i) (by simpa using hk')) rfl rfl rfl ?_
    repeat' (first | refine aops_end ?_ | refine aops_a tok rfl (by omega) (by omega) rfl rfl rfl ?_ | (refine aops_pd tok rfl rfl rfl rfl ?_ ?_ <;> intro e_) | refine aops_p tok rfl rfl rfl rfl ?_ | refine acode_it rfl ?_ | refine acode_if rfl ?_ | refine acode_region ?_ | refine acode_skip ?_ | refine then_n ?_ | refine block_n ?_)
    · obtain ⟨k', rfl⟩ : ∃ k' : Nat, k = k' := ⟨k.toNat, by omega⟩
      obtain ⟨hwk, hck⟩ := hw k' hkm
      refine aops_ix tok [A.int .i64 k'] rfl rfl rfl rfl (by omega) (by omega) (by simp) (ints_at (j := i) (by simpa using hk')) rfl rfl rfl ?_
      repeat (refine aops_p tok rfl rfl rfl rfl ?_)
      refine aops_call Try.func56 rfl rfl rfl rfl (hck ks hks) rfl rfl ?_
      rintro x M' ⟨rfl, ks2, hks2, rfl⟩
      repeat (refine aops_put rfl ?_)
      refine aops_callx Try.func92 rfl rfl rfl rfl (rtimes_calls hn (trees_is hwk) _) rfl rfl rfl ?_
      repeat (first | refine aops_end ?_ | refine aops_endb ?_ | refine aops_a tok rfl (by omega) (by omega) rfl rfl rfl ?_ | refine aops_p tok rfl rfl rfl rfl ?_ | refine acode_region ?_ | refine then_n ?_)
      rw [if_pos (by omega)] at hF
      exact ⟨(i + 1, mulN n (trees f k'), ks2), ⟨by simp; omega, mulN_is hn (trees_is hwk), hks2, hF⟩, by simp; omega, ⟨rfl, rfl, rfl, rfl, trivial⟩, rfl⟩
    · rw [if_neg (by omega)] at hF
      exact ⟨(i + 1, n, ks), ⟨by simp; omega, hn, hks, hF⟩, by simp; omega, ⟨rfl, rfl, rfl, rfl, trivial⟩, rfl⟩
  · have hge : i = a.kids.length := by omega
    subst hge
    rw [List.drop_length] at hF
    refine acode_exit ?_
    repeat (first | refine exit_then ?_ | refine exit_here ?_ | refine then_n ?_)
    repeat (first | refine aops_end ?_ | refine aops_p tok rfl rfl rfl rfl ?_ | refine acode_seq ?_ | refine acode_region ?_)
    refine acode_ret ?_
    skip
    exact ⟨_, ⟨by rw [← hF]; rfl, ks, hks, rfl⟩, resOf_tmp rfl⟩

theorem rnode_calls {f : Fo} (hf : FoOk f) (b bs : Nat) (M : List Ob) {i : Nat} (hwf : WF f i) : CntN f b bs M i := by
  obtain ⟨hf1, hf2⟩ := id hf
  induction hwf with
  | @mk i hi hkn hkw ih =>
  intro ks hks
  have hwf : WF f i := .mk hi hkn hkw
  have hlt : i < ks.length := by rw [hks.len]; exact hi
  obtain ⟨s, hs⟩ : ∃ s, ks[i]? = some s := ⟨ks[i], List.getElem?_eq_getElem hlt⟩
  have hsA : (ints ks)[i * 1]? = some (A.int .i64 s) := by rw [Nat.mul_one]; exact ints_get hs
  have hti := trees_is hwf
  refine acalls_of_code 54 Try.func56 rfl rfl rfl ?_
  repeat (first | refine aops_end ?_ | refine aops_p tok rfl rfl rfl rfl ?_ | refine aops_ld tok 0 rfl rfl rfl rfl rfl rfl rfl rfl ?_ | refine acode_seq ?_ | refine acode_region ?_)
  refine aops_ixo tok rfl rfl rfl rfl (by omega) (by omega) rfl rfl rfl ?_
  refine aops_ld tok 1 (y := .int .i64 s) rfl rfl rfl rfl (by rw [headed_eq]; exact hsA) rfl rfl rfl ?_
  repeat' (first | refine aops_end ?_ | (refine aops_pd tok rfl rfl rfl rfl ?_ ?_ <;> intro e_) | refine aops_p tok rfl rfl rfl rfl ?_ | refine acode_it rfl ?_ | refine acode_if rfl ?_ | refine aops_ld tok 0 rfl rfl rfl rfl rfl rfl rfl rfl ?_ | refine acode_seq ?_ | refine acode_region ?_ | refine acode_skip ?_ | refine then_n ?_)
  · refine aops_ixo tok rfl rfl rfl rfl (by omega) (by omega) rfl rfl rfl ?_
    refine aops_ld tok 1 (y := .int .i64 s) rfl rfl rfl rfl (by rw [headed_eq]; exact hsA) rfl rfl rfl ?_
    repeat (first | refine aops_end ?_ | refine aops_p tok rfl rfl rfl rfl ?_)
    have : s = trees f i := by rcases hks.val i s hs with h | h; omega; exact h
    subst this
    refine acode_ret ?_
    repeat (refine ret_then ?_)
    exact ⟨_, ⟨rfl, ks, hks, rfl⟩, resOf_tmp rfl⟩
  · obtain ⟨nd, hnd, hndm, hal⟩ := nodes_at hi
    obtain ⟨hal1, hal2⟩ := hf2 nd hndm
    refine aops_ix tok (ndC nd) rfl rfl rfl rfl (by omega) (by omega) (by simp [ndC]) (nd_at hnd) rfl rfl rfl ?_
    repeat (first | refine aops_end ?_ | refine aops_p tok rfl rfl rfl rfl ?_ | refine acode_seq ?_ | refine acode_region ?_ | refine acode_block ?_)
    refine acode_loopS (ι := Nat × List Int) (fun p => [(0, .ref b 0), (1, .int .i64 i), (6, .psl nd.alts.length (encs alC nd.alts)), (5, .int .i64 (altsF (trees f) 0 (nd.alts.take p.1))), (7, .int .i64 p.1)]) (fun p => wkC f b bs p.2 M) (fun p => nd.alts.length - p.1) (fun p => p.1 ≤ nd.alts.length ∧ Kp f p.2) (0, ks) ⟨Nat.zero_le _, hks⟩ ⟨rfl, rfl, rfl, rfl, rfl, trivial⟩ rfl ?_
    clear hsA hs hlt hks ks
    rintro ⟨q, ks⟩ ⟨hq, hks⟩
    simp only at hq hks ⊢
    repeat (first | refine aops_end ?_ | refine aops_p tok rfl rfl rfl rfl ?_ | refine acode_seq ?_ | refine acode_region ?_)
    refine acode_id rfl (fun e2 => ?_) (fun e2 => ?_)
    · have hql : q < nd.alts.length := by omega
      obtain ⟨a, ha⟩ : ∃ a, nd.alts[q]? = some a := ⟨nd.alts[q], List.getElem?_eq_getElem hql⟩
      have ham := List.mem_of_getElem? ha
      have hkd : ∀ k : Nat, (k : Int) ∈ a.kids → Kid f i k := fun k hk => ⟨a, by rw [hal]; exact ham, hk⟩
      have hsum := altsF_add (trees f) ha
      have hsN : isN (altsF (trees f) 0 (nd.alts.take q)) := altsF_is _ _ ⟨by decide, by decide⟩ fun b hb k hk => trees_is (hkw k ⟨b, by rw [hal]; exact List.mem_of_mem_take hb, hk⟩)
      have haN : isN (altF (trees f) 1 a.kids) := altF_is _ _ ⟨by decide, by decide⟩ fun k hk => trees_is (hkw k (hkd k hk))
      repeat (first | refine aops_p tok rfl rfl rfl rfl ?_ | refine acode_seq ?_ | refine acode_region ?_ | refine acode_block ?_ | refine acode_skip ?_ | refine then_n ?_)
      refine aops_ix tok (alC a) rfl rfl rfl rfl (by omega) (by omega) (by simp [alC]) (al_at ha) rfl rfl rfl ?_
      repeat (refine aops_p tok rfl rfl rfl rfl ?_)
      refine aops_call Try.func91 rfl rfl rfl rfl (ralt_calls (by have := hal2 a ham; omega) (fun k hk => ⟨hkw k (hkd k hk), ih k (hkd k hk)⟩) hks) rfl rfl ?_
      rintro x M' ⟨rfl, ks2, hks2, rfl⟩
      repeat (refine aops_put rfl ?_)
      refine aops_callx Try.func90 rfl rfl rfl rfl (plus_calls hsN haN _) rfl rfl rfl ?_
      rw [← hsum]
      repeat (first | refine aops_end ?_ | refine aops_endb ?_ | refine aops_a tok rfl (by omega) (by omega) rfl rfl rfl ?_ | refine aops_p tok rfl rfl rfl rfl ?_ | refine acode_region ?_ | refine then_n ?_)
      exact ⟨(q + 1, ks2), ⟨by simp; omega, hks2⟩, by simp; omega, ⟨rfl, rfl, rfl, rfl, rfl, trivial⟩, rfl⟩
    · have hge : q = nd.alts.length := by omega
      subst hge
      have heq := trees_eq hwf
      rw [hal] at heq
      rw [List.take_length, ← heq]
      have hlt : i < ks.length := by rw [hks.len]; exact hi
      refine acode_exit ?_
      repeat (first | refine exit_then ?_ | refine exit_here ?_ | refine then_n ?_)
      repeat (first | refine aops_p tok rfl rfl rfl rfl ?_ | refine aops_ld tok 0 rfl rfl rfl rfl rfl rfl rfl rfl ?_ | refine acode_seq ?_ | refine acode_region ?_)
      refine aops_ixo tok rfl rfl rfl rfl (by omega) (by omega) rfl rfl rfl ?_
      refine aops_stk tok 1 (ints (ks.set i (trees f i))) (wkC f b bs (ks.set i (trees f i)) M) rfl rfl rfl rfl rfl rfl (by rw [ints_len]; show i * 1 + 1 ≤ _; omega) (ints_set1 hlt _) rfl rfl rfl ?_
      repeat (first | refine aops_end ?_ | refine aops_p tok rfl rfl rfl rfl ?_ | refine acode_seq ?_ | refine acode_region ?_)
      refine acode_ret ?_
      skip
      refine ⟨_, ⟨rfl, ks.set i (trees f i), ⟨by simp [hks.len], fun j x hx => ?_⟩, rfl⟩, resOf_tmp rfl⟩
      rw [List.getElem?_set] at hx
      by_cases h : i = j
      · subst h; rw [if_pos rfl, if_pos hlt] at hx; exact .inr (Option.some.inj hx).symm
      · rw [if_neg h] at hx; exact hks.val j x hx

theorem counts_calls {f : Fo} (hf : FoOk f) (M : List Ob) : ACalls Try.prog 55 [foA f] M (fun r M' => ∃ z : List Nat, r = .ref (z.headD 0) 0 ∧ M' = wkC f (z.headD 0) (z.getD 1 0) (List.replicate f.nodes.length (-1)) M) := by
  obtain ⟨hf1, hf2⟩ := id hf
  refine acalls_of_code 28 Try.func55 rfl rfl rfl ?_
  repeat (first | refine acode_seq ?_ | refine acode_region ?_)
  refine aops_boxf rfl rfl rfl rfl rfl rfl rfl ?_
  repeat (first | refine aops_end ?_ | refine aops_p tok rfl rfl rfl rfl ?_ | refine acode_seq ?_)
  refine acode_drawP [] 7 [0, 1, 2, 3, 4, 5, 6] [4, 6] mixed (by kernel_rfl) (by kernel_rfl) rfl ?_
  repeat (refine seqO_p tok rfl rfl rfl rfl rfl ?_)
  refine seqO_mk tok f.nodes.length rfl rfl rfl rfl rfl rfl rfl (by show _ * 8 ≤ _; omega) (by omega) (by simp) rfl rfl rfl fun bs => ?_
  repeat (refine seqO_p tok rfl rfl rfl rfl rfl ?_)
  refine seqO_boxo rfl rfl rfl rfl (by simp) rfl rfl rfl rfl fun b => ?_
  refine SeqO.done ?_
  repeat (refine aops_p tok rfl rfl rfl rfl ?_)
  refine aops_end ?_
  refine acode_M (M' := wkC f b bs (List.replicate f.nodes.length 0) M) (by simp only [wkC]; rw [← ints_zeros]; rfl) ?_
  repeat (first | refine aops_end ?_ | refine aops_p tok rfl rfl rfl rfl ?_ | refine acode_seq ?_ | refine acode_region ?_ | refine acode_block ?_)
  refine acode_loopS (ι := Nat) (fun p => [(3, .ref b 0), (4, .int .i64 p)]) (fun p => wkC f b bs (List.replicate p (-1) ++ List.replicate (f.nodes.length - p) 0) M) (fun p => f.nodes.length - p) (fun p => p ≤ f.nodes.length) 0 (Nat.zero_le _) ⟨rfl, rfl, trivial⟩ (by simp) ?_
  intro p hp
  repeat (first | refine aops_end ?_ | refine aops_p tok rfl rfl rfl rfl ?_ | refine aops_ld tok 0 rfl rfl rfl rfl rfl rfl rfl rfl ?_ | refine acode_seq ?_ | refine acode_region ?_)
  refine acode_id rfl (fun e => ?_) (fun e => ?_)
  · have hpl : p < f.nodes.length := by omega
    have hset : (List.replicate p (-1 : Int) ++ List.replicate (f.nodes.length - p) 0).set p (-1) = List.replicate (p + 1) (-1) ++ List.replicate (f.nodes.length - (p + 1)) 0 := by
      rw [List.set_append_right _ _ (by simp)]
      simp only [List.length_replicate, Nat.sub_self]
      rw [show f.nodes.length - p = (f.nodes.length - (p + 1)) + 1 from by omega, List.replicate_succ, List.set_cons_zero, List.replicate_succ', List.append_assoc]
      rfl
    have hlen : (List.replicate p (-1 : Int) ++ List.replicate (f.nodes.length - p) 0).length = f.nodes.length := by simp; omega
    generalize List.replicate p (-1 : Int) ++ List.replicate (f.nodes.length - p) 0 = ks at *
    repeat (first | refine aops_p tok rfl rfl rfl rfl ?_ | refine aops_ld tok 0 rfl rfl rfl rfl rfl rfl rfl rfl ?_ | refine acode_seq ?_ | refine acode_region ?_ | refine acode_block ?_ | refine acode_skip ?_ | refine then_n ?_)
    refine aops_ixo tok rfl rfl rfl rfl (by omega) (by omega) rfl rfl rfl ?_
    refine aops_stk tok 1 (ints (ks.set p (-1))) (wkC f b bs (ks.set p (-1)) M) rfl rfl rfl rfl rfl rfl (by rw [ints_len, hlen]; show p * 1 + 1 ≤ _; omega) (ints_set1 (by omega) _) rfl rfl rfl ?_
    repeat (first | refine aops_end ?_ | refine aops_endb ?_ | refine aops_a tok rfl (by omega) (by omega) rfl rfl rfl ?_ | refine aops_p tok rfl rfl rfl rfl ?_ | refine acode_region ?_ | refine then_n ?_)
    exact ⟨p + 1, by omega, by omega, ⟨rfl, rfl, trivial⟩, by rw [hset]⟩
  · have hge : p = f.nodes.length := by omega
    subst hge
    refine acode_exit ?_
    repeat (first | refine exit_then ?_ | refine exit_here ?_ | refine then_n ?_)
    repeat (first | refine aops_end ?_ | refine aops_p tok rfl rfl rfl rfl ?_ | refine acode_seq ?_ | refine acode_region ?_)
    refine acode_ret ?_
    skip
    exact ⟨_, ⟨[b, bs], rfl, by simp⟩, resOf_tmp rfl⟩

theorem rtrees_calls {f : Fo} (hf : FoOk f) (M : List Ob) : ACalls Try.prog 21 [foA f] M (fun r M' => (FForm f ∧ r = .tup [.int .i64 (trees f f.root.toNat), .bool (decide (trees f f.root.toNat < great))] ∨ ¬ FForm f ∧ r = .tup [.int .i64 0, .bool false]) ∧ M' = M) := by
  obtain ⟨hf1, hf2⟩ := id hf
  refine acalls_of_code 16 Try.func21 rfl rfl rfl ?_
  repeat (first | refine acode_seq ?_ | refine acode_region ?_)
  refine aops_boxf rfl rfl rfl rfl rfl rfl rfl ?_
  repeat (first | refine aops_end ?_ | refine aops_p tok rfl rfl rfl rfl ?_ | refine acode_seq ?_ | refine acode_region ?_)
  refine aops_call Try.func43 rfl rfl rfl rfl (rfform_calls hf M) rfl rfl ?_
  rintro x M' ⟨hx, hM⟩
  obtain rfl : M = M' := hM.symm
  rcases hx with ⟨h, rfl⟩ | ⟨h, rfl⟩
  · obtain ⟨⟨h0, h1⟩, hw⟩ := id h
    obtain ⟨r, hr⟩ : ∃ r : Nat, f.root = r := ⟨f.root.toNat, by omega⟩
    have hwr : WF f r := hw r (by omega)
    repeat' (first | refine aops_put rfl ?_ | refine aops_end ?_ | refine aops_p tok rfl rfl rfl rfl ?_ | refine acode_if rfl ?_ | refine acode_seq ?_ | refine acode_skip ?_ | refine then_n ?_)
    refine acode_drawP [] 4 [0, 2, 3, 1] [3] mixed (by kernel_rfl) (by kernel_rfl) rfl ?_
    repeat (refine seqO_p tok rfl rfl rfl rfl rfl ?_)
    refine seqO_callm (fun z => .ref (z.headD 0) 0) (fun z => wkC f (z.headD 0) (z.getD 1 0) (List.replicate f.nodes.length (-1)) []) rfl Try.func55 rfl rfl rfl rfl (counts_calls hf M) (by simp) rfl rfl rfl fun z => ?_
    refine SeqO.done ?_
    generalize z.headD 0 = b
    generalize z.getD 1 0 = bs
    rw [hr]
    refine aops_call Try.func56 rfl rfl rfl rfl (rnode_calls hf b bs M hwr _ ⟨by simp, fun j x hx => .inl ?_⟩) rfl rfl ?_
    · rw [List.getElem?_replicate] at hx
      split at hx
      · exact (Option.some.inj hx).symm
      · cases hx
    rintro x M' ⟨rfl, ks2, hks2, rfl⟩
    repeat (first | refine aops_put rfl ?_ | refine aops_end ?_ | refine aops_p tok rfl rfl rfl rfl ?_ | refine acode_seq ?_ | refine acode_region ?_)
    refine acode_drop0 (acode_drop0 (acode_ret ?_))
    skip
    exact ⟨_, ⟨.inl ⟨h, by rw [Int.toNat_natCast]; rfl⟩, rfl⟩, _, _, rfl, resOf_tmp rfl, resOf_tmp rfl⟩
  · repeat' (first | refine aops_put rfl ?_ | refine aops_end ?_ | refine aops_p tok rfl rfl rfl rfl ?_ | refine acode_it rfl ?_ | refine acode_seq ?_ | refine acode_region ?_)
    refine acode_ret ?_
    repeat (refine ret_then ?_)
    exact ⟨_, ⟨.inr ⟨h, rfl⟩, rfl⟩, _, _, rfl, resOf_tmp rfl, resOf_tmp rfl⟩
end Go.Proofs.Ytbnhmioijeagiaa.Ab
/- How large the largest tree is: the walk. No condition. -/
set_option linter.unusedVariables false
set_option linter.unusedSimpArgs false
namespace Go.Proofs.Ytbnhmioijeagiaa.Ab
attribute [local irreducible] thenA inBlockA ACode AOps put IntKind.wrap

theorem big_lim {f : Fo} {i : Nat} (h : WF f i) : big f i ≤ 1000000 → Lim f i := by
  induction h with
  | @mk i hi hk hs ih =>
    intro hb
    have hwf : WF f i := .mk hi hk hs
    have hbM : bigM = 1099511627776 := rfl
    have hbe := big_eq hwf
    unfold bigN at hbe
    have h2 : bigA (big f) 0 (altsOf f i) + 1 = big f i := by
      split at hbe
      · omega
      · exact hbe.symm
    have key : ∀ a ∈ altsOf f i, wgt (big f) a.kids ≤ 1000000 := fun a ha => by
      have h1 := (bigA_mem (g := big f) (altsOf f i) 0 a ha).1
      have h3 := bigK_exact (g := big f) a.kids 0 (fun k hm => (big_is (hs k ⟨a, ha, hm⟩)).1) (by omega)
      omega
    refine .mk (fun a ha => ?_) (fun k ⟨a, ha, hm⟩ => ih k ⟨a, ha, hm⟩ ?_)
    · have := wgt_len (g := big f) a.kids (fun k hm => (big_is (hs k ⟨a, ha, hm⟩)).1)
      have := key a ha
      omega
    · have := wgt_mem (g := big f) a.kids (fun k hm => (big_is (hs k ⟨a, ha, hm⟩)).1) k hm
      have := key a ha
      omega
/-- What the reference keeps. -/
structure Kb (f : Fo) (ks : List Int) : Prop where
  len : ks.length = f.nodes.length
  val : ∀ (j : Nat) x, ks[j]? = some x → x = 0 ∨ x = big f j
def BigN (f : Fo) (bs : Nat) (M : List Ob) (i : Nat) : Prop := ∀ ks, Kb f ks →
  ACalls Try.prog 44 [foA f, .own (some bs) f.nodes.length f.nodes.length, .int .i64 i] (⟨some bs, f.nodes.length * 1, ints ks⟩ :: M) (fun r M' => r = .int .i64 (big f i) ∧ ∃ ks', Kb f ks' ∧ M' = ⟨some bs, f.nodes.length * 1, ints ks'⟩ :: M)
theorem bigK_step {g : Nat → Int} {ks : List Int} {r : Nat} {k x : Int} (h : ks[r]? = some k) (hx : x < bigM) : bigK g x (ks.drop r) = bigK g (if 0 ≤ k then x + g k.toNat else x + 1) (ks.drop (r + 1)) := by
  rw [drop_at h]; simp only [bigK]; rw [if_pos hx]
theorem bigK_stop {g : Nat → Int} {ks : List Int} {r : Nat} {x : Int} (hx : ¬ x < bigM) : bigK g x (ks.drop r) = x := by
  cases h : ks.drop r with
  | nil => rfl
  | cons k l => simp only [bigK]; rw [if_neg hx]
theorem bigA_step {g : Nat → Int} {l : List Al} {q : Nat} {a : Al} {m : Int} (h : l[q]? = some a) : bigA g m (l.drop q) = bigA g (if bigK g 0 a.kids > m then bigK g 0 a.kids else m) (l.drop (q + 1)) := by
  rw [drop_at h]; rfl

set_option maxHeartbeats 8000000 in
theorem large_calls {f : Fo} (hf : FoOk f) (bs : Nat) (M : List Ob) {i : Nat} (hwf : WF f i) : BigN f bs M i := by
  obtain ⟨hf1, hf2⟩ := id hf
  induction hwf with
  | @mk i hi hkn hkw ih =>
  intro ks hks
  have hwf : WF f i := .mk hi hkn hkw
  have hbM : bigM = 1099511627776 := rfl
  have hlt : i < ks.length := by rw [hks.len]; exact hi
  obtain ⟨s, hs⟩ : ∃ s, ks[i]? = some s := ⟨ks[i], List.getElem?_eq_getElem hlt⟩
  have hsA : (ints ks)[i * 1]? = some (A.int .i64 s) := by rw [Nat.mul_one]; exact ints_get hs
  obtain ⟨hd1, hd2⟩ := big_is hwf
  refine acalls_of_code 84 Try.func44 rfl rfl rfl ?_
  repeat (first | refine acode_seq ?_ | refine acode_region ?_)
  refine aops_boxf rfl rfl rfl rfl rfl rfl rfl ?_
  repeat (first | refine aops_end ?_ | refine aops_p tok rfl rfl rfl rfl ?_ | refine acode_seq ?_ | refine acode_region ?_)
  refine aops_ixo tok rfl rfl rfl rfl (by omega) (by omega) rfl rfl rfl ?_
  refine aops_ld tok 0 (y := .int .i64 s) rfl rfl rfl rfl (by rw [headed_eq]; exact hsA) rfl rfl rfl ?_
  repeat' (first | refine aops_end ?_ | (refine aops_pd tok rfl rfl rfl rfl ?_ ?_ <;> intro e_) | refine aops_p tok rfl rfl rfl rfl ?_ | refine acode_it rfl ?_ | refine acode_if rfl ?_ | refine acode_seq ?_ | refine acode_region ?_ | refine acode_skip ?_ | refine then_n ?_)
  · refine aops_ixo tok rfl rfl rfl rfl (by omega) (by omega) rfl rfl rfl ?_
    refine aops_ld tok 0 (y := .int .i64 s) rfl rfl rfl rfl (by rw [headed_eq]; exact hsA) rfl rfl rfl ?_
    repeat (first | refine aops_end ?_ | refine aops_p tok rfl rfl rfl rfl ?_)
    have : s = big f i := by rcases hks.val i s hs with h | h; omega; exact h
    subst this
    refine acode_ret ?_
    repeat (refine ret_then ?_)
    exact ⟨_, ⟨rfl, ks, hks, rfl⟩, resOf_tmp rfl⟩
  · obtain ⟨nd, hnd, hndm, hal⟩ := nodes_at hi
    obtain ⟨hal1, hal2⟩ := hf2 nd hndm
    have heq := big_eq hwf
    unfold bigN at heq
    rw [hal] at heq
    have hkd : ∀ a ∈ nd.alts, ∀ k : Nat, (k : Int) ∈ a.kids → Kid f i k := fun a ha k hk => ⟨a, by rw [hal]; exact ha, hk⟩
    refine aops_ix tok (ndC nd) rfl rfl rfl rfl (by omega) (by omega) (by simp [ndC]) (nd_at hnd) rfl rfl rfl ?_
    repeat (first | refine aops_end ?_ | refine aops_p tok rfl rfl rfl rfl ?_ | refine acode_seq ?_ | refine acode_region ?_ | refine acode_block ?_)
    refine acode_loopS (ι := Nat × Int × List Int) (fun p => [(1, .own (some bs) f.nodes.length f.nodes.length), (2, .int .i64 i), (3, .pp (foC f)), (8, .psl nd.alts.length (encs alC nd.alts)), (7, .int .i64 p.2.1), (9, .int .i64 p.1)]) (fun p => ⟨some bs, f.nodes.length * 1, ints p.2.2⟩ :: M) (fun p => nd.alts.length - p.1) (fun p => p.1 ≤ nd.alts.length ∧ Kb f p.2.2 ∧ (0 ≤ p.2.1 ∧ p.2.1 ≤ 2 * bigM) ∧ bigA (big f) p.2.1 (nd.alts.drop p.1) = bigA (big f) 0 nd.alts) (0, 0, ks) ⟨Nat.zero_le _, hks, ⟨show (0 : Int) ≤ 0 from by decide, show (0 : Int) ≤ 2 * bigM from by decide⟩, rfl⟩ ⟨rfl, rfl, rfl, rfl, rfl, rfl, trivial⟩ rfl ?_
    clear hsA hs hlt hks ks
    rintro ⟨q, m, ks⟩ ⟨hq, hks, hm, hgo⟩
    simp only at hq hks hm hgo ⊢
    repeat (first | refine aops_end ?_ | refine aops_p tok rfl rfl rfl rfl ?_ | refine acode_seq ?_ | refine acode_region ?_)
    refine acode_id rfl (fun e2 => ?_) (fun e2 => ?_)
    · have hql : q < nd.alts.length := by omega
      obtain ⟨a, ha⟩ : ∃ a, nd.alts[q]? = some a := ⟨nd.alts[q], List.getElem?_eq_getElem hql⟩
      have ham := List.mem_of_getElem? ha
      have hkl := hal2 a ham
      rw [bigA_step ha] at hgo
      refine acode_skip ?_
      repeat (refine then_n ?_)
      refine acode_seq ?_
      refine acode_block ?_
      refine acode_seq ?_
      refine acode_region ?_
      repeat (refine aops_p tok rfl rfl rfl rfl ?_)
      refine aops_end ?_
      refine acode_seq ?_
      refine acode_joinI (ι := List Int) (fun _ => [(1, .own (some bs) f.nodes.length f.nodes.length), (2, .int .i64 i), (3, .pp (foC f)), (8, .psl nd.alts.length (encs alC nd.alts)), (7, .int .i64 m), (9, .int .i64 q), (10, .int .i64 (bigK (big f) 0 a.kids))]) (fun ks => ⟨some bs, f.nodes.length * 1, ints ks⟩ :: M) (Kb f) ?_ ?_
      · repeat (first | refine aops_end ?_ | refine aops_p tok rfl rfl rfl rfl ?_ | refine acode_seq ?_ | refine acode_region ?_ | refine acode_block ?_)
        refine acode_loopS (ι := Nat × Int × List Int) (fun p => [(1, .own (some bs) f.nodes.length f.nodes.length), (2, .int .i64 i), (3, .pp (foC f)), (8, .psl nd.alts.length (encs alC nd.alts)), (7, .int .i64 m), (9, .int .i64 q), (11, .int .i64 p.1), (10, .int .i64 p.2.1)]) (fun p => ⟨some bs, f.nodes.length * 1, ints p.2.2⟩ :: M) (fun p => a.kids.length - p.1) (fun p => p.1 ≤ a.kids.length ∧ Kb f p.2.2 ∧ (0 ≤ p.2.1 ∧ p.2.1 ≤ 2 * bigM) ∧ bigK (big f) p.2.1 (a.kids.drop p.1) = bigK (big f) 0 a.kids) (0, 0, ks) ⟨Nat.zero_le _, hks, ⟨show (0 : Int) ≤ 0 from by decide, show (0 : Int) ≤ 2 * bigM from by decide⟩, rfl⟩ ⟨rfl, rfl, rfl, rfl, rfl, rfl, rfl, rfl, trivial⟩ rfl ?_
        clear hks ks
        rintro ⟨r, x, ks⟩ ⟨hr, hks, hx, hgo2⟩
        simp only at hr hks hx hgo2 ⊢
        repeat (first | refine aops_p tok rfl rfl rfl rfl ?_ | refine acode_seq ?_ | refine acode_region ?_)
        refine aops_ix tok (alC a) rfl rfl rfl rfl (by omega) (by omega) (by simp [alC]) (al_at ha) rfl rfl rfl ?_
        repeat' (first | refine aops_end ?_ | refine aops_o rfl rfl rfl ?_ | (refine aops_pd tok rfl rfl rfl rfl ?_ ?_ <;> intro e_) | refine aops_p tok rfl rfl rfl rfl ?_ | refine acode_it rfl ?_ | refine acode_if rfl ?_ | refine acode_seq ?_ | refine acode_region ?_ | refine acode_block ?_ | refine acode_skip ?_ | refine then_n ?_)
        · -- on
          have hrl : r < a.kids.length := by omega
          have hxM : x < bigM := by omega
          obtain ⟨k, hk⟩ : ∃ k, a.kids[r]? = some k := ⟨a.kids[r], List.getElem?_eq_getElem hrl⟩
          have hkm := List.mem_of_getElem? hk
          rw [bigK_step hk hxM] at hgo2
          refine aops_ix tok (alC a) rfl rfl rfl rfl (by omega) (by omega) (by simp [alC]) (al_at ha) rfl rfl rfl ?_
          repeat (refine aops_p tok rfl rfl rfl rfl ?_)
          refine aops_ix tok [A.int .i64 k] rfl rfl rfl rfl (by omega) (by omega) (by simp) (ints_at (j := r) (by simpa using hk)) rfl rfl rfl ?_
          repeat' (first | refine aops_end ?_ | refine aops_endb ?_ | refine aops_a tok rfl (by omega) (by omega) rfl rfl rfl ?_ | (refine aops_pd tok rfl rfl rfl rfl ?_ ?_ <;> intro e_) | refine aops_p tok rfl rfl rfl rfl ?_ | refine acode_it rfl ?_ | refine acode_if rfl ?_ | refine acode_region ?_ | refine then_n ?_)
          · rw [if_neg (by omega)] at hgo2
            exact ⟨(r + 1, x + 1, ks), ⟨by simp only; omega, hks, by simp only; omega, hgo2⟩, by simp only; omega, ⟨rfl, rfl, rfl, rfl, rfl, rfl, rfl, rfl, trivial⟩, rfl⟩
          · obtain ⟨k', rfl⟩ : ∃ k' : Nat, k = k' := ⟨k.toNat, by omega⟩
            rw [if_pos (by omega), Int.toNat_natCast] at hgo2
            have hkk := hkd a ham k' hkm
            obtain ⟨hk1, hk2⟩ := big_is (hkw k' hkk)
            obtain ⟨dk, hdk1, hdk2⟩ := decP (Kb f) hks
            refine acode_drawP [] 12 [0, 1, 2, 3, 4, 5, 6, 7, 8, 9, 10, 11] [11] mixed (by kernel_rfl) (by kernel_rfl) rfl ?_
            repeat (refine seqO_p tok rfl rfl rfl rfl rfl ?_)
            refine seqO_ix tok (alC a) rfl rfl rfl rfl rfl (by omega) (by omega) (by simp [alC]) (al_at ha) rfl rfl rfl ?_
            repeat (refine seqO_p tok rfl rfl rfl rfl rfl ?_)
            refine seqO_ix tok [A.int .i64 k'] rfl rfl rfl rfl rfl (by omega) (by omega) (by simp) (ints_at (j := r) (by simpa using hk)) rfl rfl rfl ?_
            repeat (refine seqO_p tok rfl rfl rfl rfl rfl ?_)
            refine seqO_callw (fun _ => .int .i64 (big f k')) (fun z => ⟨some bs, f.nodes.length * 1, ints (dk z)⟩ :: M) rfl Try.func44 rfl rfl rfl rfl ((ih k' hkk ks hks).mono ?_) (by simp) rfl rfl rfl fun z => ?_
            · rintro r M' ⟨rfl, ks', hks', rfl⟩
              obtain ⟨z, hz⟩ := hdk2 ks' hks'
              exact ⟨z, rfl, by rw [hz]⟩
            refine SeqO.done ?_
            repeat (first | refine aops_end ?_ | refine aops_endb ?_ | refine aops_a tok rfl (by omega) (by omega) rfl rfl rfl ?_ | refine aops_p tok rfl rfl rfl rfl ?_ | refine acode_region ?_ | refine then_n ?_)
            exact ⟨(r + 1, x + big f k', dk z), ⟨by simp only; omega, hdk1 z, by simp only; omega, hgo2⟩, by simp only; omega, ⟨rfl, rfl, rfl, rfl, rfl, rfl, rfl, rfl, trivial⟩, rfl⟩
        · rw [bigK_stop (by omega)] at hgo2
          subst hgo2
          refine acode_exit ?_
          repeat (first | refine exit_then ?_ | refine exit_here ?_ | refine then_n ?_)
          exact ⟨ks, hks, ⟨rfl, rfl, rfl, rfl, rfl, rfl, rfl, trivial⟩, rfl⟩
        · have hge : r = a.kids.length := by omega
          subst hge
          rw [List.drop_length] at hgo2
          have hgo2 : x = bigK (big f) 0 a.kids := hgo2
          subst hgo2
          refine acode_exit ?_
          repeat (first | refine exit_then ?_ | refine exit_here ?_ | refine then_n ?_)
          exact ⟨ks, hks, ⟨rfl, rfl, rfl, rfl, rfl, rfl, rfl, trivial⟩, rfl⟩
      · clear hks ks
        intro ks hks
        have hb := bigK_is (g := big f) a.kids 0 ⟨by decide, by decide⟩ (fun k hk => by have := big_is (hkw k (hkd a ham k hk)); exact ⟨by omega, this.2⟩)
        generalize bigK (big f) 0 a.kids = x at *
        repeat' (first | refine aops_end ?_ | refine aops_endb ?_ | refine aops_a tok rfl (by omega) (by omega) rfl rfl rfl ?_ | (refine aops_pd tok rfl rfl rfl rfl ?_ ?_ <;> intro e_) | refine aops_p tok rfl rfl rfl rfl ?_ | refine acode_it rfl ?_ | refine acode_if rfl ?_ | refine acode_seq ?_ | refine acode_region ?_ | refine acode_skip ?_ | refine then_n ?_ | refine block_n ?_)
        · rw [if_pos (by omega)] at hgo
          exact ⟨(q + 1, x, ks), ⟨by simp only; omega, hks, hb, hgo⟩, by simp only; omega, ⟨rfl, rfl, rfl, rfl, rfl, rfl, trivial⟩, rfl⟩
        · rw [if_neg (by omega)] at hgo
          exact ⟨(q + 1, m, ks), ⟨by simp only; omega, hks, hm, hgo⟩, by simp only; omega, ⟨rfl, rfl, rfl, rfl, rfl, rfl, trivial⟩, rfl⟩
    · have hge : q = nd.alts.length := by omega
      subst hge
      rw [List.drop_length] at hgo
      have hgo : m = bigA (big f) 0 nd.alts := hgo
      rw [← hgo] at heq
      have hlt : i < ks.length := by rw [hks.len]; exact hi
      have fin : ∀ v, v = big f i → Kb f (ks.set i v) := fun v hv => ⟨by simp [hks.len], fun j x hx => by
        rw [List.getElem?_set] at hx
        by_cases h : i = j
        · subst h; rw [if_pos rfl, if_pos hlt] at hx; rw [← hv]; exact .inr (Option.some.inj hx).symm
        · rw [if_neg h] at hx; exact hks.val j x hx⟩
      refine acode_exit ?_
      repeat (first | refine exit_then ?_ | refine exit_here ?_ | refine then_n ?_)
      repeat' (first | refine aops_end ?_ | refine aops_a tok rfl (by omega) (by omega) rfl rfl rfl ?_ | (refine aops_pd tok rfl rfl rfl rfl ?_ ?_ <;> intro e_) | refine aops_p tok rfl rfl rfl rfl ?_ | refine acode_it rfl ?_ | refine acode_if rfl ?_ | refine acode_seq ?_ | refine acode_region ?_ | refine acode_skip ?_ | refine then_n ?_)
      · rw [if_pos (by omega)] at heq
        refine aops_ixo tok rfl rfl rfl rfl (by omega) (by omega) rfl rfl rfl ?_
        refine aops_sto tok (ints (ks.set i (1099511627775 + 1))) rfl rfl rfl rfl rfl (by rw [ints_len]; show i * 1 + 1 ≤ _; omega) (ints_set1 hlt _) rfl rfl ?_
        repeat (first | refine aops_end ?_ | refine aops_a tok rfl (by omega) (by omega) rfl rfl rfl ?_ | refine aops_p tok rfl rfl rfl rfl ?_ | refine acode_seq ?_ | refine acode_region ?_)
        refine acode_ret ?_
        skip
        exact ⟨.int .i64 (1099511627775 + 1), ⟨by rw [heq]; rfl, _, fin _ (by rw [heq]; rfl), rfl⟩, resOf_tmp rfl⟩
      · rw [if_neg (by omega)] at heq
        refine aops_ixo tok rfl rfl rfl rfl (by omega) (by omega) rfl rfl rfl ?_
        refine aops_sto tok (ints (ks.set i (m + 1))) rfl rfl rfl rfl rfl (by rw [ints_len]; show i * 1 + 1 ≤ _; omega) (ints_set1 hlt _) rfl rfl ?_
        repeat (first | refine aops_end ?_ | refine aops_a tok rfl (by omega) (by omega) rfl rfl rfl ?_ | refine aops_p tok rfl rfl rfl rfl ?_ | refine acode_seq ?_ | refine acode_region ?_)
        refine acode_ret ?_
        skip
        exact ⟨.int .i64 (m + 1), ⟨by rw [heq], _, fin _ heq.symm, rfl⟩, resOf_tmp rfl⟩

theorem largest_calls {f : Fo} (hf : FoOk f) (M : List Ob) : ACalls Try.prog 14 [foA f] M (fun r M' => (FForm f ∧ r = .int .i64 (big f f.root.toNat) ∨ ¬ FForm f ∧ r = .int .i64 0) ∧ M' = M) := by
  obtain ⟨hf1, hf2⟩ := id hf
  refine acalls_of_code 14 Try.func14 rfl rfl rfl ?_
  repeat (first | refine acode_seq ?_ | refine acode_region ?_)
  refine aops_boxf rfl rfl rfl rfl rfl rfl rfl ?_
  repeat (first | refine aops_end ?_ | refine aops_p tok rfl rfl rfl rfl ?_ | refine acode_seq ?_ | refine acode_region ?_)
  refine aops_call Try.func43 rfl rfl rfl rfl (rfform_calls hf M) rfl rfl ?_
  rintro x M' ⟨hx, hM⟩
  obtain rfl : M = M' := hM.symm
  rcases hx with ⟨h, rfl⟩ | ⟨h, rfl⟩
  · obtain ⟨⟨h0, h1⟩, hw⟩ := id h
    obtain ⟨r, hr⟩ : ∃ r : Nat, f.root = r := ⟨f.root.toNat, by omega⟩
    have hwr : WF f r := hw r (by omega)
    repeat' (first | refine aops_put rfl ?_ | refine aops_end ?_ | refine aops_p tok rfl rfl rfl rfl ?_ | refine acode_if rfl ?_ | refine acode_seq ?_ | refine acode_skip ?_ | refine then_n ?_)
    refine acode_drawP [] 7 [0, 1, 2, 3, 5, 6, 4] [6] mixed (by kernel_rfl) (by kernel_rfl) rfl ?_
    repeat (refine seqO_p tok rfl rfl rfl rfl rfl ?_)
    refine seqO_mk tok f.nodes.length rfl rfl rfl rfl rfl rfl rfl (by show _ * 8 ≤ _; omega) (by omega) (by simp) rfl rfl rfl fun bs => ?_
    refine SeqO.done ?_
    refine aops_M (M' := ⟨some bs, f.nodes.length * 1, ints (List.replicate f.nodes.length 0)⟩ :: M) (by rw [← ints_zeros]; rfl) ?_
    have hdc := large_calls hf bs M hwr (List.replicate f.nodes.length 0) ⟨by simp, fun j x hx => .inl (count_zeros _ _ _ hx)⟩
    rw [← hr] at hdc
    refine aops_call Try.func44 rfl rfl rfl rfl hdc rfl rfl ?_
    rintro x M' ⟨rfl, ks2, hks2, rfl⟩
    repeat (first | refine aops_put rfl ?_ | refine aops_end ?_ | refine aops_p tok rfl rfl rfl rfl ?_)
    refine acode_drop0 (acode_ret ?_)
    skip
    exact ⟨.int .i64 (big f r), ⟨.inl ⟨h, by rw [hr, Int.toNat_natCast]⟩, rfl⟩, resOf_tmp rfl⟩
  · repeat' (first | refine aops_put rfl ?_ | refine aops_end ?_ | refine aops_p tok rfl rfl rfl rfl ?_ | refine acode_it rfl ?_ | refine acode_seq ?_ | refine acode_region ?_)
    refine acode_ret ?_
    repeat (refine ret_then ?_)
    exact ⟨_, ⟨.inr ⟨h, rfl⟩, rfl⟩, resOf_tmp rfl⟩
end Go.Proofs.Ytbnhmioijeagiaa.Ab

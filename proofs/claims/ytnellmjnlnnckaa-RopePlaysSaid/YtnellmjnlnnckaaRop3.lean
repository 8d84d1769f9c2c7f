/- Chapter 2's ropes: a rope of bytes, two ropes joined: what is made, in plain terms, and the walk. No condition. -/
import Derived.Test.YtnellmjnlnnckaaRop2
set_option linter.unusedVariables false
set_option linter.unusedSimpArgs false
namespace Go.Proofs.Ytnellmjnlnnckaa.Ab
section
variable {P : Program} {T : List TI} {N : Nat} {ops : Array Oper} {o : Oper} {rest : List Oper} {Q : Exit → St → Prop} {E F : Env} {M : List Ob}
theorem seqO_sl (hT : TOk P T) {kp : List Ob} {al : List Nat} {q : Nat} {ll : List Oper} {m d : Nat} (n' : Nat) (cs' : List A) {t e : Nat} {ei : TI} {x : Operand} {lo hi' : Option Operand} {n : Nat} {cs : List A} {l h' : Int} (hq : al.contains q = false) (ho : o.op = .slice t x lo hi' none) (hs : sliceOf T t = some (e, ei)) (hx : opA F x = .psl n cs)
    (hl : loOf F lo = some l) (hh : hiOf F n hi' = some h') (h0 : 0 ≤ l) (h1 : l ≤ h') (h2 : h' ≤ n) (hn' : n' = h'.toNat - l.toNat) (hcs : cs.length = n * ei.size) (hcs' : (cs.drop (l.toNat * ei.size)).take (n' * ei.size) = cs')
    (hg : guardOn ops o F = some true) (hd : o.dst = some d) (hN : Nat.blt d N = true) (next : SeqO P N ops Q kp al (q + 1) ((d, .psl n' cs') :: F) M m ll) : SeqO P N ops Q kp al q F M (m + 1) (o :: ll) :=
  seqO_y hq (fun M' => yields_slice hT ho hs hx hl hh h0 h1 h2 n' cs' hn' hcs hcs' hg (by rw [hd]; exact hN)) hd next
end
attribute [local irreducible] thenA inBlockA ACode AOps put IntKind.wrap

theorem u8_take {b : List Int} {m : Nat} (h : m ≤ b.length) : ((u8s b).drop ((0 : Int).toNat * 1)).take ((b.take m).length * 1) = u8s (b.take m) := by
  rw [List.length_take, Nat.min_eq_left h]; simp [u8s_take]
theorem u8_drop {b : List Int} {j : Int} {m : Nat} (hj : j.toNat = m) : ((u8s b).drop (j.toNat * 1)).take ((b.drop m).length * 1) = u8s (b.drop m) := by
  rw [Nat.mul_one, Nat.mul_one, hj, u8s_drop, List.take_of_length_le (by rw [u8s_len]; omega)]
/-! ### build -/
def cutB (n : Nat) : Nat := (n + 63) / 64 / 2 * 64
theorem cutB_lt {n : Nat} (h : 64 < n) : 64 ≤ cutB n ∧ cutB n < n := by
  unfold cutB; omega
def buildF (b : List Int) : RT := if h : b.length ≤ 64 then .lf b else .nd (buildF (b.take (cutB b.length))) (buildF (b.drop (cutB b.length)))
termination_by b.length
decreasing_by
  · have := cutB_lt (n := b.length) (by omega); rw [List.length_take]; omega
  · have := cutB_lt (n := b.length) (by omega); rw [List.length_drop]; omega
theorem buildF_txt (b : List Int) : (buildF b).txt = b := by
  induction hn : b.length using Nat.strongRecOn generalizing b with
  | _ n ih =>
    rw [buildF]
    split
    · rfl
    · rename_i h
      have := cutB_lt (n := b.length) (by omega)
      rw [RT.txt, ih _ (by rw [List.length_take]; omega) _ rfl, ih _ (by rw [List.length_drop]; omega) _ rfl, List.take_append_drop]
/-- No leaf is empty. -/
def RT.Full : RT → Prop
  | .lf b => b ≠ []
  | .nd l r => l.Full ∧ r.Full
def RT.Av : RT → Prop
  | .lf _ => True
  | .nd l r => l.Av ∧ r.Av ∧ l.ht ≤ r.ht + 1 ∧ r.ht ≤ l.ht + 1
theorem RT.ht_pos : ∀ t : RT, 1 ≤ t.ht
  | .lf _ => Nat.le_refl _
  | .nd l r => by rw [RT.ht]; omega
theorem RT.Full.le : ∀ {t : RT}, t.Full → t.ht ≤ t.sz
  | .lf b, h => by
    have : b ≠ [] := h
    have := List.length_pos_iff.2 this
    show 1 ≤ b.length
    omega
  | .nd l r, h => by
    have h1 := RT.Full.le h.1
    have h2 := RT.Full.le h.2
    have := l.ht_pos; have := r.ht_pos
    simp only [RT.ht, RT.sz, RT.txt, List.length_append] at *
    omega
/-- A rope as they are made: even, and with no empty leaf unless it is one. -/
def RT.Ok (t : RT) : Prop := t.Av ∧ (t.Full ∨ t = .lf [])
theorem RT.Ok.le {t : RT} (h : t.Ok) : t.ht ≤ t.sz + 1 := by
  rcases h.2 with h | rfl
  · exact Nat.le_succ_of_le h.le
  · exact Nat.le_refl _
theorem RT.Full.pos {t : RT} (h : t.Full) : 0 < t.sz := by have := h.le; have := t.ht_pos; omega
theorem RT.Ok.full {t : RT} (h : t.Ok) (h0 : t.sz ≠ 0) : t.Full := by
  rcases h.2 with h | rfl
  · exact h
  · exact absurd rfl h0
/-- How high such a rope is, by its leaves alone. -/
def leavesN (n : Nat) : Nat := (n + 63) / 64
def htN (k : Nat) : Nat := if k ≤ 1 then 1 else 1 + max (htN (k / 2)) (htN (k - k / 2))
termination_by k
decreasing_by all_goals omega
theorem htN_one {k : Nat} (h : k ≤ 1) : htN k = 1 := by rw [htN, if_pos h]
theorem htN_two {k : Nat} (h : ¬ k ≤ 1) : htN k = 1 + max (htN (k / 2)) (htN (k - k / 2)) := by rw [htN, if_neg h]
theorem htN_mono : ∀ (n k : Nat), k ≤ n → htN k ≤ htN (k + 1) ∧ htN (k + 1) ≤ htN k + 1
  | 0, k, h => by
    rw [htN_one (k := k) (by omega), htN_one (k := k + 1) (by omega)]; omega
  | n + 1, k, h => by
    by_cases h1 : k ≤ 1
    · rw [htN_one h1]
      by_cases h2 : k + 1 ≤ 1
      · rw [htN_one h2]; omega
      · rw [htN_two h2, htN_one (k := (k + 1) / 2) (by omega), htN_one (k := k + 1 - (k + 1) / 2) (by omega)]; omega
    · rw [htN_two (k := k + 1) (by omega), htN_two h1]
      by_cases hk : k % 2 = 0
      · have e1 : (k + 1) / 2 = k / 2 := by omega
        have e2 : k + 1 - (k + 1) / 2 = k - k / 2 + 1 := by omega
        rw [e2, e1]
        have := htN_mono n (k - k / 2) (by omega)
        omega
      · have e1 : (k + 1) / 2 = k / 2 + 1 := by omega
        have e2 : k + 1 - (k + 1) / 2 = k - k / 2 := by omega
        rw [e2, e1]
        have := htN_mono n (k / 2) (by omega)
        omega
theorem buildF_ok (b : List Int) : (buildF b).Ok ∧ (buildF b).ht = htN (leavesN b.length) := by
  induction hn : b.length using Nat.strongRecOn generalizing b with
  | _ n ih =>
    subst hn
    rw [buildF]
    split
    · rename_i h
      refine ⟨⟨trivial, ?_⟩, ?_⟩
      · by_cases h0 : b = []
        · exact .inr (by rw [h0])
        · exact .inl h0
      · rw [htN_one (by unfold leavesN; omega)]; rfl
    · rename_i h
      have hc := cutB_lt (n := b.length) (by omega)
      obtain ⟨a1, a2⟩ := ih _ (by rw [List.length_take]; omega) (b.take (cutB b.length)) rfl
      obtain ⟨b1, b2⟩ := ih _ (by rw [List.length_drop]; omega) (b.drop (cutB b.length)) rfl
      rw [List.length_take, Nat.min_eq_left (by omega)] at a2
      rw [List.length_drop] at b2
      have e1 : leavesN (cutB b.length) = leavesN b.length / 2 := by unfold leavesN cutB; omega
      have e2 : leavesN (b.length - cutB b.length) = leavesN b.length - leavesN b.length / 2 := by unfold leavesN cutB; omega
      rw [e1] at a2
      rw [e2] at b2
      have f1 : (buildF (b.take (cutB b.length))).Full := a1.full (by rw [RT.sz, buildF_txt, List.length_take]; omega)
      have f2 : (buildF (b.drop (cutB b.length))).Full := b1.full (by rw [RT.sz, buildF_txt, List.length_drop]; omega)
      have hk : ¬ leavesN b.length ≤ 1 := by unfold leavesN; omega
      have hm := htN_mono (leavesN b.length) (leavesN b.length / 2) (by omega)
      have hd : leavesN b.length - leavesN b.length / 2 = leavesN b.length / 2 ∨ leavesN b.length - leavesN b.length / 2 = leavesN b.length / 2 + 1 := by omega
      refine ⟨⟨⟨a1.1, b1.1, ?_, ?_⟩, .inl ⟨f1, f2⟩⟩, ?_⟩
      · rw [a2, b2]; rcases hd with h | h <;> rw [h] <;> omega
      · rw [a2, b2]; rcases hd with h | h <;> rw [h] <;> omega
      · rw [RT.ht, a2, b2, htN_two hk]

set_option maxHeartbeats 4000000 in
theorem build_calls {mb : Nat} : ∀ (n : Nat) {b : List Int} {c : Int}, b.length ≤ n → bytesB b → b.length ≤ 1000000 → ∀ (M : List Ob), ACalls Try.prog 57 [.psl b.length (u8s b), .ref mb 0] (cnt mb c :: M) (fun r M' => ∃ c', r = ropeA mb (buildF b) ∧ M' = cnt mb c' :: M)
  | n, b, c, hn, hb, hl, M => by
    by_cases h : b.length ≤ 64
    · have e : buildF b = .lf b := by rw [buildF, dif_pos h]
      rw [e]
      refine acalls_of_code 32 Try.func57 rfl rfl rfl ?_
      repeat' (first | refine aops_put rfl ?_ | refine aops_end ?_ | refine aops_endb ?_ | refine aops_o rfl rfl rfl ?_ | refine aops_max tok rfl rfl rfl rfl rfl rfl ?_ | refine aops_min tok rfl rfl rfl rfl rfl rfl ?_ | refine aops_a tok rfl (by omega) (by omega) rfl rfl rfl ?_ | refine aops_pbt tok rfl (by first | omega | decide) rfl rfl rfl ?_ | refine aops_pbf tok rfl (by first | omega | decide) rfl rfl rfl ?_ | refine aops_pet tok rfl (by omega) rfl rfl rfl ?_ | refine aops_pef tok rfl (by omega) rfl rfl rfl ?_ | (refine aops_pd tok rfl rfl rfl rfl ?_ ?_ <;> intro e_) | (refine aops_pe tok rfl rfl rfl rfl ?_ ?_ <;> intro e_) | (refine aops_pn tok rfl rfl rfl rfl ?_ ?_ <;> intro e_) | refine aops_p tok rfl rfl rfl rfl ?_ | refine acode_it rfl ?_ | refine acode_if rfl ?_ | refine aops_ixa tok rfl rfl rfl (by decide) rfl rfl rfl rfl ?_ | refine aops_ld tok 0 rfl rfl rfl rfl rfl rfl rfl rfl ?_ | refine aops_ld tok 1 rfl rfl rfl rfl rfl rfl rfl rfl ?_ | refine aops_stn tok rfl rfl rfl rfl rfl rfl rfl rfl rfl ?_ | refine aops_stn1 tok rfl rfl rfl rfl rfl rfl rfl rfl rfl ?_ | refine acode_seq ?_ | refine acode_region ?_ | refine acode_block ?_ | refine acode_skip ?_ | refine then_n ?_ | refine block_n ?_)
      all_goals try (exfalso; omega)
      refine aops_call Try.func71 rfl rfl rfl rfl (leaf_calls hb hl M) rfl rfl ?_
      rintro x M' ⟨c', rfl, rfl⟩
      repeat (first | refine aops_put rfl ?_ | refine aops_end ?_ | refine aops_endb ?_ | refine aops_o rfl rfl rfl ?_ | refine aops_max tok rfl rfl rfl rfl rfl rfl ?_ | refine aops_min tok rfl rfl rfl rfl rfl rfl ?_ | refine aops_a tok rfl (by omega) (by omega) rfl rfl rfl ?_ | refine aops_p tok rfl rfl rfl rfl ?_ | refine aops_ixa tok rfl rfl rfl (by decide) rfl rfl rfl rfl ?_ | refine aops_ld tok 0 rfl rfl rfl rfl rfl rfl rfl rfl ?_ | refine aops_ld tok 1 rfl rfl rfl rfl rfl rfl rfl rfl ?_ | refine aops_stn tok rfl rfl rfl rfl rfl rfl rfl rfl rfl ?_ | refine aops_stn1 tok rfl rfl rfl rfl rfl rfl rfl rfl rfl ?_ | refine acode_seq ?_ | refine acode_region ?_ | refine acode_block ?_ | refine acode_skip ?_ | refine then_n ?_ | refine block_n ?_)
      refine acode_ret ?_
      repeat (first | refine exit_then ?_ | refine exit_here ?_ | refine exit_out rfl ?_ | refine ret_then ?_ | refine ret_block ?_ | refine then_n ?_ | refine block_n ?_)
      exact ⟨_, ⟨c', rfl, rfl⟩, resOf_tmp rfl⟩
    · have e : buildF b = .nd (buildF (b.take (cutB b.length))) (buildF (b.drop (cutB b.length))) := by rw [buildF, dif_neg h]
      rw [e]
      obtain ⟨h1, h2⟩ := cutB_lt (n := b.length) (by omega)
      obtain ⟨n', rfl⟩ : ∃ n', n = n' + 1 := ⟨n - 1, by omega⟩
      have e1 : ((b.length : Int) + 64 - 1) / 64 = ((b.length + 63) / 64 : Nat) := by omega
      have e2 : (((b.length + 63) / 64 : Nat) : Int) / 2 = ((b.length + 63) / 64 / 2 : Nat) := by omega
      have e3 : (((b.length + 63) / 64 / 2 : Nat) : Int) * 64 = (cutB b.length : Nat) := by unfold cutB; omega
      have c1 := fun c => build_calls (mb := mb) (c := c) n' (b := b.take (cutB b.length)) (by rw [List.length_take]; omega) (bytesB_take hb _) (by rw [List.length_take]; omega) M
      have c2 := fun c => build_calls (mb := mb) (c := c) n' (b := b.drop (cutB b.length)) (by rw [List.length_drop]; omega) (bytesB_drop hb _) (by rw [List.length_drop]; omega) M
      have t1 := buildF_txt (b.take (cutB b.length))
      have t2 := buildF_txt (b.drop (cutB b.length))
      have o1 := (buildF_ok (b.take (cutB b.length))).1.le
      have o2 := (buildF_ok (b.drop (cutB b.length))).1.le
      have z1 : (buildF (b.take (cutB b.length))).sz ≤ b.length := by rw [RT.sz, t1, List.length_take]; omega
      have z2 : (buildF (b.drop (cutB b.length))).sz ≤ b.length := by rw [RT.sz, t2, List.length_drop]; omega
      have hin := fun M => inner_calls (l := buildF (b.take (cutB b.length))) (r := buildF (b.drop (cutB b.length))) (mb := mb) (by omega) (by omega) M
      generalize buildF (b.take (cutB b.length)) = tl at *
      generalize buildF (b.drop (cutB b.length)) = tr at *
      refine acalls_of_code 32 Try.func57 rfl rfl rfl ?_
      repeat' (first | refine aops_put rfl ?_ | refine aops_end ?_ | refine aops_endb ?_ | refine aops_o rfl rfl rfl ?_ | refine aops_max tok rfl rfl rfl rfl rfl rfl ?_ | refine aops_min tok rfl rfl rfl rfl rfl rfl ?_ | refine aops_a tok rfl (by omega) (by omega) rfl rfl rfl ?_ | refine aops_pbt tok rfl (by first | omega | decide) rfl rfl rfl ?_ | refine aops_pbf tok rfl (by first | omega | decide) rfl rfl rfl ?_ | refine aops_pet tok rfl (by omega) rfl rfl rfl ?_ | refine aops_pef tok rfl (by omega) rfl rfl rfl ?_ | (refine aops_pd tok rfl rfl rfl rfl ?_ ?_ <;> intro e_) | (refine aops_pe tok rfl rfl rfl rfl ?_ ?_ <;> intro e_) | (refine aops_pn tok rfl rfl rfl rfl ?_ ?_ <;> intro e_) | refine aops_p tok rfl rfl rfl rfl ?_ | refine acode_it rfl ?_ | refine acode_if rfl ?_ | refine aops_ixa tok rfl rfl rfl (by decide) rfl rfl rfl rfl ?_ | refine aops_ld tok 0 rfl rfl rfl rfl rfl rfl rfl rfl ?_ | refine aops_ld tok 1 rfl rfl rfl rfl rfl rfl rfl rfl ?_ | refine aops_stn tok rfl rfl rfl rfl rfl rfl rfl rfl rfl ?_ | refine aops_stn1 tok rfl rfl rfl rfl rfl rfl rfl rfl rfl ?_ | refine acode_seq ?_ | refine acode_region ?_ | refine acode_block ?_ | refine acode_skip ?_ | refine then_n ?_ | refine block_n ?_)
      all_goals try (exfalso; omega)
      refine aops_quo rfl rfl rfl (by omega) (by omega) (by omega) rfl rfl rfl ?_
      rw [e1]
      repeat (first | refine aops_put rfl ?_ | refine aops_end ?_ | refine aops_endb ?_ | refine aops_o rfl rfl rfl ?_ | refine aops_max tok rfl rfl rfl rfl rfl rfl ?_ | refine aops_min tok rfl rfl rfl rfl rfl rfl ?_ | refine aops_a tok rfl (by omega) (by omega) rfl rfl rfl ?_ | refine aops_p tok rfl rfl rfl rfl ?_ | refine aops_ixa tok rfl rfl rfl (by decide) rfl rfl rfl rfl ?_ | refine aops_ld tok 0 rfl rfl rfl rfl rfl rfl rfl rfl ?_ | refine aops_ld tok 1 rfl rfl rfl rfl rfl rfl rfl rfl ?_ | refine aops_stn tok rfl rfl rfl rfl rfl rfl rfl rfl rfl ?_ | refine aops_stn1 tok rfl rfl rfl rfl rfl rfl rfl rfl rfl ?_ | refine acode_seq ?_ | refine acode_region ?_ | refine acode_block ?_ | refine acode_skip ?_ | refine then_n ?_ | refine block_n ?_)
      refine aops_quo rfl rfl rfl (by omega) (by omega) (by omega) rfl rfl rfl ?_
      rw [e2]
      repeat (first | refine aops_put rfl ?_ | refine aops_end ?_ | refine aops_endb ?_ | refine aops_o rfl rfl rfl ?_ | refine aops_max tok rfl rfl rfl rfl rfl rfl ?_ | refine aops_min tok rfl rfl rfl rfl rfl rfl ?_ | refine aops_a tok rfl (by omega) (by omega) rfl rfl rfl ?_ | refine aops_p tok rfl rfl rfl rfl ?_ | refine aops_ixa tok rfl rfl rfl (by decide) rfl rfl rfl rfl ?_ | refine aops_ld tok 0 rfl rfl rfl rfl rfl rfl rfl rfl ?_ | refine aops_ld tok 1 rfl rfl rfl rfl rfl rfl rfl rfl ?_ | refine aops_stn tok rfl rfl rfl rfl rfl rfl rfl rfl rfl ?_ | refine aops_stn1 tok rfl rfl rfl rfl rfl rfl rfl rfl rfl ?_ | refine acode_seq ?_ | refine acode_region ?_ | refine acode_block ?_ | refine acode_skip ?_ | refine then_n ?_ | refine block_n ?_)
      rw [e3]
      refine acode_drawP [] 12 [0, 1, 2, 3, 5, 6, 7, 8, 4, 9, 10, 11] [8, 9] mixed (by kernel_rfl) (by kernel_rfl) rfl ?_
      repeat (first | refine seqO_put rfl ?_ | refine seqO_o rfl rfl rfl rfl ?_ | refine seqO_a tok rfl rfl (by omega) (by omega) rfl rfl rfl ?_ | refine seqO_p tok rfl rfl rfl rfl rfl ?_ | refine seqO_ld tok 0 rfl rfl rfl rfl rfl (by simp) rfl rfl rfl rfl ?_ | refine seqO_ld tok 1 rfl rfl rfl rfl rfl (by simp) rfl rfl rfl rfl ?_)
      refine seqO_sl tok (b.take (cutB b.length)).length (u8s (b.take (cutB b.length))) rfl rfl rfl rfl rfl rfl (by omega) (by omega) (by omega) (by rw [List.length_take]; omega) (by rw [u8s_len]; exact (Nat.mul_one _).symm) (u8_take (by omega)) rfl rfl rfl ?_
      repeat (first | refine seqO_put rfl ?_ | refine seqO_o rfl rfl rfl rfl ?_ | refine seqO_a tok rfl rfl (by omega) (by omega) rfl rfl rfl ?_ | refine seqO_p tok rfl rfl rfl rfl rfl ?_ | refine seqO_ld tok 0 rfl rfl rfl rfl rfl (by simp) rfl rfl rfl rfl ?_ | refine seqO_ld tok 1 rfl rfl rfl rfl rfl (by simp) rfl rfl rfl rfl ?_)
      refine seqO_sl tok (b.drop (cutB b.length)).length (u8s (b.drop (cutB b.length))) rfl rfl rfl rfl rfl rfl (by omega) (by omega) (by omega) (by rw [List.length_drop]; omega) (by rw [u8s_len]; exact (Nat.mul_one _).symm) (u8_drop (by omega)) rfl rfl rfl ?_
      repeat (first | refine seqO_put rfl ?_ | refine seqO_o rfl rfl rfl rfl ?_ | refine seqO_a tok rfl rfl (by omega) (by omega) rfl rfl rfl ?_ | refine seqO_p tok rfl rfl rfl rfl rfl ?_ | refine seqO_ld tok 0 rfl rfl rfl rfl rfl (by simp) rfl rfl rfl rfl ?_ | refine seqO_ld tok 1 rfl rfl rfl rfl rfl (by simp) rfl rfl rfl rfl ?_)
      refine seqO_cnt rfl Try.func57 rfl rfl rfl rfl (c1 _) rfl rfl rfl fun c2' => ?_
      refine seqO_cnt rfl Try.func57 rfl rfl rfl rfl (c2 _) rfl rfl rfl fun c3' => ?_
      refine seqO_call (ropeA mb (.nd tl tr)) rfl Try.func72 rfl rfl rfl rfl (fun M => hin M) rfl rfl rfl ?_
      repeat (first | refine seqO_put rfl ?_ | refine seqO_o rfl rfl rfl rfl ?_ | refine seqO_a tok rfl rfl (by omega) (by omega) rfl rfl rfl ?_ | refine seqO_p tok rfl rfl rfl rfl rfl ?_ | refine seqO_ld tok 0 rfl rfl rfl rfl rfl (by simp) rfl rfl rfl rfl ?_ | refine seqO_ld tok 1 rfl rfl rfl rfl rfl (by simp) rfl rfl rfl rfl ?_)
      refine SeqO.done ?_
      repeat (first | refine aops_put rfl ?_ | refine aops_end ?_ | refine aops_endb ?_ | refine aops_o rfl rfl rfl ?_ | refine aops_max tok rfl rfl rfl rfl rfl rfl ?_ | refine aops_min tok rfl rfl rfl rfl rfl rfl ?_ | refine aops_a tok rfl (by omega) (by omega) rfl rfl rfl ?_ | refine aops_p tok rfl rfl rfl rfl ?_ | refine aops_ixa tok rfl rfl rfl (by decide) rfl rfl rfl rfl ?_ | refine aops_ld tok 0 rfl rfl rfl rfl rfl rfl rfl rfl ?_ | refine aops_ld tok 1 rfl rfl rfl rfl rfl rfl rfl rfl ?_ | refine aops_stn tok rfl rfl rfl rfl rfl rfl rfl rfl rfl ?_ | refine aops_stn1 tok rfl rfl rfl rfl rfl rfl rfl rfl rfl ?_ | refine acode_seq ?_ | refine acode_region ?_ | refine acode_block ?_ | refine acode_skip ?_ | refine then_n ?_ | refine block_n ?_)
      refine acode_ret ?_
      repeat (first | refine exit_then ?_ | refine exit_here ?_ | refine exit_out rfl ?_ | refine ret_then ?_ | refine ret_block ?_ | refine then_n ?_ | refine block_n ?_)
      exact ⟨_, ⟨c3', rfl, rfl⟩, resOf_tmp rfl⟩
end Go.Proofs.Ytnellmjnlnnckaa.Ab

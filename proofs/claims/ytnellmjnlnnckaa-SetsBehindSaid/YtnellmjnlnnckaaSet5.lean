/- Chapter 11's first sets: what a grammar's names begin with, the walk of sets.learn. No condition. -/
import Derived.Test.YtnellmjnlnnckaaSet4
set_option linter.unusedVariables false
set_option linter.unusedSimpArgs false
namespace Go.Proofs.Ytnellmjnlnnckaa.Ab
attribute [local irreducible] thenA inBlockA ACode AOps put IntKind.wrap

theorem ofF_len (null : List Bool) (F : List (List Bool)) : ∀ (l : List Int) (o : List Bool), (ofF null F o l).1.length = o.length
  | [], o => rfl
  | s :: l, o => by
    rw [ofF]
    split
    · simp
    · split
      · rw [ofF_len null F l, orL_len]
      · rw [orL_len]
def learnS (null : List Bool) (k : Nat) (x : List (List Bool) × Bool) (r : Ru) : List (List Bool) × Bool := joinS r.left.toNat (ofF null x.1 (zeroB k) r.right).1 x
def learnR (g : Gr) (null : List Bool) (k : Nat) (F : List (List Bool)) : List (List Bool) × Bool := g.rules.foldl (learnS null k) (F, false)
def zeroF (n k : Nat) : List (List Bool) := List.replicate n (zeroB k)
def firstF (g : Gr) (n k : Nat) : List (List Bool) := fixI (learnR g (nullF g n) k) (n * (k + 1) + 1) (zeroF n k)
theorem zeroF_all {n k : Nat} : ∀ x ∈ zeroF n k, x.length = k + 1 := fun x hx => by rw [List.eq_of_mem_replicate hx]; exact zeroB_len k
theorem zeroF_len (n k : Nat) : (zeroF n k).length = n := by simp [zeroF]
theorem totF_zero (n k : Nat) : totF (zeroF n k) = n * (k + 1) := by
  induction n with
  | zero => simp [zeroF, totF]
  | succ n ih =>
    have : zeroF (n + 1) k = zeroB k :: zeroF n k := rfl
    rw [this]
    simp only [totF, List.map_cons, List.sum_cons] at ih ⊢
    rw [ih]
    simp only [zeroB, List.count_replicate_self]
    rw [Nat.add_mul]; omega
/-- Sets of a grammar: one for each name, each of one length. -/
def FOk (n k : Nat) (F : List (List Bool)) : Prop := F.length = n ∧ ∀ x ∈ F, x.length = k + 1
theorem learnS_ok {n k : Nat} {null : List Bool} {x : List (List Bool) × Bool} {r : Ru} (h : FOk n k x.1) : FOk n k (learnS null k x r).1 :=
  ⟨by unfold learnS; rw [joinS_len]; exact h.1, joinS_all _ _ _ h.2⟩
theorem learnL_ok {n k : Nat} {null : List Bool} : ∀ (rs : List Ru) (x : List (List Bool) × Bool), FOk n k x.1 → FOk n k (rs.foldl (learnS null k) x).1
  | [], _, h => h
  | r :: rs, x, h => learnL_ok rs _ (learnS_ok h)
theorem learnL_cnt {n k : Nat} {null : List Bool} : ∀ (rs : List Ru) (x : List (List Bool) × Bool), (∀ r ∈ rs, r.left.toNat < n) → x.1.length = n → totF (rs.foldl (learnS null k) x).1 ≤ totF x.1 ∧ ((rs.foldl (learnS null k) x).2 = true → x.2 = true ∨ totF (rs.foldl (learnS null k) x).1 < totF x.1)
  | [], x, _, _ => ⟨Nat.le_refl _, fun h => .inl h⟩
  | r :: rs, x, h, hl => by
    obtain ⟨a1, a2⟩ := joinS_cnt r.left.toNat (ofF null x.1 (zeroB k) r.right).1 x (by rw [hl]; exact h r (by simp))
    change totF (learnS null k x r).1 ≤ _ at a1
    change (learnS null k x r).2 = true → _ ∨ totF (learnS null k x r).1 < _ at a2
    obtain ⟨b1, b2⟩ := learnL_cnt (n := n) (k := k) (null := null) rs (learnS null k x r) (fun r hr => h r (by simp [hr])) (by unfold learnS; rw [joinS_len, hl])
    rw [List.foldl_cons]
    refine ⟨Nat.le_trans b1 a1, fun h => ?_⟩
    rcases b2 h with h | h
    · rcases a2 h with h | h
      · exact .inl h
      · exact .inr (by omega)
    · exact .inr (by omega)
theorem learnR_ok {g : Gr} {null : List Bool} {n k : Nat} {F : List (List Bool)} (h : FOk n k F) : FOk n k (learnR g null k F).1 := learnL_ok _ _ h
theorem learnR_cnt {g : Gr} {null : List Bool} {n k : Nat} {F : List (List Bool)} (hlt : ∀ r ∈ g.rules, r.left.toNat < n) (h : FOk n k F) (hb : (learnR g null k F).2 = true) : totF (learnR g null k F).1 < totF F := by
  rcases (learnL_cnt (null := null) (k := k) g.rules (F, false) hlt h.1).2 hb with h1 | h1
  · cases h1
  · exact h1
theorem fixI_ok {α : Type} {R : α → α × Bool} {p : α → Prop} (hp : ∀ x, p x → p (R x).1) : ∀ (q : Nat) (x : α), p x → p (fixI R q x)
  | 0, x, h => h
  | q + 1, x, h => by
    rw [fixI]
    split
    · exact fixI_ok hp q _ (hp x h)
    · exact hp x h
theorem firstF_ok (g : Gr) (n k : Nat) : FOk n k (firstF g n k) := fixI_ok (fun x h => learnR_ok h) _ _ ⟨zeroF_len n k, zeroF_all⟩
theorem nullI_len (g : Gr) : ∀ (q : Nat) (o : List Bool), (nullI g q o).length = o.length
  | 0, o => rfl
  | q + 1, o => by
    rw [nullI]
    split
    · rw [nullI_len g q]; unfold nullR; rw [nullL_len]
    · unfold nullR; rw [nullL_len]
theorem nullF_len (g : Gr) (n : Nat) : (nullF g n).length = n := by unfold nullF; rw [nullI_len]; simp

def knO (g : Gr) (n : Nat) (null : List Bool) (x : A) : List A := [.int .i64 g.names, .int .i64 g.kinds, .int .i64 g.start, .psl g.rules.length (encs ruC g.rules), .psl g.forbid.length (encs f3C g.forbid), .psl g.rc.length (ints g.rc), .psl g.kc.length (ints g.kc), .psl n (bools null), x]
theorem vw_kn {V : List Ob} {g : Gr} {n k kb fb cap room : Nat} {null : List Bool} {bs : List Nat} {F : List (List Bool)} (hbs : bs.length = n) (hF : FOk n k F) (h0 : (⟨some kb, room, knO g n null (.own (some fb) n cap)⟩ : Ob) ∈ V) (h1 : (⟨some fb, cap * 1, ownsA k bs⟩ : Ob) ∈ V) (hv : ∀ o ∈ obsZ k bs F, o ∈ V) : Vw V (.ref kb 0) (.pp (knC g n k null F)) :=
  .ref h0 (.cons (.refl _) (.cons (.refl _) (.cons (.refl _) (.cons (.refl _) (.cons (.refl _) (.cons (.refl _) (.cons (.refl _) (.cons (.refl _) (.cons (.own (sz := 1) h1 rfl (by rw [ownsA_len, hbs, Nat.mul_one]) (by decide) (vw_sets (by rw [hbs, hF.1]) hF.2 hv)) .nil)))))))))
theorem acalls_mk0 {P : Program} {f : FuncId} {xs ys : List A} {V : List Ob} {k : Nat} {o : List Bool} {x : Nat → A} (hx : ∀ b, looseA (x b) = true) (hv : VwL V xs ys) (hc : ACalls P f ys [] (fun r M' => ∃ b, r = x b ∧ M' = ⟨some b, (k + 1) * 1, bools o⟩ :: [])) :
    ACalls P f xs V (fun r M' => ∃ b, r = x b ∧ M' = ⟨some b, (k + 1) * 1, bools o⟩ :: V) := by
  refine (acalls_part (W := []) hv hc ?_).mono ?_
  · rintro r M' ⟨b, rfl, rfl⟩
    refine ⟨hx b, fun o ho => ?_⟩
    simp at ho; subst ho; exact looseL_bools _
  · rintro r M' ⟨M1, ⟨b, rfl, rfl⟩, rfl⟩
    exact ⟨b, rfl, rfl⟩

set_option maxHeartbeats 8000000 in
theorem learn_calls {g : Gr} {n k : Nat} (hg : GrOk g) (hn : g.names = n) (hn1 : 1 ≤ n) (hn2 : n ≤ 1000) (hk : g.kinds = k) (hk2 : k ≤ 1000) (hw : ∀ r ∈ g.rules, isName g r.left) (hs : ∀ r ∈ g.rules, ∀ s ∈ r.right, isSym g s) (M : List Ob) :
    ACalls Try.prog 43 [grA g] M (fun r M' => r = .pp (knC g n k (nullF g n) (firstF g n k)) ∧ M' = M) := by
  have hrl := hg.rl
  have hlt : ∀ r ∈ g.rules, r.left.toNat < n := fun r hr => by have := hw r hr; unfold isName at this; omega
  have hnl := nullF_len g n
  refine acalls_of_code 60 Try.func43 rfl rfl rfl ?_
  repeat (first | refine aops_put rfl ?_ | refine aops_end ?_ | refine aops_endb ?_ | refine aops_o rfl rfl rfl ?_ | refine aops_max tok rfl rfl rfl rfl rfl rfl ?_ | refine aops_min tok rfl rfl rfl rfl rfl rfl ?_ | refine aops_a tok rfl (by omega) (by omega) rfl rfl rfl ?_ | refine aops_p tok rfl rfl rfl rfl ?_ | refine aops_ixa tok rfl rfl rfl (by decide) rfl rfl rfl rfl ?_ | refine aops_ld tok 0 rfl rfl rfl rfl rfl rfl rfl rfl ?_ | refine aops_ld tok 1 rfl rfl rfl rfl rfl rfl rfl rfl ?_ | refine aops_stn tok rfl rfl rfl rfl rfl rfl rfl rfl rfl ?_ | refine aops_stn1 tok rfl rfl rfl rfl rfl rfl rfl rfl rfl ?_ | refine acode_seq ?_ | refine acode_region ?_ | refine acode_block ?_ | refine acode_skip ?_ | refine then_n ?_ | refine block_n ?_)
  refine aops_boxf rfl rfl rfl rfl rfl rfl rfl ?_
  repeat (first | refine aops_put rfl ?_ | refine aops_end ?_ | refine aops_endb ?_ | refine aops_o rfl rfl rfl ?_ | refine aops_max tok rfl rfl rfl rfl rfl rfl ?_ | refine aops_min tok rfl rfl rfl rfl rfl rfl ?_ | refine aops_a tok rfl (by omega) (by omega) rfl rfl rfl ?_ | refine aops_p tok rfl rfl rfl rfl ?_ | refine aops_ixa tok rfl rfl rfl (by decide) rfl rfl rfl rfl ?_ | refine aops_ld tok 0 rfl rfl rfl rfl rfl rfl rfl rfl ?_ | refine aops_ld tok 1 rfl rfl rfl rfl rfl rfl rfl rfl ?_ | refine aops_stn tok rfl rfl rfl rfl rfl rfl rfl rfl rfl ?_ | refine aops_stn1 tok rfl rfl rfl rfl rfl rfl rfl rfl rfl ?_ | refine acode_seq ?_ | refine acode_region ?_ | refine acode_block ?_ | refine acode_skip ?_ | refine then_n ?_ | refine block_n ?_)
  refine acode_drawP [] 5 [0, 1, 2, 3, 4] [4] mixed (by kernel_rfl) (by kernel_rfl) rfl ?_
  repeat (first | refine seqO_put rfl ?_ | refine seqO_o rfl rfl rfl rfl ?_ | refine seqO_a tok rfl rfl (by omega) (by omega) rfl rfl rfl ?_ | refine seqO_p tok rfl rfl rfl rfl rfl ?_ | refine seqO_ld tok 0 rfl rfl rfl rfl rfl (by simp) rfl rfl rfl rfl ?_ | refine seqO_ld tok 1 rfl rfl rfl rfl rfl (by simp) rfl rfl rfl rfl ?_)
  refine seqO_call (.psl n (bools (nullF g n))) rfl Try.func44 rfl rfl rfl rfl (fun M' => nullable_calls hg hn hn2 hw M') rfl rfl rfl ?_
  repeat (first | refine seqO_put rfl ?_ | refine seqO_o rfl rfl rfl rfl ?_ | refine seqO_a tok rfl rfl (by omega) (by omega) rfl rfl rfl ?_ | refine seqO_p tok rfl rfl rfl rfl rfl ?_ | refine seqO_ld tok 0 rfl rfl rfl rfl rfl (by simp) rfl rfl rfl rfl ?_ | refine seqO_ld tok 1 rfl rfl rfl rfl rfl (by simp) rfl rfl rfl rfl ?_)
  refine seqO_boxo rfl rfl rfl rfl (by simp) rfl rfl rfl rfl fun kb => ?_
  refine SeqO.done ?_
  refine aops_adoptF 8 rfl rfl ?_
  repeat (first | refine aops_put rfl ?_ | refine aops_o rfl rfl rfl ?_ | refine aops_max tok rfl rfl rfl rfl rfl rfl ?_ | refine aops_min tok rfl rfl rfl rfl rfl rfl ?_ | refine aops_a tok rfl (by omega) (by omega) rfl rfl rfl ?_ | refine aops_p tok rfl rfl rfl rfl ?_ | refine aops_ixa tok rfl rfl rfl (by decide) rfl rfl rfl rfl ?_ | refine aops_ld tok 0 rfl rfl rfl rfl rfl rfl rfl rfl ?_ | refine aops_ld tok 1 rfl rfl rfl rfl rfl rfl rfl rfl ?_ | refine aops_stn tok rfl rfl rfl rfl rfl rfl rfl rfl rfl ?_ | refine aops_stn1 tok rfl rfl rfl rfl rfl rfl rfl rfl rfl ?_)
  refine aops_end ?_
  generalize hnull : nullF g n = null at *
  repeat (first | refine aops_put rfl ?_ | refine aops_end ?_ | refine aops_endb ?_ | refine aops_o rfl rfl rfl ?_ | refine aops_max tok rfl rfl rfl rfl rfl rfl ?_ | refine aops_min tok rfl rfl rfl rfl rfl rfl ?_ | refine aops_a tok rfl (by omega) (by omega) rfl rfl rfl ?_ | refine aops_p tok rfl rfl rfl rfl ?_ | refine aops_ixa tok rfl rfl rfl (by decide) rfl rfl rfl rfl ?_ | refine aops_ld tok 0 rfl rfl rfl rfl rfl rfl rfl rfl ?_ | refine aops_ld tok 1 rfl rfl rfl rfl rfl rfl rfl rfl ?_ | refine aops_stn tok rfl rfl rfl rfl rfl rfl rfl rfl rfl ?_ | refine aops_stn1 tok rfl rfl rfl rfl rfl rfl rfl rfl rfl ?_ | refine acode_seq ?_ | refine acode_region ?_ | refine acode_block ?_ | refine acode_skip ?_ | refine then_n ?_ | refine block_n ?_)
  -- the empty sets
  refine acode_loopS (ι := Nat × List Nat × Option Nat × Nat) (fun p => [(1, .pp (grC g)), (3, .ref kb 0), (15, .int .i64 g.names), (16, .int .i64 p.1)]) (fun p => ⟨some kb, 9, knO g n null (.own p.2.2.1 p.1 p.2.2.2)⟩ :: ⟨p.2.2.1, p.2.2.2 * 1, ownsA k p.2.1⟩ :: (obsZ k p.2.1 (zeroF p.1 k) ++ M)) (fun p => n - p.1) (fun p => p.1 ≤ n ∧ p.2.1.length = p.1) (0, [], none, 0) ⟨Nat.zero_le _, rfl⟩ ⟨rfl, rfl, rfl, rfl, trivial⟩ rfl ?_
  rintro ⟨i, bs, ob, cap⟩ ⟨hi, hbs⟩
  simp only at hi hbs ⊢
  repeat (first | refine aops_put rfl ?_ | refine aops_end ?_ | refine aops_endb ?_ | refine aops_o rfl rfl rfl ?_ | refine aops_max tok rfl rfl rfl rfl rfl rfl ?_ | refine aops_min tok rfl rfl rfl rfl rfl rfl ?_ | refine aops_a tok rfl (by omega) (by omega) rfl rfl rfl ?_ | refine aops_p tok rfl rfl rfl rfl ?_ | refine aops_ixa tok rfl rfl rfl (by decide) rfl rfl rfl rfl ?_ | refine aops_ld tok 0 rfl rfl rfl rfl rfl rfl rfl rfl ?_ | refine aops_ld tok 1 rfl rfl rfl rfl rfl rfl rfl rfl ?_ | refine aops_stn tok rfl rfl rfl rfl rfl rfl rfl rfl rfl ?_ | refine aops_stn1 tok rfl rfl rfl rfl rfl rfl rfl rfl rfl ?_ | refine acode_seq ?_ | refine acode_region ?_ | refine acode_block ?_ | refine acode_skip ?_ | refine then_n ?_ | refine block_n ?_)
  refine acode_id rfl (fun e => ?_) (fun e => ?_)
  · have hil : i < n := by omega
    repeat (first | refine aops_put rfl ?_ | refine aops_end ?_ | refine aops_endb ?_ | refine aops_o rfl rfl rfl ?_ | refine aops_max tok rfl rfl rfl rfl rfl rfl ?_ | refine aops_min tok rfl rfl rfl rfl rfl rfl ?_ | refine aops_a tok rfl (by omega) (by omega) rfl rfl rfl ?_ | refine aops_p tok rfl rfl rfl rfl ?_ | refine aops_ixa tok rfl rfl rfl (by decide) rfl rfl rfl rfl ?_ | refine aops_ld tok 0 rfl rfl rfl rfl rfl rfl rfl rfl ?_ | refine aops_ld tok 1 rfl rfl rfl rfl rfl rfl rfl rfl ?_ | refine aops_stn tok rfl rfl rfl rfl rfl rfl rfl rfl rfl ?_ | refine aops_stn1 tok rfl rfl rfl rfl rfl rfl rfl rfl rfl ?_ | refine acode_seq ?_ | refine acode_region ?_ | refine acode_block ?_ | refine acode_skip ?_ | refine then_n ?_ | refine block_n ?_)
    refine acode_drawP [⟨some kb, 9, knO g n null (.own ob i cap)⟩] 9 [0, 1, 2, 3, 4, 5, 6, 7, 8] [6, 8] mixed (by kernel_rfl) (by kernel_rfl) rfl ?_
    repeat (first | refine seqO_put rfl ?_ | refine seqO_o rfl rfl rfl rfl ?_ | refine seqO_a tok rfl rfl (by omega) (by omega) rfl rfl rfl ?_ | refine seqO_p tok rfl rfl rfl rfl rfl ?_ | refine seqO_ld tok 0 rfl rfl rfl rfl rfl (by simp) rfl rfl rfl rfl ?_ | refine seqO_ld tok 1 rfl rfl rfl rfl rfl (by simp) rfl rfl rfl rfl ?_)
    refine seqO_callm (fun z => .own (some (z.headD 0)) (k + 1) (k + 1)) (fun z => [⟨some (z.headD 0), (k + 1) * 1, bools (zeroB k)⟩]) rfl Try.func51 rfl rfl rfl rfl ((acalls_mk0 (x := fun b => .own (some b) (k + 1) (k + 1)) (fun _ => rfl) (.cons (.ref (.head _) (.cons (.refl _) (.cons (.refl _) (.cons (.refl _) (.cons (.refl _) (.cons (.refl _) (.cons (.refl _) (.cons (.refl _) (.cons (.refl _) (.cons (.refl _) .nil)))))))))) .nil) (none_calls hk hk2 _ _ [])).mono (fun r M' ⟨b, h1, h2⟩ => ⟨[b], h1, h2⟩)) (by simp) rfl rfl rfl fun z => ?_
    generalize z.headD 0 = b2
    refine seqO_lit tok rfl rfl rfl rfl rfl rfl rfl rfl rfl ?_
    refine seqO_app tok 2 (m := 1) rfl rfl rfl rfl (.inl rfl) rfl rfl (by rw [ownsA_len, hbs]; show _ = _ * 1; omega) rfl rfl rfl (by show _ * 24 ≤ _; omega) (by omega) (by intro y o ho; simp at ho ⊢; simp [ho]) rfl rfl rfl fun ob' cap' => ?_
    refine SeqO.done ?_
    repeat (first | refine aops_put rfl ?_ | refine aops_o rfl rfl rfl ?_ | refine aops_max tok rfl rfl rfl rfl rfl rfl ?_ | refine aops_min tok rfl rfl rfl rfl rfl rfl ?_ | refine aops_a tok rfl (by omega) (by omega) rfl rfl rfl ?_ | refine aops_p tok rfl rfl rfl rfl ?_ | refine aops_ixa tok rfl rfl rfl (by decide) rfl rfl rfl rfl ?_ | refine aops_ld tok 0 rfl rfl rfl rfl rfl rfl rfl rfl ?_ | refine aops_ld tok 1 rfl rfl rfl rfl rfl rfl rfl rfl ?_ | refine aops_stn tok rfl rfl rfl rfl rfl rfl rfl rfl rfl ?_ | refine aops_stn1 tok rfl rfl rfl rfl rfl rfl rfl rfl rfl ?_)
    have hz : obsZ k (bs ++ [b2]) (zeroF (i + 1) k) = obsZ k bs (zeroF i k) ++ [⟨some b2, (k + 1) * 1, bools (zeroB k)⟩] := by
      rw [show zeroF (i + 1) k = zeroF i k ++ [zeroB k] from List.replicate_succ', obsZ_app (by rw [hbs, zeroF_len])]; rfl
    have ho : ownsA k (bs ++ [b2]) = ownsA k bs ++ [.own (some b2) (k + 1) (k + 1)] := by simp [ownsA]
    refine aops_perm (⟨some kb, 9, knO g n null (.own ob' (i + 1) cap')⟩ :: ⟨ob', cap' * 1, ownsA k (bs ++ [b2])⟩ :: (obsZ k (bs ++ [b2]) (zeroF (i + 1) k) ++ M)) ?_ ?_
    · rw [hz, ho, List.append_assoc]
      exact (List.perm_middle (l₁ := _ :: _ :: obsZ k bs (zeroF i k))).symm
    repeat (first | refine aops_put rfl ?_ | refine aops_end ?_ | refine aops_endb ?_ | refine aops_o rfl rfl rfl ?_ | refine aops_max tok rfl rfl rfl rfl rfl rfl ?_ | refine aops_min tok rfl rfl rfl rfl rfl rfl ?_ | refine aops_a tok rfl (by omega) (by omega) rfl rfl rfl ?_ | refine aops_p tok rfl rfl rfl rfl ?_ | refine aops_ixa tok rfl rfl rfl (by decide) rfl rfl rfl rfl ?_ | refine aops_ld tok 0 rfl rfl rfl rfl rfl rfl rfl rfl ?_ | refine aops_ld tok 1 rfl rfl rfl rfl rfl rfl rfl rfl ?_ | refine aops_stn tok rfl rfl rfl rfl rfl rfl rfl rfl rfl ?_ | refine aops_stn1 tok rfl rfl rfl rfl rfl rfl rfl rfl rfl ?_ | refine acode_seq ?_ | refine acode_region ?_ | refine acode_block ?_ | refine acode_skip ?_ | refine then_n ?_ | refine block_n ?_)
    exact ⟨(i + 1, bs ++ [b2], ob', cap'), ⟨by simp; omega, by simp [hbs]⟩, by simp; omega, ⟨rfl, rfl, rfl, rfl, trivial⟩, rfl⟩
  have hge : i = n := by omega
  subst hge
  refine acode_exit ?_
  repeat (first | refine exit_then ?_ | refine exit_here ?_ | refine exit_out rfl ?_ | refine ret_then ?_ | refine ret_block ?_ | refine then_n ?_ | refine block_n ?_)
  refine acode_somedM 0 8 rfl rfl (by omega) fun fb hfb => ?_
  subst hfb
  have hfirst : fixI (learnR g null k) (i * (k + 1) + 1) (zeroF i k) = firstF g i k := by unfold firstF; rw [hnull]
  generalize firstF g i k = fin at *
  repeat (first | refine aops_put rfl ?_ | refine aops_end ?_ | refine aops_endb ?_ | refine aops_o rfl rfl rfl ?_ | refine aops_max tok rfl rfl rfl rfl rfl rfl ?_ | refine aops_min tok rfl rfl rfl rfl rfl rfl ?_ | refine aops_a tok rfl (by omega) (by omega) rfl rfl rfl ?_ | refine aops_p tok rfl rfl rfl rfl ?_ | refine aops_ixa tok rfl rfl rfl (by decide) rfl rfl rfl rfl ?_ | refine aops_ld tok 0 rfl rfl rfl rfl rfl rfl rfl rfl ?_ | refine aops_ld tok 1 rfl rfl rfl rfl rfl rfl rfl rfl ?_ | refine aops_stn tok rfl rfl rfl rfl rfl rfl rfl rfl rfl ?_ | refine aops_stn1 tok rfl rfl rfl rfl rfl rfl rfl rfl rfl ?_ | refine acode_seq ?_ | refine acode_region ?_ | refine acode_block ?_ | refine acode_skip ?_ | refine then_n ?_ | refine block_n ?_)
  refine acode_loopS (ι := Nat × List (List Bool) × Bool) (fun p => [(1, .pp (grC g)), (3, .ref kb 0), (4, .bool p.2.2)]) (fun p => ⟨some kb, 9, knO g i null (.own (some fb) i cap)⟩ :: ⟨some fb, cap * 1, ownsA k bs⟩ :: (obsZ k bs p.2.1 ++ M)) (fun p => if p.2.2 then p.1 + 1 else 0) (fun p => FOk i k p.2.1 ∧ (p.2.2 = true → fixI (learnR g null k) p.1 p.2.1 = fin ∧ totF p.2.1 < p.1) ∧ (p.2.2 = false → p.2.1 = fin)) (i * (k + 1) + 1, zeroF i k, true) ⟨⟨zeroF_len i k, zeroF_all⟩, fun _ => ⟨hfirst, by simp only; rw [totF_zero]; omega⟩, fun h => by cases h⟩ ⟨rfl, rfl, rfl, trivial⟩ rfl ?_
  rintro ⟨q, F, more⟩ ⟨hF, hm, hd⟩
  simp only at hF hm hd ⊢
  cases more with
  | false =>
    have hfin := hd rfl
    repeat' (first | refine aops_put rfl ?_ | refine aops_end ?_ | refine aops_endb ?_ | refine aops_o rfl rfl rfl ?_ | refine aops_max tok rfl rfl rfl rfl rfl rfl ?_ | refine aops_min tok rfl rfl rfl rfl rfl rfl ?_ | refine aops_a tok rfl (by omega) (by omega) rfl rfl rfl ?_ | (refine aops_pd tok rfl rfl rfl rfl ?_ ?_ <;> intro e_) | (refine aops_pe tok rfl rfl rfl rfl ?_ ?_ <;> intro e_) | (refine aops_pn tok rfl rfl rfl rfl ?_ ?_ <;> intro e_) | refine aops_p tok rfl rfl rfl rfl ?_ | refine acode_it rfl ?_ | refine acode_if rfl ?_ | refine aops_ixa tok rfl rfl rfl (by decide) rfl rfl rfl rfl ?_ | refine aops_ld tok 0 rfl rfl rfl rfl rfl rfl rfl rfl ?_ | refine aops_ld tok 1 rfl rfl rfl rfl rfl rfl rfl rfl ?_ | refine aops_stn tok rfl rfl rfl rfl rfl rfl rfl rfl rfl ?_ | refine aops_stn1 tok rfl rfl rfl rfl rfl rfl rfl rfl rfl ?_ | refine acode_seq ?_ | refine acode_region ?_ | refine acode_block ?_ | refine acode_skip ?_ | refine then_n ?_ | refine block_n ?_)
    refine acode_exit ?_
    repeat (first | refine exit_then ?_ | refine exit_here ?_ | refine exit_out rfl ?_ | refine ret_then ?_ | refine ret_block ?_ | refine then_n ?_ | refine block_n ?_)
    repeat (first | refine aops_put rfl ?_ | refine aops_end ?_ | refine aops_endb ?_ | refine aops_o rfl rfl rfl ?_ | refine aops_max tok rfl rfl rfl rfl rfl rfl ?_ | refine aops_min tok rfl rfl rfl rfl rfl rfl ?_ | refine aops_a tok rfl (by omega) (by omega) rfl rfl rfl ?_ | refine aops_p tok rfl rfl rfl rfl ?_ | refine aops_ixa tok rfl rfl rfl (by decide) rfl rfl rfl rfl ?_ | refine aops_ld tok 0 rfl rfl rfl rfl rfl rfl rfl rfl ?_ | refine aops_ld tok 1 rfl rfl rfl rfl rfl rfl rfl rfl ?_ | refine aops_stn tok rfl rfl rfl rfl rfl rfl rfl rfl rfl ?_ | refine aops_stn1 tok rfl rfl rfl rfl rfl rfl rfl rfl rfl ?_ | refine acode_seq ?_ | refine acode_region ?_ | refine acode_block ?_ | refine acode_skip ?_ | refine then_n ?_ | refine block_n ?_)
    refine acode_freezeV (V := ⟨some kb, 9, knO g i null (.own (some fb) i cap)⟩ :: ⟨some fb, cap * 1, ownsA k bs⟩ :: obsZ k bs F) [(2, .pp (knC g i k null F))] ⟨vw_kn hbs hF (.head _) (.tail _ (.head _)) (fun o ho => .tail _ (.tail _ ho)), trivial⟩ ?_
    refine acode_ret ?_
    repeat (first | refine exit_then ?_ | refine exit_here ?_ | refine exit_out rfl ?_ | refine ret_then ?_ | refine ret_block ?_ | refine then_n ?_ | refine block_n ?_)
    exact ⟨_, ⟨by rw [← hfin]; rfl, rfl⟩, resOf_tmp rfl⟩
  | true =>
    obtain ⟨hI, hcnt⟩ := hm rfl
    clear hm hd
    obtain ⟨q', rfl⟩ : ∃ q', q = q' + 1 := ⟨q - 1, by omega⟩
    have hRok : FOk i k (learnR g null k F).1 := learnR_ok hF
    have hRc : (learnR g null k F).2 = true → totF (learnR g null k F).1 < totF F := learnR_cnt hlt hF
    simp only [fixI] at hI
    repeat' (first | refine aops_put rfl ?_ | refine aops_end ?_ | refine aops_endb ?_ | refine aops_o rfl rfl rfl ?_ | refine aops_max tok rfl rfl rfl rfl rfl rfl ?_ | refine aops_min tok rfl rfl rfl rfl rfl rfl ?_ | refine aops_a tok rfl (by omega) (by omega) rfl rfl rfl ?_ | (refine aops_pd tok rfl rfl rfl rfl ?_ ?_ <;> intro e_) | (refine aops_pe tok rfl rfl rfl rfl ?_ ?_ <;> intro e_) | (refine aops_pn tok rfl rfl rfl rfl ?_ ?_ <;> intro e_) | refine aops_p tok rfl rfl rfl rfl ?_ | refine acode_it rfl ?_ | refine acode_if rfl ?_ | refine aops_ixa tok rfl rfl rfl (by decide) rfl rfl rfl rfl ?_ | refine aops_ld tok 0 rfl rfl rfl rfl rfl rfl rfl rfl ?_ | refine aops_ld tok 1 rfl rfl rfl rfl rfl rfl rfl rfl ?_ | refine aops_stn tok rfl rfl rfl rfl rfl rfl rfl rfl rfl ?_ | refine aops_stn1 tok rfl rfl rfl rfl rfl rfl rfl rfl rfl ?_ | refine acode_seq ?_ | refine acode_region ?_ | refine acode_block ?_ | refine acode_skip ?_ | refine then_n ?_ | refine block_n ?_)
    refine acode_loopS (ι := Nat × List (List Bool) × Bool) (fun p => [(1, .pp (grC g)), (3, .ref kb 0), (4, .bool p.2.2), (32, .psl g.rules.length (encs ruC g.rules)), (33, .int .i64 g.rules.length), (34, .int .i64 p.1)]) (fun p => ⟨some kb, 9, knO g i null (.own (some fb) i cap)⟩ :: ⟨some fb, cap * 1, ownsA k bs⟩ :: (obsZ k bs p.2.1 ++ M)) (fun p => g.rules.length - p.1) (fun p => p.1 ≤ g.rules.length ∧ FOk i k p.2.1 ∧ (g.rules.drop p.1).foldl (learnS null k) (p.2.1, p.2.2) = learnR g null k F) (0, F, false) ⟨Nat.zero_le _, hF, rfl⟩ ⟨rfl, rfl, rfl, rfl, rfl, rfl, trivial⟩ rfl ?_
    rintro ⟨j, F1, m1⟩ ⟨hj, hF1, hfold⟩
    simp only at hj hF1 hfold ⊢
    repeat (first | refine aops_put rfl ?_ | refine aops_end ?_ | refine aops_endb ?_ | refine aops_o rfl rfl rfl ?_ | refine aops_max tok rfl rfl rfl rfl rfl rfl ?_ | refine aops_min tok rfl rfl rfl rfl rfl rfl ?_ | refine aops_a tok rfl (by omega) (by omega) rfl rfl rfl ?_ | refine aops_p tok rfl rfl rfl rfl ?_ | refine aops_ixa tok rfl rfl rfl (by decide) rfl rfl rfl rfl ?_ | refine aops_ld tok 0 rfl rfl rfl rfl rfl rfl rfl rfl ?_ | refine aops_ld tok 1 rfl rfl rfl rfl rfl rfl rfl rfl ?_ | refine aops_stn tok rfl rfl rfl rfl rfl rfl rfl rfl rfl ?_ | refine aops_stn1 tok rfl rfl rfl rfl rfl rfl rfl rfl rfl ?_ | refine acode_seq ?_ | refine acode_region ?_ | refine acode_block ?_ | refine acode_skip ?_ | refine then_n ?_ | refine block_n ?_)
    refine acode_id rfl (fun e => ?_) (fun e => ?_)
    · have hjl : j < g.rules.length := by omega
      obtain ⟨r, hr⟩ : ∃ r, g.rules[j]? = some r := ⟨g.rules[j], List.getElem?_eq_getElem hjl⟩
      have hrm := List.mem_of_getElem? hr
      have hdr : g.rules.drop j = r :: g.rules.drop (j + 1) := by
        rw [List.drop_eq_getElem_cons hjl]
        rw [List.getElem?_eq_getElem hjl] at hr
        rw [Option.some.inj hr]
      rw [hdr, List.foldl_cons] at hfold
      obtain ⟨hr0, hr1⟩ := hw r hrm
      have hl1 := hlt r hrm
      obtain ⟨x, hx⟩ : ∃ x, F1[r.left.toNat]? = some x := ⟨F1[r.left.toNat]'(by rw [hF1.1]; exact hl1), List.getElem?_eq_getElem (by rw [hF1.1]; exact hl1)⟩
      have hxl := hF1.2 x (List.mem_of_getElem? hx)
      have hxd : F1.getD r.left.toNat [] = x := by rw [List.getD_eq_getElem?_getD, hx]; rfl
      obtain ⟨bl, hbl⟩ : ∃ bl, bs[r.left.toNat]? = some bl := ⟨bs[r.left.toNat]'(by rw [hbs]; exact hl1), List.getElem?_eq_getElem (by rw [hbs]; exact hl1)⟩
      have hst : learnS null k (F1, m1) r = (F1.set r.left.toNat (orL x (ofF null F1 (zeroB k) r.right).1), cameL x (ofF null F1 (zeroB k) r.right).1 || m1) := by unfold learnS joinS; simp only [hxd]
      have hok2 : FOk i k (learnS null k (F1, m1) r).1 := learnS_ok hF1
      rw [hst] at hfold hok2
      have hfl : (ofF null F1 (zeroB k) r.right).1.length = k + 1 := by rw [ofF_len, zeroB_len]
      have hof := of_calls (g := g) (n := i) (k := k) (null := null) (F := F1) (l := r.right) hn hk hk2 hnl hF1.1 hF1.2 (hg.rr r hrm).1 (hg.rr r hrm).2 (hs r hrm) []
      generalize (ofF null F1 (zeroB k) r.right).2 = e2 at *
      generalize (ofF null F1 (zeroB k) r.right).1 = f at *
      repeat (first | refine aops_put rfl ?_ | refine aops_end ?_ | refine aops_endb ?_ | refine aops_o rfl rfl rfl ?_ | refine aops_max tok rfl rfl rfl rfl rfl rfl ?_ | refine aops_min tok rfl rfl rfl rfl rfl rfl ?_ | refine aops_a tok rfl (by omega) (by omega) rfl rfl rfl ?_ | refine aops_p tok rfl rfl rfl rfl ?_ | refine aops_ixa tok rfl rfl rfl (by decide) rfl rfl rfl rfl ?_ | refine aops_ld tok 0 rfl rfl rfl rfl rfl rfl rfl rfl ?_ | refine aops_ld tok 1 rfl rfl rfl rfl rfl rfl rfl rfl ?_ | refine aops_stn tok rfl rfl rfl rfl rfl rfl rfl rfl rfl ?_ | refine aops_stn1 tok rfl rfl rfl rfl rfl rfl rfl rfl rfl ?_ | refine acode_seq ?_ | refine acode_region ?_ | refine acode_block ?_ | refine acode_skip ?_ | refine then_n ?_ | refine block_n ?_)
      refine aops_ix tok (ruC r) rfl rfl rfl rfl (by omega) (by omega) (by simp [ruC]) (encs_at (e := ruC) (s := 3) (fun _ => rfl) hr) rfl rfl rfl ?_
      repeat (first | refine aops_put rfl ?_ | refine aops_end ?_ | refine aops_endb ?_ | refine aops_o rfl rfl rfl ?_ | refine aops_max tok rfl rfl rfl rfl rfl rfl ?_ | refine aops_min tok rfl rfl rfl rfl rfl rfl ?_ | refine aops_a tok rfl (by omega) (by omega) rfl rfl rfl ?_ | refine aops_p tok rfl rfl rfl rfl ?_ | refine aops_ixa tok rfl rfl rfl (by decide) rfl rfl rfl rfl ?_ | refine aops_ld tok 0 rfl rfl rfl rfl rfl rfl rfl rfl ?_ | refine aops_ld tok 1 rfl rfl rfl rfl rfl rfl rfl rfl ?_ | refine aops_stn tok rfl rfl rfl rfl rfl rfl rfl rfl rfl ?_ | refine aops_stn1 tok rfl rfl rfl rfl rfl rfl rfl rfl rfl ?_ | refine acode_seq ?_ | refine acode_region ?_ | refine acode_block ?_ | refine acode_skip ?_ | refine then_n ?_ | refine block_n ?_)
      refine aops_alloc tok rfl rfl rfl rfl rfl rfl fun ba => ?_
      refine aops_stn tok rfl rfl rfl rfl rfl rfl rfl rfl rfl ?_
      refine aops_pubref0 6 rfl ?_
      repeat (first | refine aops_put rfl ?_ | refine aops_end ?_ | refine aops_endb ?_ | refine aops_o rfl rfl rfl ?_ | refine aops_max tok rfl rfl rfl rfl rfl rfl ?_ | refine aops_min tok rfl rfl rfl rfl rfl rfl ?_ | refine aops_a tok rfl (by omega) (by omega) rfl rfl rfl ?_ | refine aops_p tok rfl rfl rfl rfl ?_ | refine aops_ixa tok rfl rfl rfl (by decide) rfl rfl rfl rfl ?_ | refine aops_ld tok 0 rfl rfl rfl rfl rfl rfl rfl rfl ?_ | refine aops_ld tok 1 rfl rfl rfl rfl rfl rfl rfl rfl ?_ | refine aops_stn tok rfl rfl rfl rfl rfl rfl rfl rfl rfl ?_ | refine aops_stn1 tok rfl rfl rfl rfl rfl rfl rfl rfl rfl ?_ | refine acode_seq ?_ | refine acode_region ?_ | refine acode_block ?_ | refine acode_skip ?_ | refine then_n ?_ | refine block_n ?_)
      refine aops_call Try.func48 rfl rfl rfl rfl (acalls_mk0 (x := fun b => .tup [.own (some b) (k + 1) (k + 1), .bool e2]) (fun _ => rfl) (.cons (vw_kn hbs hF1 (.head _) (.tail _ (.head _)) (fun o ho => .tail _ (.tail _ (List.mem_append_left _ ho)))) (.cons (.refl _) .nil)) hof) rfl rfl ?_
      rintro y M' ⟨b3, rfl, rfl⟩
      repeat (first | refine aops_put rfl ?_ | refine aops_end ?_ | refine aops_endb ?_ | refine aops_o rfl rfl rfl ?_ | refine aops_max tok rfl rfl rfl rfl rfl rfl ?_ | refine aops_min tok rfl rfl rfl rfl rfl rfl ?_ | refine aops_a tok rfl (by omega) (by omega) rfl rfl rfl ?_ | refine aops_p tok rfl rfl rfl rfl ?_ | refine aops_ixa tok rfl rfl rfl (by decide) rfl rfl rfl rfl ?_ | refine aops_ld tok 0 rfl rfl rfl rfl rfl rfl rfl rfl ?_ | refine aops_ld tok 1 rfl rfl rfl rfl rfl rfl rfl rfl ?_ | refine aops_stn tok rfl rfl rfl rfl rfl rfl rfl rfl rfl ?_ | refine aops_stn1 tok rfl rfl rfl rfl rfl rfl rfl rfl rfl ?_ | refine acode_seq ?_ | refine acode_region ?_ | refine acode_block ?_ | refine acode_skip ?_ | refine then_n ?_ | refine block_n ?_)
      refine acode_pub0 7 1 rfl rfl (by rw [bools_len, hfl, Nat.mul_one]) rfl ?_
      refine acode_drawP [] 9 [0, 1, 2, 3, 4, 5, 6, 7, 8] [] mixed (by kernel_rfl) (by kernel_rfl) rfl ?_
      refine seqO_T rfl ?_
      repeat (first | refine seqT_put rfl ?_ | refine seqT_o rfl rfl rfl ?_ | refine seqT_max tok rfl rfl rfl rfl rfl rfl ?_ | refine seqT_min tok rfl rfl rfl rfl rfl rfl ?_ | refine seqT_a tok rfl (by omega) (by omega) rfl rfl rfl ?_ | refine seqT_p tok rfl rfl rfl rfl ?_ | refine seqT_ixa tok rfl rfl rfl (by decide) rfl rfl rfl rfl ?_ | refine seqT_ld tok 0 rfl rfl rfl rfl rfl rfl rfl rfl ?_ | refine seqT_ld tok 1 rfl rfl rfl rfl rfl rfl rfl rfl ?_)
      refine seqT_ixo tok rfl rfl rfl rfl hr0 (by omega) rfl rfl rfl ?_
      refine seqT_ld tok 1 (y := .own (some bl) (k + 1) (k + 1)) rfl rfl rfl rfl (by rw [headed_eq]; exact ownsA_get hbl) rfl rfl rfl ?_
      repeat (first | refine seqT_put rfl ?_ | refine seqT_o rfl rfl rfl ?_ | refine seqT_max tok rfl rfl rfl rfl rfl rfl ?_ | refine seqT_min tok rfl rfl rfl rfl rfl rfl ?_ | refine seqT_a tok rfl (by omega) (by omega) rfl rfl rfl ?_ | refine seqT_p tok rfl rfl rfl rfl ?_ | refine seqT_ixa tok rfl rfl rfl (by decide) rfl rfl rfl rfl ?_ | refine seqT_ld tok 0 rfl rfl rfl rfl rfl rfl rfl rfl ?_ | refine seqT_ld tok 1 rfl rfl rfl rfl rfl rfl rfl rfl ?_)
      refine SeqT.done ?_
      refine aops_call Try.func66 rfl rfl rfl rfl (joinN_calls hbl hx hxl hfl hk2 [_, _] M) rfl rfl ?_
      rintro y M' ⟨rfl, rfl⟩
      cases hcm : cameL x f with
      | true =>
        rw [hcm] at hfold
        repeat (first | refine aops_put rfl ?_ | refine aops_end ?_ | refine aops_endb ?_ | refine aops_o rfl rfl rfl ?_ | refine aops_max tok rfl rfl rfl rfl rfl rfl ?_ | refine aops_min tok rfl rfl rfl rfl rfl rfl ?_ | refine aops_a tok rfl (by omega) (by omega) rfl rfl rfl ?_ | refine aops_p tok rfl rfl rfl rfl ?_ | refine aops_ixa tok rfl rfl rfl (by decide) rfl rfl rfl rfl ?_ | refine aops_ld tok 0 rfl rfl rfl rfl rfl rfl rfl rfl ?_ | refine aops_ld tok 1 rfl rfl rfl rfl rfl rfl rfl rfl ?_ | refine aops_stn tok rfl rfl rfl rfl rfl rfl rfl rfl rfl ?_ | refine aops_stn1 tok rfl rfl rfl rfl rfl rfl rfl rfl rfl ?_ | refine acode_seq ?_ | refine acode_region ?_ | refine acode_block ?_ | refine acode_skip ?_ | refine then_n ?_ | refine block_n ?_)
        exact ⟨(j + 1, F1.set r.left.toNat (orL x f), true), ⟨by simp; omega, hok2, hfold⟩, by simp; omega, ⟨rfl, rfl, rfl, rfl, rfl, rfl, trivial⟩, rfl⟩
      | false =>
        rw [hcm] at hfold
        repeat (first | refine aops_put rfl ?_ | refine aops_end ?_ | refine aops_endb ?_ | refine aops_o rfl rfl rfl ?_ | refine aops_max tok rfl rfl rfl rfl rfl rfl ?_ | refine aops_min tok rfl rfl rfl rfl rfl rfl ?_ | refine aops_a tok rfl (by omega) (by omega) rfl rfl rfl ?_ | refine aops_p tok rfl rfl rfl rfl ?_ | refine aops_ixa tok rfl rfl rfl (by decide) rfl rfl rfl rfl ?_ | refine aops_ld tok 0 rfl rfl rfl rfl rfl rfl rfl rfl ?_ | refine aops_ld tok 1 rfl rfl rfl rfl rfl rfl rfl rfl ?_ | refine aops_stn tok rfl rfl rfl rfl rfl rfl rfl rfl rfl ?_ | refine aops_stn1 tok rfl rfl rfl rfl rfl rfl rfl rfl rfl ?_ | refine acode_seq ?_ | refine acode_region ?_ | refine acode_block ?_ | refine acode_skip ?_ | refine then_n ?_ | refine block_n ?_)
        exact ⟨(j + 1, F1.set r.left.toNat (orL x f), m1), ⟨by simp; omega, hok2, hfold⟩, by simp; omega, ⟨rfl, rfl, rfl, rfl, rfl, rfl, trivial⟩, rfl⟩
    · have hge : j = g.rules.length := by omega
      subst hge
      rw [List.drop_length] at hfold
      simp only [List.foldl_nil] at hfold
      refine acode_exit ?_
      repeat (first | refine exit_then ?_ | refine exit_here ?_ | refine exit_out rfl ?_ | refine ret_then ?_ | refine ret_block ?_ | refine then_n ?_ | refine block_n ?_)
      repeat (first | refine aops_put rfl ?_ | refine aops_end ?_ | refine aops_endb ?_ | refine aops_o rfl rfl rfl ?_ | refine aops_max tok rfl rfl rfl rfl rfl rfl ?_ | refine aops_min tok rfl rfl rfl rfl rfl rfl ?_ | refine aops_a tok rfl (by omega) (by omega) rfl rfl rfl ?_ | refine aops_p tok rfl rfl rfl rfl ?_ | refine aops_ixa tok rfl rfl rfl (by decide) rfl rfl rfl rfl ?_ | refine aops_ld tok 0 rfl rfl rfl rfl rfl rfl rfl rfl ?_ | refine aops_ld tok 1 rfl rfl rfl rfl rfl rfl rfl rfl ?_ | refine aops_stn tok rfl rfl rfl rfl rfl rfl rfl rfl rfl ?_ | refine aops_stn1 tok rfl rfl rfl rfl rfl rfl rfl rfl rfl ?_ | refine acode_seq ?_ | refine acode_region ?_ | refine acode_block ?_ | refine acode_skip ?_ | refine then_n ?_ | refine block_n ?_)
      rw [← hfold] at hRok hRc hI
      simp only at hRok hRc hI
      refine ⟨(q', F1, m1), ⟨hF1, fun h => ?_, fun h => ?_⟩, ?_, ⟨rfl, rfl, rfl, trivial⟩, rfl⟩
      · simp only at h
        rw [if_pos h] at hI
        exact ⟨hI, by have := hRc h; simp only; omega⟩
      · simp only at h
        rw [h, if_neg (by simp)] at hI
        exact hI
      · simp only
        cases m1 <;> simp
end Go.Proofs.Ytnellmjnlnnckaa.Ab

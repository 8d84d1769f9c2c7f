/- Texts of this proof, one behind the other (Chk2, ChBe). No condition. -/
import Derived.Test.YtbnhmioijeagiaaChBestP4
/- Chapter 11's and 12's reference, nullable and reachable: pulled out of Set1, Set4, Set8, SetA (printed by genchk.py). No condition. -/
set_option linter.unusedVariables false
set_option linter.unusedSimpArgs false
namespace Go.Proofs.Ytbnhmioijeagiaa.Ab
attribute [local irreducible] thenA inBlockA ACode AOps put IntKind.wrap

def bools (l : List Bool) : List A := l.map A.bool
theorem bools_len (l : List Bool) : (bools l).length = l.length := by simp [bools]
theorem bools_get {l : List Bool} {j : Nat} {x : Bool} (h : l[j]? = some x) : (bools l)[j * 1]? = some (A.bool x) := by rw [Nat.mul_one]; simp [bools, h]
theorem bools_zeros (n : Nat) : zerosA [A.bool false] n = bools (List.replicate n false) := by rw [zerosA_one]; simp [bools]
theorem bools_set {l : List Bool} {j : Nat} (h : j < l.length) (x : Bool) : (bools l).take (j * 1) ++ ([A.bool x] ++ (bools l).drop (j * 1 + 1)) = bools (l.set j x) := by
  rw [Nat.mul_one, List.set_eq_take_append_cons_drop, if_pos h]; simp [bools]
def emptyF (g : Gr) (o : List Bool) (l : List Int) : Bool := l.all fun s => decide (isName g s) && o.getD s.toNat false
def nullS (g : Gr) (x : List Bool × Bool) (r : Ru) : List Bool × Bool := if !(x.1.getD r.left.toNat false) && emptyF g x.1 r.right then (x.1.set r.left.toNat true, true) else x
def nullR (g : Gr) (o : List Bool) : List Bool × Bool := g.rules.foldl (nullS g) (o, false)
def nullI (g : Gr) : Nat → List Bool → List Bool
  | 0, o => o
  | k + 1, o => if (nullR g o).2 then nullI g k (nullR g o).1 else (nullR g o).1
def nullF (g : Gr) (n : Nat) : List Bool := nullI g (n + 1) (List.replicate n false)
theorem nullS_len (g : Gr) (x : List Bool × Bool) (r : Ru) : (nullS g x r).1.length = x.1.length := by
  unfold nullS; split <;> simp
theorem nullS_cnt (g : Gr) (x : List Bool × Bool) (r : Ru) (h0 : r.left.toNat < x.1.length) : (nullS g x r).1.count false ≤ x.1.count false ∧ ((nullS g x r).2 = true → x.2 = true ∨ (nullS g x r).1.count false < x.1.count false) := by
  unfold nullS; split
  · rename_i h
    simp only [Bool.and_eq_true, Bool.not_eq_true'] at h
    have hx : x.1[r.left.toNat] = false := by
      have := h.1
      rwa [List.getD_eq_getElem?_getD, List.getElem?_eq_getElem h0] at this
    have hpos : 0 < x.1.count false := List.count_pos_iff.2 (hx ▸ List.getElem_mem h0)
    have : (x.1.set r.left.toNat true).count false < x.1.count false := by
      rw [List.count_set h0, hx]; simp; omega
    exact ⟨by simp only; omega, fun _ => .inr this⟩
  · exact ⟨Nat.le_refl _, fun h => .inl h⟩
theorem nullL_len (g : Gr) : ∀ (rs : List Ru) (x : List Bool × Bool), (rs.foldl (nullS g) x).1.length = x.1.length
  | [], _ => rfl
  | r :: rs, x => by rw [List.foldl_cons, nullL_len g rs, nullS_len]
theorem nullL_cnt (g : Gr) (n : Nat) : ∀ (rs : List Ru) (x : List Bool × Bool), (∀ r ∈ rs, r.left.toNat < n) → x.1.length = n → (rs.foldl (nullS g) x).1.count false ≤ x.1.count false ∧ ((rs.foldl (nullS g) x).2 = true → x.2 = true ∨ (rs.foldl (nullS g) x).1.count false < x.1.count false)
  | [], x, _, _ => ⟨Nat.le_refl _, fun h => .inl h⟩
  | r :: rs, x, h, hl => by
    obtain ⟨a1, a2⟩ := nullS_cnt g x r (by rw [hl]; exact h r (by simp))
    obtain ⟨b1, b2⟩ := nullL_cnt g n rs (nullS g x r) (fun r hr => h r (by simp [hr])) (by rw [nullS_len, hl])
    rw [List.foldl_cons]
    refine ⟨Nat.le_trans b1 a1, fun h => ?_⟩
    rcases b2 h with h | h
    · rcases a2 h with h | h
      · exact .inl h
      · exact .inr (by omega)
    · exact .inr (by omega)
def fewB (g : Gr) : Prop := g.rules.length ≤ 70 ∧ g.forbid.length ≤ 250 ∧ g.rc.length ≤ 100 ∧ g.kc.length ≤ 100
instance (g : Gr) : Decidable (fewB g) := inferInstanceAs (Decidable (_ ∧ _ ∧ _ ∧ _))
theorem few_calls {g : Gr} (M : List Ob) : ACalls Try.prog 11 [grA g] M (fun r M' => r = .bool (decide (fewB g)) ∧ M' = M) := by
  refine acalls_of_code 25 Try.func11 rfl rfl rfl ?_
  repeat (first | refine acode_seq ?_ | refine acode_region ?_)
  refine aops_boxf rfl rfl rfl rfl rfl rfl rfl ?_
  repeat' (first | refine aops_end ?_ | refine aops_o rfl rfl rfl ?_ | (refine aops_pd tok rfl rfl rfl rfl ?_ ?_ <;> intro e_) | refine aops_p tok rfl rfl rfl rfl ?_ | refine acode_seq ?_ | refine acode_region ?_)
  all_goals
    refine acode_ret ?_
    skip
    exact ⟨.bool (decide (fewB g)), ⟨rfl, rfl⟩, resOf_tmp (by first | exact bt (by unfold fewB; omega) | exact bf (by unfold fewB; omega))⟩
def fixI {α : Type} (R : α → α × Bool) : Nat → α → α
  | 0, x => x
  | q + 1, x => if (R x).2 then fixI R q (R x).1 else (R x).1
theorem fixI_done {α : Type} {R : α → α × Bool} {m : α → Nat} {p : α → Prop} (hp : ∀ x, p x → p (R x).1) (hm : ∀ x, p x → (R x).2 = true → m (R x).1 < m x) : ∀ (q : Nat) (x : α), p x → m x < q → ∃ y, p y ∧ (R y).2 = false ∧ fixI R q x = (R y).1
  | 0, x, _, h => by omega
  | q + 1, x, h, hq => by
    rw [fixI]
    cases hb : (R x).2 with
    | true => exact fixI_done hp hm q _ (hp x h) (by have := hm x h hb; omega)
    | false => exact ⟨x, h, hb, rfl⟩
theorem fixI_ok {α : Type} {R : α → α × Bool} {p : α → Prop} (hp : ∀ x, p x → p (R x).1) : ∀ (q : Nat) (x : α), p x → p (fixI R q x)
  | 0, x, h => h
  | q + 1, x, h => by
    rw [fixI]
    split
    · exact fixI_ok hp q _ (hp x h)
    · exact hp x h
theorem formed_calls {g : Gr} (hg : GrOk g) (M : List Ob) : ACalls Try.prog 68 [grA g] M (fun r M' => r = .bool (decide ((formF g).2 = 0)) ∧ M' = M) := by
  refine acalls_of_code 12 Try.func68 rfl rfl rfl ?_
  repeat (first | refine acode_seq ?_ | refine acode_region ?_)
  refine aops_boxf rfl rfl rfl rfl rfl rfl rfl ?_
  repeat (first | refine aops_end ?_ | refine aops_p tok rfl rfl rfl rfl ?_ | refine acode_seq ?_ | refine acode_region ?_)
  refine aops_callx Try.func29 rfl rfl rfl rfl (rform_calls hg _) rfl rfl rfl ?_
  repeat' (first | refine aops_end ?_ | (refine aops_pd tok rfl rfl rfl rfl ?_ ?_ <;> intro e_) | refine aops_p tok rfl rfl rfl rfl ?_ | refine acode_seq ?_ | refine acode_region ?_)
  · refine acode_ret ?_
    skip
    exact ⟨.bool (decide ((formF g).2 = 0)), ⟨rfl, rfl⟩, resOf_tmp (bt e_)⟩
  · refine acode_ret ?_
    skip
    exact ⟨.bool (decide ((formF g).2 = 0)), ⟨rfl, rfl⟩, resOf_tmp (bf e_)⟩
def nz (g : Gr) (o : List Bool) (r : Ru) (q : Nat) : Bool := !(o.getD r.left.toNat false) && emptyF g o (r.right.take q)
theorem nz_end {g : Gr} {o : List Bool} {r : Ru} : nz g o r r.right.length = (!(o.getD r.left.toNat false) && emptyF g o r.right) := by unfold nz; rw [List.take_length]
theorem nz_false {g : Gr} {o : List Bool} {r : Ru} {q : Nat} (h : nz g o r q = false) : nz g o r r.right.length = false := by
  cases h2 : nz g o r r.right.length with
  | false => rfl
  | true =>
    unfold nz emptyF at h h2
    rw [List.take_length] at h2
    simp only [Bool.and_eq_true, List.all_eq_true] at h2
    have : (!(o.getD r.left.toNat false) && (r.right.take q).all fun s => decide (isName g s) && o.getD s.toNat false) = true := by
      simp only [Bool.and_eq_true, List.all_eq_true]
      exact ⟨h2.1, fun s hs => h2.2 s (List.mem_of_mem_take hs)⟩
    rw [this] at h
    cases h
theorem nz_succ {g : Gr} {o : List Bool} {r : Ru} {q : Nat} {s : Int} (hs : r.right[q]? = some s) : nz g o r (q + 1) = (nz g o r q && (decide (isName g s) && o.getD s.toNat false)) := by
  unfold nz emptyF
  rw [List.take_add_one, hs, List.all_append]
  simp [Bool.and_assoc]
set_option maxHeartbeats 4000000 in
theorem rnullable_calls {g : Gr} {n : Nat} (hg : GrOk g) (h : (formF g).2 = 0) (hn : g.names = n) (hn2 : n ≤ 1000) (hw : ∀ r ∈ g.rules, isName g r.left) (hsy : ∀ r ∈ g.rules, ∀ s ∈ r.right, isSym g s) (M : List Ob) :
    ACalls Try.prog 70 [grA g] M (fun r M' => r = .psl n (bools (nullF g n)) ∧ M' = M) := by
  have hrl := hg.rl
  have hlt : ∀ r ∈ g.rules, r.left.toNat < n := fun r hr => by have := hw r hr; unfold isName at this; omega
  refine acalls_of_code 66 Try.func70 rfl rfl rfl ?_
  repeat (first | refine acode_seq ?_ | refine acode_region ?_)
  refine aops_boxf rfl rfl rfl rfl rfl rfl rfl ?_
  repeat (first | refine aops_end ?_ | refine aops_p tok rfl rfl rfl rfl ?_ | refine acode_seq ?_ | refine acode_region ?_)
  refine aops_callx Try.func68 rfl rfl rfl rfl (formed_calls hg _) rfl rfl rfl ?_
  rw [decide_eq_true h]
  repeat' (first | refine aops_end ?_ | refine aops_p tok rfl rfl rfl rfl ?_ | refine acode_if rfl ?_ | refine acode_seq ?_ | refine acode_region ?_ | refine acode_skip ?_ | refine then_n ?_)
  refine aops_mk tok n rfl rfl rfl rfl hn rfl (by show _ * 1 ≤ _; omega) (by omega) rfl rfl rfl fun bo => ?_
  repeat (first | refine aops_end ?_ | refine aops_p tok rfl rfl rfl rfl ?_ | refine acode_seq ?_ | refine acode_region ?_ | refine acode_block ?_)
  refine acode_loopS (ι := Nat × List Bool × Bool) (fun p => [(1, .pp (grC g)), (3, .own (some bo) n n), (4, .bool p.2.2)]) (fun p => ⟨some bo, n * 1, bools p.2.1⟩ :: M) (fun p => if p.2.2 then p.1 + 1 else 0) (fun p => p.2.1.length = n ∧ (p.2.2 = true → nullI g p.1 p.2.1 = nullF g n ∧ p.2.1.count false < p.1) ∧ (p.2.2 = false → p.2.1 = nullF g n)) (n + 1, List.replicate n false, true) ⟨by simp, fun _ => ⟨rfl, by simp⟩, fun h => by cases h⟩ ⟨rfl, rfl, rfl, trivial⟩ (by simp only; rw [← bools_zeros]; rfl) ?_
  rintro ⟨k, o, more⟩ ⟨hol, hm, hd⟩
  simp only at hol hm hd ⊢
  cases more with
  | false =>
    have hfin := hd rfl
    repeat' (first | refine aops_end ?_ | refine aops_p tok rfl rfl rfl rfl ?_ | refine acode_if rfl ?_ | refine acode_seq ?_ | refine acode_region ?_)
    refine acode_exit ?_
    repeat (first | refine exit_then ?_ | refine exit_here ?_ | refine then_n ?_)
    repeat (first | refine aops_end ?_ | refine aops_p tok rfl rfl rfl rfl ?_ | refine acode_seq ?_ | refine acode_region ?_)
    refine acode_pub0 2 1 rfl rfl (by rw [bools_len, hol, Nat.mul_one]) rfl ?_
    refine acode_ret ?_
    skip
    exact ⟨_, ⟨by rw [hfin]; rfl, rfl⟩, resOf_tmp rfl⟩
  | true =>
    obtain ⟨hI, hcnt⟩ := hm rfl
    clear hm hd
    obtain ⟨k', rfl⟩ : ∃ k', k = k' + 1 := ⟨k - 1, by omega⟩
    have hRl : (nullR g o).1.length = n := by unfold nullR; rw [nullL_len]; exact hol
    have hRc := nullL_cnt g n g.rules (o, false) hlt hol
    change (nullR g o).1.count false ≤ _ ∧ ((nullR g o).2 = true → _) at hRc
    simp only [nullI] at hI
    repeat' (first | refine aops_end ?_ | refine aops_p tok rfl rfl rfl rfl ?_ | refine acode_it rfl ?_ | refine acode_seq ?_ | refine acode_region ?_ | refine acode_block ?_ | refine acode_skip ?_ | refine then_n ?_)
    refine acode_loopS (ι := Nat × List Bool × Bool) (fun p => [(1, .pp (grC g)), (3, .own (some bo) n n), (4, .bool p.2.2), (5, .int .i64 p.1)]) (fun p => ⟨some bo, n * 1, bools p.2.1⟩ :: M) (fun p => g.rules.length - p.1) (fun p => p.1 ≤ g.rules.length ∧ p.2.1.length = n ∧ (g.rules.drop p.1).foldl (nullS g) (p.2.1, p.2.2) = nullR g o) (0, o, false) ⟨Nat.zero_le _, hol, rfl⟩ ⟨rfl, rfl, rfl, rfl, trivial⟩ rfl ?_
    rintro ⟨q, o1, m1⟩ ⟨hq, ho1, hfold⟩
    simp only at hq ho1 hfold ⊢
    repeat (first | refine aops_end ?_ | refine aops_p tok rfl rfl rfl rfl ?_ | refine acode_seq ?_ | refine acode_region ?_)
    refine acode_id rfl (fun e => ?_) (fun e => ?_)
    · have hql : q < g.rules.length := by omega
      obtain ⟨r, hr⟩ : ∃ r, g.rules[q]? = some r := ⟨g.rules[q], List.getElem?_eq_getElem hql⟩
      have hrm := List.mem_of_getElem? hr
      have hdr : g.rules.drop q = r :: g.rules.drop (q + 1) := by
        rw [List.drop_eq_getElem_cons hql]
        rw [List.getElem?_eq_getElem hql] at hr
        rw [Option.some.inj hr]
      rw [hdr, List.foldl_cons] at hfold
      obtain ⟨hr0, hr1⟩ := hw r hrm
      have hl1 := hlt r hrm
      have hrr := (hg.rr r hrm).1
      have hrg := (hg.rr r hrm).2
      obtain ⟨x, hx⟩ : ∃ x, o1[r.left.toNat]? = some x := ⟨o1[r.left.toNat]'(by omega), List.getElem?_eq_getElem (by omega)⟩
      have hgd : o1.getD r.left.toNat false = x := by rw [List.getD_eq_getElem?_getD, hx]; rfl
      repeat (first | refine aops_p tok rfl rfl rfl rfl ?_ | refine acode_seq ?_ | refine acode_region ?_ | refine acode_block ?_ | refine acode_skip ?_ | refine then_n ?_)
      refine aops_ix tok (ruC r) rfl rfl rfl rfl (by omega) (by omega) (by simp [ruC]) (encs_at (e := ruC) (s := 3) (fun _ => rfl) (i := (q : Int).toNat) (by simpa using hr)) rfl rfl rfl ?_
      repeat (refine aops_p tok rfl rfl rfl rfl ?_)
      refine aops_alloc tok rfl rfl rfl rfl rfl rfl fun ba => ?_
      refine aops_stn tok rfl rfl rfl rfl rfl rfl rfl rfl rfl ?_
      refine aops_pubref0 6 rfl ?_
      repeat (first | refine aops_end ?_ | refine aops_p tok rfl rfl rfl rfl ?_ | refine acode_seq ?_ | refine acode_region ?_)
      refine aops_ixo tok rfl rfl rfl rfl hr0 (by omega) rfl rfl rfl ?_
      refine aops_ld tok 0 (y := .bool x) rfl rfl rfl rfl (by rw [headed_eq]; exact bools_get hx) rfl rfl rfl ?_
      have h0 : nz g o1 r 0 = !x := by unfold nz emptyF; rw [hgd]; simp
      repeat (refine aops_p tok rfl rfl rfl rfl ?_)
      refine aops_end ?_
      refine acode_seq ?_
      refine acode_join [(1, .pp (grC g)), (3, .own (some bo) n n), (4, .bool m1), (5, .int .i64 q), (6, .pp (ruC r)), (7, .bool (nz g o1 r r.right.length))] (⟨some bo, n * 1, bools o1⟩ :: M) ?_ ?_
      · repeat (first | refine aops_end ?_ | refine aops_p tok rfl rfl rfl rfl ?_ | refine acode_seq ?_ | refine acode_region ?_ | refine acode_block ?_)
        refine acode_loopS (ι := Nat) (fun j => [(1, .pp (grC g)), (3, .own (some bo) n n), (4, .bool m1), (5, .int .i64 q), (6, .pp (ruC r)), (7, .bool (nz g o1 r j)), (8, .int .i64 j)]) (fun _ => ⟨some bo, n * 1, bools o1⟩ :: M) (fun j => r.right.length - j) (fun j => j ≤ r.right.length) 0 (Nat.zero_le _) ⟨rfl, rfl, rfl, rfl, rfl, by rw [h0]; rfl, rfl, trivial⟩ rfl ?_
        intro j hj
        cases hok : nz g o1 r j with
        | false =>
          repeat' (first | refine aops_end ?_ | refine aops_o rfl rfl rfl ?_ | (refine aops_pd tok rfl rfl rfl rfl ?_ ?_ <;> intro e_) | refine aops_p tok rfl rfl rfl rfl ?_ | refine acode_if rfl ?_ | refine acode_seq ?_ | refine acode_region ?_)
          all_goals
            refine acode_exit ?_
            repeat (first | refine exit_then ?_ | refine exit_here ?_ | refine then_n ?_)
            exact ⟨⟨rfl, rfl, rfl, rfl, rfl, by rw [nz_false hok]; rfl, trivial⟩, rfl⟩
        | true =>
          by_cases hjl : j < r.right.length
          · obtain ⟨s, hsx⟩ : ∃ s, r.right[j]? = some s := ⟨r.right[j]'(by omega), List.getElem?_eq_getElem (by omega)⟩
            have hsu := nz_succ (g := g) (o := o1) hsx
            have hsm := List.mem_of_getElem? hsx
            have hss := hsy r hrm s hsm
            unfold isSym isKind at hss
            rw [hok, Bool.true_and] at hsu
            repeat' (first | refine aops_end ?_ | refine aops_pbt tok rfl (by first | omega | decide) rfl rfl rfl ?_ | refine aops_p tok rfl rfl rfl rfl ?_ | refine acode_it rfl ?_ | refine acode_seq ?_ | refine acode_region ?_ | refine acode_block ?_ | refine acode_skip ?_ | refine then_n ?_)
            refine aops_ix tok [A.int .i64 s] rfl rfl rfl rfl (by omega) (by omega) (by simp) (ints_at (j := j) (by simpa using hsx)) rfl rfl rfl ?_
            by_cases hs0 : 0 ≤ s
            · have hnm : isName g s := by unfold isName; unfold isName at hss; omega
              obtain ⟨n0, n1⟩ := id hnm
              obtain ⟨z, hz⟩ : ∃ z, o1[s.toNat]? = some z := ⟨o1[s.toNat]'(by omega), List.getElem?_eq_getElem (by omega)⟩
              have hzd : o1.getD s.toNat false = z := by rw [List.getD_eq_getElem?_getD, hz]; rfl
              rw [decide_eq_true hnm, hzd, Bool.true_and] at hsu
              repeat' (first | refine aops_pbt tok rfl (by first | omega | decide) rfl rfl rfl ?_ | refine aops_p tok rfl rfl rfl rfl ?_)
              refine aops_ix tok [A.int .i64 s] rfl rfl rfl rfl (by omega) (by omega) (by simp) (ints_at (j := j) (by simpa using hsx)) rfl rfl rfl ?_
              repeat (refine aops_p tok rfl rfl rfl rfl ?_)
              refine aops_ixo tok rfl rfl rfl rfl hs0 (by omega) rfl rfl rfl ?_
              refine aops_ld tok 0 (y := .bool z) rfl rfl rfl rfl (by rw [headed_eq]; exact bools_get hz) rfl rfl rfl ?_
              repeat (first | refine aops_end ?_ | refine aops_endb ?_ | refine aops_a tok rfl (by omega) (by omega) rfl rfl rfl ?_ | refine aops_p tok rfl rfl rfl rfl ?_ | refine acode_region ?_ | refine then_n ?_)
              exact ⟨j + 1, by omega, by omega, ⟨rfl, rfl, rfl, rfl, rfl, by rw [hsu]; rfl, rfl, trivial⟩, rfl⟩
            · rw [decide_eq_false (by unfold isName; omega), Bool.false_and] at hsu
              repeat' (first | refine aops_end ?_ | refine aops_endb ?_ | refine aops_o rfl rfl rfl ?_ | refine aops_a tok rfl (by omega) (by omega) rfl rfl rfl ?_ | refine aops_pbf tok rfl (by first | omega | decide) rfl rfl rfl ?_ | refine aops_p tok rfl rfl rfl rfl ?_ | refine acode_region ?_ | refine then_n ?_)
              exact ⟨j + 1, by omega, by omega, ⟨rfl, rfl, rfl, rfl, rfl, by rw [hsu]; rfl, rfl, trivial⟩, rfl⟩
          · obtain rfl : j = r.right.length := by omega
            repeat' (first | refine aops_end ?_ | refine aops_o rfl rfl rfl ?_ | refine aops_pbf tok rfl (by first | omega | decide) rfl rfl rfl ?_ | refine aops_p tok rfl rfl rfl rfl ?_ | refine acode_if rfl ?_ | refine acode_seq ?_ | refine acode_region ?_)
            refine acode_exit ?_
            repeat (first | refine exit_then ?_ | refine exit_here ?_ | refine then_n ?_)
            exact ⟨⟨rfl, rfl, rfl, rfl, rfl, by rw [hok]; rfl, trivial⟩, rfl⟩
      have hne := nz_end (g := g) (o := o1) (r := r)
      cases hE : nz g o1 r r.right.length with
      | true =>
        have hst : nullS g (o1, m1) r = (o1.set r.left.toNat true, true) := by unfold nullS; rw [if_pos (by rw [← hne, hE])]
        rw [hst] at hfold
        repeat' (first | refine aops_end ?_ | refine aops_p tok rfl rfl rfl rfl ?_ | refine acode_it rfl ?_ | refine acode_seq ?_ | refine acode_region ?_)
        refine aops_ixo tok rfl rfl rfl rfl hr0 (by omega) rfl rfl rfl ?_
        refine aops_sto tok (bools (o1.set r.left.toNat true)) rfl rfl rfl rfl rfl (by rw [bools_len, ho1]; show r.left.toNat * 1 + 1 ≤ _; omega) (bools_set (by omega) true) rfl rfl ?_
        repeat (first | refine aops_end ?_ | refine aops_endb ?_ | refine aops_a tok rfl (by omega) (by omega) rfl rfl rfl ?_ | refine aops_p tok rfl rfl rfl rfl ?_ | refine acode_region ?_ | refine then_n ?_)
        exact ⟨(q + 1, o1.set r.left.toNat true, true), ⟨by simp; omega, by simp [ho1], hfold⟩, by simp; omega, ⟨rfl, rfl, rfl, rfl, trivial⟩, rfl⟩
      | false =>
        have hst : nullS g (o1, m1) r = (o1, m1) := by unfold nullS; rw [if_neg (by rw [← hne, hE]; simp)]
        rw [hst] at hfold
        repeat' (first | refine aops_end ?_ | refine aops_a tok rfl (by omega) (by omega) rfl rfl rfl ?_ | refine aops_p tok rfl rfl rfl rfl ?_ | refine acode_if rfl ?_ | refine acode_seq ?_ | refine acode_region ?_ | refine acode_skip ?_ | refine then_n ?_ | refine block_n ?_)
        exact ⟨(q + 1, o1, m1), ⟨by simp; omega, ho1, hfold⟩, by simp; omega, ⟨rfl, rfl, rfl, rfl, trivial⟩, rfl⟩
    · have hge : q = g.rules.length := by omega
      subst hge
      rw [List.drop_length] at hfold
      simp only [List.foldl_nil] at hfold
      refine acode_exit ?_
      repeat (first | refine exit_then ?_ | refine exit_here ?_ | refine then_n ?_ | refine block_n ?_)
      skip
      refine ⟨(k', o1, m1), ⟨ho1, fun h => ?_, fun h => ?_⟩, ?_, ⟨rfl, rfl, rfl, trivial⟩, rfl⟩
      · simp only at h
        have h2 : (nullR g o).2 = true := by rw [← hfold]; exact h
        rw [if_pos h2] at hI
        refine ⟨by rw [← hI, ← hfold], ?_⟩
        rcases hRc.2 h2 with h3 | h3
        · cases h3
        · change (nullR g o).1.count false < o.count false at h3
          rw [← hfold] at h3; simp only at h3 ⊢; omega
      · simp only at h
        have h2 : (nullR g o).2 = false := by rw [← hfold]; exact h
        rw [h2] at hI
        rw [if_neg (by simp)] at hI
        rw [← hI, ← hfold]
      · simp only
        cases m1 <;> simp
def Gw {α : Type} (p : α → Prop) (m : α → Nat) (x y : α × Bool) : Prop := p x.1 → p y.1 ∧ m y.1 ≤ m x.1 ∧ (y.2 = true → x.2 = true ∨ m y.1 < m x.1)
theorem gw_refl {α : Type} {p : α → Prop} {m : α → Nat} (x : α × Bool) : Gw p m x x := fun h => ⟨h, Nat.le_refl _, fun h => .inl h⟩
theorem gw_trans {α : Type} {p : α → Prop} {m : α → Nat} {x y z : α × Bool} (h1 : Gw p m x y) (h2 : Gw p m y z) : Gw p m x z := fun h => by
  obtain ⟨a1, a2, a3⟩ := h1 h
  obtain ⟨b1, b2, b3⟩ := h2 a1
  refine ⟨b1, by omega, fun h => ?_⟩
  rcases b3 h with h | h
  · rcases a3 h with h | h
    · exact .inl h
    · exact .inr (by omega)
  · exact .inr (by omega)
theorem gw_fold {α β : Type} {p : α → Prop} {m : α → Nat} {f : α × Bool → β → α × Bool} : ∀ (l : List β) (x : α × Bool), (∀ b ∈ l, ∀ x, Gw p m x (f x b)) → Gw p m x (l.foldl f x)
  | [], x, _ => gw_refl x
  | b :: l, x, h => gw_trans (h b (by simp) x) (gw_fold l _ fun b hb => h b (by simp [hb]))
def reach1 (g : Gr) (r : Ru) (x : List Bool × Bool) (s : Int) : List Bool × Bool := if x.1.getD r.left.toNat false = true ∧ isName g s ∧ x.1.getD s.toNat false = false then (x.1.set s.toNat true, true) else x
def reachS (g : Gr) (x : List Bool × Bool) (r : Ru) : List Bool × Bool := r.right.foldl (reach1 g r) x
def reachR (g : Gr) (o : List Bool) : List Bool × Bool := g.rules.foldl (reachS g) (o, false)
def reach0 (g : Gr) (n : Nat) : List Bool := (List.replicate n false).set g.start.toNat true
def reachF (g : Gr) (n : Nat) : List Bool := fixI (reachR g) (n + 1) (reach0 g n)
theorem reach0_len (g : Gr) (n : Nat) : (reach0 g n).length = n := by simp [reach0]
theorem reach1_gw {g : Gr} {n : Nat} (hn : g.names = n) (r : Ru) (x : List Bool × Bool) (s : Int) : Gw (fun o => o.length = n) (fun o => o.count false) x (reach1 g r x s) := by
  intro hx
  unfold reach1
  split
  · rename_i h
    obtain ⟨h1, h2, h3⟩ := h
    unfold isName at h2
    have h0 : s.toNat < x.1.length := by omega
    have hxs : x.1[s.toNat] = false := by
      rwa [List.getD_eq_getElem?_getD, List.getElem?_eq_getElem h0] at h3
    have hpos : 0 < x.1.count false := List.count_pos_iff.2 (hxs ▸ List.getElem_mem h0)
    have : (x.1.set s.toNat true).count false < x.1.count false := by
      rw [List.count_set h0, hxs]; simp; omega
    exact ⟨by simpa using hx, by simp only; omega, fun _ => .inr this⟩
  · exact gw_refl (p := fun o => o.length = n) (m := fun o => o.count false) x hx
theorem reachR_gw {g : Gr} {n : Nat} (hn : g.names = n) (o : List Bool) : Gw (fun o => o.length = n) (fun o => o.count false) (o, false) (reachR g o) :=
  gw_fold _ _ fun r _ x => gw_fold _ _ fun s _ y => reach1_gw hn r y s
theorem reach1_skip {g : Gr} {r : Ru} : ∀ (l : List Int) (x : List Bool × Bool), x.1.getD r.left.toNat false = false → l.foldl (reach1 g r) x = x
  | [], x, h => rfl
  | s :: l, x, h => by
    have : reach1 g r x s = x := by unfold reach1; rw [if_neg (by rw [h]; simp)]
    rw [List.foldl_cons, this]; exact reach1_skip l x h
theorem reachF_len {g : Gr} {n : Nat} (hn : g.names = n) : (reachF g n).length = n := fixI_ok (p := fun o => o.length = n) (fun x h => (reachR_gw hn x h).1) _ _ (reach0_len g n)
theorem reach0_cnt (g : Gr) (n : Nat) : (reach0 g n).count false < n + 1 := Nat.lt_succ_of_le (by have := List.count_le_length (a := false) (l := reach0 g n); rwa [reach0_len] at this)
set_option maxHeartbeats 8000000 in
theorem rreach_calls {g : Gr} {n : Nat} (hg : GrOk g) (h : (formF g).2 = 0) (hn : g.names = n) (hn2 : n ≤ 1000) (hst : isName g g.start) (hw : ∀ r ∈ g.rules, isName g r.left) (hsy : ∀ r ∈ g.rules, ∀ s ∈ r.right, isSym g s) (M : List Ob) :
    ACalls Try.prog 30 [grA g] M (fun r M' => r = .psl n (bools (reachF g n)) ∧ M' = M) := by
  have hrl := hg.rl
  obtain ⟨s0, s1⟩ := id hst
  refine acalls_of_code 70 Try.func30 rfl rfl rfl ?_
  repeat (first | refine acode_seq ?_ | refine acode_region ?_)
  refine aops_boxf rfl rfl rfl rfl rfl rfl rfl ?_
  repeat (first | refine aops_end ?_ | refine aops_p tok rfl rfl rfl rfl ?_ | refine acode_seq ?_ | refine acode_region ?_)
  refine aops_callx Try.func68 rfl rfl rfl rfl (formed_calls hg _) rfl rfl rfl ?_
  rw [decide_eq_true h]
  repeat' (first | refine aops_end ?_ | refine aops_p tok rfl rfl rfl rfl ?_ | refine acode_if rfl ?_ | refine acode_seq ?_ | refine acode_region ?_ | refine acode_skip ?_ | refine then_n ?_)
  refine aops_mk tok n rfl rfl rfl rfl hn rfl (by show _ * 1 ≤ _; omega) (by omega) rfl rfl rfl fun bo => ?_
  repeat (first | refine aops_end ?_ | refine aops_p tok rfl rfl rfl rfl ?_ | refine acode_seq ?_ | refine acode_region ?_)
  refine aops_ixo tok rfl rfl rfl rfl s0 (by omega) rfl rfl rfl ?_
  refine aops_sto tok (bools (reach0 g n)) rfl rfl rfl rfl rfl (by show g.start.toNat * 1 + 1 ≤ (zerosA [A.bool false] n).length; rw [bools_zeros, bools_len, List.length_replicate]; omega) (by show (zerosA [A.bool false] n).take (g.start.toNat * 1) ++ ([A.bool true] ++ (zerosA [A.bool false] n).drop (g.start.toNat * 1 + 1)) = _; rw [bools_zeros]; exact bools_set (by simp; omega) true) rfl rfl ?_
  have hR0 : fixI (reachR g) (n + 1) (reach0 g n) = reachF g n := rfl
  have hlen := reachF_len (g := g) hn
  have h0c := reach0_cnt g n
  have h0l := reach0_len g n
  generalize reachF g n = fin at *
  generalize reach0 g n = o0 at *
  repeat (first | refine aops_end ?_ | refine aops_p tok rfl rfl rfl rfl ?_ | refine acode_seq ?_ | refine acode_region ?_ | refine acode_block ?_)
  refine acode_loopS (ι := Nat × List Bool × Bool) (fun p => [(1, .pp (grC g)), (3, .own (some bo) n n), (4, .bool p.2.2)]) (fun p => ⟨some bo, n * 1, bools p.2.1⟩ :: M) (fun p => if p.2.2 then p.1 + 1 else 0) (fun p => p.2.1.length = n ∧ (p.2.2 = true → fixI (reachR g) p.1 p.2.1 = fin ∧ p.2.1.count false < p.1) ∧ (p.2.2 = false → p.2.1 = fin)) (n + 1, o0, true) ⟨h0l, fun _ => ⟨hR0, h0c⟩, fun h => by cases h⟩ ⟨rfl, rfl, rfl, trivial⟩ rfl ?_
  rintro ⟨q, o, more⟩ ⟨hol, hm, hd⟩
  simp only at hol hm hd ⊢
  cases more with
  | false =>
    obtain rfl := hd rfl
    repeat' (first | refine aops_end ?_ | refine aops_p tok rfl rfl rfl rfl ?_ | refine acode_if rfl ?_ | refine acode_seq ?_ | refine acode_region ?_)
    refine acode_exit ?_
    repeat (first | refine exit_then ?_ | refine exit_here ?_ | refine then_n ?_)
    repeat (first | refine aops_end ?_ | refine aops_p tok rfl rfl rfl rfl ?_ | refine acode_seq ?_ | refine acode_region ?_)
    refine acode_pub0 2 1 rfl rfl (by rw [bools_len, hol, Nat.mul_one]) rfl ?_
    refine acode_ret ?_
    skip
    exact ⟨_, ⟨rfl, rfl⟩, resOf_tmp rfl⟩
  | true =>
    obtain ⟨hI, hcnt⟩ := hm rfl
    clear hm hd
    obtain ⟨q', rfl⟩ : ∃ q', q = q' + 1 := ⟨q - 1, by omega⟩
    obtain ⟨hRl, hR1, hR2⟩ := reachR_gw hn o hol
    simp only [fixI] at hI
    simp only at hR1 hR2 hRl
    repeat' (first | refine aops_end ?_ | refine aops_p tok rfl rfl rfl rfl ?_ | refine acode_it rfl ?_ | refine acode_seq ?_ | refine acode_region ?_ | refine acode_block ?_ | refine acode_skip ?_ | refine then_n ?_)
    refine acode_loopS (ι := Nat × List Bool × Bool) (fun p => [(1, .pp (grC g)), (3, .own (some bo) n n), (4, .bool p.2.2), (5, .int .i64 p.1)]) (fun p => ⟨some bo, n * 1, bools p.2.1⟩ :: M) (fun p => g.rules.length - p.1) (fun p => p.1 ≤ g.rules.length ∧ p.2.1.length = n ∧ (g.rules.drop p.1).foldl (reachS g) (p.2.1, p.2.2) = reachR g o) (0, o, false) ⟨Nat.zero_le _, hol, rfl⟩ ⟨rfl, rfl, rfl, rfl, trivial⟩ rfl ?_
    rintro ⟨j, o1, m1⟩ ⟨hj, ho1, hfold⟩
    simp only at hj ho1 hfold ⊢
    repeat (first | refine aops_end ?_ | refine aops_p tok rfl rfl rfl rfl ?_ | refine acode_seq ?_ | refine acode_region ?_)
    refine acode_id rfl (fun e => ?_) (fun e => ?_)
    · have hjl : j < g.rules.length := by omega
      obtain ⟨r, hr⟩ : ∃ r, g.rules[j]? = some r := ⟨g.rules[j], List.getElem?_eq_getElem hjl⟩
      have hrm := List.mem_of_getElem? hr
      have hdr : g.rules.drop j = r :: g.rules.drop (j + 1) := by
        rw [List.drop_eq_getElem_cons hjl]
        rw [List.getElem?_eq_getElem hjl] at hr
        rw [Option.some.inj hr]
      rw [hdr, List.foldl_cons] at hfold
      obtain ⟨hr0, hr1⟩ := hw r hrm
      have hrr := (hg.rr r hrm).1
      repeat (first | refine aops_p tok rfl rfl rfl rfl ?_ | refine acode_seq ?_ | refine acode_region ?_ | refine acode_block ?_ | refine acode_skip ?_ | refine then_n ?_)
      refine aops_ix tok (ruC r) rfl rfl rfl rfl (by omega) (by omega) (by simp [ruC]) (encs_at (e := ruC) (s := 3) (fun _ => rfl) (i := (j : Int).toNat) (by simpa using hr)) rfl rfl rfl ?_
      repeat (refine aops_p tok rfl rfl rfl rfl ?_)
      refine aops_alloc tok rfl rfl rfl rfl rfl rfl fun ba => ?_
      refine aops_stn tok rfl rfl rfl rfl rfl rfl rfl rfl rfl ?_
      refine aops_pubref0 6 rfl ?_
      repeat (first | refine aops_end ?_ | refine aops_p tok rfl rfl rfl rfl ?_ | refine acode_seq ?_ | refine acode_region ?_ | refine acode_block ?_)
      refine acode_loopS (ι := Nat × List Bool × Bool) (fun p => [(1, .pp (grC g)), (3, .own (some bo) n n), (4, .bool p.2.2), (5, .int .i64 j), (6, .pp (ruC r)), (7, .int .i64 p.1)]) (fun p => ⟨some bo, n * 1, bools p.2.1⟩ :: M) (fun p => r.right.length - p.1) (fun p => p.1 ≤ r.right.length ∧ p.2.1.length = n ∧ (r.right.drop p.1).foldl (reach1 g r) (p.2.1, p.2.2) = reachS g (o1, m1) r) (0, o1, m1) ⟨Nat.zero_le _, ho1, rfl⟩ ⟨rfl, rfl, rfl, rfl, rfl, rfl, trivial⟩ rfl ?_
      rintro ⟨i, o2, m2⟩ ⟨hi, ho2, hf2⟩
      simp only at hi ho2 hf2 ⊢
      by_cases hil : i < r.right.length
      · obtain ⟨s, hs⟩ : ∃ s, r.right[i]? = some s := ⟨r.right[i], List.getElem?_eq_getElem hil⟩
        have hds : r.right.drop i = s :: r.right.drop (i + 1) := by
          rw [List.drop_eq_getElem_cons hil]
          rw [List.getElem?_eq_getElem hil] at hs
          rw [Option.some.inj hs]
        have hss := hsy r hrm s (List.mem_of_getElem? hs)
        obtain ⟨x, hx⟩ : ∃ x, o2[r.left.toNat]? = some x := ⟨o2[r.left.toNat]'(by omega), List.getElem?_eq_getElem (by omega)⟩
        have hgd : o2.getD r.left.toNat false = x := by rw [List.getD_eq_getElem?_getD, hx]; rfl
        repeat' (first | refine aops_pbt tok rfl (by first | omega | decide) rfl rfl rfl ?_ | refine aops_p tok rfl rfl rfl rfl ?_ | refine acode_seq ?_ | refine acode_region ?_)
        refine aops_ixo tok rfl rfl rfl rfl hr0 (by omega) rfl rfl rfl ?_
        refine aops_ld tok 0 (y := .bool x) rfl rfl rfl rfl (by rw [headed_eq]; exact bools_get hx) rfl rfl rfl ?_
        cases x with
        | false =>
          rw [reach1_skip _ _ hgd] at hf2
          rw [← hf2] at hfold
          repeat' (first | refine aops_end ?_ | refine aops_p tok rfl rfl rfl rfl ?_ | refine acode_if rfl ?_)
          refine acode_exit ?_
          repeat (first | refine exit_then ?_ | refine exit_here ?_ | refine then_n ?_ | refine block_n ?_)
          repeat (first | refine aops_end ?_ | refine aops_a tok rfl (by omega) (by omega) rfl rfl rfl ?_ | refine aops_p tok rfl rfl rfl rfl ?_ | refine acode_region ?_)
          exact ⟨(j + 1, o2, m2), ⟨by simp; omega, ho2, hfold⟩, by simp; omega, ⟨rfl, rfl, rfl, rfl, trivial⟩, rfl⟩
        | true =>
          rw [hds, List.foldl_cons] at hf2
          repeat' (first | refine aops_end ?_ | refine aops_p tok rfl rfl rfl rfl ?_ | refine acode_it rfl ?_ | refine acode_seq ?_ | refine acode_region ?_ | refine acode_block ?_ | refine acode_skip ?_ | refine then_n ?_)
          refine aops_ix tok [A.int .i64 s] rfl rfl rfl rfl (by omega) (by omega) (by simp) (ints_at (j := i) (by simpa using hs)) rfl rfl rfl ?_
          by_cases hs0 : 0 ≤ s
          · have hname : isName g s := hss.resolve_left (fun h1 => by unfold isKind at h1; omega)
            obtain ⟨n0, n1⟩ := id hname
            obtain ⟨z, hz⟩ : ∃ z, o2[s.toNat]? = some z := ⟨o2[s.toNat]'(by omega), List.getElem?_eq_getElem (by omega)⟩
            have hzd : o2.getD s.toNat false = z := by rw [List.getD_eq_getElem?_getD, hz]; rfl
            repeat' (first | refine aops_pbt tok rfl (by first | omega | decide) rfl rfl rfl ?_ | refine aops_p tok rfl rfl rfl rfl ?_)
            refine aops_ix tok [A.int .i64 s] rfl rfl rfl rfl (by omega) (by omega) (by simp) (ints_at (j := i) (by simpa using hs)) rfl rfl rfl ?_
            repeat (refine aops_p tok rfl rfl rfl rfl ?_)
            refine aops_ixo tok rfl rfl rfl rfl n0 (by omega) rfl rfl rfl ?_
            refine aops_ld tok 0 (y := .bool z) rfl rfl rfl rfl (by rw [headed_eq]; exact bools_get hz) rfl rfl rfl ?_
            cases z with
            | true =>
              have hst' : reach1 g r (o2, m2) s = (o2, m2) := by unfold reach1; rw [if_neg (by simp only [hzd]; simp)]
              rw [hst'] at hf2
              repeat' (first | refine aops_end ?_ | refine aops_a tok rfl (by omega) (by omega) rfl rfl rfl ?_ | refine aops_p tok rfl rfl rfl rfl ?_ | refine acode_if rfl ?_ | refine acode_region ?_ | refine acode_skip ?_ | refine then_n ?_ | refine block_n ?_)
              exact ⟨(i + 1, o2, m2), ⟨by simp; omega, ho2, hf2⟩, by simp; omega, ⟨rfl, rfl, rfl, rfl, rfl, rfl, trivial⟩, rfl⟩
            | false =>
              have hst' : reach1 g r (o2, m2) s = (o2.set s.toNat true, true) := by unfold reach1; rw [if_pos ⟨hgd, hname, hzd⟩]
              rw [hst'] at hf2
              repeat' (first | refine aops_end ?_ | refine aops_p tok rfl rfl rfl rfl ?_ | refine acode_it rfl ?_ | refine acode_seq ?_ | refine acode_region ?_)
              refine aops_ix tok [A.int .i64 s] rfl rfl rfl rfl (by omega) (by omega) (by simp) (ints_at (j := i) (by simpa using hs)) rfl rfl rfl ?_
              repeat (refine aops_p tok rfl rfl rfl rfl ?_)
              refine aops_ixo tok rfl rfl rfl rfl n0 (by omega) rfl rfl rfl ?_
              refine aops_sto tok (bools (o2.set s.toNat true)) rfl rfl rfl rfl rfl (by rw [bools_len, ho2]; show s.toNat * 1 + 1 ≤ _; omega) (bools_set (by omega) true) rfl rfl ?_
              repeat (first | refine aops_end ?_ | refine aops_endb ?_ | refine aops_a tok rfl (by omega) (by omega) rfl rfl rfl ?_ | refine aops_p tok rfl rfl rfl rfl ?_ | refine acode_region ?_ | refine then_n ?_)
              exact ⟨(i + 1, o2.set s.toNat true, true), ⟨by simp; omega, by simp [ho2], hf2⟩, by simp; omega, ⟨rfl, rfl, rfl, rfl, rfl, rfl, trivial⟩, rfl⟩
          · have hst' : reach1 g r (o2, m2) s = (o2, m2) := by unfold reach1; rw [if_neg (fun h => hs0 (by have := h.2.1; unfold isName at this; omega))]
            rw [hst'] at hf2
            repeat' (first | refine aops_end ?_ | refine aops_o rfl rfl rfl ?_ | refine aops_a tok rfl (by omega) (by omega) rfl rfl rfl ?_ | refine aops_pbf tok rfl (by first | omega | decide) rfl rfl rfl ?_ | refine aops_p tok rfl rfl rfl rfl ?_ | refine acode_if rfl ?_ | refine acode_region ?_ | refine acode_skip ?_ | refine then_n ?_ | refine block_n ?_)
            exact ⟨(i + 1, o2, m2), ⟨by simp; omega, ho2, hf2⟩, by simp; omega, ⟨rfl, rfl, rfl, rfl, rfl, rfl, trivial⟩, rfl⟩
      · have hge : i = r.right.length := by omega
        subst hge
        rw [List.drop_length] at hf2
        simp only [List.foldl_nil] at hf2
        rw [← hf2] at hfold
        repeat' (first | refine aops_end ?_ | refine aops_o rfl rfl rfl ?_ | refine aops_pbf tok rfl (by first | omega | decide) rfl rfl rfl ?_ | refine aops_p tok rfl rfl rfl rfl ?_ | refine acode_if rfl ?_ | refine acode_seq ?_ | refine acode_region ?_)
        refine acode_exit ?_
        repeat (first | refine exit_then ?_ | refine exit_here ?_ | refine then_n ?_ | refine block_n ?_)
        repeat (first | refine aops_end ?_ | refine aops_a tok rfl (by omega) (by omega) rfl rfl rfl ?_ | refine aops_p tok rfl rfl rfl rfl ?_ | refine acode_region ?_)
        exact ⟨(j + 1, o2, m2), ⟨by simp; omega, ho2, hfold⟩, by simp; omega, ⟨rfl, rfl, rfl, rfl, trivial⟩, rfl⟩
    · have hge : j = g.rules.length := by omega
      subst hge
      rw [List.drop_length] at hfold
      simp only [List.foldl_nil] at hfold
      refine acode_exit ?_
      repeat (first | refine exit_then ?_ | refine exit_here ?_ | refine then_n ?_ | refine block_n ?_)
      skip
      rw [← hfold] at hI hR2
      simp only at hI hR2
      refine ⟨(q', o1, m1), ⟨ho1, fun h => ?_, fun h => ?_⟩, ?_, ⟨rfl, rfl, rfl, trivial⟩, rfl⟩
      · simp only at h
        rw [if_pos h] at hI
        refine ⟨hI, ?_⟩
        rcases hR2 h with h3 | h3
        · cases h3
        · simp only; omega
      · simp only at h
        rw [h, if_neg (by simp)] at hI
        exact hI
      · simp only
        cases m1 <;> simp
end Go.Proofs.Ytbnhmioijeagiaa.Ab
/- The statement ChooseBest: the law's walk. No condition. -/
set_option linter.unusedVariables false
set_option linter.unusedSimpArgs false
namespace Go.Proofs.Ytbnhmioijeagiaa.Ab
attribute [local irreducible] thenA inBlockA ACode AOps put IntKind.wrap

theorem fits_h8 {g : Gr} {f : Fo} (hr : FoRng f) (h : FitsP g f) : ∀ i, ∀ a ∈ altsOf f i, a.kids.length ≤ 1000 ∧ ∀ k ∈ a.kids, rng k := fun i a ha => by
  obtain ⟨s, hof⟩ := whole_of h.2.2 ha
  obtain ⟨_, h2, h3, h4⟩ := of_filt hof
  have hm : ruleAt g a.rule ∈ g.rules := List.mem_of_getElem? (ruleAt_at h3 h4)
  have := ((form_ok2 h.1).2 _ hm).2.1
  refine ⟨by omega, ?_⟩
  by_cases hi : i < f.nodes.length
  · obtain ⟨nd, hnd, hndm, hal⟩ := nodes_at hi
    exact hr nd hndm a (by rw [← hal]; exact ha)
  · unfold altsOf at ha
    rw [List.getElem?_eq_none (by omega)] at ha
    cases ha
theorem vwNo (M : List Ob) : Vw M noP (trA ⟨0, 0, []⟩) := .agg (.cons (.refl _) (.cons (.refl _) (.cons .nils .nil)))
theorem sameNo (M : List Ob) : ACalls Try.prog 19 [noP, noP] M (fun r M' => r = .bool true ∧ M' = M) := by
  have h := sameT_calls ⟨0, 0, []⟩ (by simp [trSize, trsSize]) ⟨0, 0, []⟩ (by simp [trSize, trsSize]) M
  rw [eqT_self] at h
  exact acalls_arg (.cons (vwNo _) (.cons (vwNo _) .nil)) h
/-- Both answer the same. -/
theorem both_best {g : Gr} {f : Fo} (hg : GrOk g) (hf : FoOk f) (hr : FoRng f) (hn : f.nodes.length ≤ 60) (hb : FForm f → big f f.root.toNat ≤ 2000) : ∃ (t : A) (e : Int), (∀ M, ACalls Try.prog 18 [grA g, foA f] M (fun x M' => x = .tup [t, .int .i64 e] ∧ M' = M)) ∧ (∀ M, ACalls Try.prog 13 [grA g, foA f] M (fun x M' => x = .tup [t, .int .i64 e] ∧ M' = M)) ∧ (∃ a b x, t = .agg [.int .i64 a, .int .i64 b, x] ∧ (x = .nils ∨ ∃ n cs, x = .psl n cs)) ∧ (∀ M, ACalls Try.prog 19 [t, t] M (fun r M' => r = .bool true ∧ M' = M)) := by
  by_cases hfit : FitsP g f
  · have h8 := fits_h8 hr hfit
    obtain ⟨h0, hF, hwh⟩ := id hfit
    have hbig := hb hF
    have h1 := chbest_calls hg h0 hf hF hwh h8 (rows_ok (fun r => by have := dyn_ok h0 r; unfold rng; omega) hwh (fun i a ha => (h8 i a ha).1) hF (by omega))
    have h2 := rbest_calls hg hf hfit h8 (by omega)
    have hT : (bestF (fun _ => true) (pkT g f f.root.toNat)).isTk = false → trSize (treeP (bestF (fun _ => true) (pkT g f f.root.toNat))) ≤ 1000000 := fun h => by
      have hw := hF.2 _ (show f.root.toNat < f.nodes.length by have := hF.1; omega)
      have hp := pick_all (fun r => by have := dyn_ok h0 r; unfold rng; omega) hwh (fun i a ha => (h8 i a ha).1) hw _ (best_in h).1 h
      have := big_tr hw (by show _ < (1099511627776 : Int); omega) _ hp.is.mem
      omega
    unfold bestR at h1 h2
    generalize bestF (fun _ => true) (pkT g f f.root.toNat) = B at *
    cases hB : B.isTk with
    | true =>
      rw [if_pos hB] at h1 h2
      exact ⟨_, _, h1, h2, ⟨_, _, _, rfl, .inl rfl⟩, sameNo⟩
    | false =>
      rw [if_neg (by simp [hB])] at h1 h2
      refine ⟨_, _, h1, h2, ⟨_, _, _, rfl, .inr ⟨_, _, rfl⟩⟩, fun M => ?_⟩
      have h := sameT_calls (treeP B) (by have := hT hB; omega) (treeP B) (by have := hT hB; omega) M
      rw [eqT_self] at h
      exact h
  · have h2 := fun M => rbest_none hg hf hfit M
    by_cases hF : FForm f
    · have h1 := fun M => chbest_bad hg hf hF (by
        by_cases h0 : (formF g).2 = 0
        · right
          cases hw : wholeB g f with
          | false => rfl
          | true => exact absurd ⟨h0, hF, hw⟩ hfit
        · exact .inl h0) M
      exact ⟨_, _, h1, h2, ⟨_, _, _, rfl, .inl rfl⟩, sameNo⟩
    · have h1 := fun M => chbest_none (g := g) hf hF M
      exact ⟨_, _, h1, h2, ⟨_, _, _, rfl, .inl rfl⟩, sameNo⟩
set_option maxHeartbeats 8000000 in
theorem chBe_main {g : Gr} {f : Fo} (hg : GrOk g) (hf : FoOk f) (hr : FoRng f) : ACalls Try.prog 5 [grA g, foA f] [] (fun x _ => x = .bool true) := by
  obtain ⟨hf1, hf2⟩ := id hf
  refine acalls_of_code 51 Try.func5 rfl rfl rfl ?_
  repeat (first | refine acode_seq ?_ | refine acode_region ?_)
  refine aops_boxf rfl rfl rfl rfl rfl rfl rfl ?_
  refine aops_boxf rfl rfl rfl rfl rfl rfl rfl ?_
  repeat (first | refine aops_end ?_ | refine aops_p tok rfl rfl rfl rfl ?_ | refine acode_seq ?_ | refine acode_region ?_)
  refine aops_callx Try.func17 rfl rfl rfl rfl (alive24_calls _) rfl rfl rfl ?_
  repeat (first | refine aops_end ?_ | refine aops_p tok rfl rfl rfl rfl ?_ | refine acode_seq ?_ | refine acode_region ?_)
  refine aops_callx Try.func11 rfl rfl rfl rfl (few_calls _) rfl rfl rfl ?_
  by_cases hfew : fewB g
  rotate_left
  · rw [decide_eq_false hfew]
    repeat' (first | refine aops_end ?_ | refine aops_o rfl rfl rfl ?_ | refine aops_p tok rfl rfl rfl rfl ?_ | refine acode_it rfl ?_ | refine acode_seq ?_ | refine acode_region ?_)
    all_goals try (exfalso; omega)
    refine acode_ret ?_
    repeat (refine ret_then ?_)
    exact ⟨_, rfl, resOf_tmp rfl⟩
  rw [decide_eq_true hfew]
  by_cases hn : f.nodes.length ≤ 60
  rotate_left
  · repeat' (first | refine aops_end ?_ | refine aops_o rfl rfl rfl ?_ | refine aops_pbt tok rfl (by first | omega | decide) rfl rfl rfl ?_ | refine aops_p tok rfl rfl rfl rfl ?_ | refine acode_it rfl ?_ | refine acode_seq ?_ | refine acode_region ?_)
    all_goals try (exfalso; omega)
    refine acode_ret ?_
    repeat (refine ret_then ?_)
    exact ⟨_, rfl, resOf_tmp rfl⟩
  have hmain : ∀ b : Int, (FForm f ∧ b = big f f.root.toNat ∨ ¬ FForm f ∧ b = 0) → 0 ≤ b ∧ (b ≤ 2000 → (FForm f → big f f.root.toNat ≤ 2000)) := fun b h => by
    rcases h with ⟨hF, rfl⟩ | ⟨hF, rfl⟩
    · have := (big_is (hF.2 _ (show f.root.toNat < f.nodes.length by have := hF.1; omega))).1
      exact ⟨by omega, fun h _ => h⟩
    · exact ⟨by omega, fun _ h => absurd h hF⟩
  have hlarge : ∀ M, ACalls Try.prog 14 [foA f] M (fun r M' => ∃ b : Int, r = .int .i64 b ∧ (FForm f ∧ b = big f f.root.toNat ∨ ¬ FForm f ∧ b = 0) ∧ M' = M) := fun M =>
    (largest_calls hf M).mono fun r M' h => by
      rcases h with ⟨⟨hF, rfl⟩ | ⟨hF, rfl⟩, rfl⟩
      · exact ⟨_, rfl, .inl ⟨hF, rfl⟩, rfl⟩
      · exact ⟨_, rfl, .inr ⟨hF, rfl⟩, rfl⟩
  repeat' (first | refine aops_pbf tok rfl (by first | omega | decide) rfl rfl rfl ?_ | refine aops_p tok rfl rfl rfl rfl ?_)
  all_goals try (exfalso; omega)
  refine aops_call Try.func14 rfl rfl rfl rfl (hlarge _) rfl rfl ?_
  rintro x M' ⟨b, rfl, hb, rfl⟩
  obtain ⟨hb0, hb1⟩ := hmain b hb
  by_cases h2 : b ≤ 2000
  rotate_left
  · repeat' (first | refine aops_put rfl ?_ | refine aops_end ?_ | refine aops_pbt tok rfl (by first | omega | decide) rfl rfl rfl ?_ | refine aops_p tok rfl rfl rfl rfl ?_ | refine acode_it rfl ?_ | refine acode_seq ?_ | refine acode_region ?_)
    all_goals try (exfalso; omega)
    refine acode_ret ?_
    repeat (refine ret_then ?_)
    exact ⟨_, rfl, resOf_tmp rfl⟩
  obtain ⟨t, e, k1, k2, ⟨ta, tb, tx, rfl, hx⟩, k3⟩ := both_best hg hf hr hn (hb1 h2)
  rcases hx with rfl | ⟨n, cs, rfl⟩
  · repeat' (first | refine aops_put rfl ?_ | refine aops_end ?_ | refine aops_pbf tok rfl (by first | omega | decide) rfl rfl rfl ?_ | refine aops_p tok rfl rfl rfl rfl ?_ | refine acode_if rfl ?_ | refine acode_seq ?_ | refine acode_region ?_ | refine acode_skip ?_ | refine then_n ?_)
    all_goals try (exfalso; omega)
    refine aops_callx Try.func18 rfl rfl rfl rfl (k1 _) rfl rfl rfl ?_
    repeat (refine aops_p tok rfl rfl rfl rfl ?_)
    refine aops_alloc tok rfl rfl rfl rfl rfl rfl fun b6 => ?_
    repeat (first | refine aops_p tok rfl rfl rfl rfl ?_ | refine aops_stn tok rfl rfl rfl rfl rfl rfl rfl rfl rfl ?_)
    refine aops_pubref0 6 rfl ?_
    repeat (first | refine aops_end ?_ | refine aops_p tok rfl rfl rfl rfl ?_ | refine acode_seq ?_ | refine acode_region ?_)
    refine aops_callx Try.func13 rfl rfl rfl rfl (k2 _) rfl rfl rfl ?_
    repeat (refine aops_p tok rfl rfl rfl rfl ?_)
    refine aops_alloc tok rfl rfl rfl rfl rfl rfl fun b8 => ?_
    repeat (first | refine aops_p tok rfl rfl rfl rfl ?_ | refine aops_stn tok rfl rfl rfl rfl rfl rfl rfl rfl rfl ?_)
    refine aops_pubref0 8 rfl ?_
    repeat (first | refine aops_end ?_ | refine aops_p tok rfl rfl rfl rfl ?_ | refine acode_seq ?_ | refine acode_region ?_)
    refine aops_callx Try.func19 rfl rfl rfl rfl (k3 _) rfl rfl rfl ?_
    repeat' (refine aops_p tok rfl rfl rfl rfl ?_)
    all_goals try (exfalso; omega)
    refine aops_callx Try.func20 rfl rfl rfl rfl (num24_calls _) rfl rfl rfl ?_
    repeat' (first | refine aops_end ?_ | refine aops_pbt tok rfl (by first | omega | decide) rfl rfl rfl ?_ | refine aops_p tok rfl rfl rfl rfl ?_)
    all_goals try (exfalso; omega)
    refine acode_ret ?_
    skip
    exact ⟨_, rfl, resOf_tmp rfl⟩
  · repeat' (first | refine aops_put rfl ?_ | refine aops_end ?_ | refine aops_pbf tok rfl (by first | omega | decide) rfl rfl rfl ?_ | refine aops_p tok rfl rfl rfl rfl ?_ | refine acode_if rfl ?_ | refine acode_seq ?_ | refine acode_region ?_ | refine acode_skip ?_ | refine then_n ?_)
    all_goals try (exfalso; omega)
    refine aops_callx Try.func18 rfl rfl rfl rfl (k1 _) rfl rfl rfl ?_
    repeat (refine aops_p tok rfl rfl rfl rfl ?_)
    refine aops_alloc tok rfl rfl rfl rfl rfl rfl fun b6 => ?_
    repeat (first | refine aops_p tok rfl rfl rfl rfl ?_ | refine aops_stn tok rfl rfl rfl rfl rfl rfl rfl rfl rfl ?_)
    refine aops_pubref0 6 rfl ?_
    repeat (first | refine aops_end ?_ | refine aops_p tok rfl rfl rfl rfl ?_ | refine acode_seq ?_ | refine acode_region ?_)
    refine aops_callx Try.func13 rfl rfl rfl rfl (k2 _) rfl rfl rfl ?_
    repeat (refine aops_p tok rfl rfl rfl rfl ?_)
    refine aops_alloc tok rfl rfl rfl rfl rfl rfl fun b8 => ?_
    repeat (first | refine aops_p tok rfl rfl rfl rfl ?_ | refine aops_stn tok rfl rfl rfl rfl rfl rfl rfl rfl rfl ?_)
    refine aops_pubref0 8 rfl ?_
    repeat (first | refine aops_end ?_ | refine aops_p tok rfl rfl rfl rfl ?_ | refine acode_seq ?_ | refine acode_region ?_)
    refine aops_callx Try.func19 rfl rfl rfl rfl (k3 _) rfl rfl rfl ?_
    repeat' (refine aops_p tok rfl rfl rfl rfl ?_)
    all_goals try (exfalso; omega)
    refine aops_callx Try.func20 rfl rfl rfl rfl (num24_calls _) rfl rfl rfl ?_
    repeat' (first | refine aops_end ?_ | refine aops_pbt tok rfl (by first | omega | decide) rfl rfl rfl ?_ | refine aops_p tok rfl rfl rfl rfl ?_)
    all_goals try (exfalso; omega)
    refine acode_ret ?_
    skip
    exact ⟨_, rfl, resOf_tmp rfl⟩
theorem chooseBest_calls (zs : List A) (h : GoodL T [26, 33] zs) : ACalls Try.prog 5 zs [] (fun r _ => r = .bool true) := by
  obtain ⟨_, _, rfl, ⟨f1, g1⟩, _, _, rfl, ⟨f2, g2⟩, rfl⟩ := h
  obtain ⟨g, rfl, hg⟩ := good_gr g1
  obtain ⟨f, rfl, hf, hr⟩ := good_foR g2
  exact chBe_main hg hf hr
end Go.Proofs.Ytbnhmioijeagiaa.Ab
